/- The engine and the library,part 6 of 12: what the proofs of this seat need of them. -/
import Derived.Test.YthoinfdfenkgnaaGreatPk5
set_option linter.unnecessarySimpa false
set_option linter.unusedSimpArgs false
set_option linter.unusedVariables false
set_option linter.defProp false
set_option maxRecDepth 10000
set_option maxHeartbeats 4000000
namespace Go.Eng
open Go
open Go.RowKit (Below)
def eO:AV→SV
 | .ref cs=>.rp cs
 | a=>.dat a none
def slotsOf:Nat→List AV→List (Nat × SV)
 | _,[]=>[]
 | i,a :: r=>(i,eO a) :: slotsOf (i + 1) r
def Bd (args:List AV):S:=⟨slotsOf 0 args,[],[],4⟩
def gO:Nat→Nat→List (Option AV)→List (Nat × SV)
 | _,_,[]=>[]
 | i,k,some a :: r=>(i,eO a) :: gO (i + 1) k r
 | i,k,none :: r=>(i,.ptr k 0) :: gO (i + 1) (k + 1) r
def lM:Nat→List (List AV)→List (Nat × bA)
 | _,[]=>[]
 | k,cs :: css=>(k,⟨cs,[]⟩) :: lM (k + 1) css
def yQ (css:List (List AV)) (args:List (Option AV)):S:=⟨gO 0 0 args,lM 0 css,[],4⟩
def gm (l:List (Nat × bA)):Nat→List (List AV)→Prop
 | _,[]=>True
 | k,cs :: css=>ah (bF k l) (fun x=>x.cells=cs)∧gm l (k + 1) css
def zS (s:S):eA→Option (AV × Option Nat)
 | .tmp t=>match lk t s.slots with
  | some (.dat a q)=>some (a,q)
  | _=>none
 | .cell t sz=>match lk t s.slots with
  | some (.ptr b off)=>match bF b s.boxes with
   | some bx=>match aU bx.cells off sz with
    | some a=>some (a,match sz with | none=>cw off bx.tags | some _=>none)
    | none=>none
   | none=>none
  | _=>none
def iV (s:S):List eA→Option (List AV)
 | []=>some []
 | r :: rs=>match zS s r,iV s rs with
  | some p,some as=>some (p.1 :: as)
  | _,_=>none
def ck (s:S):List eA→Option (AV × Option Nat)
 | [r]=>zS s r
 | rs=>(iV s rs).map fun as=>(.oS as,none)
def xL (fr:Option Nat) (q:Option Nat) (live:List (Nat × Nat)):Prop :=
 match fr with
 | none=>True
 | some e=>match q with
  | some q'=>cw q' live=some e
  | none=>False
def fin (res:List eA) (r:AV) (fr:Option Nat):Exit→S→Prop
 | .normal,s=>ah (ck s res) fun p=>p.1=r∧xL fr p.2 s.live
 | .ret,s=>ah (ck s res) fun p=>p.1=r∧xL fr p.2 s.live
 | _,_=>False
def zT (res:List eA) (r:AV) (fr:Option Nat) (css:List (List AV)):Exit→S→Prop
 | .normal,s=>ah (ck s res) fun p=>p.1=r∧xL fr p.2 s.live∧gm s.boxes 0 css
 | .ret,s=>ah (ck s res) fun p=>p.1=r∧xL fr p.2 s.live∧gm s.boxes 0 css
 | _,_=>False
theorem oq {β:Nat→Nat} {τ:Nat→Value} {w:World} {π:Nat→Nat→Prop} {U:Nat→Prop} {a:AV} {x:Value} (h:DV w π a x):RV β τ w π (eO a) x∧(eO a).dW U:=by
 cases a with
 | ref cs=>exact ⟨RV.ref.2 h,trivial⟩
 | _=>exact ⟨⟨h,fun t ht=>by cases ht⟩,trivial⟩
theorem rJ:∀ {args:List AV} {i t:Nat} {v:SV},lk t (slotsOf i args)=some v→∃ a,i≤t∧args[t - i]? = some a∧v=eO a
 | [],i,t,v,h=>by cases h
 | a :: r,i,t,v,h=>by
  simp only [slotsOf,lk,iC] at h
  split at h
  ·rename_i e; cases h; subst e; exact ⟨a,Nat.le_refl _,by simp,rfl⟩
  ·obtain ⟨b,h1,h2,h3⟩:=rJ h
   refine ⟨b,by omega,?_,h3⟩
   rw [show t - i=(t - (i + 1)) + 1 by omega]
   simpa using h2
section
variable {P:Program} {nt:Nat} {n0:gK} {w0:World} {π0:Nat→Nat→Prop} {U:Nat→Prop} {s:S} {a:Act} {w:World} {β:Nat→Nat} {τ:Nat→Value} {π:Nat→Nat→Prop}
def ku (tmps:Array Value):ResultVar→Sem Value
 | .tmp t=>pure (tmps.getD t undef)
 | .cell a t=>do loadVar t (← asAddr (tmps.getD a undef))
theorem yR (R:Rel P nt n0 w0 π0 U s a w β τ π) {rv:ResultVar} {cr:eA} (hc:zE P rv=some cr) {av:AV} {q:Option Nat} (h:zS s cr=some (av,q)) :
  ∃ v,(ku a.tmps rv).run P w=.ok v w∧DV w π av v∧(∀ t,q=some t→v=τ t):=by
 cases rv with
 | tmp t =>
  cases hc
  simp only [zS] at h
  split at h<;>try (cases h; done)
  rename_i a' q' hl
  cases h
  obtain ⟨⟨x,hx,hr⟩,_⟩:=R.slots t _ hl
  exact ⟨x,by simp [ku,hx],hr.1,hr.2⟩
 | cell ad t =>
  simp only [zE,Option.map_eq_some_iff] at hc
  obtain ⟨sz,hsz,rfl⟩:=hc
  simp only [zS] at h
  split at h<;>try (cases h; done)
  rename_i b off hl
  split at h<;>try (cases h; done)
  rename_i bx hb
  split at h<;>try (cases h; done)
  rename_i a' hp
  cases h
  have hop:aV (Pure P) 0 (.ld (.t ad) sz) (fun v s'=>v=.dat av (match (generalizing:=false) sz with | none=>cw off bx.tags | some _=>none)) s:=by
   simp only [aV,bw,hl,aq,hb,hp]
   cases sz<;>rfl
  obtain ⟨v,y,hr,hrv,_,hK⟩:=R.load (X:=.tmp ad) rfl hsz hop
  subst hK
  obtain ⟨⟨x,hx,hrx⟩,_⟩:=R.slots ad _ hl
  have hrx':x=.pointer (some ⟨β b,off,none⟩):=hrx
  have he:a.eval (.tmp ad)=x:=by simp [Act.eval,hx]
  refine ⟨y,?_,hrv.1,hrv.2⟩
  rw [he,hrx'] at hr
  simp [Instr.loadAt,Instr.sureAddr] at hr
  simp [ku,hx,hrx',asAddr,hr]
theorem wI (R:Rel P nt n0 w0 π0 U s a w β τ π):∀ {rvs:List ResultVar} {crs:List eA},rvs.mapM (zE P)=some crs→∀ {as:List AV},iV s crs=some as →
  ∃ vs,(rvs.mapM (ku a.tmps)).run P w=.ok vs w∧fy w π as vs
 | [],crs,hc,as,h=>by
  simp at hc; subst hc
  simp [iV] at h; subst h
  exact ⟨[],by simp,.nil _ _⟩
 | rv :: rvs,crs,hc,as,h=>by
  simp only [List.mapM_cons,Option.bind_eq_bind,Option.bind_eq_some_iff,Option.pure_def,Option.some.injEq] at hc
  obtain ⟨cr,hcr,crs',hcrs,rfl⟩:=hc
  simp only [iV] at h
  split at h<;>try (cases h; done)
  rename_i p as' h1 h2
  cases h
  obtain ⟨v,hv,hd,_⟩:=yR R hcr (av:=p.1) (q:=p.2) h1
  obtain ⟨vs,hvs,hds⟩:=wI R hcrs h2
  exact ⟨v :: vs,by simp [List.mapM_cons,hv,hvs],.cons hd hds⟩
theorem xM (fn:Func) (tmps:Array Value):results fn tmps=(do let vs ← fn.results.mapM (ku tmps); pure (if h:vs.size=1 then vs[0] else .tuple vs)):=by
 unfold results
 congr 1
theorem rK (R:Rel P nt n0 w0 π0 U s a w β τ π) {fn:Func} {crs:List eA} (hc:fn.results.toList.mapM (zE P)=some crs) {av:AV} {q:Option Nat} (h:ck s crs=some (av,q)) :
  ∃ v,(results fn a.tmps).run P w=.ok v w∧DV w π av v∧(∀ t,q=some t→v=τ t):=by
 have go:∀ vs:List Value,(fn.results.toList.mapM (ku a.tmps)).run P w=.ok vs w→(results fn a.tmps).run P w=.ok (if h:vs.length=1 then vs[0] else .tuple vs.toArray) w:=by
  intro vs hvs
  have:(fn.results.mapM (ku a.tmps)).run P w=.ok vs.toArray w:=by
   have e:fn.results=fn.results.toList.toArray:=by simp
   rw [e,List.mapM_toArray,Sem.run_map,hvs]; rfl
  rw [xM,Sem.run_bind,this]
  simp
 have many:(∀ r,crs≠[r])→ck s crs=(iV s crs).map fun as=>(.oS as,none):=by
  intro hne
  cases crs with
  | nil=>rfl
  | cons r rs =>
   cases rs with
   | nil=>exact absurd rfl (hne r)
   | cons r' rs=>rfl
 by_cases hone:∃ r,crs=[r]
 ·obtain ⟨r,rfl⟩:=hone
  cases hrl:fn.results.toList with
  | nil=>rw [hrl] at hc; simp at hc
  | cons rv rvs =>
   rw [hrl] at hc
   simp only [List.mapM_cons,Option.bind_eq_bind,Option.bind_eq_some_iff,Option.pure_def,Option.some.injEq] at hc
   obtain ⟨cr,hcr,crs',hcrs,he⟩:=hc
   cases he
   have hnil:rvs=[]:=by
    cases rvs with
    | nil=>rfl
    | cons x xs =>
     simp only [List.mapM_cons,Option.bind_eq_bind,Option.bind_eq_some_iff,Option.pure_def,Option.some.injEq] at hcrs
     obtain ⟨_,_,_,_,h⟩:=hcrs
     cases h
   subst hnil
   obtain ⟨v,hv,hd,hq⟩:=yR R hcr h
   refine ⟨v,?_,hd,hq⟩
   rw [go [v] (by rw [hrl]; simp [hv])]
   simp
 ·have hne:∀ r,crs≠[r]:=fun r e=>hone ⟨r,e⟩
  rw [many hne] at h
  simp only [Option.map_eq_some_iff,Prod.mk.injEq] at h
  obtain ⟨as,has,rfl,rfl⟩:=h
  obtain ⟨vs,hvs,hds⟩:=wI R hc has
  have hl1:crs.length=vs.length:=by
   have:∀ {crs:List eA} {as:List AV},iV s crs=some as→crs.length=as.length:=by
    intro crs
    induction crs with
    | nil=>intro as h; simp [iV] at h; subst h; rfl
    | cons c crs ih =>
     intro as h
     simp only [iV] at h
     split at h<;>try (cases h; done)
     rename_i p as' h1 h2
     cases h
     simp [ih h2]
   rw [this has,hds.1]
  refine ⟨.tuple vs.toArray,?_,.oS as vs.toArray (by simpa using hds.1) (fun i a v ha hv=>hds.2 i a v ha (by simpa using hv)),fun t ht=>by cases ht⟩
  rw [go vs hvs]
  have:¬ vs.length=1:=by
   intro e
   rw [← hl1] at e
   match crs,e,hne with
   | [r],_,hne=>exact hne r rfl
  rw [dif_neg this]
end
section
variable {P:Program}
theorem wJ {f:FuncId} {cf:eV} {mo:Bool} (hcf:tF mo P f=some cf):∃ (fn:Func) (c:Code) (cc:aK),P.funcs[f]? = some fn∧fn.body=some c∧fn.results.toList.mapM (zE P)=some cf.res∧bK mo P c=some cc∧cf.code=cc∧cf.nt=fn.ntmps∧cc.fits fn.ntmps=true∧b8 P f=true:=by
 unfold tF at hcf
 split at hcf<;>try (cases hcf; done)
 rename_i fn hfn
 split at hcf<;>try (cases hcf; done)
 rename_i c rs hbody hrs
 split at hcf<;>try (cases hcf; done)
 rename_i cc hcc
 split at hcf<;>try (cases hcf; done)
 rename_i hfit
 cases hcf
 simp only [Bool.and_eq_true] at hfit
 exact ⟨fn,c,cc,hfn,hbody,hrs,hcc,rfl,rfl,hfit.1,hfit.2⟩
theorem yS {c:Code} {Q:Exit→Act→World→Prop} {a:Act} {w:World} (h:c.wpIn (FW none) 0 P Q a w):c.wpIn Fence.wide 0 P Q a w:=h
theorem fU {nt:Nat} {n0:gK} {w:World} {π:Nat→Nat→Prop} {s:S} {a:Act} {fn:Func} {R:Ending→World→Prop}
  (main:∀ w',cD P nt n0 w π s a w'→∃ v,(results fn a.tmps).run P w'=.ok v w'∧R (.returned v) w') :
  ∀ (Ds:List Nat) (w':World),Ds.Nodup→(∀ D∈Ds,n0.n≤D∧w'.heap[D]? = some (.deferred (some [])))→cD P nt n0 w π s a w'→w.heap.size≤n0.n→LeavesInM Fence.wide 0 P fn a.tmps R (Ds.map FB) .returning w'
 | [],w',_,_,R',_=>main w' R'
 | D :: Ds,w',hnd,hD,R',hn=>by
  obtain ⟨h1,h2⟩:=hD D List.mem_cons_self
  simp only [List.nodup_cons] at hnd
  refine ⟨by simp,.inl ⟨D,_,rfl,run_takeDeferred h2,?_⟩⟩
  refine fU main Ds _ hnd.2 (fun D' hD'=>?_) ((R'.putObj h2 rfl rfl).IT (R'.below.putObj (Nat.le_trans hn h1) h1 _) R'.dm (fun b o hb=>(gF h2 rfl rfl _).trans (R'.kept b o hb))) hn
  obtain ⟨g1,g2⟩:=hD D' (List.mem_cons_of_mem _ hD')
  exact ⟨g1,(World.putObj_heap_other (fun e=>hnd.1 (by rw [← e]; exact hD'))).trans g2⟩
theorem aD (hm:P.follows .mixedOrders=true) {f:FuncId} {cf:eV} {mo:Bool} (hcf:tF mo P f=some cf) {args:List AV} {r:AV} {fr:Option Nat} (hn:args.length≤cf.nt)
  (h:aw (Pure P) cf.code (fin cf.res r fr) (Bd args)):yE P f args r fr:=by
 obtain ⟨fn,c,cc,hfn,hbody,hrs,hcc,ec,en,hfit,hcall⟩:=wJ hcf
 rw [ec] at h
 rw [en] at hn
 refine ⟨hcall,fun w π vs hprot hd=>?_⟩
 have hlen:=hd.1
 have R:cD P fn.ntmps (gK.top w) w π (Bd args) { tmps:=vs.toArray++Array.replicate (fn.ntmps - vs.toArray.size) undef,defers:=[] } w:=by
  refine ⟨Nat.le_refl 4,id,fun _=>undef,π,fun n=>n < 4,fun _ h=>h,?_⟩
  refine { size:=?_,slots:=?_,boxes:=fun b x h=>(by cases h),inj:=fun b b' x x' h=>(by cases h),live:=fun q e h=>(by cases h),bl:=fun q q' e e' B h=>(by cases h),bV:=fun q e b x h=>(by cases h),below:=.refl _ _,dm:=Nat.le_refl _,dn:=hprot,dA:=fun _ _ h=>h,bW:=fun _ _ h=>.inl h,kn:=fun _ _=>rfl,iu:=fun _ h=>h,kept:=fun _ _ _=>rfl }
  ·simp; omega
  ·intro t v hv
   obtain ⟨av,_,hav,rfl⟩:=rJ hv
   simp only [Nat.sub_zero] at hav
   obtain ⟨x,hx,hdx⟩:=hd.get hav
   refine ⟨⟨x,?_,(oq (U:=fun n=>n < 4) hdx).1⟩,(oq (β:=id) (τ:=fun _=>undef) hdx).2⟩
   have htl:t < vs.length:=(List.getElem?_eq_some_iff.1 hx).1
   simp [Array.getElem?_append,htl]
   simpa using (List.getElem?_eq_some_iff.1 hx).2
 refine callsIn_wide.1 (callsIn_of_wp_marks (n:=0) (F:=Fence.wide) hfn hbody trivial (wpIn_mono (yS (wH hm c cc hcc hfit _ (fun _=>False) ⟨#[],[]⟩ (fun _ h=>h.elim) none 0 w _ _ _ _ ⟨R,fun l h=>by (cases h),⟨[],rfl,.nil,by simp⟩,fun _ h=>h.elim⟩ h)) ?_))
 have main:∀ (s:S) (a':Act) (w':World),(ah (ck s cf.res) fun p=>p.1=r∧xL fr p.2 s.live)→cD P fn.ntmps (gK.top w) w π s a' w' →
   ∃ v,(results fn a'.tmps).run P w'=.ok v w'∧∃ u π',Ending.returned v=.returned u∧Below w.heap.size w w'∧(∀ b o,π b o→π' b o)∧(∀ b o,π' b o→π b o∨w.heap.size≤b) ∧
    (∀ b o,π' b o→b < w'.heap.size)∧DV w' π' r u∧∀ t,fr=some t→v9 P w' π' (fun B=>w.heap.size≤B) t u:=by
  rintro s a' w' hq ⟨_,β,τ,π',U,hU,R'⟩
  obtain ⟨⟨av,q⟩,hp,hav,hfr⟩:=af hq
  simp only at hav hfr
  subst hav
  obtain ⟨v,hv,hdv,htq⟩:=rK R' hrs hp
  refine ⟨v,hv,v,π',rfl,R'.below.below (fun _ h=>h),R'.dA,fun b o h=>(R'.bW b o h).imp id (fun h=>h.elim id (fun h=>h.elim)),R'.dn,hdv,fun t ht=>?_⟩
  subst ht
  simp only [xL] at hfr
  cases q with
  | none=>exact hfr.elim
  | some q =>
   rw [htq q rfl]
   exact (R'.live q t hfr).2.weaken (fun B h=>h.elim id (fun h=>h.elim))
 rintro e a' w' ⟨s,hq,R',_,⟨Ds,hm1,hm2,hm3⟩,_⟩
 have hm1:a'.defers=Ds.map FB:=by simpa using hm1
 cases e with
 | normal=>show LeavesInM _ _ _ _ _ _ a'.defers _ _; rw [hm1]; exact fU (main s a' · hq) Ds w' hm2 hm3 R' (Nat.le_refl _)
 | ret=>show LeavesInM _ _ _ _ _ _ a'.defers _ _; rw [hm1]; exact fU (main s a' · hq) Ds w' hm2 hm3 R' (Nat.le_refl _)
 | _=>exact hq.elim
theorem pg {w:World} {π:Nat→Nat→Prop}:∀ {args:List (Option AV)} {Bs:List Nat} {vs:List Value},dz w π args Bs vs→∀ {i k t:Nat} {v:SV},lk t (gO i k args)=some v →
  ∃ x,i≤t∧vs[t - i]? = some x∧((∃ a,v=eO a∧DV w π a x)∨∃ j B,v=.ptr (k + j) 0∧Bs[j]? = some B∧x=.pointer (some ⟨B,0,none⟩))
 | [],Bs,vs,hr,i,k,t,v,h=>by cases h
 | some a :: args,Bs,[],hr,i,k,t,v,h=>by cases Bs<;>exact hr.elim
 | some a :: args,Bs,x :: vs,hr,i,k,t,v,h=>by
  have hr':DV w π a x∧dz w π args Bs vs:=by cases Bs<;>exact hr
  simp only [gO,lk,iC] at h
  split at h
  ·rename_i e; cases h; subst e
   exact ⟨x,Nat.le_refl _,by simp,.inl ⟨a,rfl,hr'.1⟩⟩
  ·obtain ⟨y,h1,h2,h3⟩:=pg hr'.2 h
   refine ⟨y,by omega,?_,h3⟩
   rw [show t - i=(t - (i + 1)) + 1 by omega]; simpa using h2
 | none :: args,[],vs,hr,i,k,t,v,h=>by cases vs<;>exact hr.elim
 | none :: args,B :: Bs,[],hr,i,k,t,v,h=>hr.elim
 | none :: args,B :: Bs,x :: vs,hr,i,k,t,v,h=>by
  obtain ⟨hx,hr'⟩:=hr
  simp only [gO,lk,iC] at h
  split at h
  ·rename_i e; cases h; subst e
   exact ⟨x,Nat.le_refl _,by simp,.inr ⟨0,B,rfl,rfl,hx⟩⟩
  ·obtain ⟨y,h1,h2,h3⟩:=pg hr' h
   refine ⟨y,by omega,?_,?_⟩
   ·rw [show t - i=(t - (i + 1)) + 1 by omega]; simpa using h2
   ·rcases h3 with h3 | ⟨j,B',e,hB,hx'⟩
    ·exact .inl h3
    ·exact .inr ⟨j + 1,B',by rw [e]; congr 1; omega,by simpa using hB,hx'⟩
theorem rL:∀ {css:List (List AV)} {k b:Nat} {x:bA},bF b (lM k css)=some x→∃ cs,k≤b∧css[b - k]? = some cs∧x=⟨cs,[]⟩
 | [],k,b,x,h=>by cases h
 | cs :: css,k,b,x,h=>by
  simp only [lM,bF,iC] at h
  split at h
  ·rename_i e; cases h; subst e; exact ⟨cs,Nat.le_refl _,by simp,rfl⟩
  ·obtain ⟨cs',h1,h2,h3⟩:=rL h
   refine ⟨cs',by omega,?_,h3⟩
   rw [show b - k=(b - (k + 1)) + 1 by omega]; simpa using h2
theorem pn {w:World} {π:Nat→Nat→Prop}:∀ {args:List (Option AV)} {Bs:List Nat} {vs:List Value},dz w π args Bs vs→args.length=vs.length
 | [],Bs,vs,h=>by cases Bs<;>cases vs<;>first | rfl | exact h.elim
 | some a :: args,Bs,[],h=>by cases Bs<;>exact h.elim
 | some a :: args,Bs,v :: vs,h=>by
  have h':DV w π a v∧dz w π args Bs vs:=by cases Bs<;>exact h
  simp [pn h'.2]
 | none :: args,[],vs,h=>by cases vs<;>exact h.elim
 | none :: args,B :: Bs,[],h=>h.elim
 | none :: args,B :: Bs,v :: vs,h=>by simp [pn h.2]
theorem uj:∀ {l:List Nat},l.Nodup→∀ (i j:Nat) (x:Nat),l[i]? = some x→l[j]? = some x→i=j
 | [],_,i,j,x,h,_=>by simp at h
 | a :: l,hn,i,j,x,hi,hj=>by
  rw [List.nodup_cons] at hn
  cases i with
  | zero=>cases j with
   | zero=>rfl
   | succ j=>simp at hi hj; subst hi; exact absurd (List.mem_of_getElem? hj) hn.1
  | succ i=>cases j with
   | zero=>simp at hi hj; subst hj; exact absurd (List.mem_of_getElem? hi) hn.1
   | succ j=>rw [uj hn.2 i j x (by simpa using hi) (by simpa using hj)]
theorem rM {l:List (Nat × bA)} {w:World} {π:Nat→Nat→Prop} {β:Nat→Nat} (hl:∀ b x,bF b l=some x→lE (fun _=>undef) w π (β b) ⟨x.cells,[]⟩) :
  ∀ {css:List (List AV)} {Bs:List Nat} {k:Nat},css.length=Bs.length→(∀ j B,Bs[j]? = some B→β (k + j)=B)→gm l k css→b7 w π css Bs
 | [],[],k,_,_,_=>trivial
 | [],B :: Bs,k,h,_,_=>by simp at h
 | cs :: css,[],k,h,_,_=>by simp at h
 | cs :: css,B :: Bs,k,h,hb,hh=>by
  obtain ⟨x,hx,e⟩:=af hh.1
  refine ⟨?_,rM hl (by simpa using h) (fun j B' hj=>by rw [show k + 1 + j=k + (j + 1) by omega]; exact hb (j + 1) B' (by simpa using hj)) hh.2⟩
  have:=hl k x hx
  rw [← e,← hb 0 B rfl]
  exact this
theorem rN {w:World} {π:Nat→Nat→Prop}:∀ {css:List (List AV)} {Bs:List Nat},b7 w π css Bs→∀ B∈Bs,∀ o,¬ π B o
 | [],[],_,B,hB=>by cases hB
 | [],_ :: _,h,_,_=>h.elim
 | _ :: _,[],h,_,_=>h.elim
 | cs :: css,B' :: Bs,h,B,hB=>by
  rcases List.mem_cons.1 hB with rfl|hB
  ·obtain ⟨_,_,_,_,_,_,hn⟩:=h.1; exact hn
  ·exact rN h.2 B hB
theorem Rel.Jj {P:Program} {w w':World} {π:Nat→Nat→Prop} {Bs:List Nat} {css css':List (List AV)} {nt:Nat} {s:S} {a:Act} {β:Nat→Nat} {τ:Nat→Value} {π':Nat→Nat→Prop} {U:Nat→Prop}
  (R:Rel P nt (gK.mP w Bs) w π U s a w' β τ π') (hbl:css.length=Bs.length) (h4:css.length≤4) (hl:css'.length=css.length) (hho:gm s.boxes 0 css'):b7 w' π' css' Bs:=by
 refine rM (β:=β) (fun b x hb=>(R.boxes b x hb).2.2.1.q7) (by omega) (fun j B hj=>?_) hho
 have:j < Bs.length:=(List.getElem?_eq_some_iff.1 hj).1
 rw [Nat.zero_add,R.kn j (by omega)]
 simp [gK.mP,hj]
theorem uk {l:List (Nat × bA)}:∀ {css:List (List AV)} {k j:Nat},gm l k css→j < css.length→∃ x,bF (k + j) l=some x
 | [],k,j,_,hj=>by simp at hj
 | cs :: css,k,j,h,hj=>by
  cases j with
  | zero=>obtain ⟨x,hx,_⟩:=af h.1; exact ⟨x,hx⟩
  | succ j =>
   obtain ⟨x,hx⟩:=uk h.2 (by simpa using hj)
   exact ⟨x,by rw [show k + (j + 1)=k + 1 + j by omega]; exact hx⟩
theorem Rel.tI {P:Program} {w w':World} {π:Nat→Nat→Prop} {Bs:List Nat} {css css':List (List AV)} {nt:Nat} {s:S} {a:Act} {β:Nat→Nat} {τ:Nat→Value} {π':Nat→Nat→Prop} {U:Nat→Prop}
  (R:Rel P nt (gK.mP w Bs) w π U s a w' β τ π') (hbl:css.length=Bs.length) (h4:css.length≤4) (hl:css'.length=css.length) (hho:gm s.boxes 0 css') {q e:Nat} (hq:cw q s.live=some e):v9 P w' π' (fun B=>w.heap.size≤B) e (τ q):=by
 have ht:=(R.live q e hq).2
 rcases ht with h|⟨B,len,cap,cur,i,hv,hok,hrest⟩
 ·exact .inl h
 ·refine .inr ⟨B,len,cap,cur,i,hv,?_,hrest⟩
  rcases hok with h|h
  ·exact h
  ·exfalso
   obtain ⟨j,hj⟩:=List.mem_iff_getElem?.1 (show B∈Bs from h)
   have hjl:j < Bs.length:=(List.getElem?_eq_some_iff.1 hj).1
   obtain ⟨x,hx⟩:=uk hho (j:=j) (by omega)
   rw [Nat.zero_add] at hx
   refine R.bV q e j x hq hx ?_
   rw [hv,R.kn j (by omega)]
   simp [gK.mP,gi,hj]
theorem rO (hm:P.follows .mixedOrders=true) {f:FuncId} {cf:eV} {mo:Bool} (hcf:tF mo P f=some cf) {css css':List (List AV)} {args:List (Option AV)} {r:AV} {fr:Option Nat} (hn:args.length≤cf.nt) (hl:css'.length=css.length) (h4:css.length≤4)
    (h:aw (Pure P) cf.code (zT cf.res r fr css') (yQ css args)):we P f css args r fr css':=by
  obtain ⟨fn,c,cc,hfn,hbody,hrs,hcc,ec,en,hfit,hcall⟩:=wJ hcf
  rw [ec] at h
  rw [en] at hn
  refine ⟨hcall,hl,h4,fun w π Bs vs hprot hnd hbx hd=>?_⟩
  have hlen:=pn hd
  obtain ⟨hbl,hbget⟩:=hbx.get
  have hβ:∀ (j B:Nat),Bs[j]? = some B→(gK.mP w Bs).β j=B:=fun j B hj=>by simp [gK.mP,hj]
  have R:cD P fn.ntmps (gK.mP w Bs) w π (yQ css args) { tmps:=vs.toArray++Array.replicate (fn.ntmps - vs.toArray.size) undef,defers:=[] } w:=by
    refine ⟨Nat.le_refl 4,(gK.mP w Bs).β,fun _=>undef,π,fun n=>n < 4,fun _ h=>h,?_⟩
    have hbox:∀ b x,bF b (yQ css args).boxes=some x→∃ B cs,b < 4∧Bs[b]? = some B∧(gK.mP w Bs).β b=B∧x=⟨cs,[]⟩∧lE (fun _=>undef) w π B ⟨cs,[]⟩:=by
      intro b x hb
      obtain ⟨cs,_,h2,h3⟩:=rL hb
      simp only [Nat.sub_zero] at h2
      have hlt:b < css.length:=(List.getElem?_eq_some_iff.1 h2).1
      have hB:Bs[b]? = some Bs[b]:=List.getElem?_eq_getElem (by omega)
      exact ⟨_,cs,by omega,hB,hβ _ _ hB,h3,hbget b cs _ h2 hB⟩
    refine { size:=?_,slots:=?_,boxes:=?_,inj:=?_,live:=fun q e h=>(by cases h),bl:=fun q q' e e' B h=>(by cases h),bV:=fun q e b x h=>(by cases h),below:=.refl _ _,dm:=Nat.le_refl _,dn:=hprot,dA:=fun _ _ h=>h,bW:=fun _ _ h=>.inl h,kn:=fun _ _=>rfl,iu:=fun _ h=>h,kept:=fun _ _ _=>rfl }
    · simp; omega
    · intro t v hv
      obtain ⟨x,_,hx,hor⟩:=pg hd hv
      simp only [Nat.sub_zero] at hx
      have htl:t < vs.length:=(List.getElem?_eq_some_iff.1 hx).1
      have hget:(vs.toArray++Array.replicate (fn.ntmps - vs.toArray.size) undef)[t]? = some x:=by
        simp [Array.getElem?_append,htl]
        simpa using (List.getElem?_eq_some_iff.1 hx).2
      rcases hor with ⟨a,rfl,hda⟩|⟨j,B,rfl,hB,rfl⟩
      · exact ⟨⟨x,hget,(oq (U:=fun n=>n < 4) hda).1⟩,(oq (β:=id) (τ:=fun _=>undef) hda).2⟩
      · refine ⟨⟨_,hget,?_⟩,?_⟩
        · show Value.pointer (some ⟨B,0,none⟩)=.pointer (some ⟨(gK.mP w Bs).β (0 + j),0,none⟩)
          rw [Nat.zero_add,hβ j B hB]
        · have:j < Bs.length:=(List.getElem?_eq_some_iff.1 hB).1
          show 0 + j < 4
          omega
    · intro b x hb
      obtain ⟨B,cs,h1,h2,h3,rfl,h5⟩:=hbox b x hb
      exact ⟨h1,.inr ⟨h1,by rw [h3]; exact List.mem_of_getElem? h2⟩,by rw [h3]; exact h5,fun o q hq=>by cases hq⟩
    · intro b b' x x' hb hb' e
      obtain ⟨B,_,_,h2,h3,_,_⟩:=hbox b x hb
      obtain ⟨B',_,_,h2',h3',_,_⟩:=hbox b' x' hb'
      rw [h3,h3'] at e
      subst e
      exact uj hnd b b' B h2 h2'
  refine callsIn_wide.1 (callsIn_of_wp_marks (n:=0) (F:=Fence.wide) hfn hbody trivial (wpIn_mono (yS (wH hm c cc hcc hfit _ (fun _=>False) ⟨#[],[]⟩ (fun _ h=>h.elim) none 0 w _ _ _ _ ⟨R,fun l h=>by (cases h),⟨[],rfl,.nil,by simp⟩,fun _ h=>h.elim⟩ h)) ?_))
  have main:∀ (s:S) (a':Act) (w':World),(ah (ck s cf.res) fun p=>p.1=r∧xL fr p.2 s.live∧gm s.boxes 0 css')→cD P fn.ntmps (gK.mP w Bs) w π s a' w' →
      ∃ v,(results fn a'.tmps).run P w'=.ok v w'∧∃ u π',Ending.returned v=.returned u∧qn (gK.mP w Bs) w w'∧(∀ b o,π b o→π' b o)∧(∀ b o,π' b o→π b o∨w.heap.size≤b) ∧
        (∀ b o,π' b o→b < w'.heap.size)∧b7 w' π' css' Bs∧DV w' π' r u∧∀ t,fr=some t→v9 P w' π' (fun B=>w.heap.size≤B) t u:=by
    rintro s a' w' hq ⟨_,β,τ,π',U,hU,R'⟩
    obtain ⟨⟨av,q⟩,hp,hav,hfr,hho⟩:=af hq
    simp only at hav hfr hho
    subst hav
    obtain ⟨v,hv,hdv,htq⟩:=rK R' hrs hp
    have hB:=R'.Jj hbl h4 hl hho
    refine ⟨v,hv,v,π',rfl,R'.below,R'.dA,fun b o h=>(R'.bW b o h).imp id (fun k=>k.elim id (fun k=>absurd h (rN hB b k o))),R'.dn,?_,hdv,fun t ht=>?_⟩
    · refine rM (β:=β) (fun b x hb=>(R'.boxes b x hb).2.2.1.q7) (by omega) (fun j B hj=>?_) hho
      have:j < Bs.length:=(List.getElem?_eq_some_iff.1 hj).1
      rw [Nat.zero_add,R'.kn j (by omega)]
      exact hβ j B hj
    · subst ht
      simp only [xL] at hfr
      cases q with
      | none=>exact hfr.elim
      | some q =>
        rw [htq q rfl]
        exact R'.tI hbl h4 hl hho hfr
  rintro e a' w' ⟨s,hq,R',_,⟨Ds,hm1,hm2,hm3⟩,_⟩
  have hm1:a'.defers=Ds.map FB:=by simpa using hm1
  cases e with
  | normal=>show LeavesInM _ _ _ _ _ _ a'.defers _ _; rw [hm1]; exact fU (main s a' · hq) Ds w' hm2 hm3 R' (Nat.le_refl _)
  | ret=>show LeavesInM _ _ _ _ _ _ a'.defers _ _; rw [hm1]; exact fU (main s a' · hq) Ds w' hm2 hm3 R' (Nat.le_refl _)
  | _=>exact hq.elim
end
end Go.Eng
namespace Go.Eng
open Go
class Kn (α:Type) where
 run:α→Prop
class NJ where
 run:SV→List (Nat × Nat)→Prop
def wv {α:Type} (o:Option α) [k:Kn α]:Prop:=ah o k.run
theorem gP {α:Type} (o:Option α) (k:α→Prop):ah o k=@wv α o ⟨k⟩:=rfl
theorem Gk {α:Type} (a:α) (k:α→Prop):@wv α (some a) ⟨k⟩=k a:=rfl
theorem Gl {α:Type} (k:α→Prop):@wv α none ⟨k⟩=False:=rfl
theorem Jk {α:Type} {o:Option α} {k:α→Prop} (a:α) (h:o=some a) (hk:k a):@wv α o ⟨k⟩:=by subst h; exact hk
def qd (C:bI) (f:Nat) (as:List AV) (id:Nat) (lv:List (Nat × Nat)) (k:SV→List (Nat × Nat)→Prop):Prop :=
 ∃ r fr,C.c f as r fr∧k (.dat r (fr.map fun _=>id)) (match fr with | some e=>(id,e) :: lv | none=>lv)
def cl (C:bI) (f:Nat) (as:List AV) (id:Nat) (lv:List (Nat × Nat)) [k:NJ]:Prop:=qd C f as id lv k.run
theorem iD (C:bI) (f:Nat) (as:List AV) (id:Nat) (lv:List (Nat × Nat)) (k:SV→List (Nat × Nat)→Prop):qd C f as id lv k=@cl C f as id lv ⟨k⟩:=rfl
@[congr] theorem Mb {C:bI} (f:Nat) {as as':List AV} (id:Nat) (lv:List (Nat × Nat)) (k:SV→List (Nat × Nat)→Prop) (h:as=as'):qd C f as id lv k=qd C f as' id lv k:=by rw [h]
theorem aj {C:bI} {f:Nat} {as:List AV} {id:Nat} {lv:List (Nat × Nat)} {k:SV→List (Nat × Nat)→Prop} {r:AV} (h:C.c f as r none) (hk:k (.dat r none) lv):@cl C f as id lv ⟨k⟩:=⟨r,none,h,hk⟩
theorem Be {C:bI} {f:Nat} {as:List AV} {id:Nat} {lv:List (Nat × Nat)} {k:SV→List (Nat × Nat)→Prop} {r:AV} {e:Nat} (h:C.c f as r (some e)) (hk:k (.dat r (some id)) ((id,e) :: lv)):@cl C f as id lv ⟨k⟩:=⟨r,some e,h,hk⟩
class NK where
 run:SV→List (Nat × bA)→List (Nat × Nat)→Prop
def rP (C:bI) (f:Nat) (css:List (List AV)) (as:List (Option AV)) (ids:List Nat) (id:Nat) (bx:List (Nat × bA)) (lv:List (Nat × Nat)) (k:SV→List (Nat × bA)→List (Nat × Nat)→Prop):Prop :=
 ∃ r fr css',C.p f css as r fr css'∧k (.dat r (fr.map fun _=>id)) (cJ ids css' bx) (match fr with | some e=>(id,e) :: lv | none=>lv)
def Ns (C:bI) (f:Nat) (css:List (List AV)) (as:List (Option AV)) (ids:List Nat) (id:Nat) (bx:List (Nat × bA)) (lv:List (Nat × Nat)) [k:NK]:Prop:=rP C f css as ids id bx lv k.run
theorem dU (C:bI) (f:Nat) (css:List (List AV)) (as:List (Option AV)) (ids:List Nat) (id:Nat) (bx:List (Nat × bA)) (lv:List (Nat × Nat)) (k:SV→List (Nat × bA)→List (Nat × Nat)→Prop):rP C f css as ids id bx lv k=@Ns C f css as ids id bx lv ⟨k⟩:=rfl
theorem Bf {C:bI} {f:Nat} {css:List (List AV)} {as:List (Option AV)} {ids:List Nat} {id:Nat} {bx:List (Nat × bA)} {lv:List (Nat × Nat)} {k:SV→List (Nat × bA)→List (Nat × Nat)→Prop} {r:AV} {css':List (List AV)} (h:C.p f css as r none css') (hk:k (.dat r none) (cJ ids css' bx) lv):@Ns C f css as ids id bx lv ⟨k⟩:=⟨r,none,css',h,hk⟩
class NL where
 run:SV→Prop
def uY (C:bI) (f:Nat) (css:List (List AV)) (as:List (Option AV)) (k:SV→Prop):Prop:=∃ r,C.p f css as r none css∧k (.dat r none)
def NM (C:bI) (f:Nat) (css:List (List AV)) (as:List (Option AV)) [k:NL]:Prop:=uY C f css as k.run
theorem Jl (C:bI) (f:Nat) (css:List (List AV)) (as:List (Option AV)) (k:SV→Prop):uY C f css as k=@NM C f css as ⟨k⟩:=rfl
def yT (x:Option bA) (y:Option (List (List AV))):Option (List (List AV)) :=
 match x,y with
 | some ⟨cs,[]⟩,some css=>some (cs :: css)
 | _,_=>none
theorem Gm (ro:List Nat) (i:Nat):jR ro i []=[]:=rfl
theorem Jm (ro:List Nat) (i:Nat) (o:CO) (r:List CO):jR ro i (o :: r)=(bif ro.contains i then o.ro else o) :: jR ro (i + 1) r:=rfl
theorem Mt (d:Option Nat) (o:aZ) (g:Option (Nat × Bool)):CO.ro ⟨d,o,g⟩=⟨d,o.ro,g⟩:=rfl
theorem Jn (f:Nat) (as:List aQ):aZ.ro (.dX f as)=.qO f as:=rfl
theorem Jo (g:aQ) (as:List aQ):aZ.ro (.dD g as)=.lf g as:=rfl
section
variable {C:bI} {Q:Exit→S→Prop} {K:SV→S→Prop} {J:S→Prop}
variable (sl:List (Nat × SV)) (bx:List (Nat × bA)) (lv:List (Nat × Nat)) (nx:Nat)
theorem wK (n m:Nat) (v:SV) (r:List (Nat × SV)):lk n ((m,v) :: r)=bif n == m then some v else lk n r:=rfl
theorem qe (n m:Nat) (v:bA) (r:List (Nat × bA)):bF n ((m,v) :: r)=bif n == m then some v else bF n r:=rfl
theorem ot (n m:Nat) (v:Nat) (r:List (Nat × Nat)):cw n ((m,v) :: r)=bif n == m then some v else cw n r:=rfl
theorem lN (n:Nat):cw n []=none:=rfl
theorem Gn (n m:Nat) (b v:bA) (r:List (Nat × bA)):k7 n b ((m,v) :: r)=bif n == m then (m,b) :: r else (m,v) :: k7 n b r:=rfl
theorem Gp (n m:Nat) (v:Nat) (r:List (Nat × Nat)):iN n ((m,v) :: r)=bif n == m then iN n r else (m,v) :: iN n r:=rfl
theorem Dw (n:Nat):iN n []=[]:=rfl
theorem Jp (d:Nat) (v:SV):S.put ⟨sl,bx,lv,nx⟩ (some d) v=⟨(d,v) :: sl,bx,lv,nx⟩:=rfl
theorem Gq (v:SV):S.put ⟨sl,bx,lv,nx⟩ none v=⟨sl,bx,lv,nx⟩:=rfl
theorem Gs (n:Nat):bw ⟨sl,bx,lv,nx⟩ (.t n)=lk n sl:=rfl
theorem Gt (v:AV):bw ⟨sl,bx,lv,nx⟩ (.k v)=some (.dat v none):=rfl
def uZ:Option SV→Option AV
 | some (.dat a _)=>some a
 | some (.rp cs)=>some (.ref cs)
 | _=>none
theorem Dx (cs:List AV):uZ (some (.rp cs))=some (.ref cs):=rfl
theorem Gu (a:AV) (q:Option Nat):uZ (some (.dat a q))=some a:=rfl
theorem Dy (n:Nat):ax ⟨sl,bx,lv,nx⟩ (.t n)=uZ (lk n sl):=rfl
theorem Dz (v:AV):ax ⟨sl,bx,lv,nx⟩ (.k v)=some v:=rfl
def FC:Option AV→Option (List AV)→Option (List AV)
 | some a,some as=>some (a :: as)
 | _,_=>none
theorem DA (a:AV) (as:List AV):FC (some a) (some as)=some (a :: as):=rfl
theorem DB (x:aQ) (r:List aQ):bQ ⟨sl,bx,lv,nx⟩ (x :: r)=FC (ax ⟨sl,bx,lv,nx⟩ x) (bQ ⟨sl,bx,lv,nx⟩ r):=rfl
theorem Bg:bQ ⟨sl,bx,lv,nx⟩ []=some []:=rfl
theorem DC (b i:Nat):fq C b i [] J ⟨sl,bx,lv,nx⟩=J ⟨sl,bx,lv,nx⟩:=rfl
theorem Gv (b i:Nat) (d:Option Nat) (o:aZ) (r:List CO):fq C b i (⟨d,o,none⟩ :: r) J ⟨sl,bx,lv,nx⟩=aV C (b + i) o (fun v s'=>fq C b (i + 1) r J (s'.put d v)) ⟨sl,bx,lv,nx⟩:=rfl
def gQ (want:Bool) (yes no:Prop):Option SV→Prop
 | some (.dat (.bool b) _)=>(b=want→yes)∧(b=!want→no)
 | some .undef=>no
 | _=>False
theorem DD (b i t:Nat) (w:Bool) (d:Option Nat) (o:aZ) (r:List CO):fq C b i (⟨d,o,some (t,w)⟩ :: r) J ⟨sl,bx,lv,nx⟩ =
  gQ w (aV C (b + i) o (fun v s'=>fq C b (i + 1) r J (s'.put d v)) ⟨sl,bx,lv,nx⟩) (fq C b (i + 1) r J (S.put ⟨sl,bx,lv,nx⟩ d .undef)) (lk t sl):=by
 simp only [fq,cv,gQ]
 cases lk t sl with
 | none=>rfl
 | some v=>cases v with
  | dat a q=>cases a<;>rfl
  | ptr=>rfl
  | rp=>rfl
  | undef=>rfl
  | vs=>rfl
  | kY=>rfl
  | raw=>rfl
class KP where
 yes:Prop
 no:Prop
def gd (w:Bool) (v:Option SV) [k:KP]:Prop:=gQ w k.yes k.no v
theorem iE (w:Bool) (yes no:Prop) (v:Option SV):gQ w yes no v=@gd w v ⟨yes,no⟩:=rfl
theorem Bh (w:Bool) (yes no:Prop):@gd w (some .undef) ⟨yes,no⟩=no:=rfl
theorem Bi (yes no:Prop) (q:Option Nat):@gd true (some (.dat (.bool true) q)) ⟨yes,no⟩=yes:=by simp [gd,gQ]
theorem zU (yes no:Prop) (q:Option Nat):@gd true (some (.dat (.bool false) q)) ⟨yes,no⟩=no:=by simp [gd,gQ]
theorem Bj (yes no:Prop) (q:Option Nat):@gd false (some (.dat (.bool false) q)) ⟨yes,no⟩=yes:=by simp [gd,gQ]
theorem zV (yes no:Prop) (q:Option Nat):@gd false (some (.dat (.bool true) q)) ⟨yes,no⟩=no:=by simp [gd,gQ]
theorem Mu (id:Nat) (x:aQ):aV C id (.mv x) K ⟨sl,bx,lv,nx⟩=ah (bw ⟨sl,bx,lv,nx⟩ x) fun v=>K v ⟨sl,bx,lv,nx⟩:=rfl
def rQ (a b:Option SV) (k:SV→Prop):AV→Prop
 | .bool t=>ah a fun u=>ah b fun v=>(t=true→k u)∧(t=false→k v)
 | _=>False
theorem Gw (id:Nat) (c a b:aQ):aV C id (.pick c a b) K ⟨sl,bx,lv,nx⟩=ah (ax ⟨sl,bx,lv,nx⟩ c) (rQ (bw ⟨sl,bx,lv,nx⟩ a) (bw ⟨sl,bx,lv,nx⟩ b) fun v=>K v ⟨sl,bx,lv,nx⟩):=rfl
def pk (a b:Option SV) (c:AV) [k:Kn SV]:Prop:=rQ a b k.run c
theorem iF (a b:Option SV) (k:SV→Prop) (c:AV):rQ a b k c=@pk a b c ⟨k⟩:=rfl
theorem DE (k:SV→Prop) (b:Option SV) (v:SV):@pk (some v) b (.bool true) ⟨k⟩=ah b fun _=>k v:=by simp [pk,rQ]
theorem DG (k:SV→Prop) (a:Option SV) (v:SV):@pk a (some v) (.bool false) ⟨k⟩=ah a fun _=>k v:=by
 cases a<;>simp [pk,rQ]
theorem DH (id:Nat) (cs:List AV):aV C id (.alloc cs) K ⟨sl,bx,lv,nx⟩=K (.ptr id 0) ⟨sl,(id,⟨cs,[]⟩) :: bx,lv,nx⟩:=rfl
theorem Jq (id:Nat) (x:aQ):aV C id (.box x) K ⟨sl,bx,lv,nx⟩=ah (ax ⟨sl,bx,lv,nx⟩ x) fun a=>eK a none=true∧K (.ptr id 0) ⟨sl,(id,⟨a.cells,[]⟩) :: bx,lv,nx⟩:=rfl
def IU (sz:Option Nat) (bx:List (Nat × bA)) (k:SV→Prop):SV→Prop
 | .ptr b off=>ah (bF b bx) fun x=>ah (aU x.cells off sz) fun a=>k (.dat a (match sz with | none=>cw off x.tags | some _=>none))
 | .rp cs=>ah (aU cs 0 sz) fun a=>k (.dat a none)
 | _=>False
theorem Mv (id:Nat) (x:aQ) (sz:Option Nat):aV C id (.ld x sz) K ⟨sl,bx,lv,nx⟩=ah (bw ⟨sl,bx,lv,nx⟩ x) (IU sz bx fun v=>K v ⟨sl,bx,lv,nx⟩):=rfl
theorem Gx (k:SV→Prop) (b off:Nat):IU none bx k (.ptr b off)=ah (bF b bx) fun x=>ah (aU x.cells off none) fun a=>k (.dat a (cw off x.tags)):=rfl
theorem Gy (k:SV→Prop) (b off n:Nat):IU (some n) bx k (.ptr b off)=ah (bF b bx) fun x=>ah (aU x.cells off (some n)) fun a=>k (.dat a none):=rfl
theorem Jr (k:SV→Prop) (sz:Option Nat) (cs:List AV):IU sz bx k (.rp cs)=ah (aU cs 0 sz) fun a=>k (.dat a none):=rfl
def de (off sz:Nat) (q:Option Nat) (tags:List (Nat × Nat)):List (Nat × Nat) :=
 match q with
 | some q=>(off,q) :: tags.filter (fun p=>p.1 < off || off + sz≤p.1)
 | none=>tags.filter (fun p=>p.1 < off || off + sz≤p.1)
def Js (sz off:Nat) (x:bA) (k:bA→Prop):SV→Prop
 | .dat a q=>eK a q=true∧a.cells.length=sz∧off + sz≤x.cells.length∧k ⟨setCells x.cells off a.cells,de off sz q x.tags⟩
 | _=>False
def Mc (sz:Nat) (bx:List (Nat × bA)) (v:Option SV) (k:List (Nat × bA)→Prop):SV→Prop
 | .ptr b off=>ah (bF b bx) fun x=>ah v (Js sz off x fun y=>k (k7 b y bx))
 | _=>False
theorem Mw (id:Nat) (x v:aQ) (sz:Nat):aV C id (.st x v sz) K ⟨sl,bx,lv,nx⟩=ah (bw ⟨sl,bx,lv,nx⟩ x) (Mc sz bx (bw ⟨sl,bx,lv,nx⟩ v) fun b=>K .undef ⟨sl,b,lv,nx⟩):=by
 show ah _ _=ah _ _
 cases hx:bw ⟨sl,bx,lv,nx⟩ x with
 | none=>rfl
 | some p=>cases p with
  | ptr b off =>
   show ah _ _=ah _ _
   cases hb:bF b bx with
   | none=>rfl
   | some y =>
    show ah _ _=ah _ _
    cases hv:bw ⟨sl,bx,lv,nx⟩ v with
    | none=>rfl
    | some u=>cases u with
     | dat a q=>cases q<;>rfl
     | _=>rfl
  | _=>rfl
theorem Jt (sz b off:Nat) (v:Option SV) (k:List (Nat × bA)→Prop):Mc sz bx v k (.ptr b off)=ah (bF b bx) fun x=>ah v (Js sz off x fun y=>k (k7 b y bx)):=rfl
theorem Ju (sz off:Nat) (cs:List AV) (tg:List (Nat × Nat)) (k:bA→Prop) (a:AV) (q:Option Nat):Js sz off ⟨cs,tg⟩ k (.dat a q)=(eK a q=true∧a.cells.length=sz∧off + sz≤cs.length∧k ⟨setCells cs off a.cells,de off sz q tg⟩):=rfl
theorem DI (off sz:Nat):de off sz none []=[]:=rfl
theorem DJ (off sz q:Nat):de off sz (some q) []=[(off,q)]:=rfl
def Jv (off:Nat) (k:SV→Prop):SV→Prop
 | .ptr b o=>k (.ptr b (o + off))
 | .rp cs=>k (.rp (cs.drop off))
 | _=>False
theorem Mx (id:Nat) (x:aQ) (off:Nat):aV C id (.fa x off) K ⟨sl,bx,lv,nx⟩=ah (bw ⟨sl,bx,lv,nx⟩ x) (Jv off fun v=>K v ⟨sl,bx,lv,nx⟩):=rfl
theorem Jw (k:SV→Prop) (b o off:Nat):Jv off k (.ptr b o)=k (.ptr b (o + off)):=rfl
theorem Jy (k:SV→Prop) (cs:List AV) (off:Nat):Jv off k (.rp cs)=k (.rp (cs.drop off)):=rfl
def Jz (d:Nat) (k:SV→Prop):SV→Prop
 | .ptr b o=>k (.ptr b (o + d))
 | .rp cs=>k (.rp (cs.drop d))
 | _=>False
theorem JA (id:Nat) (x i:aQ) (n z:Nat):aV C id (.ym x i n z) K ⟨sl,bx,lv,nx⟩=ah (bw ⟨sl,bx,lv,nx⟩ x) fun p=>ah (ax ⟨sl,bx,lv,nx⟩ i) fun a=>ah (idxOf a) fun i=>(0≤i∧i < n)∧Jz (i.toNat * z) (fun v=>K v ⟨sl,bx,lv,nx⟩) p:=rfl
theorem JB (k:SV→Prop) (b o d:Nat):Jz d k (.ptr b o)=k (.ptr b (o + d)):=rfl
theorem JC (k:SV→Prop) (cs:List AV) (d:Nat):Jz d k (.rp cs)=k (.rp (cs.drop d)):=rfl
theorem JD (k:IntKind) (i:Int):idxOf (.int k i)=some i:=rfl
theorem JE (id:Nat) (x i:aQ) (z:Nat):aV C id (.F1 x i z) K ⟨sl,bx,lv,nx⟩=ah (ax ⟨sl,bx,lv,nx⟩ x) fun l=>ah (ax ⟨sl,bx,lv,nx⟩ i) fun a=>ah (idxOf a) fun i=>ah (rowsOf l) fun xs=>(0≤i∧i < xs.length)∧ah (xs[i.toNat]?) fun row=>row.length=z∧K (.rp row) ⟨sl,bx,lv,nx⟩:=rfl
theorem Gz (xs:List (List AV)):rowsOf (.sl xs)=some xs:=rfl
theorem DK:rowsOf .aN=some []:=rfl
def xN (k:List AV→Prop):AV→Prop
 | .agg cs=>k cs
 | _=>False
theorem JF (k:List AV→Prop) (cs:List AV):xN k (.agg cs)=k cs:=rfl
theorem JG (id:Nat) (x:aQ) (off:Nat) (sz:Option Nat):aV C id (.I5 x off sz) K ⟨sl,bx,lv,nx⟩=ah (ax ⟨sl,bx,lv,nx⟩ x) (xN fun cs=>ah (aU cs off sz) fun a=>K (.dat a none) ⟨sl,bx,lv,nx⟩):=rfl
theorem JH (id:Nat) (x i:aQ) (n z:Nat) (sz:Option Nat):aV C id (.C2 x i n z sz) K ⟨sl,bx,lv,nx⟩=ah (ax ⟨sl,bx,lv,nx⟩ x) (xN fun cs=>ah (ax ⟨sl,bx,lv,nx⟩ i) fun a=>ah (idxOf a) fun i=>(0≤i∧i < n)∧ah (aU cs (i.toNat * z) sz) fun a=>K (.dat a none) ⟨sl,bx,lv,nx⟩):=rfl
theorem JI (id:Nat) (op:BinOp) (x y:aQ):aV C id (.bin op x y) K ⟨sl,bx,lv,nx⟩=ah (ax ⟨sl,bx,lv,nx⟩ x) fun a=>ah (ax ⟨sl,bx,lv,nx⟩ y) fun b=>ah (cK op a b) fun v=>K (.dat v none) ⟨sl,bx,lv,nx⟩:=rfl
theorem JJ (id:Nat) (ks:List CK) (neg:Bool) (x y:aQ):aV C id (.eqc ks neg x y) K ⟨sl,bx,lv,nx⟩=ah (ax ⟨sl,bx,lv,nx⟩ x) (xN fun as=>ah (ax ⟨sl,bx,lv,nx⟩ y) (xN fun bs=>ah (bT ks as bs) fun e=>K (.dat (.bool (e != neg)) none) ⟨sl,bx,lv,nx⟩)):=rfl
theorem My (id:Nat) (neg:Bool) (x y:aQ):aV C id (.bb neg x y) K ⟨sl,bx,lv,nx⟩=ah (ax ⟨sl,bx,lv,nx⟩ x) fun a=>ah (ax ⟨sl,bx,lv,nx⟩ y) fun b=>ah (IP neg a b) fun v=>K (.dat v none) ⟨sl,bx,lv,nx⟩:=rfl
theorem Mz (id:Nat) (op:UnOp) (x:aQ):aV C id (.un op x) K ⟨sl,bx,lv,nx⟩=ah (ax ⟨sl,bx,lv,nx⟩ x) fun a=>ah (IQ op a) fun v=>K (.dat v none) ⟨sl,bx,lv,nx⟩:=rfl
theorem GA (id:Nat) (k:IntKind) (x:aQ):aV C id (.kg k x) K ⟨sl,bx,lv,nx⟩=ah (ax ⟨sl,bx,lv,nx⟩ x) fun a=>ah (tP k a) fun v=>K (.dat v none) ⟨sl,bx,lv,nx⟩:=rfl
theorem GB (id:Nat) (k:FloatKind) (x:aQ):aV C id (.tv k x) K ⟨sl,bx,lv,nx⟩=ah (ax ⟨sl,bx,lv,nx⟩ x) fun a=>ah (qQ k a) fun v=>K (.dat v none) ⟨sl,bx,lv,nx⟩:=rfl
theorem GC (id:Nat) (k:IntKind) (x:aQ):aV C id (.xu k x) K ⟨sl,bx,lv,nx⟩=ah (ax ⟨sl,bx,lv,nx⟩ x) fun a=>ah (vX k a) fun v=>K (.dat v none) ⟨sl,bx,lv,nx⟩:=rfl
theorem GD (id:Nat) (x:aQ):aV C id (.zA x) K ⟨sl,bx,lv,nx⟩=ah (ax ⟨sl,bx,lv,nx⟩ x) fun a=>ah (mZ a) fun v=>K (.dat v none) ⟨sl,bx,lv,nx⟩:=rfl
theorem MA (id:Nat) (e:Xt) (x:aQ):aV C id (.xt e x) K ⟨sl,bx,lv,nx⟩=ah (ax ⟨sl,bx,lv,nx⟩ x) fun a=>ah (IS e a) fun v=>K (.dat v none) ⟨sl,bx,lv,nx⟩:=rfl
theorem MB (b:Nat):IS .vV (.float .f64 b)=some (.int .u64 b):=rfl
theorem MC (n:Int):IS .ffrom (.int .u64 n)=some (.float .f64 n.toNat):=rfl
theorem MD (b:Nat):IS .rte (.float .f64 b)=C5 b:=rfl
def GF (n z:Nat) (s:S) (k:SV→S→Prop):SV→Prop
 | .rp cs=>n * z≤cs.length∧k (.dat (.sl (bG z n cs)) none) s
 | .ptr b off=>4≤b∧ah (bF b s.boxes) fun bx=>n * z≤(bx.cells.drop off).length∧k (.dat (.sl (bG z n (bx.cells.drop off))) none) (eM [b] [bx.cells] s)
 | _=>False
theorem JK (id:Nat) (x:aQ) (n z:Nat):aV C id (.Fq x n z) K ⟨sl,bx,lv,nx⟩=ah (bw ⟨sl,bx,lv,nx⟩ x) (GF n z ⟨sl,bx,lv,nx⟩ K):=by
 show ah _ _=ah _ _
 cases bw ⟨sl,bx,lv,nx⟩ x with
 | none=>rfl
 | some v=>cases v<;>rfl
theorem GG (n z:Nat) (s:S) (k:SV→S→Prop) (cs:List AV):GF n z s k (.rp cs)=(n * z≤cs.length∧k (.dat (.sl (bG z n cs)) none) s):=rfl
theorem GH (n z:Nat) (k:SV→S→Prop) (b off:Nat):GF n z ⟨sl,bx,lv,nx⟩ k (.ptr b off)=(4≤b∧ah (bF b bx) fun y=>n * z≤(y.cells.drop off).length∧k (.dat (.sl (bG z n (y.cells.drop off))) none) (eM [b] [y.cells] ⟨sl,bx,lv,nx⟩)):=rfl
def JL (s:S) (i:aQ) (k:AV→Prop):AV→Prop
 | .str b=>ah (ax s i) fun a=>ah (idxOf a) fun j=>ah (yo b j) k
 | _=>False
theorem JM (id:Nat) (x i:aQ):aV C id (.I6 x i) K ⟨sl,bx,lv,nx⟩=ah (ax ⟨sl,bx,lv,nx⟩ x) (JL ⟨sl,bx,lv,nx⟩ i fun v=>K (.dat v none) ⟨sl,bx,lv,nx⟩):=by
 show ah _ _=ah _ _
 cases ax ⟨sl,bx,lv,nx⟩ x with
 | none=>rfl
 | some v=>cases v<;>rfl
theorem GI (s:S) (i:aQ) (k:AV→Prop) (b:ByteArray):JL s i k (.str b)=ah (ax s i) fun a=>ah (idxOf a) fun j=>ah (yo b j) k:=rfl
theorem GJ (id n:Nat):aV C id (.AI n) K ⟨sl,bx,lv,nx⟩=K (.dat (.int .i64 n) none) ⟨sl,bx,lv,nx⟩:=rfl
theorem GK (id f:Nat) (args:List aQ):aV C id (.call f args) K ⟨sl,bx,lv,nx⟩=ah (bQ ⟨sl,bx,lv,nx⟩ args) fun as=>qd C f as id lv fun v l=>K v ⟨sl,bx,l,nx⟩:=rfl
def vc (C:bI) (id:Nat) (lv:List (Nat × Nat)) (as:List AV) (k:SV→List (Nat × Nat)→Prop):AV→Prop
 | .fn (.func f) first caps=>qd C f (first++as++caps) id lv k
 | _=>False
@[congr] theorem JN (id:Nat) (lv:List (Nat × Nat)) (as:List AV) (k:SV→List (Nat × Nat)→Prop) {v v':AV} (h:v=v'):vc C id lv as k v=vc C id lv as k v':=by rw [h]
def wL:Option SV→Option (List (Option AV) × List Nat)→Option (List (Option AV) × List Nat)
 | some (.dat a _),some p=>some (some a :: p.1,p.2)
 | some (.rp cs),some p=>some (some (.ref cs) :: p.1,p.2)
 | some (.ptr b 0),some p=>some (none :: p.1,b :: p.2)
 | _,_=>none
theorem Bk (a:AV) (q:Option Nat) (p:List (Option AV) × List Nat):wL (some (.dat a q)) (some p)=some (some a :: p.1,p.2):=rfl
theorem Bl (cs:List AV) (p:List (Option AV) × List Nat):wL (some (.rp cs)) (some p)=some (some (.ref cs) :: p.1,p.2):=rfl
theorem Bm (b:Nat) (p:List (Option AV) × List Nat):wL (some (.ptr b 0)) (some p)=some (none :: p.1,b :: p.2):=rfl
theorem GL:bZ ⟨sl,bx,lv,nx⟩ []=some ([],[]):=rfl
theorem JO (x:aQ) (r:List aQ):bZ ⟨sl,bx,lv,nx⟩ (x :: r)=wL (bw ⟨sl,bx,lv,nx⟩ x) (bZ ⟨sl,bx,lv,nx⟩ r):=by
 show (match bw ⟨sl,bx,lv,nx⟩ x,bZ ⟨sl,bx,lv,nx⟩ r with
  | some (.dat a _),some (as,bs)=>some (some a :: as,bs)
  | some (.rp cs),some (as,bs)=>some (some (.ref cs) :: as,bs)
  | some (.ptr b 0),some (as,bs)=>some (none :: as,b :: bs)
  | _,_=>none)=_
 unfold wL
 cases bw ⟨sl,bx,lv,nx⟩ x with
 | none=>rfl
 | some v =>
  cases bZ ⟨sl,bx,lv,nx⟩ r with
  | none=>cases v with
   | ptr b o=>cases o<;>rfl
   | _=>rfl
  | some p=>cases v with
   | ptr b o=>cases o<;>rfl
   | _=>rfl
theorem Bn:aR bx []=some []:=rfl
def FD:Option bA→Option (List (List AV))→Option (List (List AV))
 | some x,some css=>some (x.cells :: css)
 | _,_=>none
theorem DL (x:bA) (css:List (List AV)):FD (some x) (some css)=some (x.cells :: css):=rfl
theorem DM (b:Nat) (bs:List Nat):aR bx (b :: bs)=FD (bF b bx) (aR bx bs):=rfl
theorem Bo:cu []=true:=rfl
theorem DN (b:Nat) (bs:List Nat):cu (b :: bs)=(!bs.contains b && cu bs):=rfl
theorem DO (b:Nat) (bs:List Nat) (cs:List AV) (css:List (List AV)):cJ (b :: bs) (cs :: css) bx=cJ bs css (k7 b ⟨cs,[]⟩ bx):=rfl
theorem zW:cq bx []=some []:=rfl
theorem Bp (b:Nat) (bs:List Nat):cq bx (b :: bs)=yT (bF b bx) (cq bx bs):=rfl
theorem zX (cs:List AV) (css:List (List AV)):yT (some ⟨cs,[]⟩) (some css)=some (cs :: css):=rfl
theorem Bq (css:List (List AV)):cJ [] css bx=bx:=rfl
def ve (C:bI) (f id:Nat) (bx:List (Nat × bA)) (lv:List (Nat × Nat)) (k:SV→List (Nat × bA)→List (Nat × Nat)→Prop) (p:List (Option AV) × List Nat):Prop :=
 cu p.2=true∧ah (aR bx p.2) fun css=>rP C f css p.1 p.2 id bx lv k
theorem Br (f id:Nat) (as:List (Option AV)) (ids:List Nat) (k:SV→List (Nat × bA)→List (Nat × Nat)→Prop):ve C f id bx lv k (as,ids)=(cu ids=true∧ah (aR bx ids) fun css=>rP C f css as ids id bx lv k):=rfl
theorem DP (id f:Nat) (args:List aQ):aV C id (.dX f args) K ⟨sl,bx,lv,nx⟩=ah (bZ ⟨sl,bx,lv,nx⟩ args) (ve C f id bx lv fun v b l=>K v ⟨sl,b,l,nx⟩):=rfl
theorem DQ (id:Nat) (g:aQ) (args:List aQ):aV C id (.dw g args) K ⟨sl,bx,lv,nx⟩=ah (ax ⟨sl,bx,lv,nx⟩ g) fun a=>ah (bQ ⟨sl,bx,lv,nx⟩ args) fun as=>vc C id lv as (fun v l=>K v ⟨sl,bx,l,nx⟩) a:=by
 show ah _ _=ah _ _
 cases hx:ax ⟨sl,bx,lv,nx⟩ g with
 | none=>rfl
 | some a =>
  show (match a with | .fn (.func f) first caps=>_ | _=>False)=_
  cases hy:bQ ⟨sl,bx,lv,nx⟩ args with
  | none=>cases a<;>first | rfl | (rename_i f _ _; cases f<;>rfl)
  | some as=>cases a<;>first | rfl | (rename_i f _ _; cases f<;>rfl)
theorem Bt (id f:Nat) (as first caps:List AV) (k:SV→List (Nat × Nat)→Prop):vc C id lv as k (.fn (.func f) first caps)=qd C f (first++as++caps) id lv k:=rfl
def qC (C:bI) (id:Nat) (bx:List (Nat × bA)) (lv:List (Nat × Nat)) (p:List (Option AV) × List Nat) (k:SV→List (Nat × bA)→List (Nat × Nat)→Prop):AV→Prop
 | .fn (.func f) [] []=>ve C f id bx lv k p
 | _=>False
@[congr] theorem IV (id:Nat) (bx:List (Nat × bA)) (lv:List (Nat × Nat)) {p p':List (Option AV) × List Nat} (k:SV→List (Nat × bA)→List (Nat × Nat)→Prop) {v v':AV} (h1:p=p') (h:v=v'):qC C id bx lv p k v=qC C id bx lv p' k v':=by rw [h,h1]
theorem Bu (id:Nat) (g:aQ) (args:List aQ):aV C id (.dD g args) K ⟨sl,bx,lv,nx⟩=ah (ax ⟨sl,bx,lv,nx⟩ g) fun a=>ah (bZ ⟨sl,bx,lv,nx⟩ args) fun p=>qC C id bx lv p (fun v b l=>K v ⟨sl,b,l,nx⟩) a:=by
 show ah _ _=ah _ _
 cases hx:ax ⟨sl,bx,lv,nx⟩ g with
 | none=>rfl
 | some a =>
  show (match a with | .fn (.func f) [] []=>_ | _=>False)=_
  cases hy:bZ ⟨sl,bx,lv,nx⟩ args with
  | none=>cases a<;>first | rfl | (rename_i f x y; cases f<;>first | rfl | (cases x<;>first | rfl | (cases y<;>rfl)))
  | some as=>cases a<;>first | rfl | (rename_i f x y; cases f<;>first | rfl | (cases x<;>first | rfl | (cases y<;>rfl)))
def vf (C:bI) (f:Nat) (bx:List (Nat × bA)) (k:SV→Prop) (p:List (Option AV) × List Nat):Prop :=
 cu p.2=true∧ah (cq bx p.2) fun css=>uY C f css p.1 k
theorem DR (id f:Nat) (args:List aQ):aV C id (.qO f args) K ⟨sl,bx,lv,nx⟩=ah (bZ ⟨sl,bx,lv,nx⟩ args) (vf C f bx fun v=>K v ⟨sl,bx,lv,nx⟩):=rfl
theorem Bv (f:Nat) (as:List (Option AV)) (ids:List Nat) (k:SV→Prop):vf C f bx k (as,ids)=(cu ids=true∧ah (cq bx ids) fun css=>uY C f css as k):=rfl
def qD (C:bI) (bx:List (Nat × bA)) (p:List (Option AV) × List Nat) (k:SV→Prop):AV→Prop
 | .fn (.func f) [] []=>vf C f bx k p
 | _=>False
@[congr] theorem IW (bx:List (Nat × bA)) {p p':List (Option AV) × List Nat} (k:SV→Prop) {v v':AV} (h1:p=p') (h:v=v'):qD C bx p k v=qD C bx p' k v':=by rw [h,h1]
theorem Bw (id:Nat) (g:aQ) (args:List aQ):aV C id (.lf g args) K ⟨sl,bx,lv,nx⟩=ah (ax ⟨sl,bx,lv,nx⟩ g) fun a=>ah (bZ ⟨sl,bx,lv,nx⟩ args) fun p=>qD C bx p (fun v=>K v ⟨sl,bx,lv,nx⟩) a:=by
 show ah _ _=ah _ _
 cases hx:ax ⟨sl,bx,lv,nx⟩ g with
 | none=>rfl
 | some a =>
  show (match a with | .fn (.func f) [] []=>_ | _=>False)=_
  cases hy:bZ ⟨sl,bx,lv,nx⟩ args with
  | none=>cases a<;>first | rfl | (rename_i f x y; cases f<;>first | rfl | (cases x<;>first | rfl | (cases y<;>rfl)))
  | some as=>cases a<;>first | rfl | (rename_i f x y; cases f<;>first | rfl | (cases x<;>first | rfl | (cases y<;>rfl)))
theorem zY (f:Nat) (p:List (Option AV) × List Nat) (k:SV→Prop):qD C bx p k (.fn (.func f) [] [])=vf C f bx k p:=rfl
theorem zZ (id f:Nat) (p:List (Option AV) × List Nat) (k:SV→List (Nat × bA)→List (Nat × Nat)→Prop):qC C id bx lv p k (.fn (.func f) [] [])=ve C f id bx lv k p:=rfl
theorem JP (id:Nat) (neg:Bool) (x:aQ):aV C id (.F3 neg x) K ⟨sl,bx,lv,nx⟩=ah (ax ⟨sl,bx,lv,nx⟩ x) fun a=>ah (vY neg a) fun v=>K (.dat (.bool v) none) ⟨sl,bx,lv,nx⟩:=rfl
theorem JQ (id:Nat) (x:aQ) (i:Nat):aV C id (.ext x i) K ⟨sl,bx,lv,nx⟩=ah (ax ⟨sl,bx,lv,nx⟩ x) fun a=>ah (AN a i) fun v=>K (.dat v none) ⟨sl,bx,lv,nx⟩:=rfl
theorem GM (b:Nat) (cs:List AV) (b' o:Nat):ki b cs (.ptr b' o)=bif b' == b then .rp (cs.drop o) else .ptr b' o:=rfl
theorem GN (b:Nat) (cs:List AV) (a:AV) (q:Option Nat):ki b cs (.dat a q)=.dat a q:=rfl
theorem GO (b:Nat) (cs cs':List AV):ki b cs (.rp cs')=.rp cs':=rfl
theorem GP (b:Nat) (cs:List AV):ki b cs .undef=.undef:=rfl
theorem DS (b:Nat) (cs:List AV):qT b cs []=[]:=rfl
theorem GQ (b:Nat) (cs:List AV) (t:Nat) (v:SV) (r:List (Nat × SV)):qT b cs ((t,v) :: r)=(t,ki b cs v) :: qT b cs r:=rfl
theorem DT (n:Nat):mO n []=[]:=rfl
theorem GR (n m:Nat) (v:bA) (r:List (Nat × bA)):mO n ((m,v) :: r)=bif n == m then mO n r else (m,v) :: mO n r:=rfl
theorem DU (css:List (List AV)) (s:S):eM [] css s=s:=rfl
theorem GS (b:Nat) (bs:List Nat) (cs:List AV) (css:List (List AV)):eM (b :: bs) (cs :: css) ⟨sl,bx,lv,nx⟩=eM bs css ⟨qT b cs sl,mO b bx,lv,nx⟩:=rfl
theorem By (css:List (List AV)):ir [] css=[]:=by cases css<;>rfl
theorem Bz (a:AV) (as:List (Option AV)) (css:List (List AV)):ir (some a :: as) css=a :: ir as css:=by cases css<;>rfl
theorem BA (as:List (Option AV)) (cs:List AV) (css:List (List AV)):ir (none :: as) (cs :: css)=.ref cs :: ir as css:=rfl
theorem GU:gM []=true:=rfl
theorem JR (b:Nat) (bs:List Nat):gM (b :: bs)=(decide (4≤b) && gM bs):=rfl
def JS (fn:Fn) (as:List AV) (s:S) (k:SV→S→Prop) (p:List (Option AV) × List Nat):Prop :=
 (cu p.2 && gM p.2)=true∧ah (aR s.boxes p.2) fun css=>k (.dat (.fn fn as (ir p.1 css)) none) (eM p.2 css s)
theorem GV (fn:Fn) (as:List AV) (k:SV→S→Prop) (ps:List (Option AV)) (ids:List Nat):JS fn as ⟨sl,bx,lv,nx⟩ k (ps,ids)=((cu ids && gM ids)=true∧ah (aR bx ids) fun css=>k (.dat (.fn fn as (ir ps css)) none) (eM ids css ⟨sl,bx,lv,nx⟩)):=rfl
theorem JT (id:Nat) (fn:Fn) (a b:List aQ):aV C id (.AG fn a b) K ⟨sl,bx,lv,nx⟩=ah (bQ ⟨sl,bx,lv,nx⟩ a) fun as=>ah (bZ ⟨sl,bx,lv,nx⟩ b) (JS fn as ⟨sl,bx,lv,nx⟩ K):=rfl
def JU (mx:Bool) (k:AV→Prop):List AV→Prop
 | []=>False
 | a :: r=>ah (r.foldlM (Fs mx) a) k
theorem ME (id:Nat) (mx:Bool) (args:List aQ):aV C id (.mm mx args) K ⟨sl,bx,lv,nx⟩=ah (bQ ⟨sl,bx,lv,nx⟩ args) (JU mx fun v=>K (.dat v none) ⟨sl,bx,lv,nx⟩):=by
 show ah _ _=ah _ _
 cases bQ ⟨sl,bx,lv,nx⟩ args with
 | none=>rfl
 | some l=>cases l<;>rfl
theorem JV (mx:Bool) (k:AV→Prop) (a b:AV):JU mx k [a,b]=ah (Fs mx a b) k:=by simp [JU]
theorem JW (kd:IntKind) (x y:Int):Fs true (.int kd x) (.int kd y)=some (.int kd (if y > x then y else x)):=rfl
theorem GW (kd:IntKind) (x y:Int):Fs false (.int kd x) (.int kd y)=some (.int kd (if y < x then y else x)):=rfl
theorem DW (id:Nat) (zs:List AV) (parts:List (Nat × Nat × aQ)):aV C id (.build zs parts) K ⟨sl,bx,lv,nx⟩=ah (eJ ⟨sl,bx,lv,nx⟩ parts) fun ps=>K (.dat (.agg (dY zs ps)) none) ⟨sl,bx,lv,nx⟩:=rfl
def yU (off sz:Nat):Option AV→Option (List (Nat × List AV))→Option (List (Nat × List AV))
 | some a,some ps=>if a.cells.length=sz∧eK a none=true then some ((off,a.cells) :: ps) else none
 | _,_=>none
theorem BB (off sz:Nat) (x:aQ) (r:List (Nat × Nat × aQ)):eJ ⟨sl,bx,lv,nx⟩ ((off,sz,x) :: r)=yU off sz (ax ⟨sl,bx,lv,nx⟩ x) (eJ ⟨sl,bx,lv,nx⟩ r):=rfl
theorem z4:eJ ⟨sl,bx,lv,nx⟩ []=some []:=rfl
theorem dH (off sz:Nat) (a:AV) (ps:List (Nat × List AV)) (h:a.cells.length=sz) (h':eK a none=true):yU off sz (some a) (some ps)=some ((off,a.cells) :: ps):=by simp [yU,h,h']
theorem JX (id e z:Nat) (xs:List aQ):aV C id (.iM e z xs) K ⟨sl,bx,lv,nx⟩=ah (iq ⟨sl,bx,lv,nx⟩ z xs) fun rows=>K (.dat (.sl rows) (some id)) ⟨sl,bx,(id,e) :: lv,nx⟩:=rfl
def GX (z:Nat):Option AV→Option (List (List AV))→Option (List (List AV))
 | some a,some rows=>if a.cells.length=z∧eK a none=true then some (a.cells :: rows) else none
 | _,_=>none
theorem DX (z:Nat) (x:aQ) (r:List aQ):iq ⟨sl,bx,lv,nx⟩ z (x :: r)=GX z (ax ⟨sl,bx,lv,nx⟩ x) (iq ⟨sl,bx,lv,nx⟩ z r):=rfl
theorem BC (z:Nat):iq ⟨sl,bx,lv,nx⟩ z []=some []:=rfl
theorem eY (z:Nat) (a:AV) (rows:List (List AV)) (h:a.cells.length=z) (h':eK a none=true):GX z (some a) (some rows)=some (a.cells :: rows):=by simp [GX,h,h']
theorem JY (id e z bytes:Nat) (x y:aQ):aV C id (.app e z bytes x y) K ⟨sl,bx,lv,nx⟩=ah (bw ⟨sl,bx,lv,nx⟩ x) fun
   | .dat a q=>ah (rowsOf a) fun xs=>ah (ax ⟨sl,bx,lv,nx⟩ y) fun b=>ah (rowsOf b) fun ys =>
     (xs.length + ys.length) * bytes≤140737488355328∧(∀ r∈xs,r.length=z)∧(∀ r∈ys,r.length=z) ∧
     (match a,q with
      | .aN,_=>if ys=[] then K (.dat .aN none) ⟨sl,bx,lv,nx⟩ else K (.dat (.sl (xs++ys)) (some id)) ⟨sl,bx,(id,e) :: lv,nx⟩
      | .sl _,some q=>cw q lv=some e∧K (.dat (.sl (xs++ys)) (some id)) ⟨sl,bx,(id,e) :: iN q lv,nx⟩
      | _,_=>False)
   | _=>False:=rfl
theorem JZ (id z:Nat) (x:aQ) (lo hi:Option aQ):aV C id (.F2 z x lo hi) K ⟨sl,bx,lv,nx⟩=ah (ax ⟨sl,bx,lv,nx⟩ x) fun a=>ah (rowsOf a) fun xs=>ah (qR ⟨sl,bx,lv,nx⟩ lo) fun l=>ah (qS ⟨sl,bx,lv,nx⟩ xs hi) fun h=>(0≤l∧l≤h∧h≤xs.length)∧(∀ r∈xs,r.length=z)∧K (.dat (zD a xs l h) none) ⟨sl,bx,lv,nx⟩:=rfl
theorem DY:qR ⟨sl,bx,lv,nx⟩ none=some 0:=rfl
theorem GY (x:aQ):qR ⟨sl,bx,lv,nx⟩ (some x)=oU (ax ⟨sl,bx,lv,nx⟩ x):=by cases h:ax ⟨sl,bx,lv,nx⟩ x<;>simp [qR,oU,h]
theorem DZ (xs:List (List AV)):qS ⟨sl,bx,lv,nx⟩ xs none=some (xs.length:Int):=rfl
theorem GZ (xs:List (List AV)) (x:aQ):qS ⟨sl,bx,lv,nx⟩ xs (some x)=oU (ax ⟨sl,bx,lv,nx⟩ x):=by cases h:ax ⟨sl,bx,lv,nx⟩ x<;>simp [qS,oU,h]
theorem G0 (k:IntKind) (i:Int):oU (some (.int k i))=some i:=rfl
theorem J0 (xs ys:List (List AV)) (l h:Int):zD (.sl ys) xs l h=.sl ((xs.take h.toNat).drop l.toNat):=rfl
theorem G1 (xs:List (List AV)) (l h:Int):zD .aN xs l h=.aN:=rfl
def IX (k:SV→Prop):SV→Prop
 | .ptr b o=>k (.ptr b o)
 | .rp cs=>k (.rp cs)
 | .dat (.fn (.func f) as bs) q=>k (.dat (.fn (.func f) as bs) q)
 | .dat (.ref cs) _=>k (.rp cs)
 | _=>False
theorem MF (id:Nat) (x:aQ):aV C id (.nc x) K ⟨sl,bx,lv,nx⟩=ah (bw ⟨sl,bx,lv,nx⟩ x) (IX fun v=>K v ⟨sl,bx,lv,nx⟩):=by
 show ah _ _=ah _ _
 cases bw ⟨sl,bx,lv,nx⟩ x with
 | none=>rfl
 | some v=>cases v with
  | dat a q=>cases a<;>first | rfl | (rename_i f _ _; cases f<;>rfl)
  | _=>rfl
theorem J1 (k:SV→Prop) (b o:Nat):IX k (.ptr b o)=k (.ptr b o):=rfl
theorem J2 (k:SV→Prop) (cs:List AV) (q:Option Nat):IX k (.dat (.ref cs) q)=k (.rp cs):=rfl
theorem J3 (k:SV→Prop) (cs:List AV):IX k (.rp cs)=k (.rp cs):=rfl
theorem G2:aw C .skip Q ⟨sl,bx,lv,nx⟩=Q .normal ⟨sl,bx,lv,nx⟩:=rfl
def z5 (k:S→Prop) (n:Nat):S→Prop:=fun s=>k { s with nx:=n }
theorem J4 (ops:List CO):aw C (.AK ops) Q ⟨sl,bx,lv,nx⟩=fq C nx 0 ops (z5 (Q .normal) (nx + ops.length)) ⟨sl,bx,lv,nx⟩:=rfl
def G3 (ops:List CO) (er:List (Nat × Nat)) (s:S) (F:List CO→S→Prop):Prop:=∃ ids,(cu ids && gM ids)=true∧ah (aR s.boxes ids) fun css=>∃ ro,yu (jR ro 0 ops) er (eM ids css s).nx (eM ids css s).slots=true∧F (jR ro 0 ops) (eM ids css s)
class KF where
 k:List CO→S→Prop
def dg (ops:List CO) (er:List (Nat × Nat)) (s:S) [k:KF]:Prop:=G3 ops er s k.k
theorem MG (ops:List CO) (er:List (Nat × Nat)) (s:S) (F:List CO→S→Prop):G3 ops er s F=@dg ops er s ⟨F⟩:=rfl
theorem FE {ops:List CO} {er:List (Nat × Nat)} {s:S} {F:List CO→S→Prop} (h:yu ops er s.nx s.slots=true) (hk:F ops s):@dg ops er s ⟨F⟩:=⟨[],rfl,[],by rw [nS]; exact h,by rw [nS]; exact hk⟩
def MH (C:bI) (nx:Nat) (K:S→Prop) (ops:List CO) (s:S):Prop:=fq C nx 0 ops K s
theorem J5 (nx:Nat) (K:S→Prop) (o:CO) (ops:List CO):MH C nx K (o :: ops) ⟨sl,bx,lv,nx⟩=fq C nx 0 (o :: ops) K ⟨sl,bx,lv,nx⟩:=rfl
theorem G4 (ops:List CO) (er:List (Nat × Nat)):aw C (.vW ops er) Q ⟨sl,bx,lv,nx⟩=G3 ops er ⟨sl,bx,lv,nx⟩ (MH C nx (z5 (Q .normal) (nx + ops.length))):=by
 show (∃ ids,_∧ah _ _)=(∃ ids,_∧ah _ _)
 congr 1; funext ids; congr 2; funext css
 show F5 _ _ _ _ _=_
 unfold F5 MH
 simp only [uM]
 rfl
theorem G5 (k:S→Prop) (n:Nat):z5 k n ⟨sl,bx,lv,nx⟩=k ⟨sl,bx,lv,n⟩:=rfl
theorem J6 (a b:aK):aw C (.seq a b) Q ⟨sl,bx,lv,nx⟩=aw C a (gk (aw C b Q) Q) ⟨sl,bx,lv,nx⟩:=rfl
theorem BD (a b:aK):aw C (.join a b) Q ⟨sl,bx,lv,nx⟩=aw C a (gk (down (aw C b Q)) Q) ⟨sl,bx,lv,nx⟩:=rfl
def mV (a b:Prop):AV→Prop
 | .bool t=>(t=true→a)∧(t=false→b)
 | _=>False
theorem G6 (c:aQ) (a b:aK):aw C (.cond c a b) Q ⟨sl,bx,lv,nx⟩=ah (ax ⟨sl,bx,lv,nx⟩ c) (mV (aw C a Q ⟨sl,bx,lv,nx⟩) (aw C b Q ⟨sl,bx,lv,nx⟩)):=rfl
def J7 (n z:Nat) (a:Option AV) (k:SV→Prop):SV→Prop
 | .ptr b off=>ah a fun a=>ah (idxOf a) fun h=>(0≤h∧h≤n)∧k (.vs b off h.toNat z)
 | _=>False
theorem J8 (id:Nat) (x:aQ) (n z:Nat) (hi:aQ):aV C id (.IK x n z hi) K ⟨sl,bx,lv,nx⟩=ah (bw ⟨sl,bx,lv,nx⟩ x) (J7 n z (ax ⟨sl,bx,lv,nx⟩ hi) fun v=>K v ⟨sl,bx,lv,nx⟩):=by
 show ah _ _=ah _ _
 cases bw ⟨sl,bx,lv,nx⟩ x with
 | none=>rfl
 | some v=>cases v<;>rfl
theorem G7 (n z:Nat) (a:Option AV) (k:SV→Prop) (b off:Nat):J7 n z a k (.ptr b off)=ah a fun a=>ah (idxOf a) fun h=>(0≤h∧h≤n)∧k (.vs b off h.toNat z):=rfl
def yV (a b:Prop):AV→Prop
 | .bool t=>(t=true→a)∧(t=false→b)
 | _=>False
def BE (id e z bytes:Nat) (s:S) (K:SV→S→Prop) (b off n z':Nat):SV→Prop
 | .ptr b' _=>(b'=b∧z'=z)∧ah (bF b s.boxes) fun y=>(n * z≤(y.cells.drop off).length∧n * bytes≤140737488355328) ∧
   yV (K (.dat .aN none) s) (K (.dat (.sl (bG z n (y.cells.drop off))) (some id)) { s with live:=(id,e) :: s.live }) (.bool (n == 0))
 | _=>False
def FF (id e z bytes:Nat) (s:S) (K:SV→S→Prop) (x:Option SV):SV→Prop
 | .vs b off n z'=>ah x (BE id e z bytes s K b off n z')
 | _=>False
theorem BF (a b:Prop) (n:Nat):yV a b (.bool (n == 0))=(if n=0 then a else b):=by
 by_cases h:n=0
 ·subst h; simp [yV]
 ·simp [yV,h]
theorem G8 (id e z bytes:Nat) (y x:aQ):aV C id (.tw e z bytes y x) K ⟨sl,bx,lv,nx⟩=ah (bw ⟨sl,bx,lv,nx⟩ y) (FF id e z bytes ⟨sl,bx,lv,nx⟩ K (bw ⟨sl,bx,lv,nx⟩ x)):=by
 show ah _ _=ah _ _
 cases bw ⟨sl,bx,lv,nx⟩ y with
 | none=>rfl
 | some v =>
  cases v<;>try rfl
  show ah _ _=ah _ _
  cases bw ⟨sl,bx,lv,nx⟩ x with
  | none=>rfl
  | some u =>
   cases u<;>try rfl
   show (_∧ah _ _)=(_∧ah _ _)
   congr 2
   funext y
   rw [BF]
theorem D0 (id e z bytes:Nat) (K:SV→S→Prop) (x:Option SV) (b off n z':Nat):FF id e z bytes ⟨sl,bx,lv,nx⟩ K x (.vs b off n z')=ah x (BE id e z bytes ⟨sl,bx,lv,nx⟩ K b off n z'):=rfl
theorem D1 (id e z bytes:Nat) (K:SV→S→Prop) (b off n z' b' o:Nat):BE id e z bytes ⟨sl,bx,lv,nx⟩ K b off n z' (.ptr b' o)=((b'=b∧z'=z)∧ah (bF b bx) fun y=>(n * z≤(y.cells.drop off).length∧n * bytes≤140737488355328) ∧
   mV (K (.dat .aN none) ⟨sl,bx,lv,nx⟩) (K (.dat (.sl (bG z n (y.cells.drop off))) (some id)) ⟨sl,bx,(id,e) :: lv,nx⟩) (.bool (n == 0))):=rfl
def cd (c:AV) [k:KP]:Prop:=mV k.yes k.no c
theorem iG (a b:Prop) (c:AV):mV a b c=@cd c ⟨a,b⟩:=rfl
theorem D2 (a b:Prop):@cd (.bool true) ⟨a,b⟩=a:=by simp [cd,mV]
theorem D3 (a b:Prop):@cd (.bool false) ⟨a,b⟩=b:=by simp [cd,mV]
theorem D4 (id:Nat) (c:aK):aw C (.block id c) Q ⟨sl,bx,lv,nx⟩=aw C c (dF id Q) ⟨sl,bx,lv,nx⟩:=rfl
theorem G9 (id:Nat):aw C (.exit id) Q ⟨sl,bx,lv,nx⟩=Q (.exit id) ⟨sl,bx,lv,nx⟩:=rfl
theorem J9:aw C .ret Q ⟨sl,bx,lv,nx⟩=Q .ret ⟨sl,bx,lv,nx⟩:=rfl
theorem D5 (l:Nat) (c r:aK):aw C (.scope l c r) Q ⟨sl,bx,lv,nx⟩=aw C c (iO l (aw C r (ql Q)) Q) ⟨sl,bx,lv,nx⟩:=rfl
theorem D6 (l:Nat):aw C (.label l) Q ⟨sl,bx,lv,nx⟩=Q .normal ⟨sl,bx,lv,nx⟩:=rfl
theorem He (l:Nat):aw C (.goto l) Q ⟨sl,bx,lv,nx⟩=Q (.goto l) ⟨sl,bx,lv,nx⟩:=rfl
theorem D7 (k:S→Prop) (s:S) (l:Nat):gk k Q (.goto l) s=Q (.goto l) s:=rfl
theorem Hf (id:Nat) (s:S) (l:Nat):dF id Q (.goto l) s=Q (.goto l) s:=rfl
theorem Ka (l:Nat) (k:S→Prop) (s:S):iO l k Q .normal s=Q .normal s:=rfl
theorem Kb (l:Nat) (k:S→Prop) (s:S):iO l k Q .ret s=Q .ret s:=rfl
theorem Kc (l:Nat) (k:S→Prop) (s:S) (id:Nat):iO l k Q (.exit id) s=Q (.exit id) s:=rfl
theorem Ke (l:Nat) (k:S→Prop) (s:S) (l':Nat):iO l k Q (.goto l') s=(l'=l∧k s):=rfl
theorem Kf (s:S):ql Q .normal s=Q .normal s:=rfl
theorem Kg (s:S):ql Q .ret s=Q .ret s:=rfl
theorem Kh (s:S) (id:Nat):ql Q (.exit id) s=Q (.exit id) s:=rfl
theorem D8 (k:S→Prop) (s:S):gk k Q .normal s=k s:=rfl
theorem D9 (k:S→Prop) (s:S):gk k Q .ret s=Q .ret s:=rfl
theorem Ea (k:S→Prop) (s:S) (id:Nat):gk k Q (.exit id) s=Q (.exit id) s:=rfl
theorem Hg (id:Nat) (s:S):dF id Q .normal s=Q .normal s:=rfl
theorem Hh (id:Nat) (s:S):dF id Q .ret s=Q .ret s:=rfl
theorem Hi (id:Nat) (s:S):dF id Q (.exit id) s=Q .normal s:=by simp [dF]
theorem eZ (id id':Nat) (s:S) (h:(id' == id)=false):dF id Q (.exit id') s=Q (.exit id') s:=by
 have:id'≠id:=by simpa using h
 simp [dF,this]
end
section
variable {C:bI} {Q:Exit→S→Prop} {K:SV→S→Prop} {J:S→Prop}
@[congr] theorem Md {α:Type} {o o':Option α} (k:α→Prop) (h:o=o'):ah o k=ah o' k:=by rw [h]
@[congr] theorem Nt (id:Nat) (o:aZ) (s:S):aV C id o K s=aV C id o K s:=rfl
@[congr] theorem MI (b i:Nat) (l:List CO) (s:S):fq C b i l J s=fq C b i l J s:=rfl
@[congr] theorem NN (c:aK) (s:S):aw C c Q s=aw C c Q s:=rfl
@[congr] theorem Me (e:Exit) (s:S):gk J Q e s=gk J Q e s:=rfl
@[congr] theorem Ki {J:S→Prop} (l:Nat) (e:Exit) (s:S):iO l J Q e s=iO l J Q e s:=rfl
@[congr] theorem MJ (e:Exit) (s:S):ql Q e s=ql Q e s:=rfl
@[congr] theorem Kj (id:Nat) (e:Exit) (s:S):dF id Q e s=dF id Q e s:=rfl
@[congr] theorem MK (n:Nat) (s:S):z5 J n s=z5 J n s:=rfl
@[congr] theorem ML {s s':S} (h:s=s'):down J s=down J s':=by rw [h]
@[congr] theorem Kk (w:Bool) (yes no:Prop) {g g':Option SV} (h:g=g'):gQ w yes no g=gQ w yes no g':=by rw [h]
@[congr] theorem Mf {a a' b b':Option SV} (k:SV→Prop) {c c':AV} (ha:a=a') (hb:b=b') (hc:c=c'):rQ a b k c=rQ a' b' k c':=by rw [ha,hb,hc]
@[congr] theorem Mg (a b:Prop) {c c':AV} (h:c=c'):mV a b c=mV a b c':=by rw [h]
@[congr] theorem Nu (sz:Option Nat) (bx:List (Nat × bA)) (k:SV→Prop) {v v':SV} (h:v=v'):IU sz bx k v=IU sz bx k v':=by rw [h]
@[congr] theorem Nv (off:Nat) (k:SV→Prop) {v v':SV} (h:v=v'):Jv off k v=Jv off k v':=by rw [h]
@[congr] theorem Nw {d d':Nat} (k:SV→Prop) {v v':SV} (h:v=v') (hd:d=d'):Jz d k v=Jz d' k v':=by rw [h,hd]
@[congr] theorem Nx (sz:Nat) (bx:List (Nat × bA)) {u u':Option SV} (k:List (Nat × bA)→Prop) {v v':SV} (hu:u=u') (h:v=v'):Mc sz bx u k v=Mc sz bx u' k v':=by rw [h,hu]
@[congr] theorem Ny (sz off:Nat) (x:bA) (k:bA→Prop) {v v':SV} (h:v=v'):Js sz off x k v=Js sz off x k v':=by rw [h]
@[congr] theorem MM (k:List AV→Prop) {v v':AV} (h:v=v'):xN k v=xN k v':=by rw [h]
@[congr] theorem Nz (m:Bool) (k:AV→Prop) {v v':List AV} (h:v=v'):JU m k v=JU m k v':=by rw [h]
@[congr] theorem NA (k:SV→Prop) {v v':SV} (h:v=v'):IX k v=IX k v':=by rw [h]
end
section
variable (k:IntKind) (x y:Int)
theorem Kl:cK .add (.int k x) (.int k y)=some (.int k (k.wrap (x + y))):=by simp [cK,kZ]
theorem Km:cK .sub (.int k x) (.int k y)=some (.int k (k.wrap (x - y))):=by simp [cK,kZ]
theorem Ko:cK .mul (.int k x) (.int k y)=some (.int k (k.wrap (x * y))):=by simp [cK,kZ]
theorem Kq:cK .eql (.int k x) (.int k y)=some (.bool (x == y)):=by simp [cK,kZ]
theorem Kr:cK .neq (.int k x) (.int k y)=some (.bool (x != y)):=by simp [cK,kZ]
theorem Ks:cK .lss (.int k x) (.int k y)=some (.bool (decide (x < y))):=by simp [cK,kZ]
theorem Kt:cK .leq (.int k x) (.int k y)=some (.bool (decide (x≤y))):=by simp [cK,kZ]
theorem Ku:cK .gtr (.int k x) (.int k y)=some (.bool (decide (y < x))):=by simp [cK,kZ]
theorem Kv:cK .geq (.int k x) (.int k y)=some (.bool (decide (y≤x))):=by simp [cK,kZ]
def d7 (k:IntKind) (x y:Int):Int:=k.wrap (BitVec.ofInt k.bits x &&& BitVec.ofInt k.bits y).toNat
def tJ (k:IntKind) (x y:Int):Int:=k.wrap (BitVec.ofInt k.bits x ||| BitVec.ofInt k.bits y).toNat
def qp (k:IntKind) (x y:Int):Int:=k.wrap (BitVec.ofInt k.bits x ^^^ BitVec.ofInt k.bits y).toNat
def gy (k:IntKind) (x y:Int):Int:=k.wrap (BitVec.ofInt k.bits x &&& ~~~BitVec.ofInt k.bits y).toNat
theorem Kw:cK .and (.int k x) (.int k y)=some (.int k (d7 k x y)):=by simp [cK,kZ,pO,d7]
theorem MN:cK .or (.int k x) (.int k y)=some (.int k (tJ k x y)):=by simp [cK,kZ,pO,tJ]
theorem Kx:cK .xor (.int k x) (.int k y)=some (.int k (qp k x y)):=by simp [cK,kZ,pO,qp]
theorem BG:cK .andNot (.int k x) (.int k y)=some (.int k (gy k x y)):=by simp [cK,kZ,pO,gy]
def kV (c:Prop) [Decidable c] (v:AV):Option AV:=if c then some v else none
theorem Eb (c:Prop) [Decidable c] (v:AV) (K:AV→Prop):@wv _ (kV c v) ⟨K⟩=(c∧K v):=by
 rw [← gP]; unfold kV; split<;>simp_all
theorem Ky:cK .quo (.int k x) (.int k y)=kV (y≠0) (.int k (k.wrap (x.tdiv y))):=by
 by_cases h:y=0<;>simp [cK,kZ,kV,h]
theorem Kz:cK .rem (.int k x) (.int k y)=kV (y≠0) (.int k (x.tmod y)):=by
 by_cases h:y=0<;>simp [cK,kZ,kV,h]
theorem KA (k':IntKind):cK .shl (.int k x) (.int k' y)=kV (0≤y) (.int k (k.wrap (x * 2 ^ min y.toNat k.bits))):=by
 by_cases h:0≤y
 ·have:¬ y < 0:=by omega
  simp [cK,lg,kV,h,this]
 ·have:y < 0:=by omega
  simp [cK,lg,kV,this]
theorem KB (k':IntKind):cK .shr (.int k x) (.int k' y)=kV (0≤y) (.int k (x.fdiv (2 ^ min y.toNat k.bits))):=by
 by_cases h:0≤y
 ·have:¬ y < 0:=by omega
  simp [cK,lg,kV,h,this]
 ·have:y < 0:=by omega
  simp [cK,lg,kV,this]
theorem KC (x y:Bool):IP false (.bool x) (.bool y)=some (.bool (x == y)):=rfl
theorem KD (x y:Bool):IP true (.bool x) (.bool y)=some (.bool (x != y)):=rfl
theorem KE (b:Bool):IQ .not (.bool b)=some (.bool !b):=rfl
theorem KG:IQ .neg (.int k x)=some (.int k (k.wrap (0 - x))):=rfl
theorem KH:vY false .aN=some true:=rfl
theorem KI:vY true .aN=some false:=rfl
theorem KJ (xs:List (List AV)):vY false (.sl xs)=some false:=rfl
theorem KK (xs:List (List AV)):vY true (.sl xs)=some true:=rfl
theorem KL:mZ .aN=some (.int .i64 0):=rfl
theorem MO (xs:List (List AV)):mZ (.sl xs)=some (.int .i64 xs.length):=rfl
theorem MP (k':IntKind):tP k (.int k' x)=some (.int k (k.wrap x)):=rfl
theorem MQ (k':IntKind) (f:FloatKind):qQ f (.int k' x)=some (.float f (f.nearest x)):=rfl
theorem KM (vs:List AV) (i:Nat):AN (.oS vs) i=vs[i]?:=rfl
theorem KN (cs:List AV):eK (.agg cs) none=true:=rfl
theorem KO (q:Option Nat):eK (.int k x) q=true:=rfl
theorem KQ (b:Bool) (q:Option Nat):eK (.bool b) q=true:=rfl
theorem KR (f:FloatKind) (n:Nat) (q:Option Nat):eK (.float f n) q=true:=rfl
theorem KS (q:Option Nat):eK .aN q=true:=rfl
theorem KT (xs:List (List AV)) (q:Option Nat):eK (.sl xs) q=true:=rfl
theorem KU (b:ByteArray) (q:Option Nat):eK (.str b) q=true:=rfl
theorem KV (f:Fn) (as bs:List AV) (q:Option Nat):eK (.fn f as bs) q=true:=rfl
theorem Hj (cs:List AV) (q:Option Nat):eK (.ref cs) q=true:=rfl
theorem KY (q:Option Nat):eK .qN q=true:=rfl
theorem z6 (cs:List AV):AV.cells (.agg cs)=cs:=rfl
theorem z7:AV.cells (.int k x)=[.int k x]:=rfl
theorem xO (b:Bool):AV.cells (.bool b)=[.bool b]:=rfl
theorem wM (f:FloatKind) (n:Nat):AV.cells (.float f n)=[.float f n]:=rfl
theorem xP:AV.cells .aN=[.aN]:=rfl
theorem z8 (cs:List AV):AV.cells (.ref cs)=[.ref cs]:=rfl
theorem BH (f:Fn) (as bs:List AV):AV.cells (.fn f as bs)=[.fn f as bs]:=rfl
theorem BI (xs:List (List AV)):AV.cells (.sl xs)=[.sl xs]:=rfl
theorem pq (cs:List AV) (off:Nat):aU cs off none=cs[off]?:=rfl
theorem d8 (cs:List AV) (off n:Nat) (h:off + n≤cs.length):aU cs off (some n)=some (.agg ((cs.drop off).take n)):=by simp [aU,h]
end
theorem aW {w:Bool} {yes no:Prop} {t:Bool} {q:Option Nat} (h1:t=true→@gd w (some (.dat (.bool true) q)) ⟨yes,no⟩) (h2:t=false→@gd w (some (.dat (.bool false) q)) ⟨yes,no⟩):@gd w (some (.dat (.bool t) q)) ⟨yes,no⟩:=by
 cases t
 ·exact h2 rfl
 ·exact h1 rfl
theorem an {a b:Prop} {t:Bool} (h1:t=true→a) (h2:t=false→b):@cd (.bool t) ⟨a,b⟩:=by
 cases t
 ·simpa [cd,mV] using h2 rfl
 ·simpa [cd,mV] using h1 rfl
theorem bh {a b:Option SV} {k:SV→Prop} {t:Bool} (h1:t=true→@pk a b (.bool true) ⟨k⟩) (h2:t=false→@pk a b (.bool false) ⟨k⟩):@pk a b (.bool t) ⟨k⟩:=by
 cases t
 ·exact h2 rfl
 ·exact h1 rfl
theorem Ec (p:Nat) (ps:List Nat) (x:AV) (xs:List AV) (s:S):lA (p :: ps) (x :: xs) s=lA ps xs (s.put (some p) (.dat x none)):=rfl
theorem BJ (s:S):lA [] [] s=s:=rfl
theorem Hl (wr:List Nat) (sl:List (Nat × SV)) (bx:List (Nat × bA)) (lv:List (Nat × Nat)) (nx:Nat):qV wr ⟨sl,bx,lv,nx⟩=⟨tE wr sl,bx,lv,nx⟩:=rfl
theorem Ed (wr:List Nat):tE wr []=[]:=rfl
theorem Ho (wr:List Nat) (t:Nat) (v:SV) (r:List (Nat × SV)):tE wr ((t,v) :: r)=bif wr.contains t then tE wr r else (t,v) :: tE wr r:=rfl
theorem Hp (wr:List Nat) (F:S→Prop) (Q:Exit→S→Prop) (s:S):yw wr F Q .normal s=down F (qV wr s):=rfl
theorem Hq (wr:List Nat) (F:S→Prop) (Q:Exit→S→Prop) (s:S):yw wr F Q .ret s=Q .ret (qV wr s):=rfl
theorem Hr (wr:List Nat) (F:S→Prop) (Q:Exit→S→Prop) (id:Nat) (s:S):yw wr F Q (.exit id) s=Q (.exit id) (qV wr s):=rfl
theorem Ee (K:S→Prop) (s:S):nU K .normal s=K s:=rfl
def NO :=
 And.intro @Gk (And.intro @Gl (And.intro @Gm (And.intro @Jm (And.intro @Mt (And.intro @Jn (And.intro @Jo (And.intro @wK (And.intro @qe (And.intro @ot (And.intro @lN (And.intro @Gn (And.intro @Gp (And.intro @Dw (And.intro @Jp (And.intro @Gq (And.intro @Gs (And.intro @Gt (And.intro @Dx (And.intro @Gu (And.intro @Dy (And.intro @Dz (And.intro @DA (And.intro @DB (And.intro @Bg (And.intro @DC (And.intro @Gv (And.intro @DD (And.intro @Bh (@Bi)))))))))))))))))))))))))))))
def NP :=
 And.intro @zU (And.intro @Bj (And.intro @zV (And.intro @Mu (And.intro @Gw (And.intro @DE (And.intro @DG (And.intro @DH (And.intro @Jq (And.intro @Mv (And.intro @Gx (And.intro @Gy (And.intro @Jr (And.intro @Mw (And.intro @Jt (And.intro @Ju (And.intro @DI (And.intro @DJ (And.intro @Mx (And.intro @Jw (And.intro @Jy (And.intro @JA (And.intro @JB (And.intro @JC (And.intro @JD (And.intro @JE (And.intro @Gz (And.intro @DK (And.intro @JF (@JG)))))))))))))))))))))))))))))
def NQ :=
 And.intro @JH (And.intro @JI (And.intro @JJ (And.intro @My (And.intro @Mz (And.intro @GA (And.intro @GB (And.intro @GC (And.intro @GD (And.intro @MA (And.intro @MB (And.intro @MC (And.intro @MD (And.intro @JK (And.intro @GG (And.intro @GH (And.intro @JM (And.intro @GI (And.intro @GJ (And.intro @GK (And.intro @Bk (And.intro @Bl (And.intro @Bm (And.intro @GL (And.intro @JO (And.intro @Bn (And.intro @DL (And.intro @DM (And.intro @Bo (@DN)))))))))))))))))))))))))))))
def NR :=
 And.intro @DO (And.intro @zW (And.intro @Bp (And.intro @zX (And.intro @Bq (And.intro @Br (And.intro @DP (And.intro @DQ (And.intro @Bt (And.intro @Bu (And.intro @DR (And.intro @Bv (And.intro @Bw (And.intro @zY (And.intro @zZ (And.intro @JP (And.intro @JQ (And.intro @GM (And.intro @GN (And.intro @GO (And.intro @GP (And.intro @DS (And.intro @GQ (And.intro @DT (And.intro @GR (And.intro @DU (And.intro @GS (And.intro @By (And.intro @Bz (@BA)))))))))))))))))))))))))))))
def NS :=
 And.intro @GU (And.intro @JR (And.intro @GV (And.intro @JT (And.intro @ME (And.intro @JV (And.intro @JW (And.intro @GW (And.intro @DW (And.intro @BB (And.intro @z4 (And.intro @JX (And.intro @DX (And.intro @BC (And.intro @JY (And.intro @JZ (And.intro @DY (And.intro @GY (And.intro @DZ (And.intro @GZ (And.intro @G0 (And.intro @J0 (And.intro @G1 (And.intro @MF (And.intro @J1 (And.intro @J2 (And.intro @J3 (And.intro @G2 (And.intro @J4 (@J5)))))))))))))))))))))))))))))
def NT :=
 And.intro @G4 (And.intro @G5 (And.intro @J6 (And.intro @BD (And.intro @G6 (And.intro @J8 (And.intro @G7 (And.intro @G8 (And.intro @D0 (And.intro @D1 (And.intro @D2 (And.intro @D3 (And.intro @D4 (And.intro @G9 (And.intro @J9 (And.intro @D5 (And.intro @D6 (And.intro @He (And.intro @D7 (And.intro @Hf (And.intro @Ka (And.intro @Kb (And.intro @Kc (And.intro @Ke (And.intro @Kf (And.intro @Kg (And.intro @Kh (And.intro @D8 (And.intro @D9 (@Ea)))))))))))))))))))))))))))))
def NU :=
 And.intro @Hg (And.intro @Hh (And.intro @Hi (And.intro @Kl (And.intro @Km (And.intro @Ko (And.intro @Kq (And.intro @Kr (And.intro @Ks (And.intro @Kt (And.intro @Ku (And.intro @Kv (And.intro @Kw (And.intro @MN (And.intro @Kx (And.intro @BG (And.intro @Eb (And.intro @Ky (And.intro @Kz (And.intro @KA (And.intro @KB (And.intro @KC (And.intro @KD (And.intro @KE (And.intro @KG (And.intro @KH (And.intro @KI (And.intro @KJ (And.intro @KK (@KL)))))))))))))))))))))))))))))
def NV :=
 And.intro @MO (And.intro @MP (And.intro @MQ (And.intro @KM (And.intro @KN (And.intro @KO (And.intro @KQ (And.intro @KR (And.intro @KS (And.intro @KT (And.intro @KU (And.intro @KV (And.intro @Hj (And.intro @KY (And.intro @z6 (And.intro @z7 (And.intro @xO (And.intro @wM (And.intro @xP (And.intro @z8 (And.intro @BH (And.intro @BI (And.intro @pq (And.intro @Ec (And.intro @BJ (And.intro @Hl (And.intro @Ed (And.intro @Ho (And.intro @Hp (@Hq)))))))))))))))))))))))))))))
def NW :=
 And.intro @Hr (@Ee)
def EV :=
 And.intro @NO (And.intro @NP (And.intro @NQ (And.intro @NR (And.intro @NS (And.intro @NT (And.intro @NU (And.intro @NV (@NW))))))))
end Go.Eng
namespace Go.Eng
open Go
section
variable {C:bI}
theorem ou {id:Nat} {o:aZ} {K K':SV→S→Prop} {s:S} (hk:∀ v s',K v s'→K' v s') (h:aV C id o K s):aV C id o K' s:=by
 obtain ⟨v,d,hK,_,_,hs⟩:=lI h
 exact hs.2 s .refl K' (hk _ _ hK)
theorem pz {base:Nat}:∀ {l:List CO} {i:Nat} {s:S} {K K':S→Prop},(∀ s,K s→K' s)→fq C base i l K s→fq C base i l K' s
 | [],i,s,K,K',hk,h=>hk s h
 | o :: l,i,s,K,K',hk,h=>by
  rw [iK] at h ⊢
  obtain ⟨v,d,hd,hk',_⟩:=cA h
  exact hd.2 s .refl _ (pz hk hk')
theorem z9 {id:Nat} {o:AJ} {K K':SV→S→Prop} {X X':AV→S→Prop} {s:S} (hk:∀ v s',K v s'→K' v s') (hx:∀ p s',X p s'→X' p s') (h:bz C id o K X s):bz C id o K' X' s:=by
 cases o with
 | o c=>exact ou hk h
 | call f args =>
  simp only [bz] at h ⊢
  rcases h with h|h
  ·exact .inl (ou hk h)
  ·obtain ⟨as,has,h⟩:=af h
   rw [has]
   rcases h with ⟨cs,h1,h2⟩|⟨p,h1,h2⟩
   ·exact .inr (.inl ⟨cs,h1,hk _ _ h2⟩)
   ·exact .inr (.inr ⟨p,h1,hx _ _ h2⟩)
 | dX f args =>
  simp only [bz] at h ⊢
  rcases h with h|h
  ·exact .inl (ou hk h)
  ·obtain ⟨p,hp,hn,h⟩:=af h
   obtain ⟨css,hcs,v,css',h1,h2⟩:=af h
   rw [hp]
   exact .inr ⟨hn,by rw [hcs]; exact ⟨v,css',h1,hx _ _ h2⟩⟩
 | dw b g args =>
  simp only [bz] at h ⊢
  split at h
  ·obtain ⟨p,hp,hn,h⟩:=af h
   obtain ⟨css,hcs,h⟩:=af h
   rw [hp]
   refine ⟨hn,?_⟩
   rw [hcs]
   rcases h with ⟨r,fr,css',h1,h2⟩|⟨v,css',h1,h2⟩
   ·exact .inl ⟨r,fr,css',h1,hk _ _ h2⟩
   ·exact .inr ⟨v,css',h1,hx _ _ h2⟩
  ·exact ou hk h
 | IL f caps=>obtain ⟨p,hp,h⟩:=af h; simp only [bz,hp]; exact hk _ _ h
 | I7 x=>obtain ⟨a,ha,h1,h2⟩:=af h; simp only [bz,ha]; exact ⟨h1,hx _ _ h2⟩
 | I8 t x=>obtain ⟨a,ha,h1,h2⟩:=af h; simp only [bz,ha]; exact ⟨h1,hk _ _ h2⟩
 | I9 t z x =>
  obtain ⟨a,ha,h⟩:=af h
  obtain ⟨v,hv,h⟩:=af h
  simp only [bz,ha,aq,hv]; exact hk _ _ h
 | IM neg x =>
  obtain ⟨a,ha,h⟩:=af h
  obtain ⟨v,hv,h⟩:=af h
  simp only [bz,ha,aq,hv]; exact hk _ _ h
 | IN neg x =>
  obtain ⟨a,ha,h⟩:=af h
  obtain ⟨v,hv,h⟩:=af h
  simp only [bz,ha,aq,hv]; exact hk _ _ h
 | Ja e bytes l c =>
  obtain ⟨a,ha,h⟩:=af h
  obtain ⟨l',hl,h⟩:=af h
  obtain ⟨b,hb,h⟩:=af h
  obtain ⟨c',hc,h1,h⟩:=af h
  simp only [bz,ha,aq,hl,hb,hc]; exact ⟨h1,hk _ _ h⟩
 | Jb e x y =>
  obtain ⟨p,hp,h⟩:=af h
  simp only [bz,hp,aq]
  cases p<;>try (exact h.elim)
  obtain ⟨b,hb,h⟩:=af h
  obtain ⟨ys,hy,h1,h2,h⟩:=af h
  simp only [hb,aq,hy]; exact ⟨h1,h2,hk _ _ h⟩
theorem wN {s:S} {g:Option (Nat × Bool)} {y y' n n':Prop} (hy:y→y') (hn:n→n') (h:cv s g y n):cv s g y' n':=by
 unfold cv at h ⊢
 split at h
 ·exact hy h
 ·split at h
  ·exact ⟨fun e=>hy (h.1 e),fun e=>hn (h.2 e)⟩
  ·exact hn h
  ·exact h.elim
theorem nu {base:Nat}:∀ {l:List XO} {i:Nat} {s:S} {K K':S→Prop} {X X':AV→S→Prop},(∀ s,K s→K' s)→(∀ p s',X p s'→X' p s')→ct C base i l K X s→ct C base i l K' X' s
 | [],i,s,K,K',X,X',hk,hx,h=>hk s h
 | o :: l,i,s,K,K',X,X',hk,hx,h=>wN (z9 (fun v s' h=>nu hk hx h) hx) (nu hk hx) h
theorem gp {F G:S→Prop} (h:∀ s,F s→G s) {s:S} (hd:down F s):down G s:=by
 obtain ⟨s1,⟨hl,hF⟩|hF⟩:=hd
 ·exact ⟨s1,.inl ⟨hl,h _ hF⟩⟩
 ·exact ⟨s1,.inr (h _ hF)⟩
theorem e7 {F G:S→Prop} {Q Q':Exit→S→Prop} (h:∀ s,F s→G s) (hq:∀ e s,Q e s→Q' e s) {e:Exit} {s:S} (ha:gk F Q e s):gk G Q' e s:=by
 cases e<;>first | exact h _ ha | exact hq _ _ ha
theorem wO {id:Nat} {Q Q':Exit→S→Prop} (hq:∀ e s,Q e s→Q' e s) {e:Exit} {s:S} (ha:dF id Q e s):dF id Q' e s:=by
 cases e with
 | exit i =>
  simp only [dF] at ha ⊢
  split
  ·rename_i hi; rw [if_pos hi] at ha; exact hq _ _ ha
  ·rename_i hi; rw [if_neg hi] at ha; exact hq _ _ ha
 | _=>exact hq _ _ ha
theorem kz {F G:(Exit→S→Prop)→S→Prop} (hF:∀ Q Q' s,(∀ e s,Q e s→Q' e s)→F Q s→G Q' s) {Q Q':Exit→S→Prop} (hq:∀ e s,Q e s→Q' e s):∀ {n:Nat} {s:S},jl F Q n s→jl G Q' n s
 | 0,s,h=>h
 | n + 1,s,h=>hF _ _ s (fun e s ha=>e7 (fun s hd=>gp (fun s h=>kz hF hq h) hd) hq ha) h
theorem BK {wr:List Nat} {F:S→Prop} {Q Q':Exit→S→Prop} (hq:∀ e s,Q e s→Q' e s) {e:Exit} {s:S} (h:yw wr F Q e s):yw wr F Q' e s:=by
 cases e<;>first | exact h | exact hq _ _ h
theorem gz:∀ {c:aK} {Q Q':Exit→S→Prop} {s:S},(∀ e s,Q e s→Q' e s)→aw C c Q s→aw C c Q' s:=by
 intro c
 induction c with
 | skip=>intro Q Q' s hq h; exact hq _ _ h
 | AK ops=>intro Q Q' s hq h; exact pz (fun s h=>hq _ _ h) h
 | eI ops=>intro Q Q' s hq h; exact nu (fun s h=>hq _ _ h) (fun p s h=>hq _ _ h) h
 | vW ops er =>
  intro Q Q' s hq h
  obtain ⟨ids,hids,h⟩:=h
  obtain ⟨css,hcss,ro,hd,h⟩:=af h
  exact ⟨ids,hids,by rw [hcss]; exact ⟨ro,hd,pz (fun s h=>hq _ _ h) h⟩⟩
 | seq a b iha ihb=>intro Q Q' s hq h; exact iha (fun e s ha=>e7 (fun s h=>ihb hq h) hq ha) h
 | join a b iha ihb=>intro Q Q' s hq h; exact iha (fun e s ha=>e7 (fun s h=>gp (fun s h=>ihb hq h) h) hq ha) h
 | cond c a b iha ihb =>
  intro Q Q' s hq h
  simp only [aw] at h ⊢
  obtain ⟨v,hv,h⟩:=af h
  rw [hv]
  cases v<;>try (exact h.elim)
  exact ⟨fun e=>iha hq (h.1 e),fun e=>ihb hq (h.2 e)⟩
 | block id c ih=>intro Q Q' s hq h; exact ih (fun e s ha=>wO hq ha) h
 | loop c ih =>
  intro Q Q' s hq h
  exact gp (fun s ⟨n,h⟩=>⟨n,kz (F:=aw C c) (G:=aw C c) (fun Q Q' s hq h=>ih hq h) hq h⟩) h
 | exit id=>intro Q Q' s hq h; exact hq _ _ h
 | ret=>intro Q Q' s hq h; exact hq _ _ h
 | label l=>intro Q Q' s hq h; exact hq _ _ h
 | goto l=>intro Q Q' s hq h; exact hq _ _ h
 | scope l c r ihc ihr =>
  intro Q Q' s hq h
  refine ihc (fun e s ha=>?_) h
  cases e with
  | goto l' =>
   refine ⟨ha.1,ihr (fun e s hb=>?_) ha.2⟩
   cases e<;>first | exact hb | exact hq _ _ hb
  | _=>exact hq _ _ ha
 | tA g ps wr as bd iha ihb =>
  intro Q Q' s hq h
  simp only [aw] at h ⊢
  obtain ⟨gv,hgv,xs,h1,h2,F,h3,h4,h5,h6⟩:=af h
  rw [hgv]
  refine ⟨xs,h1,h2,F,h3,h4,fun i x s' hx hs=>iha (fun e s ha=>?_) (h5 i x s' hx hs),fun s' hs=>hq _ _ (h6 s' hs)⟩
  cases e<;>first | exact ha.elim | exact ihb (fun e s hb=>BK hq hb) ha
def flat (keep:List Nat):Nat→aK→aK × Nat
 | i,.join a b =>
  let p:=flat keep (i + 1) a
  let q:=flat keep p.2 b
  (if keep.contains i then .join p.1 q.1 else .seq p.1 q.1,q.2)
 | i,.seq a b =>
  let p:=flat keep i a
  let q:=flat keep p.2 b
  (.seq p.1 q.1,q.2)
 | i,.cond c a b =>
  let p:=flat keep i a
  let q:=flat keep p.2 b
  (.cond c p.1 q.1,q.2)
 | i,.block id c=>(.block id (flat keep i c).1,(flat keep i c).2)
 | i,.tA g ps wr as bd =>
  let p:=flat keep i as
  let q:=flat keep p.2 bd
  (.tA g ps wr p.1 q.1,q.2)
 | i,.loop c=>(.loop (flat keep i c).1,(flat keep i c).2)
 | i,.scope l c r =>
  let p:=flat keep i c
  let q:=flat keep p.2 r
  (.scope l p.1 q.1,q.2)
 | i,c=>(c,i)
theorem aC {keep:List Nat}:∀ {c:aK} {i:Nat} {Q:Exit→S→Prop} {s:S},aw C (flat keep i c).1 Q s→aw C c Q s:=by
 intro c
 induction c with
 | join a b iha ihb =>
  intro i Q s h
  simp only [flat] at h
  split at h
  ·exact iha (gz (fun e s ha=>e7 (fun s h=>gp (fun s h=>ihb h) h) (fun _ _ h=>h) ha) h)
  ·exact iha (gz (fun e s ha=>e7 (fun s h=>ez (ihb h)) (fun _ _ h=>h) ha) h)
 | seq a b iha ihb=>intro i Q s h; exact iha (gz (fun e s ha=>e7 (fun s h=>ihb h) (fun _ _ h=>h) ha) h)
 | cond c a b iha ihb =>
  intro i Q s h
  simp only [flat,aw] at h ⊢
  obtain ⟨v,hv,h⟩:=af h
  rw [hv]
  cases v<;>try (exact h.elim)
  exact ⟨fun e=>iha (h.1 e),fun e=>ihb (h.2 e)⟩
 | block id c ih=>intro i Q s h; exact ih h
 | scope l c r ihc ihr =>
  intro i Q s h
  refine ihc (gz (fun e s ha=>?_) h)
  cases e with
  | goto l'=>exact ⟨ha.1,ihr ha.2⟩
  | _=>exact ha
 | tA g ps wr as bd iha ihb =>
  intro i Q s h
  simp only [flat,aw] at h ⊢
  obtain ⟨gv,hgv,xs,h1,h2,F,h3,h4,h5,h6⟩:=af h
  rw [hgv]
  refine ⟨xs,h1,h2,F,h3,h4,fun i x s' hx hs=>iha (gz (fun e s ha=>?_) (h5 i x s' hx hs)),h6⟩
  cases e<;>first | exact ha.elim | exact ihb ha
 | loop c ih =>
  intro i Q s h
  exact gp (fun s ⟨n,h⟩=>⟨n,kz (F:=aw C (flat keep i c).1) (G:=aw C c) (fun Q Q' s hq h=>gz hq (ih h)) (fun _ _ h=>h) h⟩) h
 | _=>intro i Q s h; exact h
theorem Ef {c:aK} {Q:Exit→S→Prop} {α:Type} (hd:α→S) (μ:α→Nat) (I:α→Prop)
  (round:∀ x,I x→aw C c (gk (down fun s=>∃ y,s=hd y∧I y∧μ y < μ x) Q) (hd x)) {x:α} (hx:I x) {s:S} (h0:Le s (hd x)∨s=hd x):aw C (.loop c) Q s:=by
 have key:∀ n x,I x→μ x < n→jl (aw C c) Q n (hd x):=by
  intro n
  induction n with
  | zero=>intro x _ h; omega
  | succ n ih =>
   intro x hx hn
   refine gz ?_ (round x hx)
   intro e s ha
   refine e7 ?_ (fun _ _ h=>h) ha
   intro s hd
   refine gp ?_ hd
   rintro s ⟨y,rfl,hy,hlt⟩
   exact ih y hy (by omega)
 rcases h0 with h0|rfl
 ·exact ⟨hd x,.inl ⟨h0,μ x + 1,key _ x hx (by omega)⟩⟩
 ·exact ez ⟨μ x + 1,key _ x hx (by omega)⟩
end
theorem KZ (k:IntKind) (n:Int):eO (.int k n)=.dat (.int k n) none:=rfl
theorem Hs (b:Bool):eO (.bool b)=.dat (.bool b) none:=rfl
theorem Eg (k:FloatKind) (n:Nat):eO (.float k n)=.dat (.float k n) none:=rfl
theorem K0 (s:ByteArray):eO (.str s)=.dat (.str s) none:=rfl
theorem Ht:eO .qk=.dat .qk none:=rfl
theorem Hu:eO .aN=.dat .aN none:=rfl
theorem MR (xs:List (List AV)):eO (.sl xs)=.dat (.sl xs) none:=rfl
theorem MS (f:Fn) (as bs:List AV):eO (.fn f as bs)=.dat (.fn f as bs) none:=rfl
theorem K1 (cs:List AV):eO (.agg cs)=.dat (.agg cs) none:=rfl
theorem K2 (cs:List AV):eO (.ref cs)=.rp cs:=rfl
theorem Eh (i:Nat) (a:AV) (r:List AV):slotsOf i (a :: r)=(i,eO a) :: slotsOf (i + 1) r:=rfl
theorem BL (i:Nat):slotsOf i []=[]:=rfl
theorem Hv (as:List AV):Bd as=⟨slotsOf 0 as,[],[],4⟩:=rfl
theorem Aa (i k:Nat) (a:AV) (r:List (Option AV)):gO i k (some a :: r)=(i,eO a) :: gO (i + 1) k r:=rfl
theorem Ab (i k:Nat) (r:List (Option AV)):gO i k (none :: r)=(i,.ptr k 0) :: gO (i + 1) (k + 1) r:=rfl
theorem Ad (i k:Nat):gO i k []=[]:=rfl
theorem BM (k:Nat) (cs:List AV) (css:List (List AV)):lM k (cs :: css)=(k,⟨cs,[]⟩) :: lM (k + 1) css:=rfl
theorem Ae (k:Nat):lM k []=[]:=rfl
theorem Ei (css:List (List AV)) (as:List (Option AV)):yQ css as=⟨gO 0 0 as,lM 0 css,[],4⟩:=rfl
theorem Hw (res:List eA) (r:AV) (s:S):fin res r none .normal s=ah (ck s res) fun p=>p.1=r:=by simp [fin,xL]
theorem Hx (res:List eA) (r:AV) (s:S):fin res r none .ret s=ah (ck s res) fun p=>p.1=r:=by simp [fin,xL]
theorem Hy (res:List eA) (r:AV) (e:Nat) (s:S):fin res r (some e) .normal s=ah (ck s res) fun p=>p.1=r∧xL (some e) p.2 s.live:=rfl
theorem Hz (res:List eA) (r:AV) (e:Nat) (s:S):fin res r (some e) .ret s=ah (ck s res) fun p=>p.1=r∧xL (some e) p.2 s.live:=rfl
theorem MT (e q:Nat) (lv:List (Nat × Nat)):xL (some e) (some q) lv=(cw q lv=some e):=rfl
theorem Ej (res:List eA) (r:AV) (css:List (List AV)) (s:S):zT res r none css .normal s=ah (ck s res) fun p=>p.1=r∧gm s.boxes 0 css:=by simp [zT,xL]
theorem Ek (res:List eA) (r:AV) (css:List (List AV)) (s:S):zT res r none css .ret s=ah (ck s res) fun p=>p.1=r∧gm s.boxes 0 css:=by simp [zT,xL]
theorem El (l:List (Nat × bA)) (k:Nat):gm l k []=True:=rfl
theorem HA (l:List (Nat × bA)) (k:Nat) (cs:List AV) (css:List (List AV)):gm l k (cs :: css)=(ah (bF k l) (fun x=>x.cells=cs)∧gm l (k + 1) css):=rfl
def BN:Option SV→Option (AV × Option Nat)
 | some (.dat a q)=>some (a,q)
 | _=>none
theorem HB (a:AV) (q:Option Nat):BN (some (.dat a q))=some (a,q):=rfl
theorem HC (s:S) (t:Nat):ck s [.tmp t]=BN (lk t s.slots):=rfl
def BO (sz:Option Nat) (bx:List (Nat × bA)):Option SV→Option (AV × Option Nat)
 | some (.ptr b off)=>match bF b bx with
  | some x=>match aU x.cells off sz with
   | some a=>some (a,match sz with | none=>cw off x.tags | some _=>none)
   | none=>none
  | none=>none
 | _=>none
def um (off:Nat) (sz:Option Nat):Option bA→Option (AV × Option Nat)
 | some x=>match aU x.cells off sz with
  | some a=>some (a,match sz with | none=>cw off x.tags | some _=>none)
  | none=>none
 | none=>none
theorem HD (s:S) (t:Nat) (sz:Option Nat):ck s [.cell t sz]=BO sz s.boxes (lk t s.slots):=rfl
theorem Em (sz:Option Nat) (bx:List (Nat × bA)) (b off:Nat):BO sz bx (some (.ptr b off))=um off sz (bF b bx):=by
 simp only [BO,um]
theorem En (off n:Nat) (x:bA):um off (some n) (some x)=(aU x.cells off (some n)).map fun a=>(a,none):=by
 simp only [um]<;>cases aU x.cells off (some n)<;>rfl
theorem Eo (off:Nat) (x:bA):um off none (some x)=(x.cells[off]?).map fun a=>(a,cw off x.tags):=by
 simp only [um,aU]<;>cases x.cells[off]?<;>rfl
theorem HE (s:S):ck s []=some (.oS [],none):=rfl
theorem HF (s:S) (x y:eA) (r:List eA):ck s (x :: y :: r)=(iV s (x :: y :: r)).map fun as=>(.oS as,none):=rfl
def BP:Option (AV × Option Nat)→Option (List AV)→Option (List AV)
 | some p,some as=>some (p.1 :: as)
 | _,_=>none
theorem Ep (a:AV) (q:Option Nat) (as:List AV):BP (some (a,q)) (some as)=some (a :: as):=rfl
theorem HG (s:S) (x:eA) (r:List eA):iV s (x :: r)=BP (ck s [x]) (iV s r):=by
 simp only [iV,BP,ck]<;>cases zS s x<;>cases iV s r<;>rfl
theorem Er (s:S):iV s []=some []:=rfl
def NX :=
 And.intro @KZ (And.intro @Hs (And.intro @Eg (And.intro @K0 (And.intro @Ht (And.intro @Hu (And.intro @MR (And.intro @MS (And.intro @K1 (And.intro @K2 (And.intro @Eh (And.intro @BL (And.intro @Hv (And.intro @Aa (And.intro @Ab (And.intro @Ad (And.intro @BM (And.intro @Ae (And.intro @Ei (And.intro @Hw (And.intro @Hx (And.intro @Hy (And.intro @Hz (And.intro @MT (And.intro @Ej (And.intro @Ek (And.intro @El (And.intro @HA (And.intro @HB (@HC)))))))))))))))))))))))))))))
def NY :=
 And.intro @HD (And.intro @Em (And.intro @En (And.intro @Eo (And.intro @HE (And.intro @HF (And.intro @Ep (And.intro @HG (@Er))))))))
def EW :=
 And.intro @NX (@NY)
end Go.Eng
namespace Go.Eng
open Go
abbrev I (n:Int):AV:=.int .i64 n
abbrev B (b:Bool):AV:=.bool b
abbrev D (n:Nat):AV:=.float .f64 n
def bH (n:Int):Int:=IntKind.i64.wrap n
def az {α:Type} (f:α→List AV):Option (List α)→AV
 | none=>.aN
 | some l=>.sl (l.map f)
def ak (n:Int):List AV:=[I n]
structure Ph where
 on:Bool
 min:Int
 HH:Int
 max:Int
 top:Int
 step:Int
 dR:Int
 red:Int
 walk:Int
 dI:Int
 kA:Int
 lock:Bool
 rest:Bool
 deriving Inhabited,DecidableEq
def Ph.cells (p:Ph):List AV:=[B p.on,I p.min,I p.HH,I p.max,I p.top,I p.step,I p.dR,I p.red,I p.walk,I p.dI,I p.kA,B p.lock,B p.rest]
structure lO where
 phase:Int
 on:Nat
 off:Nat
 delay:Nat
 extend:Nat
 maxOn:Int
 vg:Int
 deriving Inhabited,DecidableEq
def lO.cells (d:lO):List AV:=[I d.phase,D d.on,D d.off,D d.delay,D d.extend,I d.maxOn,I d.vg]
structure Rl where
 bars:Int
 clear:Int
 mW:Int
 exit:Int
 delay:Int
 green:Int
 mQ:Int
 hold:Int
 stay:Int
 most:Int
 limit:Int
 deriving Inhabited,DecidableEq
def Rl.cells (r:Rl):List AV:=[I r.bars,I r.clear,I r.mW,I r.exit,I r.delay,I r.green,I r.mQ,I r.hold,I r.stay,I r.most,I r.limit]
structure Bs where
 set:Int
 lock:Int
 deriving Inhabited,DecidableEq
def Bs.cells (b:Bs):List AV:=[I b.set,I b.lock]
structure Gr where
 a:Option (List Int)
 b:Option (List Int)
 deriving Inhabited,DecidableEq
def Gr.cells (g:Gr):List AV:=[az ak g.a,az ak g.b]
structure Tb where
 phases:List Ph
 groups:Option (List Gr)
 conflict:List Int
 bO:Option (List lO)
 aL:Option (List Rl)
 js:Option (List Bs)
 extend:Int
 e8:Int
 start:Int
 revert:Int
 least:Int
 br:List Int
 aG:Int
 share:Int
 deriving Inhabited,DecidableEq
def Tb.cells (t:Tb):List AV :=
 t.phases.flatMap Ph.cells++(az Gr.cells t.groups :: (t.conflict.map I++(az lO.cells t.bO :: az Rl.cells t.aL :: az Bs.cells t.js ::
  I t.extend :: I t.e8 :: I t.start :: I t.revert :: I t.least :: (t.br.map I++[I t.aG,I t.share]))))
structure Tb.Ok (t:Tb):Prop where
 phases:t.phases.length=8
 conflict:t.conflict.length=8
 br:t.br.length=8
 groups:(t.groups.getD []).length≤1048576
 rows:∀ g∈t.groups.getD [],(g.a.getD []).length≤1048576∧(g.b.getD []).length≤1048576
 NZ:(t.bO.getD []).length≤1048576
 aL:(t.aL.getD []).length≤1048576
 js:(t.js.getD []).length≤1048576
theorem aI {α:Type} {f:α→List AV} {z:Nat} (hf:∀ x,(f x).length=z):∀ {l:List α},(l.flatMap f).length=l.length * z
 | []=>by simp
 | x :: l=>by simp [List.flatMap_cons,hf,aI hf (l:=l),Nat.add_mul]; omega
theorem Ph.len (p:Ph):p.cells.length=13:=rfl
theorem Tb.len {t:Tb} (h:t.Ok):t.cells.length=131:=by
 simp [Tb.cells,aI Ph.len,h.phases,h.conflict,h.br]
theorem vh {α:Type}:∀ {l:List α} {i:Nat} {x:α},l[i]? = some x→l=l.take i++x :: l.drop (i + 1)
 | [],i,x,h=>by simp at h
 | y :: l,0,x,h=>by
  simp at h; subst h; simp
 | y :: l,i + 1,x,h=>by
  have:=vh (l:=l) (i:=i) (x:=x) (by simpa using h)
  simp only [List.take_succ_cons,List.drop_succ_cons,List.cons_append]
  exact congrArg (y :: ·) this
theorem nv {α:Type} {f:α→List AV} {l:List α} {i:Nat} {x:α} (h:l[i]? = some x):l.flatMap f=(l.take i).flatMap f++(f x++(l.drop (i + 1)).flatMap f):=by
 conv=>lhs; rw [vh h]
 rw [List.flatMap_append,List.flatMap_cons]
theorem lP {α:Type} {l:List α} {i:Nat} {x:α} (h:l[i]? = some x):(l.take i).length=i:=by
 have:=(List.getElem?_eq_some_iff.1 h).1
 simp; omega
theorem BQ {pre mid post:List AV} {off z:Nat} (h1:pre.length=off) (h2:mid.length=z):aU (pre++(mid++post)) off (some z)=some (.agg mid):=by
 subst h1 h2
 have hle:pre.length + mid.length≤(pre++(mid++post)).length:=by simp
 simp only [aU,hle,if_true,Option.some.injEq,AV.agg.injEq]
 simp
theorem yW {pre mid post ps:List AV} {off:Nat} (h1:pre.length=off) (h2:mid.length=ps.length):setCells (pre++(mid++post)) off ps=pre++(ps++post):=by
 subst h1
 simp only [setCells]
 rw [← h2]
 simp [List.drop_append]
theorem gA {cs ps:List AV} (h:cs.length=ps.length):setCells cs 0 ps=ps:=by
 simp only [setCells,List.take_zero,List.nil_append,Nat.zero_add,← h,List.drop_length,List.append_nil]
theorem Tb.nw {t:Tb} {i:Nat} {p:Ph} (h:t.phases[i]? = some p):aU t.cells (i * 13) (some 13)=some (.agg p.cells):=by
 unfold Tb.cells
 rw [nv h,List.append_assoc,List.append_assoc]
 exact BQ (by rw [aI Ph.len,lP h]) rfl
theorem BR {α:Type} {l:List α} {i:Nat} {x y:α} (h:l[i]? = some x):l.set i y=l.take i++y :: l.drop (i + 1):=by
 have hlt:=(List.getElem?_eq_some_iff.1 h).1
 rw [List.set_eq_take_append_cons_drop,if_pos hlt]
theorem Tb.Af {t:Tb} {i:Nat} {p q:Ph} (h:t.phases[i]? = some p):setCells t.cells (i * 13) q.cells={ t with phases:=t.phases.set i q }.cells:=by
 unfold Tb.cells
 simp only
 rw [BR h,List.flatMap_append,List.flatMap_cons]
 conv=>lhs; rw [nv h]
 rw [List.append_assoc,List.append_assoc,List.append_assoc,List.append_assoc]
 exact yW (by rw [aI Ph.len,lP h]) rfl
end Go.Eng
