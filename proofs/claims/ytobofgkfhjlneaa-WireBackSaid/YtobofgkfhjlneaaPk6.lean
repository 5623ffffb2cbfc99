/- The engine and the library,part 6 of 9: what the proofs of this seat need of them. -/
import Derived.Test.YtobofgkfhjlneaaPk5
set_option linter.unnecessarySimpa false
set_option linter.unusedSimpArgs false
set_option linter.unusedVariables false
set_option linter.defProp false
set_option maxRecDepth 10000
set_option maxHeartbeats 4000000
namespace Go.Eng
open Go
open Go.RowKit (Below)
def cR:AV→SV
 | .ref cs=>.rp cs
 | a=>.dat a none
def slotsOf:Nat→List AV→List (Nat × SV)
 | _,[]=>[]
 | i,a :: r=>(i,cR a) :: slotsOf (i + 1) r
def td (args:List AV):S:=⟨slotsOf 0 args,[],[],4⟩
def d8:Nat→Nat→List (Option AV)→List (Nat × SV)
 | _,_,[]=>[]
 | i,k,some a :: r=>(i,cR a) :: d8 (i + 1) k r
 | i,k,none :: r=>(i,.ptr k 0) :: d8 (i + 1) (k + 1) r
def gU:Nat→List (List AV)→List (Nat × aN)
 | _,[]=>[]
 | k,cs :: css=>(k,⟨cs,[]⟩) :: gU (k + 1) css
def gV (css:List (List AV)) (args:List (Option AV)):S:=⟨d8 0 0 args,gU 0 css,[],4⟩
def cS (l:List (Nat × aN)):Nat→List (List AV)→Prop
 | _,[]=>True
 | k,cs :: css=>ah (aS k l) (fun x=>x.cells=cs)∧cS l (k + 1) css
def rD (s:S):cn→Option (AV × Option Nat)
 | .tmp t=>match lk t s.slots with
  | some (.dat a q)=>some (a,q)
  | _=>none
 | .cell t sz=>match lk t s.slots with
  | some (.ptr b off)=>match aS b s.boxes with
   | some bx=>match b6 bx.cells off sz with
    | some a=>some (a,match sz with | none=>bF off bx.tags | some _=>none)
    | none=>none
   | none=>none
  | _=>none
def eH (s:S):List cn→Option (List AV)
 | []=>some []
 | r :: rs=>match rD s r,eH s rs with
  | some p,some as=>some (p.1 :: as)
  | _,_=>none
def bu (s:S):List cn→Option (AV × Option Nat)
 | [r]=>rD s r
 | rs=>(eH s rs).map fun as=>(.kY as,none)
def pF (fr:Option Nat) (q:Option Nat) (live:List (Nat × Nat)):Prop :=
 match fr with
 | none=>True
 | some e=>match q with
  | some q'=>bF q' live=some e
  | none=>False
def fin (res:List cn) (r:AV) (fr:Option Nat):Exit→S→Prop
 | .normal,s=>ah (bu s res) fun p=>p.1=r∧pF fr p.2 s.live
 | .ret,s=>ah (bu s res) fun p=>p.1=r∧pF fr p.2 s.live
 | _,_=>False
def pZ (res:List cn) (r:AV) (fr:Option Nat) (css:List (List AV)):Exit→S→Prop
 | .normal,s=>ah (bu s res) fun p=>p.1=r∧pF fr p.2 s.live∧cS s.boxes 0 css
 | .ret,s=>ah (bu s res) fun p=>p.1=r∧pF fr p.2 s.live∧cS s.boxes 0 css
 | _,_=>False
theorem fu {β:Nat→Nat} {τ:Nat→Value} {w:World} {π:Nat→Nat→Prop} {U:Nat→Prop} {a:AV} {x:Value} (h:DV w π a x):RV β τ w π (cR a) x∧(cR a).cq U:=by
 cases a with
 | ref cs=>exact ⟨RV.ref.2 h,trivial⟩
 | _=>exact ⟨⟨h,fun t ht=>by cases ht⟩,trivial⟩
theorem l9:∀ {args:List AV} {i t:Nat} {v:SV},lk t (slotsOf i args)=some v→∃ a,i≤t∧args[t - i]? = some a∧v=cR a
 | [],i,t,v,h=>by cases h
 | a :: r,i,t,v,h=>by
  simp only [slotsOf,lk,eo] at h
  split at h
  ·rename_i e; cases h; subst e; exact ⟨a,Nat.le_refl _,by simp,rfl⟩
  ·obtain ⟨b,h1,h2,h3⟩:=l9 h
   refine ⟨b,by omega,?_,h3⟩
   rw [show t - i=(t - (i + 1)) + 1 by omega]
   simpa using h2
section
variable {P:Program} {nt:Nat} {n0:cD} {w0:World} {π0:Nat→Nat→Prop} {U:Nat→Prop} {s:S} {a:Act} {w:World} {β:Nat→Nat} {τ:Nat→Value} {π:Nat→Nat→Prop}
def eW (tmps:Array Value):ResultVar→Sem Value
 | .tmp t=>pure (tmps.getD t undef)
 | .cell a t=>do loadVar t (← asAddr (tmps.getD a undef))
theorem qK (R:Rel P nt n0 w0 π0 U s a w β τ π) {rv:ResultVar} {cr:cn} (hc:nJ P rv=some cr) {av:AV} {q:Option Nat} (h:rD s cr=some (av,q)) :
  ∃ v,(eW a.tmps rv).run P w=.ok v w∧DV w π av v∧(∀ t,q=some t→v=τ t):=by
 cases rv with
 | tmp t =>
  cases hc
  simp only [rD] at h
  split at h<;>try (cases h; done)
  rename_i a' q' hl
  cases h
  obtain ⟨⟨x,hx,hr⟩,_⟩:=R.slots t _ hl
  exact ⟨x,by simp [eW,hx],hr.1,hr.2⟩
 | cell ad t =>
  simp only [nJ,Option.map_eq_some_iff] at hc
  obtain ⟨sz,hsz,rfl⟩:=hc
  simp only [rD] at h
  split at h<;>try (cases h; done)
  rename_i b off hl
  split at h<;>try (cases h; done)
  rename_i bx hb
  split at h<;>try (cases h; done)
  rename_i a' hp
  cases h
  have hop:aH (Pure P) 0 (.ld (.t ad) sz) (fun v s'=>v=.dat av (match (generalizing:=false) sz with | none=>bF off bx.tags | some _=>none)) s:=by
   simp only [aH,aQ,hl,aj,hb,hp]
   cases sz<;>rfl
  obtain ⟨v,y,hr,hrv,_,hK⟩:=R.load (X:=.tmp ad) rfl hsz hop
  subst hK
  obtain ⟨⟨x,hx,hrx⟩,_⟩:=R.slots ad _ hl
  have hrx':x=.pointer (some ⟨β b,off,none⟩):=hrx
  have he:a.eval (.tmp ad)=x:=by simp [Act.eval,hx]
  refine ⟨y,?_,hrv.1,hrv.2⟩
  rw [he,hrx'] at hr
  simp [Instr.loadAt,Instr.sureAddr] at hr
  simp [eW,hx,hrx',asAddr,hr]
theorem oP (R:Rel P nt n0 w0 π0 U s a w β τ π):∀ {rvs:List ResultVar} {crs:List cn},rvs.mapM (nJ P)=some crs→∀ {as:List AV},eH s crs=some as →
  ∃ vs,(rvs.mapM (eW a.tmps)).run P w=.ok vs w∧dm w π as vs
 | [],crs,hc,as,h=>by
  simp at hc; subst hc
  simp [eH] at h; subst h
  exact ⟨[],by simp,.nil _ _⟩
 | rv :: rvs,crs,hc,as,h=>by
  simp only [List.mapM_cons,Option.bind_eq_bind,Option.bind_eq_some_iff,Option.pure_def,Option.some.injEq] at hc
  obtain ⟨cr,hcr,crs',hcrs,rfl⟩:=hc
  simp only [eH] at h
  split at h<;>try (cases h; done)
  rename_i p as' h1 h2
  cases h
  obtain ⟨v,hv,hd,_⟩:=qK R hcr (av:=p.1) (q:=p.2) h1
  obtain ⟨vs,hvs,hds⟩:=oP R hcrs h2
  exact ⟨v :: vs,by simp [List.mapM_cons,hv,hvs],.cons hd hds⟩
theorem ja (fn:Func) (tmps:Array Value):results fn tmps=(do let vs ← fn.results.mapM (eW tmps); pure (if h:vs.size=1 then vs[0] else .tuple vs)):=by
 unfold results
 congr 1
theorem jb (R:Rel P nt n0 w0 π0 U s a w β τ π) {fn:Func} {crs:List cn} (hc:fn.results.toList.mapM (nJ P)=some crs) {av:AV} {q:Option Nat} (h:bu s crs=some (av,q)) :
  ∃ v,(results fn a.tmps).run P w=.ok v w∧DV w π av v∧(∀ t,q=some t→v=τ t):=by
 have go:∀ vs:List Value,(fn.results.toList.mapM (eW a.tmps)).run P w=.ok vs w→(results fn a.tmps).run P w=.ok (if h:vs.length=1 then vs[0] else .tuple vs.toArray) w:=by
  intro vs hvs
  have:(fn.results.mapM (eW a.tmps)).run P w=.ok vs.toArray w:=by
   have e:fn.results=fn.results.toList.toArray:=by simp
   rw [e,List.mapM_toArray,Sem.run_map,hvs]; rfl
  rw [ja,Sem.run_bind,this]
  simp
 have many:(∀ r,crs≠[r])→bu s crs=(eH s crs).map fun as=>(.kY as,none):=by
  intro hne
  cases crs with
  | nil=>rfl
  | cons r rs =>
   cases rs with
   | nil=>exact absurd rfl (hne r)
   | cons r' rs=>rfl
 by_cases hone:∃ r,crs=[r]
 ·obtain ⟨r,rfl⟩:=hone
  cases hrl:fn.results.toList with
  | nil=>rw [hrl] at hc; simp at hc
  | cons rv rvs =>
   rw [hrl] at hc
   simp only [List.mapM_cons,Option.bind_eq_bind,Option.bind_eq_some_iff,Option.pure_def,Option.some.injEq] at hc
   obtain ⟨cr,hcr,crs',hcrs,he⟩:=hc
   cases he
   have hnil:rvs=[]:=by
    cases rvs with
    | nil=>rfl
    | cons x xs =>
     simp only [List.mapM_cons,Option.bind_eq_bind,Option.bind_eq_some_iff,Option.pure_def,Option.some.injEq] at hcrs
     obtain ⟨_,_,_,_,h⟩:=hcrs
     cases h
   subst hnil
   obtain ⟨v,hv,hd,hq⟩:=qK R hcr h
   refine ⟨v,?_,hd,hq⟩
   rw [go [v] (by rw [hrl]; simp [hv])]
   simp
 ·have hne:∀ r,crs≠[r]:=fun r e=>hone ⟨r,e⟩
  rw [many hne] at h
  simp only [Option.map_eq_some_iff,Prod.mk.injEq] at h
  obtain ⟨as,has,rfl,rfl⟩:=h
  obtain ⟨vs,hvs,hds⟩:=oP R hc has
  have hl1:crs.length=vs.length:=by
   have:∀ {crs:List cn} {as:List AV},eH s crs=some as→crs.length=as.length:=by
    intro crs
    induction crs with
    | nil=>intro as h; simp [eH] at h; subst h; rfl
    | cons c crs ih =>
     intro as h
     simp only [eH] at h
     split at h<;>try (cases h; done)
     rename_i p as' h1 h2
     cases h
     simp [ih h2]
   rw [this has,hds.1]
  refine ⟨.tuple vs.toArray,?_,.kY as vs.toArray (by simpa using hds.1) (fun i a v ha hv=>hds.2 i a v ha (by simpa using hv)),fun t ht=>by cases ht⟩
  rw [go vs hvs]
  have:¬ vs.length=1:=by
   intro e
   rw [← hl1] at e
   match crs,e,hne with
   | [r],_,hne=>exact hne r rfl
  rw [dif_neg this]
end
section
variable {P:Program}
theorem jG {f:FuncId} {cf:gK} {mo:Bool} (hcf:eD mo P f=some cf):∃ (fn:Func) (c:Code) (cc:ak),P.funcs[f]? = some fn∧fn.body=some c∧fn.results.toList.mapM (nJ P)=some cf.res∧aF mo P c=some cc∧cf.code=cc∧cf.nt=fn.ntmps∧cc.fits fn.ntmps=true∧aR P f=true:=by
 unfold eD at hcf
 split at hcf<;>try (cases hcf; done)
 rename_i fn hfn
 split at hcf<;>try (cases hcf; done)
 rename_i c rs hbody hrs
 split at hcf<;>try (cases hcf; done)
 rename_i cc hcc
 split at hcf<;>try (cases hcf; done)
 rename_i hfit
 cases hcf
 simp only [Bool.and_eq_true] at hfit
 exact ⟨fn,c,cc,hfn,hbody,hrs,hcc,rfl,rfl,hfit.1,hfit.2⟩
theorem gi {c:Code} {Q:Exit→Act→World→Prop} {a:Act} {w:World} (h:c.wpIn (FW none) 0 P Q a w):c.wpIn Fence.wide 0 P Q a w:=h
theorem cg {nt:Nat} {n0:cD} {w:World} {π:Nat→Nat→Prop} {s:S} {a:Act} {fn:Func} {R:Ending→World→Prop}
  (main:∀ w',aY P nt n0 w π s a w'→∃ v,(results fn a.tmps).run P w'=.ok v w'∧R (.returned v) w') :
  ∀ (Ds:List Nat) (w':World),Ds.Nodup→(∀ D∈Ds,n0.n≤D∧w'.heap[D]? = some (.deferred (some [])))→aY P nt n0 w π s a w'→w.heap.size≤n0.n→LeavesInM Fence.wide 0 P fn a.tmps R (Ds.map tc) .returning w'
 | [],w',_,_,R',_=>main w' R'
 | D :: Ds,w',hnd,hD,R',hn=>by
  obtain ⟨h1,h2⟩:=hD D List.mem_cons_self
  simp only [List.nodup_cons] at hnd
  refine ⟨by simp,.inl ⟨D,_,rfl,run_takeDeferred h2,?_⟩⟩
  refine cg main Ds _ hnd.2 (fun D' hD'=>?_) ((R'.putObj h2 rfl rfl).xy (R'.below.putObj (Nat.le_trans hn h1) h1 _) R'.bP (fun b o hb=>(dc h2 rfl rfl _).trans (R'.kept b o hb))) hn
  obtain ⟨g1,g2⟩:=hD D' (List.mem_cons_of_mem _ hD')
  exact ⟨g1,(World.putObj_heap_other (fun e=>hnd.1 (by rw [← e]; exact hD'))).trans g2⟩
theorem bT (hm:P.follows .mixedOrders=true) {f:FuncId} {cf:gK} {mo:Bool} (hcf:eD mo P f=some cf) {args:List AV} {r:AV} {fr:Option Nat} (hn:args.length≤cf.nt)
  (h:aw (Pure P) cf.code (fin cf.res r fr) (td args)):qy P f args r fr:=by
 obtain ⟨fn,c,cc,hfn,hbody,hrs,hcc,ec,en,hfit,hcall⟩:=jG hcf
 rw [ec] at h
 rw [en] at hn
 refine ⟨hcall,fun w π vs hprot hd=>?_⟩
 have hlen:=hd.1
 have R:aY P fn.ntmps (cD.top w) w π (td args) { tmps:=vs.toArray++Array.replicate (fn.ntmps - vs.toArray.size) undef,defers:=[] } w:=by
  refine ⟨Nat.le_refl 4,id,fun _=>undef,π,fun n=>n < 4,fun _ h=>h,?_⟩
  refine { size:=?_,slots:=?_,boxes:=fun b x h=>(by cases h),inj:=fun b b' x x' h=>(by cases h),live:=fun q e h=>(by cases h),bk:=fun q q' e e' B h=>(by cases h),bl:=fun q e b x h=>(by cases h),below:=.refl _ _,bP:=Nat.le_refl _,bK:=hprot,bG:=fun _ _ h=>h,aU:=fun _ _ h=>.inl h,fh:=fun _ _=>rfl,dU:=fun _ h=>h,kept:=fun _ _ _=>rfl }
  ·simp; omega
  ·intro t v hv
   obtain ⟨av,_,hav,rfl⟩:=l9 hv
   simp only [Nat.sub_zero] at hav
   obtain ⟨x,hx,hdx⟩:=hd.get hav
   refine ⟨⟨x,?_,(fu (U:=fun n=>n < 4) hdx).1⟩,(fu (β:=id) (τ:=fun _=>undef) hdx).2⟩
   have htl:t < vs.length:=(List.getElem?_eq_some_iff.1 hx).1
   simp [Array.getElem?_append,htl]
   simpa using (List.getElem?_eq_some_iff.1 hx).2
 refine callsIn_wide.1 (callsIn_of_wp_marks (n:=0) (F:=Fence.wide) hfn hbody trivial (wpIn_mono (gi (gT hm c cc hcc hfit _ (fun _=>False) ⟨#[],[]⟩ (fun _ h=>h.elim) none 0 w _ _ _ _ ⟨R,fun l h=>by (cases h),⟨[],rfl,.nil,by simp⟩,fun _ h=>h.elim⟩ h)) ?_))
 have main:∀ (s:S) (a':Act) (w':World),(ah (bu s cf.res) fun p=>p.1=r∧pF fr p.2 s.live)→aY P fn.ntmps (cD.top w) w π s a' w' →
   ∃ v,(results fn a'.tmps).run P w'=.ok v w'∧∃ u π',Ending.returned v=.returned u∧Below w.heap.size w w'∧(∀ b o,π b o→π' b o)∧(∀ b o,π' b o→π b o∨w.heap.size≤b) ∧
    (∀ b o,π' b o→b < w'.heap.size)∧DV w' π' r u∧∀ t,fr=some t→oh P w' π' (fun B=>w.heap.size≤B) t u:=by
  rintro s a' w' hq ⟨_,β,τ,π',U,hU,R'⟩
  obtain ⟨⟨av,q⟩,hp,hav,hfr⟩:=af hq
  simp only at hav hfr
  subst hav
  obtain ⟨v,hv,hdv,htq⟩:=jb R' hrs hp
  refine ⟨v,hv,v,π',rfl,R'.below.below (fun _ h=>h),R'.bG,fun b o h=>(R'.aU b o h).imp id (fun h=>h.elim id (fun h=>h.elim)),R'.bK,hdv,fun t ht=>?_⟩
  subst ht
  simp only [pF] at hfr
  cases q with
  | none=>exact hfr.elim
  | some q =>
   rw [htq q rfl]
   exact (R'.live q t hfr).2.weaken (fun B h=>h.elim id (fun h=>h.elim))
 rintro e a' w' ⟨s,hq,R',_,⟨Ds,hm1,hm2,hm3⟩,_⟩
 have hm1:a'.defers=Ds.map tc:=by simpa using hm1
 cases e with
 | normal=>show LeavesInM _ _ _ _ _ _ a'.defers _ _; rw [hm1]; exact cg (main s a' · hq) Ds w' hm2 hm3 R' (Nat.le_refl _)
 | ret=>show LeavesInM _ _ _ _ _ _ a'.defers _ _; rw [hm1]; exact cg (main s a' · hq) Ds w' hm2 hm3 R' (Nat.le_refl _)
 | _=>exact hq.elim
theorem iy {w:World} {π:Nat→Nat→Prop}:∀ {args:List (Option AV)} {Bs:List Nat} {vs:List Value},bX w π args Bs vs→∀ {i k t:Nat} {v:SV},lk t (d8 i k args)=some v →
  ∃ x,i≤t∧vs[t - i]? = some x∧((∃ a,v=cR a∧DV w π a x)∨∃ j B,v=.ptr (k + j) 0∧Bs[j]? = some B∧x=.pointer (some ⟨B,0,none⟩))
 | [],Bs,vs,hr,i,k,t,v,h=>by cases h
 | some a :: args,Bs,[],hr,i,k,t,v,h=>by cases Bs<;>exact hr.elim
 | some a :: args,Bs,x :: vs,hr,i,k,t,v,h=>by
  have hr':DV w π a x∧bX w π args Bs vs:=by cases Bs<;>exact hr
  simp only [d8,lk,eo] at h
  split at h
  ·rename_i e; cases h; subst e
   exact ⟨x,Nat.le_refl _,by simp,.inl ⟨a,rfl,hr'.1⟩⟩
  ·obtain ⟨y,h1,h2,h3⟩:=iy hr'.2 h
   refine ⟨y,by omega,?_,h3⟩
   rw [show t - i=(t - (i + 1)) + 1 by omega]; simpa using h2
 | none :: args,[],vs,hr,i,k,t,v,h=>by cases vs<;>exact hr.elim
 | none :: args,B :: Bs,[],hr,i,k,t,v,h=>hr.elim
 | none :: args,B :: Bs,x :: vs,hr,i,k,t,v,h=>by
  obtain ⟨hx,hr'⟩:=hr
  simp only [d8,lk,eo] at h
  split at h
  ·rename_i e; cases h; subst e
   exact ⟨x,Nat.le_refl _,by simp,.inr ⟨0,B,rfl,rfl,hx⟩⟩
  ·obtain ⟨y,h1,h2,h3⟩:=iy hr' h
   refine ⟨y,by omega,?_,?_⟩
   ·rw [show t - i=(t - (i + 1)) + 1 by omega]; simpa using h2
   ·rcases h3 with h3 | ⟨j,B',e,hB,hx'⟩
    ·exact .inl h3
    ·exact .inr ⟨j + 1,B',by rw [e]; congr 1; omega,by simpa using hB,hx'⟩
theorem jc:∀ {css:List (List AV)} {k b:Nat} {x:aN},aS b (gU k css)=some x→∃ cs,k≤b∧css[b - k]? = some cs∧x=⟨cs,[]⟩
 | [],k,b,x,h=>by cases h
 | cs :: css,k,b,x,h=>by
  simp only [gU,aS,eo] at h
  split at h
  ·rename_i e; cases h; subst e; exact ⟨cs,Nat.le_refl _,by simp,rfl⟩
  ·obtain ⟨cs',h1,h2,h3⟩:=jc h
   refine ⟨cs',by omega,?_,h3⟩
   rw [show b - k=(b - (k + 1)) + 1 by omega]; simpa using h2
theorem iz {w:World} {π:Nat→Nat→Prop}:∀ {args:List (Option AV)} {Bs:List Nat} {vs:List Value},bX w π args Bs vs→args.length=vs.length
 | [],Bs,vs,h=>by cases Bs<;>cases vs<;>first | rfl | exact h.elim
 | some a :: args,Bs,[],h=>by cases Bs<;>exact h.elim
 | some a :: args,Bs,v :: vs,h=>by
  have h':DV w π a v∧bX w π args Bs vs:=by cases Bs<;>exact h
  simp [iz h'.2]
 | none :: args,[],vs,h=>by cases vs<;>exact h.elim
 | none :: args,B :: Bs,[],h=>h.elim
 | none :: args,B :: Bs,v :: vs,h=>by simp [iz h.2]
theorem kf:∀ {l:List Nat},l.Nodup→∀ (i j:Nat) (x:Nat),l[i]? = some x→l[j]? = some x→i=j
 | [],_,i,j,x,h,_=>by simp at h
 | a :: l,hn,i,j,x,hi,hj=>by
  rw [List.nodup_cons] at hn
  cases i with
  | zero=>cases j with
   | zero=>rfl
   | succ j=>simp at hi hj; subst hi; exact absurd (List.mem_of_getElem? hj) hn.1
  | succ i=>cases j with
   | zero=>simp at hi hj; subst hj; exact absurd (List.mem_of_getElem? hi) hn.1
   | succ j=>rw [kf hn.2 i j x (by simpa using hi) (by simpa using hj)]
theorem mb {l:List (Nat × aN)} {w:World} {π:Nat→Nat→Prop} {β:Nat→Nat} (hl:∀ b x,aS b l=some x→fZ (fun _=>undef) w π (β b) ⟨x.cells,[]⟩) :
  ∀ {css:List (List AV)} {Bs:List Nat} {k:Nat},css.length=Bs.length→(∀ j B,Bs[j]? = some B→β (k + j)=B)→cS l k css→aV w π css Bs
 | [],[],k,_,_,_=>trivial
 | [],B :: Bs,k,h,_,_=>by simp at h
 | cs :: css,[],k,h,_,_=>by simp at h
 | cs :: css,B :: Bs,k,h,hb,hh=>by
  obtain ⟨x,hx,e⟩:=af hh.1
  refine ⟨?_,mb hl (by simpa using h) (fun j B' hj=>by rw [show k + 1 + j=k + (j + 1) by omega]; exact hb (j + 1) B' (by simpa using hj)) hh.2⟩
  have:=hl k x hx
  rw [← e,← hb 0 B rfl]
  exact this
theorem eI {w:World} {π:Nat→Nat→Prop}:∀ {css:List (List AV)} {Bs:List Nat},aV w π css Bs→∀ B∈Bs,∀ o,¬ π B o
 | [],[],_,B,hB=>by cases hB
 | [],_ :: _,h,_,_=>h.elim
 | _ :: _,[],h,_,_=>h.elim
 | cs :: css,B' :: Bs,h,B,hB=>by
  rcases List.mem_cons.1 hB with rfl|hB
  ·obtain ⟨_,_,_,_,_,_,hn⟩:=h.1; exact hn
  ·exact eI h.2 B hB
theorem Rel.qL {P:Program} {w w':World} {π:Nat→Nat→Prop} {Bs:List Nat} {css css':List (List AV)} {nt:Nat} {s:S} {a:Act} {β:Nat→Nat} {τ:Nat→Value} {π':Nat→Nat→Prop} {U:Nat→Prop}
  (R:Rel P nt (cD.cW w Bs) w π U s a w' β τ π') (hbl:css.length=Bs.length) (h4:css.length≤4) (hl:css'.length=css.length) (hho:cS s.boxes 0 css'):aV w' π' css' Bs:=by
 refine mb (β:=β) (fun b x hb=>(R.boxes b x hb).2.2.1.j3) (by omega) (fun j B hj=>?_) hho
 have:j < Bs.length:=(List.getElem?_eq_some_iff.1 hj).1
 rw [Nat.zero_add,R.fh j (by omega)]
 simp [cD.cW,hj]
theorem m9 {l:List (Nat × aN)}:∀ {css:List (List AV)} {k j:Nat},cS l k css→j < css.length→∃ x,aS (k + j) l=some x
 | [],k,j,_,hj=>by simp at hj
 | cs :: css,k,j,h,hj=>by
  cases j with
  | zero=>obtain ⟨x,hx,_⟩:=af h.1; exact ⟨x,hx⟩
  | succ j =>
   obtain ⟨x,hx⟩:=m9 h.2 (by simpa using hj)
   exact ⟨x,by rw [show k + (j + 1)=k + 1 + j by omega]; exact hx⟩
theorem Rel.mc {P:Program} {w w':World} {π:Nat→Nat→Prop} {Bs:List Nat} {css css':List (List AV)} {nt:Nat} {s:S} {a:Act} {β:Nat→Nat} {τ:Nat→Value} {π':Nat→Nat→Prop} {U:Nat→Prop}
  (R:Rel P nt (cD.cW w Bs) w π U s a w' β τ π') (hbl:css.length=Bs.length) (h4:css.length≤4) (hl:css'.length=css.length) (hho:cS s.boxes 0 css') {q e:Nat} (hq:bF q s.live=some e):oh P w' π' (fun B=>w.heap.size≤B) e (τ q):=by
 have ht:=(R.live q e hq).2
 rcases ht with h|⟨B,len,cap,cur,i,hv,hok,hrest⟩
 ·exact .inl h
 ·refine .inr ⟨B,len,cap,cur,i,hv,?_,hrest⟩
  rcases hok with h|h
  ·exact h
  ·exfalso
   obtain ⟨j,hj⟩:=List.mem_iff_getElem?.1 (show B∈Bs from h)
   have hjl:j < Bs.length:=(List.getElem?_eq_some_iff.1 hj).1
   obtain ⟨x,hx⟩:=m9 hho (j:=j) (by omega)
   rw [Nat.zero_add] at hx
   refine R.bl q e j x hq hx ?_
   rw [hv,R.fh j (by omega)]
   simp [cD.cW,dI,hj]
theorem bC (hm:P.follows .mixedOrders=true) {f:FuncId} {cf:gK} {mo:Bool} (hcf:eD mo P f=some cf) {css css':List (List AV)} {args:List (Option AV)} {r:AV} {fr:Option Nat} (hn:args.length≤cf.nt) (hl:css'.length=css.length) (h4:css.length≤4)
    (h:aw (Pure P) cf.code (pZ cf.res r fr css') (gV css args)):mN P f css args r fr css':=by
  obtain ⟨fn,c,cc,hfn,hbody,hrs,hcc,ec,en,hfit,hcall⟩:=jG hcf
  rw [ec] at h
  rw [en] at hn
  refine ⟨hcall,hl,h4,fun w π Bs vs hprot hnd hbx hd=>?_⟩
  have hlen:=iz hd
  obtain ⟨hbl,hbget⟩:=hbx.get
  have hβ:∀ (j B:Nat),Bs[j]? = some B→(cD.cW w Bs).β j=B:=fun j B hj=>by simp [cD.cW,hj]
  have R:aY P fn.ntmps (cD.cW w Bs) w π (gV css args) { tmps:=vs.toArray++Array.replicate (fn.ntmps - vs.toArray.size) undef,defers:=[] } w:=by
    refine ⟨Nat.le_refl 4,(cD.cW w Bs).β,fun _=>undef,π,fun n=>n < 4,fun _ h=>h,?_⟩
    have hbox:∀ b x,aS b (gV css args).boxes=some x→∃ B cs,b < 4∧Bs[b]? = some B∧(cD.cW w Bs).β b=B∧x=⟨cs,[]⟩∧fZ (fun _=>undef) w π B ⟨cs,[]⟩:=by
      intro b x hb
      obtain ⟨cs,_,h2,h3⟩:=jc hb
      simp only [Nat.sub_zero] at h2
      have hlt:b < css.length:=(List.getElem?_eq_some_iff.1 h2).1
      have hB:Bs[b]? = some Bs[b]:=List.getElem?_eq_getElem (by omega)
      exact ⟨_,cs,by omega,hB,hβ _ _ hB,h3,hbget b cs _ h2 hB⟩
    refine { size:=?_,slots:=?_,boxes:=?_,inj:=?_,live:=fun q e h=>(by cases h),bk:=fun q q' e e' B h=>(by cases h),bl:=fun q e b x h=>(by cases h),below:=.refl _ _,bP:=Nat.le_refl _,bK:=hprot,bG:=fun _ _ h=>h,aU:=fun _ _ h=>.inl h,fh:=fun _ _=>rfl,dU:=fun _ h=>h,kept:=fun _ _ _=>rfl }
    · simp; omega
    · intro t v hv
      obtain ⟨x,_,hx,hor⟩:=iy hd hv
      simp only [Nat.sub_zero] at hx
      have htl:t < vs.length:=(List.getElem?_eq_some_iff.1 hx).1
      have hget:(vs.toArray++Array.replicate (fn.ntmps - vs.toArray.size) undef)[t]? = some x:=by
        simp [Array.getElem?_append,htl]
        simpa using (List.getElem?_eq_some_iff.1 hx).2
      rcases hor with ⟨a,rfl,hda⟩|⟨j,B,rfl,hB,rfl⟩
      · exact ⟨⟨x,hget,(fu (U:=fun n=>n < 4) hda).1⟩,(fu (β:=id) (τ:=fun _=>undef) hda).2⟩
      · refine ⟨⟨_,hget,?_⟩,?_⟩
        · show Value.pointer (some ⟨B,0,none⟩)=.pointer (some ⟨(cD.cW w Bs).β (0 + j),0,none⟩)
          rw [Nat.zero_add,hβ j B hB]
        · have:j < Bs.length:=(List.getElem?_eq_some_iff.1 hB).1
          show 0 + j < 4
          omega
    · intro b x hb
      obtain ⟨B,cs,h1,h2,h3,rfl,h5⟩:=hbox b x hb
      exact ⟨h1,.inr ⟨h1,by rw [h3]; exact List.mem_of_getElem? h2⟩,by rw [h3]; exact h5,fun o q hq=>by cases hq⟩
    · intro b b' x x' hb hb' e
      obtain ⟨B,_,_,h2,h3,_,_⟩:=hbox b x hb
      obtain ⟨B',_,_,h2',h3',_,_⟩:=hbox b' x' hb'
      rw [h3,h3'] at e
      subst e
      exact kf hnd b b' B h2 h2'
  refine callsIn_wide.1 (callsIn_of_wp_marks (n:=0) (F:=Fence.wide) hfn hbody trivial (wpIn_mono (gi (gT hm c cc hcc hfit _ (fun _=>False) ⟨#[],[]⟩ (fun _ h=>h.elim) none 0 w _ _ _ _ ⟨R,fun l h=>by (cases h),⟨[],rfl,.nil,by simp⟩,fun _ h=>h.elim⟩ h)) ?_))
  have main:∀ (s:S) (a':Act) (w':World),(ah (bu s cf.res) fun p=>p.1=r∧pF fr p.2 s.live∧cS s.boxes 0 css')→aY P fn.ntmps (cD.cW w Bs) w π s a' w' →
      ∃ v,(results fn a'.tmps).run P w'=.ok v w'∧∃ u π',Ending.returned v=.returned u∧jr (cD.cW w Bs) w w'∧(∀ b o,π b o→π' b o)∧(∀ b o,π' b o→π b o∨w.heap.size≤b) ∧
        (∀ b o,π' b o→b < w'.heap.size)∧aV w' π' css' Bs∧DV w' π' r u∧∀ t,fr=some t→oh P w' π' (fun B=>w.heap.size≤B) t u:=by
    rintro s a' w' hq ⟨_,β,τ,π',U,hU,R'⟩
    obtain ⟨⟨av,q⟩,hp,hav,hfr,hho⟩:=af hq
    simp only at hav hfr hho
    subst hav
    obtain ⟨v,hv,hdv,htq⟩:=jb R' hrs hp
    have hB:=R'.qL hbl h4 hl hho
    refine ⟨v,hv,v,π',rfl,R'.below,R'.bG,fun b o h=>(R'.aU b o h).imp id (fun k=>k.elim id (fun k=>absurd h (eI hB b k o))),R'.bK,?_,hdv,fun t ht=>?_⟩
    · refine mb (β:=β) (fun b x hb=>(R'.boxes b x hb).2.2.1.j3) (by omega) (fun j B hj=>?_) hho
      have:j < Bs.length:=(List.getElem?_eq_some_iff.1 hj).1
      rw [Nat.zero_add,R'.fh j (by omega)]
      exact hβ j B hj
    · subst ht
      simp only [pF] at hfr
      cases q with
      | none=>exact hfr.elim
      | some q =>
        rw [htq q rfl]
        exact R'.mc hbl h4 hl hho hfr
  rintro e a' w' ⟨s,hq,R',_,⟨Ds,hm1,hm2,hm3⟩,_⟩
  have hm1:a'.defers=Ds.map tc:=by simpa using hm1
  cases e with
  | normal=>show LeavesInM _ _ _ _ _ _ a'.defers _ _; rw [hm1]; exact cg (main s a' · hq) Ds w' hm2 hm3 R' (Nat.le_refl _)
  | ret=>show LeavesInM _ _ _ _ _ _ a'.defers _ _; rw [hm1]; exact cg (main s a' · hq) Ds w' hm2 hm3 R' (Nat.le_refl _)
  | _=>exact hq.elim
end
end Go.Eng
namespace Go.Eng
open Go
class Kn (α:Type) where
 run:α→Prop
class EO where
 run:SV→List (Nat × Nat)→Prop
def wv {α:Type} (o:Option α) [k:Kn α]:Prop:=ah o k.run
theorem rE {α:Type} (o:Option α) (k:α→Prop):ah o k=@wv α o ⟨k⟩:=rfl
theorem x6 {α:Type} (a:α) (k:α→Prop):@wv α (some a) ⟨k⟩=k a:=rfl
theorem x7 {α:Type} (k:α→Prop):@wv α none ⟨k⟩=False:=rfl
def kR (C:bA) (f:Nat) (as:List AV) (id:Nat) (lv:List (Nat × Nat)) (k:SV→List (Nat × Nat)→Prop):Prop :=
 ∃ r fr,C.c f as r fr∧k (.dat r (fr.map fun _=>id)) (match fr with | some e=>(id,e) :: lv | none=>lv)
def cl (C:bA) (f:Nat) (as:List AV) (id:Nat) (lv:List (Nat × Nat)) [k:EO]:Prop:=kR C f as id lv k.run
theorem tf (C:bA) (f:Nat) (as:List AV) (id:Nat) (lv:List (Nat × Nat)) (k:SV→List (Nat × Nat)→Prop):kR C f as id lv k=@cl C f as id lv ⟨k⟩:=rfl
@[congr] theorem Dv {C:bA} (f:Nat) {as as':List AV} (id:Nat) (lv:List (Nat × Nat)) (k:SV→List (Nat × Nat)→Prop) (h:as=as'):kR C f as id lv k=kR C f as' id lv k:=by rw [h]
theorem aO {C:bA} {f:Nat} {as:List AV} {id:Nat} {lv:List (Nat × Nat)} {k:SV→List (Nat × Nat)→Prop} {r:AV} (h:C.c f as r none) (hk:k (.dat r none) lv):@cl C f as id lv ⟨k⟩:=⟨r,none,h,hk⟩
class EP where
 run:SV→List (Nat × aN)→List (Nat × Nat)→Prop
def me (C:bA) (f:Nat) (css:List (List AV)) (as:List (Option AV)) (ids:List Nat) (id:Nat) (bx:List (Nat × aN)) (lv:List (Nat × Nat)) (k:SV→List (Nat × aN)→List (Nat × Nat)→Prop):Prop :=
 ∃ r fr css',C.p f css as r fr css'∧k (.dat r (fr.map fun _=>id)) (bE ids css' bx) (match fr with | some e=>(id,e) :: lv | none=>lv)
def Ex (C:bA) (f:Nat) (css:List (List AV)) (as:List (Option AV)) (ids:List Nat) (id:Nat) (bx:List (Nat × aN)) (lv:List (Nat × Nat)) [k:EP]:Prop:=me C f css as ids id bx lv k.run
theorem oQ (C:bA) (f:Nat) (css:List (List AV)) (as:List (Option AV)) (ids:List Nat) (id:Nat) (bx:List (Nat × aN)) (lv:List (Nat × Nat)) (k:SV→List (Nat × aN)→List (Nat × Nat)→Prop):me C f css as ids id bx lv k=@Ex C f css as ids id bx lv ⟨k⟩:=rfl
theorem aJ {C:bA} {f:Nat} {css:List (List AV)} {as:List (Option AV)} {ids:List Nat} {id:Nat} {bx:List (Nat × aN)} {lv:List (Nat × Nat)} {k:SV→List (Nat × aN)→List (Nat × Nat)→Prop} {r:AV} {css':List (List AV)} (h:C.p f css as r none css') (hk:k (.dat r none) (bE ids css' bx) lv):@Ex C f css as ids id bx lv ⟨k⟩:=⟨r,none,css',h,hk⟩
class ER where
 run:SV→Prop
def nS (C:bA) (f:Nat) (css:List (List AV)) (as:List (Option AV)) (k:SV→Prop):Prop:=∃ r,C.p f css as r none css∧k (.dat r none)
def Ey (C:bA) (f:Nat) (css:List (List AV)) (as:List (Option AV)) [k:ER]:Prop:=nS C f css as k.run
theorem AX (C:bA) (f:Nat) (css:List (List AV)) (as:List (Option AV)) (k:SV→Prop):nS C f css as k=@Ey C f css as ⟨k⟩:=rfl
theorem dz {C:bA} {f:Nat} {css:List (List AV)} {as:List (Option AV)} {k:SV→Prop} {r:AV} (h:C.p f css as r none css) (hk:k (.dat r none)):@Ey C f css as ⟨k⟩:=⟨r,h,hk⟩
def qM (x:Option aN) (y:Option (List (List AV))):Option (List (List AV)) :=
 match x,y with
 | some ⟨cs,[]⟩,some css=>some (cs :: css)
 | _,_=>none
theorem x8 (ro:List Nat) (i:Nat):e8 ro i []=[]:=rfl
theorem AY (ro:List Nat) (i:Nat) (o:CO) (r:List CO):e8 ro i (o :: r)=(bif ro.contains i then o.ro else o) :: e8 ro (i + 1) r:=rfl
theorem DQ (d:Option Nat) (o:aK) (g:Option (Nat × Bool)):CO.ro ⟨d,o,g⟩=⟨d,o.ro,g⟩:=rfl
theorem AZ (f:Nat) (as:List aD):aK.ro (.aI f as)=.lB f as:=rfl
theorem A0 (g:aD) (as:List aD):aK.ro (.b8 g as)=.gC g as:=rfl
section
variable {C:bA} {Q:Exit→S→Prop} {K:SV→S→Prop} {J:S→Prop}
variable (sl:List (Nat × SV)) (bx:List (Nat × aN)) (lv:List (Nat × Nat)) (nx:Nat)
theorem A1 (n m:Nat) (v:SV) (r:List (Nat × SV)):lk n ((m,v) :: r)=bif n == m then some v else lk n r:=rfl
theorem xz (n m:Nat) (v:aN) (r:List (Nat × aN)):aS n ((m,v) :: r)=bif n == m then some v else aS n r:=rfl
theorem xA (n m:Nat) (v:Nat) (r:List (Nat × Nat)):bF n ((m,v) :: r)=bif n == m then some v else bF n r:=rfl
theorem th (n:Nat):bF n []=none:=rfl
theorem x9 (n m:Nat) (b v:aN) (r:List (Nat × aN)):gy n b ((m,v) :: r)=bif n == m then (m,b) :: r else (m,v) :: gy n b r:=rfl
theorem ya (n m:Nat) (v:Nat) (r:List (Nat × Nat)):eu n ((m,v) :: r)=bif n == m then eu n r else (m,v) :: eu n r:=rfl
theorem vm (n:Nat):eu n []=[]:=rfl
theorem A2 (d:Nat) (v:SV):S.put ⟨sl,bx,lv,nx⟩ (some d) v=⟨(d,v) :: sl,bx,lv,nx⟩:=rfl
theorem yb (v:SV):S.put ⟨sl,bx,lv,nx⟩ none v=⟨sl,bx,lv,nx⟩:=rfl
theorem yc (n:Nat):aQ ⟨sl,bx,lv,nx⟩ (.t n)=lk n sl:=rfl
theorem yd (v:AV):aQ ⟨sl,bx,lv,nx⟩ (.k v)=some (.dat v none):=rfl
def ye:Option SV→Option AV
 | some (.dat a _)=>some a
 | some (.rp cs)=>some (.ref cs)
 | _=>none
theorem vn (cs:List AV):ye (some (.rp cs))=some (.ref cs):=rfl
theorem yf (a:AV) (q:Option Nat):ye (some (.dat a q))=some a:=rfl
theorem vo (n:Nat):ai ⟨sl,bx,lv,nx⟩ (.t n)=ye (lk n sl):=rfl
theorem vp (v:AV):ai ⟨sl,bx,lv,nx⟩ (.k v)=some v:=rfl
def xB:Option AV→Option (List AV)→Option (List AV)
 | some a,some as=>some (a :: as)
 | _,_=>none
theorem vq (a:AV) (as:List AV):xB (some a) (some as)=some (a :: as):=rfl
theorem vr (x:aD) (r:List aD):bh ⟨sl,bx,lv,nx⟩ (x :: r)=xB (ai ⟨sl,bx,lv,nx⟩ x) (bh ⟨sl,bx,lv,nx⟩ r):=rfl
theorem tj:bh ⟨sl,bx,lv,nx⟩ []=some []:=rfl
theorem vt (b i:Nat):dN C b i [] J ⟨sl,bx,lv,nx⟩=J ⟨sl,bx,lv,nx⟩:=rfl
theorem yg (b i:Nat) (d:Option Nat) (o:aK) (r:List CO):dN C b i (⟨d,o,none⟩ :: r) J ⟨sl,bx,lv,nx⟩=aH C (b + i) o (fun v s'=>dN C b (i + 1) r J (s'.put d v)) ⟨sl,bx,lv,nx⟩:=rfl
def d9 (want:Bool) (yes no:Prop):Option SV→Prop
 | some (.dat (.bool b) _)=>(b=want→yes)∧(b=!want→no)
 | some .undef=>no
 | _=>False
theorem vu (b i t:Nat) (w:Bool) (d:Option Nat) (o:aK) (r:List CO):dN C b i (⟨d,o,some (t,w)⟩ :: r) J ⟨sl,bx,lv,nx⟩ =
  d9 w (aH C (b + i) o (fun v s'=>dN C b (i + 1) r J (s'.put d v)) ⟨sl,bx,lv,nx⟩) (dN C b (i + 1) r J (S.put ⟨sl,bx,lv,nx⟩ d .undef)) (lk t sl):=by
 simp only [dN,b9,d9]
 cases lk t sl with
 | none=>rfl
 | some v=>cases v with
  | dat a q=>cases a<;>rfl
  | ptr=>rfl
  | rp=>rfl
  | undef=>rfl
  | vs=>rfl
  | fK=>rfl
  | raw=>rfl
class KP where
 yes:Prop
 no:Prop
def gd (w:Bool) (v:Option SV) [k:KP]:Prop:=d9 w k.yes k.no v
theorem tn (w:Bool) (yes no:Prop) (v:Option SV):d9 w yes no v=@gd w v ⟨yes,no⟩:=rfl
theorem tq (w:Bool) (yes no:Prop):@gd w (some .undef) ⟨yes,no⟩=no:=rfl
theorem tr (yes no:Prop) (q:Option Nat):@gd true (some (.dat (.bool true) q)) ⟨yes,no⟩=yes:=by simp [gd,d9]
theorem rF (yes no:Prop) (q:Option Nat):@gd true (some (.dat (.bool false) q)) ⟨yes,no⟩=no:=by simp [gd,d9]
theorem tu (yes no:Prop) (q:Option Nat):@gd false (some (.dat (.bool false) q)) ⟨yes,no⟩=yes:=by simp [gd,d9]
theorem rG (yes no:Prop) (q:Option Nat):@gd false (some (.dat (.bool true) q)) ⟨yes,no⟩=no:=by simp [gd,d9]
theorem DR (id:Nat) (x:aD):aH C id (.mv x) K ⟨sl,bx,lv,nx⟩=ah (aQ ⟨sl,bx,lv,nx⟩ x) fun v=>K v ⟨sl,bx,lv,nx⟩:=rfl
def mg (a b:Option SV) (k:SV→Prop):AV→Prop
 | .bool t=>ah a fun u=>ah b fun v=>(t=true→k u)∧(t=false→k v)
 | _=>False
theorem yh (id:Nat) (c a b:aD):aH C id (.pick c a b) K ⟨sl,bx,lv,nx⟩=ah (ai ⟨sl,bx,lv,nx⟩ c) (mg (aQ ⟨sl,bx,lv,nx⟩ a) (aQ ⟨sl,bx,lv,nx⟩ b) fun v=>K v ⟨sl,bx,lv,nx⟩):=rfl
def pk (a b:Option SV) (c:AV) [k:Kn SV]:Prop:=mg a b k.run c
theorem tv (a b:Option SV) (k:SV→Prop) (c:AV):mg a b k c=@pk a b c ⟨k⟩:=rfl
theorem vv (k:SV→Prop) (b:Option SV) (v:SV):@pk (some v) b (.bool true) ⟨k⟩=ah b fun _=>k v:=by simp [pk,mg]
theorem vw (k:SV→Prop) (a:Option SV) (v:SV):@pk a (some v) (.bool false) ⟨k⟩=ah a fun _=>k v:=by
 cases a<;>simp [pk,mg]
theorem vz (id:Nat) (cs:List AV):aH C id (.alloc cs) K ⟨sl,bx,lv,nx⟩=K (.ptr id 0) ⟨sl,(id,⟨cs,[]⟩) :: bx,lv,nx⟩:=rfl
theorem A3 (id:Nat) (x:aD):aH C id (.box x) K ⟨sl,bx,lv,nx⟩=ah (ai ⟨sl,bx,lv,nx⟩ x) fun a=>dh a none=true∧K (.ptr id 0) ⟨sl,(id,⟨a.cells,[]⟩) :: bx,lv,nx⟩:=rfl
def Av (sz:Option Nat) (bx:List (Nat × aN)) (k:SV→Prop):SV→Prop
 | .ptr b off=>ah (aS b bx) fun x=>ah (b6 x.cells off sz) fun a=>k (.dat a (match sz with | none=>bF off x.tags | some _=>none))
 | .rp cs=>ah (b6 cs 0 sz) fun a=>k (.dat a none)
 | _=>False
theorem DS (id:Nat) (x:aD) (sz:Option Nat):aH C id (.ld x sz) K ⟨sl,bx,lv,nx⟩=ah (aQ ⟨sl,bx,lv,nx⟩ x) (Av sz bx fun v=>K v ⟨sl,bx,lv,nx⟩):=rfl
theorem yj (k:SV→Prop) (b off:Nat):Av none bx k (.ptr b off)=ah (aS b bx) fun x=>ah (b6 x.cells off none) fun a=>k (.dat a (bF off x.tags)):=rfl
theorem yl (k:SV→Prop) (b off n:Nat):Av (some n) bx k (.ptr b off)=ah (aS b bx) fun x=>ah (b6 x.cells off (some n)) fun a=>k (.dat a none):=rfl
theorem A4 (k:SV→Prop) (sz:Option Nat) (cs:List AV):Av sz bx k (.rp cs)=ah (b6 cs 0 sz) fun a=>k (.dat a none):=rfl
def gW (off sz:Nat) (q:Option Nat) (tags:List (Nat × Nat)):List (Nat × Nat) :=
 match q with
 | some q=>(off,q) :: tags.filter (fun p=>p.1 < off || off + sz≤p.1)
 | none=>tags.filter (fun p=>p.1 < off || off + sz≤p.1)
def A5 (sz off:Nat) (x:aN) (k:aN→Prop):SV→Prop
 | .dat a q=>dh a q=true∧a.cells.length=sz∧off + sz≤x.cells.length∧k ⟨setCells x.cells off a.cells,gW off sz q x.tags⟩
 | _=>False
def Dw (sz:Nat) (bx:List (Nat × aN)) (v:Option SV) (k:List (Nat × aN)→Prop):SV→Prop
 | .ptr b off=>ah (aS b bx) fun x=>ah v (A5 sz off x fun y=>k (gy b y bx))
 | _=>False
theorem DT (id:Nat) (x v:aD) (sz:Nat):aH C id (.st x v sz) K ⟨sl,bx,lv,nx⟩=ah (aQ ⟨sl,bx,lv,nx⟩ x) (Dw sz bx (aQ ⟨sl,bx,lv,nx⟩ v) fun b=>K .undef ⟨sl,b,lv,nx⟩):=by
 show ah _ _=ah _ _
 cases hx:aQ ⟨sl,bx,lv,nx⟩ x with
 | none=>rfl
 | some p=>cases p with
  | ptr b off =>
   show ah _ _=ah _ _
   cases hb:aS b bx with
   | none=>rfl
   | some y =>
    show ah _ _=ah _ _
    cases hv:aQ ⟨sl,bx,lv,nx⟩ v with
    | none=>rfl
    | some u=>cases u with
     | dat a q=>cases q<;>rfl
     | _=>rfl
  | _=>rfl
theorem A6 (sz b off:Nat) (v:Option SV) (k:List (Nat × aN)→Prop):Dw sz bx v k (.ptr b off)=ah (aS b bx) fun x=>ah v (A5 sz off x fun y=>k (gy b y bx)):=rfl
theorem A7 (sz off:Nat) (cs:List AV) (tg:List (Nat × Nat)) (k:aN→Prop) (a:AV) (q:Option Nat):A5 sz off ⟨cs,tg⟩ k (.dat a q)=(dh a q=true∧a.cells.length=sz∧off + sz≤cs.length∧k ⟨setCells cs off a.cells,gW off sz q tg⟩):=rfl
theorem vA (off sz:Nat):gW off sz none []=[]:=rfl
theorem vB (off sz q:Nat):gW off sz (some q) []=[(off,q)]:=rfl
def A8 (off:Nat) (k:SV→Prop):SV→Prop
 | .ptr b o=>k (.ptr b (o + off))
 | .rp cs=>k (.rp (cs.drop off))
 | _=>False
theorem DU (id:Nat) (x:aD) (off:Nat):aH C id (.fa x off) K ⟨sl,bx,lv,nx⟩=ah (aQ ⟨sl,bx,lv,nx⟩ x) (A8 off fun v=>K v ⟨sl,bx,lv,nx⟩):=rfl
theorem A9 (k:SV→Prop) (b o off:Nat):A8 off k (.ptr b o)=k (.ptr b (o + off)):=rfl
theorem Ba (k:SV→Prop) (cs:List AV) (off:Nat):A8 off k (.rp cs)=k (.rp (cs.drop off)):=rfl
def Bb (d:Nat) (k:SV→Prop):SV→Prop
 | .ptr b o=>k (.ptr b (o + d))
 | .rp cs=>k (.rp (cs.drop d))
 | _=>False
theorem Bc (id:Nat) (x i:aD) (n z:Nat):aH C id (.xe x i n z) K ⟨sl,bx,lv,nx⟩=ah (aQ ⟨sl,bx,lv,nx⟩ x) fun p=>ah (ai ⟨sl,bx,lv,nx⟩ i) fun a=>ah (idxOf a) fun i=>(0≤i∧i < n)∧Bb (i.toNat * z) (fun v=>K v ⟨sl,bx,lv,nx⟩) p:=rfl
theorem Bd (k:SV→Prop) (b o d:Nat):Bb d k (.ptr b o)=k (.ptr b (o + d)):=rfl
theorem Be (k:SV→Prop) (cs:List AV) (d:Nat):Bb d k (.rp cs)=k (.rp (cs.drop d)):=rfl
theorem Bf (k:IntKind) (i:Int):idxOf (.int k i)=some i:=rfl
theorem Bg (id:Nat) (x i:aD) (z:Nat):aH C id (.nA x i z) K ⟨sl,bx,lv,nx⟩=ah (ai ⟨sl,bx,lv,nx⟩ x) fun l=>ah (ai ⟨sl,bx,lv,nx⟩ i) fun a=>ah (idxOf a) fun i=>ah (rowsOf l) fun xs=>(0≤i∧i < xs.length)∧ah (xs[i.toNat]?) fun row=>row.length=z∧K (.rp row) ⟨sl,bx,lv,nx⟩:=rfl
theorem ym (xs:List (List AV)):rowsOf (.sl xs)=some xs:=rfl
theorem vC:rowsOf .bf=some []:=rfl
def p0 (k:List AV→Prop):AV→Prop
 | .agg cs=>k cs
 | _=>False
theorem Bh (k:List AV→Prop) (cs:List AV):p0 k (.agg cs)=k cs:=rfl
theorem Bi (id:Nat) (x:aD) (off:Nat) (sz:Option Nat):aH C id (.Ar x off sz) K ⟨sl,bx,lv,nx⟩=ah (ai ⟨sl,bx,lv,nx⟩ x) (p0 fun cs=>ah (b6 cs off sz) fun a=>K (.dat a none) ⟨sl,bx,lv,nx⟩):=rfl
theorem Bj (id:Nat) (x i:aD) (n z:Nat) (sz:Option Nat):aH C id (.AK x i n z sz) K ⟨sl,bx,lv,nx⟩=ah (ai ⟨sl,bx,lv,nx⟩ x) (p0 fun cs=>ah (ai ⟨sl,bx,lv,nx⟩ i) fun a=>ah (idxOf a) fun i=>(0≤i∧i < n)∧ah (b6 cs (i.toNat * z) sz) fun a=>K (.dat a none) ⟨sl,bx,lv,nx⟩):=rfl
theorem Bk (id:Nat) (op:BinOp) (x y:aD):aH C id (.bin op x y) K ⟨sl,bx,lv,nx⟩=ah (ai ⟨sl,bx,lv,nx⟩ x) fun a=>ah (ai ⟨sl,bx,lv,nx⟩ y) fun b=>ah (bB op a b) fun v=>K (.dat v none) ⟨sl,bx,lv,nx⟩:=rfl
theorem Bl (id:Nat) (ks:List CK) (neg:Bool) (x y:aD):aH C id (.eqc ks neg x y) K ⟨sl,bx,lv,nx⟩=ah (ai ⟨sl,bx,lv,nx⟩ x) (p0 fun as=>ah (ai ⟨sl,bx,lv,nx⟩ y) (p0 fun bs=>ah (aZ ks as bs) fun e=>K (.dat (.bool (e != neg)) none) ⟨sl,bx,lv,nx⟩)):=rfl
theorem DW (id:Nat) (neg:Bool) (x y:aD):aH C id (.bb neg x y) K ⟨sl,bx,lv,nx⟩=ah (ai ⟨sl,bx,lv,nx⟩ x) fun a=>ah (ai ⟨sl,bx,lv,nx⟩ y) fun b=>ah (At neg a b) fun v=>K (.dat v none) ⟨sl,bx,lv,nx⟩:=rfl
theorem DX (id:Nat) (op:UnOp) (x:aD):aH C id (.un op x) K ⟨sl,bx,lv,nx⟩=ah (ai ⟨sl,bx,lv,nx⟩ x) fun a=>ah (xL op a) fun v=>K (.dat v none) ⟨sl,bx,lv,nx⟩:=rfl
theorem yo (id:Nat) (k:IntKind) (x:aD):aH C id (.gB k x) K ⟨sl,bx,lv,nx⟩=ah (ai ⟨sl,bx,lv,nx⟩ x) fun a=>ah (mL k a) fun v=>K (.dat v none) ⟨sl,bx,lv,nx⟩:=rfl
theorem yp (id:Nat) (k:FloatKind) (x:aD):aH C id (.pG k x) K ⟨sl,bx,lv,nx⟩=ah (ai ⟨sl,bx,lv,nx⟩ x) fun a=>ah (mM k a) fun v=>K (.dat v none) ⟨sl,bx,lv,nx⟩:=rfl
theorem yq (id:Nat) (k:IntKind) (x:aD):aH C id (.pH k x) K ⟨sl,bx,lv,nx⟩=ah (ai ⟨sl,bx,lv,nx⟩ x) fun a=>ah (oo k a) fun v=>K (.dat v none) ⟨sl,bx,lv,nx⟩:=rfl
theorem yu (id:Nat) (x:aD):aH C id (.dM x) K ⟨sl,bx,lv,nx⟩=ah (ai ⟨sl,bx,lv,nx⟩ x) fun a=>ah (oq a) fun v=>K (.dat v none) ⟨sl,bx,lv,nx⟩:=rfl
theorem DY (id:Nat) (e:Xt) (x:aD):aH C id (.xt e x) K ⟨sl,bx,lv,nx⟩=ah (ai ⟨sl,bx,lv,nx⟩ x) fun a=>ah (Au e a) fun v=>K (.dat v none) ⟨sl,bx,lv,nx⟩:=rfl
theorem DZ (b:Nat):Au .lA (.float .f64 b)=some (.int .u64 b):=rfl
theorem D0 (n:Int):Au .ffrom (.int .u64 n)=some (.float .f64 n.toNat):=rfl
theorem D1 (b:Nat):Au .rte (.float .f64 b)=uL b:=rfl
def yw (n z:Nat) (s:S) (k:SV→S→Prop):SV→Prop
 | .rp cs=>n * z≤cs.length∧k (.dat (.sl (aX z n cs)) none) s
 | .ptr b off=>4≤b∧ah (aS b s.boxes) fun bx=>n * z≤(bx.cells.drop off).length∧k (.dat (.sl (aX z n (bx.cells.drop off))) none) (cP [b] [bx.cells] s)
 | _=>False
theorem Bm (id:Nat) (x:aD) (n z:Nat):aH C id (.xg x n z) K ⟨sl,bx,lv,nx⟩=ah (aQ ⟨sl,bx,lv,nx⟩ x) (yw n z ⟨sl,bx,lv,nx⟩ K):=by
 show ah _ _=ah _ _
 cases aQ ⟨sl,bx,lv,nx⟩ x with
 | none=>rfl
 | some v=>cases v<;>rfl
theorem yx (n z:Nat) (s:S) (k:SV→S→Prop) (cs:List AV):yw n z s k (.rp cs)=(n * z≤cs.length∧k (.dat (.sl (aX z n cs)) none) s):=rfl
theorem yy (n z:Nat) (k:SV→S→Prop) (b off:Nat):yw n z ⟨sl,bx,lv,nx⟩ k (.ptr b off)=(4≤b∧ah (aS b bx) fun y=>n * z≤(y.cells.drop off).length∧k (.dat (.sl (aX z n (y.cells.drop off))) none) (cP [b] [y.cells] ⟨sl,bx,lv,nx⟩)):=rfl
def Bn (s:S) (i:aD) (k:AV→Prop):AV→Prop
 | .str b=>ah (ai s i) fun a=>ah (idxOf a) fun j=>ah (ql b j) k
 | _=>False
theorem Bo (id:Nat) (x i:aD):aH C id (.AL x i) K ⟨sl,bx,lv,nx⟩=ah (ai ⟨sl,bx,lv,nx⟩ x) (Bn ⟨sl,bx,lv,nx⟩ i fun v=>K (.dat v none) ⟨sl,bx,lv,nx⟩):=by
 show ah _ _=ah _ _
 cases ai ⟨sl,bx,lv,nx⟩ x with
 | none=>rfl
 | some v=>cases v<;>rfl
theorem yz (s:S) (i:aD) (k:AV→Prop) (b:ByteArray):Bn s i k (.str b)=ah (ai s i) fun a=>ah (idxOf a) fun j=>ah (ql b j) k:=rfl
theorem yA (id n:Nat):aH C id (.su n) K ⟨sl,bx,lv,nx⟩=K (.dat (.int .i64 n) none) ⟨sl,bx,lv,nx⟩:=rfl
theorem yB (id f:Nat) (args:List aD):aH C id (.call f args) K ⟨sl,bx,lv,nx⟩=ah (bh ⟨sl,bx,lv,nx⟩ args) fun as=>kR C f as id lv fun v l=>K v ⟨sl,bx,l,nx⟩:=rfl
def nT (C:bA) (id:Nat) (lv:List (Nat × Nat)) (as:List AV) (k:SV→List (Nat × Nat)→Prop):AV→Prop
 | .fn (.func f) first caps=>kR C f (first++as++caps) id lv k
 | _=>False
@[congr] theorem Bp (id:Nat) (lv:List (Nat × Nat)) (as:List AV) (k:SV→List (Nat × Nat)→Prop) {v v':AV} (h:v=v'):nT C id lv as k v=nT C id lv as k v':=by rw [h]
def oR:Option SV→Option (List (Option AV) × List Nat)→Option (List (Option AV) × List Nat)
 | some (.dat a _),some p=>some (some a :: p.1,p.2)
 | some (.rp cs),some p=>some (some (.ref cs) :: p.1,p.2)
 | some (.ptr b 0),some p=>some (none :: p.1,b :: p.2)
 | _,_=>none
theorem tw (a:AV) (q:Option Nat) (p:List (Option AV) × List Nat):oR (some (.dat a q)) (some p)=some (some a :: p.1,p.2):=rfl
theorem tA (cs:List AV) (p:List (Option AV) × List Nat):oR (some (.rp cs)) (some p)=some (some (.ref cs) :: p.1,p.2):=rfl
theorem tB (b:Nat) (p:List (Option AV) × List Nat):oR (some (.ptr b 0)) (some p)=some (none :: p.1,b :: p.2):=rfl
theorem yC:br ⟨sl,bx,lv,nx⟩ []=some ([],[]):=rfl
theorem Bq (x:aD) (r:List aD):br ⟨sl,bx,lv,nx⟩ (x :: r)=oR (aQ ⟨sl,bx,lv,nx⟩ x) (br ⟨sl,bx,lv,nx⟩ r):=by
 show (match aQ ⟨sl,bx,lv,nx⟩ x,br ⟨sl,bx,lv,nx⟩ r with
  | some (.dat a _),some (as,bs)=>some (some a :: as,bs)
  | some (.rp cs),some (as,bs)=>some (some (.ref cs) :: as,bs)
  | some (.ptr b 0),some (as,bs)=>some (none :: as,b :: bs)
  | _,_=>none)=_
 unfold oR
 cases aQ ⟨sl,bx,lv,nx⟩ x with
 | none=>rfl
 | some v =>
  cases br ⟨sl,bx,lv,nx⟩ r with
  | none=>cases v with
   | ptr b o=>cases o<;>rfl
   | _=>rfl
  | some p=>cases v with
   | ptr b o=>cases o<;>rfl
   | _=>rfl
theorem tC:aC bx []=some []:=rfl
def xC:Option aN→Option (List (List AV))→Option (List (List AV))
 | some x,some css=>some (x.cells :: css)
 | _,_=>none
theorem vD (x:aN) (css:List (List AV)):xC (some x) (some css)=some (x.cells :: css):=rfl
theorem vE (b:Nat) (bs:List Nat):aC bx (b :: bs)=xC (aS b bx) (aC bx bs):=rfl
theorem tD:bz []=true:=rfl
theorem vF (b:Nat) (bs:List Nat):bz (b :: bs)=(!bs.contains b && bz bs):=rfl
theorem vG (b:Nat) (bs:List Nat) (cs:List AV) (css:List (List AV)):bE (b :: bs) (cs :: css) bx=bE bs css (gy b ⟨cs,[]⟩ bx):=rfl
theorem rH:bw bx []=some []:=rfl
theorem tE (b:Nat) (bs:List Nat):bw bx (b :: bs)=qM (aS b bx) (bw bx bs):=rfl
theorem rI (cs:List AV) (css:List (List AV)):qM (some ⟨cs,[]⟩) (some css)=some (cs :: css):=rfl
theorem tF (css:List (List AV)):bE [] css bx=bx:=rfl
def nU (C:bA) (f id:Nat) (bx:List (Nat × aN)) (lv:List (Nat × Nat)) (k:SV→List (Nat × aN)→List (Nat × Nat)→Prop) (p:List (Option AV) × List Nat):Prop :=
 bz p.2=true∧ah (aC bx p.2) fun css=>me C f css p.1 p.2 id bx lv k
theorem tG (f id:Nat) (as:List (Option AV)) (ids:List Nat) (k:SV→List (Nat × aN)→List (Nat × Nat)→Prop):nU C f id bx lv k (as,ids)=(bz ids=true∧ah (aC bx ids) fun css=>me C f css as ids id bx lv k):=rfl
theorem vH (id f:Nat) (args:List aD):aH C id (.aI f args) K ⟨sl,bx,lv,nx⟩=ah (br ⟨sl,bx,lv,nx⟩ args) (nU C f id bx lv fun v b l=>K v ⟨sl,b,l,nx⟩):=rfl
theorem vI (id:Nat) (g:aD) (args:List aD):aH C id (.ee g args) K ⟨sl,bx,lv,nx⟩=ah (ai ⟨sl,bx,lv,nx⟩ g) fun a=>ah (bh ⟨sl,bx,lv,nx⟩ args) fun as=>nT C id lv as (fun v l=>K v ⟨sl,bx,l,nx⟩) a:=by
 show ah _ _=ah _ _
 cases hx:ai ⟨sl,bx,lv,nx⟩ g with
 | none=>rfl
 | some a =>
  show (match a with | .fn (.func f) first caps=>_ | _=>False)=_
  cases hy:bh ⟨sl,bx,lv,nx⟩ args with
  | none=>cases a<;>first | rfl | (rename_i f _ _; cases f<;>rfl)
  | some as=>cases a<;>first | rfl | (rename_i f _ _; cases f<;>rfl)
theorem tH (id f:Nat) (as first caps:List AV) (k:SV→List (Nat × Nat)→Prop):nT C id lv as k (.fn (.func f) first caps)=kR C f (first++as++caps) id lv k:=rfl
def lf (C:bA) (id:Nat) (bx:List (Nat × aN)) (lv:List (Nat × Nat)) (p:List (Option AV) × List Nat) (k:SV→List (Nat × aN)→List (Nat × Nat)→Prop):AV→Prop
 | .fn (.func f) [] []=>nU C f id bx lv k p
 | _=>False
@[congr] theorem Aw (id:Nat) (bx:List (Nat × aN)) (lv:List (Nat × Nat)) {p p':List (Option AV) × List Nat} (k:SV→List (Nat × aN)→List (Nat × Nat)→Prop) {v v':AV} (h1:p=p') (h:v=v'):lf C id bx lv p k v=lf C id bx lv p' k v':=by rw [h,h1]
theorem tI (id:Nat) (g:aD) (args:List aD):aH C id (.b8 g args) K ⟨sl,bx,lv,nx⟩=ah (ai ⟨sl,bx,lv,nx⟩ g) fun a=>ah (br ⟨sl,bx,lv,nx⟩ args) fun p=>lf C id bx lv p (fun v b l=>K v ⟨sl,b,l,nx⟩) a:=by
 show ah _ _=ah _ _
 cases hx:ai ⟨sl,bx,lv,nx⟩ g with
 | none=>rfl
 | some a =>
  show (match a with | .fn (.func f) [] []=>_ | _=>False)=_
  cases hy:br ⟨sl,bx,lv,nx⟩ args with
  | none=>cases a<;>first | rfl | (rename_i f x y; cases f<;>first | rfl | (cases x<;>first | rfl | (cases y<;>rfl)))
  | some as=>cases a<;>first | rfl | (rename_i f x y; cases f<;>first | rfl | (cases x<;>first | rfl | (cases y<;>rfl)))
def nV (C:bA) (f:Nat) (bx:List (Nat × aN)) (k:SV→Prop) (p:List (Option AV) × List Nat):Prop :=
 bz p.2=true∧ah (bw bx p.2) fun css=>nS C f css p.1 k
theorem vJ (id f:Nat) (args:List aD):aH C id (.lB f args) K ⟨sl,bx,lv,nx⟩=ah (br ⟨sl,bx,lv,nx⟩ args) (nV C f bx fun v=>K v ⟨sl,bx,lv,nx⟩):=rfl
theorem tJ (f:Nat) (as:List (Option AV)) (ids:List Nat) (k:SV→Prop):nV C f bx k (as,ids)=(bz ids=true∧ah (bw bx ids) fun css=>nS C f css as k):=rfl
def lg (C:bA) (bx:List (Nat × aN)) (p:List (Option AV) × List Nat) (k:SV→Prop):AV→Prop
 | .fn (.func f) [] []=>nV C f bx k p
 | _=>False
@[congr] theorem Ay (bx:List (Nat × aN)) {p p':List (Option AV) × List Nat} (k:SV→Prop) {v v':AV} (h1:p=p') (h:v=v'):lg C bx p k v=lg C bx p' k v':=by rw [h,h1]
theorem tK (id:Nat) (g:aD) (args:List aD):aH C id (.gC g args) K ⟨sl,bx,lv,nx⟩=ah (ai ⟨sl,bx,lv,nx⟩ g) fun a=>ah (br ⟨sl,bx,lv,nx⟩ args) fun p=>lg C bx p (fun v=>K v ⟨sl,bx,lv,nx⟩) a:=by
 show ah _ _=ah _ _
 cases hx:ai ⟨sl,bx,lv,nx⟩ g with
 | none=>rfl
 | some a =>
  show (match a with | .fn (.func f) [] []=>_ | _=>False)=_
  cases hy:br ⟨sl,bx,lv,nx⟩ args with
  | none=>cases a<;>first | rfl | (rename_i f x y; cases f<;>first | rfl | (cases x<;>first | rfl | (cases y<;>rfl)))
  | some as=>cases a<;>first | rfl | (rename_i f x y; cases f<;>first | rfl | (cases x<;>first | rfl | (cases y<;>rfl)))
theorem rJ (f:Nat) (p:List (Option AV) × List Nat) (k:SV→Prop):lg C bx p k (.fn (.func f) [] [])=nV C f bx k p:=rfl
theorem rK (id f:Nat) (p:List (Option AV) × List Nat) (k:SV→List (Nat × aN)→List (Nat × Nat)→Prop):lf C id bx lv p k (.fn (.func f) [] [])=nU C f id bx lv k p:=rfl
theorem Br (id:Nat) (neg:Bool) (x:aD):aH C id (.xh neg x) K ⟨sl,bx,lv,nx⟩=ah (ai ⟨sl,bx,lv,nx⟩ x) fun a=>ah (ot neg a) fun v=>K (.dat (.bool v) none) ⟨sl,bx,lv,nx⟩:=rfl
theorem Bt (id:Nat) (x:aD) (i:Nat):aH C id (.ext x i) K ⟨sl,bx,lv,nx⟩=ah (ai ⟨sl,bx,lv,nx⟩ x) fun a=>ah (sA a i) fun v=>K (.dat v none) ⟨sl,bx,lv,nx⟩:=rfl
theorem yD (b:Nat) (cs:List AV) (b' o:Nat):fT b cs (.ptr b' o)=bif b' == b then .rp (cs.drop o) else .ptr b' o:=rfl
theorem yE (b:Nat) (cs:List AV) (a:AV) (q:Option Nat):fT b cs (.dat a q)=.dat a q:=rfl
theorem yF (b:Nat) (cs cs':List AV):fT b cs (.rp cs')=.rp cs':=rfl
theorem yG (b:Nat) (cs:List AV):fT b cs .undef=.undef:=rfl
theorem vK (b:Nat) (cs:List AV):lF b cs []=[]:=rfl
theorem yH (b:Nat) (cs:List AV) (t:Nat) (v:SV) (r:List (Nat × SV)):lF b cs ((t,v) :: r)=(t,fT b cs v) :: lF b cs r:=rfl
theorem vL (n:Nat):iM n []=[]:=rfl
theorem yI (n m:Nat) (v:aN) (r:List (Nat × aN)):iM n ((m,v) :: r)=bif n == m then iM n r else (m,v) :: iM n r:=rfl
theorem vM (css:List (List AV)) (s:S):cP [] css s=s:=rfl
theorem yJ (b:Nat) (bs:List Nat) (cs:List AV) (css:List (List AV)):cP (b :: bs) (cs :: css) ⟨sl,bx,lv,nx⟩=cP bs css ⟨lF b cs sl,iM b bx,lv,nx⟩:=rfl
theorem tL (css:List (List AV)):ei [] css=[]:=by cases css<;>rfl
theorem tM (a:AV) (as:List (Option AV)) (css:List (List AV)):ei (some a :: as) css=a :: ei as css:=by cases css<;>rfl
theorem tN (as:List (Option AV)) (cs:List AV) (css:List (List AV)):ei (none :: as) (cs :: css)=.ref cs :: ei as css:=rfl
theorem yK:d7 []=true:=rfl
theorem Bu (b:Nat) (bs:List Nat):d7 (b :: bs)=(decide (4≤b) && d7 bs):=rfl
def Bv (fn:Fn) (as:List AV) (s:S) (k:SV→S→Prop) (p:List (Option AV) × List Nat):Prop :=
 (bz p.2 && d7 p.2)=true∧ah (aC s.boxes p.2) fun css=>k (.dat (.fn fn as (ei p.1 css)) none) (cP p.2 css s)
theorem yL (fn:Fn) (as:List AV) (k:SV→S→Prop) (ps:List (Option AV)) (ids:List Nat):Bv fn as ⟨sl,bx,lv,nx⟩ k (ps,ids)=((bz ids && d7 ids)=true∧ah (aC bx ids) fun css=>k (.dat (.fn fn as (ei ps css)) none) (cP ids css ⟨sl,bx,lv,nx⟩)):=rfl
theorem Bw (id:Nat) (fn:Fn) (a b:List aD):aH C id (.si fn a b) K ⟨sl,bx,lv,nx⟩=ah (bh ⟨sl,bx,lv,nx⟩ a) fun as=>ah (br ⟨sl,bx,lv,nx⟩ b) (Bv fn as ⟨sl,bx,lv,nx⟩ K):=rfl
def Bx (mx:Bool) (k:AV→Prop):List AV→Prop
 | []=>False
 | a :: r=>ah (r.foldlM (xj mx) a) k
theorem D2 (id:Nat) (mx:Bool) (args:List aD):aH C id (.mm mx args) K ⟨sl,bx,lv,nx⟩=ah (bh ⟨sl,bx,lv,nx⟩ args) (Bx mx fun v=>K (.dat v none) ⟨sl,bx,lv,nx⟩):=by
 show ah _ _=ah _ _
 cases bh ⟨sl,bx,lv,nx⟩ args with
 | none=>rfl
 | some l=>cases l<;>rfl
theorem By (mx:Bool) (k:AV→Prop) (a b:AV):Bx mx k [a,b]=ah (xj mx a b) k:=by simp [Bx]
theorem Bz (kd:IntKind) (x y:Int):xj true (.int kd x) (.int kd y)=some (.int kd (if y > x then y else x)):=rfl
theorem yM (kd:IntKind) (x y:Int):xj false (.int kd x) (.int kd y)=some (.int kd (if y < x then y else x)):=rfl
theorem vN (id:Nat) (zs:List AV) (parts:List (Nat × Nat × aD)):aH C id (.build zs parts) K ⟨sl,bx,lv,nx⟩=ah (cK ⟨sl,bx,lv,nx⟩ parts) fun ps=>K (.dat (.agg (gE zs ps)) none) ⟨sl,bx,lv,nx⟩:=rfl
def qN (off sz:Nat):Option AV→Option (List (Nat × List AV))→Option (List (Nat × List AV))
 | some a,some ps=>if a.cells.length=sz∧dh a none=true then some ((off,a.cells) :: ps) else none
 | _,_=>none
theorem tO (off sz:Nat) (x:aD) (r:List (Nat × Nat × aD)):cK ⟨sl,bx,lv,nx⟩ ((off,sz,x) :: r)=qN off sz (ai ⟨sl,bx,lv,nx⟩ x) (cK ⟨sl,bx,lv,nx⟩ r):=rfl
theorem rL:cK ⟨sl,bx,lv,nx⟩ []=some []:=rfl
theorem nW (off sz:Nat) (a:AV) (ps:List (Nat × List AV)) (h:a.cells.length=sz) (h':dh a none=true):qN off sz (some a) (some ps)=some ((off,a.cells) :: ps):=by simp [qN,h,h']
theorem BA (id e z:Nat) (xs:List aD):aH C id (.uH e z xs) K ⟨sl,bx,lv,nx⟩=ah (ef ⟨sl,bx,lv,nx⟩ z xs) fun rows=>K (.dat (.sl rows) (some id)) ⟨sl,bx,(id,e) :: lv,nx⟩:=rfl
def yN (z:Nat):Option AV→Option (List (List AV))→Option (List (List AV))
 | some a,some rows=>if a.cells.length=z∧dh a none=true then some (a.cells :: rows) else none
 | _,_=>none
theorem vO (z:Nat) (x:aD) (r:List aD):ef ⟨sl,bx,lv,nx⟩ z (x :: r)=yN z (ai ⟨sl,bx,lv,nx⟩ x) (ef ⟨sl,bx,lv,nx⟩ z r):=rfl
theorem tP (z:Nat):ef ⟨sl,bx,lv,nx⟩ z []=some []:=rfl
theorem p4 (z:Nat) (a:AV) (rows:List (List AV)) (h:a.cells.length=z) (h':dh a none=true):yN z (some a) (some rows)=some (a.cells :: rows):=by simp [yN,h,h']
theorem BB (id e z bytes:Nat) (x y:aD):aH C id (.app e z bytes x y) K ⟨sl,bx,lv,nx⟩=ah (aQ ⟨sl,bx,lv,nx⟩ x) fun
   | .dat a q=>ah (rowsOf a) fun xs=>ah (ai ⟨sl,bx,lv,nx⟩ y) fun b=>ah (rowsOf b) fun ys =>
     (xs.length + ys.length) * bytes≤140737488355328∧(∀ r∈xs,r.length=z)∧(∀ r∈ys,r.length=z) ∧
     (match a,q with
      | .bf,_=>if ys=[] then K (.dat .bf none) ⟨sl,bx,lv,nx⟩ else K (.dat (.sl (xs++ys)) (some id)) ⟨sl,bx,(id,e) :: lv,nx⟩
      | .sl _,some q=>bF q lv=some e∧K (.dat (.sl (xs++ys)) (some id)) ⟨sl,bx,(id,e) :: eu q lv,nx⟩
      | _,_=>False)
   | _=>False:=rfl
theorem BC (id z:Nat) (x:aD) (lo hi:Option aD):aH C id (.xK z x lo hi) K ⟨sl,bx,lv,nx⟩=ah (ai ⟨sl,bx,lv,nx⟩ x) fun a=>ah (rowsOf a) fun xs=>ah (lD ⟨sl,bx,lv,nx⟩ lo) fun l=>ah (lE ⟨sl,bx,lv,nx⟩ xs hi) fun h=>(0≤l∧l≤h∧h≤xs.length)∧(∀ r∈xs,r.length=z)∧K (.dat (sB a xs l h) none) ⟨sl,bx,lv,nx⟩:=rfl
theorem vP:lD ⟨sl,bx,lv,nx⟩ none=some 0:=rfl
theorem yO (x:aD):lD ⟨sl,bx,lv,nx⟩ (some x)=jT (ai ⟨sl,bx,lv,nx⟩ x):=by cases h:ai ⟨sl,bx,lv,nx⟩ x<;>simp [lD,jT,h]
theorem vQ (xs:List (List AV)):lE ⟨sl,bx,lv,nx⟩ xs none=some (xs.length:Int):=rfl
theorem yP (xs:List (List AV)) (x:aD):lE ⟨sl,bx,lv,nx⟩ xs (some x)=jT (ai ⟨sl,bx,lv,nx⟩ x):=by cases h:ai ⟨sl,bx,lv,nx⟩ x<;>simp [lE,jT,h]
theorem yQ (k:IntKind) (i:Int):jT (some (.int k i))=some i:=rfl
theorem BD (xs ys:List (List AV)) (l h:Int):sB (.sl ys) xs l h=.sl ((xs.take h.toNat).drop l.toNat):=rfl
theorem yR (xs:List (List AV)) (l h:Int):sB .bf xs l h=.bf:=rfl
def Az (k:SV→Prop):SV→Prop
 | .ptr b o=>k (.ptr b o)
 | .rp cs=>k (.rp cs)
 | .dat (.fn (.func f) as bs) q=>k (.dat (.fn (.func f) as bs) q)
 | .dat (.ref cs) _=>k (.rp cs)
 | _=>False
theorem D3 (id:Nat) (x:aD):aH C id (.nc x) K ⟨sl,bx,lv,nx⟩=ah (aQ ⟨sl,bx,lv,nx⟩ x) (Az fun v=>K v ⟨sl,bx,lv,nx⟩):=by
 show ah _ _=ah _ _
 cases aQ ⟨sl,bx,lv,nx⟩ x with
 | none=>rfl
 | some v=>cases v with
  | dat a q=>cases a<;>first | rfl | (rename_i f _ _; cases f<;>rfl)
  | _=>rfl
theorem BE (k:SV→Prop) (b o:Nat):Az k (.ptr b o)=k (.ptr b o):=rfl
theorem BF (k:SV→Prop) (cs:List AV) (q:Option Nat):Az k (.dat (.ref cs) q)=k (.rp cs):=rfl
theorem BG (k:SV→Prop) (cs:List AV):Az k (.rp cs)=k (.rp cs):=rfl
theorem yS:aw C .skip Q ⟨sl,bx,lv,nx⟩=Q .normal ⟨sl,bx,lv,nx⟩:=rfl
def oS (k:S→Prop) (n:Nat):S→Prop:=fun s=>k { s with nx:=n }
theorem BH (ops:List CO):aw C (.sj ops) Q ⟨sl,bx,lv,nx⟩=dN C nx 0 ops (oS (Q .normal) (nx + ops.length)) ⟨sl,bx,lv,nx⟩:=rfl
def yT (ops:List CO) (bad:List (Nat × Nat)) (s:S) (F:List CO→S→Prop):Prop:=∃ ids,(bz ids && d7 ids)=true∧ah (aC s.boxes ids) fun css=>∃ ro,ou (e8 ro 0 ops) bad (cP ids css s).nx (cP ids css s).slots=true∧F (e8 ro 0 ops) (cP ids css s)
class KF where
 k:List CO→S→Prop
def dg (ops:List CO) (bad:List (Nat × Nat)) (s:S) [k:KF]:Prop:=yT ops bad s k.k
theorem D4 (ops:List CO) (bad:List (Nat × Nat)) (s:S) (F:List CO→S→Prop):yT ops bad s F=@dg ops bad s ⟨F⟩:=rfl
theorem oT {ops:List CO} {bad:List (Nat × Nat)} {s:S} {F:List CO→S→Prop} (h:ou ops bad s.nx s.slots=true) (hk:F ops s):@dg ops bad s ⟨F⟩:=⟨[],rfl,[],by rw [ia]; exact h,by rw [ia]; exact hk⟩
theorem tQ {ops:List CO} {bad:List (Nat × Nat)} {s:S} {F:List CO→S→Prop} (ro:List Nat) (h:ou (e8 ro 0 ops) bad s.nx s.slots=true) (hk:F (e8 ro 0 ops) s):@dg ops bad s ⟨F⟩:=⟨[],rfl,ro,h,hk⟩
def D5 (C:bA) (nx:Nat) (K:S→Prop) (ops:List CO) (s:S):Prop:=dN C nx 0 ops K s
theorem BI (nx:Nat) (K:S→Prop) (o:CO) (ops:List CO):D5 C nx K (o :: ops) ⟨sl,bx,lv,nx⟩=dN C nx 0 (o :: ops) K ⟨sl,bx,lv,nx⟩:=rfl
theorem yU (ops:List CO) (bad:List (Nat × Nat)):aw C (.lC ops bad) Q ⟨sl,bx,lv,nx⟩=yT ops bad ⟨sl,bx,lv,nx⟩ (D5 C nx (oS (Q .normal) (nx + ops.length))):=by
 show (∃ ids,_∧ah _ _)=(∃ ids,_∧ah _ _)
 congr 1; funext ids; congr 2; funext css
 show xO _ _ _ _ _=_
 unfold xO D5
 simp only [nF]
 rfl
theorem yV (k:S→Prop) (n:Nat):oS k n ⟨sl,bx,lv,nx⟩=k ⟨sl,bx,lv,n⟩:=rfl
theorem BJ (a b:ak):aw C (.seq a b) Q ⟨sl,bx,lv,nx⟩=aw C a (dJ (aw C b Q) Q) ⟨sl,bx,lv,nx⟩:=rfl
theorem yW (a b:ak):aw C (.join a b) Q ⟨sl,bx,lv,nx⟩=aw C a (dJ (down (aw C b Q)) Q) ⟨sl,bx,lv,nx⟩:=rfl
def iR (a b:Prop):AV→Prop
 | .bool t=>(t=true→a)∧(t=false→b)
 | _=>False
theorem yX (c:aD) (a b:ak):aw C (.cond c a b) Q ⟨sl,bx,lv,nx⟩=ah (ai ⟨sl,bx,lv,nx⟩ c) (iR (aw C a Q ⟨sl,bx,lv,nx⟩) (aw C b Q ⟨sl,bx,lv,nx⟩)):=rfl
def BK (n z:Nat) (a:Option AV) (k:SV→Prop):SV→Prop
 | .ptr b off=>ah a fun a=>ah (idxOf a) fun h=>(0≤h∧h≤n)∧k (.vs b off h.toNat z)
 | _=>False
theorem BL (id:Nat) (x:aD) (n z:Nat) (hi:aD):aH C id (.AM x n z hi) K ⟨sl,bx,lv,nx⟩=ah (aQ ⟨sl,bx,lv,nx⟩ x) (BK n z (ai ⟨sl,bx,lv,nx⟩ hi) fun v=>K v ⟨sl,bx,lv,nx⟩):=by
 show ah _ _=ah _ _
 cases aQ ⟨sl,bx,lv,nx⟩ x with
 | none=>rfl
 | some v=>cases v<;>rfl
theorem yY (n z:Nat) (a:Option AV) (k:SV→Prop) (b off:Nat):BK n z a k (.ptr b off)=ah a fun a=>ah (idxOf a) fun h=>(0≤h∧h≤n)∧k (.vs b off h.toNat z):=rfl
def qO (a b:Prop):AV→Prop
 | .bool t=>(t=true→a)∧(t=false→b)
 | _=>False
def tR (id e z bytes:Nat) (s:S) (K:SV→S→Prop) (b off n z':Nat):SV→Prop
 | .ptr b' _=>(b'=b∧z'=z)∧ah (aS b s.boxes) fun y=>(n * z≤(y.cells.drop off).length∧n * bytes≤140737488355328) ∧
   qO (K (.dat .bf none) s) (K (.dat (.sl (aX z n (y.cells.drop off))) (some id)) { s with live:=(id,e) :: s.live }) (.bool (n == 0))
 | _=>False
def xD (id e z bytes:Nat) (s:S) (K:SV→S→Prop) (x:Option SV):SV→Prop
 | .vs b off n z'=>ah x (tR id e z bytes s K b off n z')
 | _=>False
theorem tS (a b:Prop) (n:Nat):qO a b (.bool (n == 0))=(if n=0 then a else b):=by
 by_cases h:n=0
 ·subst h; simp [qO]
 ·simp [qO,h]
theorem yZ (id e z bytes:Nat) (y x:aD):aH C id (.nC e z bytes y x) K ⟨sl,bx,lv,nx⟩=ah (aQ ⟨sl,bx,lv,nx⟩ y) (xD id e z bytes ⟨sl,bx,lv,nx⟩ K (aQ ⟨sl,bx,lv,nx⟩ x)):=by
 show ah _ _=ah _ _
 cases aQ ⟨sl,bx,lv,nx⟩ y with
 | none=>rfl
 | some v =>
  cases v<;>try rfl
  show ah _ _=ah _ _
  cases aQ ⟨sl,bx,lv,nx⟩ x with
  | none=>rfl
  | some u =>
   cases u<;>try rfl
   show (_∧ah _ _)=(_∧ah _ _)
   congr 2
   funext y
   rw [tS]
theorem vR (id e z bytes:Nat) (K:SV→S→Prop) (x:Option SV) (b off n z':Nat):xD id e z bytes ⟨sl,bx,lv,nx⟩ K x (.vs b off n z')=ah x (tR id e z bytes ⟨sl,bx,lv,nx⟩ K b off n z'):=rfl
theorem vS (id e z bytes:Nat) (K:SV→S→Prop) (b off n z' b' o:Nat):tR id e z bytes ⟨sl,bx,lv,nx⟩ K b off n z' (.ptr b' o)=((b'=b∧z'=z)∧ah (aS b bx) fun y=>(n * z≤(y.cells.drop off).length∧n * bytes≤140737488355328) ∧
   iR (K (.dat .bf none) ⟨sl,bx,lv,nx⟩) (K (.dat (.sl (aX z n (y.cells.drop off))) (some id)) ⟨sl,bx,(id,e) :: lv,nx⟩) (.bool (n == 0))):=rfl
def cd (c:AV) [k:KP]:Prop:=iR k.yes k.no c
theorem tT (a b:Prop) (c:AV):iR a b c=@cd c ⟨a,b⟩:=rfl
theorem vT (a b:Prop):@cd (.bool true) ⟨a,b⟩=a:=by simp [cd,iR]
theorem vU (a b:Prop):@cd (.bool false) ⟨a,b⟩=b:=by simp [cd,iR]
theorem vV (id:Nat) (c:ak):aw C (.block id c) Q ⟨sl,bx,lv,nx⟩=aw C c (cL id Q) ⟨sl,bx,lv,nx⟩:=rfl
theorem y4 (id:Nat):aw C (.exit id) Q ⟨sl,bx,lv,nx⟩=Q (.exit id) ⟨sl,bx,lv,nx⟩:=rfl
theorem BM:aw C .ret Q ⟨sl,bx,lv,nx⟩=Q .ret ⟨sl,bx,lv,nx⟩:=rfl
theorem vW (l:Nat) (c r:ak):aw C (.scope l c r) Q ⟨sl,bx,lv,nx⟩=aw C c (fV l (aw C r (nG Q)) Q) ⟨sl,bx,lv,nx⟩:=rfl
theorem vX (l:Nat):aw C (.label l) Q ⟨sl,bx,lv,nx⟩=Q .normal ⟨sl,bx,lv,nx⟩:=rfl
theorem y5 (l:Nat):aw C (.goto l) Q ⟨sl,bx,lv,nx⟩=Q (.goto l) ⟨sl,bx,lv,nx⟩:=rfl
theorem vY (k:S→Prop) (s:S) (l:Nat):dJ k Q (.goto l) s=Q (.goto l) s:=rfl
theorem y6 (id:Nat) (s:S) (l:Nat):cL id Q (.goto l) s=Q (.goto l) s:=rfl
theorem BN (l:Nat) (k:S→Prop) (s:S):fV l k Q .normal s=Q .normal s:=rfl
theorem BO (l:Nat) (k:S→Prop) (s:S):fV l k Q .ret s=Q .ret s:=rfl
theorem BP (l:Nat) (k:S→Prop) (s:S) (id:Nat):fV l k Q (.exit id) s=Q (.exit id) s:=rfl
theorem BQ (l:Nat) (k:S→Prop) (s:S) (l':Nat):fV l k Q (.goto l') s=(l'=l∧k s):=rfl
theorem BR (s:S):nG Q .normal s=Q .normal s:=rfl
theorem BS (s:S):nG Q .ret s=Q .ret s:=rfl
theorem BT (s:S) (id:Nat):nG Q (.exit id) s=Q (.exit id) s:=rfl
theorem vZ (k:S→Prop) (s:S):dJ k Q .normal s=k s:=rfl
theorem v5 (k:S→Prop) (s:S):dJ k Q .ret s=Q .ret s:=rfl
theorem v7 (k:S→Prop) (s:S) (id:Nat):dJ k Q (.exit id) s=Q (.exit id) s:=rfl
theorem y7 (id:Nat) (s:S):cL id Q .normal s=Q .normal s:=rfl
theorem y8 (id:Nat) (s:S):cL id Q .ret s=Q .ret s:=rfl
theorem y9 (id:Nat) (s:S):cL id Q (.exit id) s=Q .normal s:=by simp [cL]
theorem p5 (id id':Nat) (s:S) (h:(id' == id)=false):cL id Q (.exit id') s=Q (.exit id') s:=by
 have:id'≠id:=by simpa using h
 simp [cL,this]
end
section
variable {C:bA} {Q:Exit→S→Prop} {K:SV→S→Prop} {J:S→Prop}
@[congr] theorem Dx {α:Type} {o o':Option α} (k:α→Prop) (h:o=o'):ah o k=ah o' k:=by rw [h]
@[congr] theorem Ez (id:Nat) (o:aK) (s:S):aH C id o K s=aH C id o K s:=rfl
@[congr] theorem D6 (b i:Nat) (l:List CO) (s:S):dN C b i l J s=dN C b i l J s:=rfl
@[congr] theorem ES (c:ak) (s:S):aw C c Q s=aw C c Q s:=rfl
@[congr] theorem Dy (e:Exit) (s:S):dJ J Q e s=dJ J Q e s:=rfl
@[congr] theorem BU {J:S→Prop} (l:Nat) (e:Exit) (s:S):fV l J Q e s=fV l J Q e s:=rfl
@[congr] theorem D7 (e:Exit) (s:S):nG Q e s=nG Q e s:=rfl
@[congr] theorem BV (id:Nat) (e:Exit) (s:S):cL id Q e s=cL id Q e s:=rfl
@[congr] theorem D8 (n:Nat) (s:S):oS J n s=oS J n s:=rfl
@[congr] theorem D9 {s s':S} (h:s=s'):down J s=down J s':=by rw [h]
@[congr] theorem BW (w:Bool) (yes no:Prop) {g g':Option SV} (h:g=g'):d9 w yes no g=d9 w yes no g':=by rw [h]
@[congr] theorem Dz {a a' b b':Option SV} (k:SV→Prop) {c c':AV} (ha:a=a') (hb:b=b') (hc:c=c'):mg a b k c=mg a' b' k c':=by rw [ha,hb,hc]
@[congr] theorem DA (a b:Prop) {c c':AV} (h:c=c'):iR a b c=iR a b c':=by rw [h]
@[congr] theorem EA (sz:Option Nat) (bx:List (Nat × aN)) (k:SV→Prop) {v v':SV} (h:v=v'):Av sz bx k v=Av sz bx k v':=by rw [h]
@[congr] theorem EC (off:Nat) (k:SV→Prop) {v v':SV} (h:v=v'):A8 off k v=A8 off k v':=by rw [h]
@[congr] theorem ED {d d':Nat} (k:SV→Prop) {v v':SV} (h:v=v') (hd:d=d'):Bb d k v=Bb d' k v':=by rw [h,hd]
@[congr] theorem EE (sz:Nat) (bx:List (Nat × aN)) {u u':Option SV} (k:List (Nat × aN)→Prop) {v v':SV} (hu:u=u') (h:v=v'):Dw sz bx u k v=Dw sz bx u' k v':=by rw [h,hu]
@[congr] theorem EF (sz off:Nat) (x:aN) (k:aN→Prop) {v v':SV} (h:v=v'):A5 sz off x k v=A5 sz off x k v':=by rw [h]
@[congr] theorem Ea (k:List AV→Prop) {v v':AV} (h:v=v'):p0 k v=p0 k v':=by rw [h]
@[congr] theorem EG (m:Bool) (k:AV→Prop) {v v':List AV} (h:v=v'):Bx m k v=Bx m k v':=by rw [h]
@[congr] theorem EH (k:SV→Prop) {v v':SV} (h:v=v'):Az k v=Az k v':=by rw [h]
end
section
variable (k:IntKind) (x y:Int)
theorem BX:bB .add (.int k x) (.int k y)=some (.int k (k.wrap (x + y))):=by simp [bB,gx]
theorem BY:bB .sub (.int k x) (.int k y)=some (.int k (k.wrap (x - y))):=by simp [bB,gx]
theorem BZ:bB .mul (.int k x) (.int k y)=some (.int k (k.wrap (x * y))):=by simp [bB,gx]
theorem B1:bB .eql (.int k x) (.int k y)=some (.bool (x == y)):=by simp [bB,gx]
theorem B3:bB .neq (.int k x) (.int k y)=some (.bool (x != y)):=by simp [bB,gx]
theorem B4:bB .lss (.int k x) (.int k y)=some (.bool (decide (x < y))):=by simp [bB,gx]
theorem B5:bB .leq (.int k x) (.int k y)=some (.bool (decide (x≤y))):=by simp [bB,gx]
theorem B6:bB .gtr (.int k x) (.int k y)=some (.bool (decide (y < x))):=by simp [bB,gx]
theorem B7:bB .geq (.int k x) (.int k y)=some (.bool (decide (y≤x))):=by simp [bB,gx]
def v8 (k:IntKind) (x y:Int):Int:=k.wrap (BitVec.ofInt k.bits x &&& BitVec.ofInt k.bits y).toNat
def DB (k:IntKind) (x y:Int):Int:=k.wrap (BitVec.ofInt k.bits x ||| BitVec.ofInt k.bits y).toNat
def B8 (k:IntKind) (x y:Int):Int:=k.wrap (BitVec.ofInt k.bits x ^^^ BitVec.ofInt k.bits y).toNat
def qP (k:IntKind) (x y:Int):Int:=k.wrap (BitVec.ofInt k.bits x &&& ~~~BitVec.ofInt k.bits y).toNat
theorem B9:bB .and (.int k x) (.int k y)=some (.int k (v8 k x y)):=by simp [bB,gx,kB,v8]
theorem Eb:bB .or (.int k x) (.int k y)=some (.int k (DB k x y)):=by simp [bB,gx,kB,DB]
theorem Ca:bB .xor (.int k x) (.int k y)=some (.int k (B8 k x y)):=by simp [bB,gx,kB,B8]
theorem tU:bB .andNot (.int k x) (.int k y)=some (.int k (qP k x y)):=by simp [bB,gx,kB,qP]
def gw (c:Prop) [Decidable c] (v:AV):Option AV:=if c then some v else none
theorem v9 (c:Prop) [Decidable c] (v:AV) (K:AV→Prop):@wv _ (gw c v) ⟨K⟩=(c∧K v):=by
 rw [← rE]; unfold gw; split<;>simp_all
theorem Cb:bB .quo (.int k x) (.int k y)=gw (y≠0) (.int k (k.wrap (x.tdiv y))):=by
 by_cases h:y=0<;>simp [bB,gx,gw,h]
theorem Cc:bB .rem (.int k x) (.int k y)=gw (y≠0) (.int k (x.tmod y)):=by
 by_cases h:y=0<;>simp [bB,gx,gw,h]
theorem Cd (k':IntKind):bB .shl (.int k x) (.int k' y)=gw (0≤y) (.int k (k.wrap (x * 2 ^ min y.toNat k.bits))):=by
 by_cases h:0≤y
 ·have:¬ y < 0:=by omega
  simp [bB,gD,gw,h,this]
 ·have:y < 0:=by omega
  simp [bB,gD,gw,this]
theorem Ce (k':IntKind):bB .shr (.int k x) (.int k' y)=gw (0≤y) (.int k (x.fdiv (2 ^ min y.toNat k.bits))):=by
 by_cases h:0≤y
 ·have:¬ y < 0:=by omega
  simp [bB,gD,gw,h,this]
 ·have:y < 0:=by omega
  simp [bB,gD,gw,this]
theorem Cf (x y:Bool):At false (.bool x) (.bool y)=some (.bool (x == y)):=rfl
theorem Cg (x y:Bool):At true (.bool x) (.bool y)=some (.bool (x != y)):=rfl
theorem Ch (b:Bool):xL .not (.bool b)=some (.bool !b):=rfl
theorem Ci:xL .neg (.int k x)=some (.int k (k.wrap (0 - x))):=rfl
theorem Cj:ot false .bf=some true:=rfl
theorem Ck:ot true .bf=some false:=rfl
theorem Cl (xs:List (List AV)):ot false (.sl xs)=some false:=rfl
theorem Cm (xs:List (List AV)):ot true (.sl xs)=some true:=rfl
theorem Cn:oq .bf=some (.int .i64 0):=rfl
theorem Ec (xs:List (List AV)):oq (.sl xs)=some (.int .i64 xs.length):=rfl
theorem Ed (k':IntKind):mL k (.int k' x)=some (.int k (k.wrap x)):=rfl
theorem Ee (k':IntKind) (f:FloatKind):mM f (.int k' x)=some (.float f (f.nearest x)):=rfl
theorem Co (vs:List AV) (i:Nat):sA (.kY vs) i=vs[i]?:=rfl
theorem Cp (cs:List AV):dh (.agg cs) none=true:=rfl
theorem Cq (q:Option Nat):dh (.int k x) q=true:=rfl
theorem Cr (b:Bool) (q:Option Nat):dh (.bool b) q=true:=rfl
theorem Ct (f:FloatKind) (n:Nat) (q:Option Nat):dh (.float f n) q=true:=rfl
theorem Cu (q:Option Nat):dh .bf q=true:=rfl
theorem Cv (xs:List (List AV)) (q:Option Nat):dh (.sl xs) q=true:=rfl
theorem Cw (b:ByteArray) (q:Option Nat):dh (.str b) q=true:=rfl
theorem Cx (f:Fn) (as bs:List AV) (q:Option Nat):dh (.fn f as bs) q=true:=rfl
theorem za (cs:List AV) (q:Option Nat):dh (.ref cs) q=true:=rfl
theorem Cy (q:Option Nat):dh .lz q=true:=rfl
theorem rM (cs:List AV):AV.cells (.agg cs)=cs:=rfl
theorem rN:AV.cells (.int k x)=[.int k x]:=rfl
theorem p6 (b:Bool):AV.cells (.bool b)=[.bool b]:=rfl
theorem oU (f:FloatKind) (n:Nat):AV.cells (.float f n)=[.float f n]:=rfl
theorem p7:AV.cells .bf=[.bf]:=rfl
theorem rO (cs:List AV):AV.cells (.ref cs)=[.ref cs]:=rfl
theorem tV (f:Fn) (as bs:List AV):AV.cells (.fn f as bs)=[.fn f as bs]:=rfl
theorem tW (xs:List (List AV)):AV.cells (.sl xs)=[.sl xs]:=rfl
theorem zb (cs:List AV) (off:Nat):b6 cs off none=cs[off]?:=rfl
theorem p8 (cs:List AV) (off n:Nat) (h:off + n≤cs.length):b6 cs off (some n)=some (.agg ((cs.drop off).take n)):=by simp [b6,h]
end
theorem bY {w:Bool} {yes no:Prop} {t:Bool} {q:Option Nat} (h1:t=true→@gd w (some (.dat (.bool true) q)) ⟨yes,no⟩) (h2:t=false→@gd w (some (.dat (.bool false) q)) ⟨yes,no⟩):@gd w (some (.dat (.bool t) q)) ⟨yes,no⟩:=by
 cases t
 ·exact h2 rfl
 ·exact h1 rfl
theorem aE {a b:Prop} {t:Bool} (h1:t=true→a) (h2:t=false→b):@cd (.bool t) ⟨a,b⟩:=by
 cases t
 ·simpa [cd,iR] using h2 rfl
 ·simpa [cd,iR] using h1 rfl
theorem tX {a b:Option SV} {k:SV→Prop} {t:Bool} (h1:t=true→@pk a b (.bool true) ⟨k⟩) (h2:t=false→@pk a b (.bool false) ⟨k⟩):@pk a b (.bool t) ⟨k⟩:=by
 cases t
 ·exact h2 rfl
 ·exact h1 rfl
theorem we (p:Nat) (ps:List Nat) (x:AV) (xs:List AV) (s:S):jn (p :: ps) (x :: xs) s=jn ps xs (s.put (some p) (.dat x none)):=rfl
theorem tY (s:S):jn [] [] s=s:=rfl
theorem zc (wr:List Nat) (sl:List (Nat × SV)) (bx:List (Nat × aN)) (lv:List (Nat × Nat)) (nx:Nat):ov wr ⟨sl,bx,lv,nx⟩=⟨mG wr sl,bx,lv,nx⟩:=rfl
theorem wg (wr:List Nat):mG wr []=[]:=rfl
theorem zf (wr:List Nat) (t:Nat) (v:SV) (r:List (Nat × SV)):mG wr ((t,v) :: r)=bif wr.contains t then mG wr r else (t,v) :: mG wr r:=rfl
theorem zg (wr:List Nat) (F:S→Prop) (Q:Exit→S→Prop) (s:S):uN wr F Q .normal s=down F (ov wr s):=rfl
theorem zh (wr:List Nat) (F:S→Prop) (Q:Exit→S→Prop) (s:S):uN wr F Q .ret s=Q .ret (ov wr s):=rfl
theorem zi (wr:List Nat) (F:S→Prop) (Q:Exit→S→Prop) (id:Nat) (s:S):uN wr F Q (.exit id) s=Q (.exit id) (ov wr s):=rfl
theorem wh (K:S→Prop) (s:S):ow K .normal s=K s:=rfl
def ET :=
 And.intro @x6 (And.intro @x7 (And.intro @x8 (And.intro @AY (And.intro @DQ (And.intro @AZ (And.intro @A0 (And.intro @A1 (And.intro @xz (And.intro @xA (And.intro @th (And.intro @x9 (And.intro @ya (And.intro @vm (And.intro @A2 (And.intro @yb (And.intro @yc (And.intro @yd (And.intro @vn (And.intro @yf (And.intro @vo (And.intro @vp (And.intro @vq (And.intro @vr (And.intro @tj (And.intro @vt (And.intro @yg (And.intro @vu (And.intro @tq (@tr)))))))))))))))))))))))))))))
def EU :=
 And.intro @rF (And.intro @tu (And.intro @rG (And.intro @DR (And.intro @yh (And.intro @vv (And.intro @vw (And.intro @vz (And.intro @A3 (And.intro @DS (And.intro @yj (And.intro @yl (And.intro @A4 (And.intro @DT (And.intro @A6 (And.intro @A7 (And.intro @vA (And.intro @vB (And.intro @DU (And.intro @A9 (And.intro @Ba (And.intro @Bc (And.intro @Bd (And.intro @Be (And.intro @Bf (And.intro @Bg (And.intro @ym (And.intro @vC (And.intro @Bh (@Bi)))))))))))))))))))))))))))))
def EX :=
 And.intro @Bj (And.intro @Bk (And.intro @Bl (And.intro @DW (And.intro @DX (And.intro @yo (And.intro @yp (And.intro @yq (And.intro @yu (And.intro @DY (And.intro @DZ (And.intro @D0 (And.intro @D1 (And.intro @Bm (And.intro @yx (And.intro @yy (And.intro @Bo (And.intro @yz (And.intro @yA (And.intro @yB (And.intro @tw (And.intro @tA (And.intro @tB (And.intro @yC (And.intro @Bq (And.intro @tC (And.intro @vD (And.intro @vE (And.intro @tD (@vF)))))))))))))))))))))))))))))
def EY :=
 And.intro @vG (And.intro @rH (And.intro @tE (And.intro @rI (And.intro @tF (And.intro @tG (And.intro @vH (And.intro @vI (And.intro @tH (And.intro @tI (And.intro @vJ (And.intro @tJ (And.intro @tK (And.intro @rJ (And.intro @rK (And.intro @Br (And.intro @Bt (And.intro @yD (And.intro @yE (And.intro @yF (And.intro @yG (And.intro @vK (And.intro @yH (And.intro @vL (And.intro @yI (And.intro @vM (And.intro @yJ (And.intro @tL (And.intro @tM (@tN)))))))))))))))))))))))))))))
def EZ :=
 And.intro @yK (And.intro @Bu (And.intro @yL (And.intro @Bw (And.intro @D2 (And.intro @By (And.intro @Bz (And.intro @yM (And.intro @vN (And.intro @tO (And.intro @rL (And.intro @BA (And.intro @vO (And.intro @tP (And.intro @BB (And.intro @BC (And.intro @vP (And.intro @yO (And.intro @vQ (And.intro @yP (And.intro @yQ (And.intro @BD (And.intro @yR (And.intro @D3 (And.intro @BE (And.intro @BF (And.intro @BG (And.intro @yS (And.intro @BH (@BI)))))))))))))))))))))))))))))
def E0 :=
 And.intro @yU (And.intro @yV (And.intro @BJ (And.intro @yW (And.intro @yX (And.intro @BL (And.intro @yY (And.intro @yZ (And.intro @vR (And.intro @vS (And.intro @vT (And.intro @vU (And.intro @vV (And.intro @y4 (And.intro @BM (And.intro @vW (And.intro @vX (And.intro @y5 (And.intro @vY (And.intro @y6 (And.intro @BN (And.intro @BO (And.intro @BP (And.intro @BQ (And.intro @BR (And.intro @BS (And.intro @BT (And.intro @vZ (And.intro @v5 (@v7)))))))))))))))))))))))))))))
def E1 :=
 And.intro @y7 (And.intro @y8 (And.intro @y9 (And.intro @BX (And.intro @BY (And.intro @BZ (And.intro @B1 (And.intro @B3 (And.intro @B4 (And.intro @B5 (And.intro @B6 (And.intro @B7 (And.intro @B9 (And.intro @Eb (And.intro @Ca (And.intro @tU (And.intro @v9 (And.intro @Cb (And.intro @Cc (And.intro @Cd (And.intro @Ce (And.intro @Cf (And.intro @Cg (And.intro @Ch (And.intro @Ci (And.intro @Cj (And.intro @Ck (And.intro @Cl (And.intro @Cm (@Cn)))))))))))))))))))))))))))))
def E2 :=
 And.intro @Ec (And.intro @Ed (And.intro @Ee (And.intro @Co (And.intro @Cp (And.intro @Cq (And.intro @Cr (And.intro @Ct (And.intro @Cu (And.intro @Cv (And.intro @Cw (And.intro @Cx (And.intro @za (And.intro @Cy (And.intro @rM (And.intro @rN (And.intro @p6 (And.intro @oU (And.intro @p7 (And.intro @rO (And.intro @tV (And.intro @tW (And.intro @zb (And.intro @we (And.intro @tY (And.intro @zc (And.intro @wg (And.intro @zf (And.intro @zg (@zh)))))))))))))))))))))))))))))
def E3 :=
 And.intro @zi (@wh)
def EV :=
 And.intro @ET (And.intro @EU (And.intro @EX (And.intro @EY (And.intro @EZ (And.intro @E0 (And.intro @E1 (And.intro @E2 (@E3))))))))
end Go.Eng
namespace Go.Eng
open Go
section
variable {C:bA}
theorem jH {id:Nat} {o:aK} {K K':SV→S→Prop} {s:S} (hk:∀ v s',K v s'→K' v s') (h:aH C id o K s):aH C id o K' s:=by
 obtain ⟨v,d,hK,_,_,hs⟩:=jx h
 exact hs.2 s .refl K' (hk _ _ hK)
theorem kg {base:Nat}:∀ {l:List CO} {i:Nat} {s:S} {K K':S→Prop},(∀ s,K s→K' s)→dN C base i l K s→dN C base i l K' s
 | [],i,s,K,K',hk,h=>hk s h
 | o :: l,i,s,K,K',hk,h=>by
  rw [ir] at h ⊢
  obtain ⟨v,d,hd,hk',_⟩:=bR h
  exact hd.2 s .refl _ (kg hk hk')
theorem rP {id:Nat} {o:uI} {K K':SV→S→Prop} {X X':AV→S→Prop} {s:S} (hk:∀ v s',K v s'→K' v s') (hx:∀ p s',X p s'→X' p s') (h:bJ C id o K X s):bJ C id o K' X' s:=by
 cases o with
 | o c=>exact jH hk h
 | call f args =>
  simp only [bJ] at h ⊢
  rcases h with h|h
  ·exact .inl (jH hk h)
  ·obtain ⟨as,has,h⟩:=af h
   rw [has]
   rcases h with ⟨cs,h1,h2⟩|⟨p,h1,h2⟩
   ·exact .inr (.inl ⟨cs,h1,hk _ _ h2⟩)
   ·exact .inr (.inr ⟨p,h1,hx _ _ h2⟩)
 | aI f args =>
  simp only [bJ] at h ⊢
  rcases h with h|h
  ·exact .inl (jH hk h)
  ·obtain ⟨p,hp,hn,h⟩:=af h
   obtain ⟨css,hcs,v,css',h1,h2⟩:=af h
   rw [hp]
   exact .inr ⟨hn,by rw [hcs]; exact ⟨v,css',h1,hx _ _ h2⟩⟩
 | ee b g args =>
  simp only [bJ] at h ⊢
  split at h
  ·obtain ⟨p,hp,hn,h⟩:=af h
   obtain ⟨css,hcs,h⟩:=af h
   rw [hp]
   refine ⟨hn,?_⟩
   rw [hcs]
   rcases h with ⟨r,fr,css',h1,h2⟩|⟨v,css',h1,h2⟩
   ·exact .inl ⟨r,fr,css',h1,hk _ _ h2⟩
   ·exact .inr ⟨v,css',h1,hx _ _ h2⟩
  ·exact jH hk h
 | Dp f caps=>obtain ⟨p,hp,h⟩:=af h; simp only [bJ,hp]; exact hk _ _ h
 | AN x=>obtain ⟨a,ha,h1,h2⟩:=af h; simp only [bJ,ha]; exact ⟨h1,hx _ _ h2⟩
 | AO t x=>obtain ⟨a,ha,h1,h2⟩:=af h; simp only [bJ,ha]; exact ⟨h1,hk _ _ h2⟩
 | As t z x =>
  obtain ⟨a,ha,h⟩:=af h
  obtain ⟨v,hv,h⟩:=af h
  simp only [bJ,ha,aj,hv]; exact hk _ _ h
 | AP neg x =>
  obtain ⟨a,ha,h⟩:=af h
  obtain ⟨v,hv,h⟩:=af h
  simp only [bJ,ha,aj,hv]; exact hk _ _ h
 | uK neg x =>
  obtain ⟨a,ha,h⟩:=af h
  obtain ⟨v,hv,h⟩:=af h
  simp only [bJ,ha,aj,hv]; exact hk _ _ h
 | AQ e bytes l c =>
  obtain ⟨a,ha,h⟩:=af h
  obtain ⟨l',hl,h⟩:=af h
  obtain ⟨b,hb,h⟩:=af h
  obtain ⟨c',hc,h1,h⟩:=af h
  simp only [bJ,ha,aj,hl,hb,hc]; exact ⟨h1,hk _ _ h⟩
 | AR e x y =>
  obtain ⟨p,hp,h⟩:=af h
  simp only [bJ,hp,aj]
  cases p<;>try (exact h.elim)
  obtain ⟨b,hb,h⟩:=af h
  obtain ⟨ys,hy,h1,h2,h⟩:=af h
  simp only [hb,aj,hy]; exact ⟨h1,h2,hk _ _ h⟩
theorem oV {s:S} {g:Option (Nat × Bool)} {y y' n n':Prop} (hy:y→y') (hn:n→n') (h:b9 s g y n):b9 s g y' n':=by
 unfold b9 at h ⊢
 split at h
 ·exact hy h
 ·split at h
  ·exact ⟨fun e=>hy (h.1 e),fun e=>hn (h.2 e)⟩
  ·exact hn h
  ·exact h.elim
theorem jd {base:Nat}:∀ {l:List XO} {i:Nat} {s:S} {K K':S→Prop} {X X':AV→S→Prop},(∀ s,K s→K' s)→(∀ p s',X p s'→X' p s')→c6 C base i l K X s→c6 C base i l K' X' s
 | [],i,s,K,K',X,X',hk,hx,h=>hk s h
 | o :: l,i,s,K,K',X,X',hk,hx,h=>oV (rP (fun v s' h=>jd hk hx h) hx) (jd hk hx) h
theorem er {F G:S→Prop} (h:∀ s,F s→G s) {s:S} (hd:down F s):down G s:=by
 obtain ⟨s1,⟨hl,hF⟩|hF⟩:=hd
 ·exact ⟨s1,.inl ⟨hl,h _ hF⟩⟩
 ·exact ⟨s1,.inr (h _ hF)⟩
theorem cv {F G:S→Prop} {Q Q':Exit→S→Prop} (h:∀ s,F s→G s) (hq:∀ e s,Q e s→Q' e s) {e:Exit} {s:S} (ha:dJ F Q e s):dJ G Q' e s:=by
 cases e<;>first | exact h _ ha | exact hq _ _ ha
theorem oW {id:Nat} {Q Q':Exit→S→Prop} (hq:∀ e s,Q e s→Q' e s) {e:Exit} {s:S} (ha:cL id Q e s):cL id Q' e s:=by
 cases e with
 | exit i =>
  simp only [cL] at ha ⊢
  split
  ·rename_i hi; rw [if_pos hi] at ha; exact hq _ _ ha
  ·rename_i hi; rw [if_neg hi] at ha; exact hq _ _ ha
 | _=>exact hq _ _ ha
theorem gj {F G:(Exit→S→Prop)→S→Prop} (hF:∀ Q Q' s,(∀ e s,Q e s→Q' e s)→F Q s→G Q' s) {Q Q':Exit→S→Prop} (hq:∀ e s,Q e s→Q' e s):∀ {n:Nat} {s:S},hY F Q n s→hY G Q' n s
 | 0,s,h=>h
 | n + 1,s,h=>hF _ _ s (fun e s ha=>cv (fun s hd=>er (fun s h=>gj hF hq h) hd) hq ha) h
theorem tZ {wr:List Nat} {F:S→Prop} {Q Q':Exit→S→Prop} (hq:∀ e s,Q e s→Q' e s) {e:Exit} {s:S} (h:uN wr F Q e s):uN wr F Q' e s:=by
 cases e<;>first | exact h | exact hq _ _ h
theorem ep:∀ {c:ak} {Q Q':Exit→S→Prop} {s:S},(∀ e s,Q e s→Q' e s)→aw C c Q s→aw C c Q' s:=by
 intro c
 induction c with
 | skip=>intro Q Q' s hq h; exact hq _ _ h
 | sj ops=>intro Q Q' s hq h; exact kg (fun s h=>hq _ _ h) h
 | aB ops=>intro Q Q' s hq h; exact jd (fun s h=>hq _ _ h) (fun p s h=>hq _ _ h) h
 | lC ops bad =>
  intro Q Q' s hq h
  obtain ⟨ids,hids,h⟩:=h
  obtain ⟨css,hcss,ro,hd,h⟩:=af h
  exact ⟨ids,hids,by rw [hcss]; exact ⟨ro,hd,kg (fun s h=>hq _ _ h) h⟩⟩
 | seq a b iha ihb=>intro Q Q' s hq h; exact iha (fun e s ha=>cv (fun s h=>ihb hq h) hq ha) h
 | join a b iha ihb=>intro Q Q' s hq h; exact iha (fun e s ha=>cv (fun s h=>er (fun s h=>ihb hq h) h) hq ha) h
 | cond c a b iha ihb =>
  intro Q Q' s hq h
  simp only [aw] at h ⊢
  obtain ⟨v,hv,h⟩:=af h
  rw [hv]
  cases v<;>try (exact h.elim)
  exact ⟨fun e=>iha hq (h.1 e),fun e=>ihb hq (h.2 e)⟩
 | block id c ih=>intro Q Q' s hq h; exact ih (fun e s ha=>oW hq ha) h
 | loop c ih =>
  intro Q Q' s hq h
  exact er (fun s ⟨n,h⟩=>⟨n,gj (F:=aw C c) (G:=aw C c) (fun Q Q' s hq h=>ih hq h) hq h⟩) h
 | exit id=>intro Q Q' s hq h; exact hq _ _ h
 | ret=>intro Q Q' s hq h; exact hq _ _ h
 | label l=>intro Q Q' s hq h; exact hq _ _ h
 | goto l=>intro Q Q' s hq h; exact hq _ _ h
 | scope l c r ihc ihr =>
  intro Q Q' s hq h
  refine ihc (fun e s ha=>?_) h
  cases e with
  | goto l' =>
   refine ⟨ha.1,ihr (fun e s hb=>?_) ha.2⟩
   cases e<;>first | exact hb | exact hq _ _ hb
  | _=>exact hq _ _ ha
 | nD g ps wr as bd iha ihb =>
  intro Q Q' s hq h
  simp only [aw] at h ⊢
  obtain ⟨gv,hgv,xs,h1,h2,F,h3,h4,h5,h6⟩:=af h
  rw [hgv]
  refine ⟨xs,h1,h2,F,h3,h4,fun i x s' hx hs=>iha (fun e s ha=>?_) (h5 i x s' hx hs),fun s' hs=>hq _ _ (h6 s' hs)⟩
  cases e<;>first | exact ha.elim | exact ihb (fun e s hb=>tZ hq hb) ha
def flat (keep:List Nat):Nat→ak→ak × Nat
 | i,.join a b =>
  let p:=flat keep (i + 1) a
  let q:=flat keep p.2 b
  (if keep.contains i then .join p.1 q.1 else .seq p.1 q.1,q.2)
 | i,.seq a b =>
  let p:=flat keep i a
  let q:=flat keep p.2 b
  (.seq p.1 q.1,q.2)
 | i,.cond c a b =>
  let p:=flat keep i a
  let q:=flat keep p.2 b
  (.cond c p.1 q.1,q.2)
 | i,.block id c=>(.block id (flat keep i c).1,(flat keep i c).2)
 | i,.nD g ps wr as bd =>
  let p:=flat keep i as
  let q:=flat keep p.2 bd
  (.nD g ps wr p.1 q.1,q.2)
 | i,.loop c=>(.loop (flat keep i c).1,(flat keep i c).2)
 | i,.scope l c r =>
  let p:=flat keep i c
  let q:=flat keep p.2 r
  (.scope l p.1 q.1,q.2)
 | i,c=>(c,i)
theorem aG {keep:List Nat}:∀ {c:ak} {i:Nat} {Q:Exit→S→Prop} {s:S},aw C (flat keep i c).1 Q s→aw C c Q s:=by
 intro c
 induction c with
 | join a b iha ihb =>
  intro i Q s h
  simp only [flat] at h
  split at h
  ·exact iha (ep (fun e s ha=>cv (fun s h=>er (fun s h=>ihb h) h) (fun _ _ h=>h) ha) h)
  ·exact iha (ep (fun e s ha=>cv (fun s h=>jW (ihb h)) (fun _ _ h=>h) ha) h)
 | seq a b iha ihb=>intro i Q s h; exact iha (ep (fun e s ha=>cv (fun s h=>ihb h) (fun _ _ h=>h) ha) h)
 | cond c a b iha ihb =>
  intro i Q s h
  simp only [flat,aw] at h ⊢
  obtain ⟨v,hv,h⟩:=af h
  rw [hv]
  cases v<;>try (exact h.elim)
  exact ⟨fun e=>iha (h.1 e),fun e=>ihb (h.2 e)⟩
 | block id c ih=>intro i Q s h; exact ih h
 | scope l c r ihc ihr =>
  intro i Q s h
  refine ihc (ep (fun e s ha=>?_) h)
  cases e with
  | goto l'=>exact ⟨ha.1,ihr ha.2⟩
  | _=>exact ha
 | nD g ps wr as bd iha ihb =>
  intro i Q s h
  simp only [flat,aw] at h ⊢
  obtain ⟨gv,hgv,xs,h1,h2,F,h3,h4,h5,h6⟩:=af h
  rw [hgv]
  refine ⟨xs,h1,h2,F,h3,h4,fun i x s' hx hs=>iha (ep (fun e s ha=>?_) (h5 i x s' hx hs)),h6⟩
  cases e<;>first | exact ha.elim | exact ihb ha
 | loop c ih =>
  intro i Q s h
  exact er (fun s ⟨n,h⟩=>⟨n,gj (F:=aw C (flat keep i c).1) (G:=aw C c) (fun Q Q' s hq h=>ep hq (ih h)) (fun _ _ h=>h) h⟩) h
 | _=>intro i Q s h; exact h
theorem wj {c:ak} {Q:Exit→S→Prop} {α:Type} (hd:α→S) (μ:α→Nat) (I:α→Prop)
  (round:∀ x,I x→aw C c (dJ (down fun s=>∃ y,s=hd y∧I y∧μ y < μ x) Q) (hd x)) {x:α} (hx:I x) {s:S} (h0:Le s (hd x)∨s=hd x):aw C (.loop c) Q s:=by
 have key:∀ n x,I x→μ x < n→hY (aw C c) Q n (hd x):=by
  intro n
  induction n with
  | zero=>intro x _ h; omega
  | succ n ih =>
   intro x hx hn
   refine ep ?_ (round x hx)
   intro e s ha
   refine cv ?_ (fun _ _ h=>h) ha
   intro s hd
   refine er ?_ hd
   rintro s ⟨y,rfl,hy,hlt⟩
   exact ih y hy (by omega)
 rcases h0 with h0|rfl
 ·exact ⟨hd x,.inl ⟨h0,μ x + 1,key _ x hx (by omega)⟩⟩
 ·exact jW ⟨μ x + 1,key _ x hx (by omega)⟩
end
theorem Cz (k:IntKind) (n:Int):cR (.int k n)=.dat (.int k n) none:=rfl
theorem zj (b:Bool):cR (.bool b)=.dat (.bool b) none:=rfl
theorem wk (k:FloatKind) (n:Nat):cR (.float k n)=.dat (.float k n) none:=rfl
theorem CA (s:ByteArray):cR (.str s)=.dat (.str s) none:=rfl
theorem zk:cR .jS=.dat .jS none:=rfl
theorem zl:cR .bf=.dat .bf none:=rfl
theorem Ef (xs:List (List AV)):cR (.sl xs)=.dat (.sl xs) none:=rfl
theorem Eg (f:Fn) (as bs:List AV):cR (.fn f as bs)=.dat (.fn f as bs) none:=rfl
theorem CB (cs:List AV):cR (.agg cs)=.dat (.agg cs) none:=rfl
theorem CC (cs:List AV):cR (.ref cs)=.rp cs:=rfl
theorem wm (i:Nat) (a:AV) (r:List AV):slotsOf i (a :: r)=(i,cR a) :: slotsOf (i + 1) r:=rfl
theorem t4 (i:Nat):slotsOf i []=[]:=rfl
theorem zm (as:List AV):td as=⟨slotsOf 0 as,[],[],4⟩:=rfl
theorem rQ (i k:Nat) (a:AV) (r:List (Option AV)):d8 i k (some a :: r)=(i,cR a) :: d8 (i + 1) k r:=rfl
theorem rR (i k:Nat) (r:List (Option AV)):d8 i k (none :: r)=(i,.ptr k 0) :: d8 (i + 1) (k + 1) r:=rfl
theorem rS (i k:Nat):d8 i k []=[]:=rfl
theorem t5 (k:Nat) (cs:List AV) (css:List (List AV)):gU k (cs :: css)=(k,⟨cs,[]⟩) :: gU (k + 1) css:=rfl
theorem rT (k:Nat):gU k []=[]:=rfl
theorem wo (css:List (List AV)) (as:List (Option AV)):gV css as=⟨d8 0 0 as,gU 0 css,[],4⟩:=rfl
theorem zn (res:List cn) (r:AV) (s:S):fin res r none .normal s=ah (bu s res) fun p=>p.1=r:=by simp [fin,pF]
theorem zo (res:List cn) (r:AV) (s:S):fin res r none .ret s=ah (bu s res) fun p=>p.1=r:=by simp [fin,pF]
theorem zq (res:List cn) (r:AV) (e:Nat) (s:S):fin res r (some e) .normal s=ah (bu s res) fun p=>p.1=r∧pF (some e) p.2 s.live:=rfl
theorem zu (res:List cn) (r:AV) (e:Nat) (s:S):fin res r (some e) .ret s=ah (bu s res) fun p=>p.1=r∧pF (some e) p.2 s.live:=rfl
theorem Eh (e q:Nat) (lv:List (Nat × Nat)):pF (some e) (some q) lv=(bF q lv=some e):=rfl
theorem wq (res:List cn) (r:AV) (css:List (List AV)) (s:S):pZ res r none css .normal s=ah (bu s res) fun p=>p.1=r∧cS s.boxes 0 css:=by simp [pZ,pF]
theorem wu (res:List cn) (r:AV) (css:List (List AV)) (s:S):pZ res r none css .ret s=ah (bu s res) fun p=>p.1=r∧cS s.boxes 0 css:=by simp [pZ,pF]
theorem wz (l:List (Nat × aN)) (k:Nat):cS l k []=True:=rfl
theorem zw (l:List (Nat × aN)) (k:Nat) (cs:List AV) (css:List (List AV)):cS l k (cs :: css)=(ah (aS k l) (fun x=>x.cells=cs)∧cS l (k + 1) css):=rfl
def CD:Option SV→Option (AV × Option Nat)
 | some (.dat a q)=>some (a,q)
 | _=>none
theorem zx (a:AV) (q:Option Nat):CD (some (.dat a q))=some (a,q):=rfl
theorem zy (s:S) (t:Nat):bu s [.tmp t]=CD (lk t s.slots):=rfl
def t6 (sz:Option Nat) (bx:List (Nat × aN)):Option SV→Option (AV × Option Nat)
 | some (.ptr b off)=>match aS b bx with
  | some x=>match b6 x.cells off sz with
   | some a=>some (a,match sz with | none=>bF off x.tags | some _=>none)
   | none=>none
  | none=>none
 | _=>none
def ng (off:Nat) (sz:Option Nat):Option aN→Option (AV × Option Nat)
 | some x=>match b6 x.cells off sz with
  | some a=>some (a,match sz with | none=>bF off x.tags | some _=>none)
  | none=>none
 | none=>none
theorem zz (s:S) (t:Nat) (sz:Option Nat):bu s [.cell t sz]=t6 sz s.boxes (lk t s.slots):=rfl
theorem wA (sz:Option Nat) (bx:List (Nat × aN)) (b off:Nat):t6 sz bx (some (.ptr b off))=ng off sz (aS b bx):=by
 simp only [t6,ng]
theorem wC (off n:Nat) (x:aN):ng off (some n) (some x)=(b6 x.cells off (some n)).map fun a=>(a,none):=by
 simp only [ng]<;>cases b6 x.cells off (some n)<;>rfl
theorem wD (off:Nat) (x:aN):ng off none (some x)=(x.cells[off]?).map fun a=>(a,bF off x.tags):=by
 simp only [ng,b6]<;>cases x.cells[off]?<;>rfl
theorem zA (s:S):bu s []=some (.kY [],none):=rfl
theorem zB (s:S) (x y:cn) (r:List cn):bu s (x :: y :: r)=(eH s (x :: y :: r)).map fun as=>(.kY as,none):=rfl
def t7:Option (AV × Option Nat)→Option (List AV)→Option (List AV)
 | some p,some as=>some (p.1 :: as)
 | _,_=>none
theorem wE (a:AV) (q:Option Nat) (as:List AV):t7 (some (a,q)) (some as)=some (a :: as):=rfl
theorem zC (s:S) (x:cn) (r:List cn):eH s (x :: r)=t7 (bu s [x]) (eH s r):=by
 simp only [eH,t7,bu]<;>cases rD s x<;>cases eH s r<;>rfl
theorem wF (s:S):eH s []=some []:=rfl
def E4 :=
 And.intro @Cz (And.intro @zj (And.intro @wk (And.intro @CA (And.intro @zk (And.intro @zl (And.intro @Ef (And.intro @Eg (And.intro @CB (And.intro @CC (And.intro @wm (And.intro @t4 (And.intro @zm (And.intro @rQ (And.intro @rR (And.intro @rS (And.intro @t5 (And.intro @rT (And.intro @wo (And.intro @zn (And.intro @zo (And.intro @zq (And.intro @zu (And.intro @Eh (And.intro @wq (And.intro @wu (And.intro @wz (And.intro @zw (And.intro @zx (@zy)))))))))))))))))))))))))))))
def E5 :=
 And.intro @zz (And.intro @wA (And.intro @wC (And.intro @wD (And.intro @zA (And.intro @zB (And.intro @wE (And.intro @zC (@wF))))))))
def EW :=
 And.intro @E4 (@E5)
end Go.Eng
namespace Go.Eng
open Go
abbrev I (n:Int):AV:=.int .i64 n
abbrev B (b:Bool):AV:=.bool b
abbrev D (n:Nat):AV:=.float .f64 n
def Ei (n:Int):Int:=IntKind.i64.wrap n
def bg {α:Type} (f:α→List AV):Option (List α)→AV
 | none=>.bf
 | some l=>.sl (l.map f)
def dO (n:Int):List AV:=[I n]
structure Ph where
 on:Bool
 min:Int
 E6:Int
 max:Int
 top:Int
 step:Int
 zD:Int
 red:Int
 walk:Int
 zE:Int
 zF:Int
 lock:Bool
 rest:Bool
 deriving Inhabited,DecidableEq
def Ph.cells (p:Ph):List AV:=[B p.on,I p.min,I p.E6,I p.max,I p.top,I p.step,I p.zD,I p.red,I p.walk,I p.zE,I p.zF,B p.lock,B p.rest]
structure DC where
 phase:Int
 on:Nat
 off:Nat
 delay:Nat
 extend:Nat
 maxOn:Int
 zG:Int
 deriving Inhabited,DecidableEq
def DC.cells (d:DC):List AV:=[I d.phase,D d.on,D d.off,D d.delay,D d.extend,I d.maxOn,I d.zG]
structure Rl where
 bars:Int
 clear:Int
 CE:Int
 exit:Int
 delay:Int
 green:Int
 zH:Int
 hold:Int
 stay:Int
 most:Int
 limit:Int
 deriving Inhabited,DecidableEq
def Rl.cells (r:Rl):List AV:=[I r.bars,I r.clear,I r.CE,I r.exit,I r.delay,I r.green,I r.zH,I r.hold,I r.stay,I r.most,I r.limit]
structure Bs where
 set:Int
 lock:Int
 deriving Inhabited,DecidableEq
def Bs.cells (b:Bs):List AV:=[I b.set,I b.lock]
structure Gr where
 a:Option (List Int)
 b:Option (List Int)
 deriving Inhabited,DecidableEq
def Gr.cells (g:Gr):List AV:=[bg dO g.a,bg dO g.b]
structure Tb where
 phases:List Ph
 groups:Option (List Gr)
 conflict:List Int
 nh:Option (List DC)
 t8:Option (List Rl)
 t9:Option (List Bs)
 extend:Int
 zI:Int
 start:Int
 revert:Int
 least:Int
 qQ:List Int
 zJ:Int
 share:Int
 deriving Inhabited,DecidableEq
def Tb.cells (t:Tb):List AV :=
 t.phases.flatMap Ph.cells++(bg Gr.cells t.groups :: (t.conflict.map I++(bg DC.cells t.nh :: bg Rl.cells t.t8 :: bg Bs.cells t.t9 ::
  I t.extend :: I t.zI :: I t.start :: I t.revert :: I t.least :: (t.qQ.map I++[I t.zJ,I t.share]))))
structure Tb.Ok (t:Tb):Prop where
 phases:t.phases.length=8
 conflict:t.conflict.length=8
 qQ:t.qQ.length=8
 groups:(t.groups.getD []).length≤1048576
 rows:∀ g∈t.groups.getD [],(g.a.getD []).length≤1048576∧(g.b.getD []).length≤1048576
 E7:(t.nh.getD []).length≤1048576
 t8:(t.t8.getD []).length≤1048576
 t9:(t.t9.getD []).length≤1048576
theorem kS {α:Type} {f:α→List AV} {z:Nat} (hf:∀ x,(f x).length=z):∀ {l:List α},(l.flatMap f).length=l.length * z
 | []=>by simp
 | x :: l=>by simp [List.flatMap_cons,hf,kS hf (l:=l),Nat.add_mul]; omega
theorem Ph.len (p:Ph):p.cells.length=13:=rfl
theorem Tb.len {t:Tb} (h:t.Ok):t.cells.length=131:=by
 simp [Tb.cells,kS Ph.len,h.phases,h.conflict,h.qQ]
end Go.Eng
namespace Go.Eng.Z
open Go
def o (d:Nat) (x:aK):CO:=⟨some d,x,none⟩
def p (d:Nat) (x:aK) (g:Nat):CO:=⟨some d,x,some (g,true)⟩
def q (d:Nat) (x:aK) (g:Nat):CO:=⟨some d,x,some (g,false)⟩
def n (x:aK):CO:=⟨none,x,none⟩
def M (d x:Nat):CO:=⟨some d,.mv (.t x),none⟩
def V (d:Nat) (v:AV):CO:=⟨some d,.mv (.k v),none⟩
def m (x:Nat):aK:=.mv (.t x)
def v (x:AV):aK:=.mv (.k x)
def l (x:Nat):aK:=.ld (.t x) none
def L (x z:Nat):aK:=.ld (.t x) (some z)
def f (x z:Nat):aK:=.fa (.t x) z
def s (x y z:Nat):aK:=.st (.t x) (.t y) z
def ss (x:Nat) (y:AV) (z:Nat):aK:=.st (.t x) (.k y) z
def A (x y a b:Nat):aK:=.xe (.t x) (.t y) a b
def a (x y z:Nat):aK:=.nA (.t x) (.t y) z
def P (x y:Nat):aK:=.pick (.t x) (.t y) (.k (.bool false))
def Q (x y:Nat):aK:=.pick (.t x) (.k (.bool true)) (.t y)
def h (x:Nat):aK:=.dM (.t x)
def w (x:Nat):aK:=.box (.t x)
def b (g:BinOp) (x y:Nat):aK:=.bin g (.t x) (.t y)
def bb (g:BinOp) (x:Nat) (y:AV):aK:=.bin g (.t x) (.k y)
def e (x y:Nat):aK:=.ext (.t x) y
def i (x:Int):AV:=.int .i64 x
def t (x:Nat):aD:=.t x
def k (x:AV):aD:=.k x
def r (x:List CO) (y:ak):ak:=.seq (.sj x) y
def R (x:List CO):ak:=.sj x
def j (x y:ak):ak:=.join x y
def c (x:Nat) (y z:ak):ak:=.cond (.t x) y z
def u (x:Nat) (y:ak):ak:=.block x y
def y:ak:=.ret
def z:ak:=.skip
def T:AV:=.bool true
def F:AV:=.bool false
def H :=
 And.intro @o.eq_1 (And.intro @p.eq_1 (And.intro @q.eq_1 (And.intro @n.eq_1 (And.intro @M.eq_1 (And.intro @V.eq_1 (And.intro @m.eq_1 (And.intro @v.eq_1 (And.intro @l.eq_1 (And.intro @L.eq_1 (And.intro @f.eq_1 (And.intro @s.eq_1 (And.intro @ss.eq_1 (And.intro @A.eq_1 (And.intro @a.eq_1 (And.intro @P.eq_1 (And.intro @Q.eq_1 (And.intro @h.eq_1 (And.intro @w.eq_1 (And.intro @b.eq_1 (And.intro @bb.eq_1 (And.intro @e.eq_1 (And.intro @i.eq_1 (And.intro @t.eq_1 (And.intro @k.eq_1 (And.intro @r.eq_1 (And.intro @R.eq_1 (And.intro @j.eq_1 (And.intro @c.eq_1 (And.intro @u.eq_1 (And.intro @y.eq_1 (And.intro @z.eq_1 (And.intro @T.eq_1 @F.eq_1))))))))))))))))))))))))))))))))
end Go.Eng.Z
namespace Go.Eng
open Go
section
open Z
def eJ:gK:=⟨15,[.tmp 4],r [V 4 (i 0)] (r [M 6 0,M 7 1,o 8 (b .rem 6 7),M 5 8] (j (r [M 9 5,o 10 (bb .lss 9 (i 0))] (c 10 (R [M 11 5,M 12 1,o 13 (b .add 11 12),M 5 13]) z)) (r [M 14 5,M 4 14] y)))⟩
def gk:gK:=⟨16,[.tmp 6],r [V 6 (i 0)] (j (r [M 7 0,M 8 1,o 9 (b .lss 7 8)] (c 9 (r [M 10 1,M 6 10] y) z)) (j (r [M 11 0,M 12 2,o 13 (b .gtr 11 12)] (c 13 (r [M 14 2,M 6 14] y) z)) (r [M 15 0,M 6 15] y)))⟩
end
end Go.Eng
