/- The engine and the library,part 4 of 12: what the proofs of this seat need of them. -/
import Derived.Test.YthoinfdfenkgnaaGreatPk3
set_option linter.unnecessarySimpa false
set_option linter.unusedSimpArgs false
set_option linter.unusedVariables false
set_option linter.defProp false
set_option maxRecDepth 10000
set_option maxHeartbeats 4000000
namespace Go.Eng
open Go
theorem iC {α:Type} (n m:Nat) (x y:α):(bif n == m then x else y)=if n=m then x else y:=by
 by_cases h:n=m
 ·simp [h]
 ·have h':(n == m)=false:=by simpa using h
  simp [h,h']
def gl (C:bI) (id:Nat) (o:CO) (K:S→Prop) (s:S):Prop :=
 cv s o.g (aV C id o.op (fun v s'=>K (s'.put o.dst v)) s) (K (s.put o.dst .undef))
theorem iK {C:bI} {base i:Nat} {o:CO} {r:List CO} {K:S→Prop} {s:S}:fq C base i (o :: r) K s=gl C (base + i) o (fq C base (i + 1) r K) s:=rfl
theorem jP.refl {l lb:List Nat} {ap:Bool} {s:S}:jP l lb ap s s:=⟨fun _ _=>rfl,fun _ _ _ _ _ _ h=>h,fun _ _ _ _ _ _ _ h=>h⟩
theorem jP.trans {l lb:List Nat} {ap:Bool} {s s2 s3:S} (hl:∀ t∈lb,t∈l) (h:jP l lb ap s s2) (k:jP l lb ap s2 s3):jP l lb ap s s3 :=
  ⟨fun t ht=>(k.slots t ht).trans (h.slots t ht),fun t ht b off x hv hb=>k.boxes t ht b off x (by rw [h.slots t (hl t ht)]; exact hv) (h.boxes t ht b off x hv hb),
   fun e t ht a q e' hv hq=>k.live e t ht a q e' (by rw [h.slots t ht]; exact hv) (h.live e t ht a q e' hv hq)⟩
theorem ni {s:S} {d:Option Nat} {v:SV} {t:Nat}:lk t (s.put d v).slots=if d=some t then some v else lk t s.slots:=by
 cases d with
 | none=>simp [S.put]
 | some d =>
  simp only [S.put,lk,iC]
  by_cases h:t=d
  ·subst h; simp
  ·have h2:¬ (some d=some t):=fun e=>h (Option.some.inj e).symm
   rw [if_neg h,if_neg h2]
theorem eE {s:S} {d:Option Nat} {v:SV}:(s.put d v).boxes=s.boxes:=by cases d<;>rfl
theorem fJ {s:S} {d:Option Nat} {v:SV}:(s.put d v).live=s.live:=by cases d<;>rfl
theorem fj {m:Nat} {b:bA}:∀ {l:List (Nat × bA)} {n:Nat},bF n (k7 m b l)=if n=m then (bF m l).map fun _=>b else bF n l
 | [],n=>by simp [k7,bF]
 |(k,v) :: r,n=>by
  have ih:=fj (m:=m) (b:=b) (l:=r) (n:=n)
  simp only [k7,iC]
  by_cases hmk:m=k
  ·subst hmk
   simp only [if_true,bF,iC]
   by_cases hn:n=m
   ·simp [hn]
   ·simp [hn]
  ·simp only [hmk,if_false,bF,iC,ih]
   by_cases hnk:n=k
   ·have:¬ n=m:=fun e=>hmk (e.symm.trans hnk)
    simp [hnk,Ne.symm hmk]
   ·simp only [hnk,if_false]
theorem mB {m:Nat}:∀ {l:List (Nat × Nat)} {n:Nat},cw n (iN m l)=if n=m then none else cw n l
 | [],n=>by simp [iN,cw]
 |(k,v) :: r,n=>by
  have ih:=mB (m:=m) (l:=r) (n:=n)
  simp only [iN,iC]
  by_cases hmk:m=k
  ·subst hmk
   simp only [if_true,cw,iC,ih]
   by_cases hn:n=m
   ·simp [hn]
   ·simp [hn]
  ·simp only [hmk,if_false,cw,iC,ih]
   by_cases hnk:n=k
   ·simp [hnk,Ne.symm hmk]
   ·simp only [hnk,if_false]
structure k9 (s s2:S):Prop where
 slots:∀ t,lk t s2.slots=lk t s.slots
 boxes:∀ b,bF b s2.boxes=bF b s.boxes
 live:∀ q,cw q s2.live=cw q s.live
theorem k9.refl {s:S}:k9 s s:=⟨fun _=>rfl,fun _=>rfl,fun _=>rfl⟩
theorem k9.symm {s s2:S} (h:k9 s s2):k9 s2 s:=⟨fun t=>(h.slots t).symm,fun t=>(h.boxes t).symm,fun t=>(h.live t).symm⟩
theorem k9.trans {s s2 s3:S} (h:k9 s s2) (k:k9 s2 s3):k9 s s3:=⟨fun t=>(k.slots t).trans (h.slots t),fun t=>(k.boxes t).trans (h.boxes t),fun t=>(k.live t).trans (h.live t)⟩
theorem k9.NI {s s2:S} (h:k9 s s2) {l lb:List Nat} {ap:Bool}:jP l lb ap s s2 :=
 ⟨fun t _=>h.slots t,fun t _ b off x _ hb=>by rw [h.boxes]; exact hb,fun _ t _ a q e _ hq=>by rw [h.live]; exact hq⟩
theorem k9.put {s s2:S} (h:k9 s s2) (d:Option Nat) (v:SV):k9 (s.put d v) (s2.put d v) :=
 ⟨fun t=>by rw [ni,ni,h.slots],fun b=>by rw [eE,eE]; exact h.boxes b,fun b=>by rw [fJ,fJ]; exact h.live b⟩
theorem pV:∀ {ids:List Nat} {css:List (List AV)} {l l2:List (Nat × bA)},(∀ b,bF b l2=bF b l)→∀ b,bF b (cJ ids css l2)=bF b (cJ ids css l)
 | [],css,l,l2,h,b=>by cases css<;>exact h b
 | i :: ids,[],l,l2,h,b=>h b
 | i :: ids,cs :: css,l,l2,h,b=>by
  simp only [cJ]
  exact pV (fun b=>by simp only [fj,h]) b
theorem k9.eM {ids:List Nat}:∀ {css:List (List AV)} {s s2:S},k9 s s2→k9 (eM ids css s) (eM ids css s2):=by
 induction ids with
 | nil=>intro css s s2 h; cases css<;>exact h
 | cons b ids ih =>
  intro css s s2 h
  cases css with
  | nil=>exact h
  | cons cs css =>
   exact ih ⟨fun t=>by simp only [ob,h.slots],fun c=>by simp only [jW,h.boxes],h.live⟩
theorem k9.app {s s2:S} (h:k9 s s2) (d:Delta) (id:Nat):k9 (d.app' id s) (d.app' id s2):=by
 cases d with
 | vT ids css=>exact h.eM
 | no=>exact h
 | box b=>exact ⟨h.slots,fun c=>by simp only [Delta.app',bF,h.boxes],h.live⟩
 | live e=>exact ⟨h.slots,h.boxes,fun q=>by simp only [Delta.app',cw,h.live]⟩
 | app q0 e=>exact ⟨h.slots,h.boxes,fun q=>by simp only [Delta.app',cw,h.live,mB]⟩
 | st b x=>exact ⟨h.slots,fun c=>by simp only [Delta.app',h.boxes,fj],h.live⟩
 | calls ids css fr=>exact ⟨h.slots,pV h.boxes,fun q=>by cases fr<;>simp only [Delta.app',cw,h.live]⟩
theorem k9.dW {s s2:S} (h:k9 s s2) {U:Nat→Prop} (hs:s.dW U):s2.dW U :=
 ⟨fun t v hv=>hs.slots t v (by rw [← h.slots]; exact hv),fun b x hb=>hs.boxes b x (by rw [← h.boxes]; exact hb),fun q e hq=>hs.live q e (by rw [← h.live]; exact hq)⟩
def xB (C:bI) (id:Nat) (o:CO) (s:S) (v:SV) (d:Delta):Prop :=
 (d.ok o.op s∧mT id o.op s v)∧∀ s2,jP o.rd o.op.m5 o.op.isApp s s2→∀ K',K' ((d.app' id s2).put o.dst v)→gl C id o K' s2
theorem yI {s:S} {U:Nat→Prop} (h:s.dW U) {d:Option Nat} {v:SV} (hv:v.dW U):(s.put d v).dW U:=by
 refine ⟨fun t u hu=>?_,fun b x hb=>h.boxes b x (by rwa [eE] at hb),fun q e hq=>h.live q e (by rwa [fJ] at hq)⟩
 rw [ni] at hu
 split at hu
 ·cases hu; exact hv
 ·exact h.slots t u hu
theorem qA {s:S} {U U':Nat→Prop} (hU:∀ n,U n→U' n) (h:s.dW U):s.dW U' :=
 ⟨fun t v hv=>SV.lF hU (h.slots t v hv),fun b x hb=>⟨hU _ (h.boxes b x hb).1,fun o q hq=>hU _ ((h.boxes b x hb).2 o q hq)⟩,fun q e hq=>hU _ (h.live q e hq)⟩
theorem tX:∀ {ids:List Nat} {css:List (List AV)} {l:List (Nat × bA)} {U:Nat→Prop},(∀ b x,bF b l=some x→U b∧x.dW U)→(∀ b∈ids,U b)→∀ b x,bF b (cJ ids css l)=some x→U b∧x.dW U
 | [],css,l,U,h,hi,b,x,hb=>by cases css<;>exact h b x hb
 | i :: ids,[],l,U,h,hi,b,x,hb=>h b x hb
 | i :: ids,cs :: css,l,U,h,hi,b,x,hb=>by
  simp only [cJ] at hb
  refine tX (fun b x hx=>?_) (fun b hb=>hi b (List.mem_cons_of_mem _ hb)) b x hb
  rw [fj] at hx
  split at hx
  ·rename_i e
   cases hl:bF i l with
   | none=>simp [hl] at hx
   | some y =>
    simp [hl] at hx; subst hx
    exact ⟨e ▸ hi i (List.mem_cons_self ..),fun o q hq=>by cases hq⟩
  ·exact h b x hx
theorem A5 {ids:List Nat} {U:Nat→Prop}:∀ {css:List (List AV)} {s:S},s.dW U→(eM ids css s).dW U:=by
 induction ids with
 | nil=>intro css s h; cases css<;>exact h
 | cons b ids ih =>
  intro css s h
  cases css with
  | nil=>exact h
  | cons cs css =>
   refine ih ⟨fun t v hv=>?_,fun c x hc=>?_,h.live⟩
   ·simp only [ob,Option.map_eq_some_iff] at hv
    obtain ⟨u,hu,rfl⟩:=hv
    have hi:=h.slots t u hu
    cases u with
    | ptr c o =>
     simp only [ki,iC]
     split
     ·trivial
     ·exact hi
    | dat a q=>exact hi
    | rp cs=>exact hi
    | undef=>exact hi
    | vs _ _ _ _=>exact hi
    | kY _ _ _=>exact hi
    | raw _ _=>exact hi
   ·simp only [jW] at hc
    split at hc
    ·cases hc
    ·exact h.boxes c x hc
theorem Dn {s:S} {U:Nat→Prop} (h:s.dW U) {d:Delta} {id:Nat} (hd:d.dW U):(d.app' id s).dW (cV U id):=by
 have h':s.dW (cV U id):=qA (fun n hn=>.inl hn) h
 cases d with
 | no=>exact h'
 | vT ids css=>exact A5 h'
 | box b =>
  refine ⟨h'.slots,fun b' x hb=>?_,h'.live⟩
  simp only [Delta.app',bF] at hb
  by_cases he:b'=id
  ·subst he
   simp at hb; subst hb
   exact ⟨.inr rfl,fun o q hq=>.inl (hd o q hq)⟩
  ·have he':(b' == id)=false:=by simpa using he
   rw [he'] at hb; exact h'.boxes b' x hb
 | live e =>
  refine ⟨h'.slots,h'.boxes,fun q e' hq=>?_⟩
  simp only [Delta.app',cw] at hq
  by_cases he:q=id
  ·subst he; exact .inr rfl
  ·have he':(q == id)=false:=by simpa using he
   rw [he'] at hq; exact h'.live q e' hq
 | app q0 e =>
  refine ⟨h'.slots,h'.boxes,fun q e' hq=>?_⟩
  simp only [Delta.app',cw] at hq
  by_cases he:q=id
  ·subst he; exact .inr rfl
  ·have he':(q == id)=false:=by simpa using he
   rw [he',mB] at hq
   simp only [cond_false] at hq
   split at hq
   ·cases hq
   ·exact h'.live q e' hq
 | st b0 x0 =>
  refine ⟨h'.slots,fun b x hb=>?_,h'.live⟩
  simp only [Delta.app',fj] at hb
  split at hb
  ·rename_i he
   cases hl:bF b0 s.boxes with
   | none=>simp [hl] at hb
   | some y =>
    simp [hl] at hb; subst hb
    exact ⟨.inl (he ▸ hd.1),fun o q hq=>.inl (hd.2 o q hq)⟩
  ·exact h'.boxes b x hb
 | calls ids css fr =>
  refine ⟨h'.slots,tX h'.boxes (fun b hb=>.inl (hd b hb)),fun q e' hq=>?_⟩
  cases fr with
  | none=>exact h'.live q e' hq
  | some e =>
   simp only [Delta.app',cw,iC] at hq
   split at hq
   ·rename_i he; subst he; exact .inr rfl
   ·exact h'.live q e' hq
section
variable {C:bI} {id:Nat} {o:CO} {K:S→Prop} {s:S}
theorem CO.q8 {o:CO} {t:Nat} (h:t∈o.op.rd):t∈o.rd:=by simp [CO.rd,h]
theorem cA (h:gl C id o K s):∃ v d,xB C id o s v d∧K ((d.app' id s).put o.dst v)∧∀ U,s.dW U→((d.app' id s).put o.dst v).dW (cV U id):=by
  have main:∀ {K:S→Prop},aV C id o.op (fun v s'=>K (s'.put o.dst v)) s→∃ (v:SV) (d:Delta),(d.ok o.op s∧mT id o.op s v)∧(∀ s2,jP o.rd o.op.m5 o.op.isApp s s2→∀ K':S→Prop,K' ((d.app' id s2).put o.dst v)→aV C id o.op (fun v s'=>K' (s'.put o.dst v)) s2)∧K ((d.app' id s).put o.dst v)∧∀ U,s.dW U→((d.app' id s).put o.dst v).dW (cV U id):=by
    intro K h
    obtain ⟨v,d,hK,hok,hU,hfp,hs⟩:=lI h
    exact ⟨v,d,⟨hok,hfp⟩,fun s2 ag K' hk=>hs s2 (ag.sub fun t ht=>CO.q8 ht) _ hk,hK,fun U hU'=>yI (Dn hU' (hU U hU').2) (hU U hU').1⟩
  have skip:K (s.put o.dst .undef)→(∀ s2,jP o.rd o.op.m5 o.op.isApp s s2→∀ K',K' (s2.put o.dst .undef)→gl C id o K' s2)→∃ v d,xB C id o s v d∧K ((d.app' id s).put o.dst v)∧∀ U,s.dW U→((d.app' id s).put o.dst v).dW (cV U id):=by
    intro hK hs
    exact ⟨.undef,.no,⟨⟨trivial,.undef⟩,hs⟩,hK,fun U hU=>yI (qA (fun n h=>.inl h) hU) trivial⟩
  unfold gl cv at h
  cases hg:o.g with
  | none =>
    simp only [hg] at h
    obtain ⟨v,d,h1,h2,h3,h4⟩:=main h
    exact ⟨v,d,⟨h1,fun s2 ag K' hk=>by unfold gl cv; simp only [hg]; exact h2 s2 ag K' hk⟩,h3,h4⟩
  | some p =>
    obtain ⟨t,want⟩:=p
    have htm:t∈o.rd:=by simp [CO.rd,hg]
    simp only [hg] at h
    cases hl:lk t s.slots with
    | none=>simp [hl] at h
    | some v =>
      have hl2:∀ s2,jP o.rd o.op.m5 o.op.isApp s s2→lk t s2.slots=some v:=fun s2 ag=>by rw [ag.slots t htm,hl]
      simp only [hl] at h
      cases v with
      | ptr b o=>exact h.elim
      | rp cs=>exact h.elim
      | vs _ _ _ _=>exact h.elim
      | kY _ _ _=>exact h.elim
      | raw _ _=>exact h.elim
      | undef=>exact skip h fun s2 ag K' hk=>by unfold gl cv; simp only [hg,hl2 s2 ag]; exact hk
      | dat a q =>
        cases a<;>try (exact h.elim)
        rename_i b
        by_cases hb:b=want
        · obtain ⟨v,d,h1,h2,h3,h4⟩:=main (h.1 hb)
          exact ⟨v,d,⟨h1,fun s2 ag K' hk=>by
            unfold gl cv; simp only [hg,hl2 s2 ag]
            exact ⟨fun _=>h2 s2 ag K' hk,fun hn=>by subst hb; cases b<;>cases hn⟩⟩,h3,h4⟩
        · have hb':b=!want:=by cases b<;>cases want<;>simp_all
          exact skip (h.2 hb') fun s2 ag K' hk=>by
            unfold gl cv; simp only [hg,hl2 s2 ag]
            exact ⟨fun e=>absurd e hb,fun _=>hk⟩
end
structure EB (α:Type) where
 tgt:Nat
 g:Option α→Option α
def EB.ap {α:Type} (e:EB α) (f:Nat→Option α):Nat→Option α:=fun c=>if c=e.tgt then e.g (f c) else f c
def pW {α:Type} (l:List (EB α)) (f:Nat→Option α):Nat→Option α:=l.foldl (fun f e=>e.ap f) f
theorem EB.comm {α:Type} {e e':EB α} (h:e.tgt≠e'.tgt) (f:Nat→Option α):e.ap (e'.ap f)=e'.ap (e.ap f):=by
 funext c
 simp only [EB.ap]
 by_cases h1:c=e.tgt
 ·have h2:c≠e'.tgt:=fun e2=>h (h1.symm.trans e2)
  simp [h1,h2]
  have:¬ e.tgt=e'.tgt:=h
  simp [this]
 ·simp [h1]
theorem tY {α:Type} {e:EB α}:∀ {l:List (EB α)} {f:Nat→Option α},(∀ e'∈l,e.tgt≠e'.tgt)→pW l (e.ap f)=e.ap (pW l f)
 | [],f,_=>rfl
 | a :: l,f,h=>by
  show pW l (a.ap (e.ap f))=e.ap (pW l (a.ap f))
  rw [← EB.comm (h a List.mem_cons_self)]
  exact tY fun e' he'=>h e' (List.mem_cons_of_mem _ he')
theorem q9 {α:Type} {l':List (EB α)}:∀ {l:List (EB α)} {f:Nat→Option α},(∀ e∈l,∀ e'∈l',e.tgt≠e'.tgt)→pW l (pW l' f)=pW l' (pW l f)
 | [],f,_=>rfl
 | e :: l,f,h=>by
  show pW l (e.ap (pW l' f))=pW l' (pW l (e.ap f))
  rw [← tY (h e List.mem_cons_self)]
  exact q9 fun a ha=>h a (List.mem_cons_of_mem _ ha)
theorem jX {α:Type} {c:Nat}:∀ {l:List (EB α)} {f:Nat→Option α},(∀ e∈l,e.tgt≠c)→pW l f c=f c
 | [],f,_=>rfl
 | e :: l,f,h=>by
  show pW l (e.ap f) c=f c
  rw [jX fun a ha=>h a (List.mem_cons_of_mem _ ha)]
  exact if_neg (fun e2=>h e List.mem_cons_self e2.symm)
def wB:Delta→List Nat
 | .st b _=>[b]
 | .calls ids _ _=>ids
 | .vT ids _=>ids
 | _=>[]
def eB (d:Delta) (id:Nat):List (EB bA) :=
 match d with
 | .box b=>[⟨id,fun _=>some b⟩]
 | .st b x=>[⟨b,Option.map fun _=>x⟩]
 | .calls ids css _=>(ids.zip css).map fun p=>⟨p.1,Option.map fun _=>⟨p.2,[]⟩⟩
 | .vT ids css=>(ids.zip css).map fun p=>⟨p.1,fun _=>none⟩
 | _=>[]
def eL (d:Delta) (id:Nat):List (EB Nat) :=
 match d with
 | .live e=>[⟨id,fun _=>some e⟩]
 | .app q e=>[⟨q,fun _=>none⟩,⟨id,fun _=>some e⟩]
 | .calls _ _ (some e)=>[⟨id,fun _=>some e⟩]
 | _=>[]
def fz (d:Delta):SV→SV :=
 match d with
 | .vT ids css=>fun v=>(ids.zip css).foldl (fun v p=>ki p.1 p.2 v) v
 | _=>fun v=>v
theorem tZ:∀ {ids:List Nat} {css:List (List AV)} {l:List (Nat × bA)},(fun b=>bF b (cJ ids css l))=pW ((ids.zip css).map fun p=>(⟨p.1,Option.map fun _=>⟨p.2,[]⟩⟩:EB bA)) (fun b=>bF b l)
 | [],css,l=>by cases css<;>rfl
 | i :: ids,[],l=>rfl
 | i :: ids,cs :: css,l=>by
  show (fun b=>bF b (cJ ids css (k7 i ⟨cs,[]⟩ l)))=_
  rw [tZ (ids:=ids) (css:=css)]
  refine congrArg (pW _) (funext fun b=>?_)
  rw [fj]
  show _=if b=i then _ else _
  split
  ·rename_i e; subst e; rfl
  ·rfl
theorem wu:∀ {ids:List Nat} {css:List (List AV)} {s:S},(fun b=>bF b (eM ids css s).boxes)=pW ((ids.zip css).map fun p=>(⟨p.1,fun _=>none⟩:EB bA)) (fun b=>bF b s.boxes)
 | [],css,s=>by cases css<;>rfl
 | i :: ids,[],s=>rfl
 | i :: ids,cs :: css,s=>by
  show (fun b=>bF b (eM ids css { s with slots:=qT i cs s.slots,boxes:=mO i s.boxes }).boxes)=_
  rw [wu (ids:=ids) (css:=css)]
  refine congrArg (pW _) (funext fun b=>?_)
  rw [jW]
  rfl
theorem ri:∀ {ids:List Nat} {css:List (List AV)} {s:S} (t:Nat),lk t (eM ids css s).slots=(lk t s.slots).map fun v=>(ids.zip css).foldl (fun v p=>ki p.1 p.2 v) v
 | [],css,s,t=>by cases css<;>simp [eM]
 | i :: ids,[],s,t=>by simp [eM]
 | i :: ids,cs :: css,s,t=>by
  show lk t (eM ids css { s with slots:=qT i cs s.slots,boxes:=mO i s.boxes }).slots=_
  rw [ri (ids:=ids) (css:=css) t,ob,Option.map_map]
  rfl
theorem nj (d:Delta) (id:Nat) (s:S):(fun b=>bF b (d.app' id s).boxes)=pW (eB d id) (fun b=>bF b s.boxes):=by
 cases d with
 | box b=>funext c; simp only [Delta.app',bF,iC]; show _=if c=id then _ else _; rfl
 | st b x =>
  funext c; simp only [Delta.app',fj]
  show _=if c=b then _ else _
  split
  ·rename_i e; subst e; rfl
  ·rfl
 | calls ids css fr=>exact tZ
 | vT ids css=>exact wu
 | _=>rfl
theorem o5 (d:Delta) (id:Nat) (s:S):(fun b=>cw b (d.app' id s).live)=pW (eL d id) (fun b=>cw b s.live):=by
 cases d with
 | live e=>funext c; simp only [Delta.app',cw,iC]; rfl
 | app q e=>funext c; simp only [Delta.app',cw,iC,mB]; show _=if c=id then _ else if c=q then _ else _; rfl
 | calls ids css fr=>cases fr with
  | none=>rfl
  | some e=>funext c; simp only [Delta.app',cw,iC]; rfl
 | vT ids css=>simp only [Delta.app',tW]; rfl
 | _=>rfl
theorem ko (d:Delta) (id:Nat) (s:S) (t:Nat):lk t (d.app' id s).slots=(lk t s.slots).map (fz d):=by
 cases d with
 | vT ids css=>exact ri t
 | _=>simp [Delta.app',fz]
theorem uT {d:Delta} {id:Nat} {e:EB bA} (h:e∈eB d id):e.tgt=id∨e.tgt∈wB d:=by
 cases d with
 | box b=>simp [eB] at h; subst h; exact .inl rfl
 | st b x=>simp [eB] at h; subst h; exact .inr (by simp [wB])
 | calls ids css fr =>
  simp only [eB,List.mem_map] at h
  obtain ⟨p,hm,rfl⟩:=h; exact .inr (List.of_mem_zip hm).1
 | vT ids css =>
  simp only [eB,List.mem_map] at h
  obtain ⟨p,hm,rfl⟩:=h; exact .inr (List.of_mem_zip hm).1
 | _=>simp [eB] at h
theorem oc:∀ {l:List (Nat × List AV)} {v:SV},l.foldl (fun v p=>ki p.1 p.2 v) v=v∨∃ cs b o,v=.ptr b o∧b∈l.map (·.1)∧l.foldl (fun v p=>ki p.1 p.2 v) v=.rp cs
 | [],v=>.inl rfl
 | p :: l,v=>by
  simp only [List.foldl_cons]
  cases v with
  | ptr b o =>
   by_cases e:b=p.1
   ·refine .inr ⟨p.2.drop o,b,o,rfl,by simp [e],?_⟩
    have:ki p.1 p.2 (.ptr b o)=.rp (p.2.drop o):=by simp [ki,e]
    rw [this]
    rcases oc (l:=l) (v:=.rp (p.2.drop o)) with h|⟨_,_,_,h,_⟩
    ·exact h
    ·cases h
   ·have:ki p.1 p.2 (.ptr b o)=.ptr b o:=by
     have e':(b == p.1)=false:=by simpa using e
     simp [ki,e']
    rw [this]
    rcases oc (l:=l) (v:=.ptr b o) with h|⟨cs,b',o',h,hm,h2⟩
    ·exact .inl h
    ·cases h; exact .inr ⟨cs,b,o,rfl,List.mem_cons_of_mem _ hm,h2⟩
  | _ =>
   show l.foldl _ _=_∨_
   rcases oc (l:=l) (v:=_) with h|⟨_,_,_,h,_⟩
   ·exact .inl h
   ·cases h
theorem fK (d:Delta) (v:SV):fz d v=v∨∃ cs b o ids css,d=.vT ids css∧v=.ptr b o∧b∈wB d∧fz d v=.rp cs:=by
 cases d with
 | vT ids css =>
  rcases oc (l:=ids.zip css) (v:=v) with h|⟨cs,b,o,h1,h2,h3⟩
  ·exact .inl h
  ·refine .inr ⟨cs,b,o,ids,css,rfl,h1,?_,h3⟩
   obtain ⟨p,hp,rfl⟩:=List.mem_map.1 h2
   exact (List.of_mem_zip hp).1
 | _=>exact .inl rfl
theorem Fz (d:Delta) (cs:List AV):fz d (.rp cs)=.rp cs:=by
 rcases fK d (.rp cs) with h|⟨_,_,_,_,_,_,h,_⟩
 ·exact h
 ·cases h
theorem Dp {dx dy:Delta} (hd:∀ b∈wB dx,b ∉ wB dy) (v:SV):fz dy (fz dx v)=fz dx (fz dy v):=by
 rcases fK dx v with h|⟨cs,b,o,_,_,_,rfl,hb,h⟩
 ·rw [h]
  rcases fK dy v with k|⟨cs',b',o',_,_,_,rfl,hb',k⟩
  ·rw [k,h]
  ·rw [k,Fz]
 ·rcases fK dy (.ptr b o) with k | ⟨cs',b',o',_,_,_,e,hb',k⟩
  ·rw [k,h,Fz]
  ·cases e; exact absurd hb' (hd b hb)
def Gg:Delta→Bool
 | .vT _ _=>true
 | _=>false
theorem A6 {C:bI} {id:Nat} {o:CO} {s:S} {v:SV} {d:Delta} (h:xB C id o s v d):∀ b∈wB d,∃ t∈o.op.yq,∃ off,lk t s.slots=some (.ptr b off):=by
 intro b hb
 have h:=h.1.1
 cases d<;>simp [wB] at hb
 ·subst hb; exact h.2
 ·exact h.2 b hb
 ·exact h.2 b hb
theorem qB {C:bI} {id:Nat} {o:CO} {s:S} {v:SV} {d:Delta} (h:xB C id o s v d) (hf:Gg d=true):o.op.pP=true:=by
 have h:=h.1.1
 cases d<;>first | (cases hf; done) | exact h.1
theorem yJ {o:aZ} {t:Nat} (h:t∈o.yq):t∈o.m5:=by cases o<;>first | exact h | (simp [aZ.yq] at h; done)
theorem A7 {o:aZ} {t:Nat} (h:t∈o.m5):t∈o.rd:=by cases o<;>simp [aZ.m5] at h<;>simp [aZ.rd,h]
theorem o6 {o:aZ} {t:Nat} (h:t∈o.lq):t∈o.rd:=by
 cases o<;>simp [aZ.lq] at h<;>first | (simp [aZ.rd,h]; done) | (rcases h with h | h<;>simp [aZ.rd,h])
def Clear (x y:CO) (s:S):Prop:=∀ b,(∃ t∈x.op.yq,∃ off,lk t s.slots=some (.ptr b off)) →
 (∀ t∈y.op.m5,∀ off,lk t s.slots≠some (.ptr b off))∧(x.op.pP=true→∀ t∈y.rd,∀ off,lk t s.slots≠some (.ptr b off))
theorem xC {x y:CO} (h:x.indep y=true):(∀ d,x.dst=some d→d ∉ y.rd∧y.dst≠some d)∧(∀ d,y.dst=some d→d ∉ x.rd)∧(x.op.isApp=true→y.op.isApp=false):=by
 unfold CO.indep at h
 simp only [Bool.and_eq_true,Bool.not_eq_true'] at h
 obtain ⟨⟨h1,h2⟩,h5⟩:=h
 refine ⟨fun d hd=>?_,fun d hd=>?_,fun hx=>?_⟩
 ·rw [hd] at h1
  simp at h1
  exact ⟨h1.1,h1.2⟩
 ·rw [hd] at h2
  simpa using h2
 ·rw [hx] at h5
  simpa using h5
theorem Dq {C:bI} {x y:CO} (hap:x.indep y=true) {U:Nat→Prop} {s:S} (hU:s.dW U) {i j:Nat} (hi:¬ U i) (hj:¬ U j) (hij:i≠j) (cx:Clear x y s) (cy:Clear y x s)
    {vx vy:SV} {dx dy:Delta} (hx:xB C i x s vx dx) (hy:xB C j y ((dx.app' i s).put x.dst vx) vy dy) :
    jP y.rd y.op.m5 y.op.isApp ((dx.app' i s).put x.dst vx) s∧jP x.rd x.op.m5 x.op.isApp s ((dy.app' j s).put y.dst vy) ∧
      k9 ((dy.app' j ((dx.app' i s).put x.dst vx)).put y.dst vy) ((dx.app' i ((dy.app' j s).put y.dst vy)).put x.dst vx):=by
  obtain ⟨h1,h2,h5⟩:=xC hap
  have wx:=A6 hx
  have wxU:∀ b∈wB dx,U b:=fun b hb=>by obtain ⟨t,_,off,hl⟩:=wx b hb; exact hU.slots t _ hl
  -- what y looks at
  have sy:∀ t∈y.rd,lk t ((dx.app' i s).put x.dst vx).slots=lk t s.slots:=fun t ht=>by
    rw [ni,if_neg (fun e=>(h1 t e).1 ht),ko]
    cases hl:lk t s.slots with
    | none=>rfl
    | some v =>
      simp only [Option.map_some]
      rcases fK dx v with h|⟨cs,b,o,ids,css,hd,rfl,hb,h⟩
      · rw [h]
      · exact absurd hl ((cx b (wx b hb)).2 (qB hx (by rw [hd]; rfl)) t ht o)
  have wy:∀ b∈wB dy,∃ t∈y.op.yq,∃ off,lk t s.slots=some (.ptr b off):=fun b hb=>by
    obtain ⟨t,ht,off,hl⟩:=A6 hy b hb
    rw [sy t (CO.q8 (A7 (yJ ht)))] at hl
    exact ⟨t,ht,off,hl⟩
  have wyU:∀ b∈wB dy,U b:=fun b hb=>by obtain ⟨t,_,off,hl⟩:=wy b hb; exact hU.slots t _ hl
  have hdis:∀ b∈wB dx,b ∉ wB dy:=fun b hb hb'=>by
    obtain ⟨t,ht,off,hl⟩:=wy b hb'
    exact (cx b (wx b hb)).1 t (yJ ht) off hl
  have sx:∀ t∈x.rd,lk t ((dy.app' j s).put y.dst vy).slots=lk t s.slots:=fun t ht=>by
    rw [ni,if_neg (fun e=>h2 t e ht),ko]
    cases hl:lk t s.slots with
    | none=>rfl
    | some v =>
      simp only [Option.map_some]
      rcases fK dy v with h|⟨cs,b,o,ids,css,hd,rfl,hb,h⟩
      · rw [h]
      · exact absurd hl ((cy b (wy b hb)).2 (qB hy (by rw [hd]; rfl)) t ht o)
  -- tokens
  have tx:∀ q0 e,dx=.app q0 e→U q0∧x.op.isApp=true:=fun q0 e hd=>by
    have:=hx.1.1; rw [hd] at this
    obtain ⟨h,t,ht,a,hl⟩:=this
    exact ⟨hU.slots t _ hl,h⟩
  have ty:∀ q0 e,dy=.app q0 e→U q0∧y.op.isApp=true:=fun q0 e hd=>by
    have:=hy.1.1; rw [hd] at this
    obtain ⟨h,t,ht,a,hl⟩:=this
    rw [sy t (CO.q8 ht)] at hl
    exact ⟨hU.slots t _ hl,h⟩
  have lx:∀ e∈eL dx i,e.tgt=i∨(U e.tgt∧x.op.isApp=true):=fun e he=>by
    cases hdx:dx<;>rw [hdx] at he<;>simp [eL] at he
    · subst he; exact .inl rfl
    · rcases he with rfl | rfl
      · exact .inr (tx _ _ hdx)
      · exact .inl rfl
    · rename_i fr; cases fr<;>simp at he; subst he; exact .inl rfl
  have ly:∀ e∈eL dy j,e.tgt=j∨(U e.tgt∧y.op.isApp=true):=fun e he=>by
    cases hdy:dy<;>rw [hdy] at he<;>simp [eL] at he
    · subst he; exact .inl rfl
    · rcases he with rfl | rfl
      · exact .inr (ty _ _ hdy)
      · exact .inl rfl
    · rename_i fr; cases fr<;>simp at he; subst he; exact .inl rfl
  have bxs:∀ (d:Delta) (id:Nat) (s:S) (b:Nat),bF b (d.app' id s).boxes=pW (eB d id) (fun b=>bF b s.boxes) b:=fun d id s b=>congrFun (nj d id s) b
  have lvs:∀ (d:Delta) (id:Nat) (s:S) (b:Nat),cw b (d.app' id s).live=pW (eL d id) (fun b=>cw b s.live) b:=fun d id s b=>congrFun (o5 d id s) b
  refine ⟨⟨fun t ht=>(sy t ht).symm,fun t ht b off z hv hb=>?_,fun hap' t ht a q e hv hq=>?_⟩,⟨sx,fun t ht b off z hv hb=>?_,fun hap' t ht a q e hv hq=>?_⟩,?_⟩
  · rw [sy t (CO.q8 (A7 ht))] at hv
    have hUb:U b:=hU.slots t _ hv
    rw [eE,bxs,jX] at hb
    · exact hb
    · intro e he hee
      rcases uT he with h|h
      · exact hi (by rw [← h,hee]; exact hUb)
      · exact (cx _ (wx _ h)).1 t ht off (by rw [hee]; exact hv)
  · rw [sy t ht] at hv
    have hUq:U q:=hU.slots t _ hv
    rw [fJ,lvs,jX] at hq
    · exact hq
    · intro e he hee
      rcases lx e he with h|⟨_,h⟩
      · exact hi (by rw [← h,hee]; exact hUq)
      · have:=h5 h; rw [hap'] at this; cases this
  · have hUb:U b:=hU.slots t _ hv
    rw [eE,bxs,jX]
    · exact hb
    · intro e he hee
      rcases uT he with h|h
      · exact hj (by rw [← h,hee]; exact hUb)
      · exact (cy _ (wy _ h)).1 t ht off (by rw [hee]; exact hv)
  · have hUq:U q:=hU.slots t _ hv
    rw [fJ,lvs,jX]
    · exact hq
    · intro e he hee
      rcases ly e he with h|⟨_,h⟩
      · exact hj (by rw [← h,hee]; exact hUq)
      · have:=h5 hap'; rw [h] at this; cases this
  · have vxs:fz dy vx=vx:=by
      rcases fK dy vx with h|⟨cs,b,o,ids,css,hd,hv,hb,h⟩
      · exact h
      · exfalso
        rcases hx.1.2 b o hv with ⟨rfl,_⟩|⟨t,ht,off,hl⟩
        · exact hi (wyU _ hb)
        · exact (cy b (wy b hb)).2 (qB hy (by rw [hd]; rfl)) t (CO.q8 (o6 ht)) off hl
    have vys:fz dx vy=vy:=by
      rcases fK dx vy with h|⟨cs,b,o,ids,css,hd,hv,hb,h⟩
      · exact h
      · exfalso
        rcases hy.1.2 b o hv with ⟨rfl,_⟩|⟨t,ht,off,hl⟩
        · exact hj (wxU _ hb)
        · rw [sy t (CO.q8 (o6 ht))] at hl
          exact (cx b (wx b hb)).2 (qB hx (by rw [hd]; rfl)) t (CO.q8 (o6 ht)) off hl
    refine ⟨fun t=>?_,fun b=>?_,fun q=>?_⟩
    · simp only [ni,ko]
      by_cases ex:x.dst=some t
      · have ey:y.dst≠some t:=(h1 t ex).2
        simp [ex,ey,vxs]
      · by_cases ey:y.dst=some t
        · simp [ex,ey,vys]
        · simp only [ex,ey,if_false,Option.map_map]
          congr 1
          funext v
          exact (Dp hdis v).symm
    · rw [eE,eE,bxs,bxs]
      have e1:(fun b=>bF b ((dx.app' i s).put x.dst vx).boxes)=pW (eB dx i) (fun b=>bF b s.boxes):=by rw [eE]; exact nj dx i s
      have e2:(fun b=>bF b ((dy.app' j s).put y.dst vy).boxes)=pW (eB dy j) (fun b=>bF b s.boxes):=by rw [eE]; exact nj dy j s
      rw [e1,e2]
      refine congrFun (q9 (fun e he e' he' h=>?_)) b
      rcases uT he with k|k<;>rcases uT he' with k'|k'
      · exact hij (by rw [← k,← k',h])
      · exact hi (wyU i (by rw [← k,h]; exact k'))
      · exact hj (wxU j (by rw [← k',← h]; exact k))
      · exact hdis _ k (by rw [h]; exact k')
    · rw [fJ,fJ,lvs,lvs]
      have e1:(fun b=>cw b ((dx.app' i s).put x.dst vx).live)=pW (eL dx i) (fun b=>cw b s.live):=by rw [fJ]; exact o5 dx i s
      have e2:(fun b=>cw b ((dy.app' j s).put y.dst vy).live)=pW (eL dy j) (fun b=>cw b s.live):=by rw [fJ]; exact o5 dy j s
      rw [e1,e2]
      refine congrFun (q9 (fun e he e' he' h=>?_)) q
      rcases lx e he with k|⟨k,kk⟩<;>rcases ly e' he' with k'|⟨k',kk'⟩
      · exact hij (by rw [← k,← k',h])
      · exact hi (by rw [← k,h]; exact k')
      · exact hj (by rw [← k',← h]; exact k)
      · have:=h5 kk; rw [kk'] at this; cases this
end Go.Eng
namespace Go.Eng
open Go
theorem mC {listed:Array Bool} {i:Nat} (h:listed.getD i true=false):listed.getD i false=false:=by
 rcases Nat.lt_or_ge i listed.size with h'|h'
 ·simp [h'] at h ⊢; exact h
 ·simp [Array.getElem?_eq_none h'] at h
theorem Dr {listed:Array Bool} {i:Nat} (hi:i < listed.size) (h:listed.getD i false=false):listed.getD i true=false:=by
 simp [hi] at h ⊢; exact h
def xD (C:bI) (base:Nat) (ops:Array Oper) (cos:List CO) (K:S→Prop):Nat→Array Bool→S→Prop
 | 0,l,s=>Region.ready .any ops l=[]∧K s
 | f + 1,l,s=>(Region.ready .any ops l=[]→K s)∧∀ i∈Region.ready .any ops l,∃ o,cos[i]? = some o∧gl C (base + i) o (xD C base ops cos K f (l.setIfInBounds i true)) s
def UL (base:Nat) (l:Array Bool):Nat→Prop:=fun n=>n < base∨∃ i,n=base + i∧l.getD i false=true
section
variable {C:bI} {base:Nat} {ops:Array Oper} {cos:List CO} {K:S→Prop}
theorem rj (hK:∀ s s2,k9 s s2→K s→K s2):∀ (f:Nat) (l:Array Bool) (s s2:S),k9 s s2→xD C base ops cos K f l s→xD C base ops cos K f l s2
 | 0,l,s,s2,he,h=>⟨h.1,hK _ _ he h.2⟩
 | f + 1,l,s,s2,he,h=>⟨fun h0=>hK _ _ he (h.1 h0),fun i hi=>by
   obtain ⟨o,ho,hs⟩:=h.2 i hi
   refine ⟨o,ho,?_⟩
   obtain ⟨v,d,hd,hk,_⟩:=cA hs
   exact hd.2 s2 he.NI _ (rj hK f _ _ _ ((he.app d _).put _ _) hk)⟩
theorem xE {l:Array Bool} {i:Nat} (h:l.getD i true=false):¬ UL base l (base + i):=by
 rintro (h'|⟨k,hk,hl⟩)
 ·omega
 ·have:k=i:=by omega
  subst this
  rw [mC h] at hl
  cases hl
theorem xF {l:Array Bool} {i:Nat} (hi:i < l.size) {n:Nat} (h:cV (UL base l) (base + i) n):UL base (l.setIfInBounds i true) n:=by
 rcases h with (h|⟨k,hk,hl⟩)|h
 ·exact .inl h
 ·exact .inr ⟨k,hk,getD_set_true hl⟩
 ·exact .inr ⟨i,h,by simp [hi]⟩
theorem lJ {md:Region.Mode} {l:Array Bool} {i:Nat} (h:i∈Region.ready md ops l):i < l.size:=by
 have h0:=(mem_ready.1 h).1
 rcases Nat.lt_or_ge i l.size with h'|h'
 ·exact h'
 ·simp [Array.getElem?_eq_none h'] at h0
def o7 (ops:Array Oper) (l:Array Bool):Prop:=∀ k ok,ops[k]? = some ok→l.getD k false=true→∀ e∈ok.after,Region.binds .any e=true→l.getD e.on false=true
theorem o7.set {l:Array Bool} (h:o7 ops l) {i:Nat} (hi:i∈Region.ready .any ops l):o7 ops (l.setIfInBounds i true):=by
 obtain ⟨_,oi,hoi,hall⟩:=mem_ready.1 hi
 intro k ok hk hl e he hb
 by_cases hik:i=k
 ·subst hik
  have:ok=oi:=Option.some.inj (hk.symm.trans hoi)
  subst this
  exact getD_set_true (hall e he hb)
 ·rw [getD_set_ne false hik] at hl
  exact getD_set_true (h k ok hk hl e he hb)
theorem zH {l:Array Bool} (hc:o7 ops l) {i j:Nat} (hi:l.getD i true=false) (hj:j∈Region.ready .any ops l) {oj:Oper} (hoj:ops[j]? = some oj) :
  oj.after.any (fun e=>Region.binds .any e && e.on == i)=false∧waits ops.toList i oj=false:=by
 obtain ⟨_,oj',hoj',hall⟩:=mem_ready.1 hj
 have:oj'=oj:=Option.some.inj (hoj'.symm.trans hoj)
 subst this
 have hif:=mC hi
 constructor
 ·rw [Bool.eq_false_iff]
  intro h
  obtain ⟨e,he,hb⟩:=Array.any_eq_true'.1 h
  simp only [Bool.and_eq_true,beq_iff_eq] at hb
  have:=hall e he hb.1
  rw [hb.2,hif] at this; cases this
 ·rw [Bool.eq_false_iff]
  intro h
  obtain ⟨e,he,hb⟩:=Array.any_eq_true'.1 h
  simp only [Bool.and_eq_true,Bool.or_eq_true,beq_iff_eq] at hb
  have h1:=hall e he hb.1
  rcases hb.2 with h2|h2
  ·rw [h2,hif] at h1; cases h1
  ·split at h2
   ·rename_i ok hok
    obtain ⟨e',he',hb'⟩:=Array.any_eq_true'.1 h2
    simp only [Bool.and_eq_true,beq_iff_eq] at hb'
    have h3:=hc e.on ok (by simpa using hok) h1 e' he' hb'.1
    rw [hb'.2,hif] at h3; cases h3
   ·cases h2
end
def kq (T:List (Nat × Tag)) (s:S):Prop:=∀ t b off,lk t s.slots=some (.ptr b off)→(look T t).tQ b=true
theorem pX {C:bI} {T:List (Nat × Tag)} {id:Nat} {o:CO} {s:S} {v:SV} {d:Delta} (hd:xB C id o s v d) (hs:lz T id o=true) (hR:kq T s):kq T ((d.app' id s).put o.dst v):=by
 intro t b off hl
 rw [ni] at hl
 split at hl
 ·rename_i e
  cases hl
  unfold lz at hs
  rw [e] at hs
  simp only at hs
  cases hz:look T t with
  | none=>rfl
  | some z =>
   rw [hz] at hs
   simp only at hs
   rcases hd.1.2 b off rfl with ⟨rfl,ha⟩|⟨u,hu,off',hlu⟩
   ·rw [if_pos ha] at hs
    simpa [Tag.tQ] using hs
   ·have hna:¬ o.op.AO=true:=fun ha=>by
     revert hu ha; cases o.op<;>simp [aZ.lq,aZ.AO]
    rw [if_neg hna] at hs
    have h1:=List.all_eq_true.1 hs u hu
    have h2:=hR u b off' hlu
    cases hzu:look T u with
    | none=>rw [hzu] at h1; cases h1
    | some z' =>
     rw [hzu] at h1 h2
     simp only [Bool.or_eq_true,beq_iff_eq] at h1
     simp only [Tag.tQ,beq_iff_eq] at h2 ⊢
     rcases h1 with h1|h1
     ·rw [h1] at h2; cases h2
     ·rw [← h1]; exact h2
 ·rw [ko] at hl
  cases hv:lk t s.slots with
  | none=>rw [hv] at hl; cases hl
  | some w =>
   rw [hv] at hl
   simp only [Option.map_some,Option.some.injEq] at hl
   rcases fK d w with h|⟨cs,b',o',_,_,_,_,_,h⟩
   ·rw [h] at hl; subst hl; exact hR t b off hv
   ·rw [h] at hl; cases hl
theorem A8 {z z':Tag} {b:Nat} (h:z.L8 z'=true) (h1:z.tQ b=true) (h2:z'.tQ b=true):False:=by
 cases z with
 | none=>cases z' with
  | none=>cases h
  | some z'=>cases z' with
   | none=>simp [Tag.tQ] at h2
   | some b'=>cases h
 | some z=>cases z with
  | none=>simp [Tag.tQ] at h1
  | some a=>cases z' with
   | none=>cases h
   | some z'=>cases z' with
    | none=>simp [Tag.tQ] at h2
    | some b' =>
     simp [Tag.tQ] at h1 h2
     subst h1; subst h2
     simp [Tag.L8] at h
theorem wz {T:List (Nat × Tag)} {x y:CO} {s:S} (h:x.half T y=true) (hR:kq T s):Clear x y s:=by
 rintro b ⟨t,ht,off,hl⟩
 have h:=List.all_eq_true.1 h t ht
 simp only [Bool.and_eq_true,Bool.or_eq_true,Bool.not_eq_true'] at h
 refine ⟨fun u hu off' hlu=>?_,fun hf u hu off' hlu=>?_⟩
 ·exact A8 (List.all_eq_true.1 h.1 u hu) (hR t b off hl) (hR u b off' hlu)
 ·rcases h.2 with h2 | h2
  ·rw [hf] at h2; cases h2
  ·exact A8 (List.all_eq_true.1 h2 u hu) (hR t b off hl) (hR u b off' hlu)
theorem uc {T:List (Nat × Tag)} {x y:CO} (h:x.half [] y=true):x.half T y=true:=by
 unfold CO.half at h ⊢
 rw [List.all_eq_true] at h ⊢
 intro t ht
 have h:=h t ht
 simp only [Bool.and_eq_true,Bool.or_eq_true,List.all_eq_true] at h ⊢
 refine ⟨fun u hu=>?_,h.2.imp id fun h2 u hu=>?_⟩
 ·have:=h.1 u hu; cases this
 ·have:=h2 u hu; cases this
theorem xG {T:List (Nat × Tag)} {x y:CO} (h:x.apart y=true):x.lu T y=true:=by
 unfold CO.apart CO.lu at *
 simp only [Bool.and_eq_true] at h ⊢
 exact ⟨⟨h.1.1,uc h.1.2⟩,uc h.2⟩
theorem rm {T:List (Nat × Tag)} {ops:List CO} {i j:Nat} {x y:CO} (hi:ops[i]? = some x) (hj:ops[j]? = some y):∀ {er:List (Nat × Nat)},pQ T ops er=true→er.contains (i,j)=true→x.lu T y=true
 | [],_,h=>by cases h
 |(k,l) :: r,h,hm=>by
  simp only [pQ,Bool.and_eq_true] at h
  rw [List.contains_cons,Bool.or_eq_true] at hm
  rcases hm with hm|hm
  ·have e:(i,j)=(k,l):=by simpa using hm
   cases e
   have:=h.1
   rw [hi,hj] at this
   exact this
  ·exact rm hi hj h.2 hm
theorem od {T:List (Nat × Tag)} {base:Nat}:∀ {l:List CO} {i:Nat},iB T base i l=true→∀ (k:Nat) (o:CO),l[k]? = some o→lz T (base + (i + k)) o=true
 | [],i,h,k,o,hk=>by simp at hk
 | a :: l,i,h,k,o,hk=>by
  simp only [iB,Bool.and_eq_true] at h
  cases k with
  | zero=>simp at hk; subst hk; exact h.1
  | succ k =>
   have:=od h.2 k o (by simpa using hk)
   rw [show i + (k + 1)=i + 1 + k by omega]; exact this
theorem pY {base:Nat}:∀ {l:List CO} {i:Nat},iB [] base i l=true
 | [],i=>rfl
 | a :: l,i=>by
  simp only [iB,Bool.and_eq_true]
  refine ⟨?_,pY⟩
  unfold lz
  split<;>rfl
theorem oe {T:List (Nat × Tag)}:∀ {sl:List (Nat × SV)},mu T sl=true→∀ t b off,lk t sl=some (.ptr b off)→(look T t).tQ b=true
 | [],_,t,b,off,hl=>by cases hl
 |(m,v) :: r,h,t,b,off,hl=>by
  simp only [lk,iC] at hl
  split at hl
  ·rename_i e
   cases hl
   subst e
   simp only [mu,Bool.and_eq_true] at h
   exact h.1
  ·refine oe (sl:=r) ?_ t b off hl
   cases v<;>first | exact h | (simp only [mu,Bool.and_eq_true] at h; exact h.2)
section
variable {C:bI} {base:Nat} {ops:Array Oper} {cos:List CO} {K:S→Prop} {T:List (Nat × Tag)}
theorem xH (hT:∀ k ok,cos[k]? = some ok→lz T (base + k) ok=true) (hK:∀ s s2,k9 s s2→K s→K s2) (hlen:cos.length=ops.size) {i:Nat} {oi:CO} (hi:cos[i]? = some oi) :
  ∀ (f:Nat) (l:Array Bool) (s:S),
   (∀ j pj oj,ops[j]? = some pj→cos[j]? = some oj→j≠i→l.getD j true=false→pj.after.any (fun e=>Region.binds .any e && e.on == i)=false→waits ops.toList i pj=false→oi.lu T oj=true) →
   o7 ops l→i∈Region.ready .any ops l→s.dW (UL base l)→kq T s→gl C (base + i) oi (xD C base ops cos K f (l.setIfInBounds i true)) s→xD C base ops cos K (f + 1) l s:=by
 intro f
 induction f with
 | zero =>
  intro l s _ _ hr hU hR H
  refine ⟨fun h=>(by rw [h] at hr; cases hr),fun j hj=>?_⟩
  by_cases hji:j=i
  ·subst hji; exact ⟨oi,hi,H⟩
  ·obtain ⟨v,d,hd,hk,_⟩:=cA H
   have:=ready_mono hj hji
   rw [hk.1] at this
   cases this
 | succ f ih =>
  intro l s hfree hcl hr hU hR H
  refine ⟨fun h=>(by rw [h] at hr; cases hr),fun j hj=>?_⟩
  by_cases hji:j=i
  ·subst hji; exact ⟨oi,hi,H⟩
  ·obtain ⟨vi,di,hdi,hki,hUi⟩:=cA H
   obtain ⟨oj,hoj,hsj⟩:=hki.2 j (ready_mono hj hji)
   obtain ⟨vj,dj,hdj,hkj,hUj⟩:=cA hsj
   have hjun:=(mem_ready.1 hj).1
   have hiun:=(mem_ready.1 hr).1
   obtain ⟨pj,hpj,_⟩:=(mem_ready.1 hj).2
   obtain ⟨w1,w2⟩:=zH hcl hiun hj hpj
   have hap:=hfree j pj oj hpj hoj hji hjun w1 w2
   unfold CO.lu at hap
   simp only [Bool.and_eq_true] at hap
   obtain ⟨a1,a2,a3⟩:=Dq hap.1.1 hU (xE hiun) (xE hjun) (by omega) (wz hap.1.2 hR) (wz hap.2 hR) hdi hdj
   -- the state behind j
   have hsj0:gl C (base + j) oj (fun s3=>s3=(dj.app' (base + j) s).put oj.dst vj) s:=hdj.2 s a1 _ rfl
   have hUj0:((dj.app' (base + j) s).put oj.dst vj).dW (UL base (l.setIfInBounds j true)):=by
    obtain ⟨v',d',_,hk',hU'⟩:=cA hsj0
    have:=hU' _ hU
    rw [hk'] at this
    exact qA (fun n hn=>xF (lJ hj) hn) this
   have hRj0:kq T ((dj.app' (base + j) s).put oj.dst vj):=by
    obtain ⟨v',d',hd',hk',_⟩:=cA hsj0
    have:=pX hd' (hT j oj hoj) hR
    rw [hk'] at this
    exact this
   refine ⟨oj,hoj,hdj.2 s a1 _ ?_⟩
   refine ih (l.setIfInBounds j true) _ ?_ (hcl.set hj) (ready_mono hr (Ne.symm hji)) hUj0 hRj0 ?_
   ·intro k pk ok hpk hok hki' hun hno hno2
    refine hfree k pk ok hpk hok hki' ?_ hno hno2
    by_cases hjk:j=k
    ·subst hjk; exact hjun
    ·rw [getD_set_ne true hjk] at hun; exact hun
   ·refine hdi.2 _ a2 _ ?_
    rw [Array.setIfInBounds_comm _ _ hji]
    exact rj hK f _ _ _ a3 hkj
end
theorem og {er:List (Nat × Nat)} {ops:List Oper} {i:Nat} {x:CO}:∀ {os:List Oper} {ys:List CO} {k:Nat},jm er ops i x k os ys=true→∀ (j:Nat) (pj:Oper) (oj:CO),os[j]? = some pj→ys[j]? = some oj→i < k + j →
  pj.after.any (fun e=>Region.binds .any e && e.on == i)=true∨x.apart oj=true∨waits ops i pj=true∨er.contains (i,k + j)=true
 | [],ys,k,h,j,pj,oj,h1,h2,h3=>by simp at h1
 | o :: os,[],k,h,j,pj,oj,h1,h2,h3=>by simp at h2
 | o :: os,y :: ys,k,h,j,pj,oj,h1,h2,h3=>by
  simp only [jm,Bool.and_eq_true,Bool.or_eq_true,decide_eq_true_eq] at h
  cases j with
  | zero =>
   simp at h1 h2
   subst h1; subst h2
   rcases h.1 with (((h|h)|h)|h)|h
   ·omega
   ·exact .inl h
   ·exact .inr (.inl h)
   ·exact .inr (.inr (.inl h))
   ·exact .inr (.inr (.inr h))
  | succ j =>
   have:=og h.2 j pj oj (by simpa using h1) (by simpa using h2) (by omega)
   rw [show k + 1 + j=k + (j + 1) by omega] at this
   exact this
theorem jy {er:List (Nat × Nat)} {ops:List Oper} {cos:List CO}:∀ {os:List Oper} {ys:List CO} {k:Nat},iQ er ops cos k os ys=true→∀ (i:Nat) (pi:Oper) (oi:CO),os[i]? = some pi→ys[i]? = some oi →
  (∀ e∈pi.after,Region.binds .any e=true→e.on < k + i)∧jm er ops (k + i) oi 0 ops cos=true
 | [],ys,k,h,j,pj,oj,h1,h2=>by simp at h1
 | o :: os,[],k,h,j,pj,oj,h1,h2=>by simp at h2
 | o :: os,y :: ys,k,h,j,pj,oj,h1,h2=>by
  simp only [iQ,Bool.and_eq_true] at h
  cases j with
  | zero =>
   simp at h1 h2
   subst h1; subst h2
   refine ⟨fun e he hb=>?_,h.1.2⟩
   have:=Array.all_eq_true_iff_forall_mem.1 h.1.1 e he
   simpa [hb] using this
  | succ j =>
   have:=jy h.2 j pj oj (by simpa using h1) (by simpa using h2)
   rw [show k + 1 + j=k + (j + 1) by omega] at this
   exact this
def Ro (x x':CO):Prop:=x'=x∨x'=x.ro
theorem Ro.dst {x x':CO} (h:Ro x x'):x'.dst=x.dst:=by rcases h with rfl | rfl<;>rfl
theorem Ro.rd {x x':CO} (h:Ro x x'):x'.rd=x.rd:=by
 rcases h with rfl|rfl
 ·rfl
 ·cases x with | mk d o g=>cases o<;>rfl
theorem Ro.m5 {x x':CO} (h:Ro x x'):x'.op.m5=x.op.m5:=by
 rcases h with rfl|rfl
 ·rfl
 ·cases x with | mk d o g=>cases o<;>rfl
theorem Ro.app {x x':CO} (h:Ro x x'):x'.op.isApp=x.op.isApp:=by
 rcases h with rfl|rfl
 ·rfl
 ·cases x with | mk d o g=>cases o<;>rfl
theorem Ro.vT {x x':CO} (h:Ro x x'):x'.op.pP=x.op.pP:=by
 rcases h with rfl|rfl
 ·rfl
 ·cases x with | mk d o g=>cases o<;>rfl
theorem Ro.yq {x x':CO} (h:Ro x x'):x'.op.yq=x.op.yq∨x'.op.yq=[]:=by
 rcases h with rfl|rfl
 ·exact .inl rfl
 ·cases x with | mk d o g=>cases o<;>first | exact .inl rfl | exact .inr rfl
theorem Ro.indep {x x' y y':CO} (hx:Ro x x') (hy:Ro y y'):x'.indep y'=x.indep y:=by
 simp only [CO.indep,hx.dst,hy.dst,hx.rd,hy.rd,hx.app,hy.app]
theorem Ro.half {T:List (Nat × Tag)} {x x' y y':CO} (hx:Ro x x') (hy:Ro y y') (h:x.half T y=true):x'.half T y'=true:=by
 simp only [CO.half,hy.m5,hy.rd,hx.vT] at h ⊢
 rcases hx.yq with e|e
 ·rw [e]; exact h
 ·rw [e]; rfl
theorem Ro.apart {x x' y y':CO} (hx:Ro x x') (hy:Ro y y') (h:x.apart y=true):x'.apart y'=true:=by
 simp only [CO.apart,CO.lu,Bool.and_eq_true] at h ⊢
 exact ⟨⟨by rw [hx.indep hy]; exact h.1.1,hx.half hy h.1.2⟩,hy.half hx h.2⟩
theorem yK {ro:List Nat}:∀ {l:List CO} {k i:Nat} {c':CO},(jR ro k l)[i]? = some c'→∃ c,l[i]? = some c∧Ro c c'
 | [],k,i,c',h=>by simp [jR] at h
 | o :: l,k,0,c',h=>by
  simp only [jR,List.getElem?_cons_zero,Option.some.injEq] at h
  refine ⟨o,rfl,?_⟩
  cases hk:ro.contains k with
  | true=>rw [hk] at h; exact .inr h.symm
  | false=>rw [hk] at h; exact .inl h.symm
 | o :: l,k,i + 1,c',h=>by
  simp only [jR,List.getElem?_cons_succ] at h ⊢
  exact yK h
theorem uU {ro:List Nat}:∀ {l:List CO} {k:Nat},(jR ro k l).length=l.length
 | [],k=>rfl
 | o :: l,k=>by simp only [jR,List.length_cons,uU]
theorem wA {ro:List Nat}:∀ {l:List CO} {k:Nat},dstsOf (jR ro k l)=dstsOf l
 | [],k=>rfl
 | o :: l,k=>by
  simp only [jR,dstsOf,wA]
  cases ro.contains k<;>rfl
theorem yL {n:Nat} {ro:List Nat}:∀ {l:List CO} {k:Nat},fu n (jR ro k l)=fu n l
 | [],k=>rfl
 | o :: l,k=>by
  simp only [jR,fu,yL]
  cases ro.contains k<;>rfl
theorem Ro.of (ro:List Nat) (k:Nat) (o:CO):Ro o (bif ro.contains k then o.ro else o):=by
 cases ro.contains k
 ·exact .inl rfl
 ·exact .inr rfl
theorem rq {er:List (Nat × Nat)} {ops:List Oper} {i:Nat} {x x':CO} (hx:Ro x x') {ro:List Nat}:∀ {os:List Oper} {ys:List CO} {k m:Nat},jm er ops i x k os ys=true→jm er ops i x' k os (jR ro m ys)=true
 | [],ys,k,m,h=>rfl
 | o :: os,[],k,m,h=>rfl
 | o :: os,y :: ys,k,m,h=>by
  simp only [jR,jm,Bool.and_eq_true,Bool.or_eq_true,decide_eq_true_eq] at h ⊢
  refine ⟨?_,rq hx h.2⟩
  rcases h.1 with (((h|h)|h)|h)|h
  ·exact .inl (.inl (.inl (.inl h)))
  ·exact .inl (.inl (.inl (.inr h)))
  ·exact .inl (.inl (.inr (hx.apart (.of ro m y) h)))
  ·exact .inl (.inr h)
  ·exact .inr h
theorem pZ {er:List (Nat × Nat)} {ops:List Oper} {cos:List CO} {ro:List Nat} {m:Nat}:∀ {os:List Oper} {ys:List CO} {k:Nat},iQ er ops cos k os ys=true→iQ er ops (jR ro m cos) k os (jR ro k ys)=true
 | [],ys,k,h=>rfl
 | o :: os,[],k,h=>rfl
 | o :: os,y :: ys,k,h=>by
  simp only [jR,iQ,Bool.and_eq_true] at h ⊢
  exact ⟨⟨h.1.1,rq (.of ro k y) h.1.2⟩,pZ h.2⟩
theorem zI {er:List (Nat × Nat)} {ops:List Oper} {cos:List CO} {ro:List Nat} (h:lC er ops cos=true):lC er ops (jR ro 0 cos)=true:=pZ h
theorem oh {l l2:List (Nat × bA)} (h:∀ b,bF b l2=bF b l):∀ {ids:List Nat},cq l2 ids=cq l ids
 | []=>rfl
 | b :: bs=>by simp only [cq,h b,oh h (ids:=bs)]
theorem ru {l:List (Nat × bA)}:∀ {ids:List Nat} {css:List (List AV)},cq l ids=some css→aR l ids=some css
 | [],css,h=>h
 | b :: bs,css,h=>by
  simp only [cq] at h
  split at h<;>try (cases h; done)
  rename_i cs css' h1 h2
  cases h
  simp only [aR,h1,ru h2]
theorem nk:∀ {ids:List Nat} {css:List (List AV)} {l:List (Nat × bA)},cq l ids=some css→∀ b,bF b (cJ ids css l)=bF b l
 | [],css,l,h,b=>rfl
 | i :: is,css,l,h,b=>by
  simp only [cq] at h
  split at h<;>try (cases h; done)
  rename_i cs css' h1 h2
  cases h
  have e:∀ n,bF n (k7 i ⟨cs,[]⟩ l)=bF n l:=fun n=>by
   rw [fj]
   split
   ·rename_i e; subst e; rw [h1]; rfl
   ·rfl
  rw [cJ,nk (by rw [oh e]; exact h2),e]
theorem Gh {C:bI} {id:Nat} {o:aZ} {K:SV→S→Prop} {s:S} (h:aV C id o.ro K s):aV C id o (fun v s'=>∃ s0,k9 s' s0∧K v s0) s:=by
 have same:aV C id o K s→aV C id o (fun v s'=>∃ s0,k9 s' s0∧K v s0) s:=fun h=>by
  obtain ⟨v,d,hK,_,_,_,hs⟩:=lI h
  exact hs s .refl _ ⟨_,.refl,hK⟩
 cases o<;>try (exact same h)
 case dX f args =>
  obtain ⟨p,hp,hnd,h⟩:=af (h:ah _ _)
  obtain ⟨css,hcs,r,hc,hK⟩:=af h
  simp only [aV,hp,ru hcs,aq]
  exact ⟨hnd,r,none,css,hc,s,⟨fun _=>rfl,fun b=>(nk hcs b).symm,fun _=>rfl⟩,hK⟩
 case dD g args =>
  obtain ⟨a,ha,h⟩:=af (h:ah _ _)
  cases a<;>try (exact h.elim)
  rename_i fn first caps
  cases fn<;>try (exact h.elim)
  rename_i f
  cases first<;>try (exact h.elim)
  cases caps<;>try (exact h.elim)
  obtain ⟨p,hp,hnd,h⟩:=af h
  obtain ⟨css,hcs,r,hc,hK⟩:=af h
  simp only [aV,ha,hp,ru hcs,aq]
  exact ⟨hnd,r,none,css,hc,s,⟨fun _=>rfl,fun b=>(nk hcs b).symm,fun _=>rfl⟩,hK⟩
theorem A9 {C:bI} {id:Nat} {c c':CO} (hr:Ro c c') {K:S→Prop} {s:S} (h:gl C id c' K s):gl C id c (fun s'=>∃ s0,k9 s' s0∧K s0) s:=by
  rcases hr with rfl|rfl
  · obtain ⟨v,d,hd,hK,_⟩:=cA h
    exact hd.2 s .refl _ ⟨_,.refl,hK⟩
  · have run:aV C id c.op.ro (fun v s'=>K (s'.put c.dst v)) s→aV C id c.op (fun v s'=>∃ s0,k9 (s'.put c.dst v) s0∧K s0) s:=fun h=>by
      have:=Gh h
      obtain ⟨v,d,⟨s0,he,hK⟩,_,_,_,hs⟩:=lI this
      exact hs s .refl _ ⟨_,he.put _ _,hK⟩
    cases c with
    | mk dst op g =>
      have h:cv s g (aV C id op.ro (fun v s'=>K (s'.put dst v)) s) (K (s.put dst .undef)):=h
      have run:aV C id op.ro (fun v s'=>K (s'.put dst v)) s→aV C id op (fun v s'=>∃ s0,k9 (s'.put dst v) s0∧K s0) s:=run
      show cv s g (aV C id op (fun v s'=>∃ s0,k9 (s'.put dst v) s0∧K s0) s) (∃ s0,k9 (s.put dst .undef) s0∧K s0)
      unfold cv at h ⊢
      cases g with
      | none=>exact run h
      | some p =>
        obtain ⟨t,want⟩:=p
        simp only at h ⊢
        cases hl:lk t s.slots with
        | none=>simp [hl] at h
        | some v =>
          simp only [hl] at h
          cases v with
          | ptr b o=>exact h.elim
          | rp cs=>exact h.elim
          | vs _ _ _ _=>exact h.elim
          | kY _ _ _=>exact h.elim
          | raw _ _=>exact h.elim
          | undef=>exact ⟨_,.refl,h⟩
          | dat a q =>
            cases a<;>try (exact h.elim)
            exact ⟨fun e=>run (h.1 e),fun e=>⟨_,.refl,h.2 e⟩⟩
section
variable {C:bI} {base:Nat} {ops:Array Oper} {cos:List CO} {K:S→Prop}
theorem p0 {T:List (Nat × Tag)} {er:List (Nat × Nat)} (hT:∀ k ok,cos[k]? = some ok→lz T (base + k) ok=true) (hbad:pQ T cos er=true) (hK:∀ s s2,k9 s s2→K s→K s2) (hlen:cos.length=ops.size) (hok:lC er ops.toList cos=true) :
  ∀ (rest:List CO) (i:Nat) (l:Array Bool) (s:S),cos.drop i=rest→i + rest.length=ops.size→l.size=ops.size→(∀ j,j < ops.size→l.getD j false=decide (j < i)) →
   s.dW (UL base l)→kq T s→fq C base i rest K s→xD C base ops cos K rest.length l s
 | [],i,l,s,hd,hn,hl,hl',hU,hR,h=>by
  refine ⟨?_,h⟩
  rw [List.eq_nil_iff_forall_not_mem]
  intro j hj
  have h1:=(mem_ready.1 hj).1
  have h2:=lJ hj
  have h3:=hl' j (by omega)
  rw [mC h1] at h3
  simp at hn h3
  omega
 | o :: rest,i,l,s,hd,hn,hl,hl',hU,hR,h=>by
  have hio:cos[i]? = some o:=by
   have:(cos.drop i)[0]? = some o:=by rw [hd]; rfl
   simpa using this
  have hilt:i < ops.size:=by simp at hn; omega
  have hpi:ops[i]? = some ops[i]:=by simp [hilt]
  obtain ⟨hedge,hrow⟩:=jy hok i ops[i] o (by simpa using hpi) hio
  simp only [Nat.zero_add] at hedge hrow
  have hiun:l.getD i true=false:=by
   have:=hl' i hilt
   simp at this
   exact Dr (by omega) (by simpa using this)
  have hcl:o7 ops l:=by
   intro k ok hk hlk e he hb
   have hkn:k < ops.size:=(Array.getElem?_eq_some_iff.1 hk).1
   rw [hl' k hkn] at hlk
   simp at hlk
   obtain ⟨ok',hok'⟩:∃ x,cos[k]? = some x:=⟨cos[k]'(by omega),by simp [hlen,hkn]⟩
   have:=(jy hok k ok ok' (by simpa using hk) hok').1 e he hb
   rw [hl' e.on (by omega)]
   simp; omega
  have hr:i∈Region.ready .any ops l:=by
   rw [mem_ready]
   refine ⟨hiun,ops[i],hpi,fun e he hb=>?_⟩
   have:=hedge e he hb
   rw [hl' e.on (by omega)]
   simpa using this
  refine xH hT hK hlen hio rest.length l s ?_ hcl hr hU hR ?_
  ·intro j pj oj hpj hoj hji hjun hno hno2
   have hjn:j < ops.size:=(Array.getElem?_eq_some_iff.1 hpj).1
   have hlj:=hl' j hjn
   rw [mC hjun] at hlj
   simp at hlj
   have hij:i < 0 + j:=by omega
   rcases og hrow j pj oj (by simpa using hpj) hoj hij with h|h|h|h
   ·rw [hno] at h; cases h
   ·exact xG h
   ·rw [hno2] at h; cases h
   ·rw [Nat.zero_add] at h; exact rm hio hoj hbad h
  ·rw [iK] at h
   obtain ⟨v,d,hdoes,hs',hi'⟩:=cA h
   have hU':=hi' _ hU
   have hR':=pX hdoes (hT i o hio) hR
   refine hdoes.2 s .refl _ ?_
   generalize (d.app' (base + i) s).put o.dst v=s' at hs' hU' hR'
   have hlsz:(l.setIfInBounds i true).size=ops.size:=by simp [hl]
   refine p0 hT hbad hK hlen hok rest (i + 1) _ s' ?_ (by simp at hn ⊢; omega) hlsz (fun j hj=>?_) (qA (fun n hn=>xF (by omega) hn) hU') hR' hs'
   ·rw [← List.tail_drop,hd]; rfl
   ·by_cases hij:i=j
    ·subst hij; simp [hl,hilt]
    ·rw [getD_set_ne false hij,hl' j hj]
     by_cases hlt:j < i
     ·simp [hlt]; omega
     ·simp [hlt]; omega
end
section
variable {P:Program} {nt:Nat} {n0:gK} {w0:World} {π0:Nat→Nat→Prop} {U:Nat→Prop} {s:S} {a:Act} {w:World} {β:Nat→Nat} {τ:Nat→Value} {π:Nat→Nat→Prop}
theorem Rel.dW (R:Rel P nt n0 w0 π0 U s a w β τ π):s.dW U :=
 ⟨fun t v hv=>(R.slots t v hv).2,fun b x hb=>⟨(R.boxes b x hb).1,fun o q hq=>(R.boxes b x hb).2.2.2 o q hq⟩,fun q e hq=>(R.live q e hq).1⟩
theorem Rel.seq (R:Rel P nt n0 w0 π0 U s a w β τ π) {s2:S} (h:k9 s s2):Rel P nt n0 w0 π0 U s2 a w β τ π where
 size:=R.size
 slots:=fun t v hv=>R.slots t v (by rw [← h.slots]; exact hv)
 boxes:=fun b x hb=>R.boxes b x (by rw [← h.boxes]; exact hb)
 inj:=fun b b' x x' hb hb'=>R.inj b b' x x' (by rw [← h.boxes]; exact hb) (by rw [← h.boxes]; exact hb')
 live:=fun q e hq=>R.live q e (by rw [← h.live]; exact hq)
 bl:=fun q q' e e' B hq hq'=>R.bl q q' e e' B (by rw [← h.live]; exact hq) (by rw [← h.live]; exact hq')
 bV:=fun q e b x hq hb=>R.bV q e b x (by rw [← h.live]; exact hq) (by rw [← h.boxes]; exact hb)
 below:=R.below
 dm:=R.dm
 dn:=R.dn
 dA:=R.dA
 bW:=R.bW
 kn:=R.kn
 iu:=R.iu
 kept:=R.kept
theorem Rel.nx (R:Rel P nt n0 w0 π0 U s a w β τ π) (n:Nat):Rel P nt n0 w0 π0 U { s with nx:=n } a w β τ π :=
 R.seq ⟨fun _=>rfl,fun _=>rfl,fun _=>rfl⟩
theorem p7 {ops:Array Oper} {g:Option (Nat × Bool)} {g':Option (Nat × Bool)} (h:uO ops g=some g'):(g=none∧g'=none)∨∃ j w t,g=some (j,w)∧(ops[j]?).bind (·.dst)=some t∧g'=some (t,w):=by
 unfold uO at h
 split at h
 ·cases h; exact .inl ⟨rfl,rfl⟩
 ·rename_i j w
  split at h
  ·rename_i t ht
   cases h
   exact .inr ⟨j,w,t,rfl,ht,rfl⟩
  ·cases h
theorem ry (R:Rel P nt n0 w0 π0 U s a w β τ π) {ops:Array Oper} {o:Oper} {c:CO} {id:Nat} (hid:¬ U id) (hc:mS P ops o=some c) (hfit:∀ d,c.dst=some d→d < nt) {K:S→Prop} (h:gl (Pure P) id c K s)
  {next:Act→World→Prop} {Q:Exit→Act→World→Prop}
  (hn:∀ s' x w' β' τ' π',K s'→Rel P nt n0 w0 π0 (cV U id) s' (a.put o.dst x) w' β' τ' π'→next (a.put o.dst x) w') :
  if Region.wanted o (yielded ops a.tmps) then o.wp P a w next Q else next (a.put o.dst undef) w:=by
 unfold mS at hc
 split at hc<;>try (cases hc; done)
 rename_i cop g hop hg
 cases hc
 simp only at hfit
 have run:aV (Pure P) id cop (fun v s'=>K (s'.put o.dst v)) s→o.wp P a w next Q:=fun h=>by
  unfold C7 at hop
  split at hop
  ·rename_i c' hv'
   cases hop
   exact xA R hid hv' h fun v s' x w' β' τ' π' hK hv hu R'=>hn _ _ _ _ _ _ hK (R'.put o.dst hfit hv hu)
  ·exact mA R hid hop h fun v s' x w' β' τ' π' hK hv hu R'=>hn _ _ _ _ _ _ hK (R'.put o.dst hfit hv hu)
 have skip:K (s.put o.dst .undef)→next (a.put o.dst undef) w:=fun h =>
  hn _ _ _ _ _ _ h ((R.sub fun n h=>.inl h).put o.dst hfit rfl trivial)
 unfold gl cv at h
 rcases p7 hg with ⟨h1,h2⟩|⟨j,want,t,h1,h2,h3⟩
 ·subst h2
  simp only at h
  simp only [Region.wanted,h1,if_true]
  exact run h
 ·subst h3
  simp only at h
  cases hl:lk t s.slots with
  | none=>simp [hl] at h
  | some v =>
   obtain ⟨⟨x,hx,hrv⟩,hui⟩:=R.slots t v hl
   simp only [hl] at h
   have hy:∀ b,x=.bool b→yielded ops a.tmps j=some b:=fun b hb=>by
    unfold yielded; rw [h2]; simp [hx,hb]
   cases v with
   | ptr b o=>exact h.elim
   | rp cs=>exact h.elim
   | vs _ _ _ _=>exact h.elim
   | kY _ _ _=>exact h.elim
   | raw _ _=>exact h.elim
   | undef =>
    have hxu:x=undef:=hrv
    have hy':yielded ops a.tmps j=none:=by
     unfold yielded; rw [h2]; simp [hx,hxu,undef]
    simp only [Region.wanted,h1,hy']
    exact skip h
   | dat av q =>
    cases av<;>try (exact h.elim)
    rename_i b
    have hxb:x=.bool b:=hrv.1.nY
    simp only [Region.wanted,h1,hy b hxb]
    by_cases hb:b=want
    ·subst hb; simp; exact run (h.1 rfl)
    ·have hb':b=!want:=by cases b<;>cases want<;>first | rfl | exact absurd rfl hb
     have:(some b == some want)=false:=by subst hb'; cases want<;>rfl
     rw [this]
     exact skip (h.2 hb')
def o8 (P:Program) (ops:Array Oper) (o:Oper) (c':CO):Prop:=∃ c,mS P ops o=some c∧Ro c c'
theorem wC (R:Rel P nt n0 w0 π0 U s a w β τ π) {ops:Array Oper} {o:Oper} {c:CO} {id:Nat} (hid:¬ U id) (hc:o8 P ops o c) (hfit:∀ d,c.dst=some d→d < nt) {K:S→Prop} (h:gl (Pure P) id c K s)
  {next:Act→World→Prop} {Q:Exit→Act→World→Prop}
  (hn:∀ s' x w' β' τ' π',K s'→Rel P nt n0 w0 π0 (cV U id) s' (a.put o.dst x) w' β' τ' π'→next (a.put o.dst x) w') :
  if Region.wanted o (yielded ops a.tmps) then o.wp P a w next Q else next (a.put o.dst undef) w:=by
 obtain ⟨c0,hc0,hr⟩:=hc
 refine ry R hid hc0 (fun d hd=>hfit d (by rw [hr.dst]; exact hd)) (A9 hr h) ?_
 rintro s' x w' β' τ' π' ⟨s0,he,hk⟩ R'
 exact hn s0 x w' β' τ' π' hk (R'.seq he)
def FW (r:Option Nat):Fence:={ Fence.wide with round:=r }
theorem rz {r:Option Nat} {n:Nat} {f:FuncId} {args:Array Value} {w:World} {R:Ending→World→Prop}:CallsIn (FW r) n P f args w R↔Calls P f args w R :=
 ⟨fun h=>callsIn_wide.1 (show CallsIn Fence.wide n P f args w R from h),fun h=>(show CallsIn Fence.wide n P f args w R from callsIn_wide.2 h)⟩
theorem zJ {r:Option Nat} {n:Nat} {row:String} {args:Array Value} {w:World} {R:Value→World→Prop} (h:Rows P row args w R):RowsIn (FW r) n P row args w R :=
 fun c cs _=>let ⟨v,w',hr,s⟩:=h c cs; ⟨v,w',hr,(show StepsIn (Machine.fenced P Fence.wide) P _ _ from stepsIn_wide.2 s)⟩
theorem FA {r:Option Nat} {n:Nat} {o:Oper} {a:Act} {w:World} {K:Act→World→Prop} {Q:Exit→Act→World→Prop} (h:o.wp P a w K Q) (hd:∀ c,o.op≠.defer c):o.wpIn (FW r) n P a w K Q:=by
 refine ⟨fun _ _=>trivial,?_⟩
 rw [Oper.semAt_eq _ _ _ hd]
 unfold Oper.wp at h
 generalize (execOp a.eval o).run P w=res at h ⊢
 cases res with
 | ok x w' =>
  cases x<;>simp only [Oper.upon,Oper.uponIn] at h ⊢<;>first
   | exact h
   | exact h.elim
   | exact ⟨fun hd=>by simp [FW,Fence.wide] at hd,rz.2 h⟩
   | exact ⟨fun hd=>by simp [FW,Fence.wide] at hd,zJ h⟩
 | halt x w'=>cases x<;>simp only [Oper.upon,Oper.uponIn] at h ⊢<;>first | exact h | exact h.elim
def lK (T:Nat→Prop) (a0 a:Act):Prop:=a.defers=a0.defers∧∀ t,T t→a.tmps[t]? = a0.tmps[t]?
theorem lK.refl (T:Nat→Prop) (a:Act):lK T a a:=⟨rfl,fun _ _=>rfl⟩
theorem lK.put {T:Nat→Prop} {a0 a:Act} (h:lK T a0 a) {d:Option Nat} (hd:∀ t,d=some t→¬ T t) (x:Value):lK T a0 (a.put d x):=by
 cases d with
 | none=>exact h
 | some d =>
  refine ⟨h.1,fun t ht=>?_⟩
  have hne:t≠d:=fun e=>hd d rfl (e ▸ ht)
  simp only [Act.put]
  rw [Array.getElem?_setIfInBounds_ne (Ne.symm hne)]
  exact h.2 t ht
theorem rA (R:Rel P nt n0 w0 π0 U s a w β τ π) {ops:Array Oper} {o:Oper} {c:CO} {i id:Nat} (ho:ops[i]? = some o) (hid:¬ U id) (hc:o8 P ops o c) (hfit:∀ d,c.dst=some d→d < nt) {K:S→Prop} (h:gl (Pure P) id c K s)
  {next:Act→World→Prop} {Q:Exit→Act→World→Prop}
  (hn:∀ s' x w' β' τ' π',K s'→Rel P nt n0 w0 π0 (cV U id) s' (a.put o.dst x) w' β' τ' π'→next (a.put o.dst x) w') {r:Option Nat} {n:Nat}:wpOpIn (FW r) n P ops Q i next a w:=by
 have:=wC R hid hc hfit h (Q:=Q) hn
 have hnd:∀ c,o.op≠.defer c:=by
  intro c' e
  obtain ⟨c0,hc,_⟩:=hc
  unfold mS at hc
  rw [e] at hc
  simp [C7,qW,Fv] at hc
 unfold wpOpIn
 simp only [ho]
 split
 ·rename_i hw; rw [if_pos hw] at this; exact FA this hnd
 ·rename_i hw; rw [if_neg hw] at this; exact ⟨fun _ _=>trivial,this⟩
theorem ud {ops:Array Oper} {o:Oper} {c:CO} (hc:mS P ops o=some c):c.dst=o.dst:=by
 unfold mS at hc
 split at hc<;>try (cases hc; done)
 cases hc; rfl
theorem rB {ops:Array Oper} {o:Oper} {c:CO} (hc:o8 P ops o c):c.dst=o.dst:=by
 obtain ⟨c0,h0,hr⟩:=hc
 rw [hr.dst,ud h0]
theorem p8 {ops:Array Oper}:∀ {l:List Oper} {cs:List CO},oW P ops l=some cs→cs.length=l.length∧∀ (i:Nat) (o:Oper) (c:CO),l[i]? = some o→cs[i]? = some c→mS P ops o=some c
 | [],cs,h=>by simp [oW] at h; subst h; exact ⟨rfl,fun i o c h=>by simp at h⟩
 | o :: l,cs,h=>by
  unfold oW at h
  split at h<;>try (cases h; done)
  rename_i c cs' h1 h2
  cases h
  obtain ⟨e,hs⟩:=p8 h2
  refine ⟨by simp [e],fun i o' c' ho hc=>?_⟩
  cases i with
  | zero=>simp at ho hc; subst ho; subst hc; exact h1
  | succ i=>exact hs i o' c' (by simpa using ho) (by simpa using hc)
theorem om {n:Nat}:∀ {l:List CO},fu n l=true→∀ (i:Nat) (c:CO) (d:Nat),l[i]? = some c→c.dst=some d→d < n
 | [],h,i,c,d,hi,hd=>by simp at hi
 | o :: l,h,i,c,d,hi,hd=>by
  simp only [fu,Bool.and_eq_true] at h
  cases i with
  | zero =>
   simp at hi; subst hi
   have:=h.1
   rw [hd] at this
   simpa using this
  | succ i=>exact om h.2 i c d (by simpa using hi) hd
theorem rC {ops:Array Oper} {cos:List CO} {base:Nat} (hlen:cos.length=ops.size) (hcos:∀ (i:Nat) (o:Oper) (c:CO),ops[i]? = some o→cos[i]? = some c→o8 P ops o c) (hfit:∀ (i:Nat) (c:CO) (d:Nat),cos[i]? = some c→c.dst=some d→d < nt)
  {T:Nat→Prop} {a0:Act} (hT:∀ (i:Nat) (c:CO) (d:Nat),cos[i]? = some c→c.dst=some d→¬ T d) {r:Option Nat} {m:Nat}
  {K:S→Prop} {Q:Exit→Act→World→Prop} (hQ:∀ s a w β τ π U,(∀ n,U n→n < base + ops.size)→K s→lK T a0 a→Rel P nt n0 w0 π0 U s a w β τ π→Q .normal a w) :
  ∀ (rest:List CO) (i:Nat) (s:S) (a:Act) (w:World) (β:Nat→Nat) (τ:Nat→Value) (π:Nat→Nat→Prop) (U:Nat→Prop),cos.drop i=rest→i + rest.length=ops.size→(∀ n,U n→n < base + i)→lK T a0 a→Rel P nt n0 w0 π0 U s a w β τ π →
   fq (Pure P) base i rest K s→wpOpsIn (FW r) m P ops Q (List.range' i rest.length) a w
 | [],i,s,a,w,β,τ,π,U,hd,hn,hU,hp,R,h=>hQ s a w β τ π U (fun n h=>by have:=hU n h; simp at hn; omega) h hp R
 | o :: rest,i,s,a,w,β,τ,π,U,hd,hn,hU,hp,R,h=>by
  have hio:cos[i]? = some o:=by
   have:(cos.drop i)[0]? = some o:=by rw [hd]; rfl
   simpa using this
  have hilt:i < ops.size:=by simp at hn; omega
  have hpi:ops[i]? = some ops[i]:=by simp [hilt]
  rw [iK] at h
  simp only [List.length_cons,List.range'_succ]
  rw [wpOpsIn_cons]
  refine rA R hpi (fun h=>by have:=hU _ h; omega) (hcos i _ o hpi hio) (hfit i o · hio) h fun s' x w' β' τ' π' hK R'=>?_
  refine rC hlen hcos hfit hT hQ rest (i + 1) s' _ w' β' τ' π' _ ?_ (by simp at hn; omega) (fun n h=>?_) (hp.put (fun d hd=>hT i o d hio (by rw [rB (hcos i _ o hpi hio)]; exact hd)) x) R' hK
  ·rw [← List.tail_drop,hd]; rfl
  ·rcases h with h | h
   ·have:=hU n h; omega
   ·omega
theorem zK {ops:Array Oper} {cos:List CO} {base:Nat} (hcos:∀ (i:Nat) (o:Oper) (c:CO),ops[i]? = some o→cos[i]? = some c→o8 P ops o c) (hfit:∀ (i:Nat) (c:CO) (d:Nat),cos[i]? = some c→c.dst=some d→d < nt)
  {T:Nat→Prop} {a0:Act} (hT:∀ (i:Nat) (c:CO) (d:Nat),cos[i]? = some c→c.dst=some d→¬ T d) {r:Option Nat} {m:Nat}
  {K:S→Prop} {Q:Exit→Act→World→Prop} (hQ:∀ s a w β τ π U,(∀ n,U n→n < base + ops.size)→K s→lK T a0 a→Rel P nt n0 w0 π0 U s a w β τ π→Q .normal a w) :
  ∀ (f:Nat) (l:Array Bool) (s:S) (a:Act) (w:World) (β:Nat→Nat) (τ:Nat→Value) (π:Nat→Nat→Prop),l.size=ops.size→lK T a0 a→Rel P nt n0 w0 π0 (UL base l) s a w β τ π →
   xD (Pure P) base ops cos K f l s→wpAnyIn (FW r) m P .any ops Q f l a w:=by
 have small:∀ l:Array Bool,l.size=ops.size→∀ n,UL base l n→n < base + ops.size:=by
  rintro l hl n (h|⟨i,hi,h⟩)
  ·omega
  ·have:i < l.size:=by
    rcases Nat.lt_or_ge i l.size with h'|h'
    ·exact h'
    ·simp [Array.getElem?_eq_none h'] at h
   omega
 intro f
 induction f with
 | zero=>intro l s a w β τ π hl hp R h; exact ⟨h.1,hQ s a w β τ π _ (small l hl) h.2 hp R⟩
 | succ f ih =>
  intro l s a w β τ π hl hp R h
  refine ⟨fun h0=>hQ s a w β τ π _ (small l hl) (h.1 h0) hp R,fun i hi=>?_⟩
  obtain ⟨o,ho,hs⟩:=h.2 i hi
  obtain ⟨hun,pi,hpi,_⟩:=mem_ready.1 hi
  refine rA R hpi (xE hun) (hcos i pi o hpi ho) (hfit i o · ho) hs fun s' x w' β' τ' π' hK R'=>?_
  exact ih _ s' _ w' β' τ' π' (by simp [hl]) (hp.put (fun d hd=>hT i o d ho (by rw [rB (hcos i pi o hpi ho)]; exact hd)) x) (R'.sub fun n hn=>xF (lJ hi) hn) hK
theorem rD {c:CO} {d:Nat}:∀ {l:List CO},c∈l→c.dst=some d→d∈dstsOf l
 | o :: l,h,hd=>by
  simp only [dstsOf,List.mem_append]
  rcases List.mem_cons.1 h with rfl|h
  ·exact .inl (by rw [hd]; simp)
  ·exact .inr (rD h hd)
theorem uV (hm:P.follows .mixedOrders=true) {id:Nat} {ops:Array Oper} {jo:Bool} {cos0:List CO} (hc:oW P ops ops.toList=some cos0) (ro:List Nat) (hd:jo=true→∃ er T,lC er ops.toList cos0=true∧pQ T (jR ro 0 cos0) er=true∧iB T s.nx 0 (jR ro 0 cos0)=true∧kq T s) (hfit:fu nt cos0=true)
    (R:Rel P nt n0 w0 π0 U s a w β τ π) (hU:∀ n,U n→n < s.nx) {K:S→Prop} {Q:Exit→Act→World→Prop} (h:fq (Pure P) s.nx 0 (jR ro 0 cos0) K s)
    {T:Nat→Prop} (hT:∀ d,d∈dstsOf cos0→¬ T d) {r:Option Nat} {m:Nat}
    (hQ:∀ s' a' w β τ π U,(∀ n,U n→n < s.nx + cos0.length)→K s'→lK T a a'→Rel P nt n0 w0 π0 U s' a' w β τ π→Q .normal a' w):(Code.region id ops jo).wpIn (FW r) m P Q a w:=by
  obtain ⟨hlen0,hcos0⟩:=p8 hc
  have hd:jo=true→∃ er T,lC er ops.toList (jR ro 0 cos0)=true∧pQ T (jR ro 0 cos0) er=true∧iB T s.nx 0 (jR ro 0 cos0)=true∧kq T s:=fun e=>by
    obtain ⟨er,T,h1,h2⟩:=hd e
    exact ⟨er,T,zI h1,h2⟩
  have hfit:fu nt (jR ro 0 cos0)=true:=by rw [yL]; exact hfit
  have hT:∀ d,d∈dstsOf (jR ro 0 cos0)→¬ T d:=by rw [wA]; exact hT
  have hlen:(jR ro 0 cos0).length=ops.size:=by rw [uU]; simpa using hlen0
  have hQ:∀ s' a' w β τ π U,(∀ n,U n→n < s.nx + (jR ro 0 cos0).length)→K s'→lK T a a'→Rel P nt n0 w0 π0 U s' a' w β τ π→Q .normal a' w:=by rw [uU]; exact hQ
  have hcos:∀ (i:Nat) (o:Oper) (c:CO),ops[i]? = some o→(jR ro 0 cos0)[i]? = some c→o8 P ops o c:=fun i o c h1 h2=>by
    obtain ⟨c0,h3,h4⟩:=yK h2
    exact ⟨c0,hcos0 i o c0 (by simpa using h1) h3,h4⟩
  clear hlen0 hcos0 hc
  generalize jR ro 0 cos0=cos at *
  have hT:∀ (i:Nat) (c:CO) (d:Nat),cos[i]? = some c→c.dst=some d→¬ T d:=fun i c d hi hd=>hT d (rD (List.mem_of_getElem? hi) hd)
  have hfit:=om hfit
  rw [hlen] at hQ
  cases jo with
  | false =>
    refine wpIn_region ?_
    have:=rC (r:=r) (m:=m) hlen hcos hfit hT hQ cos 0 s a w β τ π U rfl (by simpa using hlen) (by simpa using hU) (.refl _ _) R h
    rw [hlen] at this
    rw [List.range_eq_range']
    exact this
  | true =>
    obtain ⟨er,Tb,hok,hbad,hst,hRt⟩:=hd rfl
    have hst':∀ k ok,cos[k]? = some ok→lz Tb (s.nx + k) ok=true:=fun k ok hk=>by have:=od hst k ok hk; rwa [Nat.zero_add] at this
    refine wpIn_region_any hm ?_
    have R':Rel P nt n0 w0 π0 (UL s.nx (Array.replicate ops.size false)) s a w.drew β τ π:=R.draw.sub fun n hn=>.inl (hU n hn)
    have h2:fq (Pure P) s.nx 0 cos (fun s2=>∃ s1,k9 s1 s2∧K s1) s:=by
      clear hQ
      have gen:∀ (base':Nat) (r:List CO) (i:Nat) (s:S) {K':S→Prop},(∀ s,K s→K' s)→fq (Pure P) base' i r K s→fq (Pure P) base' i r K' s:=by
        intro base' r
        induction r with
        | nil=>intro i s K' hk h; exact hk s h
        | cons o r ih =>
          intro i s K' hk h
          rw [iK] at h ⊢
          obtain ⟨v,d,hd,hk',_⟩:=cA h
          exact hd.2 s .refl _ (ih _ _ hk hk')
      exact gen s.nx cos 0 s (fun s h=>⟨s,.refl,h⟩) h
    have h3:=p0 hst' hbad (fun s s2 he ⟨s1,h1,hk⟩=>⟨s1,h1.trans he,hk⟩) hlen hok cos 0 (Array.replicate ops.size false) s rfl (by simpa using hlen) (by simp) (fun j hj=>by simp [hj]) R'.dW hRt h2
    rw [hlen] at h3
    refine zK hcos hfit hT ?_ ops.size _ s a w.drew β τ π (by simp) (.refl _ _) R' h3
    rintro s2 a w β τ π U hU ⟨s1,he,hk⟩ hp R2
    exact hQ s1 a w β τ π U hU hk hp (R2.seq he.symm)
end
end Go.Eng
