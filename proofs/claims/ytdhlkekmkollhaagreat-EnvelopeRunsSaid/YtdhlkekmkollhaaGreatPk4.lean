/- The engine and the library,part 4 of 18: what the proofs of this seat need of them. -/
import Derived.Test.YtdhlkekmkollhaaGreatPk3
set_option linter.unnecessarySimpa false
set_option linter.unusedSimpArgs false
set_option linter.unusedVariables false
set_option linter.defProp false
set_option maxRecDepth 10000
set_option maxHeartbeats 4000000
namespace Go.Eng
open Go
theorem ng {α:Type} (n m:Nat) (x y:α):(bif n == m then x else y)=if n=m then x else y:=by
 by_cases h:n=m
 ·simp [h]
 ·have h':(n == m)=false:=by simpa using h
  simp [h,h']
def ke (C:aZ) (id:Nat) (o:CO) (K:S→Prop) (s:S):Prop :=
 lG s o.g (bS C id o.op (fun v s'=>K (s'.put o.dst v)) s) (K (s.put o.dst .undef))
theorem mO {C:aZ} {base i:Nat} {o:CO} {r:List CO} {K:S→Prop} {s:S}:jD C base i (o :: r) K s=ke C (base + i) o (jD C base (i + 1) r K) s:=rfl
theorem pK.refl {l lb:List Nat} {ap:Bool} {s:S}:pK l lb ap s s:=⟨fun _ _=>rfl,fun _ _ _ _ _ _ h=>h,fun _ _ _ _ _ _ _ h=>h⟩
theorem pK.trans {l lb:List Nat} {ap:Bool} {s s2 s3:S} (hl:∀ t∈lb,t∈l) (h:pK l lb ap s s2) (k:pK l lb ap s2 s3):pK l lb ap s s3 :=
  ⟨fun t ht=>(k.slots t ht).trans (h.slots t ht),fun t ht b off x hv hb=>k.boxes t ht b off x (by rw [h.slots t (hl t ht)]; exact hv) (h.boxes t ht b off x hv hb),
   fun e t ht a q e' hv hq=>k.live e t ht a q e' (by rw [h.slots t ht]; exact hv) (h.live e t ht a q e' hv hq)⟩
theorem uO {s:S} {d:Option Nat} {v:SV} {t:Nat}:lk t (s.put d v).slots=if d=some t then some v else lk t s.slots:=by
 cases d with
 | none=>simp [S.put]
 | some d =>
  simp only [S.put,lk,ng]
  by_cases h:t=d
  ·subst h; simp
  ·have h2:¬ (some d=some t):=fun e=>h (Option.some.inj e).symm
   rw [if_neg h,if_neg h2]
theorem iH {s:S} {d:Option Nat} {v:SV}:(s.put d v).boxes=s.boxes:=by cases d<;>rfl
theorem jH {s:S} {d:Option Nat} {v:SV}:(s.put d v).live=s.live:=by cases d<;>rfl
theorem jw {m:Nat} {b:dU}:∀ {l:List (Nat × dU)} {n:Nat},cY n (rO m b l)=if n=m then (cY m l).map fun _=>b else cY n l
 | [],n=>by simp [rO,cY]
 |(k,v) :: r,n=>by
  have ih:=jw (m:=m) (b:=b) (l:=r) (n:=n)
  simp only [rO,ng]
  by_cases hmk:m=k
  ·subst hmk
   simp only [if_true,cY,ng]
   by_cases hn:n=m
   ·simp [hn]
   ·simp [hn]
  ·simp only [hmk,if_false,cY,ng,ih]
   by_cases hnk:n=k
   ·have:¬ n=m:=fun e=>hmk (e.symm.trans hnk)
    simp [hnk,Ne.symm hmk]
   ·simp only [hnk,if_false]
theorem tU {m:Nat}:∀ {l:List (Nat × Nat)} {n:Nat},eA n (rP m l)=if n=m then none else eA n l
 | [],n=>by simp [rP,eA]
 |(k,v) :: r,n=>by
  have ih:=tU (m:=m) (l:=r) (n:=n)
  simp only [rP,ng]
  by_cases hmk:m=k
  ·subst hmk
   simp only [if_true,eA,ng,ih]
   by_cases hn:n=m
   ·simp [hn]
   ·simp [hn]
  ·simp only [hmk,if_false,eA,ng,ih]
   by_cases hnk:n=k
   ·simp [hnk,Ne.symm hmk]
   ·simp only [hnk,if_false]
structure rS (s s2:S):Prop where
 slots:∀ t,lk t s2.slots=lk t s.slots
 boxes:∀ b,cY b s2.boxes=cY b s.boxes
 live:∀ q,eA q s2.live=eA q s.live
theorem rS.refl {s:S}:rS s s:=⟨fun _=>rfl,fun _=>rfl,fun _=>rfl⟩
theorem rS.symm {s s2:S} (h:rS s s2):rS s2 s:=⟨fun t=>(h.slots t).symm,fun t=>(h.boxes t).symm,fun t=>(h.live t).symm⟩
theorem rS.trans {s s2 s3:S} (h:rS s s2) (k:rS s2 s3):rS s s3:=⟨fun t=>(k.slots t).trans (h.slots t),fun t=>(k.boxes t).trans (h.boxes t),fun t=>(k.live t).trans (h.live t)⟩
theorem rS.XX {s s2:S} (h:rS s s2) {l lb:List Nat} {ap:Bool}:pK l lb ap s s2 :=
 ⟨fun t _=>h.slots t,fun t _ b off x _ hb=>by rw [h.boxes]; exact hb,fun _ t _ a q e _ hq=>by rw [h.live]; exact hq⟩
theorem rS.put {s s2:S} (h:rS s s2) (d:Option Nat) (v:SV):rS (s.put d v) (s2.put d v) :=
 ⟨fun t=>by rw [uO,uO,h.slots],fun b=>by rw [iH,iH]; exact h.boxes b,fun b=>by rw [jH,jH]; exact h.live b⟩
theorem yN:∀ {ids:List Nat} {css:List (List AV)} {l l2:List (Nat × dU)},(∀ b,cY b l2=cY b l)→∀ b,cY b (gU ids css l2)=cY b (gU ids css l)
 | [],css,l,l2,h,b=>by cases css<;>exact h b
 | i :: ids,[],l,l2,h,b=>h b
 | i :: ids,cs :: css,l,l2,h,b=>by
  simp only [gU]
  exact yN (fun b=>by simp only [jw,h]) b
theorem rS.gV {ids:List Nat}:∀ {css:List (List AV)} {s s2:S},rS s s2→rS (gV ids css s) (gV ids css s2):=by
 induction ids with
 | nil=>intro css s s2 h; cases css<;>exact h
 | cons b ids ih =>
  intro css s s2 h
  cases css with
  | nil=>exact h
  | cons cs css =>
   exact ih ⟨fun t=>by simp only [vP,h.slots],fun c=>by simp only [pR,h.boxes],h.live⟩
theorem rS.app {s s2:S} (h:rS s s2) (d:Delta) (id:Nat):rS (d.app' id s) (d.app' id s2):=by
 cases d with
 | Ex ids css=>exact h.gV
 | no=>exact h
 | box b=>exact ⟨h.slots,fun c=>by simp only [Delta.app',cY,h.boxes],h.live⟩
 | live e=>exact ⟨h.slots,h.boxes,fun q=>by simp only [Delta.app',eA,h.live]⟩
 | app q0 e=>exact ⟨h.slots,h.boxes,fun q=>by simp only [Delta.app',eA,h.live,tU]⟩
 | st b x=>exact ⟨h.slots,fun c=>by simp only [Delta.app',h.boxes,jw],h.live⟩
 | calls ids css fr=>exact ⟨h.slots,yN h.boxes,fun q=>by cases fr<;>simp only [Delta.app',eA,h.live]⟩
theorem rS.iE {s s2:S} (h:rS s s2) {U:Nat→Prop} (hs:s.iE U):s2.iE U :=
 ⟨fun t v hv=>hs.slots t v (by rw [← h.slots]; exact hv),fun b x hb=>hs.boxes b x (by rw [← h.boxes]; exact hb),fun q e hq=>hs.live q e (by rw [← h.live]; exact hq)⟩
def GW (C:aZ) (id:Nat) (o:CO) (s:S) (v:SV) (d:Delta):Prop :=
 (d.ok o.op s∧uB id o.op s v)∧∀ s2,pK o.rd o.op.uK o.op.isApp s s2→∀ K',K' ((d.app' id s2).put o.dst v)→ke C id o K' s2
theorem Ie {s:S} {U:Nat→Prop} (h:s.iE U) {d:Option Nat} {v:SV} (hv:v.iE U):(s.put d v).iE U:=by
 refine ⟨fun t u hu=>?_,fun b x hb=>h.boxes b x (by rwa [iH] at hb),fun q e hq=>h.live q e (by rwa [jH] at hq)⟩
 rw [uO] at hu
 split at hu
 ·cases hu; exact hv
 ·exact h.slots t u hu
theorem zz {s:S} {U U':Nat→Prop} (hU:∀ n,U n→U' n) (h:s.iE U):s.iE U' :=
 ⟨fun t v hv=>SV.vL hU (h.slots t v hv),fun b x hb=>⟨hU _ (h.boxes b x hb).1,fun o q hq=>hU _ ((h.boxes b x hb).2 o q hq)⟩,fun q e hq=>hU _ (h.live q e hq)⟩
theorem CE:∀ {ids:List Nat} {css:List (List AV)} {l:List (Nat × dU)} {U:Nat→Prop},(∀ b x,cY b l=some x→U b∧x.iE U)→(∀ b∈ids,U b)→∀ b x,cY b (gU ids css l)=some x→U b∧x.iE U
 | [],css,l,U,h,hi,b,x,hb=>by cases css<;>exact h b x hb
 | i :: ids,[],l,U,h,hi,b,x,hb=>h b x hb
 | i :: ids,cs :: css,l,U,h,hi,b,x,hb=>by
  simp only [gU] at hb
  refine CE (fun b x hx=>?_) (fun b hb=>hi b (List.mem_cons_of_mem _ hb)) b x hb
  rw [jw] at hx
  split at hx
  ·rename_i e
   cases hl:cY i l with
   | none=>simp [hl] at hx
   | some y =>
    simp [hl] at hx; subst hx
    exact ⟨e ▸ hi i (List.mem_cons_self ..),fun o q hq=>by cases hq⟩
  ·exact h b x hx
theorem KV {ids:List Nat} {U:Nat→Prop}:∀ {css:List (List AV)} {s:S},s.iE U→(gV ids css s).iE U:=by
 induction ids with
 | nil=>intro css s h; cases css<;>exact h
 | cons b ids ih =>
  intro css s h
  cases css with
  | nil=>exact h
  | cons cs css =>
   refine ih ⟨fun t v hv=>?_,fun c x hc=>?_,h.live⟩
   ·simp only [vP,Option.map_eq_some_iff] at hv
    obtain ⟨u,hu,rfl⟩:=hv
    have hi:=h.slots t u hu
    cases u with
    | ptr c o =>
     simp only [rY,ng]
     split
     ·trivial
     ·exact hi
    | dat a q=>exact hi
    | rp cs=>exact hi
    | undef=>exact hi
    | vs _ _ _ _=>exact hi
   ·simp only [pR] at hc
    split at hc
    ·cases hc
    ·exact h.boxes c x hc
theorem NG {s:S} {U:Nat→Prop} (h:s.iE U) {d:Delta} {id:Nat} (hd:d.iE U):(d.app' id s).iE (jj U id):=by
 have h':s.iE (jj U id):=zz (fun n hn=>.inl hn) h
 cases d with
 | no=>exact h'
 | Ex ids css=>exact KV h'
 | box b =>
  refine ⟨h'.slots,fun b' x hb=>?_,h'.live⟩
  simp only [Delta.app',cY] at hb
  by_cases he:b'=id
  ·subst he
   simp at hb; subst hb
   exact ⟨.inr rfl,fun o q hq=>.inl (hd o q hq)⟩
  ·have he':(b' == id)=false:=by simpa using he
   rw [he'] at hb; exact h'.boxes b' x hb
 | live e =>
  refine ⟨h'.slots,h'.boxes,fun q e' hq=>?_⟩
  simp only [Delta.app',eA] at hq
  by_cases he:q=id
  ·subst he; exact .inr rfl
  ·have he':(q == id)=false:=by simpa using he
   rw [he'] at hq; exact h'.live q e' hq
 | app q0 e =>
  refine ⟨h'.slots,h'.boxes,fun q e' hq=>?_⟩
  simp only [Delta.app',eA] at hq
  by_cases he:q=id
  ·subst he; exact .inr rfl
  ·have he':(q == id)=false:=by simpa using he
   rw [he',tU] at hq
   simp only [cond_false] at hq
   split at hq
   ·cases hq
   ·exact h'.live q e' hq
 | st b0 x0 =>
  refine ⟨h'.slots,fun b x hb=>?_,h'.live⟩
  simp only [Delta.app',jw] at hb
  split at hb
  ·rename_i he
   cases hl:cY b0 s.boxes with
   | none=>simp [hl] at hb
   | some y =>
    simp [hl] at hb; subst hb
    exact ⟨.inl (he ▸ hd.1),fun o q hq=>.inl (hd.2 o q hq)⟩
  ·exact h'.boxes b x hb
 | calls ids css fr =>
  refine ⟨h'.slots,CE h'.boxes (fun b hb=>.inl (hd b hb)),fun q e' hq=>?_⟩
  cases fr with
  | none=>exact h'.live q e' hq
  | some e =>
   simp only [Delta.app',eA,ng] at hq
   split at hq
   ·rename_i he; subst he; exact .inr rfl
   ·exact h'.live q e' hq
section
variable {C:aZ} {id:Nat} {o:CO} {K:S→Prop} {s:S}
theorem CO.Ag {o:CO} {t:Nat} (h:t∈o.op.rd):t∈o.rd:=by simp [CO.rd,h]
theorem d8 (h:ke C id o K s):∃ v d,GW C id o s v d∧K ((d.app' id s).put o.dst v)∧∀ U,s.iE U→((d.app' id s).put o.dst v).iE (jj U id):=by
  have main:∀ {K:S→Prop},bS C id o.op (fun v s'=>K (s'.put o.dst v)) s→∃ (v:SV) (d:Delta),(d.ok o.op s∧uB id o.op s v)∧(∀ s2,pK o.rd o.op.uK o.op.isApp s s2→∀ K':S→Prop,K' ((d.app' id s2).put o.dst v)→bS C id o.op (fun v s'=>K' (s'.put o.dst v)) s2)∧K ((d.app' id s).put o.dst v)∧∀ U,s.iE U→((d.app' id s).put o.dst v).iE (jj U id):=by
    intro K h
    obtain ⟨v,d,hK,hok,hU,hfp,hs⟩:=Af h
    exact ⟨v,d,⟨hok,hfp⟩,fun s2 ag K' hk=>hs s2 (ag.sub fun t ht=>CO.Ag ht) _ hk,hK,fun U hU'=>Ie (NG hU' (hU U hU').2) (hU U hU').1⟩
  have skip:K (s.put o.dst .undef)→(∀ s2,pK o.rd o.op.uK o.op.isApp s s2→∀ K',K' (s2.put o.dst .undef)→ke C id o K' s2)→∃ v d,GW C id o s v d∧K ((d.app' id s).put o.dst v)∧∀ U,s.iE U→((d.app' id s).put o.dst v).iE (jj U id):=by
    intro hK hs
    exact ⟨.undef,.no,⟨⟨trivial,.undef⟩,hs⟩,hK,fun U hU=>Ie (zz (fun n h=>.inl h) hU) trivial⟩
  unfold ke lG at h
  cases hg:o.g with
  | none =>
    simp only [hg] at h
    obtain ⟨v,d,h1,h2,h3,h4⟩:=main h
    exact ⟨v,d,⟨h1,fun s2 ag K' hk=>by unfold ke lG; simp only [hg]; exact h2 s2 ag K' hk⟩,h3,h4⟩
  | some p =>
    obtain ⟨t,want⟩:=p
    have htm:t∈o.rd:=by simp [CO.rd,hg]
    simp only [hg] at h
    cases hl:lk t s.slots with
    | none=>simp [hl] at h
    | some v =>
      have hl2:∀ s2,pK o.rd o.op.uK o.op.isApp s s2→lk t s2.slots=some v:=fun s2 ag=>by rw [ag.slots t htm,hl]
      simp only [hl] at h
      cases v with
      | ptr b o=>exact h.elim
      | rp cs=>exact h.elim
      | vs _ _ _ _=>exact h.elim
      | undef=>exact skip h fun s2 ag K' hk=>by unfold ke lG; simp only [hg,hl2 s2 ag]; exact hk
      | dat a q =>
        cases a<;>try (exact h.elim)
        rename_i b
        by_cases hb:b=want
        · obtain ⟨v,d,h1,h2,h3,h4⟩:=main (h.1 hb)
          exact ⟨v,d,⟨h1,fun s2 ag K' hk=>by
            unfold ke lG; simp only [hg,hl2 s2 ag]
            exact ⟨fun _=>h2 s2 ag K' hk,fun hn=>by subst hb; cases b<;>cases hn⟩⟩,h3,h4⟩
        · have hb':b=!want:=by cases b<;>cases want<;>simp_all
          exact skip (h.2 hb') fun s2 ag K' hk=>by
            unfold ke lG; simp only [hg,hl2 s2 ag]
            exact ⟨fun e=>absurd e hb,fun _=>hk⟩
end
structure EB (α:Type) where
 tgt:Nat
 g:Option α→Option α
def EB.ap {α:Type} (e:EB α) (f:Nat→Option α):Nat→Option α:=fun c=>if c=e.tgt then e.g (f c) else f c
def yO {α:Type} (l:List (EB α)) (f:Nat→Option α):Nat→Option α:=l.foldl (fun f e=>e.ap f) f
theorem EB.comm {α:Type} {e e':EB α} (h:e.tgt≠e'.tgt) (f:Nat→Option α):e.ap (e'.ap f)=e'.ap (e.ap f):=by
 funext c
 simp only [EB.ap]
 by_cases h1:c=e.tgt
 ·have h2:c≠e'.tgt:=fun e2=>h (h1.symm.trans e2)
  simp [h1,h2]
  have:¬ e.tgt=e'.tgt:=h
  simp [this]
 ·simp [h1]
theorem CF {α:Type} {e:EB α}:∀ {l:List (EB α)} {f:Nat→Option α},(∀ e'∈l,e.tgt≠e'.tgt)→yO l (e.ap f)=e.ap (yO l f)
 | [],f,_=>rfl
 | a :: l,f,h=>by
  show yO l (a.ap (e.ap f))=e.ap (yO l (a.ap f))
  rw [← EB.comm (h a List.mem_cons_self)]
  exact CF fun e' he'=>h e' (List.mem_cons_of_mem _ he')
theorem Ah {α:Type} {l':List (EB α)}:∀ {l:List (EB α)} {f:Nat→Option α},(∀ e∈l,∀ e'∈l',e.tgt≠e'.tgt)→yO l (yO l' f)=yO l' (yO l f)
 | [],f,_=>rfl
 | e :: l,f,h=>by
  show yO l (e.ap (yO l' f))=yO l' (yO l (e.ap f))
  rw [← CF (h e List.mem_cons_self)]
  exact Ah fun a ha=>h a (List.mem_cons_of_mem _ ha)
theorem pT {α:Type} {c:Nat}:∀ {l:List (EB α)} {f:Nat→Option α},(∀ e∈l,e.tgt≠c)→yO l f c=f c
 | [],f,_=>rfl
 | e :: l,f,h=>by
  show yO l (e.ap f) c=f c
  rw [pT fun a ha=>h a (List.mem_cons_of_mem _ ha)]
  exact if_neg (fun e2=>h e List.mem_cons_self e2.symm)
def wB:Delta→List Nat
 | .st b _=>[b]
 | .calls ids _ _=>ids
 | .Ex ids _=>ids
 | _=>[]
def eB (d:Delta) (id:Nat):List (EB dU) :=
 match d with
 | .box b=>[⟨id,fun _=>some b⟩]
 | .st b x=>[⟨b,Option.map fun _=>x⟩]
 | .calls ids css _=>(ids.zip css).map fun p=>⟨p.1,Option.map fun _=>⟨p.2,[]⟩⟩
 | .Ex ids css=>(ids.zip css).map fun p=>⟨p.1,fun _=>none⟩
 | _=>[]
def eL (d:Delta) (id:Nat):List (EB Nat) :=
 match d with
 | .live e=>[⟨id,fun _=>some e⟩]
 | .app q e=>[⟨q,fun _=>none⟩,⟨id,fun _=>some e⟩]
 | .calls _ _ (some e)=>[⟨id,fun _=>some e⟩]
 | _=>[]
def fz (d:Delta):SV→SV :=
 match d with
 | .Ex ids css=>fun v=>(ids.zip css).foldl (fun v p=>rY p.1 p.2 v) v
 | _=>fun v=>v
theorem CG:∀ {ids:List Nat} {css:List (List AV)} {l:List (Nat × dU)},(fun b=>cY b (gU ids css l))=yO ((ids.zip css).map fun p=>(⟨p.1,Option.map fun _=>⟨p.2,[]⟩⟩:EB dU)) (fun b=>cY b l)
 | [],css,l=>by cases css<;>rfl
 | i :: ids,[],l=>rfl
 | i :: ids,cs :: css,l=>by
  show (fun b=>cY b (gU ids css (rO i ⟨cs,[]⟩ l)))=_
  rw [CG (ids:=ids) (css:=css)]
  refine congrArg (yO _) (funext fun b=>?_)
  rw [jw]
  show _=if b=i then _ else _
  split
  ·rename_i e; subst e; rfl
  ·rfl
theorem EO:∀ {ids:List Nat} {css:List (List AV)} {s:S},(fun b=>cY b (gV ids css s).boxes)=yO ((ids.zip css).map fun p=>(⟨p.1,fun _=>none⟩:EB dU)) (fun b=>cY b s.boxes)
 | [],css,s=>by cases css<;>rfl
 | i :: ids,[],s=>rfl
 | i :: ids,cs :: css,s=>by
  show (fun b=>cY b (gV ids css { s with slots:=zZ i cs s.slots,boxes:=uv i s.boxes }).boxes)=_
  rw [EO (ids:=ids) (css:=css)]
  refine congrArg (yO _) (funext fun b=>?_)
  rw [pR]
  rfl
theorem Ai:∀ {ids:List Nat} {css:List (List AV)} {s:S} (t:Nat),lk t (gV ids css s).slots=(lk t s.slots).map fun v=>(ids.zip css).foldl (fun v p=>rY p.1 p.2 v) v
 | [],css,s,t=>by cases css<;>simp [gV]
 | i :: ids,[],s,t=>by simp [gV]
 | i :: ids,cs :: css,s,t=>by
  show lk t (gV ids css { s with slots:=zZ i cs s.slots,boxes:=uv i s.boxes }).slots=_
  rw [Ai (ids:=ids) (css:=css) t,vP,Option.map_map]
  rfl
theorem uP (d:Delta) (id:Nat) (s:S):(fun b=>cY b (d.app' id s).boxes)=yO (eB d id) (fun b=>cY b s.boxes):=by
 cases d with
 | box b=>funext c; simp only [Delta.app',cY,ng]; show _=if c=id then _ else _; rfl
 | st b x =>
  funext c; simp only [Delta.app',jw]
  show _=if c=b then _ else _
  split
  ·rename_i e; subst e; rfl
  ·rfl
 | calls ids css fr=>exact CG
 | Ex ids css=>exact EO
 | _=>rfl
theorem xK (d:Delta) (id:Nat) (s:S):(fun b=>eA b (d.app' id s).live)=yO (eL d id) (fun b=>eA b s.live):=by
 cases d with
 | live e=>funext c; simp only [Delta.app',eA,ng]; rfl
 | app q e=>funext c; simp only [Delta.app',eA,ng,tU]; show _=if c=id then _ else if c=q then _ else _; rfl
 | calls ids css fr=>cases fr with
  | none=>rfl
  | some e=>funext c; simp only [Delta.app',eA,ng]; rfl
 | Ex ids css=>simp only [Delta.app',CD]; rfl
 | _=>rfl
theorem qo (d:Delta) (id:Nat) (s:S) (t:Nat):lk t (d.app' id s).slots=(lk t s.slots).map (fz d):=by
 cases d with
 | Ex ids css=>exact Ai t
 | _=>simp [Delta.app',fz]
theorem Dy {d:Delta} {id:Nat} {e:EB dU} (h:e∈eB d id):e.tgt=id∨e.tgt∈wB d:=by
 cases d with
 | box b=>simp [eB] at h; subst h; exact .inl rfl
 | st b x=>simp [eB] at h; subst h; exact .inr (by simp [wB])
 | calls ids css fr =>
  simp only [eB,List.mem_map] at h
  obtain ⟨p,hm,rfl⟩:=h; exact .inr (List.of_mem_zip hm).1
 | Ex ids css =>
  simp only [eB,List.mem_map] at h
  obtain ⟨p,hm,rfl⟩:=h; exact .inr (List.of_mem_zip hm).1
 | _=>simp [eB] at h
theorem vQ:∀ {l:List (Nat × List AV)} {v:SV},l.foldl (fun v p=>rY p.1 p.2 v) v=v∨∃ cs b o,v=.ptr b o∧b∈l.map (·.1)∧l.foldl (fun v p=>rY p.1 p.2 v) v=.rp cs
 | [],v=>.inl rfl
 | p :: l,v=>by
  simp only [List.foldl_cons]
  cases v with
  | ptr b o =>
   by_cases e:b=p.1
   ·refine .inr ⟨p.2.drop o,b,o,rfl,by simp [e],?_⟩
    have:rY p.1 p.2 (.ptr b o)=.rp (p.2.drop o):=by simp [rY,e]
    rw [this]
    rcases vQ (l:=l) (v:=.rp (p.2.drop o)) with h|⟨_,_,_,h,_⟩
    ·exact h
    ·cases h
   ·have:rY p.1 p.2 (.ptr b o)=.ptr b o:=by
     have e':(b == p.1)=false:=by simpa using e
     simp [rY,e']
    rw [this]
    rcases vQ (l:=l) (v:=.ptr b o) with h|⟨cs,b',o',h,hm,h2⟩
    ·exact .inl h
    ·cases h; exact .inr ⟨cs,b,o,rfl,List.mem_cons_of_mem _ hm,h2⟩
  | _ =>
   show l.foldl _ _=_∨_
   rcases vQ (l:=l) (v:=_) with h|⟨_,_,_,h,_⟩
   ·exact .inl h
   ·cases h
theorem jI (d:Delta) (v:SV):fz d v=v∨∃ cs b o ids css,d=.Ex ids css∧v=.ptr b o∧b∈wB d∧fz d v=.rp cs:=by
 cases d with
 | Ex ids css =>
  rcases vQ (l:=ids.zip css) (v:=v) with h|⟨cs,b,o,h1,h2,h3⟩
  ·exact .inl h
  ·refine .inr ⟨cs,b,o,ids,css,rfl,h1,?_,h3⟩
   obtain ⟨p,hp,rfl⟩:=List.mem_map.1 h2
   exact (List.of_mem_zip hp).1
 | _=>exact .inl rfl
theorem P0 (d:Delta) (cs:List AV):fz d (.rp cs)=.rp cs:=by
 rcases jI d (.rp cs) with h|⟨_,_,_,_,_,_,h,_⟩
 ·exact h
 ·cases h
theorem NH {dx dy:Delta} (hd:∀ b∈wB dx,b ∉ wB dy) (v:SV):fz dy (fz dx v)=fz dx (fz dy v):=by
 rcases jI dx v with h|⟨cs,b,o,_,_,_,rfl,hb,h⟩
 ·rw [h]
  rcases jI dy v with k|⟨cs',b',o',_,_,_,rfl,hb',k⟩
  ·rw [k,h]
  ·rw [k,P0]
 ·rcases jI dy (.ptr b o) with k | ⟨cs',b',o',_,_,_,e,hb',k⟩
  ·rw [k,h,P0]
  ·cases e; exact absurd hb' (hd b hb)
def QF:Delta→Bool
 | .Ex _ _=>true
 | _=>false
theorem KX {C:aZ} {id:Nat} {o:CO} {s:S} {v:SV} {d:Delta} (h:GW C id o s v d):∀ b∈wB d,∃ t∈o.op.HV,∃ off,lk t s.slots=some (.ptr b off):=by
 intro b hb
 have h:=h.1.1
 cases d<;>simp [wB] at hb
 ·subst hb; exact h.2
 ·exact h.2 b hb
 ·exact h.2 b hb
theorem zA {C:aZ} {id:Nat} {o:CO} {s:S} {v:SV} {d:Delta} (h:GW C id o s v d) (hf:QF d=true):o.op.yG=true:=by
 have h:=h.1.1
 cases d<;>first | (cases hf; done) | exact h.1
theorem Ig {o:bV} {t:Nat} (h:t∈o.HV):t∈o.uK:=by cases o<;>first | exact h | (simp [bV.HV] at h; done)
theorem KY {o:bV} {t:Nat} (h:t∈o.uK):t∈o.rd:=by cases o<;>simp [bV.uK] at h<;>simp [bV.rd,h]
theorem xL {o:bV} {t:Nat} (h:t∈o.rZ):t∈o.rd:=by
 cases o<;>simp [bV.rZ] at h<;>first | (simp [bV.rd,h]; done) | (rcases h with h | h<;>simp [bV.rd,h])
def Clear (x y:CO) (s:S):Prop:=∀ b,(∃ t∈x.op.HV,∃ off,lk t s.slots=some (.ptr b off)) →
 (∀ t∈y.op.uK,∀ off,lk t s.slots≠some (.ptr b off))∧(x.op.yG=true→∀ t∈y.rd,∀ off,lk t s.slots≠some (.ptr b off))
theorem GX {x y:CO} (h:x.indep y=true):(∀ d,x.dst=some d→d ∉ y.rd∧y.dst≠some d)∧(∀ d,y.dst=some d→d ∉ x.rd)∧(x.op.isApp=true→y.op.isApp=false):=by
 unfold CO.indep at h
 simp only [Bool.and_eq_true,Bool.not_eq_true'] at h
 obtain ⟨⟨h1,h2⟩,h5⟩:=h
 refine ⟨fun d hd=>?_,fun d hd=>?_,fun hx=>?_⟩
 ·rw [hd] at h1
  simp at h1
  exact ⟨h1.1,h1.2⟩
 ·rw [hd] at h2
  simpa using h2
 ·rw [hx] at h5
  simpa using h5
theorem NI {C:aZ} {x y:CO} (hap:x.indep y=true) {U:Nat→Prop} {s:S} (hU:s.iE U) {i j:Nat} (hi:¬ U i) (hj:¬ U j) (hij:i≠j) (cx:Clear x y s) (cy:Clear y x s)
    {vx vy:SV} {dx dy:Delta} (hx:GW C i x s vx dx) (hy:GW C j y ((dx.app' i s).put x.dst vx) vy dy) :
    pK y.rd y.op.uK y.op.isApp ((dx.app' i s).put x.dst vx) s∧pK x.rd x.op.uK x.op.isApp s ((dy.app' j s).put y.dst vy) ∧
      rS ((dy.app' j ((dx.app' i s).put x.dst vx)).put y.dst vy) ((dx.app' i ((dy.app' j s).put y.dst vy)).put x.dst vx):=by
  obtain ⟨h1,h2,h5⟩:=GX hap
  have wx:=KX hx
  have wxU:∀ b∈wB dx,U b:=fun b hb=>by obtain ⟨t,_,off,hl⟩:=wx b hb; exact hU.slots t _ hl
  -- what y looks at
  have sy:∀ t∈y.rd,lk t ((dx.app' i s).put x.dst vx).slots=lk t s.slots:=fun t ht=>by
    rw [uO,if_neg (fun e=>(h1 t e).1 ht),qo]
    cases hl:lk t s.slots with
    | none=>rfl
    | some v =>
      simp only [Option.map_some]
      rcases jI dx v with h|⟨cs,b,o,ids,css,hd,rfl,hb,h⟩
      · rw [h]
      · exact absurd hl ((cx b (wx b hb)).2 (zA hx (by rw [hd]; rfl)) t ht o)
  have wy:∀ b∈wB dy,∃ t∈y.op.HV,∃ off,lk t s.slots=some (.ptr b off):=fun b hb=>by
    obtain ⟨t,ht,off,hl⟩:=KX hy b hb
    rw [sy t (CO.Ag (KY (Ig ht)))] at hl
    exact ⟨t,ht,off,hl⟩
  have wyU:∀ b∈wB dy,U b:=fun b hb=>by obtain ⟨t,_,off,hl⟩:=wy b hb; exact hU.slots t _ hl
  have hdis:∀ b∈wB dx,b ∉ wB dy:=fun b hb hb'=>by
    obtain ⟨t,ht,off,hl⟩:=wy b hb'
    exact (cx b (wx b hb)).1 t (Ig ht) off hl
  have sx:∀ t∈x.rd,lk t ((dy.app' j s).put y.dst vy).slots=lk t s.slots:=fun t ht=>by
    rw [uO,if_neg (fun e=>h2 t e ht),qo]
    cases hl:lk t s.slots with
    | none=>rfl
    | some v =>
      simp only [Option.map_some]
      rcases jI dy v with h|⟨cs,b,o,ids,css,hd,rfl,hb,h⟩
      · rw [h]
      · exact absurd hl ((cy b (wy b hb)).2 (zA hy (by rw [hd]; rfl)) t ht o)
  -- tokens
  have tx:∀ q0 e,dx=.app q0 e→U q0∧x.op.isApp=true:=fun q0 e hd=>by
    have:=hx.1.1; rw [hd] at this
    obtain ⟨h,t,ht,a,hl⟩:=this
    exact ⟨hU.slots t _ hl,h⟩
  have ty:∀ q0 e,dy=.app q0 e→U q0∧y.op.isApp=true:=fun q0 e hd=>by
    have:=hy.1.1; rw [hd] at this
    obtain ⟨h,t,ht,a,hl⟩:=this
    rw [sy t (CO.Ag ht)] at hl
    exact ⟨hU.slots t _ hl,h⟩
  have lx:∀ e∈eL dx i,e.tgt=i∨(U e.tgt∧x.op.isApp=true):=fun e he=>by
    cases hdx:dx<;>rw [hdx] at he<;>simp [eL] at he
    · subst he; exact .inl rfl
    · rcases he with rfl | rfl
      · exact .inr (tx _ _ hdx)
      · exact .inl rfl
    · rename_i fr; cases fr<;>simp at he; subst he; exact .inl rfl
  have ly:∀ e∈eL dy j,e.tgt=j∨(U e.tgt∧y.op.isApp=true):=fun e he=>by
    cases hdy:dy<;>rw [hdy] at he<;>simp [eL] at he
    · subst he; exact .inl rfl
    · rcases he with rfl | rfl
      · exact .inr (ty _ _ hdy)
      · exact .inl rfl
    · rename_i fr; cases fr<;>simp at he; subst he; exact .inl rfl
  have bxs:∀ (d:Delta) (id:Nat) (s:S) (b:Nat),cY b (d.app' id s).boxes=yO (eB d id) (fun b=>cY b s.boxes) b:=fun d id s b=>congrFun (uP d id s) b
  have lvs:∀ (d:Delta) (id:Nat) (s:S) (b:Nat),eA b (d.app' id s).live=yO (eL d id) (fun b=>eA b s.live) b:=fun d id s b=>congrFun (xK d id s) b
  refine ⟨⟨fun t ht=>(sy t ht).symm,fun t ht b off z hv hb=>?_,fun hap' t ht a q e hv hq=>?_⟩,⟨sx,fun t ht b off z hv hb=>?_,fun hap' t ht a q e hv hq=>?_⟩,?_⟩
  · rw [sy t (CO.Ag (KY ht))] at hv
    have hUb:U b:=hU.slots t _ hv
    rw [iH,bxs,pT] at hb
    · exact hb
    · intro e he hee
      rcases Dy he with h|h
      · exact hi (by rw [← h,hee]; exact hUb)
      · exact (cx _ (wx _ h)).1 t ht off (by rw [hee]; exact hv)
  · rw [sy t ht] at hv
    have hUq:U q:=hU.slots t _ hv
    rw [jH,lvs,pT] at hq
    · exact hq
    · intro e he hee
      rcases lx e he with h|⟨_,h⟩
      · exact hi (by rw [← h,hee]; exact hUq)
      · have:=h5 h; rw [hap'] at this; cases this
  · have hUb:U b:=hU.slots t _ hv
    rw [iH,bxs,pT]
    · exact hb
    · intro e he hee
      rcases Dy he with h|h
      · exact hj (by rw [← h,hee]; exact hUb)
      · exact (cy _ (wy _ h)).1 t ht off (by rw [hee]; exact hv)
  · have hUq:U q:=hU.slots t _ hv
    rw [jH,lvs,pT]
    · exact hq
    · intro e he hee
      rcases ly e he with h|⟨_,h⟩
      · exact hj (by rw [← h,hee]; exact hUq)
      · have:=h5 hap'; rw [h] at this; cases this
  · have vxs:fz dy vx=vx:=by
      rcases jI dy vx with h|⟨cs,b,o,ids,css,hd,hv,hb,h⟩
      · exact h
      · exfalso
        rcases hx.1.2 b o hv with ⟨rfl,_⟩|⟨t,ht,off,hl⟩
        · exact hi (wyU _ hb)
        · exact (cy b (wy b hb)).2 (zA hy (by rw [hd]; rfl)) t (CO.Ag (xL ht)) off hl
    have vys:fz dx vy=vy:=by
      rcases jI dx vy with h|⟨cs,b,o,ids,css,hd,hv,hb,h⟩
      · exact h
      · exfalso
        rcases hy.1.2 b o hv with ⟨rfl,_⟩|⟨t,ht,off,hl⟩
        · exact hj (wxU _ hb)
        · rw [sy t (CO.Ag (xL ht))] at hl
          exact (cx b (wx b hb)).2 (zA hx (by rw [hd]; rfl)) t (CO.Ag (xL ht)) off hl
    refine ⟨fun t=>?_,fun b=>?_,fun q=>?_⟩
    · simp only [uO,qo]
      by_cases ex:x.dst=some t
      · have ey:y.dst≠some t:=(h1 t ex).2
        simp [ex,ey,vxs]
      · by_cases ey:y.dst=some t
        · simp [ex,ey,vys]
        · simp only [ex,ey,if_false,Option.map_map]
          congr 1
          funext v
          exact (NH hdis v).symm
    · rw [iH,iH,bxs,bxs]
      have e1:(fun b=>cY b ((dx.app' i s).put x.dst vx).boxes)=yO (eB dx i) (fun b=>cY b s.boxes):=by rw [iH]; exact uP dx i s
      have e2:(fun b=>cY b ((dy.app' j s).put y.dst vy).boxes)=yO (eB dy j) (fun b=>cY b s.boxes):=by rw [iH]; exact uP dy j s
      rw [e1,e2]
      refine congrFun (Ah (fun e he e' he' h=>?_)) b
      rcases Dy he with k|k<;>rcases Dy he' with k'|k'
      · exact hij (by rw [← k,← k',h])
      · exact hi (wyU i (by rw [← k,h]; exact k'))
      · exact hj (wxU j (by rw [← k',← h]; exact k))
      · exact hdis _ k (by rw [h]; exact k')
    · rw [jH,jH,lvs,lvs]
      have e1:(fun b=>eA b ((dx.app' i s).put x.dst vx).live)=yO (eL dx i) (fun b=>eA b s.live):=by rw [jH]; exact xK dx i s
      have e2:(fun b=>eA b ((dy.app' j s).put y.dst vy).live)=yO (eL dy j) (fun b=>eA b s.live):=by rw [jH]; exact xK dy j s
      rw [e1,e2]
      refine congrFun (Ah (fun e he e' he' h=>?_)) q
      rcases lx e he with k|⟨k,kk⟩<;>rcases ly e' he' with k'|⟨k',kk'⟩
      · exact hij (by rw [← k,← k',h])
      · exact hi (by rw [← k,h]; exact k')
      · exact hj (by rw [← k',← h]; exact k)
      · have:=h5 kk; rw [kk'] at this; cases this
end Go.Eng
namespace Go.Eng
open Go
theorem tV {listed:Array Bool} {i:Nat} (h:listed.getD i true=false):listed.getD i false=false:=by
 rcases Nat.lt_or_ge i listed.size with h'|h'
 ·simp [h'] at h ⊢; exact h
 ·simp [Array.getElem?_eq_none h'] at h
theorem NJ {listed:Array Bool} {i:Nat} (hi:i < listed.size) (h:listed.getD i false=false):listed.getD i true=false:=by
 simp [hi] at h ⊢; exact h
def GY (C:aZ) (base:Nat) (ops:Array Oper) (cos:List CO) (K:S→Prop):Nat→Array Bool→S→Prop
 | 0,l,s=>Region.ready .any ops l=[]∧K s
 | f + 1,l,s=>(Region.ready .any ops l=[]→K s)∧∀ i∈Region.ready .any ops l,∃ o,cos[i]? = some o∧ke C (base + i) o (GY C base ops cos K f (l.setIfInBounds i true)) s
def UL (base:Nat) (l:Array Bool):Nat→Prop:=fun n=>n < base∨∃ i,n=base + i∧l.getD i false=true
section
variable {C:aZ} {base:Nat} {ops:Array Oper} {cos:List CO} {K:S→Prop}
theorem Aj (hK:∀ s s2,rS s s2→K s→K s2):∀ (f:Nat) (l:Array Bool) (s s2:S),rS s s2→GY C base ops cos K f l s→GY C base ops cos K f l s2
 | 0,l,s,s2,he,h=>⟨h.1,hK _ _ he h.2⟩
 | f + 1,l,s,s2,he,h=>⟨fun h0=>hK _ _ he (h.1 h0),fun i hi=>by
   obtain ⟨o,ho,hs⟩:=h.2 i hi
   refine ⟨o,ho,?_⟩
   obtain ⟨v,d,hd,hk,_⟩:=d8 hs
   exact hd.2 s2 he.XX _ (Aj hK f _ _ _ ((he.app d _).put _ _) hk)⟩
theorem GZ {l:Array Bool} {i:Nat} (h:l.getD i true=false):¬ UL base l (base + i):=by
 rintro (h'|⟨k,hk,hl⟩)
 ·omega
 ·have:k=i:=by omega
  subst this
  rw [tV h] at hl
  cases hl
theorem G0 {l:Array Bool} {i:Nat} (hi:i < l.size) {n:Nat} (h:jj (UL base l) (base + i) n):UL base (l.setIfInBounds i true) n:=by
 rcases h with (h|⟨k,hk,hl⟩)|h
 ·exact .inl h
 ·exact .inr ⟨k,hk,getD_set_true hl⟩
 ·exact .inr ⟨i,h,by simp [hi]⟩
theorem sA {md:Region.Mode} {l:Array Bool} {i:Nat} (h:i∈Region.ready md ops l):i < l.size:=by
 have h0:=(mem_ready.1 h).1
 rcases Nat.lt_or_ge i l.size with h'|h'
 ·exact h'
 ·simp [Array.getElem?_eq_none h'] at h0
def xM (ops:Array Oper) (l:Array Bool):Prop:=∀ k ok,ops[k]? = some ok→l.getD k false=true→∀ e∈ok.after,Region.binds .any e=true→l.getD e.on false=true
theorem xM.set {l:Array Bool} (h:xM ops l) {i:Nat} (hi:i∈Region.ready .any ops l):xM ops (l.setIfInBounds i true):=by
 obtain ⟨_,oi,hoi,hall⟩:=mem_ready.1 hi
 intro k ok hk hl e he hb
 by_cases hik:i=k
 ·subst hik
  have:ok=oi:=Option.some.inj (hk.symm.trans hoi)
  subst this
  exact getD_set_true (hall e he hb)
 ·rw [getD_set_ne false hik] at hl
  exact getD_set_true (h k ok hk hl e he hb)
theorem Jj {l:Array Bool} (hc:xM ops l) {i j:Nat} (hi:l.getD i true=false) (hj:j∈Region.ready .any ops l) {oj:Oper} (hoj:ops[j]? = some oj) :
  oj.after.any (fun e=>Region.binds .any e && e.on == i)=false∧waits ops.toList i oj=false:=by
 obtain ⟨_,oj',hoj',hall⟩:=mem_ready.1 hj
 have:oj'=oj:=Option.some.inj (hoj'.symm.trans hoj)
 subst this
 have hif:=tV hi
 constructor
 ·rw [Bool.eq_false_iff]
  intro h
  obtain ⟨e,he,hb⟩:=Array.any_eq_true'.1 h
  simp only [Bool.and_eq_true,beq_iff_eq] at hb
  have:=hall e he hb.1
  rw [hb.2,hif] at this; cases this
 ·rw [Bool.eq_false_iff]
  intro h
  obtain ⟨e,he,hb⟩:=Array.any_eq_true'.1 h
  simp only [Bool.and_eq_true,Bool.or_eq_true,beq_iff_eq] at hb
  have h1:=hall e he hb.1
  rcases hb.2 with h2|h2
  ·rw [h2,hif] at h1; cases h1
  ·split at h2
   ·rename_i ok hok
    obtain ⟨e',he',hb'⟩:=Array.any_eq_true'.1 h2
    simp only [Bool.and_eq_true,beq_iff_eq] at hb'
    have h3:=hc e.on ok (by simpa using hok) h1 e' he' hb'.1
    rw [hb'.2,hif] at h3; cases h3
   ·cases h2
end
def qq (T:List (Nat × Tag)) (s:S):Prop:=∀ t b off,lk t s.slots=some (.ptr b off)→(look T t).z0 b=true
theorem yP {C:aZ} {T:List (Nat × Tag)} {id:Nat} {o:CO} {s:S} {v:SV} {d:Delta} (hd:GW C id o s v d) (hs:si T id o=true) (hR:qq T s):qq T ((d.app' id s).put o.dst v):=by
 intro t b off hl
 rw [uO] at hl
 split at hl
 ·rename_i e
  cases hl
  unfold si at hs
  rw [e] at hs
  simp only at hs
  cases hz:look T t with
  | none=>rfl
  | some z =>
   rw [hz] at hs
   simp only at hs
   rcases hd.1.2 b off rfl with ⟨rfl,ha⟩|⟨u,hu,off',hlu⟩
   ·rw [if_pos ha] at hs
    simpa [Tag.z0] using hs
   ·have hna:¬ o.op.KG=true:=fun ha=>by
     revert hu ha; cases o.op<;>simp [bV.rZ,bV.KG]
    rw [if_neg hna] at hs
    have h1:=List.all_eq_true.1 hs u hu
    have h2:=hR u b off' hlu
    cases hzu:look T u with
    | none=>rw [hzu] at h1; cases h1
    | some z' =>
     rw [hzu] at h1 h2
     simp only [Bool.or_eq_true,beq_iff_eq] at h1
     simp only [Tag.z0,beq_iff_eq] at h2 ⊢
     rcases h1 with h1|h1
     ·rw [h1] at h2; cases h2
     ·rw [← h1]; exact h2
 ·rw [qo] at hl
  cases hv:lk t s.slots with
  | none=>rw [hv] at hl; cases hl
  | some w =>
   rw [hv] at hl
   simp only [Option.map_some,Option.some.injEq] at hl
   rcases jI d w with h|⟨cs,b',o',_,_,_,_,_,h⟩
   ·rw [h] at hl; subst hl; exact hR t b off hv
   ·rw [h] at hl; cases hl
theorem KZ {z z':Tag} {b:Nat} (h:z.Wj z'=true) (h1:z.z0 b=true) (h2:z'.z0 b=true):False:=by
 cases z with
 | none=>cases z' with
  | none=>cases h
  | some z'=>cases z' with
   | none=>simp [Tag.z0] at h2
   | some b'=>cases h
 | some z=>cases z with
  | none=>simp [Tag.z0] at h1
  | some a=>cases z' with
   | none=>cases h
   | some z'=>cases z' with
    | none=>simp [Tag.z0] at h2
    | some b' =>
     simp [Tag.z0] at h1 h2
     subst h1; subst h2
     simp [Tag.Wj] at h
theorem EP {T:List (Nat × Tag)} {x y:CO} {s:S} (h:x.half T y=true) (hR:qq T s):Clear x y s:=by
 rintro b ⟨t,ht,off,hl⟩
 have h:=List.all_eq_true.1 h t ht
 simp only [Bool.and_eq_true,Bool.or_eq_true,Bool.not_eq_true'] at h
 refine ⟨fun u hu off' hlu=>?_,fun hf u hu off' hlu=>?_⟩
 ·exact KZ (List.all_eq_true.1 h.1 u hu) (hR t b off hl) (hR u b off' hlu)
 ·rcases h.2 with h2 | h2
  ·rw [hf] at h2; cases h2
  ·exact KZ (List.all_eq_true.1 h2 u hu) (hR t b off hl) (hR u b off' hlu)
theorem CH {T:List (Nat × Tag)} {x y:CO} (h:x.half [] y=true):x.half T y=true:=by
 unfold CO.half at h ⊢
 rw [List.all_eq_true] at h ⊢
 intro t ht
 have h:=h t ht
 simp only [Bool.and_eq_true,Bool.or_eq_true,List.all_eq_true] at h ⊢
 refine ⟨fun u hu=>?_,h.2.imp id fun h2 u hu=>?_⟩
 ·have:=h.1 u hu; cases this
 ·have:=h2 u hu; cases this
theorem G1 {T:List (Nat × Tag)} {x y:CO} (h:x.apart y=true):x.sg T y=true:=by
 unfold CO.apart CO.sg at *
 simp only [Bool.and_eq_true] at h ⊢
 exact ⟨⟨h.1.1,CH h.1.2⟩,CH h.2⟩
theorem Ak {T:List (Nat × Tag)} {ops:List CO} {i j:Nat} {x y:CO} (hi:ops[i]? = some x) (hj:ops[j]? = some y):∀ {dF:List (Nat × Nat)},yH T ops dF=true→dF.contains (i,j)=true→x.sg T y=true
 | [],_,h=>by cases h
 |(k,l) :: r,h,hm=>by
  simp only [yH,Bool.and_eq_true] at h
  rw [List.contains_cons,Bool.or_eq_true] at hm
  rcases hm with hm|hm
  ·have e:(i,j)=(k,l):=by simpa using hm
   cases e
   have:=h.1
   rw [hi,hj] at this
   exact this
  ·exact Ak hi hj h.2 hm
theorem vR {T:List (Nat × Tag)} {base:Nat}:∀ {l:List CO} {i:Nat},mI T base i l=true→∀ (k:Nat) (o:CO),l[k]? = some o→si T (base + (i + k)) o=true
 | [],i,h,k,o,hk=>by simp at hk
 | a :: l,i,h,k,o,hk=>by
  simp only [mI,Bool.and_eq_true] at h
  cases k with
  | zero=>simp at hk; subst hk; exact h.1
  | succ k =>
   have:=vR h.2 k o (by simpa using hk)
   rw [show i + (k + 1)=i + 1 + k by omega]; exact this
theorem yQ {base:Nat}:∀ {l:List CO} {i:Nat},mI [] base i l=true
 | [],i=>rfl
 | a :: l,i=>by
  simp only [mI,Bool.and_eq_true]
  refine ⟨?_,yQ⟩
  unfold si
  split<;>rfl
theorem vS {T:List (Nat × Tag)}:∀ {sl:List (Nat × SV)},tP T sl=true→∀ t b off,lk t sl=some (.ptr b off)→(look T t).z0 b=true
 | [],_,t,b,off,hl=>by cases hl
 |(m,v) :: r,h,t,b,off,hl=>by
  simp only [lk,ng] at hl
  split at hl
  ·rename_i e
   cases hl
   subst e
   simp only [tP,Bool.and_eq_true] at h
   exact h.1
  ·refine vS (sl:=r) ?_ t b off hl
   cases v<;>first | exact h | (simp only [tP,Bool.and_eq_true] at h; exact h.2)
section
variable {C:aZ} {base:Nat} {ops:Array Oper} {cos:List CO} {K:S→Prop} {T:List (Nat × Tag)}
theorem G2 (hT:∀ k ok,cos[k]? = some ok→si T (base + k) ok=true) (hK:∀ s s2,rS s s2→K s→K s2) (hlen:cos.length=ops.size) {i:Nat} {oi:CO} (hi:cos[i]? = some oi) :
  ∀ (f:Nat) (l:Array Bool) (s:S),
   (∀ j pj oj,ops[j]? = some pj→cos[j]? = some oj→j≠i→l.getD j true=false→pj.after.any (fun e=>Region.binds .any e && e.on == i)=false→waits ops.toList i pj=false→oi.sg T oj=true) →
   xM ops l→i∈Region.ready .any ops l→s.iE (UL base l)→qq T s→ke C (base + i) oi (GY C base ops cos K f (l.setIfInBounds i true)) s→GY C base ops cos K (f + 1) l s:=by
 intro f
 induction f with
 | zero =>
  intro l s _ _ hr hU hR H
  refine ⟨fun h=>(by rw [h] at hr; cases hr),fun j hj=>?_⟩
  by_cases hji:j=i
  ·subst hji; exact ⟨oi,hi,H⟩
  ·obtain ⟨v,d,hd,hk,_⟩:=d8 H
   have:=ready_mono hj hji
   rw [hk.1] at this
   cases this
 | succ f ih =>
  intro l s hfree hcl hr hU hR H
  refine ⟨fun h=>(by rw [h] at hr; cases hr),fun j hj=>?_⟩
  by_cases hji:j=i
  ·subst hji; exact ⟨oi,hi,H⟩
  ·obtain ⟨vi,di,hdi,hki,hUi⟩:=d8 H
   obtain ⟨oj,hoj,hsj⟩:=hki.2 j (ready_mono hj hji)
   obtain ⟨vj,dj,hdj,hkj,hUj⟩:=d8 hsj
   have hjun:=(mem_ready.1 hj).1
   have hiun:=(mem_ready.1 hr).1
   obtain ⟨pj,hpj,_⟩:=(mem_ready.1 hj).2
   obtain ⟨w1,w2⟩:=Jj hcl hiun hj hpj
   have hap:=hfree j pj oj hpj hoj hji hjun w1 w2
   unfold CO.sg at hap
   simp only [Bool.and_eq_true] at hap
   obtain ⟨a1,a2,a3⟩:=NI hap.1.1 hU (GZ hiun) (GZ hjun) (by omega) (EP hap.1.2 hR) (EP hap.2 hR) hdi hdj
   -- the state behind j
   have hsj0:ke C (base + j) oj (fun s3=>s3=(dj.app' (base + j) s).put oj.dst vj) s:=hdj.2 s a1 _ rfl
   have hUj0:((dj.app' (base + j) s).put oj.dst vj).iE (UL base (l.setIfInBounds j true)):=by
    obtain ⟨v',d',_,hk',hU'⟩:=d8 hsj0
    have:=hU' _ hU
    rw [hk'] at this
    exact zz (fun n hn=>G0 (sA hj) hn) this
   have hRj0:qq T ((dj.app' (base + j) s).put oj.dst vj):=by
    obtain ⟨v',d',hd',hk',_⟩:=d8 hsj0
    have:=yP hd' (hT j oj hoj) hR
    rw [hk'] at this
    exact this
   refine ⟨oj,hoj,hdj.2 s a1 _ ?_⟩
   refine ih (l.setIfInBounds j true) _ ?_ (hcl.set hj) (ready_mono hr (Ne.symm hji)) hUj0 hRj0 ?_
   ·intro k pk ok hpk hok hki' hun hno hno2
    refine hfree k pk ok hpk hok hki' ?_ hno hno2
    by_cases hjk:j=k
    ·subst hjk; exact hjun
    ·rw [getD_set_ne true hjk] at hun; exact hun
   ·refine hdi.2 _ a2 _ ?_
    rw [Array.setIfInBounds_comm _ _ hji]
    exact Aj hK f _ _ _ a3 hkj
end
theorem vT {dF:List (Nat × Nat)} {ops:List Oper} {i:Nat} {x:CO}:∀ {os:List Oper} {ys:List CO} {k:Nat},om dF ops i x k os ys=true→∀ (j:Nat) (pj:Oper) (oj:CO),os[j]? = some pj→ys[j]? = some oj→i < k + j →
  pj.after.any (fun e=>Region.binds .any e && e.on == i)=true∨x.apart oj=true∨waits ops i pj=true∨dF.contains (i,k + j)=true
 | [],ys,k,h,j,pj,oj,h1,h2,h3=>by simp at h1
 | o :: os,[],k,h,j,pj,oj,h1,h2,h3=>by simp at h2
 | o :: os,y :: ys,k,h,j,pj,oj,h1,h2,h3=>by
  simp only [om,Bool.and_eq_true,Bool.or_eq_true,decide_eq_true_eq] at h
  cases j with
  | zero =>
   simp at h1 h2
   subst h1; subst h2
   rcases h.1 with (((h|h)|h)|h)|h
   ·omega
   ·exact .inl h
   ·exact .inr (.inl h)
   ·exact .inr (.inr (.inl h))
   ·exact .inr (.inr (.inr h))
  | succ j =>
   have:=vT h.2 j pj oj (by simpa using h1) (by simpa using h2) (by omega)
   rw [show k + 1 + j=k + (j + 1) by omega] at this
   exact this
theorem oJ {dF:List (Nat × Nat)} {ops:List Oper} {cos:List CO}:∀ {os:List Oper} {ys:List CO} {k:Nat},mY dF ops cos k os ys=true→∀ (i:Nat) (pi:Oper) (oi:CO),os[i]? = some pi→ys[i]? = some oi →
  (∀ e∈pi.after,Region.binds .any e=true→e.on < k + i)∧om dF ops (k + i) oi 0 ops cos=true
 | [],ys,k,h,j,pj,oj,h1,h2=>by simp at h1
 | o :: os,[],k,h,j,pj,oj,h1,h2=>by simp at h2
 | o :: os,y :: ys,k,h,j,pj,oj,h1,h2=>by
  simp only [mY,Bool.and_eq_true] at h
  cases j with
  | zero =>
   simp at h1 h2
   subst h1; subst h2
   refine ⟨fun e he hb=>?_,h.1.2⟩
   have:=Array.all_eq_true_iff_forall_mem.1 h.1.1 e he
   simpa [hb] using this
  | succ j =>
   have:=oJ h.2 j pj oj (by simpa using h1) (by simpa using h2)
   rw [show k + 1 + j=k + (j + 1) by omega] at this
   exact this
def Ro (x x':CO):Prop:=x'=x∨x'=x.ro
theorem Ro.dst {x x':CO} (h:Ro x x'):x'.dst=x.dst:=by rcases h with rfl | rfl<;>rfl
theorem Ro.rd {x x':CO} (h:Ro x x'):x'.rd=x.rd:=by
 rcases h with rfl|rfl
 ·rfl
 ·cases x with | mk d o g=>cases o<;>rfl
theorem Ro.uK {x x':CO} (h:Ro x x'):x'.op.uK=x.op.uK:=by
 rcases h with rfl|rfl
 ·rfl
 ·cases x with | mk d o g=>cases o<;>rfl
theorem Ro.app {x x':CO} (h:Ro x x'):x'.op.isApp=x.op.isApp:=by
 rcases h with rfl|rfl
 ·rfl
 ·cases x with | mk d o g=>cases o<;>rfl
theorem Ro.Ex {x x':CO} (h:Ro x x'):x'.op.yG=x.op.yG:=by
 rcases h with rfl|rfl
 ·rfl
 ·cases x with | mk d o g=>cases o<;>rfl
theorem Ro.HV {x x':CO} (h:Ro x x'):x'.op.HV=x.op.HV∨x'.op.HV=[]:=by
 rcases h with rfl|rfl
 ·exact .inl rfl
 ·cases x with | mk d o g=>cases o<;>first | exact .inl rfl | exact .inr rfl
theorem Ro.indep {x x' y y':CO} (hx:Ro x x') (hy:Ro y y'):x'.indep y'=x.indep y:=by
 simp only [CO.indep,hx.dst,hy.dst,hx.rd,hy.rd,hx.app,hy.app]
theorem Ro.half {T:List (Nat × Tag)} {x x' y y':CO} (hx:Ro x x') (hy:Ro y y') (h:x.half T y=true):x'.half T y'=true:=by
 simp only [CO.half,hy.uK,hy.rd,hx.Ex] at h ⊢
 rcases hx.HV with e|e
 ·rw [e]; exact h
 ·rw [e]; rfl
theorem Ro.apart {x x' y y':CO} (hx:Ro x x') (hy:Ro y y') (h:x.apart y=true):x'.apart y'=true:=by
 simp only [CO.apart,CO.sg,Bool.and_eq_true] at h ⊢
 exact ⟨⟨by rw [hx.indep hy]; exact h.1.1,hx.half hy h.1.2⟩,hy.half hx h.2⟩
theorem Ih {ro:List Nat}:∀ {l:List CO} {k i:Nat} {c':CO},(oa ro k l)[i]? = some c'→∃ c,l[i]? = some c∧Ro c c'
 | [],k,i,c',h=>by simp [oa] at h
 | o :: l,k,0,c',h=>by
  simp only [oa,List.getElem?_cons_zero,Option.some.injEq] at h
  refine ⟨o,rfl,?_⟩
  cases hk:ro.contains k with
  | true=>rw [hk] at h; exact .inr h.symm
  | false=>rw [hk] at h; exact .inl h.symm
 | o :: l,k,i + 1,c',h=>by
  simp only [oa,List.getElem?_cons_succ] at h ⊢
  exact Ih h
theorem Dz {ro:List Nat}:∀ {l:List CO} {k:Nat},(oa ro k l).length=l.length
 | [],k=>rfl
 | o :: l,k=>by simp only [oa,List.length_cons,Dz]
theorem ER {ro:List Nat}:∀ {l:List CO} {k:Nat},dstsOf (oa ro k l)=dstsOf l
 | [],k=>rfl
 | o :: l,k=>by
  simp only [oa,dstsOf,ER]
  cases ro.contains k<;>rfl
theorem Ii {n:Nat} {ro:List Nat}:∀ {l:List CO} {k:Nat},jE n (oa ro k l)=jE n l
 | [],k=>rfl
 | o :: l,k=>by
  simp only [oa,jE,Ii]
  cases ro.contains k<;>rfl
theorem Ro.of (ro:List Nat) (k:Nat) (o:CO):Ro o (bif ro.contains k then o.ro else o):=by
 cases ro.contains k
 ·exact .inl rfl
 ·exact .inr rfl
theorem Am {dF:List (Nat × Nat)} {ops:List Oper} {i:Nat} {x x':CO} (hx:Ro x x') {ro:List Nat}:∀ {os:List Oper} {ys:List CO} {k m:Nat},om dF ops i x k os ys=true→om dF ops i x' k os (oa ro m ys)=true
 | [],ys,k,m,h=>rfl
 | o :: os,[],k,m,h=>rfl
 | o :: os,y :: ys,k,m,h=>by
  simp only [oa,om,Bool.and_eq_true,Bool.or_eq_true,decide_eq_true_eq] at h ⊢
  refine ⟨?_,Am hx h.2⟩
  rcases h.1 with (((h|h)|h)|h)|h
  ·exact .inl (.inl (.inl (.inl h)))
  ·exact .inl (.inl (.inl (.inr h)))
  ·exact .inl (.inl (.inr (hx.apart (.of ro m y) h)))
  ·exact .inl (.inr h)
  ·exact .inr h
theorem yR {dF:List (Nat × Nat)} {ops:List Oper} {cos:List CO} {ro:List Nat} {m:Nat}:∀ {os:List Oper} {ys:List CO} {k:Nat},mY dF ops cos k os ys=true→mY dF ops (oa ro m cos) k os (oa ro k ys)=true
 | [],ys,k,h=>rfl
 | o :: os,[],k,h=>rfl
 | o :: os,y :: ys,k,h=>by
  simp only [oa,mY,Bool.and_eq_true] at h ⊢
  exact ⟨⟨h.1.1,Am (.of ro k y) h.1.2⟩,yR h.2⟩
theorem Jk {dF:List (Nat × Nat)} {ops:List Oper} {cos:List CO} {ro:List Nat} (h:sn dF ops cos=true):sn dF ops (oa ro 0 cos)=true:=yR h
theorem vU {l l2:List (Nat × dU)} (h:∀ b,cY b l2=cY b l):∀ {ids:List Nat},dX l2 ids=dX l ids
 | []=>rfl
 | b :: bs=>by simp only [dX,h b,vU h (ids:=bs)]
theorem An {l:List (Nat × dU)}:∀ {ids:List Nat} {css:List (List AV)},dX l ids=some css→bN l ids=some css
 | [],css,h=>h
 | b :: bs,css,h=>by
  simp only [dX] at h
  split at h<;>try (cases h; done)
  rename_i cs css' h1 h2
  cases h
  simp only [bN,h1,An h2]
theorem uQ:∀ {ids:List Nat} {css:List (List AV)} {l:List (Nat × dU)},dX l ids=some css→∀ b,cY b (gU ids css l)=cY b l
 | [],css,l,h,b=>rfl
 | i :: is,css,l,h,b=>by
  simp only [dX] at h
  split at h<;>try (cases h; done)
  rename_i cs css' h1 h2
  cases h
  have e:∀ n,cY n (rO i ⟨cs,[]⟩ l)=cY n l:=fun n=>by
   rw [jw]
   split
   ·rename_i e; subst e; rw [h1]; rfl
   ·rfl
  rw [gU,uQ (by rw [vU e]; exact h2),e]
theorem QG {C:aZ} {id:Nat} {o:bV} {K:SV→S→Prop} {s:S} (h:bS C id o.ro K s):bS C id o (fun v s'=>∃ s0,rS s' s0∧K v s0) s:=by
 have same:bS C id o K s→bS C id o (fun v s'=>∃ s0,rS s' s0∧K v s0) s:=fun h=>by
  obtain ⟨v,d,hK,_,_,_,hs⟩:=Af h
  exact hs s .refl _ ⟨_,.refl,hK⟩
 cases o<;>try (exact same h)
 case bT f args =>
  obtain ⟨p,hp,hnd,h⟩:=ah (h:an _ _)
  obtain ⟨css,hcs,r,hc,hK⟩:=ah h
  simp only [bS,hp,An hcs,aM]
  exact ⟨hnd,r,none,css,hc,s,⟨fun _=>rfl,fun b=>(uQ hcs b).symm,fun _=>rfl⟩,hK⟩
 case gT g args =>
  obtain ⟨a,ha,h⟩:=ah (h:an _ _)
  cases a<;>try (exact h.elim)
  rename_i fn first caps
  cases fn<;>try (exact h.elim)
  rename_i f
  cases first<;>try (exact h.elim)
  cases caps<;>try (exact h.elim)
  obtain ⟨p,hp,hnd,h⟩:=ah h
  obtain ⟨css,hcs,r,hc,hK⟩:=ah h
  simp only [bS,ha,hp,An hcs,aM]
  exact ⟨hnd,r,none,css,hc,s,⟨fun _=>rfl,fun b=>(uQ hcs b).symm,fun _=>rfl⟩,hK⟩
theorem K0 {C:aZ} {id:Nat} {c c':CO} (hr:Ro c c') {K:S→Prop} {s:S} (h:ke C id c' K s):ke C id c (fun s'=>∃ s0,rS s' s0∧K s0) s:=by
  rcases hr with rfl|rfl
  · obtain ⟨v,d,hd,hK,_⟩:=d8 h
    exact hd.2 s .refl _ ⟨_,.refl,hK⟩
  · have run:bS C id c.op.ro (fun v s'=>K (s'.put c.dst v)) s→bS C id c.op (fun v s'=>∃ s0,rS (s'.put c.dst v) s0∧K s0) s:=fun h=>by
      have:=QG h
      obtain ⟨v,d,⟨s0,he,hK⟩,_,_,_,hs⟩:=Af this
      exact hs s .refl _ ⟨_,he.put _ _,hK⟩
    cases c with
    | mk dst op g =>
      have h:lG s g (bS C id op.ro (fun v s'=>K (s'.put dst v)) s) (K (s.put dst .undef)):=h
      have run:bS C id op.ro (fun v s'=>K (s'.put dst v)) s→bS C id op (fun v s'=>∃ s0,rS (s'.put dst v) s0∧K s0) s:=run
      show lG s g (bS C id op (fun v s'=>∃ s0,rS (s'.put dst v) s0∧K s0) s) (∃ s0,rS (s.put dst .undef) s0∧K s0)
      unfold lG at h ⊢
      cases g with
      | none=>exact run h
      | some p =>
        obtain ⟨t,want⟩:=p
        simp only at h ⊢
        cases hl:lk t s.slots with
        | none=>simp [hl] at h
        | some v =>
          simp only [hl] at h
          cases v with
          | ptr b o=>exact h.elim
          | rp cs=>exact h.elim
          | vs _ _ _ _=>exact h.elim
          | undef=>exact ⟨_,.refl,h⟩
          | dat a q =>
            cases a<;>try (exact h.elim)
            exact ⟨fun e=>run (h.1 e),fun e=>⟨_,.refl,h.2 e⟩⟩
section
variable {C:aZ} {base:Nat} {ops:Array Oper} {cos:List CO} {K:S→Prop}
theorem yS {T:List (Nat × Tag)} {dF:List (Nat × Nat)} (hT:∀ k ok,cos[k]? = some ok→si T (base + k) ok=true) (hbad:yH T cos dF=true) (hK:∀ s s2,rS s s2→K s→K s2) (hlen:cos.length=ops.size) (hok:sn dF ops.toList cos=true) :
  ∀ (rest:List CO) (i:Nat) (l:Array Bool) (s:S),cos.drop i=rest→i + rest.length=ops.size→l.size=ops.size→(∀ j,j < ops.size→l.getD j false=decide (j < i)) →
   s.iE (UL base l)→qq T s→jD C base i rest K s→GY C base ops cos K rest.length l s
 | [],i,l,s,hd,hn,hl,hl',hU,hR,h=>by
  refine ⟨?_,h⟩
  rw [List.eq_nil_iff_forall_not_mem]
  intro j hj
  have h1:=(mem_ready.1 hj).1
  have h2:=sA hj
  have h3:=hl' j (by omega)
  rw [tV h1] at h3
  simp at hn h3
  omega
 | o :: rest,i,l,s,hd,hn,hl,hl',hU,hR,h=>by
  have hio:cos[i]? = some o:=by
   have:(cos.drop i)[0]? = some o:=by rw [hd]; rfl
   simpa using this
  have hilt:i < ops.size:=by simp at hn; omega
  have hpi:ops[i]? = some ops[i]:=by simp [hilt]
  obtain ⟨hedge,hrow⟩:=oJ hok i ops[i] o (by simpa using hpi) hio
  simp only [Nat.zero_add] at hedge hrow
  have hiun:l.getD i true=false:=by
   have:=hl' i hilt
   simp at this
   exact NJ (by omega) (by simpa using this)
  have hcl:xM ops l:=by
   intro k ok hk hlk e he hb
   have hkn:k < ops.size:=(Array.getElem?_eq_some_iff.1 hk).1
   rw [hl' k hkn] at hlk
   simp at hlk
   obtain ⟨ok',hok'⟩:∃ x,cos[k]? = some x:=⟨cos[k]'(by omega),by simp [hlen,hkn]⟩
   have:=(oJ hok k ok ok' (by simpa using hk) hok').1 e he hb
   rw [hl' e.on (by omega)]
   simp; omega
  have hr:i∈Region.ready .any ops l:=by
   rw [mem_ready]
   refine ⟨hiun,ops[i],hpi,fun e he hb=>?_⟩
   have:=hedge e he hb
   rw [hl' e.on (by omega)]
   simpa using this
  refine G2 hT hK hlen hio rest.length l s ?_ hcl hr hU hR ?_
  ·intro j pj oj hpj hoj hji hjun hno hno2
   have hjn:j < ops.size:=(Array.getElem?_eq_some_iff.1 hpj).1
   have hlj:=hl' j hjn
   rw [tV hjun] at hlj
   simp at hlj
   have hij:i < 0 + j:=by omega
   rcases vT hrow j pj oj (by simpa using hpj) hoj hij with h|h|h|h
   ·rw [hno] at h; cases h
   ·exact G1 h
   ·rw [hno2] at h; cases h
   ·rw [Nat.zero_add] at h; exact Ak hio hoj hbad h
  ·rw [mO] at h
   obtain ⟨v,d,hdoes,hs',hi'⟩:=d8 h
   have hU':=hi' _ hU
   have hR':=yP hdoes (hT i o hio) hR
   refine hdoes.2 s .refl _ ?_
   generalize (d.app' (base + i) s).put o.dst v=s' at hs' hU' hR'
   have hlsz:(l.setIfInBounds i true).size=ops.size:=by simp [hl]
   refine yS hT hbad hK hlen hok rest (i + 1) _ s' ?_ (by simp at hn ⊢; omega) hlsz (fun j hj=>?_) (zz (fun n hn=>G0 (by omega) hn) hU') hR' hs'
   ·rw [← List.tail_drop,hd]; rfl
   ·by_cases hij:i=j
    ·subst hij; simp [hl,hilt]
    ·rw [getD_set_ne false hij,hl' j hj]
     by_cases hlt:j < i
     ·simp [hlt]; omega
     ·simp [hlt]; omega
end
section
variable {P:Program} {nt:Nat} {n0:oc} {w0:World} {π0:Nat→Nat→Prop} {U:Nat→Prop} {s:S} {a:Act} {w:World} {β:Nat→Nat} {τ:Nat→Value} {π:Nat→Nat→Prop}
theorem Rel.iE (R:Rel P nt n0 w0 π0 U s a w β τ π):s.iE U :=
 ⟨fun t v hv=>(R.slots t v hv).2,fun b x hb=>⟨(R.boxes b x hb).1,fun o q hq=>(R.boxes b x hb).2.2.2 o q hq⟩,fun q e hq=>(R.live q e hq).1⟩
theorem Rel.seq (R:Rel P nt n0 w0 π0 U s a w β τ π) {s2:S} (h:rS s s2):Rel P nt n0 w0 π0 U s2 a w β τ π where
 size:=R.size
 slots:=fun t v hv=>R.slots t v (by rw [← h.slots]; exact hv)
 boxes:=fun b x hb=>R.boxes b x (by rw [← h.boxes]; exact hb)
 inj:=fun b b' x x' hb hb'=>R.inj b b' x x' (by rw [← h.boxes]; exact hb) (by rw [← h.boxes]; exact hb')
 live:=fun q e hq=>R.live q e (by rw [← h.live]; exact hq)
 cg:=fun q q' e e' B hq hq'=>R.cg q q' e e' B (by rw [← h.live]; exact hq) (by rw [← h.live]; exact hq')
 d5:=fun q e b x hq hb=>R.d5 q e b x (by rw [← h.live]; exact hq) (by rw [← h.boxes]; exact hb)
 below:=R.below
 gA:=R.gA
 iG:=R.iG
 gq:=R.gq
 dQ:=R.dQ
 uw:=R.uw
 mZ:=R.mZ
 kept:=R.kept
theorem Rel.nx (R:Rel P nt n0 w0 π0 U s a w β τ π) (n:Nat):Rel P nt n0 w0 π0 U { s with nx:=n } a w β τ π :=
 R.seq ⟨fun _=>rfl,fun _=>rfl,fun _=>rfl⟩
theorem ES {ops:Array Oper} {g:Option (Nat × Bool)} {g':Option (Nat × Bool)} (h:GQ ops g=some g'):(g=none∧g'=none)∨∃ j w t,g=some (j,w)∧(ops[j]?).bind (·.dst)=some t∧g'=some (t,w):=by
 unfold GQ at h
 split at h
 ·cases h; exact .inl ⟨rfl,rfl⟩
 ·rename_i j w
  split at h
  ·rename_i t ht
   cases h
   exact .inr ⟨j,w,t,rfl,ht,rfl⟩
  ·cases h
theorem G3 (R:Rel P nt n0 w0 π0 U s a w β τ π) {ops:Array Oper} {o:Oper} {c:CO} {id:Nat} (hid:¬ U id) (hc:yI P ops o=some c) (hfit:∀ d,c.dst=some d→d < nt) {K:S→Prop} (h:ke (Pure P) id c K s)
  {next:Act→World→Prop} {Q:Exit→Act→World→Prop}
  (hn:∀ s' x w' β' τ' π',K s'→Rel P nt n0 w0 π0 (jj U id) s' (a.put o.dst x) w' β' τ' π'→next (a.put o.dst x) w') :
  if Region.wanted o (yielded ops a.tmps) then o.wp P a w next Q else next (a.put o.dst undef) w:=by
 unfold yI at hc
 split at hc<;>try (cases hc; done)
 rename_i cop g hop hg
 cases hc
 simp only at hfit
 have run:bS (Pure P) id cop (fun v s'=>K (s'.put o.dst v)) s→o.wp P a w next Q:=fun h=>by
  unfold Qt at hop
  split at hop
  ·rename_i c' hv'
   cases hop
   exact GV R hid hv' h fun v s' x w' β' τ' π' hK hv hu R'=>hn _ _ _ _ _ _ hK (R'.put o.dst hfit hv hu)
  ·exact Ji R hid hop h fun v s' x w' β' τ' π' hK hv hu R'=>hn _ _ _ _ _ _ hK (R'.put o.dst hfit hv hu)
 have skip:K (s.put o.dst .undef)→next (a.put o.dst undef) w:=fun h =>
  hn _ _ _ _ _ _ h ((R.sub fun n h=>.inl h).put o.dst hfit rfl trivial)
 unfold ke lG at h
 rcases ES hg with ⟨h1,h2⟩|⟨j,want,t,h1,h2,h3⟩
 ·subst h2
  simp only at h
  simp only [Region.wanted,h1,if_true]
  exact run h
 ·subst h3
  simp only at h
  cases hl:lk t s.slots with
  | none=>simp [hl] at h
  | some v =>
   obtain ⟨⟨x,hx,hrv⟩,hui⟩:=R.slots t v hl
   simp only [hl] at h
   have hy:∀ b,x=.bool b→yielded ops a.tmps j=some b:=fun b hb=>by
    unfold yielded; rw [h2]; simp [hx,hb]
   cases v with
   | ptr b o=>exact h.elim
   | rp cs=>exact h.elim
   | vs _ _ _ _=>exact h.elim
   | undef =>
    have hxu:x=undef:=hrv
    have hy':yielded ops a.tmps j=none:=by
     unfold yielded; rw [h2]; simp [hx,hxu,undef]
    simp only [Region.wanted,h1,hy']
    exact skip h
   | dat av q =>
    cases av<;>try (exact h.elim)
    rename_i b
    have hxb:x=.bool b:=hrv.1.Aa
    simp only [Region.wanted,h1,hy b hxb]
    by_cases hb:b=want
    ·subst hb; simp; exact run (h.1 rfl)
    ·have hb':b=!want:=by cases b<;>cases want<;>first | rfl | exact absurd rfl hb
     have:(some b == some want)=false:=by subst hb'; cases want<;>rfl
     rw [this]
     exact skip (h.2 hb')
def xN (P:Program) (ops:Array Oper) (o:Oper) (c':CO):Prop:=∃ c,yI P ops o=some c∧Ro c c'
theorem ET (R:Rel P nt n0 w0 π0 U s a w β τ π) {ops:Array Oper} {o:Oper} {c:CO} {id:Nat} (hid:¬ U id) (hc:xN P ops o c) (hfit:∀ d,c.dst=some d→d < nt) {K:S→Prop} (h:ke (Pure P) id c K s)
  {next:Act→World→Prop} {Q:Exit→Act→World→Prop}
  (hn:∀ s' x w' β' τ' π',K s'→Rel P nt n0 w0 π0 (jj U id) s' (a.put o.dst x) w' β' τ' π'→next (a.put o.dst x) w') :
  if Region.wanted o (yielded ops a.tmps) then o.wp P a w next Q else next (a.put o.dst undef) w:=by
 obtain ⟨c0,hc0,hr⟩:=hc
 refine G3 R hid hc0 (fun d hd=>hfit d (by rw [hr.dst]; exact hd)) (K0 hr h) ?_
 rintro s' x w' β' τ' π' ⟨s0,he,hk⟩ R'
 exact hn s0 x w' β' τ' π' hk (R'.seq he)
def FW (r:Option Nat):Fence:={ Fence.wide with round:=r }
theorem Ao {r:Option Nat} {n:Nat} {f:FuncId} {args:Array Value} {w:World} {R:Ending→World→Prop}:CallsIn (FW r) n P f args w R↔Calls P f args w R :=
 ⟨fun h=>callsIn_wide.1 (show CallsIn Fence.wide n P f args w R from h),fun h=>(show CallsIn Fence.wide n P f args w R from callsIn_wide.2 h)⟩
theorem Jl {r:Option Nat} {n:Nat} {row:String} {args:Array Value} {w:World} {R:Value→World→Prop} (h:Rows P row args w R):RowsIn (FW r) n P row args w R :=
 fun c cs _=>let ⟨v,w',hr,s⟩:=h c cs; ⟨v,w',hr,(show StepsIn (Machine.fenced P Fence.wide) P _ _ from stepsIn_wide.2 s)⟩
theorem TD {r:Option Nat} {n:Nat} {o:Oper} {a:Act} {w:World} {K:Act→World→Prop} {Q:Exit→Act→World→Prop} (h:o.wp P a w K Q) (hd:∀ c,o.op≠.defer c):o.wpIn (FW r) n P a w K Q:=by
 refine ⟨fun _ _=>trivial,?_⟩
 rw [Oper.semAt_eq _ _ _ hd]
 unfold Oper.wp at h
 generalize (execOp a.eval o).run P w=res at h ⊢
 cases res with
 | ok x w' =>
  cases x<;>simp only [Oper.upon,Oper.uponIn] at h ⊢<;>first
   | exact h
   | exact h.elim
   | exact ⟨fun hd=>by simp [FW,Fence.wide] at hd,Ao.2 h⟩
   | exact ⟨fun hd=>by simp [FW,Fence.wide] at hd,Jl h⟩
 | halt x w'=>cases x<;>simp only [Oper.upon,Oper.uponIn] at h ⊢<;>first | exact h | exact h.elim
def zq (T:Nat→Prop) (a0 a:Act):Prop:=a.defers=a0.defers∧∀ t,T t→a.tmps[t]? = a0.tmps[t]?
theorem zq.refl (T:Nat→Prop) (a:Act):zq T a a:=⟨rfl,fun _ _=>rfl⟩
theorem zq.put {T:Nat→Prop} {a0 a:Act} (h:zq T a0 a) {d:Option Nat} (hd:∀ t,d=some t→¬ T t) (x:Value):zq T a0 (a.put d x):=by
 cases d with
 | none=>exact h
 | some d =>
  refine ⟨h.1,fun t ht=>?_⟩
  have hne:t≠d:=fun e=>hd d rfl (e ▸ ht)
  simp only [Act.put]
  rw [Array.getElem?_setIfInBounds_ne (Ne.symm hne)]
  exact h.2 t ht
theorem Ap (R:Rel P nt n0 w0 π0 U s a w β τ π) {ops:Array Oper} {o:Oper} {c:CO} {i id:Nat} (ho:ops[i]? = some o) (hid:¬ U id) (hc:xN P ops o c) (hfit:∀ d,c.dst=some d→d < nt) {K:S→Prop} (h:ke (Pure P) id c K s)
  {next:Act→World→Prop} {Q:Exit→Act→World→Prop}
  (hn:∀ s' x w' β' τ' π',K s'→Rel P nt n0 w0 π0 (jj U id) s' (a.put o.dst x) w' β' τ' π'→next (a.put o.dst x) w') {r:Option Nat} {n:Nat}:wpOpIn (FW r) n P ops Q i next a w:=by
 have:=ET R hid hc hfit h (Q:=Q) hn
 have hnd:∀ c,o.op≠.defer c:=by
  intro c' e
  obtain ⟨c0,hc,_⟩:=hc
  unfold yI at hc
  rw [e] at hc
  simp [Qt,Dr,Wl] at hc
 unfold wpOpIn
 simp only [ho]
 split
 ·rename_i hw; rw [if_pos hw] at this; exact TD this hnd
 ·rename_i hw; rw [if_neg hw] at this; exact ⟨fun _ _=>trivial,this⟩
theorem Jm {ops:Array Oper} {o:Oper} {c:CO} (hc:yI P ops o=some c):c.dst=o.dst:=by
 unfold yI at hc
 split at hc<;>try (cases hc; done)
 cases hc; rfl
theorem Aq {ops:Array Oper} {o:Oper} {c:CO} (hc:xN P ops o c):c.dst=o.dst:=by
 obtain ⟨c0,h0,hr⟩:=hc
 rw [hr.dst,Jm h0]
theorem yT {ops:Array Oper}:∀ {l:List Oper} {cs:List CO},xG P ops l=some cs→cs.length=l.length∧∀ (i:Nat) (o:Oper) (c:CO),l[i]? = some o→cs[i]? = some c→yI P ops o=some c
 | [],cs,h=>by simp [xG] at h; subst h; exact ⟨rfl,fun i o c h=>by simp at h⟩
 | o :: l,cs,h=>by
  unfold xG at h
  split at h<;>try (cases h; done)
  rename_i c cs' h1 h2
  cases h
  obtain ⟨e,hs⟩:=yT h2
  refine ⟨by simp [e],fun i o' c' ho hc=>?_⟩
  cases i with
  | zero=>simp at ho hc; subst ho; subst hc; exact h1
  | succ i=>exact hs i o' c' (by simpa using ho) (by simpa using hc)
theorem vV {n:Nat}:∀ {l:List CO},jE n l=true→∀ (i:Nat) (c:CO) (d:Nat),l[i]? = some c→c.dst=some d→d < n
 | [],h,i,c,d,hi,hd=>by simp at hi
 | o :: l,h,i,c,d,hi,hd=>by
  simp only [jE,Bool.and_eq_true] at h
  cases i with
  | zero =>
   simp at hi; subst hi
   have:=h.1
   rw [hd] at this
   simpa using this
  | succ i=>exact vV h.2 i c d (by simpa using hi) hd
theorem Ar {ops:Array Oper} {cos:List CO} {base:Nat} (hlen:cos.length=ops.size) (hcos:∀ (i:Nat) (o:Oper) (c:CO),ops[i]? = some o→cos[i]? = some c→xN P ops o c) (hfit:∀ (i:Nat) (c:CO) (d:Nat),cos[i]? = some c→c.dst=some d→d < nt)
  {T:Nat→Prop} {a0:Act} (hT:∀ (i:Nat) (c:CO) (d:Nat),cos[i]? = some c→c.dst=some d→¬ T d) {r:Option Nat} {m:Nat}
  {K:S→Prop} {Q:Exit→Act→World→Prop} (hQ:∀ s a w β τ π U,(∀ n,U n→n < base + ops.size)→K s→zq T a0 a→Rel P nt n0 w0 π0 U s a w β τ π→Q .normal a w) :
  ∀ (rest:List CO) (i:Nat) (s:S) (a:Act) (w:World) (β:Nat→Nat) (τ:Nat→Value) (π:Nat→Nat→Prop) (U:Nat→Prop),cos.drop i=rest→i + rest.length=ops.size→(∀ n,U n→n < base + i)→zq T a0 a→Rel P nt n0 w0 π0 U s a w β τ π →
   jD (Pure P) base i rest K s→wpOpsIn (FW r) m P ops Q (List.range' i rest.length) a w
 | [],i,s,a,w,β,τ,π,U,hd,hn,hU,hp,R,h=>hQ s a w β τ π U (fun n h=>by have:=hU n h; simp at hn; omega) h hp R
 | o :: rest,i,s,a,w,β,τ,π,U,hd,hn,hU,hp,R,h=>by
  have hio:cos[i]? = some o:=by
   have:(cos.drop i)[0]? = some o:=by rw [hd]; rfl
   simpa using this
  have hilt:i < ops.size:=by simp at hn; omega
  have hpi:ops[i]? = some ops[i]:=by simp [hilt]
  rw [mO] at h
  simp only [List.length_cons,List.range'_succ]
  rw [wpOpsIn_cons]
  refine Ap R hpi (fun h=>by have:=hU _ h; omega) (hcos i _ o hpi hio) (hfit i o · hio) h fun s' x w' β' τ' π' hK R'=>?_
  refine Ar hlen hcos hfit hT hQ rest (i + 1) s' _ w' β' τ' π' _ ?_ (by simp at hn; omega) (fun n h=>?_) (hp.put (fun d hd=>hT i o d hio (by rw [Aq (hcos i _ o hpi hio)]; exact hd)) x) R' hK
  ·rw [← List.tail_drop,hd]; rfl
  ·rcases h with h | h
   ·have:=hU n h; omega
   ·omega
theorem Jn {ops:Array Oper} {cos:List CO} {base:Nat} (hcos:∀ (i:Nat) (o:Oper) (c:CO),ops[i]? = some o→cos[i]? = some c→xN P ops o c) (hfit:∀ (i:Nat) (c:CO) (d:Nat),cos[i]? = some c→c.dst=some d→d < nt)
  {T:Nat→Prop} {a0:Act} (hT:∀ (i:Nat) (c:CO) (d:Nat),cos[i]? = some c→c.dst=some d→¬ T d) {r:Option Nat} {m:Nat}
  {K:S→Prop} {Q:Exit→Act→World→Prop} (hQ:∀ s a w β τ π U,(∀ n,U n→n < base + ops.size)→K s→zq T a0 a→Rel P nt n0 w0 π0 U s a w β τ π→Q .normal a w) :
  ∀ (f:Nat) (l:Array Bool) (s:S) (a:Act) (w:World) (β:Nat→Nat) (τ:Nat→Value) (π:Nat→Nat→Prop),l.size=ops.size→zq T a0 a→Rel P nt n0 w0 π0 (UL base l) s a w β τ π →
   GY (Pure P) base ops cos K f l s→wpAnyIn (FW r) m P .any ops Q f l a w:=by
 have small:∀ l:Array Bool,l.size=ops.size→∀ n,UL base l n→n < base + ops.size:=by
  rintro l hl n (h|⟨i,hi,h⟩)
  ·omega
  ·have:i < l.size:=by
    rcases Nat.lt_or_ge i l.size with h'|h'
    ·exact h'
    ·simp [Array.getElem?_eq_none h'] at h
   omega
 intro f
 induction f with
 | zero=>intro l s a w β τ π hl hp R h; exact ⟨h.1,hQ s a w β τ π _ (small l hl) h.2 hp R⟩
 | succ f ih =>
  intro l s a w β τ π hl hp R h
  refine ⟨fun h0=>hQ s a w β τ π _ (small l hl) (h.1 h0) hp R,fun i hi=>?_⟩
  obtain ⟨o,ho,hs⟩:=h.2 i hi
  obtain ⟨hun,pi,hpi,_⟩:=mem_ready.1 hi
  refine Ap R hpi (GZ hun) (hcos i pi o hpi ho) (hfit i o · ho) hs fun s' x w' β' τ' π' hK R'=>?_
  exact ih _ s' _ w' β' τ' π' (by simp [hl]) (hp.put (fun d hd=>hT i o d ho (by rw [Aq (hcos i pi o hpi ho)]; exact hd)) x) (R'.sub fun n hn=>G0 (sA hi) hn) hK
theorem As {c:CO} {d:Nat}:∀ {l:List CO},c∈l→c.dst=some d→d∈dstsOf l
 | o :: l,h,hd=>by
  simp only [dstsOf,List.mem_append]
  rcases List.mem_cons.1 h with rfl|h
  ·exact .inl (by rw [hd]; simp)
  ·exact .inr (As h hd)
theorem DA (hm:P.follows .mixedOrders=true) {id:Nat} {ops:Array Oper} {pQ:Bool} {cos0:List CO} (hc:xG P ops ops.toList=some cos0) (ro:List Nat) (hd:pQ=true→∃ dF T,sn dF ops.toList cos0=true∧yH T (oa ro 0 cos0) dF=true∧mI T s.nx 0 (oa ro 0 cos0)=true∧qq T s) (hfit:jE nt cos0=true)
    (R:Rel P nt n0 w0 π0 U s a w β τ π) (hU:∀ n,U n→n < s.nx) {K:S→Prop} {Q:Exit→Act→World→Prop} (h:jD (Pure P) s.nx 0 (oa ro 0 cos0) K s)
    {T:Nat→Prop} (hT:∀ d,d∈dstsOf cos0→¬ T d) {r:Option Nat} {m:Nat}
    (hQ:∀ s' a' w β τ π U,(∀ n,U n→n < s.nx + cos0.length)→K s'→zq T a a'→Rel P nt n0 w0 π0 U s' a' w β τ π→Q .normal a' w):(Code.region id ops pQ).wpIn (FW r) m P Q a w:=by
  obtain ⟨hlen0,hcos0⟩:=yT hc
  have hd:pQ=true→∃ dF T,sn dF ops.toList (oa ro 0 cos0)=true∧yH T (oa ro 0 cos0) dF=true∧mI T s.nx 0 (oa ro 0 cos0)=true∧qq T s:=fun e=>by
    obtain ⟨dF,T,h1,h2⟩:=hd e
    exact ⟨dF,T,Jk h1,h2⟩
  have hfit:jE nt (oa ro 0 cos0)=true:=by rw [Ii]; exact hfit
  have hT:∀ d,d∈dstsOf (oa ro 0 cos0)→¬ T d:=by rw [ER]; exact hT
  have hlen:(oa ro 0 cos0).length=ops.size:=by rw [Dz]; simpa using hlen0
  have hQ:∀ s' a' w β τ π U,(∀ n,U n→n < s.nx + (oa ro 0 cos0).length)→K s'→zq T a a'→Rel P nt n0 w0 π0 U s' a' w β τ π→Q .normal a' w:=by rw [Dz]; exact hQ
  have hcos:∀ (i:Nat) (o:Oper) (c:CO),ops[i]? = some o→(oa ro 0 cos0)[i]? = some c→xN P ops o c:=fun i o c h1 h2=>by
    obtain ⟨c0,h3,h4⟩:=Ih h2
    exact ⟨c0,hcos0 i o c0 (by simpa using h1) h3,h4⟩
  clear hlen0 hcos0 hc
  generalize oa ro 0 cos0=cos at *
  have hT:∀ (i:Nat) (c:CO) (d:Nat),cos[i]? = some c→c.dst=some d→¬ T d:=fun i c d hi hd=>hT d (As (List.mem_of_getElem? hi) hd)
  have hfit:=vV hfit
  rw [hlen] at hQ
  cases pQ with
  | false =>
    refine wpIn_region ?_
    have:=Ar (r:=r) (m:=m) hlen hcos hfit hT hQ cos 0 s a w β τ π U rfl (by simpa using hlen) (by simpa using hU) (.refl _ _) R h
    rw [hlen] at this
    rw [List.range_eq_range']
    exact this
  | true =>
    obtain ⟨dF,Tb,hok,hbad,hst,hRt⟩:=hd rfl
    have hst':∀ k ok,cos[k]? = some ok→si Tb (s.nx + k) ok=true:=fun k ok hk=>by have:=vR hst k ok hk; rwa [Nat.zero_add] at this
    refine wpIn_region_any hm ?_
    have R':Rel P nt n0 w0 π0 (UL s.nx (Array.replicate ops.size false)) s a w.drew β τ π:=R.draw.sub fun n hn=>.inl (hU n hn)
    have h2:jD (Pure P) s.nx 0 cos (fun s2=>∃ s1,rS s1 s2∧K s1) s:=by
      clear hQ
      have gen:∀ (base':Nat) (r:List CO) (i:Nat) (s:S) {K':S→Prop},(∀ s,K s→K' s)→jD (Pure P) base' i r K s→jD (Pure P) base' i r K' s:=by
        intro base' r
        induction r with
        | nil=>intro i s K' hk h; exact hk s h
        | cons o r ih =>
          intro i s K' hk h
          rw [mO] at h ⊢
          obtain ⟨v,d,hd,hk',_⟩:=d8 h
          exact hd.2 s .refl _ (ih _ _ hk hk')
      exact gen s.nx cos 0 s (fun s h=>⟨s,.refl,h⟩) h
    have h3:=yS hst' hbad (fun s s2 he ⟨s1,h1,hk⟩=>⟨s1,h1.trans he,hk⟩) hlen hok cos 0 (Array.replicate ops.size false) s rfl (by simpa using hlen) (by simp) (fun j hj=>by simp [hj]) R'.iE hRt h2
    rw [hlen] at h3
    refine Jn hcos hfit hT ?_ ops.size _ s a w.drew β τ π (by simp) (.refl _ _) R' h3
    rintro s2 a w β τ π U hU ⟨s1,he,hk⟩ hp R2
    exact hQ s1 a w β τ π U hU hk hp (R2.seq he.symm)
end
end Go.Eng
