/- The engine and the library,part 3 of 12: what the proofs of this seat need of them. -/
import Derived.Test.YthoinfdfenkgnaaGreatPk2
set_option linter.unnecessarySimpa false
set_option linter.unusedSimpArgs false
set_option linter.unusedVariables false
set_option linter.defProp false
set_option maxRecDepth 10000
set_option maxHeartbeats 4000000
namespace Go.Eng
open Go
open Go.RowKit (Below)
section
variable {P:Program} {nt:Nat} {n0:gK} {w0:World} {π0:Nat→Nat→Prop} {U:Nat→Prop} {s:S} {a:Act} {w:World} {β:Nat→Nat} {τ:Nat→Value} {π:Nat→Nat→Prop}
theorem Rel.oU (R:Rel P nt n0 w0 π0 U s a w β τ π) {X:Operand} {x:aQ} {i:Int} (hx:bC X=some x) (hi:Eng.oU (Eng.ax s x)=some i):∃ k,a.eval X=.int k i:=by
 cases h:Eng.ax s x with
 | none=>rw [h] at hi; cases hi
 | some b=>rw [h] at hi; exact R.idx hx h hi
theorem Rel.slice (R:Rel P nt n0 w0 π0 U s a w β τ π) {t e:TypeId} {z:Nat} {X:Operand} {x:aQ} {lo hi:Option Operand} {lo' hi':Option aQ} (ht:P.underlying t=some (.slice e)) (hz:dc P e=some z) (hx:bC X=some x) (hl:cOpt lo=some lo') (hh:cOpt hi=some hi')
    {id:Nat} {K:SV→S→Prop} (h:aV (Pure P) id (.F2 z x lo' hi') K s) :
    ∃ v y,(Instr.sliceAt t (a.eval X) (lo.map a.eval) (hi.map a.eval) none).run P w=.ok y w∧RV β τ w π v y∧v.dW U∧K v s:=by
  simp only [aV] at h
  obtain ⟨b,hb,k1⟩:=af h
  obtain ⟨xs,hxs,k2⟩:=af k1
  obtain ⟨l,hlo,k3⟩:=af k2
  obtain ⟨m,hhi,⟨hl0,hlm,hmx⟩,hrow,hK⟩:=af k3
  have hd:=R.ax hx hb
  have hsz:=cz (P:=P) (w:=w) hz
  -- the bounds
  have hlow:(lo=none∧l=0)∨∃ L k,lo=some L∧a.eval L=.int k l:=by
    cases lo with
    | none=>simp [cOpt] at hl; subst hl; simp [qR] at hlo; exact .inl ⟨rfl,hlo.symm⟩
    | some L =>
      simp only [cOpt,Option.map_eq_some_iff] at hl
      obtain ⟨x',hx',rfl⟩:=hl
      obtain ⟨k,hk⟩:=R.oU hx' hlo
      exact .inr ⟨L,k,rfl,hk⟩
  have hhigh:(hi=none∧m=xs.length)∨∃ H k,hi=some H∧a.eval H=.int k m:=by
    cases hi with
    | none=>simp [cOpt] at hh; subst hh; simp [qS] at hhi; exact .inl ⟨rfl,hhi.symm⟩
    | some H =>
      simp only [cOpt,Option.map_eq_some_iff] at hh
      obtain ⟨x',hx',rfl⟩:=hh
      obtain ⟨k,hk⟩:=R.oU hx' hhi
      exact .inr ⟨H,k,rfl,hk⟩
  have hbnd:∀ cap,xs.length≤cap→(Instr.sliceBounds true xs.length cap (lo.map a.eval) (hi.map a.eval) none).run P w=.ok (l.toNat,m.toNat,cap) w:=by
    intro cap hcap
    have hm0:(0:Int)≤m:=by omega
    have hmc:m≤cap:=by omega
    have hmn:(m.toNat:Int)=m:=Int.toNat_of_nonneg hm0
    rcases hlow with ⟨rfl,rfl⟩|⟨L,k,rfl,hL⟩<;>rcases hhigh with ⟨rfl,hm⟩|⟨H,k',rfl,hH⟩
    · subst hm; simp [Instr.sliceBounds]
    · simp [Instr.sliceBounds,hH,run_sliceBound,hm0,hmc]
    · have hL':=run_sliceBound (P:=P) w k l xs.length .sliceB hl0 (by omega)
      have hmx':m.toNat=xs.length:=by omega
      simp [Instr.sliceBounds,hL,hL',hmx']
    · have hH':=run_sliceBound (P:=P) w k' m cap .sliceAcap hm0 hmc
      have hL':=run_sliceBound (P:=P) w k l m.toNat .sliceB hl0 (by omega)
      simp [Instr.sliceBounds,hL,hH,hH',hL']
  have hat:(Instr.sliceAt t (a.eval X) (lo.map a.eval) (hi.map a.eval) none).run P w=(Instr.slice t (a.eval X) (lo.map a.eval) (hi.map a.eval) none).run P w:=by
    simp [Instr.sliceAt,run_underlying ht]
  rw [hat]
  cases b<;>simp only [rowsOf] at hxs<;>try (cases hxs; done)
  · -- nil
    cases hxs
    have hv:a.eval X=.slice none 0 0:=by generalize a.eval X=v at hd; cases hd; rfl
    have h0:=hbnd 0 (by simp)
    simp at hmx
    have hlz:l=0:=by omega
    have hmz:m=0:=by omega
    subst hlz hmz
    refine ⟨.dat .aN none,.slice none 0 0,?_,⟨.aN,fun t ht=>by cases ht⟩,trivial,hK⟩
    simp only [List.length_nil] at h0
    simp [hv,Instr.slice,run_underlying ht,h0,hsz]
  · cases hxs
    generalize hv:a.eval X=v at hd
    cases hd with
    | AR A =>
      have h0:=hbnd 0 (by simp)
      simp at hmx
      have hlz:l=0:=by omega
      have hmz:m=0:=by omega
      subst hlz hmz
      refine ⟨.dat (.sl []) none,.slice (some A) 0 0,?_,⟨.AR A,fun t ht=>by cases ht⟩,trivial,hK⟩
      simp only [List.length_nil] at h0
      simp [Instr.slice,run_underlying ht,h0,hsz]
    | sl _ B off cap z' f h1 h2 h3 h4 h5 h6 =>
      have h0:=hbnd cap h1
      have hln:l.toNat≤m.toNat:=by omega
      have hmn:m.toNat≤xs.length:=by omega
      have hlen:((xs.take m.toNat).drop l.toNat).length=m.toNat - l.toNat:=by simp; omega
      have hget:∀ (i:Nat) (r:List AV),((xs.take m.toNat).drop l.toNat)[i]? = some r→xs[l.toNat + i]? = some r:=by
        intro i r hr
        rw [List.getElem?_drop,List.getElem?_take] at hr
        split at hr
        · exact hr
        · cases hr
      have hrun:(Instr.slice t (.slice (some ⟨B,off,none⟩) xs.length cap) (lo.map a.eval) (hi.map a.eval) none).run P w=.ok (.slice (some (if cap=l.toNat then ⟨B,off,none⟩ else ⟨B,off + l.toNat * z,none⟩)) (m.toNat - l.toNat) (cap - l.toNat)) w:=by
        simp only [Instr.slice,Sem.run_bind,run_underlying ht,Result.andThen_ok,h0,hsz,Sem.run_pure]
        split<;>simp [gB]
      refine ⟨.dat (.sl ((xs.take m.toNat).drop l.toNat)) none,_,hrun,⟨?_,fun t ht=>by cases ht⟩,trivial,hK⟩
      rw [← hlen]
      by_cases hcl:cap=l.toNat
      · rw [if_pos hcl]
        have hnil:(xs.take m.toNat).drop l.toNat=[]:=List.eq_nil_of_length_eq_zero (by rw [hlen]; omega)
        rw [hnil]
        exact .sl [] B off _ z' f (by simp) (fun i r hr=>by simp at hr) (fun i j r a hr=>by simp at hr) (fun i j r a hr=>by simp at hr) (fun i j r a hr=>by simp at hr) (fun i j r a hr=>by simp at hr)
      · rw [if_neg hcl]
        have hzz:∀ (i:Nat) (r:List AV),((xs.take m.toNat).drop l.toNat)[i]? = some r→z'=z:=fun i r hr=>by
          rw [← h2 _ _ (hget i r hr)]; exact hrow r (List.mem_of_getElem? (hget i r hr))
        refine .sl _ B (off + l.toNat * z) _ z (fun i j=>f (l.toNat + i) j) (by rw [hlen]; omega) (fun i r hr=>hrow r (List.mem_of_getElem? (hget i r hr))) (fun i j r x hr hx=>h3 _ j r x (hget i r hr) hx) (fun i j r x hr hx=>?_) (fun i j r x hr hx=>?_) (fun i j r x hr hx=>h6 _ j r x (hget i r hr) hx)
        · have e:=hzz i r hr
          subst e
          have:=h4 _ j r x (hget i r hr) hx
          rwa [show off + (l.toNat + i) * z' + j=off + l.toNat * z' + i * z' + j by rw [Nat.add_mul]; omega] at this
        · have e:=hzz i r hr
          subst e
          have:=h5 _ j r x (hget i r hr) hx
          rwa [show off + (l.toNat + i) * z' + j=off + l.toNat * z' + i * z' + j by rw [Nat.add_mul]; omega] at this
theorem Dh {t:TypeId} {ks:List CK} {neg:Bool} {op:BinOp} (hop:(op=.eql∧neg=false)∨(op=.neq∧neg=true)) (hk:iP P 20 t=some ks) (hg:(jj P t && !P.eqGuardType P.depth t)=true) {as bs:List AV} {X Y:Operand} {x y:Value} {e:Bool}
  (hx:DV w π (.agg as) x) (hy:DV w π (.agg bs) y) (he:bT ks as bs=some e):(do eqGuard op t X Y x y; binOp op t x y:Sem Value).run P w=.ok (.bool (e != neg)) w:=by
 simp only [Bool.and_eq_true,Bool.not_eq_true'] at hg
 cases hx with
 | agg _ xs h1 h2 h3 =>
  cases hy with
  | agg _ ys k1 k2 k3 =>
   have hvx:AH w π P t as (.agg xs):=by
    unfold AH; rw [if_pos hg.1]; exact ⟨xs,rfl,⟨by simpa using h1,fun i a v ha hv=>h3 i a v ha (by simpa using hv)⟩,h2⟩
   have hvy:AH w π P t bs (.agg ys):=by
    unfold AH; rw [if_pos hg.1]; exact ⟨ys,rfl,⟨by simpa using k1,fun i a v ha hv=>k3 i a v ha (by simpa using hv)⟩,k2⟩
   have hr:=Gd 20 t ks hk Op.maxDepth (by decide) as bs _ _ e hvx hvy he
   have hgd:=run_eqGuard_agg w op t X Y xs ys hg.2
   rw [Sem.run_bind,hgd]
   rcases hop with ⟨rfl,rfl⟩|⟨rfl,rfl⟩
   ·simp [binOp,Op.equal,hr]
   ·simp [binOp,Op.equal,hr]
theorem Di {t:TypeId} {neg:Bool} {op:BinOp} (hop:(op=.eql∧neg=false)∨(op=.neq∧neg=true)) (hs:sliceB P t=true) {a:AV} {b:Bool} {X Y:Operand} {x y:Value}
  (hb:vY neg a=some b) (hx:DV w π a x) (hy:DV w π .aN y):(do eqGuard op t X Y x y; binOp op t x y:Sem Value).run P w=.ok (.bool b) w:=by
 have hu:∃ e,P.underlying t=some (.slice e):=by
  unfold sliceB at hs; split at hs
  ·exact ⟨_,by assumption⟩
  ·cases hs
 obtain ⟨e,hu⟩:=hu
 cases hy
 have hrun:∀ (A:Option Addr) (n c:Nat),(binOp .eql t (.slice A n c) (.slice none 0 0)).run P w=.ok (.bool A.isNone) w:=fun A n c=>Lib.run_eql_slice_nil w t e A n c 0 0 hu
 have hrun2:∀ (A:Option Addr) (n c:Nat),(binOp .neq t (.slice A n c) (.slice none 0 0)).run P w=.ok (.bool !A.isNone) w:=fun A n c=>by
  simp only [binOp]
  simp [Op.equal,Op.maxDepth,Lib.run_equalIn_slice_nil w 9999 t e A n c 0 0 hu]
 cases hx<;>simp only [vY,Option.some.injEq,reduceCtorEq] at hb<;>subst hb
 all_goals (rcases hop with ⟨rfl,rfl⟩ | ⟨rfl,rfl⟩<;>rw [Sem.run_bind,dP _ _ _ _ (fun _ h=>by cases h) (fun h=>by cases h)])
 all_goals first | exact hrun _ _ _ | exact hrun2 _ _ _
theorem v9.weaken {ok ok':Nat→Prop} {e:Nat} {v:Value} (h:v9 P w π ok e v) (hn:∀ B,ok B→ok' B):v9 P w π ok' e v:=by
 rcases h with h|⟨B,len,cap,cur,i,h1,h2,h3⟩
 ·exact .inl h
 ·exact .inr ⟨B,len,cap,cur,i,h1,hn _ h2,h3⟩
theorem Rel.called (R:Rel P nt n0 w0 π0 U s a w β τ π) {id:Nat} (hid:¬ U id) {w':World} {π':Nat→Nat→Prop} {v:Value} {r:AV} {fr:Option Nat} (hbel:Below w.heap.size w w') (hp:∀ b o,π b o→π' b o) (hp':∀ b o,π' b o→π b o∨w.heap.size≤b)
  (hpl:∀ b o,π' b o→b < w'.heap.size) (hd:DV w' π' r v) (ht:∀ t,fr=some t→v9 P w' π' (fun B=>w.heap.size≤B) t v) :
  ∃ τ',RV β τ' w' π' (.dat r (fr.map fun _=>id)) v∧Rel P nt n0 w0 π0 (cV U id) { s with live:=match (generalizing:=false) fr with | some e=>(id,e) :: s.live | none=>s.live } a w' β τ' π':=by
 have hsz:n0.n≤w.heap.size:=Nat.le_trans R.dm R.below.size
 cases fr with
 | none=>exact ⟨τ,⟨hd,fun t h=>by cases h⟩,R.frame (fun _ _=>rfl) (fun _ _=>rfl) (fun _ h=>.inl h) hp hp' hpl hbel⟩
 | some e =>
  have R1:Rel P nt n0 w0 π0 U s a w' β τ π':=R.frame (fun _ _=>rfl) (fun _ _=>rfl) (fun _ h=>h) hp hp' hpl hbel
  have htk:=ht e rfl
  refine ⟨tS τ id v,⟨hd,fun t h=>by cases h; rw [bg]⟩,R1.ng hid (htk.weaken (fun B h=>.inl (Nat.le_trans hsz h))) (fun q e' B hq hB hB'=>?_) (fun b x hb hB'=>?_)⟩
  ·have h1:=((R.live q e' hq).2.block hB).2
   have h2:=(htk.block hB').1
   omega
  ·have h1:=R.jV hb
   have h2:=(htk.block hB').1
   omega
theorem d6:∀ {l:List Nat},cu l=true→l.Nodup
 | [],_=>List.nodup_nil
 | b :: bs,h=>by
  simp only [cu,Bool.and_eq_true,Bool.not_eq_true'] at h
  rw [List.nodup_cons]
  exact ⟨by simpa using h.1,d6 h.2⟩
theorem fh {l:List (Nat × bA)}:∀ {ids:List Nat} {css:List (List AV)},aR l ids=some css→css.length=ids.length∧∀ (k:Nat) (b:Nat),ids[k]? = some b→∃ x,bF b l=some x∧css[k]? = some x.cells
 | [],css,h=>by simp [aR] at h; subst h; exact ⟨rfl,fun k b hb=>by simp at hb⟩
 | b :: bs,css,h=>by
  simp only [aR] at h
  split at h<;>try (cases h; done)
  rename_i x css' h1 h2
  cases h
  obtain ⟨e,hs⟩:=fh h2
  refine ⟨by simp [e],fun k b' hb=>?_⟩
  cases k with
  | zero=>simp at hb; subst hb; exact ⟨x,h1,rfl⟩
  | succ k=>exact hs k b' (by simpa using hb)
theorem oZ:∀ {ids:List Nat} {css:List (List AV)} {l:List (Nat × bA)} {n:Nat} {x:bA},ids.Nodup→css.length=ids.length→bF n (cJ ids css l)=some x →
  (∃ (k:Nat) (cs:List AV),ids[k]? = some n∧css[k]? = some cs∧x=⟨cs,[]⟩∧∃ y,bF n l=some y)∨(n ∉ ids∧bF n l=some x)
 | [],css,l,n,x,_,_,h=>.inr ⟨by simp,by cases css<;>exact h⟩
 | b :: bs,[],l,n,x,_,hl,h=>by simp at hl
 | b :: bs,cs :: css,l,n,x,hnd,hl,h=>by
  simp only [cJ] at h
  rw [List.nodup_cons] at hnd
  rcases oZ hnd.2 (by simpa using hl) h with ⟨k,cs',h1,h2,h3,y,hy⟩|⟨h1,h2⟩
  ·refine .inl ⟨k + 1,cs',by simpa using h1,by simpa using h2,h3,?_⟩
   rcases iR hy with ⟨_,_,y',hy'⟩|⟨_,hy'⟩
   ·exact ⟨y',by rename_i e _; rw [e]; exact hy'⟩
   ·exact ⟨y,hy'⟩
  ·rcases iR h2 with ⟨e,hx,y,hy⟩ | ⟨hne,hx⟩
   ·subst e; exact .inl ⟨0,cs,rfl,rfl,hx,y,hy⟩
   ·exact .inr ⟨by simp [hne,h1],hx⟩
theorem b7.get {w:World} {π:Nat→Nat→Prop}:∀ {css:List (List AV)} {Bs:List Nat},b7 w π css Bs→css.length=Bs.length∧∀ (k:Nat) (cs:List AV) (B:Nat),css[k]? = some cs→Bs[k]? = some B→lE (fun _=>undef) w π B ⟨cs,[]⟩
 | [],[],h=>⟨rfl,fun k cs B h=>by simp at h⟩
 | [],B :: Bs,h=>h.elim
 | cs :: css,[],h=>h.elim
 | cs :: css,B :: Bs,h=>by
  obtain ⟨e,hs⟩:=b7.get h.2
  refine ⟨by simp [e],fun k cs' B' h1 h2=>?_⟩
  cases k with
  | zero=>simp at h1 h2; subst h1; subst h2; exact h.1
  | succ k=>exact hs k cs' B' (by simpa using h1) (by simpa using h2)
theorem lE.q7 {τ τ':Nat→Value} {w:World} {π:Nat→Nat→Prop} {B:Nat} {x:bA} (h:lE τ w π B x):lE τ' w π B ⟨x.cells,[]⟩:=by
 obtain ⟨cur,el,h1,h2,h3,_,h5⟩:=h
 exact ⟨cur,el,h1,h2,h3,fun o q hq=>(by cases hq),h5⟩
theorem Rel.oa (R:Rel P nt n0 w0 π0 U s a w β τ π):∀ {ids:List Nat} {css:List (List AV)},aR s.boxes ids=some css→b7 w π css (ids.map β)
 | [],css,h=>by simp [aR] at h; subst h; trivial
 | b :: bs,css,h=>by
  simp only [aR] at h
  split at h<;>try (cases h; done)
  rename_i x css' h1 h2
  cases h
  exact ⟨(R.boxes b x h1).2.2.1.q7,R.oa h2⟩
theorem Rel.nodup (R:Rel P nt n0 w0 π0 U s a w β τ π):∀ {ids:List Nat} {css:List (List AV)},ids.Nodup→aR s.boxes ids=some css→(ids.map β).Nodup
 | [],css,_,h=>List.nodup_nil
 | b :: bs,css,hnd,h=>by
  simp only [aR] at h
  split at h<;>try (cases h; done)
  rename_i x css' h1 h2
  rw [List.nodup_cons] at hnd
  simp only [List.map_cons,List.nodup_cons]
  refine ⟨fun hm=>?_,R.nodup hnd.2 h2⟩
  obtain ⟨b',hb',e⟩:=List.mem_map.1 hm
  obtain ⟨k,hk⟩:=List.mem_iff_getElem?.1 hb'
  obtain ⟨y,hy,_⟩:=(fh h2).2 k b' hk
  have:=R.inj b' b y x hy h1 e
  exact hnd.1 (this ▸ hb')
theorem Rel.bZ (R:Rel P nt n0 w0 π0 U s a w β τ π):∀ {Xs:List Operand} {xs:List aQ} {pas:List (Option AV)} {ids:List Nat},Xs.mapM bC=some xs→Eng.bZ s xs=some (pas,ids)→dz w π pas (ids.map β) (Xs.map a.eval)
 | [],xs,pas,ids,hx,hv=>by
  simp at hx; subst hx
  simp [Eng.bZ] at hv
  obtain ⟨rfl,rfl⟩:=hv
  trivial
 | X :: Xs,xs,pas,ids,hx,hv=>by
  simp only [List.mapM_cons,Option.bind_eq_bind,Option.bind_eq_some_iff,Option.pure_def,Option.some.injEq] at hx
  obtain ⟨x,hx,xs',hxs,rfl⟩:=hx
  simp only [Eng.bZ] at hv
  split at hv<;>try (cases hv; done)
  ·rename_i av q as bs h1 h2
   cases hv
   exact ⟨(R.bw hx h1).1.1,R.bZ hxs h2⟩
  ·rename_i cs as bs h1 h2
   cases hv
   exact ⟨RV.ref.1 (R.bw hx h1).1,R.bZ hxs h2⟩
  ·rename_i b as bs h1 h2
   cases hv
   exact ⟨(R.bw hx h1).1,R.bZ hxs h2⟩
theorem Rel.qy (R:Rel P nt n0 w0 π0 U s a w β τ π) {id:Nat} (hid:¬ U id) {ids:List Nat} {css css':List (List AV)} (hnd:ids.Nodup) (hcs:aR s.boxes ids=some css) (hlen:css'.length=css.length)
    {w':World} {π':Nat→Nat→Prop} {v:Value} {r:AV} {fr:Option Nat} (hbel:qn (gK.mP w (ids.map β)) w w') (hp:∀ b o,π b o→π' b o) (hp':∀ b o,π' b o→π b o∨w.heap.size≤b)
    (hpl:∀ b o,π' b o→b < w'.heap.size) (hbx:b7 w' π' css' (ids.map β)) (hd:DV w' π' r v) (ht:∀ t,fr=some t→v9 P w' π' (fun B=>w.heap.size≤B) t v) :
    ∃ τ',RV β τ' w' π' (.dat r (fr.map fun _=>id)) v∧Rel P nt n0 w0 π0 (cV U id) { s with boxes:=cJ ids css' s.boxes,live:=match (generalizing:=false) fr with | some e=>(id,e) :: s.live | none=>s.live } a w' β τ' π':=by
  obtain ⟨hlc,hget⟩:=fh hcs
  have hlen':css'.length=ids.length:=by omega
  have hsz:n0.n≤w.heap.size:=Nat.le_trans R.dm R.below.size
  have hmem:∀ B,B∈ids.map β→∃ b x,b∈ids∧bF b s.boxes=some x∧β b=B:=fun B hB=>by
    obtain ⟨b,hb,e⟩:=List.mem_map.1 hB
    obtain ⟨k,hk⟩:=List.mem_iff_getElem?.1 hb
    obtain ⟨x,hx,_⟩:=hget k b hk
    exact ⟨b,x,hb,hx,e⟩
  have hother:∀ k,k < w.heap.size→k ∉ ids.map β→w'.heap[k]? = w.heap[k]?:=fun k hk hx=>hbel.block k hk hx
  have hnp:∀ B,B∈ids.map β→∀ o,¬ π B o:=fun B hB=>by
    obtain ⟨b,x,_,hx,e⟩:=hmem B hB
    obtain ⟨_,_,⟨_,_,_,_,_,_,hn⟩,_⟩:=R.boxes b x hx
    rw [← e]; exact hn
  have hc:∀ b o,π b o→w'.cell? ⟨b,o,none⟩=w.cell? ⟨b,o,none⟩:=fun b o h =>
    World.cell?_of_block (w:=w) (hother b (R.dn b o h) (fun hm=>hnp b hm o h))
  have hboxlt:∀ b x,bF b s.boxes=some x→β b < w.heap.size:=fun b x h=>R.jV h
  have hold:∀ b x,bF b (cJ ids css' s.boxes)=some x→∃ y,bF b s.boxes=some y:=fun b x h=>by
    rcases oZ hnd hlen' h with ⟨_,_,_,_,_,hy⟩|⟨_,hx⟩
    · exact hy
    · exact ⟨x,hx⟩
  have R1:Rel P nt n0 w0 π0 U { s with boxes:=cJ ids css' s.boxes } a w' β τ π':=by
    refine ⟨R.size,fun t v h=>?_,fun b x h=>?_,fun b b' x x' h h' e=>?_,fun q e h=>?_,R.bl,fun q e b x h h' hB=>?_,R.below.trans ⟨hbel.os,hbel.tape,hbel.output,hbel.size,fun k hk hX=>?_,hbel.others⟩,R.dm,hpl,fun b o h=>hp _ _ (R.dA b o h),fun b o h=>?_,R.kn,R.iu,fun b o h=>(hc b o (R.dA b o h)).trans (R.kept b o h)⟩
    · obtain ⟨⟨x,hx,hv⟩,hu⟩:=R.slots t v h
      exact ⟨⟨x,hx,RV.mono (fun _ _=>rfl) (fun _ _=>rfl) hp hc hu hv⟩,hu⟩
    · rcases oZ hnd hlen' h with ⟨k,cs,h1,h2,rfl,y,hy⟩ | ⟨hni,hx⟩
      · obtain ⟨g1,g2,g3,g4⟩:=R.boxes b y hy
        refine ⟨g1,g2,?_,fun o q hq=>by cases hq⟩
        exact (hbx.get.2 k cs (β b) h2 (by simp [h1])).q7
      · obtain ⟨g1,g2,g3,g4⟩:=R.boxes b x hx
        have hnm:β b ∉ ids.map β:=fun hm=>by
          obtain ⟨b',x',hb',hx',e⟩:=hmem _ hm
          exact hni (R.inj b' b x' x hx' hx e ▸ hb')
        refine ⟨g1,g2,g3.keep (fun _ _=>rfl) g4 (hother _ (hboxlt b x hx) hnm) hp hc (fun o ho=>?_),g4⟩
        rcases hp' _ _ ho with h|h
        · obtain ⟨_,_,_,_,_,_,hn⟩:=g3; exact hn o h
        · have:=hboxlt b x hx; omega
    · obtain ⟨y,hy⟩:=hold b x h
      obtain ⟨y',hy'⟩:=hold b' x' h'
      exact R.inj b b' y y' hy hy' e
    · obtain ⟨h1,h2⟩:=R.live q e h
      refine ⟨h1,h2.keep (fun B hB=>hother B (h2.block hB).2 (fun hm=>?_)) (fun B o hB ho=>?_)⟩
      · obtain ⟨b,x,_,hx,eb⟩:=hmem B hm
        exact R.bV q e b x h hx (by rw [hB,eb])
      · rcases hp' _ _ ho with h | h
        · exact h
        · have:=(h2.block hB).2; omega
    · obtain ⟨y,hy⟩:=hold b x h'
      exact R.bV q e b y h hy hB
    · refine hother k (by omega) (fun hm=>?_)
      obtain ⟨b,x,_,hx,eb⟩:=hmem k hm
      rcases (R.boxes b x hx).2.1 with h|h
      · omega
      · rw [eb] at h; exact hX h.2
    · rcases hp' b o h with h | h
      · exact R.bW b o h
      · exact .inr (.inl (by omega))
  cases fr with
  | none=>exact ⟨τ,⟨hd,fun t h=>by cases h⟩,R1.sub fun _ h=>.inl h⟩
  | some e =>
    have htk:=ht e rfl
    refine ⟨tS τ id v,⟨hd,fun t h=>by cases h; rw [bg]⟩,R1.ng hid (htk.weaken (fun B h=>.inl (Nat.le_trans hsz h))) (fun q e' B hq hB hB'=>?_) (fun b x hb hB'=>?_)⟩
    · have h1:=((R.live q e' hq).2.block hB).2
      have h2:=(htk.block hB').1
      omega
    · obtain ⟨y,hy⟩:=hold b x hb
      have h1:=hboxlt b y hy
      have h2:=(htk.block hB').1
      omega
theorem jW {m:Nat}:∀ {l:List (Nat × bA)} {n:Nat},bF n (mO m l)=if n=m then none else bF n l
 | [],n=>by simp [mO,bF]
 |(k,v) :: r,n=>by
  have ih:=jW (m:=m) (l:=r) (n:=n)
  simp only [mO]
  by_cases hmk:m=k
  ·subst hmk
   simp only [beq_self_eq_true,cond_true,bF,ih]
   by_cases hn:n=m
   ·simp [hn]
   ·have hn':(n == m)=false:=by simpa using hn
    simp [hn,hn']
  ·have hmk':(m == k)=false:=by simpa using hmk
   simp only [hmk',cond_false,bF,ih]
   by_cases hnk:n=k
   ·simp [hnk,Ne.symm hmk]
   ·have hnk':(n == k)=false:=by simpa using hnk
    simp [hnk']
theorem ob {b:Nat} {cs:List AV}:∀ {l:List (Nat × SV)} {t:Nat},lk t (qT b cs l)=(lk t l).map (ki b cs)
 | [],t=>rfl
 |(m,v) :: r,t=>by
  simp only [qT,lk]
  cases h:t == m
  ·simp only [cond_false]; exact ob
  ·rfl
theorem Rel.freeze (R:Rel P nt n0 w0 π0 U s a w β τ π) {b:Nat} {x:bA} (hb:bF b s.boxes=some x) (h4:4≤b) :
  ∃ π':Nat→Nat→Prop,(∀ B o,π B o→π' B o)∧Rel P nt n0 w0 π0 U { s with slots:=qT b x.cells s.slots,boxes:=mO b s.boxes } a w β τ π'∧DV w π' (.ref x.cells) (.pointer (some ⟨β b,0,none⟩)):=by
 obtain ⟨hUb,hokb,hbox,htg⟩:=R.boxes b x hb
 have hlt:=R.jV hb
 have hown:n0.n≤β b:=by rcases hokb with h | h; exact h; exact absurd h.1 (by omega)
 obtain ⟨f,hf,hsc,hdv,_⟩:=hbox.cells
 have hp:∀ B o,π B o→(fun B o=>π B o∨(B=β b∧o < x.cells.length)) B o:=fun _ _ h=>.inl h
 have hin:∀ (j:Nat) (c:AV),x.cells[j]? = some c→j < x.cells.length:=fun j c hc=>(List.getElem?_eq_some_iff.1 hc).1
 have href:∀ d,RV β τ w (fun B o=>π B o∨(B=β b∧o < x.cells.length)) (.rp (x.cells.drop d)) (.pointer (some ⟨β b,d,none⟩)):=by
  intro d
  refine ⟨β b,d,fun j=>f (d + j),rfl,?_,?_,?_,?_⟩<;>intro j c hc<;>rw [List.getElem?_drop] at hc
  ·exact hsc _ _ hc
  ·exact .inr ⟨rfl,hin _ _ hc⟩
  ·exact hf _ (hin _ _ hc)
  ·exact (hdv _ _ hc).mono hp (fun _ _ _=>rfl)
 refine ⟨_,hp,?_,RV.ref.1 (by simpa using href 0)⟩
 have hdel:∀ c y,bF c (mO b s.boxes)=some y→c≠b∧bF c s.boxes=some y:=fun c y h=>by
  rw [jW] at h
  split at h
  ·cases h
  ·rename_i hne; exact ⟨hne,h⟩
 refine ⟨R.size,fun t v h=>?_,fun c y h=>?_,fun c c' y y' h h' e=>R.inj c c' y y' (hdel c y h).2 (hdel c' y' h').2 e,fun q e h=>?_,R.bl,fun q e c y h h' hB=>R.bV q e c y h (hdel c y h').2 hB,R.below,R.dm,fun B o h=>?_,fun B o h=>.inl (R.dA B o h),fun B o h=>?_,R.kn,R.iu,R.kept⟩
 ·simp only [ob,Option.map_eq_some_iff] at h
  obtain ⟨u,hu,rfl⟩:=h
  obtain ⟨⟨y,hy,hr⟩,hi⟩:=R.slots t u hu
  have hm:RV β τ w (fun B o=>π B o∨(B=β b∧o < x.cells.length)) u y:=RV.mono (fun _ _=>rfl) (fun _ _=>rfl) hp (fun _ _ _=>rfl) hi hr
  cases u with
  | dat av q=>exact ⟨⟨y,hy,hm⟩,hi⟩
  | rp cs=>exact ⟨⟨y,hy,hm⟩,hi⟩
  | undef=>exact ⟨⟨y,hy,hm⟩,hi⟩
  | vs _ _ _ _=>exact ⟨⟨y,hy,hm⟩,hi⟩
  | kY _ _ _=>exact ⟨⟨y,hy,hm⟩,hi⟩
  | raw _ _=>exact ⟨⟨y,hy,hm⟩,hi⟩
  | ptr c o =>
   simp only [ki]
   by_cases hcb:c=b
   ·subst hcb
    simp only [beq_self_eq_true,cond_true]
    have e:y=.pointer (some ⟨β c,o,none⟩):=hr
    subst e
    exact ⟨⟨_,hy,href o⟩,trivial⟩
   ·have hcb':(c == b)=false:=by simpa using hcb
    simp only [hcb',cond_false]
    exact ⟨⟨y,hy,hm⟩,hi⟩
 ·obtain ⟨hne,hc⟩:=hdel c y h
  obtain ⟨g1,g2,g3,g4⟩:=R.boxes c y hc
  refine ⟨g1,g2,g3.keep (fun _ _=>rfl) g4 rfl hp (fun _ _ _=>rfl) (fun o ho=>?_),g4⟩
  rcases ho with ho|⟨ho,_⟩
  ·obtain ⟨_,_,_,_,_,_,hn⟩:=g3; exact hn o ho
  ·exact hne (R.inj c b y x hc hb ho)
 ·obtain ⟨h1,h2⟩:=R.live q e h
  refine ⟨h1,h2.keep (fun B hB=>rfl) (fun B o hB ho=>?_)⟩
  rcases ho with ho|⟨ho,_⟩
  ·exact ho
  ·exact absurd (ho ▸ hB) (R.bV q e b x h hb)
 ·rcases h with h | ⟨rfl,_⟩
  ·exact R.dn B o h
  ·exact hlt
 ·rcases h with h | ⟨rfl,_⟩
  ·exact R.bW B o h
  ·exact .inr (.inl hown)
theorem pS {l:List (Nat × bA)} {b:Nat}:∀ {ids:List Nat} {css:List (List AV)},b ∉ ids→aR l ids=some css→aR (mO b l) ids=some css
 | [],css,_,h=>h
 | c :: ids,css,hn,h=>by
  simp only [aR] at h ⊢
  have hne:c≠b:=fun e=>hn (e ▸ List.mem_cons_self ..)
  split at h<;>try (cases h; done)
  rename_i x css' h1 h2
  rw [jW,if_neg hne,h1,pS (fun hm=>hn (List.mem_cons_of_mem _ hm)) h2]
  exact h
theorem Rel.qz:∀ {ids:List Nat} {css:List (List AV)} {s:S} {π:Nat→Nat→Prop},Rel P nt n0 w0 π0 U s a w β τ π→ids.Nodup→gM ids=true→aR s.boxes ids=some css →
  ∃ π':Nat→Nat→Prop,(∀ B o,π B o→π' B o)∧Rel P nt n0 w0 π0 U (eM ids css s) a w β τ π'∧∀ (k:Nat) (b:Nat) (cs:List AV),ids[k]? = some b→css[k]? = some cs→DV w π' (.ref cs) (.pointer (some ⟨β b,0,none⟩))
 | [],css,s,π,R,_,_,h=>by
  simp [aR] at h; subst h
  exact ⟨π,fun _ _ h=>h,R,fun k b cs h=>by simp at h⟩
 | b :: ids,css,s,π,R,hnd,hown,h=>by
  simp only [aR] at h
  split at h<;>try (cases h; done)
  rename_i x css' h1 h2
  cases h
  rw [List.nodup_cons] at hnd
  simp only [gM,Bool.and_eq_true,decide_eq_true_eq] at hown
  obtain ⟨π1,m1,R1,d1⟩:=R.freeze h1 hown.1
  obtain ⟨π2,m2,R2,d2⟩:=Rel.qz R1 hnd.2 hown.2 (pS hnd.1 h2)
  refine ⟨π2,fun B o h=>m2 _ _ (m1 _ _ h),R2,fun k c cs hk hc=>?_⟩
  cases k with
  | zero=>simp at hk hc; subst hk; subst hc; exact d1.mono m2 (fun _ _ _=>rfl)
  | succ k=>exact d2 k c cs (by simpa using hk) (by simpa using hc)
theorem o3 {w:World} {π π':Nat→Nat→Prop} (hp:∀ B o,π B o→π' B o):∀ {pas:List (Option AV)} {css:List (List AV)} {Bs:List Nat} {vs:List Value},dz w π pas Bs vs→css.length=Bs.length →
  (∀ (k:Nat) (cs:List AV) (B:Nat),css[k]? = some cs→Bs[k]? = some B→DV w π' (.ref cs) (.pointer (some ⟨B,0,none⟩)))→fy w π' (ir pas css) vs
 | [],css,Bs,vs,h,_,_=>by
  have:vs=[]:=by cases Bs<;>cases vs<;>first | rfl | exact h.elim
  subst this
  have:ir [] css=[]:=by cases css<;>rfl
  rw [this]; exact .nil _ _
 | some av :: pas,css,Bs,[],h,_,_=>by cases Bs<;>exact h.elim
 | some av :: pas,css,Bs,v :: vs,h,hl,hr=>by
  have h':DV w π av v∧dz w π pas Bs vs:=by cases Bs<;>exact h
  have e:ir (some av :: pas) css=av :: ir pas css:=by cases css<;>rfl
  rw [e]
  exact .cons (h'.1.mono hp (fun _ _ _=>rfl)) (o3 hp h'.2 hl hr)
 | none :: pas,css,[],vs,h,_,_=>by cases vs<;>exact h.elim
 | none :: pas,css,B :: Bs,[],h,_,_=>h.elim
 | none :: pas,[],B :: Bs,v :: vs,h,hl,_=>by simp at hl
 | none :: pas,cs :: css,B :: Bs,v :: vs,h,hl,hr=>by
  obtain ⟨rfl,h2⟩:=h
  exact .cons (hr 0 cs B rfl rfl) (o3 hp h2 (by simpa using hl) (fun k cs B h1 h2=>hr (k + 1) cs B (by simpa using h1) (by simpa using h2)))
theorem tW:∀ {ids:List Nat} {css:List (List AV)} {s:S},(eM ids css s).live=s.live
 | [],css,s=>by cases css<;>rfl
 | b :: ids,[],s=>rfl
 | b :: ids,cs :: css,s=>tW (ids:=ids) (css:=css)
theorem nh (z:Nat):∀ (n:Nat) (cs:List AV),(bG z n cs).length=n
 | 0,_=>rfl
 | n + 1,cs=>by simp [bG,nh z n]
theorem o4 (z:Nat):∀ (n:Nat) (cs:List AV) (i:Nat) (r:List AV),(bG z n cs)[i]? = some r→i < n∧r=(cs.drop (i * z)).take z
 | 0,_,i,r,h=>by simp [bG] at h
 | n + 1,cs,0,r,h=>by simp only [bG,List.getElem?_cons_zero,Option.some.injEq] at h; subst h; simp
 | n + 1,cs,i + 1,r,h=>by
  simp only [bG,List.getElem?_cons_succ] at h
  obtain ⟨h1,h2⟩:=o4 z n _ i r h
  refine ⟨by omega,?_⟩
  rw [h2,List.drop_drop]
  congr 2
  rw [Nat.succ_mul,Nat.add_comm]
theorem A0 {π:Nat→Nat→Prop} {cs:List AV} {B o:Nat} (h:DV w π (.ref cs) (.pointer (some ⟨B,o,none⟩))) {off n z:Nat} (hn:n * z≤(cs.drop off).length):DV w π (.sl (bG z n (cs.drop off))) (.slice (some ⟨B,o + off,none⟩) n n):=by
 cases h with
 | ref _ _ _ f h1 h2 h3 h4 =>
  have hget:∀ (i j:Nat) (r:List AV) (a:AV),(bG z n (cs.drop off))[i]? = some r→r[j]? = some a→cs[off + (i * z + j)]? = some a:=by
   intro i j r a hi hj
   obtain ⟨_,rfl⟩:=o4 z n _ i r hi
   rw [List.getElem?_take] at hj
   split at hj
   ·rw [List.getElem?_drop,List.getElem?_drop] at hj; rw [← hj]
   ·cases hj
  have e:∀ i j,o + off + i * z + j=o + (off + (i * z + j)):=fun i j=>by omega
  have hl:=nh z n (cs.drop off)
  have key:=DV.sl (w:=w) (π:=π) (bG z n (cs.drop off)) B (o + off) n z (fun i j=>f (off + (i * z + j))) (by omega) (fun i r hi=>?_) (fun i j r a hi hj=>h1 _ _ (hget i j r a hi hj)) (fun i j r a hi hj=>by rw [e]; exact h2 _ _ (hget i j r a hi hj)) (fun i j r a hi hj=>by rw [e]; exact h3 _ _ (hget i j r a hi hj)) (fun i j r a hi hj=>h4 _ _ (hget i j r a hi hj))
  ·rw [hl] at key; exact key
  ·obtain ⟨hin,rfl⟩:=o4 z n _ i r hi
   have:(i + 1) * z≤n * z:=Nat.mul_le_mul_right _ hin
   rw [Nat.succ_mul] at this
   simp only [List.length_take,List.length_drop] at hn ⊢
   omega
theorem yH {t:TypeId} {n e z B off:Nat} (ht:P.underlying t=some (.array n e)) (hz:dc P e=some z) :
  (Instr.sliceAt t (.pointer (some ⟨B,off,none⟩)) none none none).run P w=.ok (.slice (some ⟨B,off,none⟩) n n) w:=by
 simp [Instr.sliceAt,run_underlying ht,Instr.sureAddr,Instr.sliceBounds,cz hz,Addr.add]
theorem Dj {t:TypeId} {n e z B off:Nat} (ht:P.underlying t=some (.array n e)) (hz:dc P e=some z) {k:IntKind} {j:Int} (h0:0≤j) (h1:j≤n) :
  (Instr.sliceAt t (.pointer (some ⟨B,off,none⟩)) none (some (.int k j)) none).run P w=.ok (.slice (some ⟨B,off,none⟩) j.toNat n) w:=by
 have hH:=run_sliceBound (P:=P) w k j n .sliceAlen h0 h1
 simp [Instr.sliceAt,run_underlying ht,Instr.sureAddr,Instr.sliceBounds,cz hz,Addr.add,hH]
def zG:AV→Value
 | .float _ r=>.float .f64 r
 | _=>undef
def Ge (b:Nat):Ieee.Datum→Sem Value
 | .nan s t=>if FloatKind.f64.format.quiet t=t then pure (.float .f64 b) else do
   let kept ← choose (.extern "math.Floor,Ceil,Trunc,RoundToEven.signallingNaN kept" 2)
   pure (.float .f64 (if kept == 1 then b else FloatKind.f64.encode (.nan s (FloatKind.f64.format.quiet t))))
 | d=>pure (.float .f64 (FloatKind.f64.encode (d.integral .even)))
def Dk (b:Nat):Ieee.Datum→Option AV
 | .nan _ t=>if FloatKind.f64.format.quiet t=t then some (.float .f64 b) else none
 | d=>some (.float .f64 (FloatKind.f64.encode (d.integral .even)))
theorem A4 {π:Nat→Nat→Prop} {b:Nat} {v:AV}:∀ {d:Ieee.Datum},Dk b d=some v→(Ge b d).run P w=.ok (zG v) w∧DV w π v (zG v)
 | .nan s t,h=>by
  simp only [Dk] at h
  split at h<;>try (cases h; done)
  rename_i hq
  cases h
  simp only [Ge,hq,if_true]
  exact ⟨rfl,.float _ _⟩
 | .number s m i,h=>by cases h; exact ⟨rfl,.float _ _⟩
 | .infinity s,h=>by cases h; exact ⟨rfl,.float _ _⟩
theorem Dl {π : Nat → Nat → Prop} {b : Nat} {v : AV} (h : C5 b = some v) : ((Extern.MathFloor.toIntegral "math.RoundToEven" .even) #[.float .f64 b]).run P w = .ok (zG v) w ∧ DV w π v (zG v) :=
 by
 have hto : Extern.MathFloor.toIntegral "math.RoundToEven" .even #[.float .f64 b] = Ge b (FloatKind.f64.decode b) := by
  show ((match FloatKind.f64.decode b with
      | .nan s t=>if FloatKind.f64.format.quiet t=t then pure (.float .f64 b) else do
        let kept ← choose (.extern "math.Floor,Ceil,Trunc,RoundToEven.signallingNaN kept" 2)
        pure (.float .f64 (if kept == 1 then b else FloatKind.f64.encode (.nan s (FloatKind.f64.format.quiet t))))
      | d=>pure (.float .f64 (FloatKind.f64.encode (d.integral .even)))):Sem Value)=_
  generalize FloatKind.f64.decode b=d
  cases d<;>rfl
 have hta:Dk b (FloatKind.f64.decode b)=some v:=by
  rw [← h]
  show Dk b (FloatKind.f64.decode b)=((match FloatKind.f64.decode b with
   | .nan _ t=>if FloatKind.f64.format.quiet t=t then some (.float .f64 b) else none
   | d=>some (.float .f64 (FloatKind.f64.encode (d.integral .even)))):Option AV)
  generalize FloatKind.f64.decode b=d
  cases d<;>rfl
 rw [hto]
 exact A4 hta
theorem Gf {f:FuncId} {e:Xt} (he:F6 P f=some e) {a v:AV} {x:Value} (hv:IS e a=some v) (hd:DV w π a x):∃ u,(callFunc f #[x]).run P w=.ok (.value u) w∧DV w π v u:=by
 unfold F6 at he
 split at he<;>try (cases he; done)
 rename_i fn hf
 split at he<;>try (cases he; done)
 rename_i hb
 simp only [Bool.and_eq_true] at hb
 have hb1:fn.body=none:=by simpa using hb.1
 have hb2:Extern.findNext fn=none:=by simpa using hb.2
 split at he
 ·rename_i hn
  have hn:=eq_of_beq hn
  cases he
  have hfi:Extern.find fn=some Extern.MathFloatBits.float64bits:=by unfold Extern.find; rw [hn]; rfl
  cases a<;>try (cases hv; done)
  rename_i k b
  cases k<;>cases hv
  cases hd
  refine ⟨.int .u64 b,?_,.int _ _⟩
  rw [run_callFunc_extern hf (by rw [hn]; rfl) (by rw [hb1]; rfl) hb2 hfi]
  rfl
 ·split at he
  ·rename_i hn
   have hn:=eq_of_beq hn
   cases he
   have hfi:Extern.find fn=some Extern.MathFloatBits.float64frombits:=by unfold Extern.find; rw [hn]; rfl
   cases a<;>try (cases hv; done)
   rename_i k b
   cases k<;>cases hv
   cases hd
   refine ⟨.float .f64 b.toNat,?_,.float _ _⟩
   rw [run_callFunc_extern hf (by rw [hn]; rfl) (by rw [hb1]; rfl) hb2 hfi]
   rfl
  ·split at he<;>try (cases he; done)
   rename_i hn
   have hn:=eq_of_beq hn
   cases he
   have hfi : Extern.find fn = some (Extern.MathFloor.toIntegral "math.RoundToEven" .even) := by unfold Extern.find; rw [hn]; rfl
   cases a<;>try (cases hv; done)
   rename_i k b
   cases k<;>try (cases hv; done)
   cases hd
   have hv:C5 b=some v:=hv
   have hrun : ((Extern.MathFloor.toIntegral "math.RoundToEven" .even) #[.float .f64 b]).run P w = .ok (zG v) w ∧ DV w π v (zG v) := by
    exact Dl hv
   refine ⟨_,?_,hrun.2⟩
   rw [run_callFunc_extern hf (by rw [hn]; rfl) (by rw [hb1]; rfl) hb2 hfi,hrun.1]
   rfl
theorem dG {f:Nat} (hc:b8 P f=true) (args:Array Value):(callFunc f args).run P w=.ok (.enter f args) w:=by
 unfold b8 at hc
 split at hc
 ·rename_i fn hfn
  simp only [Bool.and_eq_true,bne_iff_ne,ne_eq] at hc
  obtain ⟨b,hb⟩:=Option.isSome_iff_exists.1 hc.2
  simp [callFunc,hfn,hc.1,hb]
 ·cases hc
theorem mA (R:Rel P nt n0 w0 π0 U s a w β τ π) {o:Oper} {c:aZ} {id:Nat} (hid:¬ U id) (hc:Fv P o.op=some c) {K:SV→S→Prop} (h:aV (Pure P) id c K s) {next:Act→World→Prop} {Q:Exit→Act→World→Prop}
    (hn:∀ v s' x w' β' τ' π',K v s'→RV β' τ' w' π' v x→v.dW (cV U id)→Rel P nt n0 w0 π0 (cV U id) s' a w' β' τ' π'→next (a.put o.dst x) w'):o.wp P a w next Q:=by
  obtain ⟨dst,op,type,pos,after,guard⟩:=o
  simp only at hc
  have hsub:∀ n,U n→cV U id n:=fun n h=>.inl h
  have hdat:∀ (v:AV),(SV.dat v none).dW (cV U id):=fun _=>trivial
  -- a value,nothing else
  have fin:∀ {v:SV} {y:Value},(execOp a.eval ⟨dst,op,type,pos,after,guard⟩).run P w=.ok (.value y) w→RV β τ w π v y→v.dW U→K v s→Oper.wp P ⟨dst,op,type,pos,after,guard⟩ a w next Q:=by
    intro v y hr hv hu hK
    unfold Oper.wp
    rw [hr]
    exact hn v s y w β τ π hK hv (SV.lF hsub hu) (R.sub hsub)
  have find:∀ {v:AV} {y:Value},(execOp a.eval ⟨dst,op,type,pos,after,guard⟩).run P w=.ok (.value y) w→DV w π v y→K (.dat v none) s→Oper.wp P ⟨dst,op,type,pos,after,guard⟩ a w next Q :=
    fun {v y} hr hv hK=>fin (v:=.dat v none) hr ⟨hv,fun t ht=>by cases ht⟩ trivial hK
  cases op<;>simp only [Fv] at hc<;>try (cases hc; done)
  case move x =>
    simp only [Option.map_eq_some_iff] at hc
    obtain ⟨x',hx,rfl⟩:=hc
    simp only [aV] at h
    obtain ⟨v,hv,hK⟩:=af h
    obtain ⟨hr,hu⟩:=R.bw hx hv
    exact fin rfl hr hu hK
  case assign x =>
    simp only [Option.map_eq_some_iff] at hc
    obtain ⟨x',hx,rfl⟩:=hc
    simp only [aV] at h
    obtain ⟨v,hv,hK⟩:=af h
    obtain ⟨hr,hu⟩:=R.bw hx hv
    exact fin rfl hr hu hK
  case pick cc aa bb =>
    split at hc<;>try (cases hc; done)
    rename_i c' a' b' h1 h2 h3
    cases hc
    simp only [aV] at h
    obtain ⟨t,ht,h⟩:=af h
    have hd:=R.ax h1 ht
    cases t<;>try (exact h.elim)
    rename_i t
    obtain ⟨u,hu,h⟩:=af h
    obtain ⟨v,hv,hK1,hK2⟩:=af h
    have hb:=hd.nY
    obtain ⟨ra,ua⟩:=R.bw h2 hu
    obtain ⟨rb,ub⟩:=R.bw h3 hv
    cases t
    · exact fin (by simp [execOp,hb,asBool]) rb ub (hK2 rfl)
    · exact fin (by simp [execOp,hb,asBool]) ra ua (hK1 rfl)
  case alloc t =>
    simp only [Option.map_eq_some_iff] at hc
    obtain ⟨zs,hz,rfl⟩:=hc
    simp only [aV] at h
    obtain ⟨z,hzr,hzd,hzs⟩:=qY (P:=P) (w:=w) (π:=π) hz
    have hr:(execOp a.eval ⟨dst,.alloc t,type,pos,after,guard⟩).run P w=.ok (.value (.pointer (some ⟨w.heap.size,0,none⟩))) (w.alloc (.cells z.cells t)):=by
      simp [execOp,Instr.alloc,hzr,newVar,Go.newRow]
    unfold Oper.wp
    rw [hr]
    exact hn _ _ _ _ _ _ _ h (show RV (tS β id w.heap.size) τ _ π (.ptr id 0) _ by simp [RV,bg]) (.inr rfl) (R.AT hid t hzd hzs)
  case box t x =>
    simp only [Option.map_eq_some_iff] at hc
    obtain ⟨x',hx,rfl⟩:=hc
    simp only [aV] at h
    obtain ⟨av,hv,h⟩:=af h
    have hd:=R.ax hx hv
    have hr:(execOp a.eval ⟨dst,.box t x,type,pos,after,guard⟩).run P w=.ok (.value (.pointer (some ⟨w.heap.size,0,none⟩))) (w.alloc (.cells (a.eval x).cells t)):=by
      simp [execOp,Instr.box,newVar,Go.newRow]
    obtain ⟨hok,hK⟩:=h
    obtain ⟨hcd,hcs⟩:=hd.cells (fun vs e=>by subst e; simp [eK] at hok)
    unfold Oper.wp
    rw [hr]
    exact hn _ _ _ _ _ _ _ hK (show RV (tS β id w.heap.size) τ _ π (.ptr id 0) _ by simp [RV,bg]) (.inr rfl) (R.AT hid t hcd hcs)
  case build t ps =>
    split at hc<;>try (cases hc; done)
    rename_i zs ps' hz hps
    split at hc<;>try (cases hc; done)
    rename_i hfit
    cases hc
    simp only [Bool.and_eq_true] at hfit
    obtain ⟨v,y,hr,hv,hu,hK⟩:=R.build hz hps hfit.1 hfit.2 h
    exact fin (by simp only [execOp,Sem.run_bind,hr,Result.andThen_ok,Sem.run_pure]) hv hu hK
  case buildSlice t n ps =>
    split at hc<;>try (cases hc; done)
    rename_i e ht
    split at hc<;>try (cases hc; done)
    rename_i zs z xs hz hsz hxs
    split at hc<;>try (cases hc; done)
    rename_i hok
    cases hc
    obtain ⟨v,y,s',w',τ',π',hr,hv,hu,hK,R'⟩:=R.buildSlice ht hz hsz hxs hok hid h
    unfold Oper.wp
    have:(execOp a.eval ⟨dst,.buildSlice t n ps,type,pos,after,guard⟩).run P w=.ok (.value y) w':=by simp only [execOp,Sem.run_bind,hr,Result.andThen_ok,Sem.run_pure]
    rw [this]
    exact hn v s' y w' β τ' π' hK hv hu R'
  case load t x =>
    split at hc<;>try (cases hc; done)
    rename_i r x' hr hx
    cases hc
    obtain ⟨v,y,hr,hv,hu,hK⟩:=R.load hx hr h
    exact fin (by simp only [execOp,Sem.run_bind,hr,Result.andThen_ok,Sem.run_pure]) hv hu hK
  case store t x v =>
    split at hc<;>try (cases hc; done)
    rename_i z x' v' hz hx hv
    cases hc
    obtain ⟨s',w',hr,hK,R'⟩:=R.store hx hv hz h
    unfold Oper.wp
    have:(execOp a.eval ⟨dst,.store t x v,type,pos,after,guard⟩).run P w=.ok .skip w':=by simp only [execOp,Sem.run_bind,hr,Result.andThen_ok,Sem.run_pure]
    rw [this]
    exact hn .undef s' undef w' β τ π hK rfl trivial (R'.sub hsub)
  case nilCheck x =>
    simp only [Option.map_eq_some_iff] at hc
    obtain ⟨x',hx,rfl⟩:=hc
    simp only [aV] at h
    obtain ⟨v,hv,h⟩:=af h
    obtain ⟨hr,hu⟩:=R.bw hx hv
    cases v with
    | ptr b o =>
      have he:a.eval x=.pointer (some ⟨β b,o,none⟩):=hr
      exact fin (v:=.ptr b o) (by simp [execOp,he]) (show RV β τ w π (.ptr b o) (.pointer (some ⟨β b,o,none⟩)) from rfl) hu h
    | rp cs =>
      obtain ⟨B,off,f,he,hrest⟩:=hr
      exact fin (v:=.rp cs) (by simp [execOp,he]) (show RV β τ w π (.rp cs) (.pointer (some ⟨B,off,none⟩)) from ⟨B,off,f,rfl,hrest⟩) trivial h
    | undef=>exact h.elim
    | vs _ _ _ _=>exact h.elim
    | kY _ _ _=>exact h.elim
    | raw _ _=>exact h.elim
    | dat av q =>
      cases av<;>try (exact h.elim)
      case ref cs =>
        obtain ⟨B,off,f,he,hrest⟩:=(RV.ref (β:=β) (τ:=τ)).2 hr.1
        exact fin (v:=.rp cs) (by simp [execOp,he]) (show RV β τ w π (.rp cs) (.pointer (some ⟨B,off,none⟩)) from ⟨B,off,f,rfl,hrest⟩) trivial h
      rename_i fn as bs
      cases fn<;>try (exact h.elim)
      rename_i f
      have hr':=hr
      obtain ⟨hd,htag⟩:=hr
      generalize hvx:a.eval x=y at hd hr'
      cases hd
      exact fin (by simp [execOp,hvx]) hr' hu h
  case binOp op t x y yt =>
    split at hc<;>try (cases hc; done)
    rename_i x' y' hx hy
    split at hc
    · rename_i hsc
      cases hc
      simp only [aV] at h
      obtain ⟨av,hav,h⟩:=af h
      obtain ⟨bv,hbv,h⟩:=af h
      obtain ⟨v,hv,hK⟩:=af h
      obtain ⟨u,w',hw',hu,hd⟩:=Dc (P:=P) (X:=x) (Y:=y) hsc hv (R.ax hx hav) (R.ax hy hbv)
      rcases hw' with rfl|rfl
      · exact find (by simp only [execOp]; rw [Sem.run_bind,hu]; rfl) hd hK
      · have hr:(execOp a.eval ⟨dst,.binOp op t x y yt,type,pos,after,guard⟩).run P w=.ok (.value u) w.drew:=by
          simp only [execOp]; rw [Sem.run_bind,hu]; rfl
        unfold Oper.wp
        rw [hr]
        exact hn (.dat v none) _ _ _ _ _ _ hK ⟨Fy.dv (Or.inr rfl) hd,fun t ht=>by cases ht⟩ trivial (R.draw.sub hsub)
    · split at hc
      · rename_i hbb
        have key:∀ neg,((op=.eql∧neg=false)∨(op=.neq∧neg=true))→c=.bb neg x' y'→Oper.wp P ⟨dst,.binOp op t x y yt,type,pos,after,guard⟩ a w next Q:=by
          intro neg hop e
          subst e
          simp only [aV] at h
          obtain ⟨av,hav,h⟩:=af h
          obtain ⟨bv,hbv,h⟩:=af h
          obtain ⟨v,hv,hK⟩:=af h
          obtain ⟨u,hu,hd⟩:=Ga (P:=P) (X:=x) (Y:=y) hop hbb hv (R.ax hx hav) (R.ax hy hbv)
          exact find (by simp only [execOp]; rw [Sem.run_bind,hu]; rfl) hd hK
        split at hc<;>try (cases hc; done)
        · cases hc; exact key false (.inl ⟨rfl,rfl⟩) rfl
        · cases hc; exact key true (.inr ⟨rfl,rfl⟩) rfl
      split at hc
      · rename_i hsl
        have key:∀ neg,((op=.eql∧neg=false)∨(op=.neq∧neg=true))→y'=.k .aN→c=.F3 neg x'→Oper.wp P ⟨dst,.binOp op t x y yt,type,pos,after,guard⟩ a w next Q:=by
          intro neg hop ey e
          subst e ey
          simp only [aV] at h
          obtain ⟨av,hav,h⟩:=af h
          obtain ⟨b,hb,hK⟩:=af h
          have hr:=Di (P:=P) (X:=x) (Y:=y) hop hsl hb (R.ax hx hav) (R.ax (v:=.aN) hy rfl)
          exact find (by simp only [execOp]; rw [Sem.run_bind,hr]; rfl) (.bool _) hK
        split at hc<;>try (cases hc; done)
        · cases hc; exact key false (.inl ⟨rfl,rfl⟩) rfl rfl
        · cases hc; exact key true (.inr ⟨rfl,rfl⟩) rfl rfl
      · have key:∀ neg,((op=.eql∧neg=false)∨(op=.neq∧neg=true))→L9 P t neg x' y'=some c→Oper.wp P ⟨dst,.binOp op t x y yt,type,pos,after,guard⟩ a w next Q:=by
          intro neg hop he
          unfold L9 at he
          split at he<;>try (cases he; done)
          rename_i ks hk
          split at he<;>try (cases he; done)
          rename_i hg
          cases he
          simp only [aV] at h
          obtain ⟨av,hav,h⟩:=af h
          cases av<;>try (exact h.elim)
          obtain ⟨bv,hbv,h⟩:=af h
          cases bv<;>try (exact h.elim)
          obtain ⟨e,he,hK⟩:=af h
          have hr:=Dh (P:=P) (X:=x) (Y:=y) hop hk hg (R.ax hx hav) (R.ax hy hbv) he
          exact find (by simp only [execOp]; rw [Sem.run_bind,hr]; rfl) (.bool _) hK
        split at hc<;>try (cases hc; done)
        · exact key false (.inl ⟨rfl,rfl⟩) hc
        · exact key true (.inr ⟨rfl,rfl⟩) hc
  case unOp op t x =>
    simp only [Option.map_eq_some_iff] at hc
    obtain ⟨x',hx,rfl⟩:=hc
    simp only [aV] at h
    obtain ⟨av,hav,h⟩:=af h
    obtain ⟨v,hv,hK⟩:=af h
    obtain ⟨u,hu,hd⟩:=Gb (P:=P) hv (R.ax hx hav)
    exact find (by simp only [execOp,Sem.run_bind,hu,Result.andThen_ok,Sem.run_pure]) hd hK
  case convert sr ds x =>
    simp only [Option.bind_eq_some_iff] at hc
    obtain ⟨x',hx,hc⟩:=hc
    have hcc:=hc
    have key:∀ {av v:AV},Eng.ax s x'=some av→((∃ k,c=.kg k x'∧tP k av=some v)∨(∃ k,c=.tv k x'∧qQ k av=some v)∨(∃ k,c=.xu k x'∧vX k av=some v))→K (.dat v none) s→Oper.wp P ⟨dst,.convert sr ds x,type,pos,after,guard⟩ a w next Q:=by
      intro av v hav hor hK
      obtain ⟨u,hu,hd⟩:=AY (P:=P) (X:=x) hcc (R.ax hx hav) hor
      exact find (by simp only [execOp,Sem.run_bind,hu,Result.andThen_ok,Sem.run_pure]) hd hK
    unfold yz at hc
    split at hc<;>try (cases hc; done)
    all_goals
      cases hc
      simp only [aV] at h
      obtain ⟨av,hav,h⟩:=af h
      obtain ⟨v,hv,hK⟩:=af h
      first
        | exact key hav (.inl ⟨_,rfl,hv⟩) hK
        | exact key hav (.inr (.inl ⟨_,rfl,hv⟩)) hK
        | exact key hav (.inr (.inr ⟨_,rfl,hv⟩)) hK
  case makeFunc fn first caps =>
    cases fn<;>simp only [] at hc<;>try (cases hc; done)
    rename_i f
    split at hc<;>try (cases hc; done)
    rename_i as bs h1 h2
    split at hc<;>try (cases hc; done)
    cases hc
    simp only [aV] at h
    obtain ⟨xs,hxs,h⟩:=af h
    obtain ⟨⟨pas,ids⟩,hsv,hok,h⟩:=af h
    obtain ⟨css,hcs,hK⟩:=af h
    simp only [Bool.and_eq_true] at hok
    have d1:=R.bQ (by simpa [eG] using h1) hxs
    have d2:=R.bZ (by simpa [eG] using h2) hsv
    obtain ⟨π',hp,R',href⟩:=Rel.qz R (d6 hok.1) hok.2 hcs
    have hlc:=(fh hcs).1
    have d3:=o3 hp d2 (by simpa using hlc) (fun k cs B h1 h2=>by
      rw [List.getElem?_map,Option.map_eq_some_iff] at h2
      obtain ⟨b,hb,rfl⟩:=h2
      exact href k b cs hb h1)
    have d1':=d1.mono hp (fun _ _ _=>rfl)
    have hr:(execOp a.eval ⟨dst,.makeFunc (.func f) first caps,type,pos,after,guard⟩).run P w=.ok (.value (.func (.func f) (first.map a.eval) (caps.map a.eval))) w:=by simp [execOp,Instr.makeFunc]
    unfold Oper.wp
    rw [hr]
    refine hn (.dat (.fn (.func f) xs (ir pas css)) none) _ _ _ _ _ _ hK ⟨?_,fun t ht=>by cases ht⟩ trivial (R'.sub hsub)
    exact .fn _ _ _ _ _ (by simpa using d1'.1) (by simpa using d3.1) (fun i x v hx hv=>d1'.2 i x v hx (by simpa using hv)) (fun i x v hx hv=>d3.2 i x v hx (by simpa using hv))
  case slice t x lo hi mx =>
    cases mx<;>simp only [] at hc<;>try (cases hc; done)
    split at hc<;>try (cases hc; done)
    · rename_i e x' lo' hi' ht hx hl hh
      simp only [Option.map_eq_some_iff] at hc
      obtain ⟨z,hz,rfl⟩:=hc
      obtain ⟨v,y,hr,hv,hu,hK⟩:=R.slice ht hz hx hl hh h
      exact fin (by simp only [execOp,Sem.run_bind,Option.map_none,hr,Result.andThen_ok,Sem.run_pure]) hv hu hK
    · rename_i n e x' ht hx hl hh
      simp only [Option.map_eq_some_iff] at hc
      obtain ⟨z,hz,rfl⟩:=hc
      have e1:lo=none:=by cases lo with | none=>rfl | some y=>simp [cOpt] at hl
      have e2:hi=none:=by cases hi with | none=>rfl | some y=>simp [cOpt] at hh
      subst e1 e2
      simp only [aV] at h
      obtain ⟨v,hv,h⟩:=af h
      have hrv:=(R.bw hx hv).1
      cases v<;>try (exact h.elim)
      · rename_i b off
        obtain ⟨h4,h⟩:=h
        obtain ⟨bx,hb,hlen,hK⟩:=af h
        have he:a.eval x=.pointer (some ⟨β b,off,none⟩):=hrv
        have hcs:aR s.boxes [b]=some [bx.cells]:=by simp [aR,hb]
        obtain ⟨π',hp,R',href⟩:=Rel.qz R (ids:=[b]) (by simp) (by simp [gM,h4]) hcs
        have hr:(execOp a.eval ⟨dst,.slice t x none none none,type,pos,after,guard⟩).run P w=.ok (.value (.slice (some ⟨β b,off,none⟩) n n)) w:=by
          simp only [execOp,Option.map_none,he,Sem.run_bind,yH ht hz,Result.andThen_ok,Sem.run_pure]
        unfold Oper.wp
        rw [hr]
        refine hn _ _ _ _ _ _ _ hK ⟨?_,fun t ht=>by cases ht⟩ trivial (R'.sub hsub)
        have:=A0 (href 0 b bx.cells rfl rfl) hlen
        simpa using this
      · rename_i cs
        obtain ⟨hlen,hK⟩:=h
        obtain ⟨B,o,f,he,h1,h2,h3,h5⟩:=hrv
        have hd:DV w π (.ref cs) (.pointer (some ⟨B,o,none⟩)):=.ref cs B o f h1 h2 h3 h5
        have:=A0 (off:=0) hd (by simpa using hlen)
        refine find ?_ (by simpa using this) hK
        have he:a.eval x=.pointer (some ⟨B,o,none⟩):=he
        simp only [execOp,Option.map_none,he,Sem.run_bind,yH ht hz,Result.andThen_ok,Sem.run_pure]
    · rename_i n e x' hi' ht hx hl hh
      simp only [Option.map_eq_some_iff] at hc
      obtain ⟨z,hz,rfl⟩:=hc
      have e1:lo=none:=by cases lo with | none=>rfl | some y=>simp [cOpt] at hl
      subst e1
      cases hi with
      | none=>simp [cOpt] at hh
      | some hi =>
        simp only [cOpt,Option.map_eq_some_iff,Option.some.injEq,exists_eq_right] at hh
        simp only [aV] at h
        obtain ⟨v,hv,h⟩:=af h
        have hrv:=(R.bw hx hv).1
        have hru:=(R.bw hx hv).2
        cases v<;>try (exact h.elim)
        rename_i b off
        obtain ⟨b1,hb1,h⟩:=af h
        obtain ⟨j,hj,⟨h0,h1⟩,hK⟩:=af h
        obtain ⟨k,hk⟩:=R.idx hh hb1 hj
        have he:a.eval x=.pointer (some ⟨β b,off,none⟩):=hrv
        have hr:(execOp a.eval ⟨dst,.slice t x none (some hi) none,type,pos,after,guard⟩).run P w=.ok (.value (.slice (some ⟨β b,off,none⟩) j.toNat n)) w:=by
          simp only [execOp,Option.map_none,Option.map_some,he,hk,Sem.run_bind,Dj ht hz h0 h1,Result.andThen_ok,Sem.run_pure]
        exact fin (v:=.vs b off j.toNat z) hr ⟨n,by omega,rfl⟩ hru hK
  case fieldAddr t x f =>
    split at hc<;>try (cases hc; done)
    rename_i fd x' hf hx
    split at hc<;>try (cases hc; done)
    rename_i hz
    cases hc
    obtain ⟨v,y,hr,hv,hu,hK⟩:=R.fieldAddr hx hf hz h
    exact fin (by simp only [execOp,Sem.run_bind,hr,Result.andThen_ok,Sem.run_pure]) hv hu hK
  case field t x f =>
    split at hc<;>try (cases hc; done)
    rename_i fd x' hf hx
    simp only [Option.map_eq_some_iff] at hc
    obtain ⟨r,hr,rfl⟩:=hc
    simp only [aV] at h
    obtain ⟨av,hav,h⟩:=af h
    have hd:=R.ax hx hav
    cases av<;>try (exact h.elim)
    rename_i cs
    obtain ⟨v,hv,hK⟩:=af h
    unfold nV at hf
    split at hf<;>try (cases hf; done)
    rename_i fs hu
    generalize he:a.eval x=u at hd
    cases hd with
    | agg _ us h1 h2 h3 =>
      obtain ⟨u,hpu,hdu⟩:=wk (P:=P) hr h1 h2 h3 hv
      exact find (by simp [execOp,he,Instr.field,asAgg,run_underlying hu,hf,hpu]) hdu hK
  case indexAddr t x i =>
    split at hc<;>try (cases hc; done)
    · rename_i n e x' i' ht hx hi
      simp only [Option.map_eq_some_iff] at hc
      obtain ⟨z,hz,rfl⟩:=hc
      obtain ⟨v,y,hr,hv,hu,hK⟩:=R.AZ hx hi ht hz h
      exact fin (by simp only [execOp,Sem.run_bind,hr,Result.andThen_ok,Sem.run_pure]) hv hu hK
    · rename_i e x' i' ht hx hi
      simp only [Option.map_eq_some_iff] at hc
      obtain ⟨z,hz,rfl⟩:=hc
      obtain ⟨v,y,hr,hv,hu,hK⟩:=R.Dg hx hi ht hz h
      exact fin (by simp only [execOp,Sem.run_bind,hr,Result.andThen_ok,Sem.run_pure]) hv hu hK
  case index t x i =>
    split at hc<;>try (cases hc; done)
    rotate_left
    · rename_i x' i' ht hx hi
      cases hc
      simp only [aV] at h
      obtain ⟨av,hav,h⟩:=af h
      have hd:=R.ax hx hav
      cases av<;>try (exact h.elim)
      rename_i bs
      obtain ⟨b,hb,h⟩:=af h
      obtain ⟨j,hj,h⟩:=af h
      obtain ⟨v,hv,hK⟩:=af h
      obtain ⟨k,hk⟩:=R.idx hi hb hj
      generalize he:a.eval x=u at hd
      cases hd
      unfold yo at hv
      split at hv<;>try (cases hv; done)
      rename_i hlt
      cases hv
      exact find (by simp [execOp,he,Instr.index,hk,asIntOf,run_underlying ht,hlt]) (.int _ _) hK
    rename_i n e x' i' ht hx hi
    split at hc<;>try (cases hc; done)
    rename_i z r hz hr
    cases hc
    simp only [aV] at h
    obtain ⟨av,hav,h⟩:=af h
    have hd:=R.ax hx hav
    cases av<;>try (exact h.elim)
    rename_i cs
    obtain ⟨b,hb,h⟩:=af h
    obtain ⟨j,hj,h⟩:=af h
    obtain ⟨hlt,h⟩:=h
    obtain ⟨v,hv,hK⟩:=af h
    obtain ⟨k,hk⟩:=R.idx hi hb hj
    have hsz:=cz (w:=w) hz
    generalize he:a.eval x=u at hd
    cases hd with
    | agg _ us h1 h2 h3 =>
      obtain ⟨u,hpu,hdu⟩:=wk (P:=P) hr h1 h2 h3 hv
      exact find (by simp [execOp,he,Instr.index,hk,asIntOf,run_underlying ht,hlt,hsz,hpu]) hdu hK
  case extract x i =>
    simp only [Option.map_eq_some_iff] at hc
    obtain ⟨x',hx,rfl⟩:=hc
    simp only [aV] at h
    obtain ⟨av,hav,h⟩:=af h
    obtain ⟨v,hv,hK⟩:=af h
    obtain ⟨u,hu,hd⟩:=De (P:=P) hv (R.ax hx hav)
    exact find (by simp only [execOp,Sem.run_bind,hu,Result.andThen_ok,Sem.run_pure]) hd hK
  case call cl =>
    obtain ⟨callee,args,argTypes⟩:=cl
    -- a call
    have enter:∀ {f:Nat} {as:List AV} {vs:List Value} {r:AV} {fr:Option Nat},yE P f as r fr→fy w π as vs →
        (execOp a.eval ⟨dst,.call ⟨callee,args,argTypes⟩,type,pos,after,guard⟩).run P w=.ok (.enter f vs.toArray) w →
        K (.dat r (fr.map fun _=>id)) { s with live:=match (generalizing:=false) fr with | some e=>(id,e) :: s.live | none=>s.live } →
        Oper.wp P ⟨dst,.call ⟨callee,args,argTypes⟩,type,pos,after,guard⟩ a w next Q:=by
      intro f as vs r fr hp hd hr hK
      unfold Oper.wp
      rw [hr,Oper.upon_enter]
      refine (hp.2 w π vs R.dn hd).mono ?_
      rintro e w' ⟨v,π',rfl,hbel,hp1,hp2,hp3,hdv,htk⟩
      obtain ⟨τ',hrv,R'⟩:=R.called hid hbel hp1 hp2 hp3 hdv htk
      exact hn _ _ _ _ _ _ _ hK hrv (by cases fr with | none=>trivial | some e=>exact .inr rfl) R'
    simp only [v7] at hc
    split at hc
    · rename_i f
      by_cases hcall:b8 P f=true
      rotate_left
      · rw [if_neg hcall] at hc
        split at hc<;>try (cases hc; done)
        rename_i e x hxt hargs
        simp only [Option.map_eq_some_iff] at hc
        obtain ⟨x',hx,rfl⟩:=hc
        simp only [aV] at h
        obtain ⟨av,hav,h⟩:=af h
        obtain ⟨v,hv,hK⟩:=af h
        obtain ⟨u,hu,hdu⟩:=Gf hxt hv (R.ax hx hav)
        have eX:args=#[x]:=Array.toList_inj.1 (by simpa using hargs)
        subst eX
        exact find (by simp [execOp,resolve,Act.eval,Deferred.ofValue,invoke]; simpa [Act.eval] using hu) hdu hK
      rw [if_pos hcall] at hc
      simp only [Option.map_eq_some_iff] at hc
      obtain ⟨xs,hxs,hce⟩:=hc
      split at hce
      · subst hce
        simp only [aV] at h
        obtain ⟨⟨pas,ids⟩,hsv,hnd,h⟩:=af h
        obtain ⟨css,hcs,r,fr,css',hp,hK⟩:=af h
        have hp:we P f css pas r fr css':=hp
        obtain ⟨hca,hl1,_,hp⟩:=hp
        have hnd':ids.Nodup:=d6 hnd
        have harg:=R.bZ (by simpa [eG] using hxs) hsv
        have e1:(args.toList.map a.eval).toArray=args.map a.eval:=Array.toList_inj.1 (by simp)
        have hr:(execOp a.eval ⟨dst,.call ⟨.value (.func f),args,argTypes⟩,type,pos,after,guard⟩).run P w=.ok (.enter f (args.toList.map a.eval).toArray) w:=by
          rw [e1]; simp [execOp,resolve,Act.eval,Deferred.ofValue,invoke,dG hcall]
        unfold Oper.wp
        rw [hr,Oper.upon_enter]
        refine (hp w π (ids.map β) (args.toList.map a.eval) R.dn (R.nodup hnd' hcs) (R.oa hcs) harg).mono ?_
        rintro e w' ⟨v,π',rfl,hbel,hp1,hp2,hp3,hbx,hdv,htk⟩
        obtain ⟨τ',hrv,R'⟩:=R.qy hid hnd' hcs hl1 hbel hp1 hp2 hp3 hbx hdv htk
        exact hn _ _ _ _ _ _ _ hK hrv (by cases fr with | none=>trivial | some e=>exact .inr rfl) R'
      subst hce
      simp only [aV] at h
      obtain ⟨as,has,r,fr,hp,hK⟩:=af h
      have hd:=R.bQ (by simpa [eG] using hxs) has
      have e1:(args.toList.map a.eval).toArray=args.map a.eval:=Array.toList_inj.1 (by simp)
      exact enter hp hd (by rw [e1]; simp [execOp,resolve,Act.eval,Deferred.ofValue,invoke,dG hcall]) hK
    · rename_i g hg
      split at hc<;>try (cases hc; done)
      rename_i g' xs hg' hxs
      simp only [Option.some.injEq] at hc
      split at hc
      · subst hc
        simp only [aV] at h
        obtain ⟨av,hav,h⟩:=af h
        have hdg:=R.ax hg' hav
        cases av<;>try (exact h.elim)
        rename_i fn first caps
        cases fn<;>try (exact h.elim)
        rename_i f
        cases first<;>try (exact h.elim)
        cases caps<;>try (exact h.elim)
        obtain ⟨⟨pas,ids⟩,hsv,hnd,h⟩:=af h
        obtain ⟨css,hcs,r,fr,css',hp,hK⟩:=af h
        have hp:we P f css pas r fr css':=hp
        obtain ⟨hca,hl1,_,hp⟩:=hp
        have hnd':ids.Nodup:=d6 hnd
        have harg:=R.bZ (by simpa [eG] using hxs) hsv
        have e1:(args.toList.map a.eval).toArray=args.map a.eval:=Array.toList_inj.1 (by simp)
        have hr:(execOp a.eval ⟨dst,.call ⟨.value g,args,argTypes⟩,type,pos,after,guard⟩).run P w=.ok (.enter f (args.toList.map a.eval).toArray) w:=by
          generalize he:a.eval g=u at hdg
          cases hdg with
          | fn _ _ vs _ us h1 h2 h3 h4 =>
            have e2:vs=#[]:=Array.size_eq_zero_iff.1 (by simpa using h1.symm)
            have e3:us=#[]:=Array.size_eq_zero_iff.1 (by simpa using h2.symm)
            subst e2 e3
            rw [e1]; simp [execOp,resolve,he,Deferred.ofValue,invoke,dG hca]
        unfold Oper.wp
        rw [hr,Oper.upon_enter]
        refine (hp w π (ids.map β) (args.toList.map a.eval) R.dn (R.nodup hnd' hcs) (R.oa hcs) harg).mono ?_
        rintro e w' ⟨v,π',rfl,hbel,hp1,hp2,hp3,hbx,hdv,htk⟩
        obtain ⟨τ',hrv,R'⟩:=R.qy hid hnd' hcs hl1 hbel hp1 hp2 hp3 hbx hdv htk
        exact hn _ _ _ _ _ _ _ hK hrv (by cases fr with | none=>trivial | some e=>exact .inr rfl) R'
      subst hc
      simp only [aV] at h
      obtain ⟨av,hav,h⟩:=af h
      have hdg:=R.ax hg' hav
      cases av<;>try (exact h.elim)
      rename_i fn first caps
      cases fn<;>try (exact h.elim)
      rename_i f
      obtain ⟨as,has,r,fr,hp,hK⟩:=af h
      have hd:=R.bQ (by simpa [eG] using hxs) has
      generalize he:a.eval g=u at hdg
      cases hdg with
      | fn _ _ vs _ us h1 h2 h3 h4 =>
        have d1:fy w π first vs.toList:=⟨by simpa using h1,fun i x v hx hv=>h3 i x v hx (by simpa using hv)⟩
        have d2:fy w π caps us.toList:=⟨by simpa using h2,fun i x v hx hv=>h4 i x v hx (by simpa using hv)⟩
        have e1:(vs.toList++(args.toList.map a.eval)++us.toList).toArray=vs++args.map a.eval++us:=by
          apply Array.toList_inj.1; simp
        refine enter hp ((d1.append hd).append d2) ?_ hK
        rw [e1]
        simp [execOp,resolve,he,Deferred.ofValue,invoke,dG (show yE P _ _ _ _ from hp).1]
    · -- len
      split at hc<;>try (cases hc; done)
      rename_i t x hT hX
      split at hc<;>try (cases hc; done)
      · rename_i e ht
        simp only [Option.map_eq_some_iff] at hc
        obtain ⟨x',hx,rfl⟩:=hc
        simp only [aV] at h
        obtain ⟨av,hav,h⟩:=af h
        obtain ⟨v,hv,hK⟩:=af h
        obtain ⟨u,hu,hd⟩:=Dd (P:=P) ht hT (Xs:=args.map a.eval) (by simp [hX]) (R.ax hx hav) hv type
        exact find (by simp [execOp,resolve,invoke,builtin,hu]) hd hK
      · rename_i n e ht
        cases hc
        simp only [aV] at h
        exact find (v:=.int .i64 n) (y:=.int .i64 n) (by simp [execOp,resolve,invoke,builtin,Builtin.len_,hT,hX,run_underlying ht,goInt]) (.int _ _) h
    · -- append
      split at hc<;>try (cases hc; done)
      rename_i t t' x y hT hX
      split at hc<;>try (cases hc; done)
      rename_i htt
      subst htt
      split at hc<;>try (cases hc; done)
      rename_i e x' y' ht hx hy
      split at hc<;>try (cases hc; done)
      rename_i i hi
      split at hc<;>try (cases hc; done)
      rename_i zv hz
      split at hc<;>try (cases hc; done)
      rename_i hsz
      cases hc
      obtain ⟨v,u,s',w',τ',π',hr,hv,hu,hK,R'⟩:=R.append ht hi hz hsz hx hy hid type h
      have eT:argTypes=#[t,t]:=Array.toList_inj.1 (by simpa using hT)
      have eX:args=#[x,y]:=Array.toList_inj.1 (by simpa using hX)
      subst eT eX
      unfold Oper.wp
      have:(execOp a.eval ⟨dst,.call ⟨.builtin .append,#[x,y],#[t,t]⟩,type,pos,after,guard⟩).run P w=.ok (.value u) w':=by
        simp [execOp,resolve,invoke,builtin,hr]
      rw [this]
      exact hn v s' u w' β τ' π' hK hv hu R'
    · simp only [Option.map_eq_some_iff] at hc
      obtain ⟨xs,hxs,rfl⟩:=hc
      simp only [aV] at h
      obtain ⟨as,has,h⟩:=af h
      have hd:=R.bQ (by simpa [eG] using hxs) has
      cases as with
      | nil=>exact h.elim
      | cons b as =>
        obtain ⟨v,hv,hK⟩:=af h
        obtain ⟨args⟩:=args
        cases args with
        | nil=>have:=hd.1; simp at this
        | cons y ys =>
          obtain ⟨u,w',hw',hu,hdu⟩:=xy (P:=P) hv (hd.2 0 b (a.eval y) rfl rfl) (us:=ys.map a.eval) ⟨by have:=hd.1; simpa using this,fun i a v h1 h2=>hd.2 (i + 1) a v (by simpa using h1) (by simpa using h2)⟩
          simp only [if_true] at hu
          have hr:(execOp a.eval ⟨dst,.call ⟨.builtin .max,⟨y :: ys⟩,argTypes⟩,type,pos,after,guard⟩).run P w=.ok (.value u) w':=by simp [execOp,resolve,invoke,builtin,Builtin.max_,hu]
          unfold Oper.wp
          rw [hr]
          exact hn (.dat v none) _ _ _ _ _ _ hK ⟨hdu,fun t ht=>by cases ht⟩ trivial (R.jo hw' |>.sub hsub)
    · simp only [Option.map_eq_some_iff] at hc
      obtain ⟨xs,hxs,rfl⟩:=hc
      simp only [aV] at h
      obtain ⟨as,has,h⟩:=af h
      have hd:=R.bQ (by simpa [eG] using hxs) has
      cases as with
      | nil=>exact h.elim
      | cons b as =>
        obtain ⟨v,hv,hK⟩:=af h
        obtain ⟨args⟩:=args
        cases args with
        | nil=>have:=hd.1; simp at this
        | cons y ys =>
          obtain ⟨u,w',hw',hu,hdu⟩:=xy (P:=P) hv (hd.2 0 b (a.eval y) rfl rfl) (us:=ys.map a.eval) ⟨by have:=hd.1; simpa using this,fun i a v h1 h2=>hd.2 (i + 1) a v (by simpa using h1) (by simpa using h2)⟩
          simp only [Bool.false_eq_true,if_false] at hu
          have hr:(execOp a.eval ⟨dst,.call ⟨.builtin .min,⟨y :: ys⟩,argTypes⟩,type,pos,after,guard⟩).run P w=.ok (.value u) w':=by simp [execOp,resolve,invoke,builtin,Builtin.min_,hu]
          unfold Oper.wp
          rw [hr]
          exact hn (.dat v none) _ _ _ _ _ _ hK ⟨hdu,fun t ht=>by cases ht⟩ trivial (R.jo hw' |>.sub hsub)
    · cases hc
theorem pT (z:Nat):∀ (n:Nat) (cs:List AV),(bG z n cs).flatten=cs.take (n * z)
 | 0,cs=>by simp [bG]
 | n + 1,cs=>by
  rw [bG,List.flatten_cons,pT z n,Nat.succ_mul,Nat.add_comm,List.take_add]
theorem pU (z:Nat):∀ (n:Nat) (cs:List AV),n * z≤cs.length→∀ r∈bG z n cs,r.length=z
 | 0,cs,_,r,h=>by simp [bG] at h
 | n + 1,cs,hl,r,h=>by
  rw [Nat.succ_mul] at hl
  rw [bG] at h
  rcases List.mem_cons.1 h with rfl|h
  ·simp; omega
  ·exact pU z n (cs.drop z) (by simp; omega) r h
theorem Rel.Dm (R:Rel P nt n0 w0 π0 U s a w β τ π) {t e:TypeId} {i:TypeInfo} {zv:Value} {X:Operand} {x:aQ} {y:Nat} (ht:P.underlying t=some (.slice e)) (hi:P.info? e=some i) (hz:i.zero=some zv) (hsz:(0 < i.size && zv.cells.size == i.size && 0 < i.bytes)=true)
  (hx:bC X=some x) {id:Nat} (hid:¬ U id) (ty:TypeId) {K:SV→S→Prop} (h:aV (Pure P) id (.tw e i.size i.bytes (.t y) x) K s) :
  ∃ v u s' w' τ' π',(Builtin.append_ #[t,t] ty #[.slice none 0 0,a.eval (.tmp y)]).run P w=.ok u w'∧RV β τ' w' π' v u∧v.dW (cV U id)∧K v s'∧Rel P nt n0 w0 π0 (cV U id) s' a w' β τ' π':=by
 simp only [Bool.and_eq_true,decide_eq_true_eq,beq_iff_eq] at hsz
 obtain ⟨⟨hz0,hzs⟩,hb0⟩:=hsz
 have hsub:∀ n,U n→cV U id n:=fun n h=>.inl h
 simp only [aV] at h
 obtain ⟨p,hp,h⟩:=af h
 have hrp:=(R.bw (X:=.tmp y) (x:=.t y) rfl hp).1
 cases p<;>try (exact h.elim)
 rename_i b off n z'
 obtain ⟨q,hq,h2⟩:=af h
 clear h
 cases q<;>try (exact h2.elim)
 rename_i b' o'
 obtain ⟨⟨hbb,hzz⟩,h3⟩:=h2
 obtain ⟨bx,hb,⟨hlen,hbytes⟩,hK⟩:=af h3
 clear h3
 subst hbb hzz
 obtain ⟨cap,hcap,hv⟩:=hrp
 obtain ⟨_,_,hbox,_⟩:=R.boxes b' bx hb
 obtain ⟨f,hf,hsc,hdv,_⟩:=hbox.cells
 rw [hv]
 simp only [List.length_drop] at hlen
 by_cases hn0:n=0
 ·subst hn0
  rw [if_pos rfl] at hK
  refine ⟨.dat .aN none,.slice none 0 0,s,w,τ,π,?_,⟨.aN,fun t ht=>by cases ht⟩,trivial,hK,R.sub hsub⟩
  simp [Builtin.append_,run_underlying ht,sizeOf,typeInfo,hi,Builtin.lenOf,Builtin.firstCells,loadCells,loadCellsFrom]
 ·rw [if_neg hn0] at hK
  have hpos:0 < n:=Nat.pos_of_ne_zero hn0
  have h63:n≤maxLen:=by
   have:=Nat.le_mul_of_pos_right n hb0
   simp only [maxLen]; omega
  have hl0:=nh i.size n (bx.cells.drop off)
  have hrow:=pU i.size n (bx.cells.drop off) (by simp; omega)
  have hfl:=pT i.size n (bx.cells.drop off)
  have hget:∀ (j:Nat) (c:AV),(bG i.size n (bx.cells.drop off)).flatten[j]? = some c→j < n * i.size∧bx.cells[off + j]? = some c:=by
   intro j c hj
   rw [hfl,List.getElem?_take] at hj
   split at hj
   ·rename_i hjl; rw [List.getElem?_drop] at hj; exact ⟨hjl,hj⟩
   ·cases hj
  have hnews:((List.range (n * i.size)).map fun j=>f (off + j)).length=n * i.size:=by simp
  have hcell:∀ j v,((List.range (n * i.size)).map fun j=>f (off + j))[j]? = some v→w.cell? ((⟨β b',off,none⟩:Addr).add j)=some v:=by
   intro j v hj
   rw [List.getElem?_map,Option.map_eq_some_iff] at hj
   obtain ⟨k,hk,rfl⟩:=hj
   have hkl:j < n * i.size:=by
    rcases Nat.lt_or_ge j (n * i.size) with h|h
    ·exact h
    ·rw [List.getElem?_eq_none (by simpa using h)] at hk; cases hk
   rw [List.getElem?_range hkl] at hk
   cases hk
   rw [gB]
   exact hf _ (by omega)
  have hdn:fy w π (bG i.size n (bx.cells.drop off)).flatten ((List.range (n * i.size)).map fun j=>f (off + j)):=by
   refine ⟨by rw [hfl]; simp; omega,fun j c v hc hj=>?_⟩
   obtain ⟨hjl,hc⟩:=hget j c hc
   rw [List.getElem?_map,List.getElem?_range hjl] at hj
   cases hj
   exact hdv _ _ hc
  have hscn:∀ r∈bG i.size n (bx.cells.drop off),∀ x∈r,x.scalar=true:=by
   intro r hr x hx
   have hm:x∈(bG i.size n (bx.cells.drop off)).flatten:=List.mem_flatten.2 ⟨r,hr,hx⟩
   rw [hfl] at hm
   obtain ⟨j,hj⟩:=List.mem_iff_getElem?.1 (List.mem_of_mem_drop (List.mem_of_mem_take hm))
   exact hsc j x hj
  have hrun:=run_append_nil (P:=P) w t ty e i zv ht hi hz ⟨β b',off,none⟩ n cap _ hnews hcell hpos (by simp only [maxLen] at h63; omega) (by omega)
  obtain ⟨π',R',hd'⟩:=R.grown (id:=id) (old:=0) hi hz rfl hzs hz0 hid (zs:=bG i.size n (bx.cells.drop off)) (vs:=(List.range (n * i.size)).map fun j=>f (off + j)) (by rw [hl0,hnews]) hdn hrow hscn (by rw [hl0]; exact h63) rfl
  rw [hl0] at R' hd'
  exact ⟨.dat (.sl _) (some id),_,_,_,_,_,hrun,⟨hd',fun t ht=>by cases ht; rw [bg]⟩,.inr rfl,hK,R'⟩
theorem xA (R:Rel P nt n0 w0 π0 U s a w β τ π) {o:Oper} {ops:List Oper} {c:aZ} {id:Nat} (hid:¬ U id) (hc:qW P ops o.op=some c) {K:SV→S→Prop} (h:aV (Pure P) id c K s) {next:Act→World→Prop} {Q:Exit→Act→World→Prop}
  (hn:∀ v s' x w' β' τ' π',K v s'→RV β' τ' w' π' v x→v.dW (cV U id)→Rel P nt n0 w0 π0 (cV U id) s' a w' β' τ' π'→next (a.put o.dst x) w'):o.wp P a w next Q:=by
 obtain ⟨dst,op,type,pos,after,guard⟩:=o
 simp only at hc
 unfold qW at hc
 split at hc<;>try (cases hc; done)
 rename_i cl
 split at hc<;>try (cases hc; done)
 rename_i t t' y hcal hT hX
 split at hc<;>try (cases hc; done)
 rename_i htt
 subst htt
 split at hc<;>try (cases hc; done)
 rename_i e x' ht hx
 split at hc<;>try (cases hc; done)
 rename_i i hi
 split at hc<;>try (cases hc; done)
 rename_i zv hz
 split at hc<;>try (cases hc; done)
 rename_i hsz
 cases hc
 obtain ⟨X,hX1,hX2⟩:=Option.bind_eq_some_iff.1 hx
 obtain ⟨v,u,s',w',τ',π',hr,hv,hu,hK,R'⟩:=R.Dm ht hi hz hsz hX2 hid type h
 obtain ⟨callee,args,argTypes⟩:=cl
 simp only at hcal hT hX
 have eT:argTypes=#[t,t]:=Array.toList_inj.1 (by simpa using hT)
 have eX:args=#[.const (.slice none 0 0),.tmp y]:=Array.toList_inj.1 (by simpa using hX)
 subst eT eX hcal
 unfold Oper.wp
 have:(execOp a.eval ⟨dst,.call ⟨.builtin .append,#[.const (.slice none 0 0),.tmp y],#[t,t]⟩,type,pos,after,guard⟩).run P w=.ok (.value u) w':=by
  have e0:a.eval (.const (.slice none 0 0))=.slice none 0 0:=rfl
  simp [execOp,resolve,invoke,builtin,hr,e0]
 rw [this]
 exact hn v s' u w' β τ' π' hK hv hu R'
end
end Go.Eng
namespace Go.Eng
open Go
structure jP (l lb:List Nat) (ap:Bool) (s s2:S):Prop where
 slots:∀ t∈l,lk t s2.slots=lk t s.slots
 boxes:∀ t∈lb,∀ b off x,lk t s.slots=some (.ptr b off)→bF b s.boxes=some x→bF b s2.boxes=some x
 live:ap=true→∀ t∈l,∀ a q e,lk t s.slots=some (.dat a (some q))→cw q s.live=some e→cw q s2.live=some e
section
variable {l lb:List Nat} {ap:Bool} {s s2:S}
theorem jP.sub (h:jP l lb ap s s2) {l':List Nat} (hs:∀ t∈l',t∈l):jP l' lb ap s s2 :=
 ⟨fun t ht=>h.slots t (hs t ht),h.boxes,fun e t ht=>h.live e t (hs t ht)⟩
theorem jP.bw (h:jP l lb ap s s2) {x:aQ} (hx:∀ t∈x.rd,t∈l) {v:SV} (hv:Eng.bw s x=some v):Eng.bw s2 x=some v:=by
 cases x with
 | t n=>simp only [Eng.bw] at hv ⊢; rw [h.slots n (hx n (by simp [aQ.rd])),hv]
 | k v=>exact hv
theorem jP.ax (h:jP l lb ap s s2) {x:aQ} (hx:∀ t∈x.rd,t∈l) {v:AV} (hv:Eng.ax s x=some v):Eng.ax s2 x=some v:=by
 unfold Eng.ax at hv ⊢
 cases ho:Eng.bw s x with
 | none=>rw [ho] at hv; cases hv
 | some u=>rw [h.bw hx ho]; rw [ho] at hv; exact hv
theorem jP.bQ (h:jP l lb ap s s2):∀ {xs:List aQ} (hx:∀ t∈aP xs,t∈l) {vs:List AV} (hv:Eng.bQ s xs=some vs),Eng.bQ s2 xs=some vs
 | [],_,vs,hv=>hv
 | x :: xs,hx,vs,hv=>by
  simp only [Eng.bQ] at hv ⊢
  cases h1:Eng.ax s x with
  | none=>simp [h1] at hv
  | some a =>
   cases h2:Eng.bQ s xs with
   | none=>simp [h1,h2] at hv
   | some as =>
    rw [h.ax (fun t ht=>hx t (by simp [aP,ht])) h1,h.bQ (fun t ht=>hx t (by simp [aP,ht])) h2]
    simpa [h1,h2] using hv
theorem jP.eJ (h:jP l lb ap s s2):∀ {xs:List (Nat × Nat × aQ)} (hx:∀ t∈nQ xs,t∈l) {vs:List (Nat × List AV)} (hv:Eng.eJ s xs=some vs),Eng.eJ s2 xs=some vs
 | [],_,vs,hv=>hv
 |(o,z,x) :: xs,hx,vs,hv=>by
  simp only [Eng.eJ] at hv ⊢
  cases h1:Eng.ax s x with
  | none=>simp [h1] at hv
  | some a =>
   cases h2:Eng.eJ s xs with
   | none=>simp [h1,h2] at hv
   | some as =>
    rw [h.ax (fun t ht=>hx t (by simp [nQ,ht])) h1,h.eJ (fun t ht=>hx t (by simp [nQ,ht])) h2]
    simpa only [h1,h2] using hv
theorem jP.iq (h:jP l lb ap s s2) {z:Nat}:∀ {xs:List aQ} (hx:∀ t∈aP xs,t∈l) {vs:List (List AV)} (hv:Eng.iq s z xs=some vs),Eng.iq s2 z xs=some vs
 | [],_,vs,hv=>hv
 | x :: xs,hx,vs,hv=>by
  simp only [Eng.iq] at hv ⊢
  cases h1:Eng.ax s x with
  | none=>simp [h1] at hv
  | some a =>
   cases h2:Eng.iq s z xs with
   | none=>simp [h1,h2] at hv
   | some as =>
    rw [h.ax (fun t ht=>hx t (by simp [aP,ht])) h1,h.iq (fun t ht=>hx t (by simp [aP,ht])) h2]
    simpa only [h1,h2] using hv
theorem jP.qR (h:jP l lb ap s s2) {x:Option aQ} (hx:∀ t∈yp x,t∈l) {i:Int} (hv:Eng.qR s x=some i):Eng.qR s2 x=some i:=by
 cases x with
 | none=>exact hv
 | some x =>
  simp only [Eng.qR] at hv ⊢
  cases h1:Eng.ax s x with
  | none=>simp [h1,Eng.oU] at hv
  | some a=>rw [h.ax hx h1]; rw [h1] at hv; exact hv
theorem jP.qS (h:jP l lb ap s s2) {xs:List (List AV)} {x:Option aQ} (hx:∀ t∈yp x,t∈l) {i:Int} (hv:Eng.qS s xs x=some i):Eng.qS s2 xs x=some i:=by
 cases x with
 | none=>exact hv
 | some x =>
  simp only [Eng.qS] at hv ⊢
  cases h1:Eng.ax s x with
  | none=>simp [h1,Eng.oU] at hv
  | some a=>rw [h.ax hx h1]; rw [h1] at hv; exact hv
theorem jP.aR (h:jP l lb ap s s2):∀ {xs:List aQ} (hx:∀ t∈aP xs,t∈l) (hx':∀ t∈aP xs,t∈lb) {p:List (Option AV) × List Nat} (hv:Eng.bZ s xs=some p) {css:List (List AV)} (hc:Eng.aR s.boxes p.2=some css),Eng.bZ s2 xs=some p∧Eng.aR s2.boxes p.2=some css
 | [],_,_,p,hv,css,hc=>by
  simp only [Eng.bZ,Option.some.injEq] at hv ⊢
  subst hv
  exact ⟨rfl,hc⟩
 | x :: xs,hx,hx',p,hv,css,hc=>by
  simp only [Eng.bZ] at hv ⊢
  split at hv<;>try (cases hv; done)
  ·rename_i a q as bs h1 h2
   cases hv
   obtain ⟨i1,i2⟩:=h.aR (fun t ht=>hx t (by simp [aP,ht])) (fun t ht=>hx' t (by simp [aP,ht])) h2 hc
   rw [h.bw (fun t ht=>hx t (by simp [aP,ht])) h1,i1]
   exact ⟨rfl,i2⟩
  ·rename_i cs as bs h1 h2
   cases hv
   obtain ⟨i1,i2⟩:=h.aR (fun t ht=>hx t (by simp [aP,ht])) (fun t ht=>hx' t (by simp [aP,ht])) h2 hc
   rw [h.bw (fun t ht=>hx t (by simp [aP,ht])) h1,i1]
   exact ⟨rfl,i2⟩
  ·rename_i b as bs h1 h2
   cases hv
   simp only [Eng.aR] at hc
   split at hc<;>try (cases hc; done)
   rename_i y css' hy hcs
   cases hc
   obtain ⟨i1,i2⟩:=h.aR (fun t ht=>hx t (by simp [aP,ht])) (fun t ht=>hx' t (by simp [aP,ht])) h2 hcs
   rw [h.bw (fun t ht=>hx t (by simp [aP,ht])) h1,i1]
   refine ⟨rfl,?_⟩
   have hyb:Eng.bF b s2.boxes=some y:=by
    cases x with
    | t n=>exact h.boxes n (hx' n (by simp [aP,aQ.rd])) b 0 y h1 hy
    | k v=>simp [Eng.bw] at h1
   simp only [Eng.aR,hyb,i2]
theorem jP.cq (h:jP l lb ap s s2):∀ {xs:List aQ} (hx:∀ t∈aP xs,t∈l) (hx':∀ t∈aP xs,t∈lb) {p:List (Option AV) × List Nat} (hv:Eng.bZ s xs=some p) {css:List (List AV)} (hc:Eng.cq s.boxes p.2=some css),Eng.bZ s2 xs=some p∧Eng.cq s2.boxes p.2=some css
 | [],_,_,p,hv,css,hc=>by
  simp only [Eng.bZ,Option.some.injEq] at hv ⊢
  subst hv
  exact ⟨rfl,hc⟩
 | x :: xs,hx,hx',p,hv,css,hc=>by
  simp only [Eng.bZ] at hv ⊢
  split at hv<;>try (cases hv; done)
  ·rename_i a q as bs h1 h2
   cases hv
   obtain ⟨i1,i2⟩:=h.cq (fun t ht=>hx t (by simp [aP,ht])) (fun t ht=>hx' t (by simp [aP,ht])) h2 hc
   rw [h.bw (fun t ht=>hx t (by simp [aP,ht])) h1,i1]
   exact ⟨rfl,i2⟩
  ·rename_i cs as bs h1 h2
   cases hv
   obtain ⟨i1,i2⟩:=h.cq (fun t ht=>hx t (by simp [aP,ht])) (fun t ht=>hx' t (by simp [aP,ht])) h2 hc
   rw [h.bw (fun t ht=>hx t (by simp [aP,ht])) h1,i1]
   exact ⟨rfl,i2⟩
  ·rename_i b as bs h1 h2
   cases hv
   simp only [Eng.cq] at hc
   split at hc<;>try (cases hc; done)
   rename_i cs css' hy hcs
   cases hc
   obtain ⟨i1,i2⟩:=h.cq (fun t ht=>hx t (by simp [aP,ht])) (fun t ht=>hx' t (by simp [aP,ht])) h2 hcs
   rw [h.bw (fun t ht=>hx t (by simp [aP,ht])) h1,i1]
   refine ⟨rfl,?_⟩
   have hyb:Eng.bF b s2.boxes=some ⟨cs,[]⟩:=by
    cases x with
    | t n=>exact h.boxes n (hx' n (by simp [aP,aQ.rd])) b 0 _ h1 hy
    | k v=>simp [Eng.bw] at h1
   simp only [Eng.cq,hyb,i2]
theorem jP.bF (h:jP l lb ap s s2) {x:aQ} (hx:∀ t∈x.rd,t∈lb) {b off:Nat} {bx:bA} (hv:Eng.bw s x=some (.ptr b off)) (hb:Eng.bF b s.boxes=some bx):Eng.bF b s2.boxes=some bx:=by
 cases x with
 | t n=>exact h.boxes n (hx n (by simp [aQ.rd])) b off bx hv hb
 | k v=>simp [Eng.bw] at hv
end
inductive Delta where
 | no
 | box (b:bA)
 | live (e:Nat)
 | app (q e:Nat)
 | st (b:Nat) (x:bA)
 | calls (ids:List Nat) (css:List (List AV)) (fr:Option Nat)
 | vT (ids:List Nat) (css:List (List AV))
def Delta.app' (d:Delta) (id:Nat) (s:S):S :=
 match d with
 | .no=>s
 | .box b=>{ s with boxes:=(id,b) :: s.boxes }
 | .live e=>{ s with live:=(id,e) :: s.live }
 | .app q e=>{ s with live:=(id,e) :: iN q s.live }
 | .st b x=>{ s with boxes:=k7 b x s.boxes }
 | .calls ids css fr=>{ s with boxes:=cJ ids css s.boxes,live:=match fr with | some e=>(id,e) :: s.live | none=>s.live }
 | .vT ids css=>eM ids css s
def Delta.ok (d:Delta) (o:aZ) (s:S):Prop :=
 match d with
 | .st b _=>o.pP=false∧∃ t∈o.yq,∃ off,lk t s.slots=some (.ptr b off)
 | .calls ids _ _=>o.pP=false∧∀ b∈ids,∃ t∈o.yq,∃ off,lk t s.slots=some (.ptr b off)
 | .vT ids _=>o.pP=true∧∀ b∈ids,∃ t∈o.yq,∃ off,lk t s.slots=some (.ptr b off)
 | .app q _=>o.isApp=true∧∃ t∈o.rd,∃ a,lk t s.slots=some (.dat a (some q))
 | _=>True
def bA.dW (U:Nat→Prop) (x:bA):Prop:=∀ o q,cw o x.tags=some q→U q
def Delta.dW (U:Nat→Prop) (d:Delta):Prop :=
 match d with
 | .box b=>b.dW U
 | .app q _=>U q
 | .st b x=>U b∧x.dW U
 | .calls ids _ _=>∀ b∈ids,U b
 | _=>True
structure S.dW (U:Nat→Prop) (s:S):Prop where
 slots:∀ t v,lk t s.slots=some v→v.dW U
 boxes:∀ b x,bF b s.boxes=some x→U b∧x.dW U
 live:∀ q e,cw q s.live=some e→U q
theorem S.dW.bw {U:Nat→Prop} {s:S} (h:s.dW U) {x:aQ} {v:SV} (hv:Eng.bw s x=some v):v.dW U:=by
 cases x with
 | t n=>exact h.slots n v hv
 | k a=>simp only [Eng.bw,Option.some.injEq] at hv; subst hv; trivial
theorem gx {s:S} {x:aQ} {b off:Nat} (h:bw s x=some (.ptr b off)):∃ t∈x.rd,∃ off',lk t s.slots=some (.ptr b off'):=by
 cases x with
 | t n=>exact ⟨n,by simp [aQ.rd],off,h⟩
 | k v=>simp [bw] at h
theorem iT {s:S}:∀ {xs:List aQ} {p:List (Option AV) × List Nat},bZ s xs=some p→∀ b∈p.2,∃ t∈aP xs,∃ off,lk t s.slots=some (.ptr b off)
 | [],p,h,b,hb=>by simp [bZ] at h; subst h; cases hb
 | x :: xs,p,h,b,hb=>by
  unfold bZ at h
  split at h
  ·rename_i h1 h2
   cases h
   obtain ⟨t,ht,hl⟩:=iT h2 b hb
   exact ⟨t,by simp [aP,ht],hl⟩
  ·rename_i h1 h2
   cases h
   obtain ⟨t,ht,hl⟩:=iT h2 b hb
   exact ⟨t,by simp [aP,ht],hl⟩
  ·rename_i h1 h2
   cases h
   rcases List.mem_cons.1 hb with rfl|hb
   ·obtain ⟨t,ht,hl⟩:=gx h1
    exact ⟨t,by simp [aP,ht],hl⟩
   ·obtain ⟨t,ht,hl⟩:=iT h2 b hb
    exact ⟨t,by simp [aP,ht],hl⟩
  ·cases h
def mT (id:Nat) (o:aZ) (s:S) (v:SV):Prop:=∀ b off,v=.ptr b off→(b=id∧o.AO=true)∨∃ t∈o.lq,∃ off',lk t s.slots=some (.ptr b off')
theorem mT.dat {id:Nat} {o:aZ} {s:S} {a:AV} {q:Option Nat}:mT id o s (.dat a q):=fun _ _ h=>by cases h
theorem mT.undef {id:Nat} {o:aZ} {s:S}:mT id o s .undef:=fun _ _ h=>by cases h
theorem mT.rp {id:Nat} {o:aZ} {s:S} {cs:List AV}:mT id o s (.rp cs):=fun _ _ h=>by cases h
def Path (C:bI) (id:Nat) (o:aZ) (K:SV→S→Prop) (s:S):Prop :=
 ∃ v d,K v (Delta.app' d id s)∧d.ok o s∧(∀ U,s.dW U→v.dW (cV U id)∧d.dW U)∧mT id o s v∧∀ s2,jP o.rd o.m5 o.isApp s s2→∀ K':SV→S→Prop,K' v (d.app' id s2)→aV C id o K' s2
section
variable {C:bI} {id:Nat} {o:aZ} {K:SV→S→Prop} {s:S}
theorem Path.val {a:AV} (hK:K (.dat a none) s) (h:∀ s2,jP o.rd o.m5 o.isApp s s2→∀ K':SV→S→Prop,K' (.dat a none) s2→aV C id o K' s2):Path C id o K s :=
 ⟨.dat a none,.no,hK,trivial,fun U _=>⟨trivial,trivial⟩,.dat,h⟩
theorem Path.sv {v:SV} (hK:K v s) (hv:∀ U,s.dW U→v.dW U) (hp:mT id o s v) (h:∀ s2,jP o.rd o.m5 o.isApp s s2→∀ K':SV→S→Prop,K' v s2→aV C id o K' s2):Path C id o K s :=
 ⟨v,.no,hK,trivial,fun U hs=>⟨SV.lF (fun n h=>.inl h) (hv U hs),trivial⟩,hp,h⟩
theorem lI (h:aV C id o K s):Path C id o K s:=by
 cases o<;>simp only [aV] at h
 case mv x =>
  obtain ⟨v,hv,hK⟩:=af h
  exact Path.sv hK (fun U hs=>hs.bw hv) (fun b off e=>.inr (gx (by rw [hv,e]))) fun s2 ag K' hk=>by simpa [aV,ag.bw (fun t ht=>ht) hv] using hk
 case pick c a b =>
  obtain ⟨t,ht,h⟩:=af h
  cases t<;>try (exact h.elim)
  rename_i t
  obtain ⟨u,hu,h⟩:=af h
  obtain ⟨v,hv,hK1,hK2⟩:=af h
  cases t
  ·exact Path.sv (hK2 rfl) (fun U hs=>hs.bw hv) (fun b' off e=>.inr (by obtain ⟨t,ht,hl⟩:=gx (x:=b) (by rw [hv,e]); exact ⟨t,by simp [aZ.lq,ht],hl⟩)) fun s2 ag K' hk=>by
    simpa [aV,ag.ax (x:=c) (by simp [aZ.rd]; grind) ht,ag.bw (x:=a) (by simp [aZ.rd]; grind) hu,ag.bw (x:=b) (by simp [aZ.rd]; grind) hv] using hk
  ·exact Path.sv (hK1 rfl) (fun U hs=>hs.bw hu) (fun b' off e=>.inr (by obtain ⟨t,ht,hl⟩:=gx (x:=a) (by rw [hu,e]); exact ⟨t,by simp [aZ.lq,ht],hl⟩)) fun s2 ag K' hk=>by
    simpa [aV,ag.ax (x:=c) (by simp [aZ.rd]; grind) ht,ag.bw (x:=a) (by simp [aZ.rd]; grind) hu,ag.bw (x:=b) (by simp [aZ.rd]; grind) hv] using hk
 case alloc cs =>
  exact ⟨.ptr id 0,.box ⟨cs,[]⟩,h,trivial,fun U _=>⟨.inr rfl,fun o q hq=>by cases hq⟩,fun b off e=>by cases e; exact .inl ⟨rfl,rfl⟩,fun s2 ag K' hk=>hk⟩
 case box x =>
  obtain ⟨a,ha,hok,hK⟩:=af h
  exact ⟨.ptr id 0,.box ⟨a.cells,[]⟩,hK,trivial,fun U _=>⟨.inr rfl,fun o q hq=>by cases hq⟩,fun b off e=>by cases e; exact .inl ⟨rfl,rfl⟩,fun s2 ag K' hk=>by
   simpa [aV,ag.ax (x:=x) (by simp [aZ.rd]) ha,hok,Delta.app'] using hk⟩
 case build zs ps =>
  obtain ⟨p,hp,hK⟩:=af h
  exact Path.val hK fun s2 ag K' hk=>by simpa [aV,ag.eJ (by simp [aZ.rd]) hp] using hk
 case iM e z xs =>
  obtain ⟨p,hp,hK⟩:=af h
  exact ⟨.dat (.sl p) (some id),.live e,hK,trivial,fun U hs=>⟨.inr rfl,trivial⟩,.dat,fun s2 ag K' hk=>by simpa [aV,ag.iq (by simp [aZ.rd]) hp,Delta.app'] using hk⟩
 case ld x sz =>
  obtain ⟨p,hp,h⟩:=af h
  cases p<;>try (exact h.elim)
  ·rename_i b off
   obtain ⟨bx,hb,h⟩:=af h
   obtain ⟨a,ha,hK⟩:=af h
   refine Path.sv hK (fun U hs=>?_) .dat fun s2 ag K' hk=>by simpa [aV,ag.bw (x:=x) (by simp [aZ.rd]) hp,ag.bF (x:=x) (by simp [aZ.m5]) hp hb,ha] using hk
   cases sz with
   | some n=>trivial
   | none =>
    cases hq:cw off bx.tags with
    | none=>trivial
    | some q=>exact (hs.boxes b bx hb).2 off q hq
  ·rename_i cs
   obtain ⟨a,ha,hK⟩:=af h
   exact Path.val hK fun s2 ag K' hk=>by simpa [aV,ag.bw (x:=x) (by simp [aZ.rd]) hp,ha] using hk
 case st x v sz =>
  obtain ⟨p,hp,h⟩:=af h
  cases p<;>try (exact h.elim)
  rename_i b off
  obtain ⟨bx,hb,h⟩:=af h
  obtain ⟨u,hu,h⟩:=af h
  cases u<;>try (exact h.elim)
  rename_i a q
  obtain ⟨h1,h2,h3,hK⟩:=h
  refine ⟨.undef,.st b ⟨setCells bx.cells off a.cells,match (generalizing:=false) q with | some q=>(off,q) :: bx.tags.filter (fun p=>p.1 < off || off + sz≤p.1) | none=>bx.tags.filter (fun p=>p.1 < off || off + sz≤p.1)⟩,hK,⟨rfl,gx (x:=x) hp⟩,fun U hs=>⟨trivial,?_,?_⟩,.undef,fun s2 ag K' hk=>?_⟩
  ·exact (hs.boxes b bx hb).1
  ·intro o q' hq'
   have hfil:∀ q',cw o (bx.tags.filter (fun p=>p.1 < off || off + sz≤p.1))=some q'→U q':=fun q' hq' =>
    (hs.boxes b bx hb).2 o q' (qX hq' (fun x=>rfl)).1
   cases q with
   | none=>exact hfil q' hq'
   | some q =>
    simp only [cw] at hq'
    cases hoo:o == off
    ·rw [hoo] at hq'; exact hfil q' hq'
    ·rw [hoo] at hq'
     simp only [cond_true,Option.some.injEq] at hq'
     subst hq'
     exact hs.bw hu
  ·simp only [aV,ag.bw (x:=x) (by simp [aZ.rd]; grind) hp,ag.bw (x:=v) (by simp [aZ.rd]; grind) hu,ag.bF (x:=x) (by simp [aZ.m5]) hp hb,aq]
   exact ⟨h1,h2,h3,hk⟩
 case fa x off =>
  obtain ⟨p,hp,h⟩:=af h
  cases p<;>try (exact h.elim)
  ·exact Path.sv h (fun U hs=>(hs.bw hp:(SV.ptr _ _).dW U)) (fun b' off' e=>.inr (by cases e; exact gx (x:=x) hp)) fun s2 ag K' hk=>by simpa [aV,ag.bw (x:=x) (by simp [aZ.rd]) hp] using hk
  ·exact Path.sv h (fun U hs=>trivial) .rp fun s2 ag K' hk=>by simpa [aV,ag.bw (x:=x) (by simp [aZ.rd]) hp] using hk
 case ym x i n z =>
  obtain ⟨p,hp,h⟩:=af h
  obtain ⟨a,ha,h⟩:=af h
  obtain ⟨j,hj,hlt,h⟩:=af h
  cases p<;>try (exact h.elim)
  ·exact Path.sv h (fun U hs=>(hs.bw hp:(SV.ptr _ _).dW U)) (fun b' off' e=>.inr (by cases e; exact gx (x:=x) hp)) fun s2 ag K' hk=>by simpa [aV,ag.bw (x:=x) (by simp [aZ.rd]; grind) hp,ag.ax (x:=i) (by simp [aZ.rd]; grind) ha,hj,hlt] using hk
  ·exact Path.sv h (fun U hs=>trivial) .rp fun s2 ag K' hk=>by simpa [aV,ag.bw (x:=x) (by simp [aZ.rd]; grind) hp,ag.ax (x:=i) (by simp [aZ.rd]; grind) ha,hj,hlt] using hk
 case F1 x i z =>
  obtain ⟨p,hp,h⟩:=af h
  obtain ⟨a,ha,h⟩:=af h
  obtain ⟨j,hj,h⟩:=af h
  obtain ⟨xs,hxs,hlt,h⟩:=af h
  obtain ⟨row,hrow,hz,hK⟩:=af h
  refine Path.sv hK (fun U hs=>trivial) .rp fun s2 ag K' hk=>?_
  simp only [aV,ag.ax (x:=x) (by simp [aZ.rd]; grind) hp,ag.ax (x:=i) (by simp [aZ.rd]; grind) ha,hj,hxs,hrow,aq]
  exact ⟨hlt,hz,hk⟩
 case I5 x off sz =>
  obtain ⟨p,hp,h⟩:=af h
  cases p<;>try (exact h.elim)
  obtain ⟨a,ha,hK⟩:=af h
  exact Path.val hK fun s2 ag K' hk=>by simpa [aV,ag.ax (x:=x) (by simp [aZ.rd]) hp,ha] using hk
 case C2 x i n z sz =>
  obtain ⟨p,hp,h⟩:=af h
  cases p<;>try (exact h.elim)
  obtain ⟨a,ha,h⟩:=af h
  obtain ⟨j,hj,hlt,h⟩:=af h
  obtain ⟨b,hb,hK⟩:=af h
  exact Path.val hK fun s2 ag K' hk=>by simpa [aV,ag.ax (x:=x) (by simp [aZ.rd]; grind) hp,ag.ax (x:=i) (by simp [aZ.rd]; grind) ha,hj,hlt,hb] using hk
 case bin op x y =>
  obtain ⟨a,ha,h⟩:=af h
  obtain ⟨b,hb,h⟩:=af h
  obtain ⟨v,hv,hK⟩:=af h
  exact Path.val hK fun s2 ag K' hk=>by simpa [aV,ag.ax (x:=x) (by simp [aZ.rd]; grind) ha,ag.ax (x:=y) (by simp [aZ.rd]; grind) hb,hv] using hk
 case eqc ks neg x y =>
  obtain ⟨a,ha,h⟩:=af h
  cases a<;>try (exact h.elim)
  obtain ⟨b,hb,h⟩:=af h
  cases b<;>try (exact h.elim)
  obtain ⟨v,hv,hK⟩:=af h
  exact Path.val hK fun s2 ag K' hk=>by simpa [aV,ag.ax (x:=x) (by simp [aZ.rd]; grind) ha,ag.ax (x:=y) (by simp [aZ.rd]; grind) hb,hv] using hk
 case bb neg x y =>
  obtain ⟨a,ha,h⟩:=af h
  obtain ⟨b,hb,h⟩:=af h
  obtain ⟨v,hv,hK⟩:=af h
  exact Path.val hK fun s2 ag K' hk=>by simpa [aV,ag.ax (x:=x) (by simp [aZ.rd]; grind) ha,ag.ax (x:=y) (by simp [aZ.rd]; grind) hb,hv] using hk
 case un op x =>
  obtain ⟨a,ha,h⟩:=af h
  obtain ⟨v,hv,hK⟩:=af h
  exact Path.val hK fun s2 ag K' hk=>by simpa [aV,ag.ax (x:=x) (by simp [aZ.rd]) ha,hv] using hk
 case kg k x =>
  obtain ⟨a,ha,h⟩:=af h
  obtain ⟨v,hv,hK⟩:=af h
  exact Path.val hK fun s2 ag K' hk=>by simpa [aV,ag.ax (x:=x) (by simp [aZ.rd]) ha,hv] using hk
 case tv k x =>
  obtain ⟨a,ha,h⟩:=af h
  obtain ⟨v,hv,hK⟩:=af h
  exact Path.val hK fun s2 ag K' hk=>by simpa [aV,ag.ax (x:=x) (by simp [aZ.rd]) ha,hv] using hk
 case xu k x =>
  obtain ⟨a,ha,h⟩:=af h
  obtain ⟨v,hv,hK⟩:=af h
  exact Path.val hK fun s2 ag K' hk=>by simpa [aV,ag.ax (x:=x) (by simp [aZ.rd]) ha,hv] using hk
 case uL x =>
  obtain ⟨v,hv,hK⟩:=af h
  exact Path.sv hK (fun U hs=>hs.bw hv) (fun b off e=>.inr (gx (by rw [hv,e]))) fun s2 ag K' hk=>by simpa [aV,ag.bw (fun t ht=>ht) hv] using hk
 case zA x =>
  obtain ⟨a,ha,h⟩:=af h
  obtain ⟨v,hv,hK⟩:=af h
  exact Path.val hK fun s2 ag K' hk=>by simpa [aV,ag.ax (x:=x) (by simp [aZ.rd]) ha,hv] using hk
 case AI n=>exact Path.val h fun s2 ag K' hk=>by simpa [aV] using hk
 case IK x n z hi =>
  obtain ⟨p,hp,h⟩:=af h
  cases p<;>try (exact h.elim)
  rename_i b off
  obtain ⟨a,ha,h2⟩:=af h
  obtain ⟨j,hj,hlt,hK⟩:=af h2
  refine Path.sv hK (fun U hs=>?_) (fun b' o' e=>by cases e) fun s2 ag K' hk=>?_
  ·have:(SV.ptr b off).dW U:=hs.bw hp
   exact this
  ·simp only [aV,ag.bw (x:=x) (by simp [aZ.rd]; grind) hp,ag.ax (x:=hi) (by simp [aZ.rd]; grind) ha,hj,aq]
   exact ⟨hlt,hk⟩
 case tw e z bytes y x =>
  obtain ⟨p,hp,h⟩:=af h
  cases p<;>try (exact h.elim)
  rename_i b off n z'
  obtain ⟨q,hq,h2⟩:=af h
  cases q<;>try (exact h2.elim)
  rename_i b' o'
  obtain ⟨⟨e1,e2⟩,h3⟩:=h2
  obtain ⟨bx,hb,h4,hK⟩:=af h3
  have hy:∀ t∈y.rd,t∈(aZ.tw e z bytes y x).rd:=by simp [aZ.rd]; grind
  have hx:∀ t∈x.rd,t∈(aZ.tw e z bytes y x).rd:=by simp [aZ.rd]; grind
  rw [e1] at hq
  by_cases hn:n=0
  ·rw [if_pos hn] at hK
   refine Path.val hK fun s2 ag K' hk=>?_
   have hb2:=ag.bF (x:=x) (by simp [aZ.m5]) hq hb
   simp only [aV,ag.bw hy hp,ag.bw hx hq,aq,if_pos hn,hb2]
   exact ⟨⟨trivial,e2⟩,h4,hk⟩
  ·rw [if_neg hn] at hK
   refine ⟨.dat (.sl (bG z n (bx.cells.drop off))) (some id),.live e,hK,trivial,fun U hs=>⟨.inr rfl,trivial⟩,.dat,fun s2 ag K' hk=>?_⟩
   have hb2:=ag.bF (x:=x) (by simp [aZ.m5]) hq hb
   simp only [aV,ag.bw hy hp,ag.bw hx hq,aq,if_neg hn,hb2]
   exact ⟨⟨trivial,e2⟩,h4,hk⟩
 case app e z bytes x y =>
  obtain ⟨p,hp,h⟩:=af h
  cases p<;>try (exact h.elim)
  rename_i a q
  obtain ⟨xs,hxs,h⟩:=af h
  obtain ⟨b,hb,h⟩:=af h
  obtain ⟨ys,hys,h1,h2,h3,h⟩:=af h
  have hx:∀ t∈x.rd,t∈(aZ.app e z bytes x y).rd:=by simp [aZ.rd]; grind
  have hy:∀ t∈y.rd,t∈(aZ.app e z bytes x y).rd:=by simp [aZ.rd]; grind
  cases a<;>try (exact h.elim)
  ·-- nil
   simp only [] at h
   split at h
   ·rename_i he
    refine Path.val h fun s2 ag K' hk=>?_
    simp only [aV,ag.bw hx hp,ag.ax hy hb,hxs,hys,aq,if_pos he]
    exact ⟨h1,h2,h3,hk⟩
   ·rename_i he
    refine ⟨.dat (.sl (xs++ys)) (some id),.live e,h,trivial,fun U hs=>⟨.inr rfl,trivial⟩,.dat,fun s2 ag K' hk=>?_⟩
    simp only [aV,ag.bw hx hp,ag.ax hy hb,hxs,hys,aq,if_neg he]
    exact ⟨h1,h2,h3,hk⟩
  ·cases q with
   | none=>exact h.elim
   | some q =>
    obtain ⟨hq,hK⟩:=h
    have hsrc:∃ t∈(aZ.app e z bytes x y).rd,∃ a,lk t s.slots=some (.dat a (some q)):=by
     cases x with
     | t n=>exact ⟨n,hx n (by simp [aQ.rd]),_,hp⟩
     | k v=>simp [bw] at hp
    refine ⟨.dat (.sl (xs++ys)) (some id),.app q e,hK,⟨rfl,hsrc⟩,fun U hs=>⟨.inr rfl,hs.live q e hq⟩,.dat,fun s2 ag K' hk=>?_⟩
    have hq2:cw q s2.live=some e:=by
     cases x with
     | t n=>exact ag.live rfl n (hx n (by simp [aQ.rd])) _ q e hp hq
     | k v=>simp [bw] at hp
    simp only [aV,ag.bw hx hp,ag.ax hy hb,hxs,hys,aq]
    exact ⟨h1,h2,h3,hq2,hk⟩
 case call f args =>
  obtain ⟨as,has,r,fr,hc,hK⟩:=af h
  cases fr with
  | none=>exact Path.val hK fun s2 ag K' hk=>by simp only [aV,ag.bQ (by simp [aZ.rd]) has,aq]; exact ⟨r,none,hc,hk⟩
  | some e=>exact ⟨.dat r (some id),.live e,hK,trivial,fun U hs=>⟨.inr rfl,trivial⟩,.dat,fun s2 ag K' hk=>by simp only [aV,ag.bQ (by simp [aZ.rd]) has,aq]; exact ⟨r,some e,hc,hk⟩⟩
 case dX f args =>
  obtain ⟨p,hp,hnd,h⟩:=af h
  obtain ⟨css,hcs,r,fr,css',hc,hK⟩:=af h
  have hin:∀ U,s.dW U→∀ b∈p.2,U b:=by
   intro U hs b hb
   obtain ⟨k,hk⟩:=List.mem_iff_getElem?.1 hb
   obtain ⟨x,hx,_⟩:=(fh hcs).2 k b hk
   exact (hs.boxes b x hx).1
  have hgo:∀ s2,jP (aZ.dX f args).rd (aZ.dX f args).m5 (aZ.dX f args).isApp s s2→∀ K':SV→S→Prop,K' (.dat r (fr.map fun _=>id)) (Delta.app' (.calls p.2 css' fr) id s2)→aV C id (.dX f args) K' s2:=by
   intro s2 ag K' hk
   obtain ⟨h1,h2⟩:=ag.aR (xs:=args) (by simp [aZ.rd]) (by simp [aZ.m5]) hp hcs
   simp only [aV,h1,h2,aq]
   exact ⟨hnd,r,fr,css',hc,hk⟩
  exact ⟨.dat r (fr.map fun _=>id),.calls p.2 css' fr,hK,⟨rfl,iT hp⟩,fun U hs=>⟨by cases fr with | none=>trivial | some e=>exact .inr rfl,hin U hs⟩,.dat,hgo⟩
 case dw g args =>
  obtain ⟨a,ha,h⟩:=af h
  cases a<;>try (exact h.elim)
  rename_i fn first caps
  cases fn<;>try (exact h.elim)
  obtain ⟨as,has,r,fr,hc,hK⟩:=af h
  have hg:∀ t∈g.rd,t∈(aZ.dw g args).rd:=by simp [aZ.rd]; grind
  have has':∀ t∈aP args,t∈(aZ.dw g args).rd:=by simp [aZ.rd]; grind
  cases fr with
  | none=>exact Path.val hK fun s2 ag K' hk=>by simp only [aV,ag.ax hg ha,ag.bQ has' has,aq]; exact ⟨r,none,hc,hk⟩
  | some e=>exact ⟨.dat r (some id),.live e,hK,trivial,fun U hs=>⟨.inr rfl,trivial⟩,.dat,fun s2 ag K' hk=>by simp only [aV,ag.ax hg ha,ag.bQ has' has,aq]; exact ⟨r,some e,hc,hk⟩⟩
 case ext x i =>
  obtain ⟨a,ha,h⟩:=af h
  obtain ⟨v,hv,hK⟩:=af h
  exact Path.val hK fun s2 ag K' hk=>by simpa [aV,ag.ax (x:=x) (by simp [aZ.rd]) ha,hv] using hk
 case xt e x =>
  obtain ⟨a,ha,h⟩:=af h
  obtain ⟨v,hv,hK⟩:=af h
  exact Path.val hK fun s2 ag K' hk=>by simpa [aV,ag.ax (x:=x) (by simp [aZ.rd]) ha,hv] using hk
 case I6 x i =>
  obtain ⟨p,hp,h⟩:=af h
  cases p<;>try (exact h.elim)
  obtain ⟨a,ha,h⟩:=af h
  obtain ⟨j,hj,h⟩:=af h
  obtain ⟨b,hb,hK⟩:=af h
  exact Path.val hK fun s2 ag K' hk=>by simpa [aV,ag.ax (x:=x) (by simp [aZ.rd]; grind) hp,ag.ax (x:=i) (by simp [aZ.rd]; grind) ha,hj,hb] using hk
 case F3 neg x =>
  obtain ⟨a,ha,h⟩:=af h
  obtain ⟨v,hv,hK⟩:=af h
  exact Path.val hK fun s2 ag K' hk=>by simpa [aV,ag.ax (x:=x) (by simp [aZ.rd]) ha,hv] using hk
 case qO f args =>
  obtain ⟨p,hp,hnd,h⟩:=af h
  obtain ⟨css,hcs,r,hc,hK⟩:=af h
  refine Path.val hK fun s2 ag K' hk=>?_
  obtain ⟨h1,h2⟩:=ag.cq (xs:=args) (by simp [aZ.rd]) (by simp [aZ.m5]) hp hcs
  simp only [aV,h1,h2,aq]
  exact ⟨hnd,r,hc,hk⟩
 case lf g args =>
  obtain ⟨a,ha,h⟩:=af h
  cases a<;>try (exact h.elim)
  rename_i fn first caps
  cases fn<;>try (exact h.elim)
  rename_i f
  cases first<;>try (exact h.elim)
  cases caps<;>try (exact h.elim)
  obtain ⟨p,hp,hnd,h⟩:=af h
  obtain ⟨css,hcs,r,hc,hK⟩:=af h
  have hg:∀ t∈g.rd,t∈(aZ.lf g args).rd:=by simp [aZ.rd]; grind
  refine Path.val hK fun s2 ag K' hk=>?_
  obtain ⟨h1,h2⟩:=ag.cq (xs:=args) (by simp [aZ.rd]; grind) (by simp [aZ.m5]) hp hcs
  simp only [aV,ag.ax hg ha,h1,h2,aq]
  exact ⟨hnd,r,hc,hk⟩
 case dD g args =>
  obtain ⟨a,ha,h⟩:=af h
  cases a<;>try (exact h.elim)
  rename_i fn first caps
  cases fn<;>try (exact h.elim)
  rename_i f
  cases first<;>try (exact h.elim)
  cases caps<;>try (exact h.elim)
  obtain ⟨p,hp,hnd,h⟩:=af h
  obtain ⟨css,hcs,r,fr,css',hc,hK⟩:=af h
  have hin:∀ U,s.dW U→∀ b∈p.2,U b:=by
   intro U hs b hb
   obtain ⟨k,hk⟩:=List.mem_iff_getElem?.1 hb
   obtain ⟨x,hx,_⟩:=(fh hcs).2 k b hk
   exact (hs.boxes b x hx).1
  have hg:∀ t∈g.rd,t∈(aZ.dD g args).rd:=by simp [aZ.rd]; grind
  have hgo:∀ s2,jP (aZ.dD g args).rd (aZ.dD g args).m5 (aZ.dD g args).isApp s s2→∀ K':SV→S→Prop,K' (.dat r (fr.map fun _=>id)) (Delta.app' (.calls p.2 css' fr) id s2)→aV C id (.dD g args) K' s2:=by
   intro s2 ag K' hk
   obtain ⟨h1,h2⟩:=ag.aR (xs:=args) (by simp [aZ.rd]; grind) (by simp [aZ.m5]) hp hcs
   simp only [aV,ag.ax hg ha,h1,h2,aq]
   exact ⟨hnd,r,fr,css',hc,hk⟩
  exact ⟨.dat r (fr.map fun _=>id),.calls p.2 css' fr,hK,⟨rfl,iT hp⟩,fun U hs=>⟨by cases fr with | none=>trivial | some e=>exact .inr rfl,hin U hs⟩,.dat,hgo⟩
 case Fq x n z =>
  obtain ⟨p,hp,h⟩:=af h
  cases p<;>try (exact h.elim)
  ·rename_i b off
   obtain ⟨h4,h⟩:=h
   obtain ⟨bx,hb,hlen,hK⟩:=af h
   refine ⟨_,.vT [b] [bx.cells],hK,⟨rfl,fun b' hb'=>?_⟩,fun U hs=>⟨trivial,trivial⟩,.dat,fun s2 ag K' hk=>?_⟩
   ·simp only [List.mem_singleton] at hb'; subst hb'; exact gx (x:=x) hp
   ·simp only [aV,ag.bw (x:=x) (by simp [aZ.rd]) hp,ag.bF (x:=x) (by simp [aZ.m5]) hp hb,aq]
    exact ⟨h4,hlen,hk⟩
  ·obtain ⟨hlen,hK⟩:=h
   refine Path.val hK fun s2 ag K' hk=>?_
   simp only [aV,ag.bw (x:=x) (by simp [aZ.rd]) hp,aq]
   exact ⟨hlen,hk⟩
 case AG fn a b =>
  obtain ⟨as,has,h⟩:=af h
  obtain ⟨p,hp,hok,h⟩:=af h
  obtain ⟨css,hcs,hK⟩:=af h
  have hgo:∀ s2,jP (aZ.AG fn a b).rd (aZ.AG fn a b).m5 (aZ.AG fn a b).isApp s s2→∀ K':SV→S→Prop,K' (.dat (.fn fn as (ir p.1 css)) none) (eM p.2 css s2)→aV C id (.AG fn a b) K' s2:=by
   intro s2 ag K' hk
   obtain ⟨h1,h2⟩:=ag.aR (xs:=b) (by simp [aZ.rd]; grind) (by simp [aZ.m5]) hp hcs
   simp only [aV,ag.bQ (xs:=a) (by simp [aZ.rd]; grind) has,h1,h2,aq]
   exact ⟨hok,hk⟩
  cases b with
  | nil =>
   simp [bZ] at hp
   subst hp
   have e:∀ s:S,eM [] css s=s:=fun s=>by cases css<;>rfl
   simp only [e] at hK hgo
   exact Path.val hK hgo
  | cons x b=>exact ⟨_,.vT p.2 css,hK,⟨rfl,iT hp⟩,fun U hs=>⟨trivial,trivial⟩,.dat,hgo⟩
 case F2 z x lo hi =>
  obtain ⟨a,ha,h⟩:=af h
  obtain ⟨xs,hxs,h⟩:=af h
  obtain ⟨l,hl,h⟩:=af h
  obtain ⟨m,hm,h1,h2,hK⟩:=af h
  refine Path.val hK fun s2 ag K' hk=>?_
  simp only [aV,ag.ax (x:=x) (by simp [aZ.rd]; grind) ha,hxs,ag.qR (x:=lo) (by simp [aZ.rd]; grind) hl,ag.qS (x:=hi) (by simp [aZ.rd]; grind) hm,aq]
  exact ⟨h1,h2,hk⟩
 case nc x =>
  obtain ⟨p,hp,h⟩:=af h
  cases p with
  | ptr b o=>exact Path.sv h (fun U hs=>(hs.bw hp:(SV.ptr _ _).dW U)) (fun b' off' e=>.inr (by cases e; exact gx (x:=x) hp)) fun s2 ag K' hk=>by simpa [aV,ag.bw (x:=x) (by simp [aZ.rd]) hp] using hk
  | rp cs=>exact Path.sv h (fun U hs=>trivial) .rp fun s2 ag K' hk=>by simpa [aV,ag.bw (x:=x) (by simp [aZ.rd]) hp] using hk
  | undef=>exact h.elim
  | vs _ _ _ _=>exact h.elim
  | kY _ _ _=>exact h.elim
  | raw _ _=>exact h.elim
  | dat a q =>
   cases a<;>try (exact h.elim)
   case ref cs=>exact Path.sv h (fun U hs=>trivial) .rp fun s2 ag K' hk=>by simpa [aV,ag.bw (x:=x) (by simp [aZ.rd]) hp] using hk
   rename_i fn as bs
   cases fn<;>try (exact h.elim)
   exact Path.sv h (fun U hs=>hs.bw (v:=.dat _ q) hp) .dat fun s2 ag K' hk=>by simpa [aV,ag.bw (x:=x) (by simp [aZ.rd]) hp] using hk
 case mm mx args =>
  obtain ⟨as,has,h⟩:=af h
  cases as with
  | nil=>exact h.elim
  | cons a r =>
   obtain ⟨v,hv,hK⟩:=af h
   exact Path.val hK fun s2 ag K' hk=>by simpa [aV,ag.bQ (xs:=args) (by simp [aZ.rd]) has,hv] using hk
end
end Go.Eng
