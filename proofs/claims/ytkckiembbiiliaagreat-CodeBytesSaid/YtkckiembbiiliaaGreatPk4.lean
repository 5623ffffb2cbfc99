/- The engine and the library,part 4 of 21: what the proofs of this seat need of them. -/
import Derived.Test.YtkckiembbiiliaaGreatPk3
set_option linter.unnecessarySimpa false
set_option linter.unusedSimpArgs false
set_option linter.unusedVariables false
set_option linter.defProp false
set_option maxRecDepth 10000
set_option maxHeartbeats 4000000
namespace Go.Eng
open Go
open Go.RowKit (Below)
section
variable{P:Program} {nt:Nat} {n0:gO} {w0:World} {π0:Nat->Nat->Prop} {U:Nat->Prop} {s:S} {a:Act} {w:World} {β:Nat->Nat} {τ:Nat->Value} {π:Nat->Nat->Prop}
theorem Rel.vS(R:Rel P nt n0 w0 π0 U s a w β τ π) {X:Operand} {x:bE} {i:Int} (hx:cn X=some x) (hi:Eng.vS (Eng.aQ s x)=some i):∃k,a.eval X=.int k i:=by
 cases h:Eng.aQ s x with
 |none=>rw[h]at hi;cases hi
 |some b=>rw[h]at hi;exact R.idx hx h hi
theorem Rel.slice(R:Rel P nt n0 w0 π0 U s a w β τ π) {t e:TypeId} {z:Nat} {X:Operand} {x:bE} {lo hi:Option Operand} {lo' hi':Option bE} (ht:P.underlying t=some (.slice e)) (hz:fq P e=some z) (hx:cn X=some x) (hl:cOpt lo=some lo') (hh:cOpt hi=some hi')
  {id:Nat} {K:SV->S->Prop} (h:bN (Pure P) id (.KS z x lo' hi') K s):
  ∃v y,(Instr.sliceAt t (a.eval X) (lo.map a.eval) (hi.map a.eval) none).run P w=.ok y w/\RV β τ w π v y/\v.gp U/\K v s:=by
 simp only[bN]at h;obtain⟨b,hb,k1⟩:=af h;obtain⟨xs,hxs,k2⟩:=af k1;obtain⟨l,hlo,k3⟩:=af k2;obtain⟨m,hhi,⟨hl0,hlm,hmx⟩,hrow,hK⟩:=af k3
 have hd:=R.aQ hx hb
 have hsz:=dN (P:=P) (w:=w) hz
 -- the bounds
 have hlow:(lo=none/\l=0)\/∃L k,lo=some L/\a.eval L=.int k l:=by
  cases lo with
  |none=>simp[cOpt]at hl;subst hl;simp[yl]at hlo;exact .inl ⟨rfl,hlo.symm⟩
  |some L=>
   simp only[cOpt,Option.map_eq_some_iff]at hl;obtain⟨x',hx',rfl⟩:=hl;obtain⟨k,hk⟩:=R.vS hx' hlo;exact .inr ⟨L,k,rfl,hk⟩
 have hhigh:(hi=none/\m=xs.length)\/∃H k,hi=some H/\a.eval H=.int k m:=by
  cases hi with
  |none=>simp[cOpt]at hh;subst hh;simp[ym]at hhi;exact .inl ⟨rfl,hhi.symm⟩
  |some H=>
   simp only[cOpt,Option.map_eq_some_iff]at hh;obtain⟨x',hx',rfl⟩:=hh;obtain⟨k,hk⟩:=R.vS hx' hhi;exact .inr ⟨H,k,rfl,hk⟩
 have hbnd:∀cap,xs.length<=cap->(Instr.sliceBounds true xs.length cap (lo.map a.eval) (hi.map a.eval) none).run P w=.ok (l.toNat,m.toNat,cap) w:=by
  intro cap hcap
  have hm0:(0:Int)<=m:=by omega
  have hmc:m<=cap:=by omega
  have hmn:(m.toNat:Int)=m:=Int.toNat_of_nonneg hm0
  rcases hlow with⟨rfl,rfl⟩|⟨L,k,rfl,hL⟩<;>rcases hhigh with⟨rfl,hm⟩|⟨H,k',rfl,hH⟩
  ·subst hm;simp[Instr.sliceBounds]
  ·simp[Instr.sliceBounds,hH,run_sliceBound,hm0,hmc]
  ·have hL':=run_sliceBound (P:=P) w k l xs.length .sliceB hl0 (by omega)
   have hmx':m.toNat=xs.length:=by omega
   simp[Instr.sliceBounds,hL,hL',hmx']
  ·have hH':=run_sliceBound (P:=P) w k' m cap .sliceAcap hm0 hmc
   have hL':=run_sliceBound (P:=P) w k l m.toNat .sliceB hl0 (by omega)
   simp[Instr.sliceBounds,hL,hH,hH',hL']
 have hat:(Instr.sliceAt t (a.eval X) (lo.map a.eval) (hi.map a.eval) none).run P w=(Instr.slice t (a.eval X) (lo.map a.eval) (hi.map a.eval) none).run P w:=by
  simp[Instr.sliceAt,run_underlying ht]
 rw[hat]
 cases b<;>simp only[rowsOf]at hxs<;>try(cases hxs;done)
 ·--nil
  cases hxs
  have hv:a.eval X=.slice none 0 0:=by generalize a.eval X=v at hd;cases hd;rfl
  have h0:=hbnd 0 (by simp)
  simp at hmx
  have hlz:l=0:=by omega
  have hmz:m=0:=by omega
  subst hlz hmz
  refine⟨.dat .bL none,.slice none 0 0,?_,⟨.bL,fun t ht=>by cases ht⟩,trivial,hK⟩
  simp only[List.length_nil]at h0;simp[hv,Instr.slice,run_underlying ht,h0,hsz]
 ·cases hxs
  generalize hv:a.eval X=v at hd
  cases hd with
  |HA A=>
   have h0:=hbnd 0 (by simp)
   simp at hmx
   have hlz:l=0:=by omega
   have hmz:m=0:=by omega
   subst hlz hmz
   refine⟨.dat (.sl []) none,.slice (some A) 0 0,?_,⟨.HA A,fun t ht=>by cases ht⟩,trivial,hK⟩
   simp only[List.length_nil]at h0;simp[Instr.slice,run_underlying ht,h0,hsz]
  |sl _ B off cap z' f h1 h2 h3 h4 h5 h6=>
   have h0:=hbnd cap h1
   have hln:l.toNat<=m.toNat:=by omega
   have hmn:m.toNat<=xs.length:=by omega
   have hlen:((xs.take m.toNat).drop l.toNat).length=m.toNat-l.toNat:=by simp;omega
   have hget:∀(i:Nat) (r:List AV),((xs.take m.toNat).drop l.toNat)[i]? =some r->xs[l.toNat+i]? =some r:=by
    intro i r hr;rw[List.getElem?_drop,List.getElem?_take]at hr;split at hr
    ·exact hr
    ·cases hr
   have hrun:(Instr.slice t (.slice (some ⟨B,off,none⟩) xs.length cap) (lo.map a.eval) (hi.map a.eval) none).run P w=.ok (.slice (some (if cap=l.toNat then⟨B,off,none⟩else⟨B,off+l.toNat*z,none⟩)) (m.toNat-l.toNat) (cap-l.toNat)) w:=by
    simp only[Instr.slice,Sem.run_bind,run_underlying ht,Result.andThen_ok,h0,hsz,Sem.run_pure]
    split<;>simp[iA]
   refine⟨.dat (.sl ((xs.take m.toNat).drop l.toNat)) none,_,hrun,⟨?_,fun t ht=>by cases ht⟩,trivial,hK⟩
   rw[<-hlen]
   by_cases hcl:cap=l.toNat
   ·rw[if_pos hcl]
    have hnil:(xs.take m.toNat).drop l.toNat=[]:=List.eq_nil_of_length_eq_zero (by rw[hlen];omega)
    rw[hnil]
    exact .sl [] B off _ z' f (by simp) (fun i r hr=>by simp at hr) (fun i j r a hr=>by simp at hr) (fun i j r a hr=>by simp at hr) (fun i j r a hr=>by simp at hr) (fun i j r a hr=>by simp at hr)
   ·rw[if_neg hcl]
    have hzz:∀(i:Nat) (r:List AV),((xs.take m.toNat).drop l.toNat)[i]? =some r->z'=z:=fun i r hr=>by
     rw[<-h2 _ _ (hget i r hr)];exact hrow r (List.mem_of_getElem? (hget i r hr))
    refine .sl _ B (off+l.toNat*z) _ z (fun i j=>f (l.toNat+i) j) (by rw[hlen];omega) (fun i r hr=>hrow r (List.mem_of_getElem? (hget i r hr))) (fun i j r x hr hx=>h3 _ j r x (hget i r hr) hx) (fun i j r x hr hx=>?_) (fun i j r x hr hx=>?_) (fun i j r x hr hx=>h6 _ j r x (hget i r hr) hx)
    ·have e:=hzz i r hr
     subst e
     have:=h4 _ j r x (hget i r hr) hx
     rwa[show off+(l.toNat+i)*z'+j=off+l.toNat*z'+i*z'+j by rw[Nat.add_mul];omega]at this
    ·have e:=hzz i r hr
     subst e
     have:=h5 _ j r x (hget i r hr) hx
     rwa[show off+(l.toNat+i)*z'+j=off+l.toNat*z'+i*z'+j by rw[Nat.add_mul];omega]at this
theorem Ld{t:TypeId} {ks:List CK} {neg:Bool} {op:BinOp} (hop:(op=.eql/\neg=false)\/(op=.neq/\neg=true)) (hk:mM P 20 t=some ks) (hg:(nC P t&& !P.eqGuardType P.depth t)=true) {as bs:List AV} {X Y:Operand} {x y:Value} {e:Bool}
  (hx:DV w π (.agg as) x) (hy:DV w π (.agg bs) y) (he:bt ks as bs=some e):(do eqGuard op t X Y x y;binOp op t x y:Sem Value).run P w=.ok (.bool (e !=neg)) w:=by
 simp only[Bool.and_eq_true,Bool.not_eq_true']at hg
 cases hx with
 |agg _ xs h1 h2 h3=>
  cases hy with
  |agg _ ys k1 k2 k3=>
   have hvx:HB w π P t as (.agg xs):=by
    unfold HB;rw[if_pos hg.1];exact⟨xs,rfl,⟨by simpa using h1,fun i a v ha hv=>h3 i a v ha (by simpa using hv)⟩,h2⟩
   have hvy:HB w π P t bs (.agg ys):=by
    unfold HB;rw[if_pos hg.1];exact⟨ys,rfl,⟨by simpa using k1,fun i a v ha hv=>k3 i a v ha (by simpa using hv)⟩,k2⟩
   have hr:=Ow 20 t ks hk Op.maxDepth (by decide) as bs _ _ e hvx hvy he
   have hgd:=run_eqGuard_agg w op t X Y xs ys hg.2
   rw[Sem.run_bind,hgd]
   rcases hop with⟨rfl,rfl⟩|⟨rfl,rfl⟩
   ·simp[binOp,Op.equal,hr]
   ·simp[binOp,Op.equal,hr]
theorem Lf{t:TypeId} {neg:Bool} {op:BinOp} (hop:(op=.eql/\neg=false)\/(op=.neq/\neg=true)) (hs:sliceB P t=true) {a:AV} {b:Bool} {X Y:Operand} {x y:Value}
  (hb:CE neg a=some b) (hx:DV w π a x) (hy:DV w π .bL y):(do eqGuard op t X Y x y;binOp op t x y:Sem Value).run P w=.ok (.bool b) w:=by
 have hu:∃e,P.underlying t=some (.slice e):=by
  unfold sliceB at hs;split at hs
  ·exact⟨_,by assumption⟩
  ·cases hs
 obtain⟨e,hu⟩:=hu;cases hy
 have hrun:∀(A:Option Addr) (n c:Nat),(binOp .eql t (.slice A n c) (.slice none 0 0)).run P w=.ok (.bool A.isNone) w:=fun A n c=>Lib.run_eql_slice_nil w t e A n c 0 0 hu
 have hrun2:∀(A:Option Addr) (n c:Nat),(binOp .neq t (.slice A n c) (.slice none 0 0)).run P w=.ok (.bool !A.isNone) w:=fun A n c=>by
  simp only[binOp];simp[Op.equal,Op.maxDepth,Lib.run_equalIn_slice_nil w 9999 t e A n c 0 0 hu]
 cases hx<;>simp only[CE,Option.some.injEq,reduceCtorEq]at hb<;>subst hb
 all_goals(rcases hop with⟨rfl,rfl⟩|⟨rfl,rfl⟩<;>rw[Sem.run_bind,gX _ _ _ _ (fun _ h=>by cases h) (fun h=>by cases h)])
 all_goals first|exact hrun _ _ _|exact hrun2 _ _ _
theorem AB.weaken{ok ok':Nat->Prop} {e:Nat} {v:Value} (h:AB P w π ok e v) (hn:∀B,ok B->ok' B):AB P w π ok' e v:=by
 rcases h with h|⟨B,len,cap,cur,i,h1,h2,h3⟩
 ·exact .inl h
 ·exact .inr ⟨B,len,cap,cur,i,h1,hn _ h2,h3⟩
theorem Rel.called(R:Rel P nt n0 w0 π0 U s a w β τ π) {id:Nat} (hid:¬U id) {w':World} {π':Nat->Nat->Prop} {v:Value} {r:AV} {fr:Option Nat} (hbel:Below w.heap.size w w') (hp:∀b o,π b o->π' b o) (hp':∀b o,π' b o->π b o\/w.heap.size<=b)
  (hpl:∀b o,π' b o->b<w'.heap.size) (hd:DV w' π' r v) (ht:∀t,fr=some t->AB P w' π' (fun B=>w.heap.size<=B) t v):
  ∃τ',RV β τ' w' π' (.dat r (fr.map fun _=>id)) v/\Rel P nt n0 w0 π0 (eE U id) {s with live:=match(generalizing:=false) fr with|some e=>(id,e)::s.live|none=>s.live} a w' β τ' π':=by
 have hsz:n0.n<=w.heap.size:=Nat.le_trans R.fu R.below.size
 cases fr with
 |none=>exact⟨τ,⟨hd,fun t h=>by cases h⟩,R.frame (fun _ _=>rfl) (fun _ _=>rfl) (fun _ h=>.inl h) hp hp' hpl hbel⟩
 |some e=>
  have R1:Rel P nt n0 w0 π0 U s a w' β τ π':=R.frame (fun _ _=>rfl) (fun _ _=>rfl) (fun _ h=>h) hp hp' hpl hbel
  have htk:=ht e rfl
  refine⟨Ai τ id v,⟨hd,fun t h=>by cases h;rw[cj]⟩,R1.qG hid (htk.weaken (fun B h=>.inl (Nat.le_trans hsz h))) (fun q e' B hq hB hB'=>?_) (fun b x hb hB'=>?_)⟩
  ·have h1:=((R.live q e' hq).2.block hB).2
   have h2:=(htk.block hB').1
   omega
  ·have h1:=R.kJ hb
   have h2:=(htk.block hB').1
   omega
theorem d7:∀{l:List Nat},cY l=true->l.Nodup
 |[],_=>List.nodup_nil
 |b::bs,h=>by
  simp only[cY,Bool.and_eq_true,Bool.not_eq_true']at h;rw[List.nodup_cons]
  exact⟨by simpa using h.1,d7 h.2⟩
theorem gh{l:List (Nat×bY)}:∀{ids:List Nat} {css:List (List AV)},bh l ids=some css->css.length=ids.length/\∀(k:Nat) (b:Nat),ids[k]? =some b->∃x,ct b l=some x/\css[k]? =some x.cells
 |[],css,h=>by simp[bh]at h;subst h;exact⟨rfl,fun k b hb=>by simp at hb⟩
 |b::bs,css,h=>by
  simp only[bh]at h
  split at h<;>try(cases h;done)
  rename_i x css' h1 h2;cases h;obtain⟨e,hs⟩:=gh h2
  refine⟨by simp[e],fun k b' hb=>?_⟩
  cases k with
  |zero=>simp at hb;subst hb;exact⟨x,h1,rfl⟩
  |succ k=>exact hs k b' (by simpa using hb)
theorem ow:∀{ids:List Nat} {css:List (List AV)} {l:List (Nat×bY)} {n:Nat} {x:bY},ids.Nodup->css.length=ids.length->ct n (dz ids css l)=some x->
  (∃(k:Nat) (cs:List AV),ids[k]? =some n/\css[k]? =some cs/\x=⟨cs,[]⟩/\∃y,ct n l=some y)\/(n∉ids/\ct n l=some x)
 |[],css,l,n,x,_,_,h=>.inr ⟨by simp,by cases css<;>exact h⟩
 |b::bs,[],l,n,x,_,hl,h=>by simp at hl
 |b::bs,cs::css,l,n,x,hnd,hl,h=>by
  simp only[dz]at h;rw[List.nodup_cons]at hnd
  rcases ow hnd.2 (by simpa using hl) h with⟨k,cs',h1,h2,h3,y,hy⟩|⟨h1,h2⟩
  ·refine .inl ⟨k+1,cs',by simpa using h1,by simpa using h2,h3,?_⟩
   rcases mR hy with⟨_,_,y',hy'⟩|⟨_,hy'⟩
   ·exact⟨y',by rename_i e _;rw[e];exact hy'⟩
   ·exact⟨y,hy'⟩
  ·rcases mR h2 with⟨e,hx,y,hy⟩|⟨hne,hx⟩
   ·subst e;exact .inl ⟨0,cs,rfl,rfl,hx,y,hy⟩
   ·exact .inr ⟨by simp[hne,h1],hx⟩
theorem cG.get{w:World} {π:Nat->Nat->Prop}:∀{css:List (List AV)} {Bs:List Nat},cG w π css Bs->css.length=Bs.length/\∀(k:Nat) (cs:List AV) (B:Nat),css[k]? =some cs->Bs[k]? =some B->ou (fun _=>undef) w π B ⟨cs,[]⟩
 |[],[],h=>⟨rfl,fun k cs B h=>by simp at h⟩
 |[],B::Bs,h=>h.elim
 |cs::css,[],h=>h.elim
 |cs::css,B::Bs,h=>by
  obtain⟨e,hs⟩:=cG.get h.2
  refine⟨by simp[e],fun k cs' B' h1 h2=>?_⟩
  cases k with
  |zero=>simp at h1 h2;subst h1;subst h2;exact h.1
  |succ k=>exact hs k cs' B' (by simpa using h1) (by simpa using h2)
theorem ou.tR{τ τ':Nat->Value} {w:World} {π:Nat->Nat->Prop} {B:Nat} {x:bY} (h:ou τ w π B x):ou τ' w π B ⟨x.cells,[]⟩:=by
 obtain⟨cur,el,h1,h2,h3,_,h5⟩:=h
 exact⟨cur,el,h1,h2,h3,fun o q hq=>(by cases hq),h5⟩
theorem Rel.nK(R:Rel P nt n0 w0 π0 U s a w β τ π):∀{ids:List Nat} {css:List (List AV)},bh s.boxes ids=some css->cG w π css (ids.map β)
 |[],css,h=>by simp[bh]at h;subst h;trivial
 |b::bs,css,h=>by
  simp only[bh]at h
  split at h<;>try(cases h;done)
  rename_i x css' h1 h2;cases h;exact⟨(R.boxes b x h1).2.2.1.tR,R.nK h2⟩
theorem Rel.nodup(R:Rel P nt n0 w0 π0 U s a w β τ π):∀{ids:List Nat} {css:List (List AV)},ids.Nodup->bh s.boxes ids=some css->(ids.map β).Nodup
 |[],css,_,h=>List.nodup_nil
 |b::bs,css,hnd,h=>by
  simp only[bh]at h
  split at h<;>try(cases h;done)
  rename_i x css' h1 h2;rw[List.nodup_cons]at hnd;simp only[List.map_cons,List.nodup_cons]
  refine⟨fun hm=>?_,R.nodup hnd.2 h2⟩
  obtain⟨b',hb',e⟩:=List.mem_map.1 hm
  obtain⟨k,hk⟩:=List.mem_iff_getElem?.1 hb'
  obtain⟨y,hy,_⟩:=(gh h2).2 k b' hk
  have:=R.inj b' b y x hy h1 e
  exact hnd.1 (this▸hb')
theorem Rel.dB(R:Rel P nt n0 w0 π0 U s a w β τ π):∀{Xs:List Operand} {xs:List bE} {pas:List (Option AV)} {ids:List Nat},∀{hh:Bool},Xs.mapM cn=some xs->Eng.dB hh s xs=some (pas,ids)->eV w π pas (ids.map β) (Xs.map a.eval)/\(hh=false->qn pas=true)
 |[],xs,pas,ids,hh,hx,hv=>by
  simp at hx;subst hx;simp[Eng.dB]at hv;obtain⟨rfl,rfl⟩:=hv
  exact⟨trivial,fun _=>rfl⟩
 |X::Xs,xs,pas,ids,hh,hx,hv=>by
  simp only[List.mapM_cons,Option.bind_eq_bind,Option.bind_eq_some_iff,Option.pure_def,Option.some.injEq]at hx;obtain⟨x,hx,xs',hxs,rfl⟩:=hx;simp only[Eng.dB]at hv
  split at hv<;>try(cases hv;done)
  ·rename_i av q as bs h1 h2
   cases hv
   have hd:=(R.bM hx h1).1.1
   refine⟨yy hd (R.dB hxs h2).1,fun e=>?_⟩
   have:=(R.dB hxs h2).2 e
   have hne:av≠.hole:=fun e=>by subst e;cases hd
   cases av<;>first|exact absurd rfl hne|exact this
  ·rename_i cs as bs h1 h2
   cases hv;exact⟨yy (RV.ref.1 (R.bM hx h1).1) (R.dB hxs h2).1,(R.dB hxs h2).2⟩
  ·rename_i b as bs h1 h2
   cases hv;exact⟨⟨(R.bM hx h1).1,(R.dB hxs h2).1⟩,(R.dB hxs h2).2⟩
  ·rename_i b as bs h1 h2
   cases hh with
   |false=>cases hv
   |true=>
    cases hv
    exact⟨⟨(R.bM hx h1).1,(R.dB hxs h2).1⟩,fun e=>by cases e⟩
theorem Rel.rX(R:Rel P nt n0 w0 π0 U s a w β τ π) {id:Nat} (hid:¬U id) {ids:List Nat} {css css':List (List AV)} (hnd:ids.Nodup) (hcs:bh s.boxes ids=some css) (hlen:css'.length=css.length)
  {w':World} {π':Nat->Nat->Prop} {v:Value} {r:AV} {fr:Option Nat} (hbel:sW (gO.gY w (ids.map β)) w w') (hp:∀b o,π b o->π' b o) (hp':∀b o,π' b o->π b o\/w.heap.size<=b)
  (hpl:∀b o,π' b o->b<w'.heap.size) (hbx:cG w' π' css' (ids.map β)) (hd:DV w' π' r v) (ht:∀t,fr=some t->AB P w' π' (fun B=>w.heap.size<=B) t v):
  ∃τ',RV β τ' w' π' (.dat r (fr.map fun _=>id)) v/\Rel P nt n0 w0 π0 (eE U id) {s with boxes:=dz ids css' s.boxes,live:=match(generalizing:=false) fr with|some e=>(id,e)::s.live|none=>s.live} a w' β τ' π':=by
 obtain⟨hlc,hget⟩:=gh hcs
 have hlen':css'.length=ids.length:=by omega
 have hsz:n0.n<=w.heap.size:=Nat.le_trans R.fu R.below.size
 have hmem:∀B,B∈ids.map β->∃b x,b∈ids/\ct b s.boxes=some x/\β b=B:=fun B hB=>by
  obtain⟨b,hb,e⟩:=List.mem_map.1 hB
  obtain⟨k,hk⟩:=List.mem_iff_getElem?.1 hb
  obtain⟨x,hx,_⟩:=hget k b hk;exact⟨b,x,hb,hx,e⟩
 have hother:∀k,k<w.heap.size->k∉ids.map β->w'.heap[k]? =w.heap[k]?:=fun k hk hx=>hbel.block k hk hx
 have hnp:∀B,B∈ids.map β->∀o,¬π B o:=fun B hB=>by
  obtain⟨b,x,_,hx,e⟩:=hmem B hB;obtain⟨_,_,⟨_,_,_,_,_,_,hn⟩,_⟩:=R.boxes b x hx;rw[<-e];exact hn
 have hc:∀b o,π b o->w'.cell? ⟨b,o,none⟩=w.cell? ⟨b,o,none⟩:=fun b o h=>
  World.cell?_of_block (w:=w) (hother b (R.ej b o h) (fun hm=>hnp b hm o h))
 have hboxlt:∀b x,ct b s.boxes=some x->β b<w.heap.size:=fun b x h=>R.kJ h
 have hold:∀b x,ct b (dz ids css' s.boxes)=some x->∃y,ct b s.boxes=some y:=fun b x h=>by
  rcases ow hnd hlen' h with⟨_,_,_,_,_,hy⟩|⟨_,hx⟩
  ·exact hy
  ·exact⟨x,hx⟩
 have R1:Rel P nt n0 w0 π0 U {s with boxes:=dz ids css' s.boxes} a w' β τ π':=by
  refine⟨R.size,fun t v h=>?_,fun b x h=>?_,fun b b' x x' h h' e=>?_,fun q e h=>?_,R.bS,fun q e b x h h' hB=>?_,R.below.trans ⟨hbel.os,hbel.tape,hbel.output,hbel.size,fun k hk hX=>?_,hbel.others⟩,R.fu,hpl,fun b o h=>hp _ _ (R.eo b o h),fun b o h=>?_,R.lQ,R.jt,fun b o h=>(hc b o (R.eo b o h)).trans (R.kept b o h)⟩
  ·obtain⟨⟨x,hx,hv⟩,hu⟩:=R.slots t v h
   exact⟨⟨x,hx,RV.mono (fun _ _=>rfl) (fun _ _=>rfl) hp hc hu hv⟩,hu⟩
  ·rcases ow hnd hlen' h with⟨k,cs,h1,h2,rfl,y,hy⟩|⟨hni,hx⟩
   ·obtain⟨g1,g2,g3,g4⟩:=R.boxes b y hy
    refine⟨g1,g2,?_,fun o q hq=>by cases hq⟩
    exact(hbx.get.2 k cs (β b) h2 (by simp[h1])).tR
   ·obtain⟨g1,g2,g3,g4⟩:=R.boxes b x hx
    have hnm:β b∉ids.map β:=fun hm=>by
     obtain⟨b',x',hb',hx',e⟩:=hmem _ hm
     exact hni (R.inj b' b x' x hx' hx e▸hb')
    refine⟨g1,g2,g3.keep (fun _ _=>rfl) g4 (hother _ (hboxlt b x hx) hnm) hp hc (fun o ho=>?_),g4⟩
    rcases hp' _ _ ho with h|h
    ·obtain⟨_,_,_,_,_,_,hn⟩:=g3;exact hn o h
    ·have:=hboxlt b x hx;omega
  ·obtain⟨y,hy⟩:=hold b x h
   obtain⟨y',hy'⟩:=hold b' x' h';exact R.inj b b' y y' hy hy' e
  ·obtain⟨h1,h2⟩:=R.live q e h
   refine⟨h1,h2.keep (fun B hB=>hother B (h2.block hB).2 (fun hm=>?_)) (fun B o hB ho=>?_)⟩
   ·obtain⟨b,x,_,hx,eb⟩:=hmem B hm
    exact R.cK q e b x h hx (by rw[hB,eb])
   ·rcases hp' _ _ ho with h|h
    ·exact h
    ·have:=(h2.block hB).2;omega
  ·obtain⟨y,hy⟩:=hold b x h'
   exact R.cK q e b y h hy hB
  ·refine hother k (by omega) (fun hm=>?_)
   obtain⟨b,x,_,hx,eb⟩:=hmem k hm
   rcases(R.boxes b x hx).2.1 with h|h
   ·omega
   ·rw[eb]at h;exact hX h.2
  ·rcases hp' b o h with h|h
   ·exact R.cH b o h
   ·exact .inr (.inl (by omega))
 cases fr with
 |none=>exact⟨τ,⟨hd,fun t h=>by cases h⟩,R1.sub fun _ h=>.inl h⟩
 |some e=>
  have htk:=ht e rfl
  refine⟨Ai τ id v,⟨hd,fun t h=>by cases h;rw[cj]⟩,R1.qG hid (htk.weaken (fun B h=>.inl (Nat.le_trans hsz h))) (fun q e' B hq hB hB'=>?_) (fun b x hb hB'=>?_)⟩
  ·have h1:=((R.live q e' hq).2.block hB).2
   have h2:=(htk.block hB').1
   omega
  ·obtain⟨y,hy⟩:=hold b x hb
   have h1:=hboxlt b y hy
   have h2:=(htk.block hB').1
   omega
theorem yA{b o q:Nat}:∀{l:List (Nat×bY)} {n:Nat} {x:bY},ct n (Eg b o q l)=some x->(n=b/\∃y,ct b l=some y/\x=⟨y.cells,[(o,q)]⟩)\/(n≠b/\ct n l=some x)
 |[],n,x,h=>by simp[Eg,ct]at h
 |(k,v)::r,n,x,h=>by
  simp only[Eg]at h
  by_cases hk:b=k
  ·subst hk
   simp only[beq_self_eq_true,cond_true,ct]at h
   by_cases hn:n=b
   ·subst hn;simp only[beq_self_eq_true,cond_true,Option.some.injEq]at h
    exact .inl ⟨rfl,v,by simp[ct],h.symm⟩
   ·have hn':(n==b)=false:=by simpa using hn
    simp only[hn',cond_false]at h
    exact .inr ⟨hn,by simp only[ct,hn',cond_false];exact h⟩
  ·have hk':(b==k)=false:=by simpa using hk
   simp only[hk',cond_false,ct]at h
   by_cases hn:n=k
   ·subst hn;simp only[beq_self_eq_true,cond_true]at h
    exact .inr ⟨fun e=>hk e.symm,by simp only[ct,beq_self_eq_true,cond_true];exact h⟩
   ·have hn':(n==k)=false:=by simpa using hn
    simp only[hn',cond_false]at h
    rcases yA h with⟨e,y,hy,hx⟩|⟨e,hx⟩
    ·exact .inl ⟨e,y,by simp only[ct,hk',cond_false];exact hy,hx⟩
    ·exact .inr ⟨e,by simp only[ct,hn',cond_false];exact hx⟩
theorem Rel.tag(R:Rel P nt n0 w0 π0 U s a w β τ π) {b o q:Nat} (hU:U q) (hv:∀cur el,w.heap[β b]? =some (.cells cur el (0,0))->cur[o]? =some (τ q)):Rel P nt n0 w0 π0 U {s with boxes:=Eg b o q s.boxes} a w β τ π:=by
 have hold:∀n x,ct n (Eg b o q s.boxes)=some x->∃y,ct n s.boxes=some y:=fun n x h=>by
  rcases yA h with⟨rfl,y,hy,_⟩|⟨_,h⟩
  ·exact⟨y,hy⟩
  ·exact⟨x,h⟩
 refine⟨R.size,R.slots,fun n x h=>?_,fun b1 b2 x x' h h' e=>?_,R.live,R.bS,fun q' e n x h h' hB=>?_,R.below,R.fu,R.ej,R.eo,R.cH,R.lQ,R.jt,R.kept⟩
 ·rcases yA h with⟨rfl,y,hy,rfl⟩|⟨_,h⟩
  ·obtain⟨g1,g2,⟨cur,el,k1,k2,k3,_,k5⟩,_⟩:=R.boxes n y hy
   refine⟨g1,g2,⟨cur,el,k1,k2,k3,fun o' q' hq=>?_,k5⟩,fun o' q' hq=>?_⟩
   all_goals
    simp only[eK]at hq
    by_cases ho:o'=o
    ·subst ho
     simp only[beq_self_eq_true,cond_true,Option.some.injEq]at hq;subst hq
     first|exact hv cur el k1|exact hU
    ·have ho':(o'==o)=false:=by simpa using ho
     simp[ho']at hq
  ·exact R.boxes n x h
 ·obtain⟨y,hy⟩:=hold b1 x h
  obtain⟨y',hy'⟩:=hold b2 x' h';exact R.inj b1 b2 y y' hy hy' e
 ·obtain⟨y,hy⟩:=hold n x h'
  exact R.cK q' e n y h hy hB
theorem H7{bx:List (Nat×bY)} {lv:List (Nat×Nat)} {ids:List Nat} {j o e:Nat} {qo:Option Nat} (h:V3 bx lv ids (some (j,o,e))=some qo):∃b x q,ids[j]? =some b/\ct b bx=some x/\eK o x.tags=some q/\eK q lv=some e/\qo=some q:=by
 simp only[V3,Option.bind_eq_some_iff]at h;obtain⟨b,h1,x,h2,q,h3,h4⟩:=h;split at h4
 ·rename_i h5;cases h4;exact⟨b,x,q,h1,h2,h3,h5,rfl⟩
 ·cases h4
theorem Rel.Gh(R:Rel P nt n0 w0 π0 U s a w β τ π) {ids:List Nat} {css:List (List AV)} (hcs:bh s.boxes ids=some css) {tg:Option (Nat×Nat×Nat)} {qo:Option Nat} (hq:V3 s.boxes s.live ids tg=some qo):
  ∃tv,Eng.Gh P w π (ids.map β) (fun _=>True) tv tg/\(tg.isSome=true->∃q e,qo=some q/\eK q s.live=some e/\tv=τ q):=by
 cases tg with
 |none=>exact⟨undef,trivial,fun h=>by cases h⟩
 |some p=>
  obtain⟨j,o,e⟩:=p;obtain⟨b,x,q,h1,h2,h3,h4,rfl⟩:=H7 hq;obtain⟨_,_,⟨cur,el,k1,_,_,k4,_⟩,_⟩:=R.boxes b x h2
  refine⟨τ q,⟨β b,cur,el,by simp[h1],k1,k4 o q h3,?_,fun TB hTB hm=>?_⟩,fun _=>⟨q,e,rfl,h4,rfl⟩⟩
  ·have:=(R.live q e h4).2
   rcases this with h|⟨B,len,cap,cur,i,g1,g2,g3⟩
   ·exact .inl h
   ·exact .inr ⟨B,len,cap,cur,i,g1,trivial,g3⟩
  ·obtain⟨b',hb',e'⟩:=List.mem_map.1 hm
   obtain⟨k,hk⟩:=List.mem_iff_getElem?.1 hb'
   obtain⟨y,hy,_⟩:=(gh hcs).2 k b' hk
   exact R.cK q e b' y h4 hy (by rw[hTB,e'])
theorem ox{q e:Nat} {qo:Option Nat} {l:List (Nat×Nat)} (h:eK q (HI qo l)=some e):eK q l=some e/\qo≠some q:=by
 cases qo with
 |none=>exact⟨h,by simp⟩
 |some k=>obtain⟨h1,h2⟩:=j6 h;exact⟨h1,fun e=>by cases e;exact h2 rfl⟩
theorem Rel.Lh(R:Rel P nt n0 w0 π0 U s a w β τ π) {id:Nat} (hid:¬U id) {ids:List Nat} {css css':List (List AV)} (hnd:ids.Nodup) (hcs:bh s.boxes ids=some css) (hlen:css'.length=css.length)
  {tg tg':Option (Nat×Nat×Nat)} {qo:Option Nat} {tv tv':Value} (hqv:tg.isSome=true->∃q e,qo=some q/\eK q s.live=some e/\tv=τ q)
  {w':World} {π':Nat->Nat->Prop} {v:Value} {r:AV} (hbel:sW (gO.Su w (ids.map β) (KU tg tv)) w w') (hp:∀b o,π b o->π' b o) (hp':∀b o,π' b o->π b o\/w.heap.size<=b\/KU tg tv b)
  (hpl:∀b o,π' b o->b<w'.heap.size) (hc:∀b o,π b o->w'.cell? ⟨b,o,none⟩=w.cell? ⟨b,o,none⟩) (hbx:cG w' π' css' (ids.map β)) (hd:DV w' π' r v) (ht:Eng.Gh P w' π' (ids.map β) (fun B=>w.heap.size<=B\/KU tg tv B) tv' tg'):
  ∃τ',RV β τ' w' π' (.dat r none) v/\Rel P nt n0 w0 π0 (eE U id) {s with boxes:=HH id ids tg' (dz ids css' s.boxes),live:=Oj id tg' (HI qo s.live)} a w' β τ' π':=by
 obtain⟨hlc,hget⟩:=gh hcs
 have hlen':css'.length=ids.length:=by omega
 have hsz:n0.n<=w.heap.size:=Nat.le_trans R.fu R.below.size
 have htb:∀B,KU tg tv B->∃q e,qo=some q/\eK q s.live=some e/\js (τ q)=some B:=fun B hB=>by
  obtain⟨q,e,h1,h2,h3⟩:=hqv hB.1
  exact⟨q,e,h1,h2,by rw[<-h3];exact hB.2⟩
 have hmem:∀B,B∈ids.map β->∃b x,b∈ids/\ct b s.boxes=some x/\β b=B:=fun B hB=>by
  obtain⟨b,hb,e⟩:=List.mem_map.1 hB
  obtain⟨k,hk⟩:=List.mem_iff_getElem?.1 hb
  obtain⟨x,hx,_⟩:=hget k b hk;exact⟨b,x,hb,hx,e⟩
 have hother:∀k,k<w.heap.size->k∉ids.map β->¬KU tg tv k->w'.heap[k]? =w.heap[k]?:=fun k hk hx ht=>hbel.block k hk (fun h=>h.elim hx ht)
 have hboxlt:∀b x,ct b s.boxes=some x->β b<w.heap.size:=fun b x h=>R.kJ h
 have hboxtb:∀b x,ct b s.boxes=some x->¬KU tg tv (β b):=fun b x h hB=>by
  obtain⟨q,e,_,h2,h3⟩:=htb _ hB;exact R.cK q e b x h2 h h3
 have hold:∀b x,ct b (dz ids css' s.boxes)=some x->∃y,ct b s.boxes=some y:=fun b x h=>by
  rcases ow hnd hlen' h with⟨_,_,_,_,_,hy⟩|⟨_,hx⟩
  ·exact hy
  ·exact⟨x,hx⟩
 have htok:∀q e,eK q (HI qo s.live)=some e->∀B,js (τ q)=some B->¬KU tg tv B:=fun q e h B hB hT=>by
  obtain⟨h1,h2⟩:=ox h;obtain⟨q',e',g1,g2,g3⟩:=htb B hT
  exact h2 (by rw[g1,R.bS q' q e' e B g2 h1 g3 hB])
 have R1:Rel P nt n0 w0 π0 U {s with boxes:=dz ids css' s.boxes,live:=HI qo s.live} a w' β τ π':=by
  refine⟨R.size,fun t v h=>?_,fun b x h=>?_,fun b b' x x' h h' e=>?_,fun q e h=>?_,fun q q' e e' B h h'=>R.bS q q' e e' B (ox h).1 (ox h').1,fun q e b x h h' hB=>?_,R.below.trans ⟨hbel.os,hbel.tape,hbel.output,hbel.size,fun k hk hX=>?_,hbel.others⟩,R.fu,hpl,fun b o h=>hp _ _ (R.eo b o h),fun b o h=>?_,R.lQ,R.jt,fun b o h=>(hc b o (R.eo b o h)).trans (R.kept b o h)⟩
  ·obtain⟨⟨x,hx,hv⟩,hu⟩:=R.slots t v h
   exact⟨⟨x,hx,RV.mono (fun _ _=>rfl) (fun _ _=>rfl) hp hc hu hv⟩,hu⟩
  ·rcases ow hnd hlen' h with⟨k,cs,h1,h2,rfl,y,hy⟩|⟨hni,hx⟩
   ·obtain⟨g1,g2,g3,g4⟩:=R.boxes b y hy
    refine⟨g1,g2,?_,fun o q hq=>by cases hq⟩
    exact(hbx.get.2 k cs (β b) h2 (by simp[h1])).tR
   ·obtain⟨g1,g2,g3,g4⟩:=R.boxes b x hx
    have hnm:β b∉ids.map β:=fun hm=>by
     obtain⟨b',x',hb',hx',e⟩:=hmem _ hm
     exact hni (R.inj b' b x' x hx' hx e▸hb')
    refine⟨g1,g2,g3.keep (fun _ _=>rfl) g4 (hother _ (hboxlt b x hx) hnm (hboxtb b x hx)) hp hc (fun o ho=>?_),g4⟩
    rcases hp' _ _ ho with h|h|h
    ·obtain⟨_,_,_,_,_,_,hn⟩:=g3;exact hn o h
    ·have:=hboxlt b x hx;omega
    ·exact hboxtb b x hx h
  ·obtain⟨y,hy⟩:=hold b x h
   obtain⟨y',hy'⟩:=hold b' x' h';exact R.inj b b' y y' hy hy' e
  ·obtain⟨h0,_⟩:=ox h
   obtain⟨h1,h2⟩:=R.live q e h0
   refine⟨h1,h2.keep (fun B hB=>hother B (h2.block hB).2 (fun hm=>?_) (htok q e h B hB)) (fun B o hB ho=>?_)⟩
   ·obtain⟨b,x,_,hx,eb⟩:=hmem B hm
    exact R.cK q e b x h0 hx (by rw[hB,eb])
   ·rcases hp' _ _ ho with g|g|g
    ·exact g
    ·have:=(h2.block hB).2;omega
    ·exact absurd g (htok q e h B hB)
  ·obtain⟨y,hy⟩:=hold b x h'
   exact R.cK q e b y (ox h).1 hy hB
  ·refine hother k (by omega) (fun hm=>?_) (fun hT=>?_)
   ·obtain⟨b,x,_,hx,eb⟩:=hmem k hm
    rcases(R.boxes b x hx).2.1 with h|h
    ·omega
    ·rw[eb]at h;exact hX h.2
   ·obtain⟨q,e,_,h2,h3⟩:=htb k hT
    rcases((R.live q e h2).2.block h3).1 with h|h
    ·omega
    ·exact hX h
  ·rcases hp' b o h with h|h|h
   ·exact R.cH b o h
   ·exact .inr (.inl (by omega))
   ·obtain⟨q,e,_,h2,h3⟩:=htb b h
    exact .inr ((R.live q e h2).2.block h3).1
 cases tg' with
 |none=>exact⟨τ,⟨hd,fun t h=>by cases h⟩,R1.sub fun _ h=>.inl h⟩
 |some p=>
  obtain⟨j,o,e⟩:=p;obtain⟨B,cur,el,hj,hB,hcur,htk,hnb⟩:=ht
  obtain⟨b,hb,rfl⟩:∃b,ids[j]? =some b/\β b=B:=by
   simp only[List.getElem?_map,Option.map_eq_some_iff]at hj;exact hj
  have R2:=R1.qG (e:=e) hid (htk.weaken (fun B h=>?_)) (fun q e' B hq hB1 hB2=>?_) (fun b x hb hB'=>?_)
  ·refine⟨Ai τ id tv',⟨hd,fun t h=>by cases h⟩,?_⟩
   have R3:=R2.tag (b:=b) (o:=o) (q:=id) (.inr rfl) (fun cur' el' h=>?_)
   ·simp only[HH,hb,Oj];exact R3
   ·rw[hB]at h;cases h
    rw[cj];exact hcur
  ·rcases h with h|h
   ·exact .inl (Nat.le_trans hsz h)
   ·obtain⟨q,e,_,h2,h3⟩:=htb B h
    exact((R.live q e h2).2.block h3).1
  ·obtain⟨h0,_⟩:=ox hq
   rcases(htk.block hB2).1 with h|h
   ·have h1:=((R.live q e' h0).2.block hB1).2
    omega
   ·exact htok q e' hq B hB1 h
  ·exact hnb _ hB' (by
    obtain⟨y,hy⟩:=hold b x hb
    by_cases hin:b∈ids
    ·exact List.mem_map_of_mem hin
    ·exfalso
     rcases(htk.block hB').1 with h|h
     ·have:=hboxlt b y hy;omega
     ·exact hboxtb b y hy h)
theorem mT{m:Nat}:∀{l:List (Nat×bY)} {n:Nat},ct n (kZ m l)=if n=m then none else ct n l
 |[],n=>by simp[kZ,ct]
 |(k,v)::r,n=>by
  have ih:=mT (m:=m) (l:=r) (n:=n)
  simp only[kZ]
  by_cases hmk:m=k
  ·subst hmk
   simp only[beq_self_eq_true,cond_true,ct,ih]
   by_cases hn:n=m
   ·simp[hn]
   ·have hn':(n==m)=false:=by simpa using hn
    simp[hn,hn']
  ·have hmk':(m==k)=false:=by simpa using hmk
   simp only[hmk',cond_false,ct,ih]
   by_cases hnk:n=k
   ·simp[hnk,Ne.symm hmk]
   ·have hnk':(n==k)=false:=by simpa using hnk
    simp[hnk']
theorem uO{b:Nat} {cs:List AV}:∀{l:List (Nat×SV)} {t:Nat},lk t (yo b cs l)=(lk t l).map (jZ b cs)
 |[],t=>rfl
 |(m,v)::r,t=>by
  simp only[yo,lk];cases h:t==m
  ·simp only[cond_false];exact uO
  ·rfl
theorem tS(z:Nat):∀(n:Nat) (cs:List AV),(bZ z n cs).length=n
 |0,_=>rfl
 |n+1,cs=>by simp[bZ,tS z n]
theorem vW(z:Nat):∀(n:Nat) (cs:List AV) (i:Nat) (r:List AV),(bZ z n cs)[i]? =some r->i<n/\r=(cs.drop (i*z)).take z
 |0,_,i,r,h=>by simp[bZ]at h
 |n+1,cs,0,r,h=>by simp only[bZ,List.getElem?_cons_zero,Option.some.injEq]at h;subst h;simp
 |n+1,cs,i+1,r,h=>by
  simp only[bZ,List.getElem?_cons_succ]at h;obtain⟨h1,h2⟩:=vW z n _ i r h
  refine⟨by omega,?_⟩
  rw[h2,List.drop_drop]
  congr 2
  rw[Nat.succ_mul,Nat.add_comm]
theorem Fq{π:Nat->Nat->Prop} {cs:List AV} {B o:Nat} (h:DV w π (.ref cs) (.pointer (some ⟨B,o,none⟩))) {off n z cap:Nat} (hn:n*z<=(cs.drop off).length) (hcap:n<=cap):DV w π (.sl (bZ z n (cs.drop off))) (.slice (some ⟨B,o+off,none⟩) n cap):=by
 cases h with
 |ref _ _ _ f h1 h2 h3 h4=>
  have hget:∀(i j:Nat) (r:List AV) (a:AV),(bZ z n (cs.drop off))[i]? =some r->r[j]? =some a->cs[off+(i*z+j)]? =some a:=by
   intro i j r a hi hj;obtain⟨_,rfl⟩:=vW z n _ i r hi;rw[List.getElem?_take]at hj;split at hj
   ·rw[List.getElem?_drop,List.getElem?_drop]at hj;rw[<-hj]
   ·cases hj
  have e:∀i j,o+off+i*z+j=o+(off+(i*z+j)):=fun i j=>by omega
  have hl:=tS z n (cs.drop off)
  have key:=DV.sl (w:=w) (π:=π) (bZ z n (cs.drop off)) B (o+off) cap z (fun i j=>f (off+(i*z+j))) (by omega) (fun i r hi=>?_) (fun i j r a hi hj=>h1 _ _ (hget i j r a hi hj)) (fun i j r a hi hj=>by rw[e];exact h2 _ _ (hget i j r a hi hj)) (fun i j r a hi hj=>by rw[e];exact h3 _ _ (hget i j r a hi hj)) (fun i j r a hi hj=>h4 _ _ (hget i j r a hi hj))
  ·rw[hl]at key;exact key
  ·obtain⟨hin,rfl⟩:=vW z n _ i r hi
   have:(i+1)*z<=n*z:=Nat.mul_le_mul_right _ hin
   rw[Nat.succ_mul]at this;simp only[List.length_take,List.length_drop]at hn⊢;omega
theorem H8{π:Nat->Nat->Prop} {cs:List AV} {B o:Nat} (h:DV w π (.ref cs) (.pointer (some ⟨B,o,none⟩))) {off n z:Nat} (hn:n*z<=(cs.drop off).length):DV w π (.sl (bZ z n (cs.drop off))) (.slice (some ⟨B,o+off,none⟩) n n):=Fq h hn (Nat.le_refl n)
theorem Rel.freeze(R:Rel P nt n0 w0 π0 U s a w β τ π) {b:Nat} {x:bY} (hb:ct b s.boxes=some x) (h4:4<=b):
  ∃π':Nat->Nat->Prop,(∀B o,π B o->π' B o)/\Rel P nt n0 w0 π0 U {s with slots:=yo b x.cells s.slots,boxes:=kZ b s.boxes} a w β τ π'/\DV w π' (.ref x.cells) (.pointer (some ⟨β b,0,none⟩)):=by
 obtain⟨hUb,hokb,hbox,htg⟩:=R.boxes b x hb
 have hlt:=R.kJ hb
 have hown:n0.n<=β b:=by rcases hokb with h|h;exact h;exact absurd h.1 (by omega)
 obtain⟨f,hf,hsc,hdv,_⟩:=hbox.cells
 have hp:∀B o,π B o->(fun B o=>π B o\/(B=β b/\o<x.cells.length)) B o:=fun _ _ h=>.inl h
 have hin:∀(j:Nat) (c:AV),x.cells[j]? =some c->j<x.cells.length:=fun j c hc=>(List.getElem?_eq_some_iff.1 hc).1
 have href:∀d,RV β τ w (fun B o=>π B o\/(B=β b/\o<x.cells.length)) (.rp (x.cells.drop d)) (.pointer (some ⟨β b,d,none⟩)):=by
  intro d
  refine⟨β b,d,fun j=>f (d+j),rfl,?_,?_,?_,?_⟩<;>intro j c hc<;>rw[List.getElem?_drop]at hc
  ·exact hsc _ _ hc
  ·exact .inr ⟨rfl,hin _ _ hc⟩
  ·exact hf _ (hin _ _ hc)
  ·exact(hdv _ _ hc).mono hp (fun _ _ _=>rfl)
 refine⟨_,hp,?_,RV.ref.1 (by simpa using href 0)⟩
 have hdel:∀c y,ct c (kZ b s.boxes)=some y->c≠b/\ct c s.boxes=some y:=fun c y h=>by
  rw[mT]at h;split at h
  ·cases h
  ·rename_i hne;exact⟨hne,h⟩
 refine⟨R.size,fun t v h=>?_,fun c y h=>?_,fun c c' y y' h h' e=>R.inj c c' y y' (hdel c y h).2 (hdel c' y' h').2 e,fun q e h=>?_,R.bS,fun q e c y h h' hB=>R.cK q e c y h (hdel c y h').2 hB,R.below,R.fu,fun B o h=>?_,fun B o h=>.inl (R.eo B o h),fun B o h=>?_,R.lQ,R.jt,R.kept⟩
 ·simp only[uO,Option.map_eq_some_iff]at h
  obtain⟨u,hu,rfl⟩:=h;obtain⟨⟨y,hy,hr⟩,hi⟩:=R.slots t u hu
  have hm:RV β τ w (fun B o=>π B o\/(B=β b/\o<x.cells.length)) u y:=RV.mono (fun _ _=>rfl) (fun _ _=>rfl) hp (fun _ _ _=>rfl) hi hr
  cases u with
  |dat av q=>exact⟨⟨y,hy,hm⟩,hi⟩
  |rp cs=>exact⟨⟨y,hy,hm⟩,hi⟩
  |undef=>exact⟨⟨y,hy,hm⟩,hi⟩
  |vs c o n z=>
   simp only[jZ]
   by_cases hcb:(c==b&&decide (n*z<=(x.cells.drop o).length))=true
   ·rw[hcb,cond_true]
    simp only[Bool.and_eq_true,beq_iff_eq,decide_eq_true_eq]at hcb;obtain⟨rfl,hle⟩:=hcb;obtain⟨cap,hcap,rfl⟩:=hr
    have:=Fq (RV.ref.1 (by simpa using href 0)) hle hcap
    rw[Nat.zero_add]at this
    exact⟨⟨_,hy,this,fun t h=>by cases h⟩,trivial⟩
   ·have hcb':=Bool.eq_false_iff.2 hcb
    rw[hcb',cond_false];exact⟨⟨y,hy,hm⟩,hi⟩
  |nD _ _ _=>exact⟨⟨y,hy,hm⟩,hi⟩
  |raw _ _=>exact⟨⟨y,hy,hm⟩,hi⟩
  |pt _ _=>exact⟨⟨y,hy,hm⟩,hi⟩
  |ptr c o=>
   simp only[jZ]
   by_cases hcb:c=b
   ·subst hcb
    simp only[beq_self_eq_true,cond_true]
    have e:y=.pointer (some ⟨β c,o,none⟩):=hr
    subst e;exact⟨⟨_,hy,href o⟩,trivial⟩
   ·have hcb':(c==b)=false:=by simpa using hcb
    simp only[hcb',cond_false];exact⟨⟨y,hy,hm⟩,hi⟩
 ·obtain⟨hne,hc⟩:=hdel c y h
  obtain⟨g1,g2,g3,g4⟩:=R.boxes c y hc
  refine⟨g1,g2,g3.keep (fun _ _=>rfl) g4 rfl hp (fun _ _ _=>rfl) (fun o ho=>?_),g4⟩
  rcases ho with ho|⟨ho,_⟩
  ·obtain⟨_,_,_,_,_,_,hn⟩:=g3;exact hn o ho
  ·exact hne (R.inj c b y x hc hb ho)
 ·obtain⟨h1,h2⟩:=R.live q e h
  refine⟨h1,h2.keep (fun B hB=>rfl) (fun B o hB ho=>?_)⟩
  rcases ho with ho|⟨ho,_⟩
  ·exact ho
  ·exact absurd (ho▸hB) (R.cK q e b x h hb)
 ·rcases h with h|⟨rfl,_⟩
  ·exact R.ej B o h
  ·exact hlt
 ·rcases h with h|⟨rfl,_⟩
  ·exact R.cH B o h
  ·exact .inr (.inl hown)
theorem wW{l:List (Nat×bY)} {b:Nat}:∀{ids:List Nat} {css:List (List AV)},b∉ids->bh l ids=some css->bh (kZ b l) ids=some css
 |[],css,_,h=>h
 |c::ids,css,hn,h=>by
  simp only[bh]at h⊢
  have hne:c≠b:=fun e=>hn (e▸List.mem_cons_self ..)
  split at h<;>try(cases h;done)
  rename_i x css' h1 h2
  rw[mT,if_neg hne,h1,wW (fun hm=>hn (List.mem_cons_of_mem _ hm)) h2]
  exact h
theorem Rel.rY:∀{ids:List Nat} {css:List (List AV)} {s:S} {π:Nat->Nat->Prop},Rel P nt n0 w0 π0 U s a w β τ π->ids.Nodup->iz ids=true->bh s.boxes ids=some css->
  ∃π':Nat->Nat->Prop,(∀B o,π B o->π' B o)/\Rel P nt n0 w0 π0 U (gM ids css s) a w β τ π'/\∀(k:Nat) (b:Nat) (cs:List AV),ids[k]? =some b->css[k]? =some cs->DV w π' (.ref cs) (.pointer (some ⟨β b,0,none⟩))
 |[],css,s,π,R,_,_,h=>by
  simp[bh]at h;subst h
  exact⟨π,fun _ _ h=>h,R,fun k b cs h=>by simp at h⟩
 |b::ids,css,s,π,R,hnd,hown,h=>by
  simp only[bh]at h
  split at h<;>try(cases h;done)
  rename_i x css' h1 h2;cases h;rw[List.nodup_cons]at hnd;simp only[iz,Bool.and_eq_true,decide_eq_true_eq]at hown;obtain⟨π1,m1,R1,d1⟩:=R.freeze h1 hown.1
  obtain⟨π2,m2,R2,d2⟩:=Rel.rY R1 hnd.2 hown.2 (wW hnd.1 h2)
  refine⟨π2,fun B o h=>m2 _ _ (m1 _ _ h),R2,fun k c cs hk hc=>?_⟩
  cases k with
  |zero=>simp at hk hc;subst hk;subst hc;exact d1.mono m2 (fun _ _ _=>rfl)
  |succ k=>exact d2 k c cs (by simpa using hk) (by simpa using hc)
theorem Rel.Sv(R:Rel P nt n0 w0 π0 U s a w β τ π) {t:TypeId} {X:Operand} {x:bE} {sz:Option Nat} (hx:cn X=some x) (ht:uJ P t=some sz) {id:Nat} {K:SV->S->Prop}
  (h:bN (Pure P) id (.jY x sz) K s):∃v y,(Instr.loadAt t (a.eval X)).run P w=.ok y w/\RV β τ w π v y/\v.gp U/\K v s:=by
 simp only[bN]at h;obtain⟨p,hp,h⟩:=af h;obtain⟨hr,hU⟩:=R.bM hx hp
 cases p<;>try(exact h.elim)
 rename_i k ps
 match k,hr,h with
 |2,hr,h=>
  obtain⟨B,off,he,hc⟩:=hr.NV
  cases sz with
  |none=>
   cases ps with
   |nil=>exact h.elim
   |cons q ps=>
    obtain⟨b,o⟩:=q
    refine⟨.ptr b o,.pointer (some ⟨β b,o,none⟩),?_,rfl,hU (b,o) (by simp),h⟩
    simp only[he,Instr.loadAt,Instr.sureAddr,Sem.run_bind,Sem.run_pure,Result.andThen_ok];exact kI ht (hc 0 (b,o) rfl).2
  |some n=>
   obtain⟨hn,h⟩:=h
   refine⟨.pt 0 (ps.take n),.agg ((List.range n).map fun j=>Value.pointer (some ⟨β (ps.getD j (0,0)).1,(ps.getD j (0,0)).2,none⟩)).toArray,?_,?_,fun p hp=>hU p (List.mem_of_mem_take hp),h⟩
   ·simp only[he,Instr.loadAt,Instr.sureAddr,Sem.run_bind,Sem.run_pure,Result.andThen_ok]
    refine kH ht (f:=fun j=>Value.pointer (some ⟨β (ps.getD j (0,0)).1,(ps.getD j (0,0)).2,none⟩)) (fun j hj=>?_)
    have hjl:j<ps.length:=by omega
    have:=(hc j ps[j] (List.getElem?_eq_getElem hjl)).2
    rw[this];simp[hjl]
   ·show Value.agg _=Value.agg _
    congr 2
    apply List.ext_getElem?
    intro i;simp only[List.getElem?_map,List.getElem?_take]
    by_cases hi:i<n
    ·have hil:i<ps.length:=by omega
     simp[hi,hil]
    ·simp[hi]
 |0,_,h=>exact h.elim
 |1,_,h=>exact h.elim
 |k+3,_,h=>exact h.elim
theorem vX{w:World} {π π':Nat->Nat->Prop} (hp:∀B o,π B o->π' B o):∀{pas:List (Option AV)} {css:List (List AV)} {Bs:List Nat} {vs:List Value},eV w π pas Bs vs->qn pas=true->css.length=Bs.length->
  (∀(k:Nat) (cs:List AV) (B:Nat),css[k]? =some cs->Bs[k]? =some B->DV w π' (.ref cs) (.pointer (some ⟨B,0,none⟩)))->jr w π' (lW pas css) vs
 |[],css,Bs,vs,h,_,_,_=>by
  have:vs=[]:=by cases Bs<;>cases vs<;>first|rfl|exact h.elim
  subst this
  have:lW [] css=[]:=by cases css<;>rfl
  rw[this];exact .nil _ _
 |some av::pas,css,Bs,[],h,_,_,_=>by cases Bs<;>cases av<;>exact h.elim
 |some av::pas,css,Bs,v::vs,h,hn,hl,hr=>by
  obtain⟨hne,hn⟩:=CF hn
  have h':DV w π av v/\eV w π pas Bs vs:=by
   rcases mP h with⟨e,_⟩|⟨_,h'⟩
   ·exact absurd e hne
   ·exact h'
  have e:lW (some av::pas) css=av::lW pas css:=by cases css<;>rfl
  rw[e]
  exact .cons (h'.1.mono hp (fun _ _ _=>rfl)) (vX hp h'.2 hn hl hr)
 |none::pas,css,[],vs,h,_,_,_=>by cases vs<;>exact h.elim
 |none::pas,css,B::Bs,[],h,_,_,_=>h.elim
 |none::pas,[],B::Bs,v::vs,h,_,hl,_=>by simp at hl
 |none::pas,cs::css,B::Bs,v::vs,h,hn,hl,hr=>by
  obtain⟨rfl,h2⟩:=h
  exact .cons (hr 0 cs B rfl rfl) (vX hp h2 hn (by simpa using hl) (fun k cs B h1 h2=>hr (k+1) cs B (by simpa using h1) (by simpa using h2)))
theorem AF:∀{ids:List Nat} {css:List (List AV)} {s:S},(gM ids css s).live=s.live
 |[],css,s=>by cases css<;>rfl
 |b::ids,[],s=>rfl
 |b::ids,cs::css,s=>AF (ids:=ids) (css:=css)
theorem Fs{t:TypeId} {n e z B off:Nat} (ht:P.underlying t=some (.array n e)) (hz:fq P e=some z):
  (Instr.sliceAt t (.pointer (some ⟨B,off,none⟩)) none none none).run P w=.ok (.slice (some ⟨B,off,none⟩) n n) w:=by
 simp[Instr.sliceAt,run_underlying ht,Instr.sureAddr,Instr.sliceBounds,dN hz,Addr.add]
theorem Li{t:TypeId} {n e z B off:Nat} (ht:P.underlying t=some (.array n e)) (hz:fq P e=some z) {k:IntKind} {j:Int} (h0:0<=j) (h1:j<=n):
  (Instr.sliceAt t (.pointer (some ⟨B,off,none⟩)) none (some (.int k j)) none).run P w=.ok (.slice (some ⟨B,off,none⟩) j.toNat n) w:=by
 have hH:=run_sliceBound (P:=P) w k j n .sliceAlen h0 h1
 simp[Instr.sliceAt,run_underlying ht,Instr.sureAddr,Instr.sliceBounds,dN hz,Addr.add,hH]
def Gj:AV->Value
 | .float _ r=>.float .f64 r
 |_=>undef
def Ox(b:Nat):Ieee.Datum->Sem Value
 | .nan s t=>if FloatKind.f64.format.quiet t=t then pure (.float .f64 b)else do
   let kept ← choose (.extern "math.Floor,Ceil,Trunc,RoundToEven.signallingNaN kept" 2)
   pure (.float .f64 (if kept==1 then b else FloatKind.f64.encode (.nan s (FloatKind.f64.format.quiet t))))
 |d=>pure (.float .f64 (FloatKind.f64.encode (d.integral .even)))
def Lj(b:Nat):Ieee.Datum->Option AV
 | .nan _ t=>if FloatKind.f64.format.quiet t=t then some (.float .f64 b)else none
 |d=>some (.float .f64 (FloatKind.f64.encode (d.integral .even)))
theorem H9{π:Nat->Nat->Prop} {b:Nat} {v:AV}:∀{d:Ieee.Datum},Lj b d=some v->(Ox b d).run P w=.ok (Gj v) w/\DV w π v (Gj v)
 | .nan s t,h=>by
  simp only[Lj]at h
  split at h<;>try(cases h;done)
  rename_i hq;cases h;simp only[Ox,hq,if_true];exact⟨rfl,.float _ _⟩
 | .number s m i,h=>by cases h;exact⟨rfl,.float _ _⟩
 | .infinity s,h=>by cases h;exact⟨rfl,.float _ _⟩
theorem Lk {π : Nat → Nat → Prop} {b : Nat} {v : AV} (h : Bx b = some v) : ((Extern.MathFloor.toIntegral "math.RoundToEven" .even) #[.float .f64 b]).run P w = .ok (Gj v) w ∧ DV w π v (Gj v) :=
 by
 have hto : Extern.MathFloor.toIntegral "math.RoundToEven" .even #[.float .f64 b] = Ox b (FloatKind.f64.decode b) := by
  show((match FloatKind.f64.decode b with
      | .nan s t=>if FloatKind.f64.format.quiet t=t then pure (.float .f64 b)else do
        let kept ← choose (.extern "math.Floor,Ceil,Trunc,RoundToEven.signallingNaN kept" 2)
        pure (.float .f64 (if kept==1 then b else FloatKind.f64.encode (.nan s (FloatKind.f64.format.quiet t))))
      |d=>pure (.float .f64 (FloatKind.f64.encode (d.integral .even)))):Sem Value)=_
  generalize FloatKind.f64.decode b=d
  cases d<;>rfl
 have hta:Lj b (FloatKind.f64.decode b)=some v:=by
  rw[<-h]
  show Lj b (FloatKind.f64.decode b)=((match FloatKind.f64.decode b with
   | .nan _ t=>if FloatKind.f64.format.quiet t=t then some (.float .f64 b)else none
   |d=>some (.float .f64 (FloatKind.f64.encode (d.integral .even)))):Option AV)
  generalize FloatKind.f64.decode b=d
  cases d<;>rfl
 rw[hto];exact H9 hta
theorem Oy{f:FuncId} {e:Xt} (he:Om P f=some e) {a v:AV} {x:Value} (hv:RR e a=some v) (hd:DV w π a x):∃u,(callFunc f #[x]).run P w=.ok (.value u) w/\DV w π v u:=by
 unfold Om at he
 split at he<;>try(cases he;done)
 rename_i fn hf
 split at he<;>try(cases he;done)
 rename_i hb;simp only[Bool.and_eq_true]at hb
 have hb1:fn.body=none:=by simpa using hb.1
 have hb2:Extern.findNext fn=none:=by simpa using hb.2
 split at he
 ·rename_i hn
  have hn:=eq_of_beq hn
  cases he
  have hfi:Extern.find fn=some Extern.MathFloatBits.float64bits:=by unfold Extern.find;rw[hn];rfl
  cases a<;>try(cases hv;done)
  rename_i k b
  cases k<;>cases hv
  cases hd;refine⟨.int .u64 b,?_,.int _ _⟩
  rw[run_callFunc_extern hf (by rw[hn];rfl) (by rw[hb1];rfl) hb2 hfi]
  rfl
 ·split at he
  ·rename_i hn
   have hn:=eq_of_beq hn
   cases he
   have hfi:Extern.find fn=some Extern.MathFloatBits.float64frombits:=by unfold Extern.find;rw[hn];rfl
   cases a<;>try(cases hv;done)
   rename_i k b
   cases k<;>cases hv
   cases hd;refine⟨.float .f64 b.toNat,?_,.float _ _⟩
   rw[run_callFunc_extern hf (by rw[hn];rfl) (by rw[hb1];rfl) hb2 hfi]
   rfl
  ·split at he<;>try(cases he;done)
   rename_i hn
   have hn:=eq_of_beq hn
   cases he
   have hfi : Extern.find fn = some (Extern.MathFloor.toIntegral "math.RoundToEven" .even) := by unfold Extern.find; rw [hn]; rfl
   cases a<;>try(cases hv;done)
   rename_i k b
   cases k<;>try(cases hv;done)
   cases hd
   have hv:Bx b=some v:=hv
   have hrun : ((Extern.MathFloor.toIntegral "math.RoundToEven" .even) #[.float .f64 b]).run P w = .ok (Gj v) w ∧ DV w π v (Gj v) := by
    exact Lk hv
   refine⟨_,?_,hrun.2⟩
   rw[run_callFunc_extern hf (by rw[hn];rfl) (by rw[hb1];rfl) hb2 hfi,hrun.1]
   rfl
theorem fh{f:Nat} (hc:cg P f=true) (args:Array Value):(callFunc f args).run P w=.ok (.enter f args) w:=by
 unfold cg at hc;split at hc
 ·rename_i fn hfn
  simp only[Bool.and_eq_true,bne_iff_ne,ne_eq]at hc;obtain⟨b,hb⟩:=Option.isSome_iff_exists.1 hc.2;simp[callFunc,hfn,hc.1,hb]
 ·cases hc
theorem rZ(R:Rel P nt n0 w0 π0 U s a w β τ π) {o:Oper} {c:bR} {id:Nat} (hid:¬U id) (hc:KT P o.op=some c) {K:SV->S->Prop} (h:bN (Pure P) id c K s) {next:Act->World->Prop} {Q:Exit->Act->World->Prop}
  (hn:∀v s' x w' β' τ' π',K v s'->RV β' τ' w' π' v x->v.gp (eE U id)->Rel P nt n0 w0 π0 (eE U id) s' a w' β' τ' π'->next (a.put o.dst x) w'):o.wp P a w next Q:=by
 obtain⟨dst,op,type,pos,after,guard⟩:=o;simp only at hc
 have hsub:∀n,U n->eE U id n:=fun n h=>.inl h
 have hdat:∀(v:AV),(SV.dat v none).gp (eE U id):=fun _=>trivial
 -- a value,nothing else
 have fin:∀{v:SV} {y:Value},(execOp a.eval ⟨dst,op,type,pos,after,guard⟩).run P w=.ok (.value y) w->RV β τ w π v y->v.gp U->K v s->Oper.wp P ⟨dst,op,type,pos,after,guard⟩ a w next Q:=by
  intro v y hr hv hu hK;unfold Oper.wp;rw[hr];exact hn v s y w β τ π hK hv (SV.mQ hsub hu) (R.sub hsub)
 have find:∀{v:AV} {y:Value},(execOp a.eval ⟨dst,op,type,pos,after,guard⟩).run P w=.ok (.value y) w->DV w π v y->K (.dat v none) s->Oper.wp P ⟨dst,op,type,pos,after,guard⟩ a w next Q:=
  fun{v y} hr hv hK=>fin (v:=.dat v none) hr ⟨hv,fun t ht=>by cases ht⟩ trivial hK
 cases op<;>simp only[KT]at hc<;>try(cases hc;done)
 case move x=>
  simp only[Option.map_eq_some_iff]at hc;obtain⟨x',hx,rfl⟩:=hc;simp only[bN]at h;obtain⟨v,hv,hK⟩:=af h;obtain⟨hr,hu⟩:=R.bM hx hv;exact fin rfl hr hu hK
 case assign x=>
  simp only[Option.map_eq_some_iff]at hc;obtain⟨x',hx,rfl⟩:=hc;simp only[bN]at h;obtain⟨v,hv,hK⟩:=af h;obtain⟨hr,hu⟩:=R.bM hx hv;exact fin rfl hr hu hK
 case pick cc aa bb=>
  split at hc<;>try(cases hc;done)
  rename_i c' a' b' h1 h2 h3;cases hc;simp only[bN]at h;obtain⟨t,ht,h⟩:=af h
  have hd:=R.aQ h1 ht
  cases t<;>try(exact h.elim)
  rename_i t;obtain⟨u,hu,h⟩:=af h;obtain⟨v,hv,hK1,hK2⟩:=af h
  have hb:=hd.qB
  obtain⟨ra,ua⟩:=R.bM h2 hu;obtain⟨rb,ub⟩:=R.bM h3 hv;cases t
  ·exact fin (by simp[execOp,hb,asBool]) rb ub (hK2 rfl)
  ·exact fin (by simp[execOp,hb,asBool]) ra ua (hK1 rfl)
 case alloc t=>
  simp only[Option.map_eq_some_iff]at hc;obtain⟨zs,hz,rfl⟩:=hc;simp only[bN]at h
  obtain⟨z,hzr,hzd,hzs⟩:=qE (P:=P) (w:=w) (π:=π) hz
  have hr:(execOp a.eval ⟨dst,.alloc t,type,pos,after,guard⟩).run P w=.ok (.value (.pointer (some ⟨w.heap.size,0,none⟩))) (w.alloc (.cells z.cells t)):=by
   simp[execOp,Instr.alloc,hzr,newVar,Go.newRow]
  unfold Oper.wp;rw[hr]
  exact hn _ _ _ _ _ _ _ h (show RV (Ai β id w.heap.size) τ _ π (.ptr id 0) _ by simp[RV,cj]) (.inr rfl) (R.Ei hid t hzd.take hzs)
 case box t x=>
  simp only[Option.map_eq_some_iff]at hc;obtain⟨x',hx,rfl⟩:=hc;simp only[bN]at h;obtain⟨av,hv,h⟩:=af h
  have hd:=R.aQ hx hv
  have hr:(execOp a.eval ⟨dst,.box t x,type,pos,after,guard⟩).run P w=.ok (.value (.pointer (some ⟨w.heap.size,0,none⟩))) (w.alloc (.cells (a.eval x).cells t)):=by
   simp[execOp,Instr.box,newVar,Go.newRow]
  obtain⟨hok,hK⟩:=h
  obtain⟨hcd,hcs⟩:=hd.cells (fun vs e=>by subst e;simp[jq]at hok)
  unfold Oper.wp;rw[hr]
  exact hn _ _ _ _ _ _ _ hK (show RV (Ai β id w.heap.size) τ _ π (.ptr id 0) _ by simp[RV,cj]) (.inr rfl) (R.Ei hid t hcd.take hcs)
 case build t ps=>
  split at hc<;>try(cases hc;done)
  rename_i zs ps' hz hps
  split at hc<;>try(cases hc;done)
  rename_i hfit;cases hc;simp only[Bool.and_eq_true]at hfit;obtain⟨v,y,hr,hv,hu,hK⟩:=R.build hz hps hfit.1 hfit.2 h
  exact fin (by simp only[execOp,Sem.run_bind,hr,Result.andThen_ok,Sem.run_pure]) hv hu hK
 case buildSlice t n ps=>
  split at hc<;>try(cases hc;done)
  rename_i e ht
  split at hc<;>try(cases hc;done)
  rename_i zs z xs hz hsz hxs
  split at hc<;>try(cases hc;done)
  rename_i hok;cases hc;obtain⟨v,y,s',w',τ',π',hr,hv,hu,hK,R'⟩:=R.buildSlice ht hz hsz hxs hok hid h;unfold Oper.wp
  have:(execOp a.eval ⟨dst,.buildSlice t n ps,type,pos,after,guard⟩).run P w=.ok (.value y) w':=by simp only[execOp,Sem.run_bind,hr,Result.andThen_ok,Sem.run_pure]
  rw[this];exact hn v s' y w' β τ' π' hK hv hu R'
 case load t x=>
  split at hc<;>try(cases hc;done)
  rename_i r x' hr hx;cases hc
  have:∃v y,(Instr.loadAt t (a.eval x)).run P w=.ok y w/\RV β τ w π v y/\v.gp U/\K v s:=by
   split at h
   ·exact R.Sv hx hr h
   ·exact R.load hx hr h
  obtain⟨v,y,hr,hv,hu,hK⟩:=this
  exact fin (by simp only[execOp,Sem.run_bind,hr,Result.andThen_ok,Sem.run_pure]) hv hu hK
 case store t x v=>
  split at hc<;>try(cases hc;done)
  rename_i z x' v' hz hx hv;cases hc;obtain⟨s',w',hr,hK,R'⟩:=R.store hx hv hz h;unfold Oper.wp
  have:(execOp a.eval ⟨dst,.store t x v,type,pos,after,guard⟩).run P w=.ok .skip w':=by simp only[execOp,Sem.run_bind,hr,Result.andThen_ok,Sem.run_pure]
  rw[this];exact hn .undef s' undef w' β τ π hK rfl trivial (R'.sub hsub)
 case nilCheck x=>
  simp only[Option.map_eq_some_iff]at hc;obtain⟨x',hx,rfl⟩:=hc;simp only[bN]at h;obtain⟨v,hv,h⟩:=af h;obtain⟨hr,hu⟩:=R.bM hx hv
  cases v with
  |ptr b o=>
   have he:a.eval x=.pointer (some ⟨β b,o,none⟩):=hr
   exact fin (v:=.ptr b o) (by simp[execOp,he]) (show RV β τ w π (.ptr b o) (.pointer (some ⟨β b,o,none⟩))from rfl) hu h
  |rp cs=>
   obtain⟨B,off,f,he,hrest⟩:=hr
   exact fin (v:=.rp cs) (by simp[execOp,he]) (show RV β τ w π (.rp cs) (.pointer (some ⟨B,off,none⟩))from⟨B,off,f,rfl,hrest⟩) trivial h
  |undef=>exact h.elim
  |vs _ _ _ _=>exact h.elim
  |nD _ _ _=>exact h.elim
  |raw _ _=>exact h.elim
  |pt _ _=>exact h.elim
  |dat av q=>
   cases av<;>try(exact h.elim)
   case ref cs=>
    obtain⟨B,off,f,he,hrest⟩:=(RV.ref (β:=β) (τ:=τ)).2 hr.1
    exact fin (v:=.rp cs) (by simp[execOp,he]) (show RV β τ w π (.rp cs) (.pointer (some ⟨B,off,none⟩))from⟨B,off,f,rfl,hrest⟩) trivial h
   rename_i fn as bs
   cases fn<;>try(exact h.elim)
   rename_i f
   have hr':=hr
   obtain⟨hd,htag⟩:=hr;generalize hvx:a.eval x=y at hd hr';cases hd
   exact fin (by simp[execOp,hvx]) hr' hu h
 case binOp op t x y yt=>
  split at hc<;>try(cases hc;done)
  rename_i x' y' hx hy;split at hc
  ·rename_i hsc
   cases hc;simp only[bN]at h;obtain⟨av,hav,h⟩:=af h;obtain⟨bv,hbv,h⟩:=af h;obtain⟨v,hv,hK⟩:=af h
   obtain⟨u,w',hw',hu,hd⟩:=K7 (P:=P) (X:=x) (Y:=y) hsc hv (R.aQ hx hav) (R.aQ hy hbv)
   rcases hw' with rfl|rfl
   ·exact find (by simp only[execOp];rw[Sem.run_bind,hu];rfl) hd hK
   ·have hr:(execOp a.eval ⟨dst,.binOp op t x y yt,type,pos,after,guard⟩).run P w=.ok (.value u) w.drew:=by
     simp only[execOp];rw[Sem.run_bind,hu];rfl
    unfold Oper.wp;rw[hr]
    exact hn (.dat v none) _ _ _ _ _ _ hK ⟨NU.dv (Or.inr rfl) hd,fun t ht=>by cases ht⟩ trivial (R.draw.sub hsub)
  ·split at hc
   ·rename_i hbb
    have key:∀neg,((op=.eql/\neg=false)\/(op=.neq/\neg=true))->c=.bb neg x' y'->Oper.wp P ⟨dst,.binOp op t x y yt,type,pos,after,guard⟩ a w next Q:=by
     intro neg hop e;subst e;simp only[bN]at h;obtain⟨av,hav,h⟩:=af h;obtain⟨bv,hbv,h⟩:=af h;obtain⟨v,hv,hK⟩:=af h
     obtain⟨u,hu,hd⟩:=Ot (P:=P) (X:=x) (Y:=y) hop hbb hv (R.aQ hx hav) (R.aQ hy hbv)
     exact find (by simp only[execOp];rw[Sem.run_bind,hu];rfl) hd hK
    split at hc<;>try(cases hc;done)
    ·cases hc;exact key false (.inl ⟨rfl,rfl⟩) rfl
    ·cases hc;exact key true (.inr ⟨rfl,rfl⟩) rfl
   split at hc
   ·rename_i hsl
    have key:∀neg,((op=.eql/\neg=false)\/(op=.neq/\neg=true))->y'=.k .bL->c=.NN neg x'->Oper.wp P ⟨dst,.binOp op t x y yt,type,pos,after,guard⟩ a w next Q:=by
     intro neg hop ey e;subst e ey;simp only[bN]at h;obtain⟨av,hav,h⟩:=af h;obtain⟨b,hb,hK⟩:=af h
     have hr:=Lf (P:=P) (X:=x) (Y:=y) hop hsl hb (R.aQ hx hav) (R.aQ (v:=.bL) hy rfl)
     exact find (by simp only[execOp];rw[Sem.run_bind,hr];rfl) (.bool _) hK
    split at hc<;>try(cases hc;done)
    ·cases hc;exact key false (.inl ⟨rfl,rfl⟩) rfl rfl
    ·cases hc;exact key true (.inr ⟨rfl,rfl⟩) rfl rfl
   ·have key:∀neg,((op=.eql/\neg=false)\/(op=.neq/\neg=true))->So P t neg x' y'=some c->Oper.wp P ⟨dst,.binOp op t x y yt,type,pos,after,guard⟩ a w next Q:=by
     intro neg hop he;unfold So at he
     split at he<;>try(cases he;done)
     rename_i ks hk
     split at he<;>try(cases he;done)
     rename_i hg;cases he;simp only[bN]at h;obtain⟨av,hav,h⟩:=af h
     cases av<;>try(exact h.elim)
     obtain⟨bv,hbv,h⟩:=af h
     cases bv<;>try(exact h.elim)
     obtain⟨e,he,hK⟩:=af h
     have hr:=Ld (P:=P) (X:=x) (Y:=y) hop hk hg (R.aQ hx hav) (R.aQ hy hbv) he
     exact find (by simp only[execOp];rw[Sem.run_bind,hr];rfl) (.bool _) hK
    split at hc<;>try(cases hc;done)
    ·exact key false (.inl ⟨rfl,rfl⟩) hc
    ·exact key true (.inr ⟨rfl,rfl⟩) hc
 case unOp op t x=>
  simp only[Option.map_eq_some_iff]at hc;obtain⟨x',hx,rfl⟩:=hc;simp only[bN]at h;obtain⟨av,hav,h⟩:=af h;obtain⟨v,hv,hK⟩:=af h
  obtain⟨u,hu,hd⟩:=Ou (P:=P) hv (R.aQ hx hav)
  exact find (by simp only[execOp,Sem.run_bind,hu,Result.andThen_ok,Sem.run_pure]) hd hK
 case convert sr ds x=>
  simp only[Option.bind_eq_some_iff]at hc;obtain⟨x',hx,hc⟩:=hc
  have hcc:=hc
  have key:∀{av v:AV},Eng.aQ s x'=some av->((∃k,c=.j4 k x'/\Az k av=some v)\/(∃k,c=.Ak k x'/\yj k av=some v)\/(∃k,c=.Bp k x'/\uC k av=some v))->K (.dat v none) s->Oper.wp P ⟨dst,.convert sr ds x,type,pos,after,guard⟩ a w next Q:=by
   intro av v hav hor hK
   obtain⟨u,hu,hd⟩:=HZ (P:=P) (X:=x) hcc (R.aQ hx hav) hor
   exact find (by simp only[execOp,Sem.run_bind,hu,Result.andThen_ok,Sem.run_pure]) hd hK
  unfold CH at hc
  split at hc<;>try(cases hc;done)
  all_goals
   cases hc;simp only[bN]at h;obtain⟨av,hav,h⟩:=af h;obtain⟨v,hv,hK⟩:=af h
   first
    |exact key hav (.inl ⟨_,rfl,hv⟩) hK
    |exact key hav (.inr (.inl ⟨_,rfl,hv⟩)) hK
    |exact key hav (.inr (.inr ⟨_,rfl,hv⟩)) hK
 case makeFunc fn first caps=>
  cases fn<;>simp only[]at hc<;>try(cases hc;done)
  rename_i f
  split at hc<;>try(cases hc;done)
  rename_i as bs h1 h2
  split at hc<;>try(cases hc;done)
  cases hc;simp only[bN]at h;obtain⟨xs,hxs,h⟩:=af h;obtain⟨⟨pas,ids⟩,hsv,hok,h⟩:=af h;obtain⟨css,hcs,hK⟩:=af h;simp only[Bool.and_eq_true]at hok
  have d1:=R.dL (by simpa[ga]using h1) hxs
  obtain⟨d2,hnh⟩:=R.dB (by simpa[ga]using h2) hsv
  obtain⟨π',hp,R',href⟩:=Rel.rY R (d7 hok.1) hok.2 hcs
  have hlc:=(gh hcs).1
  have d3:=vX hp d2 (hnh rfl) (by simpa using hlc) (fun k cs B h1 h2=>by
   rw[List.getElem?_map,Option.map_eq_some_iff]at h2;obtain⟨b,hb,rfl⟩:=h2
   exact href k b cs hb h1)
  have d1':=d1.mono hp (fun _ _ _=>rfl)
  have hr:(execOp a.eval ⟨dst,.makeFunc (.func f) first caps,type,pos,after,guard⟩).run P w=.ok (.value (.func (.func f) (first.map a.eval) (caps.map a.eval))) w:=by simp[execOp,Instr.makeFunc]
  unfold Oper.wp;rw[hr]
  refine hn (.dat (.fn (.func f) xs (lW pas css)) none) _ _ _ _ _ _ hK ⟨?_,fun t ht=>by cases ht⟩ trivial (R'.sub hsub)
  exact .fn _ _ _ _ _ (by simpa using d1'.1) (by simpa using d3.1) (fun i x v hx hv=>d1'.2 i x v hx (by simpa using hv)) (fun i x v hx hv=>d3.2 i x v hx (by simpa using hv))
 case slice t x lo hi mx=>
  cases mx<;>simp only[]at hc<;>try(cases hc;done)
  split at hc<;>try(cases hc;done)
  ·rename_i e x' lo' hi' ht hx hl hh
   simp only[Option.map_eq_some_iff]at hc;obtain⟨z,hz,rfl⟩:=hc;obtain⟨v,y,hr,hv,hu,hK⟩:=R.slice ht hz hx hl hh h
   exact fin (by simp only[execOp,Sem.run_bind,Option.map_none,hr,Result.andThen_ok,Sem.run_pure]) hv hu hK
  ·rename_i n e x' ht hx hl hh
   simp only[Option.map_eq_some_iff]at hc;obtain⟨z,hz,rfl⟩:=hc
   have e1:lo=none:=by cases lo with|none=>rfl|some y=>simp[cOpt]at hl
   have e2:hi=none:=by cases hi with|none=>rfl|some y=>simp[cOpt]at hh
   subst e1 e2;simp only[bN]at h;obtain⟨v,hv,h⟩:=af h
   have hrv:=(R.bM hx hv).1
   cases v<;>try(exact h.elim)
   ·rename_i b off
    obtain⟨h4,h⟩:=h;obtain⟨bx,hb,hlen,hK⟩:=af h
    have he:a.eval x=.pointer (some ⟨β b,off,none⟩):=hrv
    have hcs:bh s.boxes [b]=some [bx.cells]:=by simp[bh,hb]
    obtain⟨π',hp,R',href⟩:=Rel.rY R (ids:=[b]) (by simp) (by simp[iz,h4]) hcs
    have hr:(execOp a.eval ⟨dst,.slice t x none none none,type,pos,after,guard⟩).run P w=.ok (.value (.slice (some ⟨β b,off,none⟩) n n)) w:=by
     simp only[execOp,Option.map_none,he,Sem.run_bind,Fs ht hz,Result.andThen_ok,Sem.run_pure]
    unfold Oper.wp;rw[hr]
    refine hn _ _ _ _ _ _ _ hK ⟨?_,fun t ht=>by cases ht⟩ trivial (R'.sub hsub)
    have:=H8 (href 0 b bx.cells rfl rfl) hlen
    simpa using this
   ·rename_i cs
    obtain⟨hlen,hK⟩:=h;obtain⟨B,o,f,he,h1,h2,h3,h5⟩:=hrv
    have hd:DV w π (.ref cs) (.pointer (some ⟨B,o,none⟩)):=.ref cs B o f h1 h2 h3 h5
    have:=H8 (off:=0) hd (by simpa using hlen)
    refine find ?_ (by simpa using this) hK
    have he:a.eval x=.pointer (some ⟨B,o,none⟩):=he
    simp only[execOp,Option.map_none,he,Sem.run_bind,Fs ht hz,Result.andThen_ok,Sem.run_pure]
  ·rename_i n e x' hi' ht hx hl hh
   simp only[Option.map_eq_some_iff]at hc;obtain⟨z,hz,rfl⟩:=hc
   have e1:lo=none:=by cases lo with|none=>rfl|some y=>simp[cOpt]at hl
   subst e1
   cases hi with
   |none=>simp[cOpt]at hh
   |some hi=>
    simp only[cOpt,Option.map_eq_some_iff,Option.some.injEq,exists_eq_right]at hh;simp only[bN]at h;obtain⟨v,hv,h⟩:=af h
    have hrv:=(R.bM hx hv).1
    have hru:=(R.bM hx hv).2
    cases v<;>try(exact h.elim)
    rename_i b off;obtain⟨b1,hb1,h⟩:=af h;obtain⟨j,hj,⟨h0,h1⟩,hK⟩:=af h;obtain⟨k,hk⟩:=R.idx hh hb1 hj
    have he:a.eval x=.pointer (some ⟨β b,off,none⟩):=hrv
    have hr:(execOp a.eval ⟨dst,.slice t x none (some hi) none,type,pos,after,guard⟩).run P w=.ok (.value (.slice (some ⟨β b,off,none⟩) j.toNat n)) w:=by
     simp only[execOp,Option.map_none,Option.map_some,he,hk,Sem.run_bind,Li ht hz h0 h1,Result.andThen_ok,Sem.run_pure]
    exact fin (v:=.vs b off j.toNat z) hr ⟨n,by omega,rfl⟩ hru hK
 case fieldAddr t x f=>
  split at hc<;>try(cases hc;done)
  rename_i fd x' hf hx
  split at hc<;>try(cases hc;done)
  rename_i hz;cases hc;obtain⟨v,y,hr,hv,hu,hK⟩:=R.fieldAddr hx hf hz h
  exact fin (by simp only[execOp,Sem.run_bind,hr,Result.andThen_ok,Sem.run_pure]) hv hu hK
 case field t x f=>
  split at hc<;>try(cases hc;done)
  rename_i fd x' hf hx;simp only[Option.map_eq_some_iff]at hc;obtain⟨r,hr,rfl⟩:=hc;simp only[bN]at h;obtain⟨av,hav,h⟩:=af h
  have hd:=R.aQ hx hav
  cases av<;>try(exact h.elim)
  rename_i cs;obtain⟨v,hv,hK⟩:=af h;unfold uK at hf
  split at hf<;>try(cases hf;done)
  rename_i fs hu;generalize he:a.eval x=u at hd
  cases hd with
  |agg _ us h1 h2 h3=>
   obtain⟨u,hpu,hdu⟩:=CP (P:=P) hr h1 h2 h3 hv
   exact find (by simp[execOp,he,Instr.field,asAgg,run_underlying hu,hf,hpu]) hdu hK
 case indexAddr t x i=>
  split at hc<;>try(cases hc;done)
  ·rename_i n e x' i' ht hx hi
   simp only[Option.map_eq_some_iff]at hc;obtain⟨z,hz,rfl⟩:=hc;obtain⟨v,y,hr,hv,hu,hK⟩:=R.H6 hx hi ht hz h
   exact fin (by simp only[execOp,Sem.run_bind,hr,Result.andThen_ok,Sem.run_pure]) hv hu hK
  ·rename_i e x' i' ht hx hi
   simp only[Option.map_eq_some_iff]at hc;obtain⟨z,hz,rfl⟩:=hc;obtain⟨v,y,hr,hv,hu,hK⟩:=R.Lc hx hi ht hz h
   exact fin (by simp only[execOp,Sem.run_bind,hr,Result.andThen_ok,Sem.run_pure]) hv hu hK
 case index t x i=>
  split at hc<;>try(cases hc;done)
  rotate_left
  ·rename_i x' i' ht hx hi
   cases hc;simp only[bN]at h;obtain⟨av,hav,h⟩:=af h
   have hd:=R.aQ hx hav
   cases av<;>try(exact h.elim)
   rename_i bs;obtain⟨b,hb,h⟩:=af h;obtain⟨j,hj,h⟩:=af h;obtain⟨v,hv,hK⟩:=af h;obtain⟨k,hk⟩:=R.idx hi hb hj;generalize he:a.eval x=u at hd;cases hd;unfold Fa at hv
   split at hv<;>try(cases hv;done)
   rename_i hlt;cases hv
   exact find (by simp[execOp,he,Instr.index,hk,asIntOf,run_underlying ht,hlt]) (.int _ _) hK
  rename_i n e x' i' ht hx hi
  split at hc<;>try(cases hc;done)
  rename_i z r hz hr;cases hc;simp only[bN]at h;obtain⟨av,hav,h⟩:=af h
  have hd:=R.aQ hx hav
  cases av<;>try(exact h.elim)
  rename_i cs;obtain⟨b,hb,h⟩:=af h;obtain⟨j,hj,h⟩:=af h;obtain⟨hlt,h⟩:=h;obtain⟨v,hv,hK⟩:=af h;obtain⟨k,hk⟩:=R.idx hi hb hj
  have hsz:=dN (w:=w) hz
  generalize he:a.eval x=u at hd
  cases hd with
  |agg _ us h1 h2 h3=>
   obtain⟨u,hpu,hdu⟩:=CP (P:=P) hr h1 h2 h3 hv
   exact find (by simp[execOp,he,Instr.index,hk,asIntOf,run_underlying ht,hlt,hsz,hpu]) hdu hK
 case extract x i=>
  simp only[Option.map_eq_some_iff]at hc;obtain⟨x',hx,rfl⟩:=hc;simp only[bN]at h;obtain⟨av,hav,h⟩:=af h;obtain⟨v,hv,hK⟩:=af h
  obtain⟨u,hu,hd⟩:=K9 (P:=P) hv (R.aQ hx hav)
  exact find (by simp only[execOp,Sem.run_bind,hu,Result.andThen_ok,Sem.run_pure]) hd hK
 case call cl=>
  obtain⟨callee,args,argTypes⟩:=cl
  -- a call
  have enter:∀{f:Nat} {as:List AV} {vs:List Value} {r:AV} {fr:Option Nat},CJ P f as r fr->jr w π as vs->
    (execOp a.eval ⟨dst,.call ⟨callee,args,argTypes⟩,type,pos,after,guard⟩).run P w=.ok (.enter f vs.toArray) w->
    K (.dat r (fr.map fun _=>id)) {s with live:=match(generalizing:=false) fr with|some e=>(id,e)::s.live|none=>s.live}->
    Oper.wp P ⟨dst,.call ⟨callee,args,argTypes⟩,type,pos,after,guard⟩ a w next Q:=by
   intro f as vs r fr hp hd hr hK;unfold Oper.wp;rw[hr,Oper.upon_enter];refine(hp.2 w π vs R.ej hd).mono ?_
   rintro e w' ⟨v,π',rfl,hbel,hp1,hp2,hp3,hdv,htk⟩
   obtain⟨τ',hrv,R'⟩:=R.called hid hbel hp1 hp2 hp3 hdv htk
   exact hn _ _ _ _ _ _ _ hK hrv (by cases fr with|none=>trivial|some e=>exact .inr rfl) R'
  simp only[tc]at hc;split at hc
  ·rename_i f
   by_cases hcall:cg P f=true
   rotate_left
   ·rw[if_neg hcall]at hc
    split at hc<;>try(cases hc;done)
    rename_i e x hxt hargs;simp only[Option.map_eq_some_iff]at hc;obtain⟨x',hx,rfl⟩:=hc;simp only[bN]at h;obtain⟨av,hav,h⟩:=af h;obtain⟨v,hv,hK⟩:=af h
    obtain⟨u,hu,hdu⟩:=Oy hxt hv (R.aQ hx hav)
    have eX:args=#[x]:=Array.toList_inj.1 (by simpa using hargs)
    subst eX
    exact find (by simp[execOp,resolve,Act.eval,Deferred.ofValue,invoke];simpa[Act.eval]using hu) hdu hK
   rw[if_pos hcall]at hc;simp only[Option.map_eq_some_iff]at hc;obtain⟨xs,hxs,hce⟩:=hc;split at hce
   ·subst hce
    simp only[bN]at h;obtain⟨⟨pas,ids⟩,hsv,hnd,h⟩:=af h;obtain⟨css,hcs,r,fr,css',hp,hK⟩:=af h
    have hp:yw P f css pas r fr css':=hp
    obtain⟨hca,hl1,_,hp⟩:=hp
    have hnd':ids.Nodup:=d7 hnd
    have harg:=(R.dB (by simpa[ga]using hxs) hsv).1
    have e1:(args.toList.map a.eval).toArray=args.map a.eval:=Array.toList_inj.1 (by simp)
    have hr:(execOp a.eval ⟨dst,.call ⟨.value (.func f),args,argTypes⟩,type,pos,after,guard⟩).run P w=.ok (.enter f (args.toList.map a.eval).toArray) w:=by
     rw[e1];simp[execOp,resolve,Act.eval,Deferred.ofValue,invoke,fh hcall]
    unfold Oper.wp;rw[hr,Oper.upon_enter];refine(hp w π (ids.map β) (args.toList.map a.eval) R.ej (R.nodup hnd' hcs) (R.nK hcs) harg).mono ?_
    rintro e w' ⟨v,π',rfl,hbel,hp1,hp2,hp3,hbx,hdv,htk⟩
    obtain⟨τ',hrv,R'⟩:=R.rX hid hnd' hcs hl1 hbel hp1 hp2 hp3 hbx hdv htk
    exact hn _ _ _ _ _ _ _ hK hrv (by cases fr with|none=>trivial|some e=>exact .inr rfl) R'
   subst hce;simp only[bN]at h;obtain⟨as,has,r,fr,hp,hK⟩:=af h
   have hd:=R.dL (by simpa[ga]using hxs) has
   have e1:(args.toList.map a.eval).toArray=args.map a.eval:=Array.toList_inj.1 (by simp)
   exact enter hp hd (by rw[e1];simp[execOp,resolve,Act.eval,Deferred.ofValue,invoke,fh hcall]) hK
  ·rename_i g hg
   split at hc<;>try(cases hc;done)
   rename_i g' xs hg' hxs;simp only[Option.some.injEq]at hc;split at hc
   ·subst hc
    simp only[bN]at h;obtain⟨av,hav,h⟩:=af h
    have hdg:=R.aQ hg' hav
    cases av<;>try(exact h.elim)
    rename_i fn first caps
    cases fn<;>try(exact h.elim)
    rename_i f
    cases first<;>try(exact h.elim)
    cases caps<;>try(exact h.elim)
    obtain⟨⟨pas,ids⟩,hsv,hnd,h⟩:=af h;obtain⟨css,hcs,r,fr,css',hp,hK⟩:=af h
    have hp:yw P f css pas r fr css':=hp
    obtain⟨hca,hl1,_,hp⟩:=hp
    have hnd':ids.Nodup:=d7 hnd
    have harg:=(R.dB (by simpa[ga]using hxs) hsv).1
    have e1:(args.toList.map a.eval).toArray=args.map a.eval:=Array.toList_inj.1 (by simp)
    have hr:(execOp a.eval ⟨dst,.call ⟨.value g,args,argTypes⟩,type,pos,after,guard⟩).run P w=.ok (.enter f (args.toList.map a.eval).toArray) w:=by
     generalize he:a.eval g=u at hdg
     cases hdg with
     |fn _ _ vs _ us h1 h2 h3 h4=>
      have e2:vs=#[]:=Array.size_eq_zero_iff.1 (by simpa using h1.symm)
      have e3:us=#[]:=Array.size_eq_zero_iff.1 (by simpa using h2.symm)
      subst e2 e3;rw[e1];simp[execOp,resolve,he,Deferred.ofValue,invoke,fh hca]
    unfold Oper.wp;rw[hr,Oper.upon_enter];refine(hp w π (ids.map β) (args.toList.map a.eval) R.ej (R.nodup hnd' hcs) (R.nK hcs) harg).mono ?_
    rintro e w' ⟨v,π',rfl,hbel,hp1,hp2,hp3,hbx,hdv,htk⟩
    obtain⟨τ',hrv,R'⟩:=R.rX hid hnd' hcs hl1 hbel hp1 hp2 hp3 hbx hdv htk
    exact hn _ _ _ _ _ _ _ hK hrv (by cases fr with|none=>trivial|some e=>exact .inr rfl) R'
   subst hc;simp only[bN]at h;obtain⟨av,hav,h⟩:=af h
   have hdg:=R.aQ hg' hav
   cases av<;>try(exact h.elim)
   rename_i fn first caps
   cases fn<;>try(exact h.elim)
   rename_i f;obtain⟨as,has,r,fr,hp,hK⟩:=af h
   have hd:=R.dL (by simpa[ga]using hxs) has
   generalize he:a.eval g=u at hdg
   cases hdg with
   |fn _ _ vs _ us h1 h2 h3 h4=>
    have d1:jr w π first vs.toList:=⟨by simpa using h1,fun i x v hx hv=>h3 i x v hx (by simpa using hv)⟩
    have d2:jr w π caps us.toList:=⟨by simpa using h2,fun i x v hx hv=>h4 i x v hx (by simpa using hv)⟩
    have e1:(vs.toList++(args.toList.map a.eval)++us.toList).toArray=vs++args.map a.eval++us:=by
     apply Array.toList_inj.1;simp
    refine enter hp ((d1.append hd).append d2) ?_ hK;rw[e1]
    simp[execOp,resolve,he,Deferred.ofValue,invoke,fh (show CJ P _ _ _ _ from hp).1]
  ·--len
   split at hc<;>try(cases hc;done)
   rename_i t x hT hX
   split at hc<;>try(cases hc;done)
   ·rename_i e ht
    simp only[Option.map_eq_some_iff]at hc;obtain⟨x',hx,rfl⟩:=hc;simp only[bN]at h;obtain⟨sv,hsv,h⟩:=af h
    cases sv with
    |ptr _ _=>exact h.elim
    |rp _=>exact h.elim
    |undef=>exact h.elim
    |nD _ _ _=>exact h.elim
    |raw _ _=>exact h.elim
    |pt _ _=>exact h.elim
    |vs b off n z=>
     obtain⟨⟨cap,_,hv⟩,_⟩:=R.bM hx hsv
     exact find (v:=.int .i64 n) (y:=.int .i64 n) (by simp[execOp,resolve,invoke,builtin,Builtin.len_,hT,hX,hv,run_underlying ht,goInt]) (.int _ _) h
    |dat av q=>
     obtain⟨v,hv,hK⟩:=af h
     have hav:Eng.aQ s x'=some av:=by simp[Eng.aQ,hsv]
     obtain⟨u,hu,hd⟩:=K8 (P:=P) ht hT (Xs:=args.map a.eval) (by simp[hX]) (R.aQ hx hav) hv type
     exact find (by simp[execOp,resolve,invoke,builtin,hu]) hd hK
   ·rename_i n e ht
    cases hc;simp only[bN]at h
    exact find (v:=.int .i64 n) (y:=.int .i64 n) (by simp[execOp,resolve,invoke,builtin,Builtin.len_,hT,hX,run_underlying ht,goInt]) (.int _ _) h
  ·--append
   split at hc<;>try(cases hc;done)
   rename_i t t' x y hT hX
   split at hc<;>try(cases hc;done)
   rename_i htt;subst htt
   split at hc<;>try(cases hc;done)
   rename_i e x' y' ht hx hy
   split at hc<;>try(cases hc;done)
   rename_i i hi
   split at hc<;>try(cases hc;done)
   rename_i zv hz
   split at hc<;>try(cases hc;done)
   rename_i hsz;cases hc;obtain⟨v,u,s',w',τ',π',hr,hv,hu,hK,R'⟩:=R.append ht hi hz hsz hx hy hid type h
   have eT:argTypes=#[t,t]:=Array.toList_inj.1 (by simpa using hT)
   have eX:args=#[x,y]:=Array.toList_inj.1 (by simpa using hX)
   subst eT eX;unfold Oper.wp
   have:(execOp a.eval ⟨dst,.call ⟨.builtin .append,#[x,y],#[t,t]⟩,type,pos,after,guard⟩).run P w=.ok (.value u) w':=by
    simp[execOp,resolve,invoke,builtin,hr]
   rw[this];exact hn v s' u w' β τ' π' hK hv hu R'
  ·simp only[Option.map_eq_some_iff]at hc
   obtain⟨xs,hxs,rfl⟩:=hc;simp only[bN]at h;obtain⟨as,has,h⟩:=af h
   have hd:=R.dL (by simpa[ga]using hxs) has
   cases as with
   |nil=>exact h.elim
   |cons b as=>
    obtain⟨v,hv,hK⟩:=af h;obtain⟨args⟩:=args
    cases args with
    |nil=>have:=hd.1;simp at this
    |cons y ys=>
     obtain⟨u,w',hw',hu,hdu⟩:=Ej (P:=P) hv (hd.2 0 b (a.eval y) rfl rfl) (us:=ys.map a.eval) ⟨by have:=hd.1;simpa using this,fun i a v h1 h2=>hd.2 (i+1) a v (by simpa using h1) (by simpa using h2)⟩
     simp only[if_true]at hu
     have hr:(execOp a.eval ⟨dst,.call ⟨.builtin .max,⟨y::ys⟩,argTypes⟩,type,pos,after,guard⟩).run P w=.ok (.value u) w':=by simp[execOp,resolve,invoke,builtin,Builtin.max_,hu]
     unfold Oper.wp;rw[hr]
     exact hn (.dat v none) _ _ _ _ _ _ hK ⟨hdu,fun t ht=>by cases ht⟩ trivial (R.lg hw'|>.sub hsub)
  ·simp only[Option.map_eq_some_iff]at hc
   obtain⟨xs,hxs,rfl⟩:=hc;simp only[bN]at h;obtain⟨as,has,h⟩:=af h
   have hd:=R.dL (by simpa[ga]using hxs) has
   cases as with
   |nil=>exact h.elim
   |cons b as=>
    obtain⟨v,hv,hK⟩:=af h;obtain⟨args⟩:=args
    cases args with
    |nil=>have:=hd.1;simp at this
    |cons y ys=>
     obtain⟨u,w',hw',hu,hdu⟩:=Ej (P:=P) hv (hd.2 0 b (a.eval y) rfl rfl) (us:=ys.map a.eval) ⟨by have:=hd.1;simpa using this,fun i a v h1 h2=>hd.2 (i+1) a v (by simpa using h1) (by simpa using h2)⟩
     simp only[Bool.false_eq_true,if_false]at hu
     have hr:(execOp a.eval ⟨dst,.call ⟨.builtin .min,⟨y::ys⟩,argTypes⟩,type,pos,after,guard⟩).run P w=.ok (.value u) w':=by simp[execOp,resolve,invoke,builtin,Builtin.min_,hu]
     unfold Oper.wp;rw[hr]
     exact hn (.dat v none) _ _ _ _ _ _ hK ⟨hdu,fun t ht=>by cases ht⟩ trivial (R.lg hw'|>.sub hsub)
  ·cases hc
theorem wX(z:Nat):∀(n:Nat) (cs:List AV),(bZ z n cs).flatten=cs.take (n*z)
 |0,cs=>by simp[bZ]
 |n+1,cs=>by
  rw[bZ,List.flatten_cons,wX z n,Nat.succ_mul,Nat.add_comm,List.take_add]
theorem wY(z:Nat):∀(n:Nat) (cs:List AV),n*z<=cs.length->∀r∈bZ z n cs,r.length=z
 |0,cs,_,r,h=>by simp[bZ]at h
 |n+1,cs,hl,r,h=>by
  rw[Nat.succ_mul]at hl;rw[bZ]at h
  rcases List.mem_cons.1 h with rfl|h
  ·simp;omega
  ·exact wY z n (cs.drop z) (by simp;omega) r h
theorem Rel.Ll(R:Rel P nt n0 w0 π0 U s a w β τ π) {t e:TypeId} {i:TypeInfo} {zv:Value} {X:Operand} {x:bE} {y:Nat} (ht:P.underlying t=some (.slice e)) (hi:P.info? e=some i) (hz:i.zero=some zv) (hsz:(0<i.size&&zv.cells.size==i.size&&0<i.bytes)=true)
  (hx:cn X=some x) {id:Nat} (hid:¬U id) (ty:TypeId) {K:SV->S->Prop} (h:bN (Pure P) id (.Bt e i.size i.bytes (.t y) x) K s):
  ∃v u s' w' τ' π',(Builtin.append_ #[t,t] ty #[.slice none 0 0,a.eval (.tmp y)]).run P w=.ok u w'/\RV β τ' w' π' v u/\v.gp (eE U id)/\K v s'/\Rel P nt n0 w0 π0 (eE U id) s' a w' β τ' π':=by
 simp only[Bool.and_eq_true,decide_eq_true_eq,beq_iff_eq]at hsz;obtain⟨⟨hz0,hzs⟩,hb0⟩:=hsz
 have hsub:∀n,U n->eE U id n:=fun n h=>.inl h
 simp only[bN]at h;obtain⟨p,hp,h⟩:=af h
 have hrp:=(R.bM (X:=.tmp y) (x:=.t y) rfl hp).1
 cases p<;>try(exact h.elim)
 rename_i b off n z';obtain⟨q,hq,h2⟩:=af h;clear h
 cases q<;>try(exact h2.elim)
 rename_i b' o';obtain⟨⟨hbb,hzz⟩,h3⟩:=h2;obtain⟨bx,hb,⟨hlen,hbytes⟩,hK⟩:=af h3;clear h3;subst hbb hzz;obtain⟨cap,hcap,hv⟩:=hrp;obtain⟨_,_,hbox,_⟩:=R.boxes b' bx hb;obtain⟨f,hf,hsc,hdv,_⟩:=hbox.cells;rw[hv];simp only[List.length_drop]at hlen
 by_cases hn0:n=0
 ·subst hn0
  rw[if_pos rfl]at hK
  refine⟨.dat .bL none,.slice none 0 0,s,w,τ,π,?_,⟨.bL,fun t ht=>by cases ht⟩,trivial,hK,R.sub hsub⟩
  simp[Builtin.append_,run_underlying ht,sizeOf,typeInfo,hi,Builtin.lenOf,Builtin.firstCells,loadCells,loadCellsFrom]
 ·rw[if_neg hn0]at hK
  have hpos:0<n:=Nat.pos_of_ne_zero hn0
  have h63:n<=maxLen:=by
   have:=Nat.le_mul_of_pos_right n hb0
   simp only[maxLen];omega
  have hl0:=tS i.size n (bx.cells.drop off)
  have hrow:=wY i.size n (bx.cells.drop off) (by simp;omega)
  have hfl:=wX i.size n (bx.cells.drop off)
  have hget:∀(j:Nat) (c:AV),(bZ i.size n (bx.cells.drop off)).flatten[j]? =some c->j<n*i.size/\bx.cells[off+j]? =some c:=by
   intro j c hj;rw[hfl,List.getElem?_take]at hj;split at hj
   ·rename_i hjl;rw[List.getElem?_drop]at hj;exact⟨hjl,hj⟩
   ·cases hj
  have hnews:((List.range (n*i.size)).map fun j=>f (off+j)).length=n*i.size:=by simp
  have hcell:∀j v,((List.range (n*i.size)).map fun j=>f (off+j))[j]? =some v->w.cell? ((⟨β b',off,none⟩:Addr).add j)=some v:=by
   intro j v hj;rw[List.getElem?_map,Option.map_eq_some_iff]at hj;obtain⟨k,hk,rfl⟩:=hj
   have hkl:j<n*i.size:=by
    rcases Nat.lt_or_ge j (n*i.size)with h|h
    ·exact h
    ·rw[List.getElem?_eq_none (by simpa using h)]at hk;cases hk
   rw[List.getElem?_range hkl]at hk;cases hk;rw[iA]
   exact hf _ (by omega)
  have hdn:jr w π (bZ i.size n (bx.cells.drop off)).flatten ((List.range (n*i.size)).map fun j=>f (off+j)):=by
   refine⟨by rw[hfl];simp;omega,fun j c v hc hj=>?_⟩
   obtain⟨hjl,hc⟩:=hget j c hc;rw[List.getElem?_map,List.getElem?_range hjl]at hj;cases hj;exact hdv _ _ hc
  have hscn:∀r∈bZ i.size n (bx.cells.drop off),∀x∈r,x.scalar=true:=by
   intro r hr x hx
   have hm:x∈(bZ i.size n (bx.cells.drop off)).flatten:=List.mem_flatten.2 ⟨r,hr,hx⟩
   rw[hfl]at hm
   obtain⟨j,hj⟩:=List.mem_iff_getElem?.1 (List.mem_of_mem_drop (List.mem_of_mem_take hm))
   exact hsc j x hj
  have hrun:=run_append_nil (P:=P) w t ty e i zv ht hi hz ⟨β b',off,none⟩ n cap _ hnews hcell hpos (by simp only[maxLen]at h63;omega) (by omega)
  obtain⟨π',R',hd'⟩:=R.grown (id:=id) (old:=0) hi hz rfl hzs hz0 hid (zs:=bZ i.size n (bx.cells.drop off)) (vs:=(List.range (n*i.size)).map fun j=>f (off+j)) (by rw[hl0,hnews]) hdn hrow hscn (by rw[hl0];exact h63) rfl
  rw[hl0]at R' hd'
  exact⟨.dat (.sl _) (some id),_,_,_,_,_,hrun,⟨hd',fun t ht=>by cases ht;rw[cj]⟩,.inr rfl,hK,R'⟩
theorem El(R:Rel P nt n0 w0 π0 U s a w β τ π) {o:Oper} {ops:List Oper} {c:bR} {id:Nat} (hc:Gg P ops o.op=some c) {K:SV->S->Prop} (h:bN (Pure P) id c K s) {next:Act->World->Prop} {Q:Exit->Act->World->Prop}
  (hn:∀v s' x w' β' τ' π',K v s'->RV β' τ' w' π' v x->v.gp (eE U id)->Rel P nt n0 w0 π0 (eE U id) s' a w' β' τ' π'->next (a.put o.dst x) w'):o.wp P a w next Q:=by
 obtain⟨dst,op,type,pos,after,guard⟩:=o;simp only at hc;unfold Gg at hc
 split at hc<;>try(cases hc;done)
 rename_i t x
 split at hc<;>try(cases hc;done)
 split at hc<;>try(cases hc;done)
 rename_i r x' hr hx;cases hc;obtain⟨v,y,hr,hv,hu,hK⟩:=R.load hx hr h;unfold Oper.wp
 have:(execOp a.eval ⟨dst,.load t x,type,pos,after,guard⟩).run P w=.ok (.value y) w:=by simp only[execOp,Sem.run_bind,hr,Result.andThen_ok,Sem.run_pure]
 rw[this]
 exact hn v s y w β τ π hK hv (SV.mQ (fun n h=>.inl h) hu) (R.sub fun n h=>.inl h)
theorem Em(R:Rel P nt n0 w0 π0 U s a w β τ π) {o:Oper} {ops:List Oper} {c:bR} {id:Nat} (hid:¬U id) (hc:tM P ops o.op=some c) {K:SV->S->Prop} (h:bN (Pure P) id c K s) {next:Act->World->Prop} {Q:Exit->Act->World->Prop}
  (hn:∀v s' x w' β' τ' π',K v s'->RV β' τ' w' π' v x->v.gp (eE U id)->Rel P nt n0 w0 π0 (eE U id) s' a w' β' τ' π'->next (a.put o.dst x) w'):o.wp P a w next Q:=by
 obtain⟨dst,op,type,pos,after,guard⟩:=o;simp only at hc;unfold tM at hc
 split at hc<;>try(cases hc;done)
 rename_i cl
 split at hc<;>try(cases hc;done)
 rename_i t t' y hcal hT hX
 split at hc<;>try(cases hc;done)
 rename_i htt;subst htt
 split at hc<;>try(cases hc;done)
 rename_i e x' ht hx
 split at hc<;>try(cases hc;done)
 rename_i i hi
 split at hc<;>try(cases hc;done)
 rename_i zv hz
 split at hc<;>try(cases hc;done)
 rename_i hsz;cases hc;obtain⟨X,hX1,hX2⟩:=Option.bind_eq_some_iff.1 hx;obtain⟨v,u,s',w',τ',π',hr,hv,hu,hK,R'⟩:=R.Ll ht hi hz hsz hX2 hid type h;obtain⟨callee,args,argTypes⟩:=cl;simp only at hcal hT hX
 have eT:argTypes=#[t,t]:=Array.toList_inj.1 (by simpa using hT)
 have eX:args=#[.const (.slice none 0 0),.tmp y]:=Array.toList_inj.1 (by simpa using hX)
 subst eT eX hcal;unfold Oper.wp
 have:(execOp a.eval ⟨dst,.call ⟨.builtin .append,#[.const (.slice none 0 0),.tmp y],#[t,t]⟩,type,pos,after,guard⟩).run P w=.ok (.value u) w':=by
  have e0:a.eval (.const (.slice none 0 0))=.slice none 0 0:=rfl
  simp[execOp,resolve,invoke,builtin,hr,e0]
 rw[this];exact hn v s' u w' β τ' π' hK hv hu R'
end
end Go.Eng
