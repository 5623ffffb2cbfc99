/- Part 4 of the engine and its library. -/
import Derived.Test.YtjnbemnncjbmgaaGreatPk3
set_option linter.all false
set_option maxRecDepth 10000
set_option maxHeartbeats 4000000
namespace Go.Eng
open Go
open Go.RowKit (Below)
section
variable{P:Program} {nt:Nat} {n0:gV} {w0:World} {π0:Nat->Nat->Prop} {U:Nat->Prop} {s:S} {a:Act} {w:World} {β:Nat->Nat} {τ:Nat->Value} {π:Nat->Nat->Prop}
section
variable {K:SV->S->Prop} {Q:Exit->Act->World->Prop} {X Y:Operand} {b:Nat} {c:bU} {cs:List AV} {css:List (List AV)} {e:Nat} {fr:Option Nat} {id:Nat} {ids:List Nat} {n:Nat} {neg:Bool} {next:Act->World->Prop} {o off:Nat} {op:BinOp} {ops:List Oper} {q:Nat} {qo:Option Nat} {r:AV} {t:TypeId} {v:Value} {w':World} {x y:Value} {z:Nat} {π':Nat->Nat->Prop}
theorem Rel.zO(R:Rel P nt n0 w0 π0 U s a w β τ π) {x:aR} {i:Int} (L:dn X=some x) (D:Eng.zO (Eng.aL s x)=some i):∃k,a.eval X=.int k i:=by
 cases h:Eng.aL s x with
 |none=>rw[h]at D;cases D
 |some b=>rw[h]at D;exact R.idx L h D
theorem Rel.slice(R:Rel P nt n0 w0 π0 U s a w β τ π) {t e:TypeId} {z:Nat} {X:Operand} {x:aR} {lo hi:Option Operand} {au ao:Option aR} (Z:P.underlying t=some (.slice e)) (hz:gF P e=some z) (hx:dn X=some x) (hl:cOpt lo=some au) (hh:cOpt hi=some ao)
  {id:Nat} {K:SV->S->Prop} (h:bF (Pure P) id (.Zk z x au ao) K s):
  ∃v y,(Instr.sliceAt t (a.eval X) (lo.map a.eval) (hi.map a.eval) none).run P w=.ok y w/\RV β τ w π v y/\v.iA U/\K v s:=by
 simp only[bF]at h;obtain⟨b,hb,k1⟩:=ah h;obtain⟨xs,aa,k2⟩:=ah k1;obtain⟨l,ac,k3⟩:=ah k2;obtain⟨m,ad,⟨ar,bj,a4⟩,ab,hK⟩:=ah k3
 have hd:=R.aL hx hb
 have ae:=eV (P:=P) (w:=w) hz
 -- the bounds
 have a6:(lo=none/\l=0)\/∃L k,lo=some L/\a.eval L=.int k l:=by
  cases lo with
  |none=>simp[cOpt]at hl;subst hl;simp[A0]at ac;exact .inl ⟨rfl,ac.symm⟩
  |some L=>
   simp only[cOpt,eg]at hl;obtain⟨x',am,rfl⟩:=hl;obtain⟨k,hk⟩:=R.zO am ac;exact .inr ⟨L,k,rfl,hk⟩
 have an:(hi=none/\m=xs.length)\/∃H k,hi=some H/\a.eval H=.int k m:=by
  cases hi with
  |none=>simp[cOpt]at hh;subst hh;simp[zP]at ad;exact .inl ⟨rfl,ad.symm⟩
  |some H=>
   simp only[cOpt,eg]at hh;obtain⟨x',am,rfl⟩:=hh;obtain⟨k,hk⟩:=R.zO am ad;exact .inr ⟨H,k,rfl,hk⟩
 have O:∀cap,xs.length<=cap->(Instr.sliceBounds true xs.length cap (lo.map a.eval) (hi.map a.eval) none).run P w=.ok (l.toNat,m.toNat,cap) w:=by
  intro cap bi
  have al:(0:Int)<=m:=ado
  have a3:m<=cap:=ado
  have bd:(m.toNat:Int)=m:=xr al
  rcases a6 with⟨rfl,rfl⟩|⟨L,k,rfl,hL⟩<;>rcases an with⟨rfl,hm⟩|⟨H,k',rfl,hH⟩
  ·subst hm;simp[Instr.sliceBounds]
  ·simp[Instr.sliceBounds,hH,ac0,al,a3]
  ·have hL':=ac0 (P:=P) w k l xs.length .sliceB ar ado
   have a7:m.toNat=xs.length:=ado
   simp[Instr.sliceBounds,hL,hL',a7]
  ·have be:=ac0 (P:=P) w k' m cap .sliceAcap al a3
   have hL':=ac0 (P:=P) w k l m.toNat .sliceB ar ado
   simp[Instr.sliceBounds,hL,hH,be,hL']
 have ba:(Instr.sliceAt t (a.eval X) (lo.map a.eval) (hi.map a.eval) none).run P w=(Instr.slice t (a.eval X) (lo.map a.eval) (hi.map a.eval) none).run P w:=by
  simp[Instr.sliceAt,ix Z]
 rw[ba]
 cases b<;>simp only[rowsOf]at aa<;>try(cases aa;done)
 ·--nil
  cases aa
  have hv:a.eval X=.slice none 0 0:=by generalize a.eval X=v at hd;cases hd;rfl
  have h0:=O 0 adI
  simp at a4
  have ak:l=0:=ado
  have ag:m=0:=ado
  subst ak ag
  refine⟨.dat .aZ none,.slice none 0 0,?_,⟨.aZ,λt Z=>by cases Z⟩,trivial,hK⟩
  simp only[ib]at h0;simp[hv,Instr.slice,ix Z,h0,ae]
 ·cases aa
  generalize hv:a.eval X=v at hd
  cases hd with
  |S5 A=>
   have h0:=O 0 adI
   simp at a4
   have ak:l=0:=ado
   have ag:m=0:=ado
   subst ak ag
   refine⟨.dat (.sl []) none,.slice (some A) 0 0,?_,⟨.S5 A,λt Z=>by cases Z⟩,trivial,hK⟩
   simp only[ib]at h0;simp[Instr.slice,ix Z,h0,ae]
  |sl _ B off cap z' f h1 h2 h3 h4 h5 h6=>
   have h0:=O cap h1
   have bl:l.toNat<=m.toNat:=ado
   have bd:m.toNat<=xs.length:=ado
   have V:((xs.take m.toNat).drop l.toNat).length=m.toNat-l.toNat:=by simp;omega
   have M:∀(i:Nat) (r:List AV),((xs.take m.toNat).drop l.toNat)[i]? =some r->xs[l.toNat+i]? =some r:=by
    intro i r D;rw[lL,yv]at D;split at D
    ·exact D
    ·cases D
   have a9:(Instr.slice t (.slice (some ⟨B,off,none⟩) xs.length cap) (lo.map a.eval) (hi.map a.eval) none).run P w=.ok (.slice (some (if cap=l.toNat then⟨B,off,none⟩else⟨B,off+l.toNat*z,none⟩)) (m.toNat-l.toNat) (cap-l.toNat)) w:=by
    simp only[Instr.slice,ia,ix Z,ge,h0,ae,kx]
    split<;>simp[jj]
   refine⟨.dat (.sl ((xs.take m.toNat).drop l.toNat)) none,_,a9,⟨?_,λt Z=>by cases Z⟩,trivial,hK⟩
   rw[<-V]
   by_cases a2:cap=l.toNat
   ·rw[fp a2]
    have a8:(xs.take m.toNat).drop l.toNat=[]:=sT (by rw[V];omega)
    rw[a8]
    exact .sl [] B off _ z' f adI (λi r D=>by simp at D) (λi j r a D=>by simp at D) (λi j r a D=>by simp at D) (λi j r a D=>by simp at D) (λi j r a D=>by simp at D)
   ·rw[fb a2]
    have a5:∀(i:Nat) (r:List AV),((xs.take m.toNat).drop l.toNat)[i]? =some r->z'=z:=λi r D=>by
     rw[<-h2 _ _ (M i r D)];exact ab r (er (M i r D))
    refine .sl _ B (off+l.toNat*z) _ z (λi j=>f (l.toNat+i) j) (by rw[V];omega) (λi r D=>ab r (er (M i r D))) (λi j r x D hx=>h3 _ j r x (M i r D) hx) (λi j r x D hx=>?_) (λi j r x D hx=>?_) (λi j r x D hx=>h6 _ j r x (M i r D) hx)
    ·have e:=a5 i r D
     subst e
     have:=h4 _ j r x (M i r D) hx
     rwa[show off+(l.toNat+i)*z'+j=off+l.toNat*z'+i*z'+j by rw[Nat.add_mul];omega]at this
    ·have e:=a5 i r D
     subst e
     have:=h5 _ j r x (M i r D) hx
     rwa[show off+(l.toNat+i)*z'+j=off+l.toNat*z'+i*z'+j by rw[Nat.add_mul];omega]at this
theorem ZB{V:List CK} (ac:(op=.eql/\neg=false)\/(op=.neq/\neg=true)) (hk:pn P 20 t=some V) (D:(qD P t&& !P.eqGuardType P.depth t)=true) {as L:List AV} {e:Bool} (hx:DV w π (.agg as) x) (hy:DV w π (.agg L) y) (he:cV V as L=some e):(do eqGuard op t X Y x y;binOp op t x y:Sem Value).run P w=.ok (.bool (e !=neg)) w:=by
 simp only[ed,pA]at D
 cases hx with
 |agg _ xs h1 h2 h3=>
  cases hy with
  |agg _ O k1 k2 k3=>
   have ab:UZ w π P t as (.agg xs):=by
    unfold UZ;rw[fp D.1];exact⟨xs,rfl,⟨by simpa using h1,λi a v M R=>h3 i a v M (by simpa using R)⟩,h2⟩
   have aa:UZ w π P t L (.agg O):=by
    unfold UZ;rw[fp D.1];exact⟨O,rfl,⟨by simpa using k1,λi a v M R=>k3 i a v M (by simpa using R)⟩,k2⟩
   have hr:=ad3 20 t V hk Op.maxDepth adp as L _ _ e ab aa he
   have Z:=run_eqGuard_agg w op t X Y xs O D.2
   rw[ia,Z]
   rcases ac with⟨rfl,rfl⟩|⟨rfl,rfl⟩
   ·simp[binOp,Op.equal,hr]
   ·simp[binOp,Op.equal,hr]
theorem ZC(R:(op=.eql/\neg=false)\/(op=.neq/\neg=true)) (O:sliceB P t=true) {a:AV} {b:Bool} (V:Kt neg a=some b) (Z:DV w π a x) (hy:DV w π .aZ y):(do eqGuard op t X Y x y;binOp op t x y:Sem Value).run P w=.ok (.bool b) w:=by
 have M:∃e,P.underlying t=some (.slice e):=by
  unfold sliceB at O;split at O
  ·exact⟨_,by assumption⟩
  ·cases O
 obtain⟨e,M⟩:=M;cases hy
 have L:∀(A:Option Addr) (n c:Nat),(binOp .eql t (.slice A n c) (.slice none 0 0)).run P w=.ok (.bool A.isNone) w:=λA n c=>Lib.run_eql_slice_nil w t e A n c 0 0 M
 have D:∀(A:Option Addr) (n c:Nat),(binOp .neq t (.slice A n c) (.slice none 0 0)).run P w=.ok (.bool !A.isNone) w:=λA n c=>by
  simp only[binOp];simp[Op.equal,Op.maxDepth,Lib.run_equalIn_slice_nil w 9999 t e A n c 0 0 M]
 cases Z<;>simp only[Kt,fx,reduceCtorEq]at V<;>subst V
 all_goals(rcases R with⟨rfl,rfl⟩|⟨rfl,rfl⟩<;>rw[ia,iZ _ _ _ _ (λ_ h=>by cases h) (λh=>by cases h)])
 all_goals first|exact L _ _ _|exact D _ _ _
theorem Jk.weaken{ok D:Nat->Prop} (h:Jk P w π ok e v) (V:∀B,ok B->D B):Jk P w π D e v:=by
 rcases h with h|⟨B,len,cap,L,i,O,R,M⟩
 ·exact .inl h
 ·exact .inr ⟨B,len,cap,L,i,O,V _ R,M⟩
theorem Rel.called(R:Rel P nt n0 w0 π0 U s a w β τ π) (aa:¬U id) (D:Below w.heap.size w w') (hp:∀b o,π b o->π' b o) (O:∀b o,π' b o->π b o\/w.heap.size<=b) (V:∀b o,π' b o->b<w'.heap.size) (hd:DV w' π' r v) (ht:∀t,fr=some t->Jk P w' π' (λB=>w.heap.size<=B) t v):
  ∃τ',RV β τ' w' π' (.dat r (fr.map λ_=>id)) v/\Rel P nt n0 w0 π0 (fQ U id) {s with live:=match(generalizing:=false) fr with|some e=>(id,e)::s.live|none=>s.live} a w' β τ' π':=by
 have Z:n0.n<=w.heap.size:=lh R.gG R.below.size
 cases fr with
 |none=>exact⟨τ,⟨hd,λt h=>by cases h⟩,R.frame (λ_ _=>rfl) (λ_ _=>rfl) (λ_ h=>.inl h) hp O V D⟩
 |some e=>
  have R1:Rel P nt n0 w0 π0 U s a w' β τ π':=R.frame (λ_ _=>rfl) (λ_ _=>rfl) (λ_ h=>h) hp O V D
  have L:=ht e rfl
  refine⟨IZ τ id v,⟨hd,λt h=>by cases h;rw[cZ]⟩,R1.wD aa (L.weaken (λB h=>.inl (lh Z h))) (λq e' B hq hB M=>?_) (λb x hb M=>?_)⟩
  ·have h1:=((R.live q e' hq).2.block hB).2
   have h2:=(L.block M).1
   omega
  ·have h1:=R.mM hb
   have h2:=(L.block M).1
   omega
theorem fc:∀{l:List Nat},dS l=true->l.Nodup
 |[],_=>acN
 |b::D,h=>by
  simp only[dS,ed,pA]at h;rw[yi]
  exact⟨by simpa using h.1,fc h.2⟩
theorem gY{l:List (Nat×bV)}:∀{ids:List Nat} {css:List (List AV)},aW l ids=some css->css.length=ids.length/\∀(k:Nat) (b:Nat),ids[k]? =some b->∃x,cj b l=some x/\css[k]? =some x.cells
 |[],css,h=>by simp[aW]at h;subst h;exact⟨rfl,λk b D=>by simp at D⟩
 |b::Z,css,h=>by
  simp only[aW]at h
  split at h<;>try(cases h;done)
  rename_i x L O V;cases h;obtain⟨e,R⟩:=gY V
  refine⟨by simp[e],λk M D=>?_⟩
  cases k with
  |zero=>simp at D;subst D;exact⟨x,O,rfl⟩
  |succ k=>exact R k M (by simpa using D)
theorem sA:∀{ids:List Nat} {css:List (List AV)} {l:List (Nat×bV)} {n:Nat} {x:bV},ids.Nodup->css.length=ids.length->cj n (dR ids css l)=some x->
  (∃(k:Nat) (cs:List AV),ids[k]? =some n/\css[k]? =some cs/\x=⟨cs,[]⟩/\∃y,cj n l=some y)\/(n∉ids/\cj n l=some x)
 |[],css,l,n,x,_,_,h=>.inr ⟨adI,by cases css<;>exact h⟩
 |b::bs,[],l,n,x,_,M,h=>by simp at M
 |b::bs,cs::css,l,n,x,L,M,h=>by
  simp only[dR]at h;rw[yi]at L
  rcases sA L.2 (by simpa using M) h with⟨k,aa,O,Z,h3,y,V⟩|⟨O,Z⟩
  ·refine .inl ⟨k+1,aa,by simpa using O,by simpa using Z,h3,?_⟩
   rcases pH V with⟨_,_,y',D⟩|⟨_,D⟩
   ·exact⟨y',by rename_i e _;rw[e];exact D⟩
   ·exact⟨y,D⟩
  ·rcases pH Z with⟨e,R,y,V⟩|⟨ab,R⟩
   ·subst e;exact .inl ⟨0,cs,rfl,rfl,R,y,V⟩
   ·exact .inr ⟨by simp[ab,O],R⟩
theorem cY.get{w:World} {π:Nat->Nat->Prop}:∀{css:List (List AV)} {Bs:List Nat},cY w π css Bs->css.length=Bs.length/\∀(k:Nat) (cs:List AV) (B:Nat),css[k]? =some cs->Bs[k]? =some B->rH (λ_=>undef) w π B ⟨cs,[]⟩
 |[],[],h=>⟨rfl,λk cs B h=>by simp at h⟩
 |[],B::Bs,h=>h.elim
 |cs::css,[],h=>h.elim
 |cs::css,B::Bs,h=>by
  obtain⟨e,O⟩:=cY.get h.2
  refine⟨by simp[e],λk M B' D L=>?_⟩
  cases k with
  |zero=>simp at D L;subst D;subst L;exact h.1
  |succ k=>exact O k M B' (by simpa using D) (by simpa using L)
theorem rH.t5{τ τ':Nat->Value} {w:World} {π:Nat->Nat->Prop} {B:Nat} {x:bV} (h:rH τ w π B x):rH τ' w π B ⟨x.cells,[]⟩:=by
 obtain⟨D,L,R,Z,O,_,V⟩:=h
 exact⟨D,L,R,Z,O,λo q M=>(by cases M),V⟩
theorem Rel.qO(R:Rel P nt n0 w0 π0 U s a w β τ π):∀{ids:List Nat} {css:List (List AV)},aW s.boxes ids=some css->cY w π css (ids.map β)
 |[],css,h=>by simp[aW]at h;subst h;trivial
 |b::O,css,h=>by
  simp only[aW]at h
  split at h<;>try(cases h;done)
  rename_i x D L M;cases h;exact⟨(R.boxes b x L).2.2.1.t5,R.qO M⟩
theorem Rel.nodup(R:Rel P nt n0 w0 π0 U s a w β τ π):∀{ids:List Nat} {css:List (List AV)},ids.Nodup->aW s.boxes ids=some css->(ids.map β).Nodup
 |[],css,_,h=>acN
 |b::bs,css,D,h=>by
  simp only[aW]at h
  split at h<;>try(cases h;done)
  rename_i x V Z O;rw[yi]at D;simp only[kr,yi]
  refine⟨λhm=>?_,R.nodup D.2 O⟩
  obtain⟨M,L,e⟩:=mi.1 hm
  obtain⟨k,hk⟩:=nf.1 L
  obtain⟨y,hy,_⟩:=(gY O).2 k M hk
  have:=R.inj M b y x hy Z e
  exact D.1 (this▸L)
theorem Rel.ej(R:Rel P nt n0 w0 π0 U s a w β τ π):∀{Xs:List Operand} {xs:List aR} {M:List (Option AV)} {ids:List Nat},∀{hh:Bool},Xs.mapM dn=some xs->Eng.ej hh s xs=some (M,ids)->gb w π M (ids.map β) (Xs.map a.eval)/\(hh=false->o9 M=true)
 |[],xs,M,ids,hh,O,L=>by
  simp at O;subst O;simp[Eng.ej]at L;obtain⟨rfl,rfl⟩:=L
  exact⟨trivial,λ_=>rfl⟩
 |X::Xs,xs,M,ids,hh,O,L=>by
  simp only[tl,pb,jp,vd,fx]at O;obtain⟨x,O,ab,D,rfl⟩:=O;simp only[Eng.ej]at L
  split at L<;>try(cases L;done)
  ·rename_i av q as bs Z V
   cases L
   have hd:=(R.bX O Z).1.1
   refine⟨F8 hd (R.ej D V).1,λe=>?_⟩
   have:=(R.ej D V).2 e
   have aa:av≠.hole:=λe=>by subst e;cases hd
   cases av<;>first|exact absurd rfl aa|exact this
  ·rename_i cs as bs Z V
   cases L;exact⟨F8 (RV.ref.1 (R.bX O Z).1) (R.ej D V).1,(R.ej D V).2⟩
  ·rename_i b as bs Z V
   cases L;exact⟨⟨(R.bX O Z).1,(R.ej D V).1⟩,(R.ej D V).2⟩
  ·rename_i b as bs Z V
   cases hh with
   |false=>cases L
   |true=>
    cases L
    exact⟨⟨(R.bX O Z).1,(R.ej D V).1⟩,λe=>by cases e⟩
theorem Rel.yf(R:Rel P nt n0 w0 π0 U s a w β τ π) (au:¬U id) {L:List (List AV)} (ad:ids.Nodup) (a3:aW s.boxes ids=some css) (a5:L.length=css.length) (M:yb (gV.i6 w (ids.map β)) w w') (hp:∀b o,π b o->π' b o) (ac:∀b o,π' b o->π b o\/w.heap.size<=b) (a4:∀b o,π' b o->b<w'.heap.size) (ar:cY w' π' L (ids.map β)) (hd:DV w' π' r v) (ht:∀t,fr=some t->Jk P w' π' (λB=>w.heap.size<=B) t v):
  ∃τ',RV β τ' w' π' (.dat r (fr.map λ_=>id)) v/\Rel P nt n0 w0 π0 (fQ U id) {s with boxes:=dR ids L s.boxes,live:=match(generalizing:=false) fr with|some e=>(id,e)::s.live|none=>s.live} a w' β τ' π':=by
 obtain⟨a6,ae⟩:=gY a3
 have hlen':L.length=ids.length:=ado
 have ak:n0.n<=w.heap.size:=lh R.gG R.below.size
 have Z:∀B,B∈ids.map β->∃b x,b∈ids/\cj b s.boxes=some x/\β b=B:=λB hB=>by
  obtain⟨b,hb,e⟩:=mi.1 hB
  obtain⟨k,hk⟩:=nf.1 hb
  obtain⟨x,V,_⟩:=ae k b hk;exact⟨b,x,hb,V,e⟩
 have D:∀k,k<w.heap.size->k∉ids.map β->w'.heap[k]? =w.heap[k]?:=λk hk V=>M.block k hk V
 have al:∀B,B∈ids.map β->∀o,¬π B o:=λB hB=>by
  obtain⟨b,x,_,V,e⟩:=Z B hB;obtain⟨_,_,⟨_,_,_,_,_,_,hn⟩,_⟩:=R.boxes b x V;rw[<-e];exact hn
 have hc:∀b o,π b o->w'.cell? ⟨b,o,none⟩=w.cell? ⟨b,o,none⟩:=λb o h=>
  World.cell?_of_block (w:=w) (D b (R.eZ b o h) (λhm=>al b hm o h))
 have O:∀b x,cj b s.boxes=some x->β b<w.heap.size:=λb x h=>R.mM h
 have hold:∀b x,cj b (dR ids L s.boxes)=some x->∃y,cj b s.boxes=some y:=λb x h=>by
  rcases sA ad hlen' h with⟨_,_,_,_,_,hy⟩|⟨_,V⟩
  ·exact hy
  ·exact⟨x,V⟩
 have R1:Rel P nt n0 w0 π0 U {s with boxes:=dR ids L s.boxes} a w' β τ π':=by
  refine⟨R.size,λt v h=>?_,λb x h=>?_,λb b' x x' h h' e=>?_,λq e h=>?_,R.dr,λq e b x h h' hB=>?_,R.below.trans ⟨M.os,M.tape,M.output,M.size,λk hk hX=>?_,M.others⟩,R.gG,a4,λb o h=>hp _ _ (R.eU b o h),λb o h=>?_,R.mJ,R.jH,λb o h=>(hc b o (R.eU b o h)).trans (R.kept b o h)⟩
  ·obtain⟨⟨x,V,hv⟩,hu⟩:=R.slots t v h
   exact⟨⟨x,V,RV.mono (λ_ _=>rfl) (λ_ _=>rfl) hp hc hu hv⟩,hu⟩
  ·rcases sA ad hlen' h with⟨k,cs,h1,h2,rfl,y,hy⟩|⟨am,V⟩
   ·obtain⟨g1,g2,g3,g4⟩:=R.boxes b y hy
    refine⟨g1,g2,?_,λo q hq=>by cases hq⟩
    exact(ar.get.2 k cs (β b) h2 (by simp[h1])).t5
   ·obtain⟨g1,g2,g3,g4⟩:=R.boxes b x V
    have ag:β b∉ids.map β:=λhm=>by
     obtain⟨b',x',ao,a2,e⟩:=Z _ hm
     exact am (R.inj b' b x' x a2 V e▸ao)
    refine⟨g1,g2,g3.keep (λ_ _=>rfl) g4 (D _ (O b x V) ag) hp hc (λo ho=>?_),g4⟩
    rcases ac _ _ ho with h|h
    ·obtain⟨_,_,_,_,_,_,hn⟩:=g3;exact hn o h
    ·have:=O b x V;omega
  ·obtain⟨y,hy⟩:=hold b x h
   obtain⟨y',an⟩:=hold b' x' h';exact R.inj b b' y y' hy an e
  ·obtain⟨h1,h2⟩:=R.live q e h
   refine⟨h1,h2.keep (λB hB=>D B (h2.block hB).2 (λhm=>?_)) (λB o hB ho=>?_)⟩
   ·obtain⟨b,x,_,V,eb⟩:=Z B hm
    exact R.dw q e b x h V (by rw[hB,eb])
   ·rcases ac _ _ ho with h|h
    ·exact h
    ·have:=(h2.block hB).2;omega
  ·obtain⟨y,hy⟩:=hold b x h'
   exact R.dw q e b y h hy hB
  ·refine D k ado (λhm=>?_)
   obtain⟨b,x,_,V,eb⟩:=Z k hm
   rcases(R.boxes b x V).2.1 with h|h
   ·omega
   ·rw[eb]at h;exact hX h.2
  ·rcases ac b o h with h|h
   ·exact R.dz b o h
   ·exact .inr (.inl ado)
 cases fr with
 |none=>exact⟨τ,⟨hd,λt h=>by cases h⟩,R1.sub λ_ h=>.inl h⟩
 |some e=>
  have aa:=ht e rfl
  refine⟨IZ τ id v,⟨hd,λt h=>by cases h;rw[cZ]⟩,R1.wD au (aa.weaken (λB h=>.inl (lh ak h))) (λq e' B hq hB ab=>?_) (λb x hb ab=>?_)⟩
  ·have h1:=((R.live q e' hq).2.block hB).2
   have h2:=(aa.block ab).1
   omega
  ·obtain⟨y,hy⟩:=hold b x hb
   have h1:=O b y hy
   have h2:=(aa.block ab).1
   omega
theorem Ga{b o q:Nat}:∀{l:List (Nat×bV)} {n:Nat} {x:bV},cj n (E9 b o q l)=some x->(n=b/\∃y,cj b l=some y/\x=⟨y.cells,[(o,q)]⟩)\/(n≠b/\cj n l=some x)
 |[],n,x,h=>by simp[E9,cj]at h
 |(k,v)::r,n,x,h=>by
  simp only[E9]at h
  by_cases hk:b=k
  ·subst hk
   simp only[ne,gs,cj]at h
   by_cases L:n=b
   ·subst L;simp only[ne,gs,fx]at h
    exact .inl ⟨rfl,v,by simp[cj],h.symm⟩
   ·have D:(n==b)=false:=by simpa using L
    simp only[D,et]at h
    exact .inr ⟨L,by simp only[cj,D,et];exact h⟩
  ·have M:(b==k)=false:=by simpa using hk
   simp only[M,et,cj]at h
   by_cases L:n=k
   ·subst L;simp only[ne,gs]at h
    exact .inr ⟨λe=>hk e.symm,by simp only[cj,ne,gs];exact h⟩
   ·have D:(n==k)=false:=by simpa using L
    simp only[D,et]at h
    rcases Ga h with⟨e,y,R,O⟩|⟨e,O⟩
    ·exact .inl ⟨e,y,by simp only[cj,M,et];exact R,O⟩
    ·exact .inr ⟨e,by simp only[cj,D,et];exact O⟩
theorem Rel.tag(R:Rel P nt n0 w0 π0 U s a w β τ π) (hU:U q) (hv:∀D O,w.heap[β b]? =some (.cells D O (0,0))->D[o]? =some (τ q)):Rel P nt n0 w0 π0 U {s with boxes:=E9 b o q s.boxes} a w β τ π:=by
 have hold:∀n x,cj n (E9 b o q s.boxes)=some x->∃y,cj n s.boxes=some y:=λn x h=>by
  rcases Ga h with⟨rfl,y,L,_⟩|⟨_,h⟩
  ·exact⟨y,L⟩
  ·exact⟨x,h⟩
 refine⟨R.size,R.slots,λn x h=>?_,λb1 b2 x x' h V e=>?_,R.live,R.dr,λZ e n x h V hB=>?_,R.below,R.gG,R.eZ,R.eU,R.dz,R.mJ,R.jH,R.kept⟩
 ·rcases Ga h with⟨rfl,y,L,rfl⟩|⟨_,h⟩
  ·obtain⟨g1,g2,⟨D,O,k1,k2,k3,_,k5⟩,_⟩:=R.boxes n y L
   refine⟨g1,g2,⟨D,O,k1,k2,k3,λo' Z M=>?_,k5⟩,λo' Z M=>?_⟩
   all_goals
    simp only[d9]at M
    by_cases ho:o'=o
    ·subst ho
     simp only[ne,gs,fx]at M;subst M
     first|exact hv D O k1|exact hU
    ·have aa:(o'==o)=false:=by simpa using ho
     simp[aa]at M
  ·exact R.boxes n x h
 ·obtain⟨y,L⟩:=hold b1 x h
  obtain⟨y',ab⟩:=hold b2 x' V;exact R.inj b1 b2 y y' L ab e
 ·obtain⟨y,L⟩:=hold n x V
  exact R.dw Z e n y h L hB
theorem MH{bx:List (Nat×bV)} {lv:List (Nat×Nat)} {j:Nat} (h:Pg bx lv ids (some (j,o,e))=some qo):∃b x q,ids[j]? =some b/\cj b bx=some x/\d9 o x.tags=some q/\d9 q lv=some e/\qo=some q:=by
 simp only[Pg,jp]at h;obtain⟨b,O,x,L,q,D,h4⟩:=h;split at h4
 ·rename_i M;cases h4;exact⟨b,x,q,O,L,D,M,rfl⟩
 ·cases h4
theorem Rel.Ky(R:Rel P nt n0 w0 π0 U s a w β τ π) {ids:List Nat} {css:List (List AV)} (V:aW s.boxes ids=some css) {L:Option (Nat×Nat×Nat)} {qo:Option Nat} (hq:Pg s.boxes s.live ids L=some qo):
  ∃tv,Eng.Ky P w π (ids.map β) (λ_=>True) tv L/\(L.isSome=true->∃q e,qo=some q/\d9 q s.live=some e/\tv=τ q):=by
 cases L with
 |none=>exact⟨undef,trivial,λh=>by cases h⟩
 |some p=>
  obtain⟨j,o,e⟩:=p;obtain⟨b,x,q,h1,h2,h3,h4,rfl⟩:=MH hq;obtain⟨_,_,⟨D,el,k1,_,_,k4,_⟩,_⟩:=R.boxes b x h2
  refine⟨τ q,⟨β b,D,el,by simp[h1],k1,k4 o q h3,?_,λTB M hm=>?_⟩,λ_=>⟨q,e,rfl,h4,rfl⟩⟩
  ·have:=(R.live q e h4).2
   rcases this with h|⟨B,len,cap,D,i,g1,g2,g3⟩
   ·exact .inl h
   ·exact .inr ⟨B,len,cap,D,i,g1,trivial,g3⟩
  ·obtain⟨Z,O,e'⟩:=mi.1 hm
   obtain⟨k,hk⟩:=nf.1 O
   obtain⟨y,hy,_⟩:=(gY V).2 k Z hk
   exact R.dw q e Z y h4 hy (by rw[M,e'])
theorem sB{l:List (Nat×Nat)} (h:d9 q (Mv qo l)=some e):d9 q l=some e/\qo≠some q:=by
 cases qo with
 |none=>exact⟨h,adI⟩
 |some k=>obtain⟨L,D⟩:=lz h;exact⟨L,λe=>by cases e;exact D rfl⟩
theorem Rel.ZD(R:Rel P nt n0 w0 π0 U s a w β τ π) (ba:¬U id) {D:List (List AV)} (am:ids.Nodup) (bi:aW s.boxes ids=some css) (bl:D.length=css.length) {tg ad:Option (Nat×Nat×Nat)} {tv al:Value} (a3:tg.isSome=true->∃q e,qo=some q/\d9 q s.live=some e/\tv=τ q) (L:yb (gV.zT w (ids.map β) (Fi tg tv)) w w') (hp:∀b o,π b o->π' b o) (ag:∀b o,π' b o->π b o\/w.heap.size<=b\/Fi tg tv b) (bj:∀b o,π' b o->b<w'.heap.size) (hc:∀b o,π b o->w'.cell? ⟨b,o,none⟩=w.cell? ⟨b,o,none⟩) (a9:cY w' π' D (ids.map β)) (hd:DV w' π' r v) (ht:Eng.Ky P w' π' (ids.map β) (λB=>w.heap.size<=B\/Fi tg tv B) al ad):
  ∃τ',RV β τ' w' π' (.dat r none) v/\Rel P nt n0 w0 π0 (fQ U id) {s with boxes:=uT id ids ad (dR ids D s.boxes),live:=CY id ad (Mv qo s.live)} a w' β τ' π':=by
 obtain⟨bo,ao⟩:=gY bi
 have hlen':D.length=ids.length:=ado
 have a2:n0.n<=w.heap.size:=lh R.gG R.below.size
 have aa:∀B,Fi tg tv B->∃q e,qo=some q/\d9 q s.live=some e/\jV (τ q)=some B:=λB hB=>by
  obtain⟨q,e,h1,h2,h3⟩:=a3 hB.1
  exact⟨q,e,h1,h2,by rw[<-h3];exact hB.2⟩
 have ac:∀B,B∈ids.map β->∃b x,b∈ids/\cj b s.boxes=some x/\β b=B:=λB hB=>by
  obtain⟨b,hb,e⟩:=mi.1 hB
  obtain⟨k,hk⟩:=nf.1 hb
  obtain⟨x,Z,_⟩:=ao k b hk;exact⟨b,x,hb,Z,e⟩
 have O:∀k,k<w.heap.size->k∉ids.map β->¬Fi tg tv k->w'.heap[k]? =w.heap[k]?:=λk hk Z ht=>L.block k hk (λh=>h.elim Z ht)
 have V:∀b x,cj b s.boxes=some x->β b<w.heap.size:=λb x h=>R.mM h
 have M:∀b x,cj b s.boxes=some x->¬Fi tg tv (β b):=λb x h hB=>by
  obtain⟨q,e,_,h2,h3⟩:=aa _ hB;exact R.dw q e b x h2 h h3
 have hold:∀b x,cj b (dR ids D s.boxes)=some x->∃y,cj b s.boxes=some y:=λb x h=>by
  rcases sA am hlen' h with⟨_,_,_,_,_,hy⟩|⟨_,Z⟩
  ·exact hy
  ·exact⟨x,Z⟩
 have ab:∀q e,d9 q (Mv qo s.live)=some e->∀B,jV (τ q)=some B->¬Fi tg tv B:=λq e h B hB hT=>by
  obtain⟨h1,h2⟩:=sB h;obtain⟨q',e',g1,g2,g3⟩:=aa B hT
  exact h2 (by rw[g1,R.dr q' q e' e B g2 h1 g3 hB])
 have R1:Rel P nt n0 w0 π0 U {s with boxes:=dR ids D s.boxes,live:=Mv qo s.live} a w' β τ π':=by
  refine⟨R.size,λt v h=>?_,λb x h=>?_,λb b' x x' h h' e=>?_,λq e h=>?_,λq q' e e' B h h'=>R.dr q q' e e' B (sB h).1 (sB h').1,λq e b x h h' hB=>?_,R.below.trans ⟨L.os,L.tape,L.output,L.size,λk hk hX=>?_,L.others⟩,R.gG,bj,λb o h=>hp _ _ (R.eU b o h),λb o h=>?_,R.mJ,R.jH,λb o h=>(hc b o (R.eU b o h)).trans (R.kept b o h)⟩
  ·obtain⟨⟨x,Z,hv⟩,hu⟩:=R.slots t v h
   exact⟨⟨x,Z,RV.mono (λ_ _=>rfl) (λ_ _=>rfl) hp hc hu hv⟩,hu⟩
  ·rcases sA am hlen' h with⟨k,cs,h1,h2,rfl,y,hy⟩|⟨a4,Z⟩
   ·obtain⟨g1,g2,g3,g4⟩:=R.boxes b y hy
    refine⟨g1,g2,?_,λo q hq=>by cases hq⟩
    exact(a9.get.2 k cs (β b) h2 (by simp[h1])).t5
   ·obtain⟨g1,g2,g3,g4⟩:=R.boxes b x Z
    have au:β b∉ids.map β:=λhm=>by
     obtain⟨b',x',a6,be,e⟩:=ac _ hm
     exact a4 (R.inj b' b x' x be Z e▸a6)
    refine⟨g1,g2,g3.keep (λ_ _=>rfl) g4 (O _ (V b x Z) au (M b x Z)) hp hc (λo ho=>?_),g4⟩
    rcases ag _ _ ho with h|h|h
    ·obtain⟨_,_,_,_,_,_,hn⟩:=g3;exact hn o h
    ·have:=V b x Z;omega
    ·exact M b x Z h
  ·obtain⟨y,hy⟩:=hold b x h
   obtain⟨y',a7⟩:=hold b' x' h';exact R.inj b b' y y' hy a7 e
  ·obtain⟨h0,_⟩:=sB h
   obtain⟨h1,h2⟩:=R.live q e h0
   refine⟨h1,h2.keep (λB hB=>O B (h2.block hB).2 (λhm=>?_) (ab q e h B hB)) (λB o hB ho=>?_)⟩
   ·obtain⟨b,x,_,Z,eb⟩:=ac B hm
    exact R.dw q e b x h0 Z (by rw[hB,eb])
   ·rcases ag _ _ ho with g|g|g
    ·exact g
    ·have:=(h2.block hB).2;omega
    ·exact absurd g (ab q e h B hB)
  ·obtain⟨y,hy⟩:=hold b x h'
   exact R.dw q e b y (sB h).1 hy hB
  ·refine O k ado (λhm=>?_) (λhT=>?_)
   ·obtain⟨b,x,_,Z,eb⟩:=ac k hm
    rcases(R.boxes b x Z).2.1 with h|h
    ·omega
    ·rw[eb]at h;exact hX h.2
   ·obtain⟨q,e,_,h2,h3⟩:=aa k hT
    rcases((R.live q e h2).2.block h3).1 with h|h
    ·omega
    ·exact hX h
  ·rcases ag b o h with h|h|h
   ·exact R.dz b o h
   ·exact .inr (.inl ado)
   ·obtain⟨q,e,_,h2,h3⟩:=aa b h
    exact .inr ((R.live q e h2).2.block h3).1
 cases ad with
 |none=>exact⟨τ,⟨hd,λt h=>by cases h⟩,R1.sub λ_ h=>.inl h⟩
 |some p=>
  obtain⟨j,o,e⟩:=p;obtain⟨B,bs,el,hj,hB,ar,ae,a8⟩:=ht
  obtain⟨b,hb,rfl⟩:∃b,ids[j]? =some b/\β b=B:=by
   simp only[ka,eg]at hj;exact hj
  have R2:=R1.wD (e:=e) ba (ae.weaken (λB h=>?_)) (λq e' B hq ak a5=>?_) (λb x hb an=>?_)
  ·refine⟨IZ τ id al,⟨hd,λt h=>by cases h⟩,?_⟩
   have R3:=R2.tag (b:=b) (o:=o) (q:=id) (.inr rfl) (λcur' bm h=>?_)
   ·simp only[uT,hb,CY];exact R3
   ·rw[hB]at h;cases h
    rw[cZ];exact ar
  ·rcases h with h|h
   ·exact .inl (lh a2 h)
   ·obtain⟨q,e,_,h2,h3⟩:=aa B h
    exact((R.live q e h2).2.block h3).1
  ·obtain⟨h0,_⟩:=sB hq
   rcases(ae.block a5).1 with h|h
   ·have h1:=((R.live q e' h0).2.block ak).2
    omega
   ·exact ab q e' hq B ak h
  ·exact a8 _ an (by
    obtain⟨y,hy⟩:=hold b x hb
    by_cases bd:b∈ids
    ·exact NE bd
    ·exfalso
     rcases(ae.block an).1 with h|h
     ·have:=V b y hy;omega
     ·exact M b y hy h)
theorem pJ{m:Nat}:∀{l:List (Nat×bV)} {n:Nat},cj n (mI m l)=if n=m then none else cj n l
 |[],n=>by simp[mI,cj]
 |(k,v)::r,n=>by
  have Z:=pJ (m:=m) (l:=r) (n:=n)
  simp only[mI]
  by_cases D:m=k
  ·subst D
   simp only[ne,gs,cj,Z]
   by_cases R:n=m
   ·simp[R]
   ·have V:(n==m)=false:=by simpa using R
    simp[R,V]
  ·have O:(m==k)=false:=by simpa using D
   simp only[O,et,cj,Z]
   by_cases L:n=k
   ·simp[L,Ne.symm D]
   ·have M:(n==k)=false:=by simpa using L
    simp[M]
theorem Bd{b:Nat} {cs:List AV}:∀{l:List (Nat×SV)} {t:Nat},lk t (Fa b cs l)=(lk t l).map (lg b cs)
 |[],t=>rfl
 |(m,v)::r,t=>by
  simp only[Fa,lk];cases h:t==m
  ·simp only[et];exact Bd
  ·rfl
theorem zX(z:Nat):∀(n:Nat) (cs:List AV),(dI z n cs).length=n
 |0,_=>rfl
 |n+1,cs=>by simp[dI,zX z n]
theorem Db(z:Nat):∀(n:Nat) (cs:List AV) (i:Nat) (r:List AV),(dI z n cs)[i]? =some r->i<n/\r=(cs.drop (i*z)).take z
 |0,_,i,r,h=>by simp[dI]at h
 |n+1,cs,0,r,h=>by simp only[dI,km,fx]at h;subst h;simp
 |n+1,cs,i+1,r,h=>by
  simp only[dI,kp]at h;obtain⟨L,D⟩:=Db z n _ i r h
  refine⟨ado,?_⟩
  rw[D,ul]
  congr 2
  rw[Nat.succ_mul,Nat.add_comm]
theorem QW{π:Nat->Nat->Prop} {B:Nat} (h:DV w π (.ref cs) (.pointer (some ⟨B,o,none⟩))) {cap:Nat} (hn:n*z<=(cs.drop off).length) (R:n<=cap):DV w π (.sl (dI z n (cs.drop off))) (.slice (some ⟨B,o+off,none⟩) n cap):=by
 cases h with
 |ref _ _ _ f h1 h2 Z h4=>
  have D:∀(i j:Nat) (r:List AV) (a:AV),(dI z n (cs.drop off))[i]? =some r->r[j]? =some a->cs[off+(i*z+j)]? =some a:=by
   intro i j r a M L;obtain⟨_,rfl⟩:=Db z n _ i r M;rw[yv]at L;split at L
   ·rw[lL,lL]at L;rw[<-L]
   ·cases L
  have e:∀i j,o+off+i*z+j=o+(off+(i*z+j)):=λi j=>by omega
  have V:=zX z n (cs.drop off)
  have key:=DV.sl (w:=w) (π:=π) (dI z n (cs.drop off)) B (o+off) cap z (λi j=>f (off+(i*z+j))) ado (λi r M=>?_) (λi j r a M L=>h1 _ _ (D i j r a M L)) (λi j r a M L=>by rw[e];exact h2 _ _ (D i j r a M L)) (λi j r a M L=>by rw[e];exact Z _ _ (D i j r a M L)) (λi j r a M L=>h4 _ _ (D i j r a M L))
  ·rw[V]at key;exact key
  ·obtain⟨O,rfl⟩:=Db z n _ i r M
   have:(i+1)*z<=n*z:=kd _ O
   rw[Nat.succ_mul]at this;simp only[Fd,abM]at hn⊢;omega
theorem Vs{π:Nat->Nat->Prop} {B:Nat} (h:DV w π (.ref cs) (.pointer (some ⟨B,o,none⟩))) (D:n*z<=(cs.drop off).length):DV w π (.sl (dI z n (cs.drop off))) (.slice (some ⟨B,o+off,none⟩) n n):=QW h D (ik n)
theorem Rel.freeze(R:Rel P nt n0 w0 π0 U s a w β τ π) {x:bV} (hb:cj b s.boxes=some x) (h4:4<=b):
  ∃π':Nat->Nat->Prop,(∀B o,π B o->π' B o)/\Rel P nt n0 w0 π0 U {s with slots:=Fa b x.cells s.slots,boxes:=mI b s.boxes} a w β τ π'/\DV w π' (.ref x.cells) (.pointer (some ⟨β b,0,none⟩)):=by
 obtain⟨ar,ae,ad,ao⟩:=R.boxes b x hb
 have ak:=R.mM hb
 have ac:n0.n<=β b:=by rcases ae with h|h;exact h;exact absurd h.1 ado
 obtain⟨f,hf,am,an,_⟩:=ad.cells
 have hp:∀B o,π B o->(λB o=>π B o\/(B=β b/\o<x.cells.length)) B o:=λ_ _ h=>.inl h
 have ab:∀(j:Nat) (c:AV),x.cells[j]? =some c->j<x.cells.length:=λj c hc=>(eo.1 hc).1
 have V:∀d,RV β τ w (λB o=>π B o\/(B=β b/\o<x.cells.length)) (.rp (x.cells.drop d)) (.pointer (some ⟨β b,d,none⟩)):=by
  intro d
  refine⟨β b,d,λj=>f (d+j),rfl,?_,?_,?_,?_⟩<;>intro j c hc<;>rw[lL]at hc
  ·exact am _ _ hc
  ·exact .inr ⟨rfl,ab _ _ hc⟩
  ·exact hf _ (ab _ _ hc)
  ·exact(an _ _ hc).mono hp (λ_ _ _=>rfl)
 refine⟨_,hp,?_,RV.ref.1 (by simpa using V 0)⟩
 have L:∀c y,cj c (mI b s.boxes)=some y->c≠b/\cj c s.boxes=some y:=λc y h=>by
  rw[pJ]at h;split at h
  ·cases h
  ·rename_i aa;exact⟨aa,h⟩
 refine⟨R.size,λt v h=>?_,λc y h=>?_,λc c' y y' h h' e=>R.inj c c' y y' (L c y h).2 (L c' y' h').2 e,λq e h=>?_,R.dr,λq e c y h h' hB=>R.dw q e c y h (L c y h').2 hB,R.below,R.gG,λB o h=>?_,λB o h=>.inl (R.eU B o h),λB o h=>?_,R.mJ,R.jH,R.kept⟩
 ·simp only[Bd,eg]at h
  obtain⟨u,hu,rfl⟩:=h;obtain⟨⟨y,Z,hr⟩,hi⟩:=R.slots t u hu
  have hm:RV β τ w (λB o=>π B o\/(B=β b/\o<x.cells.length)) u y:=RV.mono (λ_ _=>rfl) (λ_ _=>rfl) hp (λ_ _ _=>rfl) hi hr
  cases u with
  |dat av q=>exact⟨⟨y,Z,hm⟩,hi⟩
  |rp cs=>exact⟨⟨y,Z,hm⟩,hi⟩
  |undef=>exact⟨⟨y,Z,hm⟩,hi⟩
  |vs c o n z=>
   simp only[lg]
   by_cases D:(c==b&&decide (n*z<=(x.cells.drop o).length))=true
   ·rw[D,gs]
    simp only[ed,l4,ii]at D;obtain⟨rfl,al⟩:=D;obtain⟨cap,ag,rfl⟩:=hr
    have:=QW (RV.ref.1 (by simpa using V 0)) al ag
    rw[lc]at this
    exact⟨⟨_,Z,this,λt h=>by cases h⟩,trivial⟩
   ·have O:=zr.2 D
    rw[O,et];exact⟨⟨y,Z,hm⟩,hi⟩
  |nX _ _ _=>exact⟨⟨y,Z,hm⟩,hi⟩
  |raw _ _=>exact⟨⟨y,Z,hm⟩,hi⟩
  |pt _ _=>exact⟨⟨y,Z,hm⟩,hi⟩
  |ptr c o=>
   simp only[lg]
   by_cases D:c=b
   ·subst D
    simp only[ne,gs]
    have e:y=.pointer (some ⟨β c,o,none⟩):=hr
    subst e;exact⟨⟨_,Z,V o⟩,trivial⟩
   ·have O:(c==b)=false:=by simpa using D
    simp only[O,et];exact⟨⟨y,Z,hm⟩,hi⟩
 ·obtain⟨aa,hc⟩:=L c y h
  obtain⟨g1,g2,g3,g4⟩:=R.boxes c y hc
  refine⟨g1,g2,g3.keep (λ_ _=>rfl) g4 rfl hp (λ_ _ _=>rfl) (λo M=>?_),g4⟩
  rcases M with M|⟨M,_⟩
  ·obtain⟨_,_,_,_,_,_,hn⟩:=g3;exact hn o M
  ·exact aa (R.inj c b y x hc hb M)
 ·obtain⟨h1,h2⟩:=R.live q e h
  refine⟨h1,h2.keep (λB hB=>rfl) (λB o hB M=>?_)⟩
  rcases M with M|⟨M,_⟩
  ·exact M
  ·exact absurd (M▸hB) (R.dw q e b x h hb)
 ·rcases h with h|⟨rfl,_⟩
  ·exact R.eZ B o h
  ·exact ak
 ·rcases h with h|⟨rfl,_⟩
  ·exact R.dz B o h
  ·exact .inr (.inl ac)
theorem D8{l:List (Nat×bV)} {b:Nat}:∀{ids:List Nat} {css:List (List AV)},b∉ids->aW l ids=some css->aW (mI b l) ids=some css
 |[],css,_,h=>h
 |c::ids,css,L,h=>by
  simp only[aW]at h⊢
  have D:c≠b:=λe=>L (e▸nb ..)
  split at h<;>try(cases h;done)
  rename_i x M O R
  rw[pJ,fb D,O,D8 (λhm=>L (lw _ hm)) R]
  exact h
theorem Rel.yg:∀{ids:List Nat} {css:List (List AV)} {s:S} {π:Nat->Nat->Prop},Rel P nt n0 w0 π0 U s a w β τ π->ids.Nodup->i5 ids=true->aW s.boxes ids=some css->
  ∃π':Nat->Nat->Prop,(∀B o,π B o->π' B o)/\Rel P nt n0 w0 π0 U (iC ids css s) a w β τ π'/\∀(k:Nat) (b:Nat) (cs:List AV),ids[k]? =some b->css[k]? =some cs->DV w π' (.ref cs) (.pointer (some ⟨β b,0,none⟩))
 |[],css,s,π,R,_,_,h=>by
  simp[aW]at h;subst h
  exact⟨π,λ_ _ h=>h,R,λk b cs h=>by simp at h⟩
 |b::ids,css,s,π,R,L,D,h=>by
  simp only[aW]at h
  split at h<;>try(cases h;done)
  rename_i x V h1 h2;cases h;rw[yi]at L;simp only[i5,ed,ii]at D;obtain⟨π1,m1,R1,d1⟩:=R.freeze h1 D.1
  obtain⟨π2,O,R2,Z⟩:=Rel.yg R1 L.2 D.2 (D8 L.1 h2)
  refine⟨π2,λB o h=>O _ _ (m1 _ _ h),R2,λk c cs hk M=>?_⟩
  cases k with
  |zero=>simp at hk M;subst hk;subst M;exact d1.mono O (λ_ _ _=>rfl)
  |succ k=>exact Z k c cs (by simpa using hk) (by simpa using M)
theorem Rel.air(R:Rel P nt n0 w0 π0 U s a w β τ π) {x:aR} {M:Option Nat} (hx:dn X=some x) (Z:A7 P t=some M) (h:bF (Pure P) id (.Zb x M) K s):∃v y,(Instr.loadAt t (a.eval X)).run P w=.ok y w/\RV β τ w π v y/\v.iA U/\K v s:=by
 simp only[bF]at h;obtain⟨p,O,h⟩:=ah h;obtain⟨L,hU⟩:=R.bX hx O
 cases p<;>try(exact h.elim)
 rename_i k ps
 match k,L,h with
 |2,L,h=>
  obtain⟨B,off,he,hc⟩:=L.acY
  cases M with
  |none=>
   cases ps with
   |nil=>exact h.elim
   |cons q ps=>
    obtain⟨b,o⟩:=q
    refine⟨.ptr b o,.pointer (some ⟨β b,o,none⟩),?_,rfl,hU (b,o) adI,h⟩
    simp only[he,Instr.loadAt,Instr.sureAddr,ia,kx,ge];exact mL Z (hc 0 (b,o) rfl).2
  |some n=>
   obtain⟨hn,h⟩:=h
   refine⟨.pt 0 (ps.take n),.agg ((List.range n).map λj=>Value.pointer (some ⟨β (ps.getD j (0,0)).1,(ps.getD j (0,0)).2,none⟩)).toArray,?_,?_,λp O=>hU p (zd O),h⟩
   ·simp only[he,Instr.loadAt,Instr.sureAddr,ia,kx,ge]
    refine mK Z (f:=λj=>Value.pointer (some ⟨β (ps.getD j (0,0)).1,(ps.getD j (0,0)).2,none⟩)) (λj hj=>?_)
    have D:j<ps.length:=ado
    have:=(hc j ps[j] (eh D)).2
    rw[this];simp[D]
   ·show Value.agg _=Value.agg _
    congr 2
    apply List.ext_getElem?
    intro i;simp only[ka,yv]
    by_cases hi:i<n
    ·have V:i<ps.length:=ado
     simp[hi,V]
    ·simp[hi]
 |0,_,h=>exact h.elim
 |1,_,h=>exact h.elim
 |k+3,_,h=>exact h.elim
theorem yh{w:World} {π π':Nat->Nat->Prop} (Z:∀B o,π B o->π' B o):∀{D:List (Option AV)} {css:List (List AV)} {Bs:List Nat} {vs:List Value},gb w π D Bs vs->o9 D=true->css.length=Bs.length->
  (∀(k:Nat) (cs:List AV) (B:Nat),css[k]? =some cs->Bs[k]? =some B->DV w π' (.ref cs) (.pointer (some ⟨B,0,none⟩)))->jR w π' (kQ D css) vs
 |[],css,Bs,vs,h,_,_,_=>by
  have:vs=[]:=by cases Bs<;>cases vs<;>first|rfl|exact h.elim
  subst this
  have:kQ [] css=[]:=by cases css<;>rfl
  rw[this];exact .nil _ _
 |some av::D,css,Bs,[],h,_,_,_=>by cases Bs<;>cases av<;>exact h.elim
 |some av::D,css,Bs,v::vs,h,M,L,O=>by
  obtain⟨aa,M⟩:=Mu M
  have R:DV w π av v/\gb w π D Bs vs:=by
   rcases pF h with⟨e,_⟩|⟨_,R⟩
   ·exact absurd e aa
   ·exact R
  have e:kQ (some av::D) css=av::kQ D css:=by cases css<;>rfl
  rw[e]
  exact .cons (R.1.mono Z (λ_ _ _=>rfl)) (yh Z R.2 M L O)
 |none::D,css,[],vs,h,_,_,_=>by cases vs<;>exact h.elim
 |none::D,css,B::Bs,[],h,_,_,_=>h.elim
 |none::D,[],B::Bs,v::vs,h,_,L,_=>by simp at L
 |none::D,cs::css,B::Bs,v::vs,h,M,L,O=>by
  obtain⟨rfl,V⟩:=h
  exact .cons (O 0 cs B rfl rfl) (yh Z V M (by simpa using L) (λk cs B h1 V=>O (k+1) cs B (by simpa using h1) (by simpa using V)))
theorem Jn:∀{ids:List Nat} {css:List (List AV)} {s:S},(iC ids css s).live=s.live
 |[],css,s=>by cases css<;>rfl
 |b::ids,[],s=>rfl
 |b::ids,cs::css,s=>Jn (ids:=ids) (css:=css)
theorem QX{B:Nat} (D:P.underlying t=some (.array n e)) (L:gF P e=some z):
  (Instr.sliceAt t (.pointer (some ⟨B,off,none⟩)) none none none).run P w=.ok (.slice (some ⟨B,off,none⟩) n n) w:=by
 simp[Instr.sliceAt,ix D,Instr.sureAddr,Instr.sliceBounds,eV L,Addr.add]
theorem ZE{B:Nat} (D:P.underlying t=some (.array n e)) (L:gF P e=some z) {k:IntKind} {j:Int} (R:0<=j) (O:j<=n):
  (Instr.sliceAt t (.pointer (some ⟨B,off,none⟩)) none (some (.int k j)) none).run P w=.ok (.slice (some ⟨B,off,none⟩) j.toNat n) w:=by
 have M:=ac0 (P:=P) w k j n .sliceAlen R O
 simp[Instr.sliceAt,ix D,Instr.sureAddr,Instr.sliceBounds,eV L,Addr.add,M]
def S7:AV->Value
 | .float _ r=>.float .f64 r
 |_=>undef
def ad4(b:Nat):Ieee.Datum->Sem Value
 | .nan s t=>if FloatKind.f64.format.quiet t=t then pure (.float .f64 b)else do
   let kept ← choose (.extern "math.Floor,Ceil,Trunc,RoundToEven.signallingNaN kept" 2)
   pure (.float .f64 (if kept==1 then b else FloatKind.f64.encode (.nan s (FloatKind.f64.format.quiet t))))
 |d=>pure (.float .f64 (FloatKind.f64.encode (d.integral .even)))
def ZF(b:Nat):Ieee.Datum->Option AV
 | .nan _ t=>if FloatKind.f64.format.quiet t=t then some (.float .f64 b)else none
 |d=>some (.float .f64 (FloatKind.f64.encode (d.integral .even)))
theorem Vt{π:Nat->Nat->Prop} {v:AV}:∀{d:Ieee.Datum},ZF b d=some v->(ad4 b d).run P w=.ok (S7 v) w/\DV w π v (S7 v)
 | .nan s t,h=>by
  simp only[ZF]at h
  split at h<;>try(cases h;done)
  rename_i D;cases h;simp only[ad4,D,kw];exact⟨rfl,.float _ _⟩
 | .number s m i,h=>by cases h;exact⟨rfl,.float _ _⟩
 | .infinity s,h=>by cases h;exact⟨rfl,.float _ _⟩
theorem ZG{π:Nat → Nat → Prop} {v:AV} (h:Ks b = some v) : ((Extern.MathFloor.toIntegral "math.RoundToEven" .even) #[.float .f64 b]).run P w = .ok (S7 v) w ∧ DV w π v (S7 v) :=
 by
 have hto : Extern.MathFloor.toIntegral "math.RoundToEven" .even #[.float .f64 b] = ad4 b (FloatKind.f64.decode b) := by
  show((match FloatKind.f64.decode b with
      | .nan s t=>if FloatKind.f64.format.quiet t=t then pure (.float .f64 b)else do
        let kept ← choose (.extern "math.Floor,Ceil,Trunc,RoundToEven.signallingNaN kept" 2)
        pure (.float .f64 (if kept==1 then b else FloatKind.f64.encode (.nan s (FloatKind.f64.format.quiet t))))
      |d=>pure (.float .f64 (FloatKind.f64.encode (d.integral .even)))):Sem Value)=_
  generalize FloatKind.f64.decode b=d
  cases d<;>rfl
 have hta:ZF b (FloatKind.f64.decode b)=some v:=by
  rw[<-h]
  show ZF b (FloatKind.f64.decode b)=((match FloatKind.f64.decode b with
   | .nan _ t=>if FloatKind.f64.format.quiet t=t then some (.float .f64 b)else none
   |d=>some (.float .f64 (FloatKind.f64.encode (d.integral .even)))):Option AV)
  generalize FloatKind.f64.decode b=d
  cases d<;>rfl
 rw[hto];exact Vt hta
theorem ad5{f:FuncId} {e:Xt} (he:adW P f=some e) {a v:AV} (hv:xtA e a=some v) (hd:DV w π a x):∃u,(callFunc f #[x]).run P w=.ok (.value u) w/\DV w π v u:=by
 unfold adW at he
 split at he<;>try(cases he;done)
 rename_i fn hf
 split at he<;>try(cases he;done)
 rename_i hb;simp only[Bool.and_eq_true]at hb
 have hb1:fn.body=none:=by simpa using hb.1
 have hb2:Extern.findNext fn=none:=by simpa using hb.2
 split at he
 ·rename_i hn
  have hn:=eq_of_beq hn
  cases he
  have hfi:Extern.find fn=some Extern.MathFloatBits.float64bits:=by unfold Extern.find;rw[hn];rfl
  cases a<;>try(cases hv;done)
  rename_i k b
  cases k<;>cases hv
  cases hd;refine⟨.int .u64 b,?_,.int _ _⟩
  rw[run_callFunc_extern hf (by rw[hn];rfl) (by rw[hb1];rfl) hb2 hfi]
  rfl
 ·split at he
  ·rename_i hn
   have hn:=eq_of_beq hn
   cases he
   have hfi:Extern.find fn=some Extern.MathFloatBits.float64frombits:=by unfold Extern.find;rw[hn];rfl
   cases a<;>try(cases hv;done)
   rename_i k b
   cases k<;>cases hv
   cases hd;refine⟨.float .f64 b.toNat,?_,.float _ _⟩
   rw[run_callFunc_extern hf (by rw[hn];rfl) (by rw[hb1];rfl) hb2 hfi]
   rfl
  ·split at he<;>try(cases he;done)
   rename_i hn
   have hn:=eq_of_beq hn
   cases he
   have hfi : Extern.find fn = some (Extern.MathFloor.toIntegral "math.RoundToEven" .even) := by unfold Extern.find; rw [hn]; rfl
   cases a<;>try(cases hv;done)
   rename_i k b
   cases k<;>try(cases hv;done)
   cases hd
   have hv:Ks b=some v:=hv
   have hrun : ((Extern.MathFloor.toIntegral "math.RoundToEven" .even) #[.float .f64 b]).run P w = .ok (S7 v) w ∧ DV w π v (S7 v) := by
    exact ZG hv
   refine⟨_,?_,hrun.2⟩
   rw[run_callFunc_extern hf (by rw[hn];rfl) (by rw[hb1];rfl) hb2 hfi,hrun.1]
   rfl
theorem gA{f:Nat} (D:bZ P f=true) (args:Array Value):(callFunc f args).run P w=.ok (.enter f args) w:=by
 unfold bZ at D;split at D
 ·rename_i fn L
  simp only[ed,bne_iff_ne,ne_eq]at D;obtain⟨b,M⟩:=adc.1 D.2;simp[callFunc,L,D.1,M]
 ·cases D
theorem yj(R:Rel P nt n0 w0 π0 U s a w β τ π) {o:Oper} (au:¬U id) (D:Zc P o.op=some c) (h:bF (Pure P) id c K s) (hn:∀v s' x w' β' τ' π',K v s'->RV β' τ' w' π' v x->v.iA (fQ U id)->Rel P nt n0 w0 π0 (fQ U id) s' a w' β' τ' π'->next (a.put o.dst x) w'):o.wp P a w next Q:=by
 obtain⟨dst,op,L,pos,after,guard⟩:=o;simp only at D
 have ae:∀n,U n->fQ U id n:=λn h=>.inl h
 -- a value,nothing else
 have fin:∀{v:SV} {y:Value},(execOp a.eval ⟨dst,op,L,pos,after,guard⟩).run P w=.ok (.value y) w->RV β τ w π v y->v.iA U->K v s->Oper.wp P ⟨dst,op,L,pos,after,guard⟩ a w next Q:=by
  intro v y O M hu hK;unfold Oper.wp;rw[O];exact hn v s y w β τ π hK M (SV.pG ae hu) (R.sub ae)
 have ab:∀{v:AV} {y:Value},(execOp a.eval ⟨dst,op,L,pos,after,guard⟩).run P w=.ok (.value y) w->DV w π v y->K (.dat v none) s->Oper.wp P ⟨dst,op,L,pos,after,guard⟩ a w next Q:=
  λ{v y} O M hK=>fin (v:=.dat v none) O ⟨M,λt ht=>by cases ht⟩ trivial hK
 cases op<;>simp only[Zc]at D<;>try(cases D;done)
 case move x=>
  simp only[eg]at D;obtain⟨x',Z,rfl⟩:=D;simp only[bF]at h;obtain⟨v,M,hK⟩:=ah h;obtain⟨O,hu⟩:=R.bX Z M;exact fin rfl O hu hK
 case assign x=>
  simp only[eg]at D;obtain⟨x',Z,rfl⟩:=D;simp only[bF]at h;obtain⟨v,M,hK⟩:=ah h;obtain⟨O,hu⟩:=R.bX Z M;exact fin rfl O hu hK
 case pick cc aa bb=>
  split at D<;>try(cases D;done)
  rename_i c' a' b' h1 h2 h3;cases D;simp only[bF]at h;obtain⟨t,ht,h⟩:=ah h
  have hd:=R.aL h1 ht
  cases t<;>try(exact h.elim)
  rename_i t;obtain⟨u,hu,h⟩:=ah h;obtain⟨v,M,c4,cu⟩:=ah h
  have hb:=hd.wq
  obtain⟨ra,ua⟩:=R.bX h2 hu;obtain⟨rb,ub⟩:=R.bX h3 M;cases t
  ·exact fin (by simp[execOp,hb,asBool]) rb ub (cu rfl)
  ·exact fin (by simp[execOp,hb,asBool]) ra ua (c4 rfl)
 case alloc t=>
  simp only[eg]at D;obtain⟨zs,hz,rfl⟩:=D;simp only[bF]at h
  obtain⟨z,c3,c1,cv⟩:=wA (P:=P) (w:=w) (π:=π) hz
  have O:(execOp a.eval ⟨dst,.alloc t,L,pos,after,guard⟩).run P w=.ok (.value (.pointer (some ⟨w.heap.size,0,none⟩))) (w.alloc (.cells z.cells t)):=by
   simp[execOp,Instr.alloc,c3,newVar,Go.newRow]
  unfold Oper.wp;rw[O]
  exact hn _ _ _ _ _ _ _ h (show RV (IZ β id w.heap.size) τ _ π (.ptr id 0) _ by simp[RV,cZ]) (.inr rfl) (R.Pk au t c1.take cv)
 case box t x=>
  simp only[eg]at D;obtain⟨x',Z,rfl⟩:=D;simp only[bF]at h;obtain⟨av,M,h⟩:=ah h
  have hd:=R.aL Z M
  have O:(execOp a.eval ⟨dst,.box t x,L,pos,after,guard⟩).run P w=.ok (.value (.pointer (some ⟨w.heap.size,0,none⟩))) (w.alloc (.cells (a.eval x).cells t)):=by
   simp[execOp,Instr.box,newVar,Go.newRow]
  obtain⟨ar,hK⟩:=h
  obtain⟨c7,ac⟩:=hd.cells (λvs e=>by subst e;simp[iI]at ar)
  unfold Oper.wp;rw[O]
  exact hn _ _ _ _ _ _ _ hK (show RV (IZ β id w.heap.size) τ _ π (.ptr id 0) _ by simp[RV,cZ]) (.inr rfl) (R.Pk au t c7.take ac)
 case build t ps=>
  split at D<;>try(cases D;done)
  rename_i zs db hz co
  split at D<;>try(cases D;done)
  rename_i bj;cases D;simp only[ed]at bj;obtain⟨v,y,O,M,hu,hK⟩:=R.build hz co bj.1 bj.2 h
  exact fin (by simp only[execOp,ia,O,ge,kx]) M hu hK
 case buildSlice t n ps=>
  split at D<;>try(cases D;done)
  rename_i e ht
  split at D<;>try(cases D;done)
  rename_i zs z xs hz a3 ad
  split at D<;>try(cases D;done)
  rename_i ar;cases D;obtain⟨v,y,s',w',τ',π',O,M,hu,hK,R'⟩:=R.buildSlice ht hz a3 ad ar au h;unfold Oper.wp
  have:(execOp a.eval ⟨dst,.buildSlice t n ps,L,pos,after,guard⟩).run P w=.ok (.value y) w':=by simp only[execOp,ia,O,ge,kx]
  rw[this];exact hn v s' y w' β τ' π' hK M hu R'
 case load t x=>
  split at D<;>try(cases D;done)
  rename_i r x' O Z;cases D
  have:∃v y,(Instr.loadAt t (a.eval x)).run P w=.ok y w/\RV β τ w π v y/\v.iA U/\K v s:=by
   split at h
   ·exact R.air Z O h
   ·exact R.load Z O h
  obtain⟨v,y,O,M,hu,hK⟩:=this
  exact fin (by simp only[execOp,ia,O,ge,kx]) M hu hK
 case store t x v=>
  split at D<;>try(cases D;done)
  rename_i z x' v' hz Z M;cases D;obtain⟨s',w',O,hK,R'⟩:=R.store Z M hz h;unfold Oper.wp
  have:(execOp a.eval ⟨dst,.store t x v,L,pos,after,guard⟩).run P w=.ok .skip w':=by simp only[execOp,ia,O,ge,kx]
  rw[this];exact hn .undef s' undef w' β τ π hK rfl trivial (R'.sub ae)
 case nilCheck x=>
  simp only[eg]at D;obtain⟨x',Z,rfl⟩:=D;simp only[bF]at h;obtain⟨v,M,h⟩:=ah h;obtain⟨O,hu⟩:=R.bX Z M
  cases v with
  |ptr b o=>
   have he:a.eval x=.pointer (some ⟨β b,o,none⟩):=O
   exact fin (v:=.ptr b o) (by simp[execOp,he]) (show RV β τ w π (.ptr b o) (.pointer (some ⟨β b,o,none⟩))from rfl) hu h
  |rp cs=>
   obtain⟨B,off,f,he,a2⟩:=O
   exact fin (v:=.rp cs) (by simp[execOp,he]) (show RV β τ w π (.rp cs) (.pointer (some ⟨B,off,none⟩))from⟨B,off,f,rfl,a2⟩) trivial h
  |undef=>exact h.elim
  |vs _ _ _ _=>exact h.elim
  |nX _ _ _=>exact h.elim
  |raw _ _=>exact h.elim
  |pt _ _=>exact h.elim
  |dat av q=>
   cases av<;>try(exact h.elim)
   case ref cs=>
    obtain⟨B,off,f,he,a2⟩:=(RV.ref (β:=β) (τ:=τ)).2 O.1
    exact fin (v:=.rp cs) (by simp[execOp,he]) (show RV β τ w π (.rp cs) (.pointer (some ⟨B,off,none⟩))from⟨B,off,f,rfl,a2⟩) trivial h
   rename_i fn as bs
   cases fn<;>try(exact h.elim)
   rename_i f
   have cb:=O
   obtain⟨hd,c8⟩:=O;generalize c2:a.eval x=y at hd cb;cases hd
   exact fin (by simp[execOp,c2]) cb hu h
 case binOp op t x y yt=>
  split at D<;>try(cases D;done)
  rename_i x' y' Z hy;split at D
  ·rename_i c6
   cases D;simp only[bF]at h;obtain⟨av,V,h⟩:=ah h;obtain⟨bv,a9,h⟩:=ah h;obtain⟨v,M,hK⟩:=ah h
   obtain⟨u,w',bi,hu,hd⟩:=Zv (P:=P) (X:=x) (Y:=y) c6 M (R.aL Z V) (R.aL hy a9)
   rcases bi with rfl|rfl
   ·exact ab (by simp only[execOp];rw[ia,hu];rfl) hd hK
   ·have O:(execOp a.eval ⟨dst,.binOp op t x y yt,L,pos,after,guard⟩).run P w=.ok (.value u) w.drew:=by
     simp only[execOp];rw[ia,hu];rfl
    unfold Oper.wp;rw[O]
    exact hn (.dat v none) _ _ _ _ _ _ hK ⟨Drw.dv (Or.inr rfl) hd,λt ht=>by cases ht⟩ trivial (R.draw.sub ae)
  ·split at D
   ·rename_i cp
    have key:∀neg,((op=.eql/\neg=false)\/(op=.neq/\neg=true))->c=.bb neg x' y'->Oper.wp P ⟨dst,.binOp op t x y yt,L,pos,after,guard⟩ a w next Q:=by
     intro neg a4 e;subst e;simp only[bF]at h;obtain⟨av,V,h⟩:=ah h;obtain⟨bv,a9,h⟩:=ah h;obtain⟨v,M,hK⟩:=ah h
     obtain⟨u,hu,hd⟩:=ad0 (P:=P) (X:=x) (Y:=y) a4 cp M (R.aL Z V) (R.aL hy a9)
     exact ab (by simp only[execOp];rw[ia,hu];rfl) hd hK
    split at D<;>try(cases D;done)
    ·cases D;exact key false (.inl ⟨rfl,rfl⟩) rfl
    ·cases D;exact key true (.inr ⟨rfl,rfl⟩) rfl
   split at D
   ·rename_i c0
    have key:∀neg,((op=.eql/\neg=false)\/(op=.neq/\neg=true))->y'=.k .aZ->c=.isn neg x'->Oper.wp P ⟨dst,.binOp op t x y yt,L,pos,after,guard⟩ a w next Q:=by
     intro neg a4 ey e;subst e ey;simp only[bF]at h;obtain⟨av,V,h⟩:=ah h;obtain⟨b,hb,hK⟩:=ah h
     have O:=ZC (P:=P) (X:=x) (Y:=y) a4 c0 hb (R.aL Z V) (R.aL (v:=.aZ) hy rfl)
     exact ab (by simp only[execOp];rw[ia,O];rfl) (.bool _) hK
    split at D<;>try(cases D;done)
    ·cases D;exact key false (.inl ⟨rfl,rfl⟩) rfl rfl
    ·cases D;exact key true (.inr ⟨rfl,rfl⟩) rfl rfl
   ·have key:∀neg,((op=.eql/\neg=false)\/(op=.neq/\neg=true))->cEq P t neg x' y'=some c->Oper.wp P ⟨dst,.binOp op t x y yt,L,pos,after,guard⟩ a w next Q:=by
     intro neg a4 he;unfold cEq at he
     split at he<;>try(cases he;done)
     rename_i ks hk
     split at he<;>try(cases he;done)
     rename_i hg;cases he;simp only[bF]at h;obtain⟨av,V,h⟩:=ah h
     cases av<;>try(exact h.elim)
     obtain⟨bv,a9,h⟩:=ah h
     cases bv<;>try(exact h.elim)
     obtain⟨e,he,hK⟩:=ah h
     have O:=ZB (P:=P) (X:=x) (Y:=y) a4 hk hg (R.aL Z V) (R.aL hy a9) he
     exact ab (by simp only[execOp];rw[ia,O];rfl) (.bool _) hK
    split at D<;>try(cases D;done)
    ·exact key false (.inl ⟨rfl,rfl⟩) D
    ·exact key true (.inr ⟨rfl,rfl⟩) D
 case unOp op t x=>
  simp only[eg]at D;obtain⟨x',Z,rfl⟩:=D;simp only[bF]at h;obtain⟨av,V,h⟩:=ah h;obtain⟨v,M,hK⟩:=ah h
  obtain⟨u,hu,hd⟩:=ad1 (P:=P) M (R.aL Z V)
  exact ab (by simp only[execOp,ia,hu,ge,kx]) hd hK
 case convert sr ds x=>
  simp only[jp]at D;obtain⟨x',Z,D⟩:=D
  have ce:=D
  have key:∀{av v:AV},Eng.aL s x'=some av->((∃k,c=.vQ k x'/\FY k av=some v)\/(∃k,c=.I1 k x'/\FZ k av=some v)\/(∃k,c=.Mp k x'/\AY k av=some v))->K (.dat v none) s->Oper.wp P ⟨dst,.convert sr ds x,L,pos,after,guard⟩ a w next Q:=by
   intro av v V cr hK
   obtain⟨u,hu,hd⟩:=Vq (P:=P) (X:=x) ce (R.aL Z V) cr
   exact ab (by simp only[execOp,ia,hu,ge,kx]) hd hK
  unfold Mx at D
  split at D<;>try(cases D;done)
  all_goals
   cases D;simp only[bF]at h;obtain⟨av,V,h⟩:=ah h;obtain⟨v,M,hK⟩:=ah h
   first
    |exact key V (.inl ⟨_,rfl,M⟩) hK
    |exact key V (.inr (.inl ⟨_,rfl,M⟩)) hK
    |exact key V (.inr (.inr ⟨_,rfl,M⟩)) hK
 case makeFunc fn first caps=>
  cases fn<;>simp only[]at D<;>try(cases D;done)
  rename_i f
  split at D<;>try(cases D;done)
  rename_i as bs h1 h2
  split at D<;>try(cases D;done)
  cases D;simp only[bF]at h;obtain⟨xs,ad,h⟩:=ah h;obtain⟨⟨be,ids⟩,am,ar,h⟩:=ah h;obtain⟨css,ac,hK⟩:=ah h;simp only[ed]at ar
  have d1:=R.ei (by simpa[gU]using h1) ad
  obtain⟨d2,ch⟩:=R.ej (by simpa[gU]using h2) am
  obtain⟨π',hp,R',bm⟩:=Rel.yg R (fc ar.1) ar.2 ac
  have ci:=(gY ac).1
  have d3:=yh hp d2 (ch rfl) (by simpa using ci) (λk cs B h1 h2=>by
   rw[ka,eg]at h2;obtain⟨b,hb,rfl⟩:=h2
   exact bm k b cs hb h1)
  have ca:=d1.mono hp (λ_ _ _=>rfl)
  have O:(execOp a.eval ⟨dst,.makeFunc (.func f) first caps,L,pos,after,guard⟩).run P w=.ok (.value (.func (.func f) (first.map a.eval) (caps.map a.eval))) w:=by simp[execOp,Instr.makeFunc]
  unfold Oper.wp;rw[O]
  refine hn (.dat (.fn (.func f) xs (kQ be css)) none) _ _ _ _ _ _ hK ⟨?_,λt ht=>by cases ht⟩ trivial (R'.sub ae)
  exact .fn _ _ _ _ _ (by simpa using ca.1) (by simpa using d3.1) (λi x v Z M=>ca.2 i x v Z (by simpa using M)) (λi x v Z M=>d3.2 i x v Z (by simpa using M))
 case slice t x lo hi mx=>
  cases mx<;>simp only[]at D<;>try(cases D;done)
  split at D<;>try(cases D;done)
  ·rename_i e x' da cy ht Z hl hh
   simp only[eg]at D;obtain⟨z,hz,rfl⟩:=D;obtain⟨v,y,O,M,hu,hK⟩:=R.slice ht hz Z hl hh h
   exact fin (by simp only[execOp,ia,Option.map_none,O,ge,kx]) M hu hK
  ·rename_i n e x' ht Z hl hh
   simp only[eg]at D;obtain⟨z,hz,rfl⟩:=D
   have e1:lo=none:=by cases lo with|none=>rfl|some y=>simp[cOpt]at hl
   have e2:hi=none:=by cases hi with|none=>rfl|some y=>simp[cOpt]at hh
   subst e1 e2;simp only[bF]at h;obtain⟨v,M,h⟩:=ah h
   have ag:=(R.bX Z M).1
   cases v<;>try(exact h.elim)
   ·rename_i b off
    obtain⟨h4,h⟩:=h;obtain⟨bx,hb,bo,hK⟩:=ah h
    have he:a.eval x=.pointer (some ⟨β b,off,none⟩):=ag
    have ac:aW s.boxes [b]=some [bx.cells]:=by simp[aW,hb]
    obtain⟨π',hp,R',bm⟩:=Rel.yg R (ids:=[b]) adI (by simp[i5,h4]) ac
    have O:(execOp a.eval ⟨dst,.slice t x none none none,L,pos,after,guard⟩).run P w=.ok (.value (.slice (some ⟨β b,off,none⟩) n n)) w:=by
     simp only[execOp,Option.map_none,he,ia,QX ht hz,ge,kx]
    unfold Oper.wp;rw[O]
    refine hn _ _ _ _ _ _ _ hK ⟨?_,λt ht=>by cases ht⟩ trivial (R'.sub ae)
    have:=Vs (bm 0 b bx.cells rfl rfl) bo
    simpa using this
   ·rename_i cs
    obtain⟨bo,hK⟩:=h;obtain⟨B,o,f,he,h1,h2,h3,h5⟩:=ag
    have hd:DV w π (.ref cs) (.pointer (some ⟨B,o,none⟩)):=.ref cs B o f h1 h2 h3 h5
    have:=Vs (off:=0) hd (by simpa using bo)
    refine ab ?_ (by simpa using this) hK
    have he:a.eval x=.pointer (some ⟨B,o,none⟩):=he
    simp only[execOp,Option.map_none,he,ia,QX ht hz,ge,kx]
  ·rename_i n e x' cy ht Z hl hh
   simp only[eg]at D;obtain⟨z,hz,rfl⟩:=D
   have e1:lo=none:=by cases lo with|none=>rfl|some y=>simp[cOpt]at hl
   subst e1
   cases hi with
   |none=>simp[cOpt]at hh
   |some hi=>
    simp only[cOpt,eg,fx,exists_eq_right]at hh;simp only[bF]at h;obtain⟨v,M,h⟩:=ah h
    have ag:=(R.bX Z M).1
    have cx:=(R.bX Z M).2
    cases v<;>try(exact h.elim)
    rename_i b off;obtain⟨b1,ct,h⟩:=ah h;obtain⟨j,hj,⟨h0,h1⟩,hK⟩:=ah h;obtain⟨k,hk⟩:=R.idx hh ct hj
    have he:a.eval x=.pointer (some ⟨β b,off,none⟩):=ag
    have O:(execOp a.eval ⟨dst,.slice t x none (some hi) none,L,pos,after,guard⟩).run P w=.ok (.value (.slice (some ⟨β b,off,none⟩) j.toNat n)) w:=by
     simp only[execOp,Option.map_none,mn,he,hk,ia,ZE ht hz h0 h1,ge,kx]
    exact fin (v:=.vs b off j.toNat z) O ⟨n,ado,rfl⟩ cx hK
 case fieldAddr t x f=>
  split at D<;>try(cases D;done)
  rename_i fd x' hf Z
  split at D<;>try(cases D;done)
  rename_i hz;cases D;obtain⟨v,y,O,M,hu,hK⟩:=R.fieldAddr Z hf hz h
  exact fin (by simp only[execOp,ia,O,ge,kx]) M hu hK
 case field t x f=>
  split at D<;>try(cases D;done)
  rename_i fd x' hf Z;simp only[eg]at D;obtain⟨r,O,rfl⟩:=D;simp only[bF]at h;obtain⟨av,V,h⟩:=ah h
  have hd:=R.aL Z V
  cases av<;>try(exact h.elim)
  rename_i cs;obtain⟨v,M,hK⟩:=ah h;unfold A8 at hf
  split at hf<;>try(cases hf;done)
  rename_i fs hu;generalize he:a.eval x=u at hd
  cases hd with
  |agg _ us h1 h2 h3=>
   obtain⟨u,b6,ak⟩:=MD (P:=P) O h1 h2 h3 M
   exact ab (by simp[execOp,he,Instr.field,asAgg,ix hu,hf,b6]) ak hK
 case indexAddr t x i=>
  split at D<;>try(cases D;done)
  ·rename_i n e x' i' ht Z hi
   simp only[eg]at D;obtain⟨z,hz,rfl⟩:=D;obtain⟨v,y,O,M,hu,hK⟩:=R.Vr Z hi ht hz h
   exact fin (by simp only[execOp,ia,O,ge,kx]) M hu hK
  ·rename_i e x' i' ht Z hi
   simp only[eg]at D;obtain⟨z,hz,rfl⟩:=D;obtain⟨v,y,O,M,hu,hK⟩:=R.ZA Z hi ht hz h
   exact fin (by simp only[execOp,ia,O,ge,kx]) M hu hK
 case index t x i=>
  split at D<;>try(cases D;done)
  rotate_left
  ·rename_i x' i' ht Z hi
   cases D;simp only[bF]at h;obtain⟨av,V,h⟩:=ah h
   have hd:=R.aL Z V
   cases av<;>try(exact h.elim)
   rename_i bs;obtain⟨b,hb,h⟩:=ah h;obtain⟨j,hj,h⟩:=ah h;obtain⟨v,M,hK⟩:=ah h;obtain⟨k,hk⟩:=R.idx hi hb hj;generalize he:a.eval x=u at hd;cases hd;unfold Ms at M
   split at M<;>try(cases M;done)
   rename_i b3;cases M
   exact ab (by simp[execOp,he,Instr.index,hk,asIntOf,ix ht,b3]) (.int _ _) hK
  rename_i n e x' i' ht Z hi
  split at D<;>try(cases D;done)
  rename_i z r hz O;cases D;simp only[bF]at h;obtain⟨av,V,h⟩:=ah h
  have hd:=R.aL Z V
  cases av<;>try(exact h.elim)
  rename_i cs;obtain⟨b,hb,h⟩:=ah h;obtain⟨j,hj,h⟩:=ah h;obtain⟨b3,h⟩:=h;obtain⟨v,M,hK⟩:=ah h;obtain⟨k,hk⟩:=R.idx hi hb hj
  have a3:=eV (w:=w) hz
  generalize he:a.eval x=u at hd
  cases hd with
  |agg _ us h1 h2 h3=>
   obtain⟨u,b6,ak⟩:=MD (P:=P) O h1 h2 h3 M
   exact ab (by simp[execOp,he,Instr.index,hk,asIntOf,ix ht,b3,a3,b6]) ak hK
 case extract x i=>
  simp only[eg]at D;obtain⟨x',Z,rfl⟩:=D;simp only[bF]at h;obtain⟨av,V,h⟩:=ah h;obtain⟨v,M,hK⟩:=ah h
  obtain⟨u,hu,hd⟩:=Zx (P:=P) M (R.aL Z V)
  exact ab (by simp only[execOp,ia,hu,ge,kx]) hd hK
 case call cl=>
  obtain⟨callee,args,argTypes⟩:=cl
  -- a call
  have enter:∀{f:Nat} {as:List AV} {vs:List Value} {r:AV} {fr:Option Nat},F6 P f as r fr->jR w π as vs->
    (execOp a.eval ⟨dst,.call ⟨callee,args,argTypes⟩,L,pos,after,guard⟩).run P w=.ok (.enter f vs.toArray) w->
    K (.dat r (fr.map λ_=>id)) {s with live:=match(generalizing:=false) fr with|some e=>(id,e)::s.live|none=>s.live}->
    Oper.wp P ⟨dst,.call ⟨callee,args,argTypes⟩,L,pos,after,guard⟩ a w next Q:=by
   intro f as vs r fr hp hd O hK;unfold Oper.wp;rw[O,Do];refine(hp.2 w π vs R.eZ hd).mono ?_
   rintro e w' ⟨v,π',rfl,ao,a7,a6,ba,a5,a8⟩
   obtain⟨τ',ag,R'⟩:=R.called au ao a7 a6 ba a5 a8
   exact hn _ _ _ _ _ _ _ hK ag (by cases fr with|none=>trivial|some e=>exact .inr rfl) R'
  simp only[y7]at D;split at D
  ·rename_i f
   by_cases al:bZ P f=true
   rotate_left
   ·rw[fb al]at D
    split at D<;>try(cases D;done)
    rename_i e x ck hargs;simp only[eg]at D;obtain⟨x',Z,rfl⟩:=D;simp only[bF]at h;obtain⟨av,V,h⟩:=ah h;obtain⟨v,M,hK⟩:=ah h
    obtain⟨u,hu,ak⟩:=ad5 ck M (R.aL Z V)
    have eX:args=#[x]:=md.1 (by simpa using hargs)
    subst eX
    exact ab (by simp[execOp,resolve,Act.eval,Deferred.ofValue,invoke];simpa[Act.eval]using hu) ak hK
   rw[fp al]at D;simp only[eg]at D;obtain⟨xs,ad,b4⟩:=D;split at b4
   ·subst b4
    simp only[bF]at h;obtain⟨⟨be,ids⟩,am,b0,h⟩:=ah h;obtain⟨css,ac,r,fr,bw,hp,hK⟩:=ah h
    have hp:wj P f css be r fr bw:=hp
    obtain⟨b7,b5,_,hp⟩:=hp
    have an:ids.Nodup:=fc b0
    have bl:=(R.ej (by simpa[gU]using ad) am).1
    have e1:(args.toList.map a.eval).toArray=args.map a.eval:=md.1 adI
    have O:(execOp a.eval ⟨dst,.call ⟨.value (.func f),args,argTypes⟩,L,pos,after,guard⟩).run P w=.ok (.enter f (args.toList.map a.eval).toArray) w:=by
     rw[e1];simp[execOp,resolve,Act.eval,Deferred.ofValue,invoke,gA al]
    unfold Oper.wp;rw[O,Do];refine(hp w π (ids.map β) (args.toList.map a.eval) R.eZ (R.nodup an ac) (R.qO ac) bl).mono ?_
    rintro e w' ⟨v,π',rfl,ao,a7,a6,ba,b2,a5,a8⟩
    obtain⟨τ',ag,R'⟩:=R.yf au an ac b5 ao a7 a6 ba b2 a5 a8
    exact hn _ _ _ _ _ _ _ hK ag (by cases fr with|none=>trivial|some e=>exact .inr rfl) R'
   subst b4;simp only[bF]at h;obtain⟨as,has,r,fr,hp,hK⟩:=ah h
   have hd:=R.ei (by simpa[gU]using ad) has
   have e1:(args.toList.map a.eval).toArray=args.map a.eval:=md.1 adI
   exact enter hp hd (by rw[e1];simp[execOp,resolve,Act.eval,Deferred.ofValue,invoke,gA al]) hK
  ·rename_i g hg
   split at D<;>try(cases D;done)
   rename_i g' xs b8 ad;simp only[fx]at D;split at D
   ·subst D
    simp only[bF]at h;obtain⟨av,V,h⟩:=ah h
    have bd:=R.aL b8 V
    cases av<;>try(exact h.elim)
    rename_i fn first caps
    cases fn<;>try(exact h.elim)
    rename_i f
    cases first<;>try(exact h.elim)
    cases caps<;>try(exact h.elim)
    obtain⟨⟨be,ids⟩,am,b0,h⟩:=ah h;obtain⟨css,ac,r,fr,bw,hp,hK⟩:=ah h
    have hp:wj P f css be r fr bw:=hp
    obtain⟨b7,b5,_,hp⟩:=hp
    have an:ids.Nodup:=fc b0
    have bl:=(R.ej (by simpa[gU]using ad) am).1
    have e1:(args.toList.map a.eval).toArray=args.map a.eval:=md.1 adI
    have O:(execOp a.eval ⟨dst,.call ⟨.value g,args,argTypes⟩,L,pos,after,guard⟩).run P w=.ok (.enter f (args.toList.map a.eval).toArray) w:=by
     generalize he:a.eval g=u at bd
     cases bd with
     |fn _ _ vs _ us h1 h2 h3 h4=>
      have e2:vs=#[]:=ST.1 (by simpa using h1.symm)
      have e3:us=#[]:=ST.1 (by simpa using h2.symm)
      subst e2 e3;rw[e1];simp[execOp,resolve,he,Deferred.ofValue,invoke,gA b7]
    unfold Oper.wp;rw[O,Do];refine(hp w π (ids.map β) (args.toList.map a.eval) R.eZ (R.nodup an ac) (R.qO ac) bl).mono ?_
    rintro e w' ⟨v,π',rfl,ao,a7,a6,ba,b2,a5,a8⟩
    obtain⟨τ',ag,R'⟩:=R.yf au an ac b5 ao a7 a6 ba b2 a5 a8
    exact hn _ _ _ _ _ _ _ hK ag (by cases fr with|none=>trivial|some e=>exact .inr rfl) R'
   subst D;simp only[bF]at h;obtain⟨av,V,h⟩:=ah h
   have bd:=R.aL b8 V
   cases av<;>try(exact h.elim)
   rename_i fn first caps
   cases fn<;>try(exact h.elim)
   rename_i f;obtain⟨as,has,r,fr,hp,hK⟩:=ah h
   have hd:=R.ei (by simpa[gU]using ad) has
   generalize he:a.eval g=u at bd
   cases bd with
   |fn _ _ vs _ us h1 h2 h3 h4=>
    have d1:jR w π first vs.toList:=⟨by simpa using h1,λi x v Z M=>h3 i x v Z (by simpa using M)⟩
    have d2:jR w π caps us.toList:=⟨by simpa using h2,λi x v Z M=>h4 i x v Z (by simpa using M)⟩
    have e1:(vs.toList++(args.toList.map a.eval)++us.toList).toArray=vs++args.map a.eval++us:=by
     apply md.1;simp
    refine enter hp ((d1.append hd).append d2) ?_ hK;rw[e1]
    simp[execOp,resolve,he,Deferred.ofValue,invoke,gA (show F6 P _ _ _ _ from hp).1]
  ·--len
   split at D<;>try(cases D;done)
   rename_i t x hT hX
   split at D<;>try(cases D;done)
   ·rename_i e ht
    simp only[eg]at D;obtain⟨x',Z,rfl⟩:=D;simp only[bF]at h;obtain⟨sv,am,h⟩:=ah h
    cases sv with
    |ptr _ _=>exact h.elim
    |rp _=>exact h.elim
    |undef=>exact h.elim
    |nX _ _ _=>exact h.elim
    |raw _ _=>exact h.elim
    |pt _ _=>exact h.elim
    |vs b off n z=>
     obtain⟨⟨cap,_,M⟩,_⟩:=R.bX Z am
     exact ab (v:=.int .i64 n) (y:=.int .i64 n) (by simp[execOp,resolve,invoke,builtin,Builtin.len_,hT,hX,M,ix ht,goInt]) (.int _ _) h
    |dat av q=>
     obtain⟨v,M,hK⟩:=ah h
     have V:Eng.aL s x'=some av:=by simp[Eng.aL,am]
     obtain⟨u,hu,hd⟩:=Zw (P:=P) ht hT (Xs:=args.map a.eval) (by simp[hX]) (R.aL Z V) M L
     exact ab (by simp[execOp,resolve,invoke,builtin,hu]) hd hK
   ·rename_i n e ht
    cases D;simp only[bF]at h
    exact ab (v:=.int .i64 n) (y:=.int .i64 n) (by simp[execOp,resolve,invoke,builtin,Builtin.len_,hT,hX,ix ht,goInt]) (.int _ _) h
  ·--append
   split at D<;>try(cases D;done)
   rename_i t t' x y hT hX
   split at D<;>try(cases D;done)
   rename_i c5;subst c5
   split at D<;>try(cases D;done)
   rename_i e x' y' ht Z hy
   split at D<;>try(cases D;done)
   rename_i i hi
   split at D<;>try(cases D;done)
   rename_i zv hz
   split at D<;>try(cases D;done)
   rename_i a3;cases D;obtain⟨v,u,s',w',τ',π',O,M,hu,hK,R'⟩:=R.append ht hi hz a3 Z hy au L h
   have eT:argTypes=#[t,t]:=md.1 (by simpa using hT)
   have eX:args=#[x,y]:=md.1 (by simpa using hX)
   subst eT eX;unfold Oper.wp
   have:(execOp a.eval ⟨dst,.call ⟨.builtin .append,#[x,y],#[t,t]⟩,L,pos,after,guard⟩).run P w=.ok (.value u) w':=by
    simp[execOp,resolve,invoke,builtin,O]
   rw[this];exact hn v s' u w' β τ' π' hK M hu R'
  ·simp only[eg]at D
   obtain⟨xs,ad,rfl⟩:=D;simp only[bF]at h;obtain⟨as,has,h⟩:=ah h
   have hd:=R.ei (by simpa[gU]using ad) has
   cases as with
   |nil=>exact h.elim
   |cons b as=>
    obtain⟨v,M,hK⟩:=ah h;obtain⟨args⟩:=args
    cases args with
    |nil=>have:=hd.1;simp at this
    |cons y ys=>
     obtain⟨u,w',bi,hu,ak⟩:=Pm (P:=P) M (hd.2 0 b (a.eval y) rfl rfl) (us:=ys.map a.eval) ⟨by have:=hd.1;simpa using this,λi a v h1 h2=>hd.2 (i+1) a v (by simpa using h1) (by simpa using h2)⟩
     simp only[kw]at hu
     have O:(execOp a.eval ⟨dst,.call ⟨.builtin .max,⟨y::ys⟩,argTypes⟩,L,pos,after,guard⟩).run P w=.ok (.value u) w':=by simp[execOp,resolve,invoke,builtin,Builtin.max_,hu]
     unfold Oper.wp;rw[O]
     exact hn (.dat v none) _ _ _ _ _ _ hK ⟨ak,λt ht=>by cases ht⟩ trivial (R.nu bi|>.sub ae)
  ·simp only[eg]at D
   obtain⟨xs,ad,rfl⟩:=D;simp only[bF]at h;obtain⟨as,has,h⟩:=ah h
   have hd:=R.ei (by simpa[gU]using ad) has
   cases as with
   |nil=>exact h.elim
   |cons b as=>
    obtain⟨v,M,hK⟩:=ah h;obtain⟨args⟩:=args
    cases args with
    |nil=>have:=hd.1;simp at this
    |cons y ys=>
     obtain⟨u,w',bi,hu,ak⟩:=Pm (P:=P) M (hd.2 0 b (a.eval y) rfl rfl) (us:=ys.map a.eval) ⟨by have:=hd.1;simpa using this,λi a v h1 h2=>hd.2 (i+1) a v (by simpa using h1) (by simpa using h2)⟩
     simp only[eQ,il]at hu
     have O:(execOp a.eval ⟨dst,.call ⟨.builtin .min,⟨y::ys⟩,argTypes⟩,L,pos,after,guard⟩).run P w=.ok (.value u) w':=by simp[execOp,resolve,invoke,builtin,Builtin.min_,hu]
     unfold Oper.wp;rw[O]
     exact hn (.dat v none) _ _ _ _ _ _ hK ⟨ak,λt ht=>by cases ht⟩ trivial (R.nu bi|>.sub ae)
  ·cases D
theorem D9(z:Nat):∀(n:Nat) (cs:List AV),(dI z n cs).flatten=cs.take (n*z)
 |0,cs=>by simp[dI]
 |n+1,cs=>by
  rw[dI,List.flatten_cons,D9 z n,Nat.succ_mul,Nat.add_comm,List.take_add]
theorem Ea(z:Nat):∀(n:Nat) (cs:List AV),n*z<=cs.length->∀r∈dI z n cs,r.length=z
 |0,cs,_,r,h=>by simp[dI]at h
 |n+1,cs,D,r,h=>by
  rw[Nat.succ_mul]at D;rw[dI]at h
  rcases nm.1 h with rfl|h
  ·simp;omega
  ·exact Ea z n (cs.drop z) (by simp;omega) r h
theorem Rel.ZH(R:Rel P nt n0 w0 π0 U s a w β τ π) {e:TypeId} {i:TypeInfo} {zv:Value} {x:aR} {y:Nat} (Z:P.underlying t=some (.slice e)) (hi:P.info? e=some i) (hz:i.zero=some zv) (aa:(0<i.size&&zv.cells.size==i.size&&0<i.bytes)=true) (hx:dn X=some x) (a6:¬U id) (ty:TypeId) (h:bF (Pure P) id (.FV e i.size i.bytes (.t y) x) K s):
  ∃v u s' w' τ' π',(Builtin.append_ #[t,t] ty #[.slice none 0 0,a.eval (.tmp y)]).run P w=.ok u w'/\RV β τ' w' π' v u/\v.iA (fQ U id)/\K v s'/\Rel P nt n0 w0 π0 (fQ U id) s' a w' β τ' π':=by
 simp only[ed,ii,l4]at aa;obtain⟨⟨au,a8⟩,a5⟩:=aa
 have ad:∀n,U n->fQ U id n:=λn h=>.inl h
 simp only[bF]at h;obtain⟨p,hp,h⟩:=ah h
 have a3:=(R.bX (X:=.tmp y) (x:=.t y) rfl hp).1
 cases p<;>try(exact h.elim)
 rename_i b off n z';obtain⟨q,hq,h2⟩:=ah h;clear h
 cases q<;>try(exact h2.elim)
 rename_i b' o';obtain⟨⟨ar,ba⟩,h3⟩:=h2;obtain⟨bx,hb,⟨an,hbytes⟩,hK⟩:=ah h3;clear h3;subst ar ba;obtain⟨cap,bd,hv⟩:=a3;obtain⟨_,_,ae,_⟩:=R.boxes b' bx hb;obtain⟨f,hf,a9,a7,_⟩:=ae.cells;rw[hv];simp only[abM]at an
 by_cases V:n=0
 ·subst V
  rw[fp rfl]at hK
  refine⟨.dat .aZ none,.slice none 0 0,s,w,τ,π,?_,⟨.aZ,λt Z=>by cases Z⟩,trivial,hK,R.sub ad⟩
  simp[Builtin.append_,ix Z,sizeOf,typeInfo,hi,Builtin.lenOf,Builtin.firstCells,loadCells,loadCellsFrom]
 ·rw[fb V]at hK
  have am:0<n:=Nat.pos_of_ne_zero V
  have ab:n<=maxLen:=by
   have:=PH n a5
   simp only[maxLen];omega
  have O:=zX i.size n (bx.cells.drop off)
  have ak:=Ea i.size n (bx.cells.drop off) (by simp;omega)
  have M:=D9 i.size n (bx.cells.drop off)
  have al:∀(j:Nat) (c:AV),(dI i.size n (bx.cells.drop off)).flatten[j]? =some c->j<n*i.size/\bx.cells[off+j]? =some c:=by
   intro j c D;rw[M,yv]at D;split at D
   ·rename_i L;rw[lL]at D;exact⟨L,D⟩
   ·cases D
  have hnews:((List.range (n*i.size)).map λj=>f (off+j)).length=n*i.size:=adI
  have hcell:∀j v,((List.range (n*i.size)).map λj=>f (off+j))[j]? =some v->w.cell? ((⟨β b',off,none⟩:Addr).add j)=some v:=by
   intro j v D;rw[ka,eg]at D;obtain⟨k,hk,rfl⟩:=D
   have a2:j<n*i.size:=by
    rcases ma j (n*i.size)with h|h
    ·exact h
    ·rw[kh (by simpa using h)]at hk;cases hk
   rw[kv a2]at hk;cases hk;rw[jj]
   exact hf _ ado
  have a4:jR w π (dI i.size n (bx.cells.drop off)).flatten ((List.range (n*i.size)).map λj=>f (off+j)):=by
   refine⟨by rw[M];simp;omega,λj c v hc D=>?_⟩
   obtain⟨L,hc⟩:=al j c hc;rw[ka,kv L]at D;cases D;exact a7 _ _ hc
  have ag:∀r∈dI i.size n (bx.cells.drop off),∀x∈r,x.scalar=true:=by
   intro r hr x hx
   have hm:x∈(dI i.size n (bx.cells.drop off)).flatten:=abH.2 ⟨r,hr,hx⟩
   rw[M]at hm
   obtain⟨j,D⟩:=nf.1 (sm (zd hm))
   exact a9 j x D
  have ao:=run_append_nil (P:=P) w t ty e i zv Z hi hz ⟨β b',off,none⟩ n cap _ hnews hcell am (by simp only[maxLen]at ab;omega) ado
  obtain⟨π',R',ac⟩:=R.grown (id:=id) (old:=0) hi hz rfl a8 au a6 (zs:=dI i.size n (bx.cells.drop off)) (vs:=(List.range (n*i.size)).map λj=>f (off+j)) (by rw[O,hnews]) a4 ak ag (by rw[O];exact ab) rfl
  rw[O]at R' ac
  exact⟨.dat (.sl _) (some id),_,_,_,_,_,ao,⟨ac,λt Z=>by cases Z;rw[cZ]⟩,.inr rfl,hK,R'⟩
theorem Po(R:Rel P nt n0 w0 π0 U s a w β τ π) {o:Oper} (D:S4 P ops o.op=some c) (h:bF (Pure P) id c K s) (hn:∀v O x w' β' τ' π',K v O->RV β' τ' w' π' v x->v.iA (fQ U id)->Rel P nt n0 w0 π0 (fQ U id) O a w' β' τ' π'->next (a.put o.dst x) w'):o.wp P a w next Q:=by
 obtain⟨dst,op,L,pos,after,guard⟩:=o;simp only at D;unfold S4 at D
 split at D<;>try(cases D;done)
 rename_i t x
 split at D<;>try(cases D;done)
 split at D<;>try(cases D;done)
 rename_i r x' M Z;cases D;obtain⟨v,y,M,hv,V,hK⟩:=R.load Z M h;unfold Oper.wp
 have:(execOp a.eval ⟨dst,.load t x,L,pos,after,guard⟩).run P w=.ok (.value y) w:=by simp only[execOp,ia,M,ge,kx]
 rw[this]
 exact hn v s y w β τ π hK hv (SV.pG (λn h=>.inl h) V) (R.sub λn h=>.inl h)
theorem Pp(R:Rel P nt n0 w0 π0 U s a w β τ π) {o:Oper} (aa:¬U id) (D:zR P ops o.op=some c) (h:bF (Pure P) id c K s) (hn:∀v O x w' β' τ' π',K v O->RV β' τ' w' π' v x->v.iA (fQ U id)->Rel P nt n0 w0 π0 (fQ U id) O a w' β' τ' π'->next (a.put o.dst x) w'):o.wp P a w next Q:=by
 obtain⟨dst,op,L,pos,after,guard⟩:=o;simp only at D;unfold zR at D
 split at D<;>try(cases D;done)
 rename_i cl
 split at D<;>try(cases D;done)
 rename_i t t' y M hT hX
 split at D<;>try(cases D;done)
 rename_i ab;subst ab
 split at D<;>try(cases D;done)
 rename_i e x' ht hx
 split at D<;>try(cases D;done)
 rename_i i hi
 split at D<;>try(cases D;done)
 rename_i zv hz
 split at D<;>try(cases D;done)
 rename_i V;cases D;obtain⟨X,ac,Z⟩:=jp.1 hx;obtain⟨v,u,O,w',τ',π',hr,hv,hu,hK,R'⟩:=R.ZH ht hi hz V Z aa L h;obtain⟨callee,args,argTypes⟩:=cl;simp only at M hT hX
 have eT:argTypes=#[t,t]:=md.1 (by simpa using hT)
 have eX:args=#[.const (.slice none 0 0),.tmp y]:=md.1 (by simpa using hX)
 subst eT eX M;unfold Oper.wp
 have:(execOp a.eval ⟨dst,.call ⟨.builtin .append,#[.const (.slice none 0 0),.tmp y],#[t,t]⟩,L,pos,after,guard⟩).run P w=.ok (.value u) w':=by
  have e0:a.eval (.const (.slice none 0 0))=.slice none 0 0:=rfl
  simp[execOp,resolve,invoke,builtin,hr,e0]
 rw[this];exact hn v O u w' β τ' π' hK hv hu R'
end
end
end Go.Eng
