/- Part 4 of the engine and its library. -/
import Derived.Test.YtjnbemnncjbmgaaGreatPkA3
set_option linter.all false
set_option maxRecDepth 10000
set_option maxHeartbeats 4000000
namespace Go.Eng
open Go
open Go.RowKit (Below)
section
variable{P:Program} {nt:Nat} {n0:gw} {w0:World} {π0:Nat->Nat->Prop} {U:Nat->Prop} {s:S} {a:Act} {w:World} {β:Nat->Nat} {τ:Nat->Value} {π:Nat->Nat->Prop}
section
variable {K:SV->S->Prop} {Q:Exit->Act->World->Prop} {X Y:Operand} {b:Nat} {c:bG} {cs:List AV} {css:List (List AV)} {e:Nat} {fr:Option Nat} {id:Nat} {ids:List Nat} {n:Nat} {neg:Bool} {next:Act->World->Prop} {o off:Nat} {op:BinOp} {ops:List Oper} {q:Nat} {qo:Option Nat} {r:AV} {t:TypeId} {v:Value} {w':World} {x y:Value} {z:Nat} {π':Nat->Nat->Prop}
theorem Rel.xI(R:Rel P nt n0 w0 π0 U s a w β τ π) {x:aM} {i:Int} (L:cn X=some x) (D:Eng.xI (Eng.aG s x)=some i):∃k,a.eval X=.int k i:=by
 cases h:Eng.aG s x with
 |none=>rw[h]at D;cases D
 |some b=>rw[h]at D;exact R.idx L h D
theorem Rel.slice(R:Rel P nt n0 w0 π0 U s a w β τ π) {t e:TypeId} {z:Nat} {X:Operand} {x:aM} {lo hi:Option Operand} {a3 ar:Option aM} (Z:P.underlying t=some (.slice e)) (hz:f7 P e=some z) (hx:cn X=some x) (hl:cOpt lo=some a3) (hh:cOpt hi=some ar)
  {id:Nat} {K:SV->S->Prop} (h:bn (Pure P) id (.V4 z x a3 ar) K s):
  ∃v y,(Instr.sliceAt t (a.eval X) (lo.map a.eval) (hi.map a.eval) none).run P w=.ok y w/\RV β τ w π v y/\v.gK U/\K v s:=by
 simp only[bn]at h;obtain⟨b,hb,k1⟩:=ah h;obtain⟨xs,aa,k2⟩:=ah k1;obtain⟨l,am,k3⟩:=ah k2;obtain⟨m,ae,⟨ao,bl,au⟩,ab,hK⟩:=ah k3
 have hd:=R.aG hx hb
 have ak:=eu (P:=P) (w:=w) hz
 -- the bounds
 have a6:(lo=none/\l=0)\/∃L k,lo=some L/\a.eval L=.int k l:=by
  cases lo with
  |none=>simp[cOpt]at hl;subst hl;simp[yK]at am;exact .inl ⟨rfl,am.symm⟩
  |some L=>
   simp only[cOpt,eg]at hl;obtain⟨x',ac,rfl⟩:=hl;obtain⟨k,hk⟩:=R.xI ac am;exact .inr ⟨L,k,rfl,hk⟩
 have an:(hi=none/\m=xs.length)\/∃H k,hi=some H/\a.eval H=.int k m:=by
  cases hi with
  |none=>simp[cOpt]at hh;subst hh;simp[xJ]at ae;exact .inl ⟨rfl,ae.symm⟩
  |some H=>
   simp only[cOpt,eg]at hh;obtain⟨x',ac,rfl⟩:=hh;obtain⟨k,hk⟩:=R.xI ac ae;exact .inr ⟨H,k,rfl,hk⟩
 have O:∀cap,xs.length<=cap->(Instr.sliceBounds true xs.length cap (lo.map a.eval) (hi.map a.eval) none).run P w=.ok (l.toNat,m.toNat,cap) w:=by
  intro cap bi
  have ad:(0:Int)<=m:=aaN
  have a2:m<=cap:=aaN
  have bd:(m.toNat:Int)=m:=wc ad
  rcases a6 with⟨rfl,rfl⟩|⟨L,k,rfl,hL⟩<;>rcases an with⟨rfl,hm⟩|⟨H,k',rfl,hH⟩
  ·subst hm;simp[Instr.sliceBounds]
  ·simp[Instr.sliceBounds,hH,aac,ad,a2]
  ·have hL':=aac (P:=P) w k l xs.length .sliceB ao aaN
   have a7:m.toNat=xs.length:=aaN
   simp[Instr.sliceBounds,hL,hL',a7]
  ·have be:=aac (P:=P) w k' m cap .sliceAcap ad a2
   have hL':=aac (P:=P) w k l m.toNat .sliceB ao aaN
   simp[Instr.sliceBounds,hL,hH,be,hL']
 have ba:(Instr.sliceAt t (a.eval X) (lo.map a.eval) (hi.map a.eval) none).run P w=(Instr.slice t (a.eval X) (lo.map a.eval) (hi.map a.eval) none).run P w:=by
  simp[Instr.sliceAt,im Z]
 rw[ba]
 cases b<;>simp only[rowsOf]at aa<;>try(cases aa;done)
 ·--nil
  cases aa
  have hv:a.eval X=.slice none 0 0:=by generalize a.eval X=v at hd;cases hd;rfl
  have h0:=O 0 aaP
  simp at au
  have ag:l=0:=aaN
  have al:m=0:=aaN
  subst ag al
  refine⟨.dat .aU none,.slice none 0 0,?_,⟨.aU,λt Z=>by cases Z⟩,trivial,hK⟩
  simp only[gs]at h0;simp[hv,Instr.slice,im Z,h0,ak]
 ·cases aa
  generalize hv:a.eval X=v at hd
  cases hd with
  |PV A=>
   have h0:=O 0 aaP
   simp at au
   have ag:l=0:=aaN
   have al:m=0:=aaN
   subst ag al
   refine⟨.dat (.sl []) none,.slice (some A) 0 0,?_,⟨.PV A,λt Z=>by cases Z⟩,trivial,hK⟩
   simp only[gs]at h0;simp[Instr.slice,im Z,h0,ak]
  |sl _ B off cap z' f h1 h2 h3 h4 h5 h6=>
   have h0:=O cap h1
   have bj:l.toNat<=m.toNat:=aaN
   have bd:m.toNat<=xs.length:=aaN
   have V:((xs.take m.toNat).drop l.toNat).length=m.toNat-l.toNat:=by simp;omega
   have M:∀(i:Nat) (r:List AV),((xs.take m.toNat).drop l.toNat)[i]? =some r->xs[l.toNat+i]? =some r:=by
    intro i r D;rw[lw,ws]at D;split at D
    ·exact D
    ·cases D
   have a9:(Instr.slice t (.slice (some ⟨B,off,none⟩) xs.length cap) (lo.map a.eval) (hi.map a.eval) none).run P w=.ok (.slice (some (if cap=l.toNat then⟨B,off,none⟩else⟨B,off+l.toNat*z,none⟩)) (m.toNat-l.toNat) (cap-l.toNat)) w:=by
    simp only[Instr.slice,f8,im Z,fp,h0,ak,km]
    split<;>simp[iK]
   refine⟨.dat (.sl ((xs.take m.toNat).drop l.toNat)) none,_,a9,⟨?_,λt Z=>by cases Z⟩,trivial,hK⟩
   rw[<-V]
   by_cases a4:cap=l.toNat
   ·rw[ib a4]
    have a8:(xs.take m.toNat).drop l.toNat=[]:=rc (by rw[V];omega)
    rw[a8]
    exact .sl [] B off _ z' f aaP (λi r D=>by simp at D) (λi j r a D=>by simp at D) (λi j r a D=>by simp at D) (λi j r a D=>by simp at D) (λi j r a D=>by simp at D)
   ·rw[ge a4]
    have a5:∀(i:Nat) (r:List AV),((xs.take m.toNat).drop l.toNat)[i]? =some r->z'=z:=λi r D=>by
     rw[<-h2 _ _ (M i r D)];exact ab r (et (M i r D))
    refine .sl _ B (off+l.toNat*z) _ z (λi j=>f (l.toNat+i) j) (by rw[V];omega) (λi r D=>ab r (et (M i r D))) (λi j r x D hx=>h3 _ j r x (M i r D) hx) (λi j r x D hx=>?_) (λi j r x D hx=>?_) (λi j r x D hx=>h6 _ j r x (M i r D) hx)
    ·have e:=a5 i r D
     subst e
     have:=h4 _ j r x (M i r D) hx
     rwa[show off+(l.toNat+i)*z'+j=off+l.toNat*z'+i*z'+j by rw[Nat.add_mul];omega]at this
    ·have e:=a5 i r D
     subst e
     have:=h5 _ j r x (M i r D) hx
     rwa[show off+(l.toNat+i)*z'+j=off+l.toNat*z'+i*z'+j by rw[Nat.add_mul];omega]at this
theorem WB{M:List CK} (aa:(op=.eql/\neg=false)\/(op=.neq/\neg=true)) (hk:nQ P 20 t=some M) (L:(oJ P t&& !P.eqGuardType P.depth t)=true) {as D:List AV} {e:Bool} (hx:DV w π (.agg as) x) (hy:DV w π (.agg D) y) (he:cq M as D=some e):(do eqGuard op t X Y x y;binOp op t x y:Sem Value).run P w=.ok (.bool (e !=neg)) w:=by
 simp only[ed,sm]at L
 cases hx with
 |agg _ xs h1 h2 h3=>
  cases hy with
  |agg _ O k1 k2 k3=>
   have ab:RB w π P t as (.agg xs):=by
    unfold RB;rw[ib L.1];exact⟨xs,rfl,⟨by simpa using h1,λi a v R V=>h3 i a v R (by simpa using V)⟩,h2⟩
   have ac:RB w π P t D (.agg O):=by
    unfold RB;rw[ib L.1];exact⟨O,rfl,⟨by simpa using k1,λi a v R V=>k3 i a v R (by simpa using V)⟩,k2⟩
   have hr:=aa0 20 t M hk Op.maxDepth aaO as D _ _ e ab ac he
   have Z:=run_eqGuard_agg w op t X Y xs O L.2
   rw[f8,Z]
   rcases aa with⟨rfl,rfl⟩|⟨rfl,rfl⟩
   ·simp[binOp,Op.equal,hr]
   ·simp[binOp,Op.equal,hr]
theorem WC(R:(op=.eql/\neg=false)\/(op=.neq/\neg=true)) (O:sliceB P t=true) {a:AV} {b:Bool} (V:HZ neg a=some b) (hx:DV w π a x) (Z:DV w π .aU y):(do eqGuard op t X Y x y;binOp op t x y:Sem Value).run P w=.ok (.bool b) w:=by
 have M:∃e,P.underlying t=some (.slice e):=by
  unfold sliceB at O;split at O
  ·exact⟨_,by assumption⟩
  ·cases O
 obtain⟨e,M⟩:=M;cases Z
 have L:∀(A:Option Addr) (n c:Nat),(binOp .eql t (.slice A n c) (.slice none 0 0)).run P w=.ok (.bool A.isNone) w:=λA n c=>Lib.run_eql_slice_nil w t e A n c 0 0 M
 have D:∀(A:Option Addr) (n c:Nat),(binOp .neq t (.slice A n c) (.slice none 0 0)).run P w=.ok (.bool !A.isNone) w:=λA n c=>by
  simp only[binOp];simp[Op.equal,Op.maxDepth,Lib.run_equalIn_slice_nil w 9999 t e A n c 0 0 M]
 cases hx<;>simp only[HZ,gc,reduceCtorEq]at V<;>subst V
 all_goals(rcases R with⟨rfl,rfl⟩|⟨rfl,rfl⟩<;>rw[f8,ir _ _ _ _ (λ_ h=>by cases h) (λh=>by cases h)])
 all_goals first|exact L _ _ _|exact D _ _ _
theorem GH.weaken{ok D:Nat->Prop} (h:GH P w π ok e v) (V:∀B,ok B->D B):GH P w π D e v:=by
 rcases h with h|⟨B,len,cap,L,i,O,M,R⟩
 ·exact .inl h
 ·exact .inr ⟨B,len,cap,L,i,O,V _ M,R⟩
theorem Rel.called(R:Rel P nt n0 w0 π0 U s a w β τ π) (Z:¬U id) (D:Below w.heap.size w w') (hp:∀b o,π b o->π' b o) (O:∀b o,π' b o->π b o\/w.heap.size<=b) (V:∀b o,π' b o->b<w'.heap.size) (hd:DV w' π' r v) (ht:∀t,fr=some t->GH P w' π' (λB=>w.heap.size<=B) t v):
  ∃τ',RV β τ' w' π' (.dat r (fr.map λ_=>id)) v/\Rel P nt n0 w0 π0 (eN U id) {s with live:=match(generalizing:=false) fr with|some e=>(id,e)::s.live|none=>s.live} a w' β τ' π':=by
 have aa:n0.n<=w.heap.size:=kw R.f9 R.below.size
 cases fr with
 |none=>exact⟨τ,⟨hd,λt h=>by cases h⟩,R.frame (λ_ _=>rfl) (λ_ _=>rfl) (λ_ h=>.inl h) hp O V D⟩
 |some e=>
  have R1:Rel P nt n0 w0 π0 U s a w' β τ π':=R.frame (λ_ _=>rfl) (λ_ _=>rfl) (λ_ h=>h) hp O V D
  have M:=ht e rfl
  refine⟨Ge τ id v,⟨hd,λt h=>by cases h;rw[bY]⟩,R1.uF Z (M.weaken (λB h=>.inl (kw aa h))) (λq e' B hq hB L=>?_) (λb x hb L=>?_)⟩
  ·have h1:=((R.live q e' hq).2.block hB).2
   have h2:=(M.block L).1
   omega
  ·have h1:=R.lC hb
   have h2:=(M.block L).1
   omega
theorem eG:∀{l:List Nat},dn l=true->l.Nodup
 |[],_=>Ts
 |b::D,h=>by
  simp only[dn,ed,sm]at h;rw[wd]
  exact⟨by simpa using h.1,eG h.2⟩
theorem gA{l:List (Nat×bH)}:∀{ids:List Nat} {css:List (List AV)},aS l ids=some css->css.length=ids.length/\∀(k:Nat) (b:Nat),ids[k]? =some b->∃x,bO b l=some x/\css[k]? =some x.cells
 |[],css,h=>by simp[aS]at h;subst h;exact⟨rfl,λk b D=>by simp at D⟩
 |b::Z,css,h=>by
  simp only[aS]at h
  split at h<;>try(cases h;done)
  rename_i x L O M;cases h;obtain⟨e,V⟩:=gA M
  refine⟨by simp[e],λk R D=>?_⟩
  cases k with
  |zero=>simp at D;subst D;exact⟨x,O,rfl⟩
  |succ k=>exact V k R (by simpa using D)
theorem qk:∀{ids:List Nat} {css:List (List AV)} {l:List (Nat×bH)} {n:Nat} {x:bH},ids.Nodup->css.length=ids.length->bO n (dm ids css l)=some x->
  (∃(k:Nat) (cs:List AV),ids[k]? =some n/\css[k]? =some cs/\x=⟨cs,[]⟩/\∃y,bO n l=some y)\/(n∉ids/\bO n l=some x)
 |[],css,l,n,x,_,_,h=>.inr ⟨aaP,by cases css<;>exact h⟩
 |b::bs,[],l,n,x,_,M,h=>by simp at M
 |b::bs,cs::css,l,n,x,L,M,h=>by
  simp only[dm]at h;rw[wd]at L
  rcases qk L.2 (by simpa using M) h with⟨k,ab,V,O,h3,y,R⟩|⟨V,O⟩
  ·refine .inl ⟨k+1,ab,by simpa using V,by simpa using O,h3,?_⟩
   rcases nZ R with⟨_,_,y',D⟩|⟨_,D⟩
   ·exact⟨y',by rename_i e _;rw[e];exact D⟩
   ·exact⟨y,D⟩
  ·rcases nZ O with⟨e,Z,y,R⟩|⟨aa,Z⟩
   ·subst e;exact .inl ⟨0,cs,rfl,rfl,Z,y,R⟩
   ·exact .inr ⟨by simp[aa,V],Z⟩
theorem bX.get{w:World} {π:Nat->Nat->Prop}:∀{css:List (List AV)} {Bs:List Nat},bX w π css Bs->css.length=Bs.length/\∀(k:Nat) (cs:List AV) (B:Nat),css[k]? =some cs->Bs[k]? =some B->pN (λ_=>undef) w π B ⟨cs,[]⟩
 |[],[],h=>⟨rfl,λk cs B h=>by simp at h⟩
 |[],B::Bs,h=>h.elim
 |cs::css,[],h=>h.elim
 |cs::css,B::Bs,h=>by
  obtain⟨e,O⟩:=bX.get h.2
  refine⟨by simp[e],λk M B' L D=>?_⟩
  cases k with
  |zero=>simp at L D;subst L;subst D;exact h.1
  |succ k=>exact O k M B' (by simpa using L) (by simpa using D)
theorem pN.rQ{τ τ':Nat->Value} {w:World} {π:Nat->Nat->Prop} {B:Nat} {x:bH} (h:pN τ w π B x):pN τ' w π B ⟨x.cells,[]⟩:=by
 obtain⟨D,M,R,O,Z,_,V⟩:=h
 exact⟨D,M,R,O,Z,λo q L=>(by cases L),V⟩
theorem Rel.oS(R:Rel P nt n0 w0 π0 U s a w β τ π):∀{ids:List Nat} {css:List (List AV)},aS s.boxes ids=some css->bX w π css (ids.map β)
 |[],css,h=>by simp[aS]at h;subst h;trivial
 |b::O,css,h=>by
  simp only[aS]at h
  split at h<;>try(cases h;done)
  rename_i x D M L;cases h;exact⟨(R.boxes b x M).2.2.1.rQ,R.oS L⟩
theorem Rel.nodup(R:Rel P nt n0 w0 π0 U s a w β τ π):∀{ids:List Nat} {css:List (List AV)},ids.Nodup->aS s.boxes ids=some css->(ids.map β).Nodup
 |[],css,_,h=>Ts
 |b::bs,css,D,h=>by
  simp only[aS]at h
  split at h<;>try(cases h;done)
  rename_i x V h1 M;rw[wd]at D;simp only[ka,wd]
  refine⟨λhm=>?_,R.nodup D.2 M⟩
  obtain⟨O,L,e⟩:=ne.1 hm
  obtain⟨k,hk⟩:=my.1 L
  obtain⟨y,Z,_⟩:=(gA M).2 k O hk
  have:=R.inj O b y x Z h1 e
  exact D.1 (this▸L)
theorem Rel.dP(R:Rel P nt n0 w0 π0 U s a w β τ π):∀{Xs:List Operand} {xs:List aM} {M:List (Option AV)} {ids:List Nat},∀{hh:Bool},Xs.mapM cn=some xs->Eng.dP hh s xs=some (M,ids)->eO w π M (ids.map β) (Xs.map a.eval)/\(hh=false->nP M=true)
 |[],xs,M,ids,hh,V,L=>by
  simp at V;subst V;simp[Eng.dP]at L;obtain⟨rfl,rfl⟩:=L
  exact⟨trivial,λ_=>rfl⟩
 |X::Xs,xs,M,ids,hh,V,L=>by
  simp only[rt,pb,io,tl,gc]at V;obtain⟨x,V,ab,D,rfl⟩:=V;simp only[Eng.dP]at L
  split at L<;>try(cases L;done)
  ·rename_i av q as bs Z O
   cases L
   have hd:=(R.bJ V Z).1.1
   refine⟨DA hd (R.dP D O).1,λe=>?_⟩
   have:=(R.dP D O).2 e
   have aa:av≠.hole:=λe=>by subst e;cases hd
   cases av<;>first|exact absurd rfl aa|exact this
  ·rename_i cs as bs Z O
   cases L;exact⟨DA (RV.ref.1 (R.bJ V Z).1) (R.dP D O).1,(R.dP D O).2⟩
  ·rename_i b as bs Z O
   cases L;exact⟨⟨(R.bJ V Z).1,(R.dP D O).1⟩,(R.dP D O).2⟩
  ·rename_i b as bs Z O
   cases hh with
   |false=>cases L
   |true=>
    cases L
    exact⟨⟨(R.bJ V Z).1,(R.dP D O).1⟩,λe=>by cases e⟩
theorem Rel.vV(R:Rel P nt n0 w0 π0 U s a w β τ π) (a4:¬U id) {M:List (List AV)} (ad:ids.Nodup) (ao:aS s.boxes ids=some css) (a5:M.length=css.length) (L:vR (gw.iw w (ids.map β)) w w') (hp:∀b o,π b o->π' b o) (ab:∀b o,π' b o->π b o\/w.heap.size<=b) (ak:∀b o,π' b o->b<w'.heap.size) (am:bX w' π' M (ids.map β)) (hd:DV w' π' r v) (ht:∀t,fr=some t->GH P w' π' (λB=>w.heap.size<=B) t v):
  ∃τ',RV β τ' w' π' (.dat r (fr.map λ_=>id)) v/\Rel P nt n0 w0 π0 (eN U id) {s with boxes:=dm ids M s.boxes,live:=match(generalizing:=false) fr with|some e=>(id,e)::s.live|none=>s.live} a w' β τ' π':=by
 obtain⟨a6,ae⟩:=gA ao
 have hlen':M.length=ids.length:=aaN
 have an:n0.n<=w.heap.size:=kw R.f9 R.below.size
 have Z:∀B,B∈ids.map β->∃b x,b∈ids/\bO b s.boxes=some x/\β b=B:=λB hB=>by
  obtain⟨b,hb,e⟩:=ne.1 hB
  obtain⟨k,hk⟩:=my.1 hb
  obtain⟨x,V,_⟩:=ae k b hk;exact⟨b,x,hb,V,e⟩
 have D:∀k,k<w.heap.size->k∉ids.map β->w'.heap[k]? =w.heap[k]?:=λk hk V=>L.block k hk V
 have al:∀B,B∈ids.map β->∀o,¬π B o:=λB hB=>by
  obtain⟨b,x,_,V,e⟩:=Z B hB;obtain⟨_,_,⟨_,_,_,_,_,_,hn⟩,_⟩:=R.boxes b x V;rw[<-e];exact hn
 have hc:∀b o,π b o->w'.cell? ⟨b,o,none⟩=w.cell? ⟨b,o,none⟩:=λb o h=>
  World.cell?_of_block (w:=w) (D b (R.eF b o h) (λhm=>al b hm o h))
 have O:∀b x,bO b s.boxes=some x->β b<w.heap.size:=λb x h=>R.lC h
 have hold:∀b x,bO b (dm ids M s.boxes)=some x->∃y,bO b s.boxes=some y:=λb x h=>by
  rcases qk ad hlen' h with⟨_,_,_,_,_,hy⟩|⟨_,V⟩
  ·exact hy
  ·exact⟨x,V⟩
 have R1:Rel P nt n0 w0 π0 U {s with boxes:=dm ids M s.boxes} a w' β τ π':=by
  refine⟨R.size,λt v h=>?_,λb x h=>?_,λb b' x x' h h' e=>?_,λq e h=>?_,R.cw,λq e b x h h' hB=>?_,R.below.trans ⟨L.os,L.tape,L.output,L.size,λk hk hX=>?_,L.others⟩,R.f9,ak,λb o h=>hp _ _ (R.ep b o h),λb o h=>?_,R.lz,R.jb,λb o h=>(hc b o (R.ep b o h)).trans (R.kept b o h)⟩
  ·obtain⟨⟨x,V,hv⟩,hu⟩:=R.slots t v h
   exact⟨⟨x,V,RV.mono (λ_ _=>rfl) (λ_ _=>rfl) hp hc hu hv⟩,hu⟩
  ·rcases qk ad hlen' h with⟨k,cs,h1,h2,rfl,y,hy⟩|⟨au,V⟩
   ·obtain⟨g1,g2,g3,g4⟩:=R.boxes b y hy
    refine⟨g1,g2,?_,λo q hq=>by cases hq⟩
    exact(am.get.2 k cs (β b) h2 (by simp[h1])).rQ
   ·obtain⟨g1,g2,g3,g4⟩:=R.boxes b x V
    have a3:β b∉ids.map β:=λhm=>by
     obtain⟨b',x',a2,ag,e⟩:=Z _ hm
     exact au (R.inj b' b x' x ag V e▸a2)
    refine⟨g1,g2,g3.keep (λ_ _=>rfl) g4 (D _ (O b x V) a3) hp hc (λo ho=>?_),g4⟩
    rcases ab _ _ ho with h|h
    ·obtain⟨_,_,_,_,_,_,hn⟩:=g3;exact hn o h
    ·have:=O b x V;omega
  ·obtain⟨y,hy⟩:=hold b x h
   obtain⟨y',ar⟩:=hold b' x' h';exact R.inj b b' y y' hy ar e
  ·obtain⟨h1,h2⟩:=R.live q e h
   refine⟨h1,h2.keep (λB hB=>D B (h2.block hB).2 (λhm=>?_)) (λB o hB ho=>?_)⟩
   ·obtain⟨b,x,_,V,eb⟩:=Z B hm
    exact R.cz q e b x h V (by rw[hB,eb])
   ·rcases ab _ _ ho with h|h
    ·exact h
    ·have:=(h2.block hB).2;omega
  ·obtain⟨y,hy⟩:=hold b x h'
   exact R.cz q e b y h hy hB
  ·refine D k aaN (λhm=>?_)
   obtain⟨b,x,_,V,eb⟩:=Z k hm
   rcases(R.boxes b x V).2.1 with h|h
   ·omega
   ·rw[eb]at h;exact hX h.2
  ·rcases ab b o h with h|h
   ·exact R.cB b o h
   ·exact .inr (.inl aaN)
 cases fr with
 |none=>exact⟨τ,⟨hd,λt h=>by cases h⟩,R1.sub λ_ h=>.inl h⟩
 |some e=>
  have aa:=ht e rfl
  refine⟨Ge τ id v,⟨hd,λt h=>by cases h;rw[bY]⟩,R1.uF a4 (aa.weaken (λB h=>.inl (kw an h))) (λq e' B hq hB ac=>?_) (λb x hb ac=>?_)⟩
  ·have h1:=((R.live q e' hq).2.block hB).2
   have h2:=(aa.block ac).1
   omega
  ·obtain⟨y,hy⟩:=hold b x hb
   have h1:=O b y hy
   have h2:=(aa.block ac).1
   omega
theorem DC{b o q:Nat}:∀{l:List (Nat×bH)} {n:Nat} {x:bH},bO n (CB b o q l)=some x->(n=b/\∃y,bO b l=some y/\x=⟨y.cells,[(o,q)]⟩)\/(n≠b/\bO n l=some x)
 |[],n,x,h=>by simp[CB,bO]at h
 |(k,v)::r,n,x,h=>by
  simp only[CB]at h
  by_cases hk:b=k
  ·subst hk
   simp only[nf,fx,bO]at h
   by_cases L:n=b
   ·subst L;simp only[nf,fx,gc]at h
    exact .inl ⟨rfl,v,by simp[bO],h.symm⟩
   ·have D:(n==b)=false:=by simpa using L
    simp only[D,er]at h
    exact .inr ⟨L,by simp only[bO,D,er];exact h⟩
  ·have M:(b==k)=false:=by simpa using hk
   simp only[M,er,bO]at h
   by_cases L:n=k
   ·subst L;simp only[nf,fx]at h
    exact .inr ⟨λe=>hk e.symm,by simp only[bO,nf,fx];exact h⟩
   ·have D:(n==k)=false:=by simpa using L
    simp only[D,er]at h
    rcases DC h with⟨e,y,R,O⟩|⟨e,O⟩
    ·exact .inl ⟨e,y,by simp only[bO,M,er];exact R,O⟩
    ·exact .inr ⟨e,by simp only[bO,D,er];exact O⟩
theorem Rel.tag(R:Rel P nt n0 w0 π0 U s a w β τ π) (hU:U q) (hv:∀D O,w.heap[β b]? =some (.cells D O (0,0))->D[o]? =some (τ q)):Rel P nt n0 w0 π0 U {s with boxes:=CB b o q s.boxes} a w β τ π:=by
 have hold:∀n x,bO n (CB b o q s.boxes)=some x->∃y,bO n s.boxes=some y:=λn x h=>by
  rcases DC h with⟨rfl,y,L,_⟩|⟨_,h⟩
  ·exact⟨y,L⟩
  ·exact⟨x,h⟩
 refine⟨R.size,R.slots,λn x h=>?_,λb1 b2 x x' h V e=>?_,R.live,R.cw,λZ e n x h V hB=>?_,R.below,R.f9,R.eF,R.ep,R.cB,R.lz,R.jb,R.kept⟩
 ·rcases DC h with⟨rfl,y,L,rfl⟩|⟨_,h⟩
  ·obtain⟨g1,g2,⟨D,O,k1,k2,k3,_,k5⟩,_⟩:=R.boxes n y L
   refine⟨g1,g2,⟨D,O,k1,k2,k3,λo' Z M=>?_,k5⟩,λo' Z M=>?_⟩
   all_goals
    simp only[dJ]at M
    by_cases ho:o'=o
    ·subst ho
     simp only[nf,fx,gc]at M;subst M
     first|exact hv D O k1|exact hU
    ·have aa:(o'==o)=false:=by simpa using ho
     simp[aa]at M
  ·exact R.boxes n x h
 ·obtain⟨y,L⟩:=hold b1 x h
  obtain⟨y',ab⟩:=hold b2 x' V;exact R.inj b1 b2 y y' L ab e
 ·obtain⟨y,L⟩:=hold n x V
  exact R.cz Z e n y h L hB
theorem J5{bx:List (Nat×bH)} {lv:List (Nat×Nat)} {j:Nat} (h:MD bx lv ids (some (j,o,e))=some qo):∃b x q,ids[j]? =some b/\bO b bx=some x/\dJ o x.tags=some q/\dJ q lv=some e/\qo=some q:=by
 simp only[MD,io]at h;obtain⟨b,D,x,M,q,O,h4⟩:=h;split at h4
 ·rename_i L;cases h4;exact⟨b,x,q,D,M,O,L,rfl⟩
 ·cases h4
theorem Rel.Ib(R:Rel P nt n0 w0 π0 U s a w β τ π) {ids:List Nat} {css:List (List AV)} (O:aS s.boxes ids=some css) {L:Option (Nat×Nat×Nat)} {qo:Option Nat} (hq:MD s.boxes s.live ids L=some qo):
  ∃tv,Eng.Ib P w π (ids.map β) (λ_=>True) tv L/\(L.isSome=true->∃q e,qo=some q/\dJ q s.live=some e/\tv=τ q):=by
 cases L with
 |none=>exact⟨undef,trivial,λh=>by cases h⟩
 |some p=>
  obtain⟨j,o,e⟩:=p;obtain⟨b,x,q,h1,h2,h3,h4,rfl⟩:=J5 hq;obtain⟨_,_,⟨D,el,k1,_,_,k4,_⟩,_⟩:=R.boxes b x h2
  refine⟨τ q,⟨β b,D,el,by simp[h1],k1,k4 o q h3,?_,λTB M hm=>?_⟩,λ_=>⟨q,e,rfl,h4,rfl⟩⟩
  ·have:=(R.live q e h4).2
   rcases this with h|⟨B,len,cap,D,i,g1,g2,g3⟩
   ·exact .inl h
   ·exact .inr ⟨B,len,cap,D,i,g1,trivial,g3⟩
  ·obtain⟨Z,V,e'⟩:=ne.1 hm
   obtain⟨k,hk⟩:=my.1 V
   obtain⟨y,hy,_⟩:=(gA O).2 k Z hk
   exact R.cz q e Z y h4 hy (by rw[M,e'])
theorem qm{l:List (Nat×Nat)} (h:dJ q (JT qo l)=some e):dJ q l=some e/\qo≠some q:=by
 cases qo with
 |none=>exact⟨h,aaP⟩
 |some k=>obtain⟨D,L⟩:=kg h;exact⟨D,λe=>by cases e;exact L rfl⟩
theorem Rel.WD(R:Rel P nt n0 w0 π0 U s a w β τ π) (bj:¬U id) {L:List (List AV)} (am:ids.Nodup) (a8:aS s.boxes ids=some css) (bl:L.length=css.length) {tg ad:Option (Nat×Nat×Nat)} {tv an:Value} (a4:tg.isSome=true->∃q e,qo=some q/\dJ q s.live=some e/\tv=τ q) (D:vR (gw.xN w (ids.map β) (CN tg tv)) w w') (hp:∀b o,π b o->π' b o) (ag:∀b o,π' b o->π b o\/w.heap.size<=b\/CN tg tv b) (a2:∀b o,π' b o->b<w'.heap.size) (hc:∀b o,π b o->w'.cell? ⟨b,o,none⟩=w.cell? ⟨b,o,none⟩) (a3:bX w' π' L (ids.map β)) (hd:DV w' π' r v) (ht:Eng.Ib P w' π' (ids.map β) (λB=>w.heap.size<=B\/CN tg tv B) an ad):
  ∃τ',RV β τ' w' π' (.dat r none) v/\Rel P nt n0 w0 π0 (eN U id) {s with boxes:=sV id ids ad (dm ids L s.boxes),live:=AR id ad (JT qo s.live)} a w' β τ' π':=by
 obtain⟨bs,ar⟩:=gA a8
 have hlen':L.length=ids.length:=aaN
 have a5:n0.n<=w.heap.size:=kw R.f9 R.below.size
 have aa:∀B,CN tg tv B->∃q e,qo=some q/\dJ q s.live=some e/\jl (τ q)=some B:=λB hB=>by
  obtain⟨q,e,h1,h2,h3⟩:=a4 hB.1
  exact⟨q,e,h1,h2,by rw[<-h3];exact hB.2⟩
 have ac:∀B,B∈ids.map β->∃b x,b∈ids/\bO b s.boxes=some x/\β b=B:=λB hB=>by
  obtain⟨b,hb,e⟩:=ne.1 hB
  obtain⟨k,hk⟩:=my.1 hb
  obtain⟨x,Z,_⟩:=ar k b hk;exact⟨b,x,hb,Z,e⟩
 have O:∀k,k<w.heap.size->k∉ids.map β->¬CN tg tv k->w'.heap[k]? =w.heap[k]?:=λk hk Z ht=>D.block k hk (λh=>h.elim Z ht)
 have M:∀b x,bO b s.boxes=some x->β b<w.heap.size:=λb x h=>R.lC h
 have V:∀b x,bO b s.boxes=some x->¬CN tg tv (β b):=λb x h hB=>by
  obtain⟨q,e,_,h2,h3⟩:=aa _ hB;exact R.cz q e b x h2 h h3
 have hold:∀b x,bO b (dm ids L s.boxes)=some x->∃y,bO b s.boxes=some y:=λb x h=>by
  rcases qk am hlen' h with⟨_,_,_,_,_,hy⟩|⟨_,Z⟩
  ·exact hy
  ·exact⟨x,Z⟩
 have ab:∀q e,dJ q (JT qo s.live)=some e->∀B,jl (τ q)=some B->¬CN tg tv B:=λq e h B hB hT=>by
  obtain⟨h1,h2⟩:=qm h;obtain⟨q',e',g1,g2,g3⟩:=aa B hT
  exact h2 (by rw[g1,R.cw q' q e' e B g2 h1 g3 hB])
 have R1:Rel P nt n0 w0 π0 U {s with boxes:=dm ids L s.boxes,live:=JT qo s.live} a w' β τ π':=by
  refine⟨R.size,λt v h=>?_,λb x h=>?_,λb b' x x' h h' e=>?_,λq e h=>?_,λq q' e e' B h h'=>R.cw q q' e e' B (qm h).1 (qm h').1,λq e b x h h' hB=>?_,R.below.trans ⟨D.os,D.tape,D.output,D.size,λk hk hX=>?_,D.others⟩,R.f9,a2,λb o h=>hp _ _ (R.ep b o h),λb o h=>?_,R.lz,R.jb,λb o h=>(hc b o (R.ep b o h)).trans (R.kept b o h)⟩
  ·obtain⟨⟨x,Z,hv⟩,hu⟩:=R.slots t v h
   exact⟨⟨x,Z,RV.mono (λ_ _=>rfl) (λ_ _=>rfl) hp hc hu hv⟩,hu⟩
  ·rcases qk am hlen' h with⟨k,cs,h1,h2,rfl,y,hy⟩|⟨ba,Z⟩
   ·obtain⟨g1,g2,g3,g4⟩:=R.boxes b y hy
    refine⟨g1,g2,?_,λo q hq=>by cases hq⟩
    exact(a3.get.2 k cs (β b) h2 (by simp[h1])).rQ
   ·obtain⟨g1,g2,g3,g4⟩:=R.boxes b x Z
    have be:β b∉ids.map β:=λhm=>by
     obtain⟨b',x',bd,au,e⟩:=ac _ hm
     exact ba (R.inj b' b x' x au Z e▸bd)
    refine⟨g1,g2,g3.keep (λ_ _=>rfl) g4 (O _ (M b x Z) be (V b x Z)) hp hc (λo ho=>?_),g4⟩
    rcases ag _ _ ho with h|h|h
    ·obtain⟨_,_,_,_,_,_,hn⟩:=g3;exact hn o h
    ·have:=M b x Z;omega
    ·exact V b x Z h
  ·obtain⟨y,hy⟩:=hold b x h
   obtain⟨y',a9⟩:=hold b' x' h';exact R.inj b b' y y' hy a9 e
  ·obtain⟨h0,_⟩:=qm h
   obtain⟨h1,h2⟩:=R.live q e h0
   refine⟨h1,h2.keep (λB hB=>O B (h2.block hB).2 (λhm=>?_) (ab q e h B hB)) (λB o hB ho=>?_)⟩
   ·obtain⟨b,x,_,Z,eb⟩:=ac B hm
    exact R.cz q e b x h0 Z (by rw[hB,eb])
   ·rcases ag _ _ ho with g|g|g
    ·exact g
    ·have:=(h2.block hB).2;omega
    ·exact absurd g (ab q e h B hB)
  ·obtain⟨y,hy⟩:=hold b x h'
   exact R.cz q e b y (qm h).1 hy hB
  ·refine O k aaN (λhm=>?_) (λhT=>?_)
   ·obtain⟨b,x,_,Z,eb⟩:=ac k hm
    rcases(R.boxes b x Z).2.1 with h|h
    ·omega
    ·rw[eb]at h;exact hX h.2
   ·obtain⟨q,e,_,h2,h3⟩:=aa k hT
    rcases((R.live q e h2).2.block h3).1 with h|h
    ·omega
    ·exact hX h
  ·rcases ag b o h with h|h|h
   ·exact R.cB b o h
   ·exact .inr (.inl aaN)
   ·obtain⟨q,e,_,h2,h3⟩:=aa b h
    exact .inr ((R.live q e h2).2.block h3).1
 cases ad with
 |none=>exact⟨τ,⟨hd,λt h=>by cases h⟩,R1.sub λ_ h=>.inl h⟩
 |some p=>
  obtain⟨j,o,e⟩:=p;obtain⟨B,bo,el,hj,hB,ao,ae,bi⟩:=ht
  obtain⟨b,hb,rfl⟩:∃b,ids[j]? =some b/\β b=B:=by
   simp only[kx,eg]at hj;exact hj
  have R2:=R1.uF (e:=e) bj (ae.weaken (λB h=>?_)) (λq e' B hq ak a7=>?_) (λb x hb al=>?_)
  ·refine⟨Ge τ id an,⟨hd,λt h=>by cases h⟩,?_⟩
   have R3:=R2.tag (b:=b) (o:=o) (q:=id) (.inr rfl) (λcur' bm h=>?_)
   ·simp only[sV,hb,AR];exact R3
   ·rw[hB]at h;cases h
    rw[bY];exact ao
  ·rcases h with h|h
   ·exact .inl (kw a5 h)
   ·obtain⟨q,e,_,h2,h3⟩:=aa B h
    exact((R.live q e h2).2.block h3).1
  ·obtain⟨h0,_⟩:=qm hq
   rcases(ae.block a7).1 with h|h
   ·have h1:=((R.live q e' h0).2.block ak).2
    omega
   ·exact ab q e' hq B ak h
  ·exact bi _ al (by
    obtain⟨y,hy⟩:=hold b x hb
    by_cases a6:b∈ids
    ·exact Pl a6
    ·exfalso
     rcases(ae.block al).1 with h|h
     ·have:=M b y hy;omega
     ·exact V b y hy h)
theorem oa{m:Nat}:∀{l:List (Nat×bH)} {n:Nat},bO n (lu m l)=if n=m then none else bO n l
 |[],n=>by simp[lu,bO]
 |(k,v)::r,n=>by
  have Z:=oa (m:=m) (l:=r) (n:=n)
  simp only[lu]
  by_cases D:m=k
  ·subst D
   simp only[nf,fx,bO,Z]
   by_cases R:n=m
   ·simp[R]
   ·have V:(n==m)=false:=by simpa using R
    simp[R,V]
  ·have M:(m==k)=false:=by simpa using D
   simp only[M,er,bO,Z]
   by_cases L:n=k
   ·simp[L,Ne.symm D]
   ·have O:(n==k)=false:=by simpa using L
    simp[O]
theorem yU{b:Nat} {cs:List AV}:∀{l:List (Nat×SV)} {t:Nat},lk t (CC b cs l)=(lk t l).map (j6 b cs)
 |[],t=>rfl
 |(m,v)::r,t=>by
  simp only[CC,lk];cases h:t==m
  ·simp only[er];exact yU
  ·rfl
theorem xR(z:Nat):∀(n:Nat) (cs:List AV),(cU z n cs).length=n
 |0,_=>rfl
 |n+1,cs=>by simp[cU,xR z n]
theorem AX(z:Nat):∀(n:Nat) (cs:List AV) (i:Nat) (r:List AV),(cU z n cs)[i]? =some r->i<n/\r=(cs.drop (i*z)).take z
 |0,_,i,r,h=>by simp[cU]at h
 |n+1,cs,0,r,h=>by simp only[cU,iv,gc]at h;subst h;simp
 |n+1,cs,i+1,r,h=>by
  simp only[cU,ix]at h;obtain⟨L,D⟩:=AX z n _ i r h
  refine⟨aaN,?_⟩
  rw[D,te]
  congr 2
  rw[Nat.succ_mul,Nat.add_comm]
theorem Oc{π:Nat->Nat->Prop} {B:Nat} (h:DV w π (.ref cs) (.pointer (some ⟨B,o,none⟩))) {cap:Nat} (hn:n*z<=(cs.drop off).length) (R:n<=cap):DV w π (.sl (cU z n (cs.drop off))) (.slice (some ⟨B,o+off,none⟩) n cap):=by
 cases h with
 |ref _ _ _ f h1 Z h3 h4=>
  have D:∀(i j:Nat) (r:List AV) (a:AV),(cU z n (cs.drop off))[i]? =some r->r[j]? =some a->cs[off+(i*z+j)]? =some a:=by
   intro i j r a M L;obtain⟨_,rfl⟩:=AX z n _ i r M;rw[ws]at L;split at L
   ·rw[lw,lw]at L;rw[<-L]
   ·cases L
  have e:∀i j,o+off+i*z+j=o+(off+(i*z+j)):=λi j=>by omega
  have V:=xR z n (cs.drop off)
  have key:=DV.sl (w:=w) (π:=π) (cU z n (cs.drop off)) B (o+off) cap z (λi j=>f (off+(i*z+j))) aaN (λi r M=>?_) (λi j r a M L=>h1 _ _ (D i j r a M L)) (λi j r a M L=>by rw[e];exact Z _ _ (D i j r a M L)) (λi j r a M L=>by rw[e];exact h3 _ _ (D i j r a M L)) (λi j r a M L=>h4 _ _ (D i j r a M L))
  ·rw[V]at key;exact key
  ·obtain⟨O,rfl⟩:=AX z n _ i r M
   have:(i+1)*z<=n*z:=ip _ O
   rw[Nat.succ_mul]at this;simp only[H1,List.length_drop]at hn⊢;omega
theorem Sj{π:Nat->Nat->Prop} {B:Nat} (h:DV w π (.ref cs) (.pointer (some ⟨B,o,none⟩))) (D:n*z<=(cs.drop off).length):DV w π (.sl (cU z n (cs.drop off))) (.slice (some ⟨B,o+off,none⟩) n n):=Oc h D (ik n)
theorem Rel.freeze(R:Rel P nt n0 w0 π0 U s a w β τ π) {x:bH} (hb:bO b s.boxes=some x) (h4:4<=b):
  ∃π':Nat->Nat->Prop,(∀B o,π B o->π' B o)/\Rel P nt n0 w0 π0 U {s with slots:=CC b x.cells s.slots,boxes:=lu b s.boxes} a w β τ π'/\DV w π' (.ref x.cells) (.pointer (some ⟨β b,0,none⟩)):=by
 obtain⟨ar,ae,ad,ao⟩:=R.boxes b x hb
 have ak:=R.lC hb
 have ac:n0.n<=β b:=by rcases ae with h|h;exact h;exact absurd h.1 aaN
 obtain⟨f,hf,am,al,_⟩:=ad.cells
 have hp:∀B o,π B o->(λB o=>π B o\/(B=β b/\o<x.cells.length)) B o:=λ_ _ h=>.inl h
 have ab:∀(j:Nat) (c:AV),x.cells[j]? =some c->j<x.cells.length:=λj c hc=>(em.1 hc).1
 have O:∀d,RV β τ w (λB o=>π B o\/(B=β b/\o<x.cells.length)) (.rp (x.cells.drop d)) (.pointer (some ⟨β b,d,none⟩)):=by
  intro d
  refine⟨β b,d,λj=>f (d+j),rfl,?_,?_,?_,?_⟩<;>intro j c hc<;>rw[lw]at hc
  ·exact am _ _ hc
  ·exact .inr ⟨rfl,ab _ _ hc⟩
  ·exact hf _ (ab _ _ hc)
  ·exact(al _ _ hc).mono hp (λ_ _ _=>rfl)
 refine⟨_,hp,?_,RV.ref.1 (by simpa using O 0)⟩
 have L:∀c y,bO c (lu b s.boxes)=some y->c≠b/\bO c s.boxes=some y:=λc y h=>by
  rw[oa]at h;split at h
  ·cases h
  ·rename_i aa;exact⟨aa,h⟩
 refine⟨R.size,λt v h=>?_,λc y h=>?_,λc c' y y' h h' e=>R.inj c c' y y' (L c y h).2 (L c' y' h').2 e,λq e h=>?_,R.cw,λq e c y h h' hB=>R.cz q e c y h (L c y h').2 hB,R.below,R.f9,λB o h=>?_,λB o h=>.inl (R.ep B o h),λB o h=>?_,R.lz,R.jb,R.kept⟩
 ·simp only[yU,eg]at h
  obtain⟨u,hu,rfl⟩:=h;obtain⟨⟨y,Z,hr⟩,hi⟩:=R.slots t u hu
  have hm:RV β τ w (λB o=>π B o\/(B=β b/\o<x.cells.length)) u y:=RV.mono (λ_ _=>rfl) (λ_ _=>rfl) hp (λ_ _ _=>rfl) hi hr
  cases u with
  |dat av q=>exact⟨⟨y,Z,hm⟩,hi⟩
  |rp cs=>exact⟨⟨y,Z,hm⟩,hi⟩
  |undef=>exact⟨⟨y,Z,hm⟩,hi⟩
  |vs c o n z=>
   simp only[j6]
   by_cases D:(c==b&&decide (n*z<=(x.cells.drop o).length))=true
   ·rw[D,fx]
    simp only[ed,md,ii]at D;obtain⟨rfl,an⟩:=D;obtain⟨cap,ag,rfl⟩:=hr
    have:=Oc (RV.ref.1 (by simpa using O 0)) an ag
    rw[kr]at this
    exact⟨⟨_,Z,this,λt h=>by cases h⟩,trivial⟩
   ·have V:=Hm.2 D
    rw[V,er];exact⟨⟨y,Z,hm⟩,hi⟩
  |mL _ _ _=>exact⟨⟨y,Z,hm⟩,hi⟩
  |raw _ _=>exact⟨⟨y,Z,hm⟩,hi⟩
  |pt _ _=>exact⟨⟨y,Z,hm⟩,hi⟩
  |ptr c o=>
   simp only[j6]
   by_cases D:c=b
   ·subst D
    simp only[nf,fx]
    have e:y=.pointer (some ⟨β c,o,none⟩):=hr
    subst e;exact⟨⟨_,Z,O o⟩,trivial⟩
   ·have V:(c==b)=false:=by simpa using D
    simp only[V,er];exact⟨⟨y,Z,hm⟩,hi⟩
 ·obtain⟨aa,hc⟩:=L c y h
  obtain⟨g1,g2,g3,g4⟩:=R.boxes c y hc
  refine⟨g1,g2,g3.keep (λ_ _=>rfl) g4 rfl hp (λ_ _ _=>rfl) (λo M=>?_),g4⟩
  rcases M with M|⟨M,_⟩
  ·obtain⟨_,_,_,_,_,_,hn⟩:=g3;exact hn o M
  ·exact aa (R.inj c b y x hc hb M)
 ·obtain⟨h1,h2⟩:=R.live q e h
  refine⟨h1,h2.keep (λB hB=>rfl) (λB o hB M=>?_)⟩
  rcases M with M|⟨M,_⟩
  ·exact M
  ·exact absurd (M▸hB) (R.cz q e b x h hb)
 ·rcases h with h|⟨rfl,_⟩
  ·exact R.eF B o h
  ·exact ak
 ·rcases h with h|⟨rfl,_⟩
  ·exact R.cB B o h
  ·exact .inr (.inl ac)
theorem BF{l:List (Nat×bH)} {b:Nat}:∀{ids:List Nat} {css:List (List AV)},b∉ids->aS l ids=some css->aS (lu b l) ids=some css
 |[],css,_,h=>h
 |c::ids,css,L,h=>by
  simp only[aS]at h⊢
  have D:c≠b:=λe=>L (e▸mp ..)
  split at h<;>try(cases h;done)
  rename_i x M R O
  rw[oa,ge D,R,BF (λhm=>L (lc _ hm)) O]
  exact h
theorem Rel.vW:∀{ids:List Nat} {css:List (List AV)} {s:S} {π:Nat->Nat->Prop},Rel P nt n0 w0 π0 U s a w β τ π->ids.Nodup->iu ids=true->aS s.boxes ids=some css->
  ∃π':Nat->Nat->Prop,(∀B o,π B o->π' B o)/\Rel P nt n0 w0 π0 U (gM ids css s) a w β τ π'/\∀(k:Nat) (b:Nat) (cs:List AV),ids[k]? =some b->css[k]? =some cs->DV w π' (.ref cs) (.pointer (some ⟨β b,0,none⟩))
 |[],css,s,π,R,_,_,h=>by
  simp[aS]at h;subst h
  exact⟨π,λ_ _ h=>h,R,λk b cs h=>by simp at h⟩
 |b::ids,css,s,π,R,L,D,h=>by
  simp only[aS]at h
  split at h<;>try(cases h;done)
  rename_i x V h1 h2;cases h;rw[wd]at L;simp only[iu,ed,ii]at D;obtain⟨π1,m1,R1,d1⟩:=R.freeze h1 D.1
  obtain⟨π2,O,R2,Z⟩:=Rel.vW R1 L.2 D.2 (BF L.1 h2)
  refine⟨π2,λB o h=>O _ _ (m1 _ _ h),R2,λk c cs hk M=>?_⟩
  cases k with
  |zero=>simp at hk M;subst hk;subst M;exact d1.mono O (λ_ _ _=>rfl)
  |succ k=>exact Z k c cs (by simpa using hk) (by simpa using M)
theorem Rel.aft(R:Rel P nt n0 w0 π0 U s a w β τ π) {x:aM} {M:Option Nat} (hx:cn X=some x) (ht:yO P t=some M) (h:bn (Pure P) id (.V5 x M) K s):∃v y,(Instr.loadAt t (a.eval X)).run P w=.ok y w/\RV β τ w π v y/\v.gK U/\K v s:=by
 simp only[bn]at h;obtain⟨p,L,h⟩:=ah h;obtain⟨O,hU⟩:=R.bJ hx L
 cases p<;>try(exact h.elim)
 rename_i k ps
 match k,O,h with
 |2,O,h=>
  obtain⟨B,off,Z,hc⟩:=O.ZZ
  cases M with
  |none=>
   cases ps with
   |nil=>exact h.elim
   |cons q ps=>
    obtain⟨b,o⟩:=q
    refine⟨.ptr b o,.pointer (some ⟨β b,o,none⟩),?_,rfl,hU (b,o) aaP,h⟩
    simp only[Z,Instr.loadAt,Instr.sureAddr,f8,km,fp];exact lB ht (hc 0 (b,o) rfl).2
  |some n=>
   obtain⟨hn,h⟩:=h
   refine⟨.pt 0 (ps.take n),.agg ((List.range n).map λj=>Value.pointer (some ⟨β (ps.getD j (0,0)).1,(ps.getD j (0,0)).2,none⟩)).toArray,?_,?_,λp L=>hU p (ul L),h⟩
   ·simp only[Z,Instr.loadAt,Instr.sureAddr,f8,km,fp]
    refine lA ht (f:=λj=>Value.pointer (some ⟨β (ps.getD j (0,0)).1,(ps.getD j (0,0)).2,none⟩)) (λj hj=>?_)
    have D:j<ps.length:=aaN
    have:=(hc j ps[j] (eh D)).2
    rw[this];simp[D]
   ·show Value.agg _=Value.agg _
    congr 2
    apply List.ext_getElem?
    intro i;simp only[kx,ws]
    by_cases hi:i<n
    ·have V:i<ps.length:=aaN
     simp[hi,V]
    ·simp[hi]
 |0,_,h=>exact h.elim
 |1,_,h=>exact h.elim
 |k+3,_,h=>exact h.elim
theorem vX{w:World} {π π':Nat->Nat->Prop} (V:∀B o,π B o->π' B o):∀{D:List (Option AV)} {css:List (List AV)} {Bs:List Nat} {vs:List Value},eO w π D Bs vs->nP D=true->css.length=Bs.length->
  (∀(k:Nat) (cs:List AV) (B:Nat),css[k]? =some cs->Bs[k]? =some B->DV w π' (.ref cs) (.pointer (some ⟨B,0,none⟩)))->ji w π' (jR D css) vs
 |[],css,Bs,vs,h,_,_,_=>by
  have:vs=[]:=by cases Bs<;>cases vs<;>first|rfl|exact h.elim
  subst this
  have:jR [] css=[]:=by cases css<;>rfl
  rw[this];exact .nil _ _
 |some av::D,css,Bs,[],h,_,_,_=>by cases Bs<;>cases av<;>exact h.elim
 |some av::D,css,Bs,v::vs,h,M,L,R=>by
  obtain⟨aa,M⟩:=JS M
  have O:DV w π av v/\eO w π D Bs vs:=by
   rcases nV h with⟨e,_⟩|⟨_,O⟩
   ·exact absurd e aa
   ·exact O
  have e:jR (some av::D) css=av::jR D css:=by cases css<;>rfl
  rw[e]
  exact .cons (O.1.mono V (λ_ _ _=>rfl)) (vX V O.2 M L R)
 |none::D,css,[],vs,h,_,_,_=>by cases vs<;>exact h.elim
 |none::D,css,B::Bs,[],h,_,_,_=>h.elim
 |none::D,[],B::Bs,v::vs,h,_,L,_=>by simp at L
 |none::D,cs::css,B::Bs,v::vs,h,M,L,R=>by
  obtain⟨rfl,Z⟩:=h
  exact .cons (R 0 cs B rfl rfl) (vX V Z M (by simpa using L) (λk cs B h1 Z=>R (k+1) cs B (by simpa using h1) (by simpa using Z)))
theorem GK:∀{ids:List Nat} {css:List (List AV)} {s:S},(gM ids css s).live=s.live
 |[],css,s=>by cases css<;>rfl
 |b::ids,[],s=>rfl
 |b::ids,cs::css,s=>GK (ids:=ids) (css:=css)
theorem Od{B:Nat} (D:P.underlying t=some (.array n e)) (L:f7 P e=some z):
  (Instr.sliceAt t (.pointer (some ⟨B,off,none⟩)) none none none).run P w=.ok (.slice (some ⟨B,off,none⟩) n n) w:=by
 simp[Instr.sliceAt,im D,Instr.sureAddr,Instr.sliceBounds,eu L,Addr.add]
theorem WE{B:Nat} (O:P.underlying t=some (.array n e)) (R:f7 P e=some z) {k:IntKind} {j:Int} (M:0<=j) (L:j<=n):
  (Instr.sliceAt t (.pointer (some ⟨B,off,none⟩)) none (some (.int k j)) none).run P w=.ok (.slice (some ⟨B,off,none⟩) j.toNat n) w:=by
 have D:=aac (P:=P) w k j n .sliceAlen M L
 simp[Instr.sliceAt,im O,Instr.sureAddr,Instr.sliceBounds,eu R,Addr.add,D]
def PX:AV->Value
 | .float _ r=>.float .f64 r
 |_=>undef
def aa1(b:Nat):Ieee.Datum->Sem Value
 | .nan s t=>if FloatKind.f64.format.quiet t=t then pure (.float .f64 b)else do
   let kept ← choose (.extern "math.Floor,Ceil,Trunc,RoundToEven.signallingNaN kept" 2)
   pure (.float .f64 (if kept==1 then b else FloatKind.f64.encode (.nan s (FloatKind.f64.format.quiet t))))
 |d=>pure (.float .f64 (FloatKind.f64.encode (d.integral .even)))
def WG(b:Nat):Ieee.Datum->Option AV
 | .nan _ t=>if FloatKind.f64.format.quiet t=t then some (.float .f64 b)else none
 |d=>some (.float .f64 (FloatKind.f64.encode (d.integral .even)))
theorem Sk{π:Nat->Nat->Prop} {v:AV}:∀{d:Ieee.Datum},WG b d=some v->(aa1 b d).run P w=.ok (PX v) w/\DV w π v (PX v)
 | .nan s t,h=>by
  simp only[WG]at h
  split at h<;>try(cases h;done)
  rename_i D;cases h;simp only[aa1,D,kv];exact⟨rfl,.float _ _⟩
 | .number s m i,h=>by cases h;exact⟨rfl,.float _ _⟩
 | .infinity s,h=>by cases h;exact⟨rfl,.float _ _⟩
theorem WH{π:Nat → Nat → Prop} {v:AV} (h:HY b = some v) : ((Extern.MathFloor.toIntegral "math.RoundToEven" .even) #[.float .f64 b]).run P w = .ok (PX v) w ∧ DV w π v (PX v) :=
 by
 have hto : Extern.MathFloor.toIntegral "math.RoundToEven" .even #[.float .f64 b] = aa1 b (FloatKind.f64.decode b) := by
  show((match FloatKind.f64.decode b with
      | .nan s t=>if FloatKind.f64.format.quiet t=t then pure (.float .f64 b)else do
        let kept ← choose (.extern "math.Floor,Ceil,Trunc,RoundToEven.signallingNaN kept" 2)
        pure (.float .f64 (if kept==1 then b else FloatKind.f64.encode (.nan s (FloatKind.f64.format.quiet t))))
      |d=>pure (.float .f64 (FloatKind.f64.encode (d.integral .even)))):Sem Value)=_
  generalize FloatKind.f64.decode b=d
  cases d<;>rfl
 have hta:WG b (FloatKind.f64.decode b)=some v:=by
  rw[<-h]
  show WG b (FloatKind.f64.decode b)=((match FloatKind.f64.decode b with
   | .nan _ t=>if FloatKind.f64.format.quiet t=t then some (.float .f64 b)else none
   |d=>some (.float .f64 (FloatKind.f64.encode (d.integral .even)))):Option AV)
  generalize FloatKind.f64.decode b=d
  cases d<;>rfl
 rw[hto];exact Sk hta
theorem aa2{f:FuncId} {e:Xt} (he:aaT P f=some e) {a v:AV} (hv:xtA e a=some v) (hd:DV w π a x):∃u,(callFunc f #[x]).run P w=.ok (.value u) w/\DV w π v u:=by
 unfold aaT at he
 split at he<;>try(cases he;done)
 rename_i fn hf
 split at he<;>try(cases he;done)
 rename_i hb;simp only[Bool.and_eq_true]at hb
 have hb1:fn.body=none:=by simpa using hb.1
 have hb2:Extern.findNext fn=none:=by simpa using hb.2
 split at he
 ·rename_i hn
  have hn:=eq_of_beq hn
  cases he
  have hfi:Extern.find fn=some Extern.MathFloatBits.float64bits:=by unfold Extern.find;rw[hn];rfl
  cases a<;>try(cases hv;done)
  rename_i k b
  cases k<;>cases hv
  cases hd;refine⟨.int .u64 b,?_,.int _ _⟩
  rw[run_callFunc_extern hf (by rw[hn];rfl) (by rw[hb1];rfl) hb2 hfi]
  rfl
 ·split at he
  ·rename_i hn
   have hn:=eq_of_beq hn
   cases he
   have hfi:Extern.find fn=some Extern.MathFloatBits.float64frombits:=by unfold Extern.find;rw[hn];rfl
   cases a<;>try(cases hv;done)
   rename_i k b
   cases k<;>cases hv
   cases hd;refine⟨.float .f64 b.toNat,?_,.float _ _⟩
   rw[run_callFunc_extern hf (by rw[hn];rfl) (by rw[hb1];rfl) hb2 hfi]
   rfl
  ·split at he<;>try(cases he;done)
   rename_i hn
   have hn:=eq_of_beq hn
   cases he
   have hfi : Extern.find fn = some (Extern.MathFloor.toIntegral "math.RoundToEven" .even) := by unfold Extern.find; rw [hn]; rfl
   cases a<;>try(cases hv;done)
   rename_i k b
   cases k<;>try(cases hv;done)
   cases hd
   have hv:HY b=some v:=hv
   have hrun : ((Extern.MathFloor.toIntegral "math.RoundToEven" .even) #[.float .f64 b]).run P w = .ok (PX v) w ∧ DV w π v (PX v) := by
    exact WH hv
   refine⟨_,?_,hrun.2⟩
   rw[run_callFunc_extern hf (by rw[hn];rfl) (by rw[hb1];rfl) hb2 hfi,hrun.1]
   rfl
theorem fJ{f:Nat} (D:bL P f=true) (args:Array Value):(callFunc f args).run P w=.ok (.enter f args) w:=by
 unfold bL at D;split at D
 ·rename_i fn L
  simp only[ed,bne_iff_ne,ne_eq]at D;obtain⟨b,M⟩:=aak.1 D.2;simp[callFunc,L,D.1,M]
 ·cases D
theorem vY(R:Rel P nt n0 w0 π0 U s a w β τ π) {o:Oper} (au:¬U id) (D:V6 P o.op=some c) (h:bn (Pure P) id c K s) (hn:∀v s' x w' β' τ' π',K v s'->RV β' τ' w' π' v x->v.gK (eN U id)->Rel P nt n0 w0 π0 (eN U id) s' a w' β' τ' π'->next (a.put o.dst x) w'):o.wp P a w next Q:=by
 obtain⟨dst,op,L,pos,after,guard⟩:=o;simp only at D
 have ae:∀n,U n->eN U id n:=λn h=>.inl h
 -- a value,nothing else
 have fin:∀{v:SV} {y:Value},(execOp a.eval ⟨dst,op,L,pos,after,guard⟩).run P w=.ok (.value y) w->RV β τ w π v y->v.gK U->K v s->Oper.wp P ⟨dst,op,L,pos,after,guard⟩ a w next Q:=by
  intro v y O M hu hK;unfold Oper.wp;rw[O];exact hn v s y w β τ π hK M (SV.nW ae hu) (R.sub ae)
 have ab:∀{v:AV} {y:Value},(execOp a.eval ⟨dst,op,L,pos,after,guard⟩).run P w=.ok (.value y) w->DV w π v y->K (.dat v none) s->Oper.wp P ⟨dst,op,L,pos,after,guard⟩ a w next Q:=
  λ{v y} O M hK=>fin (v:=.dat v none) O ⟨M,λt ht=>by cases ht⟩ trivial hK
 cases op<;>simp only[V6]at D<;>try(cases D;done)
 case move x=>
  simp only[eg]at D;obtain⟨x',Z,rfl⟩:=D;simp only[bn]at h;obtain⟨v,M,hK⟩:=ah h;obtain⟨O,hu⟩:=R.bJ Z M;exact fin rfl O hu hK
 case assign x=>
  simp only[eg]at D;obtain⟨x',Z,rfl⟩:=D;simp only[bn]at h;obtain⟨v,M,hK⟩:=ah h;obtain⟨O,hu⟩:=R.bJ Z M;exact fin rfl O hu hK
 case pick cc aa bb=>
  split at D<;>try(cases D;done)
  rename_i c' a' b' h1 h2 h3;cases D;simp only[bn]at h;obtain⟨t,ht,h⟩:=ah h
  have hd:=R.aG h1 ht
  cases t<;>try(exact h.elim)
  rename_i t;obtain⟨u,hu,h⟩:=ah h;obtain⟨v,M,cr,c6⟩:=ah h
  have hb:=hd.uA
  obtain⟨ra,ua⟩:=R.bJ h2 hu;obtain⟨rb,ub⟩:=R.bJ h3 M;cases t
  ·exact fin (by simp[execOp,hb,asBool]) rb ub (c6 rfl)
  ·exact fin (by simp[execOp,hb,asBool]) ra ua (cr rfl)
 case alloc t=>
  simp only[eg]at D;obtain⟨zs,hz,rfl⟩:=D;simp only[bn]at h
  obtain⟨z,c0,c4,co⟩:=uD (P:=P) (w:=w) (π:=π) hz
  have O:(execOp a.eval ⟨dst,.alloc t,L,pos,after,guard⟩).run P w=.ok (.value (.pointer (some ⟨w.heap.size,0,none⟩))) (w.alloc (.cells z.cells t)):=by
   simp[execOp,Instr.alloc,c0,newVar,Go.newRow]
  unfold Oper.wp;rw[O]
  exact hn _ _ _ _ _ _ _ h (show RV (Ge β id w.heap.size) τ _ π (.ptr id 0) _ by simp[RV,bY]) (.inr rfl) (R.MF au t c4.take co)
 case box t x=>
  simp only[eg]at D;obtain⟨x',Z,rfl⟩:=D;simp only[bn]at h;obtain⟨av,M,h⟩:=ah h
  have hd:=R.aG Z M
  have O:(execOp a.eval ⟨dst,.box t x,L,pos,after,guard⟩).run P w=.ok (.value (.pointer (some ⟨w.heap.size,0,none⟩))) (w.alloc (.cells (a.eval x).cells t)):=by
   simp[execOp,Instr.box,newVar,Go.newRow]
  obtain⟨ar,hK⟩:=h
  obtain⟨c3,ac⟩:=hd.cells (λvs e=>by subst e;simp[gS]at ar)
  unfold Oper.wp;rw[O]
  exact hn _ _ _ _ _ _ _ hK (show RV (Ge β id w.heap.size) τ _ π (.ptr id 0) _ by simp[RV,bY]) (.inr rfl) (R.MF au t c3.take ac)
 case build t ps=>
  split at D<;>try(cases D;done)
  rename_i zs db hz cv
  split at D<;>try(cases D;done)
  rename_i bw;cases D;simp only[ed]at bw;obtain⟨v,y,O,M,hu,hK⟩:=R.build hz cv bw.1 bw.2 h
  exact fin (by simp only[execOp,f8,O,fp,km]) M hu hK
 case buildSlice t n ps=>
  split at D<;>try(cases D;done)
  rename_i e ht
  split at D<;>try(cases D;done)
  rename_i zs z xs hz a4 ad
  split at D<;>try(cases D;done)
  rename_i ar;cases D;obtain⟨v,y,s',w',τ',π',O,M,hu,hK,R'⟩:=R.buildSlice ht hz a4 ad ar au h;unfold Oper.wp
  have:(execOp a.eval ⟨dst,.buildSlice t n ps,L,pos,after,guard⟩).run P w=.ok (.value y) w':=by simp only[execOp,f8,O,fp,km]
  rw[this];exact hn v s' y w' β τ' π' hK M hu R'
 case load t x=>
  split at D<;>try(cases D;done)
  rename_i r x' O Z;cases D
  have:∃v y,(Instr.loadAt t (a.eval x)).run P w=.ok y w/\RV β τ w π v y/\v.gK U/\K v s:=by
   split at h
   ·exact R.aft Z O h
   ·exact R.load Z O h
  obtain⟨v,y,O,M,hu,hK⟩:=this
  exact fin (by simp only[execOp,f8,O,fp,km]) M hu hK
 case store t x v=>
  split at D<;>try(cases D;done)
  rename_i z x' v' hz Z M;cases D;obtain⟨s',w',O,hK,R'⟩:=R.store Z M hz h;unfold Oper.wp
  have:(execOp a.eval ⟨dst,.store t x v,L,pos,after,guard⟩).run P w=.ok .skip w':=by simp only[execOp,f8,O,fp,km]
  rw[this];exact hn .undef s' undef w' β τ π hK rfl trivial (R'.sub ae)
 case nilCheck x=>
  simp only[eg]at D;obtain⟨x',Z,rfl⟩:=D;simp only[bn]at h;obtain⟨v,M,h⟩:=ah h;obtain⟨O,hu⟩:=R.bJ Z M
  cases v with
  |ptr b o=>
   have he:a.eval x=.pointer (some ⟨β b,o,none⟩):=O
   exact fin (v:=.ptr b o) (by simp[execOp,he]) (show RV β τ w π (.ptr b o) (.pointer (some ⟨β b,o,none⟩))from rfl) hu h
  |rp cs=>
   obtain⟨B,off,f,he,a2⟩:=O
   exact fin (v:=.rp cs) (by simp[execOp,he]) (show RV β τ w π (.rp cs) (.pointer (some ⟨B,off,none⟩))from⟨B,off,f,rfl,a2⟩) trivial h
  |undef=>exact h.elim
  |vs _ _ _ _=>exact h.elim
  |mL _ _ _=>exact h.elim
  |raw _ _=>exact h.elim
  |pt _ _=>exact h.elim
  |dat av q=>
   cases av<;>try(exact h.elim)
   case ref cs=>
    obtain⟨B,off,f,he,a2⟩:=(RV.ref (β:=β) (τ:=τ)).2 O.1
    exact fin (v:=.rp cs) (by simp[execOp,he]) (show RV β τ w π (.rp cs) (.pointer (some ⟨B,off,none⟩))from⟨B,off,f,rfl,a2⟩) trivial h
   rename_i fn as bs
   cases fn<;>try(exact h.elim)
   rename_i f
   have b7:=O
   obtain⟨hd,c8⟩:=O;generalize ch:a.eval x=y at hd b7;cases hd
   exact fin (by simp[execOp,ch]) b7 hu h
 case binOp op t x y yt=>
  split at D<;>try(cases D;done)
  rename_i x' y' Z hy;split at D
  ·rename_i cp
   cases D;simp only[bn]at h;obtain⟨av,V,h⟩:=ah h;obtain⟨bv,a8,h⟩:=ah h;obtain⟨v,M,hK⟩:=ah h
   obtain⟨u,w',a6,hu,hd⟩:=Wu (P:=P) (X:=x) (Y:=y) cp M (R.aG Z V) (R.aG hy a8)
   rcases a6 with rfl|rfl
   ·exact ab (by simp only[execOp];rw[f8,hu];rfl) hd hK
   ·have O:(execOp a.eval ⟨dst,.binOp op t x y yt,L,pos,after,guard⟩).run P w=.ok (.value u) w.drew:=by
     simp only[execOp];rw[f8,hu];rfl
    unfold Oper.wp;rw[O]
    exact hn (.dat v none) _ _ _ _ _ _ hK ⟨ZY.dv (Or.inr rfl) hd,λt ht=>by cases ht⟩ trivial (R.draw.sub ae)
  ·split at D
   ·rename_i ci
    have key:∀neg,((op=.eql/\neg=false)\/(op=.neq/\neg=true))->c=.bb neg x' y'->Oper.wp P ⟨dst,.binOp op t x y yt,L,pos,after,guard⟩ a w next Q:=by
     intro neg bi e;subst e;simp only[bn]at h;obtain⟨av,V,h⟩:=ah h;obtain⟨bv,a8,h⟩:=ah h;obtain⟨v,M,hK⟩:=ah h
     obtain⟨u,hu,hd⟩:=aaX (P:=P) (X:=x) (Y:=y) bi ci M (R.aG Z V) (R.aG hy a8)
     exact ab (by simp only[execOp];rw[f8,hu];rfl) hd hK
    split at D<;>try(cases D;done)
    ·cases D;exact key false (.inl ⟨rfl,rfl⟩) rfl
    ·cases D;exact key true (.inr ⟨rfl,rfl⟩) rfl
   split at D
   ·rename_i ct
    have key:∀neg,((op=.eql/\neg=false)\/(op=.neq/\neg=true))->y'=.k .aU->c=.ZS neg x'->Oper.wp P ⟨dst,.binOp op t x y yt,L,pos,after,guard⟩ a w next Q:=by
     intro neg bi ey e;subst e ey;simp only[bn]at h;obtain⟨av,V,h⟩:=ah h;obtain⟨b,hb,hK⟩:=ah h
     have O:=WC (P:=P) (X:=x) (Y:=y) bi ct hb (R.aG Z V) (R.aG (v:=.aU) hy rfl)
     exact ab (by simp only[execOp];rw[f8,O];rfl) (.bool _) hK
    split at D<;>try(cases D;done)
    ·cases D;exact key false (.inl ⟨rfl,rfl⟩) rfl rfl
    ·cases D;exact key true (.inr ⟨rfl,rfl⟩) rfl rfl
   ·have key:∀neg,((op=.eql/\neg=false)\/(op=.neq/\neg=true))->cEq P t neg x' y'=some c->Oper.wp P ⟨dst,.binOp op t x y yt,L,pos,after,guard⟩ a w next Q:=by
     intro neg bi he;unfold cEq at he
     split at he<;>try(cases he;done)
     rename_i ks hk
     split at he<;>try(cases he;done)
     rename_i hg;cases he;simp only[bn]at h;obtain⟨av,V,h⟩:=ah h
     cases av<;>try(exact h.elim)
     obtain⟨bv,a8,h⟩:=ah h
     cases bv<;>try(exact h.elim)
     obtain⟨e,he,hK⟩:=ah h
     have O:=WB (P:=P) (X:=x) (Y:=y) bi hk hg (R.aG Z V) (R.aG hy a8) he
     exact ab (by simp only[execOp];rw[f8,O];rfl) (.bool _) hK
    split at D<;>try(cases D;done)
    ·exact key false (.inl ⟨rfl,rfl⟩) D
    ·exact key true (.inr ⟨rfl,rfl⟩) D
 case unOp op t x=>
  simp only[eg]at D;obtain⟨x',Z,rfl⟩:=D;simp only[bn]at h;obtain⟨av,V,h⟩:=ah h;obtain⟨v,M,hK⟩:=ah h
  obtain⟨u,hu,hd⟩:=aaY (P:=P) M (R.aG Z V)
  exact ab (by simp only[execOp,f8,hu,fp,km]) hd hK
 case convert sr ds x=>
  simp only[io]at D;obtain⟨x',Z,D⟩:=D
  have c5:=D
  have key:∀{av v:AV},Eng.aG s x'=some av->((∃k,c=.qi k x'/\Dp k av=some v)\/(∃k,c=.Gi k x'/\Dq k av=some v)\/(∃k,c=.JN k x'/\yI k av=some v))->K (.dat v none) s->Oper.wp P ⟨dst,.convert sr ds x,L,pos,after,guard⟩ a w next Q:=by
   intro av v V cu hK
   obtain⟨u,hu,hd⟩:=Sg (P:=P) (X:=x) c5 (R.aG Z V) cu
   exact ab (by simp only[execOp,f8,hu,fp,km]) hd hK
  unfold JV at D
  split at D<;>try(cases D;done)
  all_goals
   cases D;simp only[bn]at h;obtain⟨av,V,h⟩:=ah h;obtain⟨v,M,hK⟩:=ah h
   first
    |exact key V (.inl ⟨_,rfl,M⟩) hK
    |exact key V (.inr (.inl ⟨_,rfl,M⟩)) hK
    |exact key V (.inr (.inr ⟨_,rfl,M⟩)) hK
 case makeFunc fn first caps=>
  cases fn<;>simp only[]at D<;>try(cases D;done)
  rename_i f
  split at D<;>try(cases D;done)
  rename_i as bs h1 h2
  split at D<;>try(cases D;done)
  cases D;simp only[bn]at h;obtain⟨xs,ad,h⟩:=ah h;obtain⟨⟨a5,ids⟩,am,ar,h⟩:=ah h;obtain⟨css,ac,hK⟩:=ah h;simp only[ed]at ar
  have d1:=R.dO (by simpa[gu]using h1) ad
  obtain⟨d2,cy⟩:=R.dP (by simpa[gu]using h2) am
  obtain⟨π',hp,R',bj⟩:=Rel.vW R (eG ar.1) ar.2 ac
  have cx:=(gA ac).1
  have d3:=vX hp d2 (cy rfl) (by simpa using cx) (λk cs B h1 h2=>by
   rw[kx,eg]at h2;obtain⟨b,hb,rfl⟩:=h2
   exact bj k b cs hb h1)
  have cb:=d1.mono hp (λ_ _ _=>rfl)
  have O:(execOp a.eval ⟨dst,.makeFunc (.func f) first caps,L,pos,after,guard⟩).run P w=.ok (.value (.func (.func f) (first.map a.eval) (caps.map a.eval))) w:=by simp[execOp,Instr.makeFunc]
  unfold Oper.wp;rw[O]
  refine hn (.dat (.fn (.func f) xs (jR a5 css)) none) _ _ _ _ _ _ hK ⟨?_,λt ht=>by cases ht⟩ trivial (R'.sub ae)
  exact .fn _ _ _ _ _ (by simpa using cb.1) (by simpa using d3.1) (λi x v Z M=>cb.2 i x v Z (by simpa using M)) (λi x v Z M=>d3.2 i x v Z (by simpa using M))
 case slice t x lo hi mx=>
  cases mx<;>simp only[]at D<;>try(cases D;done)
  split at D<;>try(cases D;done)
  ·rename_i e x' da ce ht Z hl hh
   simp only[eg]at D;obtain⟨z,hz,rfl⟩:=D;obtain⟨v,y,O,M,hu,hK⟩:=R.slice ht hz Z hl hh h
   exact fin (by simp only[execOp,f8,Option.map_none,O,fp,km]) M hu hK
  ·rename_i n e x' ht Z hl hh
   simp only[eg]at D;obtain⟨z,hz,rfl⟩:=D
   have e1:lo=none:=by cases lo with|none=>rfl|some y=>simp[cOpt]at hl
   have e2:hi=none:=by cases hi with|none=>rfl|some y=>simp[cOpt]at hh
   subst e1 e2;simp only[bn]at h;obtain⟨v,M,h⟩:=ah h
   have ag:=(R.bJ Z M).1
   cases v<;>try(exact h.elim)
   ·rename_i b off
    obtain⟨h4,h⟩:=h;obtain⟨bx,hb,bl,hK⟩:=ah h
    have he:a.eval x=.pointer (some ⟨β b,off,none⟩):=ag
    have ac:aS s.boxes [b]=some [bx.cells]:=by simp[aS,hb]
    obtain⟨π',hp,R',bj⟩:=Rel.vW R (ids:=[b]) aaP (by simp[iu,h4]) ac
    have O:(execOp a.eval ⟨dst,.slice t x none none none,L,pos,after,guard⟩).run P w=.ok (.value (.slice (some ⟨β b,off,none⟩) n n)) w:=by
     simp only[execOp,Option.map_none,he,f8,Od ht hz,fp,km]
    unfold Oper.wp;rw[O]
    refine hn _ _ _ _ _ _ _ hK ⟨?_,λt ht=>by cases ht⟩ trivial (R'.sub ae)
    have:=Sj (bj 0 b bx.cells rfl rfl) bl
    simpa using this
   ·rename_i cs
    obtain⟨bl,hK⟩:=h;obtain⟨B,o,f,he,h1,h2,h3,h5⟩:=ag
    have hd:DV w π (.ref cs) (.pointer (some ⟨B,o,none⟩)):=.ref cs B o f h1 h2 h3 h5
    have:=Sj (off:=0) hd (by simpa using bl)
    refine ab ?_ (by simpa using this) hK
    have he:a.eval x=.pointer (some ⟨B,o,none⟩):=he
    simp only[execOp,Option.map_none,he,f8,Od ht hz,fp,km]
  ·rename_i n e x' ce ht Z hl hh
   simp only[eg]at D;obtain⟨z,hz,rfl⟩:=D
   have e1:lo=none:=by cases lo with|none=>rfl|some y=>simp[cOpt]at hl
   subst e1
   cases hi with
   |none=>simp[cOpt]at hh
   |some hi=>
    simp only[cOpt,eg,gc,exists_eq_right]at hh;simp only[bn]at h;obtain⟨v,M,h⟩:=ah h
    have ag:=(R.bJ Z M).1
    have c1:=(R.bJ Z M).2
    cases v<;>try(exact h.elim)
    rename_i b off;obtain⟨b1,c7,h⟩:=ah h;obtain⟨j,hj,⟨h0,h1⟩,hK⟩:=ah h;obtain⟨k,hk⟩:=R.idx hh c7 hj
    have he:a.eval x=.pointer (some ⟨β b,off,none⟩):=ag
    have O:(execOp a.eval ⟨dst,.slice t x none (some hi) none,L,pos,after,guard⟩).run P w=.ok (.value (.slice (some ⟨β b,off,none⟩) j.toNat n)) w:=by
     simp only[execOp,Option.map_none,mt,he,hk,f8,WE ht hz h0 h1,fp,km]
    exact fin (v:=.vs b off j.toNat z) O ⟨n,aaN,rfl⟩ c1 hK
 case fieldAddr t x f=>
  split at D<;>try(cases D;done)
  rename_i fd x' hf Z
  split at D<;>try(cases D;done)
  rename_i hz;cases D;obtain⟨v,y,O,M,hu,hK⟩:=R.fieldAddr Z hf hz h
  exact fin (by simp only[execOp,f8,O,fp,km]) M hu hK
 case field t x f=>
  split at D<;>try(cases D;done)
  rename_i fd x' hf Z;simp only[eg]at D;obtain⟨r,O,rfl⟩:=D;simp only[bn]at h;obtain⟨av,V,h⟩:=ah h
  have hd:=R.aG Z V
  cases av<;>try(exact h.elim)
  rename_i cs;obtain⟨v,M,hK⟩:=ah h;unfold yP at hf
  split at hf<;>try(cases hf;done)
  rename_i fs hu;generalize he:a.eval x=u at hd
  cases hd with
  |agg _ us h1 h2 h3=>
   obtain⟨u,b6,ak⟩:=J1 (P:=P) O h1 h2 h3 M
   exact ab (by simp[execOp,he,Instr.field,asAgg,im hu,hf,b6]) ak hK
 case indexAddr t x i=>
  split at D<;>try(cases D;done)
  ·rename_i n e x' i' ht Z hi
   simp only[eg]at D;obtain⟨z,hz,rfl⟩:=D;obtain⟨v,y,O,M,hu,hK⟩:=R.Si Z hi ht hz h
   exact fin (by simp only[execOp,f8,O,fp,km]) M hu hK
  ·rename_i e x' i' ht Z hi
   simp only[eg]at D;obtain⟨z,hz,rfl⟩:=D;obtain⟨v,y,O,M,hu,hK⟩:=R.Wz Z hi ht hz h
   exact fin (by simp only[execOp,f8,O,fp,km]) M hu hK
 case index t x i=>
  split at D<;>try(cases D;done)
  rotate_left
  ·rename_i x' i' ht Z hi
   cases D;simp only[bn]at h;obtain⟨av,V,h⟩:=ah h
   have hd:=R.aG Z V
   cases av<;>try(exact h.elim)
   rename_i bs;obtain⟨b,hb,h⟩:=ah h;obtain⟨j,hj,h⟩:=ah h;obtain⟨v,M,hK⟩:=ah h;obtain⟨k,hk⟩:=R.idx hi hb hj;generalize he:a.eval x=u at hd;cases hd;unfold JQ at M
   split at M<;>try(cases M;done)
   rename_i b2;cases M
   exact ab (by simp[execOp,he,Instr.index,hk,asIntOf,im ht,b2]) (.int _ _) hK
  rename_i n e x' i' ht Z hi
  split at D<;>try(cases D;done)
  rename_i z r hz O;cases D;simp only[bn]at h;obtain⟨av,V,h⟩:=ah h
  have hd:=R.aG Z V
  cases av<;>try(exact h.elim)
  rename_i cs;obtain⟨b,hb,h⟩:=ah h;obtain⟨j,hj,h⟩:=ah h;obtain⟨b2,h⟩:=h;obtain⟨v,M,hK⟩:=ah h;obtain⟨k,hk⟩:=R.idx hi hb hj
  have a4:=eu (w:=w) hz
  generalize he:a.eval x=u at hd
  cases hd with
  |agg _ us h1 h2 h3=>
   obtain⟨u,b6,ak⟩:=J1 (P:=P) O h1 h2 h3 M
   exact ab (by simp[execOp,he,Instr.index,hk,asIntOf,im ht,b2,a4,b6]) ak hK
 case extract x i=>
  simp only[eg]at D;obtain⟨x',Z,rfl⟩:=D;simp only[bn]at h;obtain⟨av,V,h⟩:=ah h;obtain⟨v,M,hK⟩:=ah h
  obtain⟨u,hu,hd⟩:=Ww (P:=P) M (R.aG Z V)
  exact ab (by simp only[execOp,f8,hu,fp,km]) hd hK
 case call cl=>
  obtain⟨callee,args,argTypes⟩:=cl
  -- a call
  have enter:∀{f:Nat} {as:List AV} {vs:List Value} {r:AV} {fr:Option Nat},Dy P f as r fr->ji w π as vs->
    (execOp a.eval ⟨dst,.call ⟨callee,args,argTypes⟩,L,pos,after,guard⟩).run P w=.ok (.enter f vs.toArray) w->
    K (.dat r (fr.map λ_=>id)) {s with live:=match(generalizing:=false) fr with|some e=>(id,e)::s.live|none=>s.live}->
    Oper.wp P ⟨dst,.call ⟨callee,args,argTypes⟩,L,pos,after,guard⟩ a w next Q:=by
   intro f as vs r fr hp hd O hK;unfold Oper.wp;rw[O,xf];refine(hp.2 w π vs R.eF hd).mono ?_
   rintro e w' ⟨v,π',rfl,an,bd,a9,a3,ba,be⟩
   obtain⟨τ',ag,R'⟩:=R.called au an bd a9 a3 ba be
   exact hn _ _ _ _ _ _ _ hK ag (by cases fr with|none=>trivial|some e=>exact .inr rfl) R'
  simp only[wV]at D;split at D
  ·rename_i f
   by_cases al:bL P f=true
   rotate_left
   ·rw[ge al]at D
    split at D<;>try(cases D;done)
    rename_i e x c2 hargs;simp only[eg]at D;obtain⟨x',Z,rfl⟩:=D;simp only[bn]at h;obtain⟨av,V,h⟩:=ah h;obtain⟨v,M,hK⟩:=ah h
    obtain⟨u,hu,ak⟩:=aa2 c2 M (R.aG Z V)
    have eX:args=#[x]:=lr.1 (by simpa using hargs)
    subst eX
    exact ab (by simp[execOp,resolve,Act.eval,Deferred.ofValue,invoke];simpa[Act.eval]using hu) ak hK
   rw[ib al]at D;simp only[eg]at D;obtain⟨xs,ad,b4⟩:=D;split at b4
   ·subst b4
    simp only[bn]at h;obtain⟨⟨a5,ids⟩,am,b5,h⟩:=ah h;obtain⟨css,ac,r,fr,bm,hp,hK⟩:=ah h
    have hp:uz P f css a5 r fr bm:=hp
    obtain⟨b8,b0,_,hp⟩:=hp
    have ao:ids.Nodup:=eG b5
    have bo:=(R.dP (by simpa[gu]using ad) am).1
    have e1:(args.toList.map a.eval).toArray=args.map a.eval:=lr.1 aaP
    have O:(execOp a.eval ⟨dst,.call ⟨.value (.func f),args,argTypes⟩,L,pos,after,guard⟩).run P w=.ok (.enter f (args.toList.map a.eval).toArray) w:=by
     rw[e1];simp[execOp,resolve,Act.eval,Deferred.ofValue,invoke,fJ al]
    unfold Oper.wp;rw[O,xf];refine(hp w π (ids.map β) (args.toList.map a.eval) R.eF (R.nodup ao ac) (R.oS ac) bo).mono ?_
    rintro e w' ⟨v,π',rfl,an,bd,a9,a3,b3,ba,be⟩
    obtain⟨τ',ag,R'⟩:=R.vV au ao ac b0 an bd a9 a3 b3 ba be
    exact hn _ _ _ _ _ _ _ hK ag (by cases fr with|none=>trivial|some e=>exact .inr rfl) R'
   subst b4;simp only[bn]at h;obtain⟨as,has,r,fr,hp,hK⟩:=ah h
   have hd:=R.dO (by simpa[gu]using ad) has
   have e1:(args.toList.map a.eval).toArray=args.map a.eval:=lr.1 aaP
   exact enter hp hd (by rw[e1];simp[execOp,resolve,Act.eval,Deferred.ofValue,invoke,fJ al]) hK
  ·rename_i g hg
   split at D<;>try(cases D;done)
   rename_i g' xs ca ad;simp only[gc]at D;split at D
   ·subst D
    simp only[bn]at h;obtain⟨av,V,h⟩:=ah h
    have a7:=R.aG ca V
    cases av<;>try(exact h.elim)
    rename_i fn first caps
    cases fn<;>try(exact h.elim)
    rename_i f
    cases first<;>try(exact h.elim)
    cases caps<;>try(exact h.elim)
    obtain⟨⟨a5,ids⟩,am,b5,h⟩:=ah h;obtain⟨css,ac,r,fr,bm,hp,hK⟩:=ah h
    have hp:uz P f css a5 r fr bm:=hp
    obtain⟨b8,b0,_,hp⟩:=hp
    have ao:ids.Nodup:=eG b5
    have bo:=(R.dP (by simpa[gu]using ad) am).1
    have e1:(args.toList.map a.eval).toArray=args.map a.eval:=lr.1 aaP
    have O:(execOp a.eval ⟨dst,.call ⟨.value g,args,argTypes⟩,L,pos,after,guard⟩).run P w=.ok (.enter f (args.toList.map a.eval).toArray) w:=by
     generalize he:a.eval g=u at a7
     cases a7 with
     |fn _ _ vs _ us h1 h2 h3 h4=>
      have e2:vs=#[]:=Kd.1 (by simpa using h1.symm)
      have e3:us=#[]:=Kd.1 (by simpa using h2.symm)
      subst e2 e3;rw[e1];simp[execOp,resolve,he,Deferred.ofValue,invoke,fJ b8]
    unfold Oper.wp;rw[O,xf];refine(hp w π (ids.map β) (args.toList.map a.eval) R.eF (R.nodup ao ac) (R.oS ac) bo).mono ?_
    rintro e w' ⟨v,π',rfl,an,bd,a9,a3,b3,ba,be⟩
    obtain⟨τ',ag,R'⟩:=R.vV au ao ac b0 an bd a9 a3 b3 ba be
    exact hn _ _ _ _ _ _ _ hK ag (by cases fr with|none=>trivial|some e=>exact .inr rfl) R'
   subst D;simp only[bn]at h;obtain⟨av,V,h⟩:=ah h
   have a7:=R.aG ca V
   cases av<;>try(exact h.elim)
   rename_i fn first caps
   cases fn<;>try(exact h.elim)
   rename_i f;obtain⟨as,has,r,fr,hp,hK⟩:=ah h
   have hd:=R.dO (by simpa[gu]using ad) has
   generalize he:a.eval g=u at a7
   cases a7 with
   |fn _ _ vs _ us h1 h2 h3 h4=>
    have d1:ji w π first vs.toList:=⟨by simpa using h1,λi x v Z M=>h3 i x v Z (by simpa using M)⟩
    have d2:ji w π caps us.toList:=⟨by simpa using h2,λi x v Z M=>h4 i x v Z (by simpa using M)⟩
    have e1:(vs.toList++(args.toList.map a.eval)++us.toList).toArray=vs++args.map a.eval++us:=by
     apply lr.1;simp
    refine enter hp ((d1.append hd).append d2) ?_ hK;rw[e1]
    simp[execOp,resolve,he,Deferred.ofValue,invoke,fJ (show Dy P _ _ _ _ from hp).1]
  ·--len
   split at D<;>try(cases D;done)
   rename_i t x hT hX
   split at D<;>try(cases D;done)
   ·rename_i e ht
    simp only[eg]at D;obtain⟨x',Z,rfl⟩:=D;simp only[bn]at h;obtain⟨sv,am,h⟩:=ah h
    cases sv with
    |ptr _ _=>exact h.elim
    |rp _=>exact h.elim
    |undef=>exact h.elim
    |mL _ _ _=>exact h.elim
    |raw _ _=>exact h.elim
    |pt _ _=>exact h.elim
    |vs b off n z=>
     obtain⟨⟨cap,_,M⟩,_⟩:=R.bJ Z am
     exact ab (v:=.int .i64 n) (y:=.int .i64 n) (by simp[execOp,resolve,invoke,builtin,Builtin.len_,hT,hX,M,im ht,goInt]) (.int _ _) h
    |dat av q=>
     obtain⟨v,M,hK⟩:=ah h
     have V:Eng.aG s x'=some av:=by simp[Eng.aG,am]
     obtain⟨u,hu,hd⟩:=Wv (P:=P) ht hT (Xs:=args.map a.eval) (by simp[hX]) (R.aG Z V) M L
     exact ab (by simp[execOp,resolve,invoke,builtin,hu]) hd hK
   ·rename_i n e ht
    cases D;simp only[bn]at h
    exact ab (v:=.int .i64 n) (y:=.int .i64 n) (by simp[execOp,resolve,invoke,builtin,Builtin.len_,hT,hX,im ht,goInt]) (.int _ _) h
  ·--append
   split at D<;>try(cases D;done)
   rename_i t t' x y hT hX
   split at D<;>try(cases D;done)
   rename_i ck;subst ck
   split at D<;>try(cases D;done)
   rename_i e x' y' ht Z hy
   split at D<;>try(cases D;done)
   rename_i i hi
   split at D<;>try(cases D;done)
   rename_i zv hz
   split at D<;>try(cases D;done)
   rename_i a4;cases D;obtain⟨v,u,s',w',τ',π',O,M,hu,hK,R'⟩:=R.append ht hi hz a4 Z hy au L h
   have eT:argTypes=#[t,t]:=lr.1 (by simpa using hT)
   have eX:args=#[x,y]:=lr.1 (by simpa using hX)
   subst eT eX;unfold Oper.wp
   have:(execOp a.eval ⟨dst,.call ⟨.builtin .append,#[x,y],#[t,t]⟩,L,pos,after,guard⟩).run P w=.ok (.value u) w':=by
    simp[execOp,resolve,invoke,builtin,O]
   rw[this];exact hn v s' u w' β τ' π' hK M hu R'
  ·simp only[eg]at D
   obtain⟨xs,ad,rfl⟩:=D;simp only[bn]at h;obtain⟨as,has,h⟩:=ah h
   have hd:=R.dO (by simpa[gu]using ad) has
   cases as with
   |nil=>exact h.elim
   |cons b as=>
    obtain⟨v,M,hK⟩:=ah h;obtain⟨args⟩:=args
    cases args with
    |nil=>have:=hd.1;simp at this
    |cons y ys=>
     obtain⟨u,w',a6,hu,ak⟩:=MG (P:=P) M (hd.2 0 b (a.eval y) rfl rfl) (us:=ys.map a.eval) ⟨by have:=hd.1;simpa using this,λi a v h1 h2=>hd.2 (i+1) a v (by simpa using h1) (by simpa using h2)⟩
     simp only[kv]at hu
     have O:(execOp a.eval ⟨dst,.call ⟨.builtin .max,⟨y::ys⟩,argTypes⟩,L,pos,after,guard⟩).run P w=.ok (.value u) w':=by simp[execOp,resolve,invoke,builtin,Builtin.max_,hu]
     unfold Oper.wp;rw[O]
     exact hn (.dat v none) _ _ _ _ _ _ hK ⟨ak,λt ht=>by cases ht⟩ trivial (R.l6 a6|>.sub ae)
  ·simp only[eg]at D
   obtain⟨xs,ad,rfl⟩:=D;simp only[bn]at h;obtain⟨as,has,h⟩:=ah h
   have hd:=R.dO (by simpa[gu]using ad) has
   cases as with
   |nil=>exact h.elim
   |cons b as=>
    obtain⟨v,M,hK⟩:=ah h;obtain⟨args⟩:=args
    cases args with
    |nil=>have:=hd.1;simp at this
    |cons y ys=>
     obtain⟨u,w',a6,hu,ak⟩:=MG (P:=P) M (hd.2 0 b (a.eval y) rfl rfl) (us:=ys.map a.eval) ⟨by have:=hd.1;simpa using this,λi a v h1 h2=>hd.2 (i+1) a v (by simpa using h1) (by simpa using h2)⟩
     simp only[eQ,il]at hu
     have O:(execOp a.eval ⟨dst,.call ⟨.builtin .min,⟨y::ys⟩,argTypes⟩,L,pos,after,guard⟩).run P w=.ok (.value u) w':=by simp[execOp,resolve,invoke,builtin,Builtin.min_,hu]
     unfold Oper.wp;rw[O]
     exact hn (.dat v none) _ _ _ _ _ _ hK ⟨ak,λt ht=>by cases ht⟩ trivial (R.l6 a6|>.sub ae)
  ·cases D
theorem BG(z:Nat):∀(n:Nat) (cs:List AV),(cU z n cs).flatten=cs.take (n*z)
 |0,cs=>by simp[cU]
 |n+1,cs=>by
  rw[cU,aaf,BG z n,Nat.succ_mul,Nat.add_comm,List.take_add]
theorem BH(z:Nat):∀(n:Nat) (cs:List AV),n*z<=cs.length->∀r∈cU z n cs,r.length=z
 |0,cs,_,r,h=>by simp[cU]at h
 |n+1,cs,D,r,h=>by
  rw[Nat.succ_mul]at D;rw[cU]at h
  rcases nb.1 h with rfl|h
  ·simp;omega
  ·exact BH z n (cs.drop z) (by simp;omega) r h
theorem Rel.WJ(R:Rel P nt n0 w0 π0 U s a w β τ π) {e:TypeId} {i:TypeInfo} {zv:Value} {x:aM} {y:Nat} (Z:P.underlying t=some (.slice e)) (hi:P.info? e=some i) (hz:i.zero=some zv) (ab:(0<i.size&&zv.cells.size==i.size&&0<i.bytes)=true) (hx:cn X=some x) (a9:¬U id) (ty:TypeId) (h:bn (Pure P) id (.Dm e i.size i.bytes (.t y) x) K s):
  ∃v u s' w' τ' π',(Builtin.append_ #[t,t] ty #[.slice none 0 0,a.eval (.tmp y)]).run P w=.ok u w'/\RV β τ' w' π' v u/\v.gK (eN U id)/\K v s'/\Rel P nt n0 w0 π0 (eN U id) s' a w' β τ' π':=by
 simp only[ed,ii,md]at ab;obtain⟨⟨a2,a7⟩,a4⟩:=ab
 have am:∀n,U n->eN U id n:=λn h=>.inl h
 simp only[bn]at h;obtain⟨p,hp,h⟩:=ah h
 have ar:=(R.bJ (X:=.tmp y) (x:=.t y) rfl hp).1
 cases p<;>try(exact h.elim)
 rename_i b off n z';obtain⟨q,hq,h2⟩:=ah h;clear h
 cases q<;>try(exact h2.elim)
 rename_i b' o';obtain⟨⟨a3,ba⟩,h3⟩:=h2;obtain⟨bx,hb,⟨ag,hbytes⟩,hK⟩:=ah h3;clear h3;subst a3 ba;obtain⟨cap,bd,hv⟩:=ar;obtain⟨_,_,ad,_⟩:=R.boxes b' bx hb;obtain⟨f,hf,a8,a5,_⟩:=ad.cells;rw[hv];simp only[List.length_drop]at ag
 by_cases V:n=0
 ·subst V
  rw[ib rfl]at hK
  refine⟨.dat .aU none,.slice none 0 0,s,w,τ,π,?_,⟨.aU,λt Z=>by cases Z⟩,trivial,hK,R.sub am⟩
  simp[Builtin.append_,im Z,sizeOf,typeInfo,hi,Builtin.lenOf,Builtin.firstCells,loadCells,loadCellsFrom]
 ·rw[ge V]at hK
  have ae:0<n:=Nat.pos_of_ne_zero V
  have aa:n<=maxLen:=by
   have:=IH n a4
   simp only[maxLen];omega
  have L:=xR i.size n (bx.cells.drop off)
  have an:=BH i.size n (bx.cells.drop off) (by simp;omega)
  have O:=BG i.size n (bx.cells.drop off)
  have ao:∀(j:Nat) (c:AV),(cU i.size n (bx.cells.drop off)).flatten[j]? =some c->j<n*i.size/\bx.cells[off+j]? =some c:=by
   intro j c D;rw[O,ws]at D;split at D
   ·rename_i M;rw[lw]at D;exact⟨M,D⟩
   ·cases D
  have hnews:((List.range (n*i.size)).map λj=>f (off+j)).length=n*i.size:=aaP
  have hcell:∀j v,((List.range (n*i.size)).map λj=>f (off+j))[j]? =some v->w.cell? ((⟨β b',off,none⟩:Addr).add j)=some v:=by
   intro j v D;rw[kx,eg]at D;obtain⟨k,hk,rfl⟩:=D
   have au:j<n*i.size:=by
    rcases lj j (n*i.size)with h|h
    ·exact h
    ·rw[kb (by simpa using h)]at hk;cases hk
   rw[mr au]at hk;cases hk;rw[iK]
   exact hf _ aaN
  have a6:ji w π (cU i.size n (bx.cells.drop off)).flatten ((List.range (n*i.size)).map λj=>f (off+j)):=by
   refine⟨by rw[O];simp;omega,λj c v hc D=>?_⟩
   obtain⟨M,hc⟩:=ao j c hc;rw[kx,mr M]at D;cases D;exact a5 _ _ hc
  have ak:∀r∈cU i.size n (bx.cells.drop off),∀x∈r,x.scalar=true:=by
   intro r hr x hx
   have hm:x∈(cU i.size n (bx.cells.drop off)).flatten:=NE.2 ⟨r,hr,hx⟩
   rw[O]at hm
   obtain⟨j,D⟩:=my.1 (pC (ul hm))
   exact a8 j x D
  have al:=run_append_nil (P:=P) w t ty e i zv Z hi hz ⟨β b',off,none⟩ n cap _ hnews hcell ae (by simp only[maxLen]at aa;omega) aaN
  obtain⟨π',R',ac⟩:=R.grown (id:=id) (old:=0) hi hz rfl a7 a2 a9 (zs:=cU i.size n (bx.cells.drop off)) (vs:=(List.range (n*i.size)).map λj=>f (off+j)) (by rw[L,hnews]) a6 an ak (by rw[L];exact aa) rfl
  rw[L]at R' ac
  exact⟨.dat (.sl _) (some id),_,_,_,_,_,al,⟨ac,λt Z=>by cases Z;rw[bY]⟩,.inr rfl,hK,R'⟩
theorem MJ(R:Rel P nt n0 w0 π0 U s a w β τ π) {o:Oper} (D:PU P ops o.op=some c) (h:bn (Pure P) id c K s) (hn:∀v O x w' β' τ' π',K v O->RV β' τ' w' π' v x->v.gK (eN U id)->Rel P nt n0 w0 π0 (eN U id) O a w' β' τ' π'->next (a.put o.dst x) w'):o.wp P a w next Q:=by
 obtain⟨dst,op,L,pos,after,guard⟩:=o;simp only at D;unfold PU at D
 split at D<;>try(cases D;done)
 rename_i t x
 split at D<;>try(cases D;done)
 split at D<;>try(cases D;done)
 rename_i r x' M hx;cases D;obtain⟨v,y,M,V,Z,hK⟩:=R.load hx M h;unfold Oper.wp
 have:(execOp a.eval ⟨dst,.load t x,L,pos,after,guard⟩).run P w=.ok (.value y) w:=by simp only[execOp,f8,M,fp,km]
 rw[this]
 exact hn v s y w β τ π hK V (SV.nW (λn h=>.inl h) Z) (R.sub λn h=>.inl h)
theorem MK(R:Rel P nt n0 w0 π0 U s a w β τ π) {o:Oper} (ab:¬U id) (D:xL P ops o.op=some c) (h:bn (Pure P) id c K s) (hn:∀v O x w' β' τ' π',K v O->RV β' τ' w' π' v x->v.gK (eN U id)->Rel P nt n0 w0 π0 (eN U id) O a w' β' τ' π'->next (a.put o.dst x) w'):o.wp P a w next Q:=by
 obtain⟨dst,op,M,pos,after,guard⟩:=o;simp only at D;unfold xL at D
 split at D<;>try(cases D;done)
 rename_i cl
 split at D<;>try(cases D;done)
 rename_i t t' y L hT hX
 split at D<;>try(cases D;done)
 rename_i aa;subst aa
 split at D<;>try(cases D;done)
 rename_i e x' ht hx
 split at D<;>try(cases D;done)
 rename_i i hi
 split at D<;>try(cases D;done)
 rename_i zv hz
 split at D<;>try(cases D;done)
 rename_i Z;cases D;obtain⟨X,ac,V⟩:=io.1 hx;obtain⟨v,u,O,w',τ',π',hr,hv,hu,hK,R'⟩:=R.WJ ht hi hz Z V ab M h;obtain⟨callee,args,argTypes⟩:=cl;simp only at L hT hX
 have eT:argTypes=#[t,t]:=lr.1 (by simpa using hT)
 have eX:args=#[.const (.slice none 0 0),.tmp y]:=lr.1 (by simpa using hX)
 subst eT eX L;unfold Oper.wp
 have:(execOp a.eval ⟨dst,.call ⟨.builtin .append,#[.const (.slice none 0 0),.tmp y],#[t,t]⟩,M,pos,after,guard⟩).run P w=.ok (.value u) w':=by
  have e0:a.eval (.const (.slice none 0 0))=.slice none 0 0:=rfl
  simp[execOp,resolve,invoke,builtin,hr,e0]
 rw[this];exact hn v O u w' β τ' π' hK hv hu R'
end
end
end Go.Eng
