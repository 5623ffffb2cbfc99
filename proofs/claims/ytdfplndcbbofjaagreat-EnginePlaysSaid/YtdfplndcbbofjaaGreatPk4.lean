/- Part 4 of the engine and its library. -/
import Derived.Test.YtdfplndcbbofjaaGreatPk3
set_option linter.all false
set_option maxRecDepth 10000
set_option maxHeartbeats 4000000
namespace Go.Eng
open Go
open Go.RowKit (Below)
section
variable{P:Program} {nt:Nat} {n0:kL} {w0:World} {π0:Nat->Nat->Prop} {U:Nat->Prop} {s:S} {a:Act} {w:World} {β:Nat->Nat} {τ:Nat->Value} {π:Nat->Nat->Prop}
section
variable {K:SV->S->Prop} {Q:Exit->Act->World->Prop} {X Y:Operand} {b:Nat} {c:bU} {cs:List AV} {css:List (List AV)} {e:Nat} {fr:Option Nat} {id:Nat} {ids:List Nat} {n:Nat} {neg:Bool} {next:Act->World->Prop} {o off:Nat} {op:BinOp} {ops:List Oper} {q:Nat} {r:AV} {t:TypeId} {v:Value} {w':World} {x y:Value} {z:Nat} {π':Nat->Nat->Prop}
theorem Rel.Ba(R:Rel P nt n0 w0 π0 U s a w β τ π) {x:bC} {i:Int} (B:cq X=some x) (A:Eng.Ba (Eng.aM s x)=some i):∃k,a.eval X=.int k i:=by
 cases h:Eng.aM s x with
 |none=>rw[h]at A;cases A
 |some b=>rw[h]at A;exact R.idx B h A
theorem Rel.slice(R:Rel P nt n0 w0 π0 U s a w β τ π) {t e:TypeId} {z:Nat} {X:Operand} {x:bC} {lo Z:Option Operand} {a3 ar:Option bC} (V:P.underlying t=some (.slice e)) (hz:gq P e=some z) (hx:cq X=some x) (hl:cOpt lo=some a3) (hh:cOpt Z=some ar)
  {id:Nat} {K:SV->S->Prop} (h:bS (Pure P) id (.Wc z x a3 ar) K s):
  ∃v y,(Instr.sliceAt t (a.eval X) (lo.map a.eval) (Z.map a.eval) none).run P w=.ok y w/\RV β τ w π v y/\v.gS U/\K v s:=by
 simp only[bS]at h;obtain⟨b,hb,k1⟩:=ah h;obtain⟨xs,aa,k2⟩:=ah k1;obtain⟨l,am,k3⟩:=ah k2;obtain⟨m,ae,⟨ao,bm,au⟩,ab,hK⟩:=ah k3
 have hd:=R.aM hx hb
 have ak:=eH (P:=P) (w:=w) hz
 -- the bounds
 have a7:(lo=none/\l=0)\/∃L k,lo=some L/\a.eval L=.int k l:=by
  cases lo with
  |none=>simp[cOpt]at hl;subst hl;simp[DB]at am;exact .inl ⟨rfl,am.symm⟩
  |some L=>
   simp only[cOpt,eg]at hl;obtain⟨x',ac,rfl⟩:=hl;obtain⟨k,hk⟩:=R.Ba ac am;exact .inr ⟨L,k,rfl,hk⟩
 have an:(Z=none/\m=xs.length)\/∃H k,Z=some H/\a.eval H=.int k m:=by
  cases Z with
  |none=>simp[cOpt]at hh;subst hh;simp[DC]at ae;exact .inl ⟨rfl,ae.symm⟩
  |some H=>
   simp only[cOpt,eg]at hh;obtain⟨x',ac,rfl⟩:=hh;obtain⟨k,hk⟩:=R.Ba ac ae;exact .inr ⟨H,k,rfl,hk⟩
 have M:∀cap,xs.length<=cap->(Instr.sliceBounds true xs.length cap (lo.map a.eval) (Z.map a.eval) none).run P w=.ok (l.toNat,m.toNat,cap) w:=by
  intro cap bi
  have ad:(0:Int)<=m:=ST
  have a2:m<=cap:=ST
  have bd:(m.toNat:Int)=m:=sk ad
  rcases a7 with⟨rfl,rfl⟩|⟨L,k,rfl,hL⟩<;>rcases an with⟨rfl,hm⟩|⟨H,k',rfl,hH⟩
  ·subst hm;simp[Instr.sliceBounds]
  ·simp[Instr.sliceBounds,hH,M2,ad,a2]
  ·have hL':=M2 (P:=P) w k l xs.length .sliceB ao ST
   have a6:m.toNat=xs.length:=ST
   simp[Instr.sliceBounds,hL,hL',a6]
  ·have be:=M2 (P:=P) w k' m cap .sliceAcap ad a2
   have hL':=M2 (P:=P) w k l m.toNat .sliceB ao ST
   simp[Instr.sliceBounds,hL,hH,be,hL']
 have ba:(Instr.sliceAt t (a.eval X) (lo.map a.eval) (Z.map a.eval) none).run P w=(Instr.slice t (a.eval X) (lo.map a.eval) (Z.map a.eval) none).run P w:=by
  simp[Instr.sliceAt,ii V]
 rw[ba]
 cases b<;>simp only[rowsOf]at aa<;>try(cases aa;done)
 ·--nil
  cases aa
  have hv:a.eval X=.slice none 0 0:=by generalize a.eval X=v at hd;cases hd;rfl
  have h0:=M 0 TB
  simp at au
  have ag:l=0:=ST
  have al:m=0:=ST
  subst ag al
  refine⟨.dat .bV none,.slice none 0 0,?_,⟨.bV,λt V=>by cases V⟩,trivial,hK⟩
  simp only[fl]at h0;simp[hv,Instr.slice,ii V,h0,ak]
 ·cases aa
  generalize hv:a.eval X=v at hd
  cases hd with
  |NO A=>
   have h0:=M 0 TB
   simp at au
   have ag:l=0:=ST
   have al:m=0:=ST
   subst ag al
   refine⟨.dat (.sl []) none,.slice (some A) 0 0,?_,⟨.NO A,λt V=>by cases V⟩,trivial,hK⟩
   simp only[fl]at h0;simp[Instr.slice,ii V,h0,ak]
  |sl _ B off cap z' f h1 h2 h3 h4 h5 h6=>
   have h0:=M cap h1
   have bj:l.toNat<=m.toNat:=ST
   have bd:m.toNat<=xs.length:=ST
   have O:((xs.take m.toNat).drop l.toNat).length=m.toNat-l.toNat:=by simp;omega
   have E:∀(i:Nat) (r:List AV),((xs.take m.toNat).drop l.toNat)[i]? =some r->xs[l.toNat+i]? =some r:=by
    intro i r D;rw[lh,s8]at D;split at D
    ·exact D
    ·cases D
   have a9:(Instr.slice t (.slice (some ⟨B,off,none⟩) xs.length cap) (lo.map a.eval) (Z.map a.eval) none).run P w=.ok (.slice (some (if cap=l.toNat then⟨B,off,none⟩else⟨B,off+l.toNat*z,none⟩)) (m.toNat-l.toNat) (cap-l.toNat)) w:=by
    simp only[Instr.slice,fi,ii V,e9,h0,ak,iv]
    split<;>simp[iP]
   refine⟨.dat (.sl ((xs.take m.toNat).drop l.toNat)) none,_,a9,⟨?_,λt V=>by cases V⟩,trivial,hK⟩
   rw[<-O]
   by_cases a4:cap=l.toNat
   ·rw[et a4]
    have a8:(xs.take m.toNat).drop l.toNat=[]:=nl (by rw[O];omega)
    rw[a8]
    exact .sl [] B off _ z' f TB (λi r D=>by simp at D) (λi j r a D=>by simp at D) (λi j r a D=>by simp at D) (λi j r a D=>by simp at D) (λi j r a D=>by simp at D)
   ·rw[ek a4]
    have a5:∀(i:Nat) (r:List AV),((xs.take m.toNat).drop l.toNat)[i]? =some r->z'=z:=λi r D=>by
     rw[<-h2 _ _ (E i r D)];exact ab r (em (E i r D))
    refine .sl _ B (off+l.toNat*z) _ z (λi j=>f (l.toNat+i) j) (by rw[O];omega) (λi r D=>ab r (em (E i r D))) (λi j r x D hx=>h3 _ j r x (E i r D) hx) (λi j r x D hx=>?_) (λi j r x D hx=>?_) (λi j r x D hx=>h6 _ j r x (E i r D) hx)
    ·have e:=a5 i r D
     subst e
     have:=h4 _ j r x (E i r D) hx
     rwa[show off+(l.toNat+i)*z'+j=off+l.toNat*z'+i*z'+j by rw[Nat.add_mul];omega]at this
    ·have e:=a5 i r D
     subst e
     have:=h5 _ j r x (E i r D) hx
     rwa[show off+(l.toNat+i)*z'+j=off+l.toNat*z'+i*z'+j by rw[Nat.add_mul];omega]at this
theorem Tg{D:List CK} (R:(op=.eql/\neg=false)\/(op=.neq/\neg=true)) (hk:nJ P 20 t=some D) (B:(oG P t&& !P.eqGuardType P.depth t)=true) {as A:List AV} {e:Bool} (hx:DV w π (.agg as) x) (hy:DV w π (.agg A) y) (he:cU D as A=some e):(do eqGuard op t X Y x y;binOp op t x y:Sem Value).run P w=.ok (.bool (e !=neg)) w:=by
 simp only[ed,nb]at B
 cases hx with
 |agg _ xs h1 h2 h3=>
  cases hy with
  |agg _ E k1 k2 k3=>
   have V:Pe w π P t as (.agg xs):=by
    unfold Pe;rw[et B.1];exact⟨xs,rfl,⟨by simpa using h1,λi a v L M=>h3 i a v L (by simpa using M)⟩,h2⟩
   have Z:Pe w π P t A (.agg E):=by
    unfold Pe;rw[et B.1];exact⟨E,rfl,⟨by simpa using k1,λi a v L M=>k3 i a v L (by simpa using M)⟩,k2⟩
   have hr:=W4 20 t D hk Op.maxDepth Ts as A _ _ e V Z he
   have O:=run_eqGuard_agg w op t X Y xs E B.2
   rw[fi,O]
   rcases R with⟨rfl,rfl⟩|⟨rfl,rfl⟩
   ·simp[binOp,Op.equal,hr]
   ·simp[binOp,Op.equal,hr]
theorem Th(M:(op=.eql/\neg=false)\/(op=.neq/\neg=true)) (L:sliceB P t=true) {a:AV} {b:Bool} (O:IL neg a=some b) (V:DV w π a x) (R:DV w π .bV y):(do eqGuard op t X Y x y;binOp op t x y:Sem Value).run P w=.ok (.bool b) w:=by
 have E:∃e,P.underlying t=some (.slice e):=by
  unfold sliceB at L;split at L
  ·exact⟨_,by assumption⟩
  ·cases L
 obtain⟨e,E⟩:=E;cases R
 have D:∀(A:Option Addr) (n c:Nat),(binOp .eql t (.slice A n c) (.slice none 0 0)).run P w=.ok (.bool A.isNone) w:=λA n c=>Lib.run_eql_slice_nil w t e A n c 0 0 E
 have B:∀(A:Option Addr) (n c:Nat),(binOp .neq t (.slice A n c) (.slice none 0 0)).run P w=.ok (.bool !A.isNone) w:=λA n c=>by
  simp only[binOp];simp[Op.equal,Op.maxDepth,Lib.run_equalIn_slice_nil w 9999 t e A n c 0 0 E]
 cases V<;>simp only[IL,fo,reduceCtorEq]at O<;>subst O
 all_goals(rcases M with⟨rfl,rfl⟩|⟨rfl,rfl⟩<;>rw[fi,iF _ _ _ _ (λ_ h=>by cases h) (λh=>by cases h)])
 all_goals first|exact D _ _ _|exact B _ _ _
theorem Hl.weaken{ok A:Nat->Prop} (h:Hl P w π ok e v) (O:∀B,ok B->A B):Hl P w π A e v:=by
 rcases h with h|⟨B,len,cap,D,i,L,E,M⟩
 ·exact .inl h
 ·exact .inr ⟨B,len,cap,D,i,L,O _ E,M⟩
theorem Rel.called(R:Rel P nt n0 w0 π0 U s a w β τ π) (O:¬U id) (A:Below w.heap.size w w') (Z:∀b o,π b o->π' b o) (L:∀b o,π' b o->π b o\/w.heap.size<=b) (M:∀b o,π' b o->b<w'.heap.size) (hd:DV w' π' r v) (ht:∀t,fr=some t->Hl P w' π' (λB=>w.heap.size<=B) t v):
  ∃τ',RV β τ' w' π' (.dat r (fr.map λ_=>id)) v/\Rel P nt n0 w0 π0 (fu U id) {s with live:=match(generalizing:=false) fr with|some e=>(id,e)::s.live|none=>s.live} a w' β τ' π':=by
 have V:n0.n<=w.heap.size:=ka R.gI R.below.size
 cases fr with
 |none=>exact⟨τ,⟨hd,λt h=>by cases h⟩,R.frame (λ_ _=>rfl) (λ_ _=>rfl) (λ_ h=>.inl h) Z L M A⟩
 |some e=>
  have R1:Rel P nt n0 w0 π0 U s a w' β τ π':=R.frame (λ_ _=>rfl) (λ_ _=>rfl) (λ_ h=>h) Z L M A
  have E:=ht e rfl
  refine⟨FP τ id v,⟨hd,λt h=>by cases h;rw[cj]⟩,R1.tX O (E.weaken (λB h=>.inl (ka V h))) (λq e' B hq hB D=>?_) (λb x hb D=>?_)⟩
  ·have h1:=((R.live q e' hq).2.block hB).2
   have h2:=(E.block D).1
   omega
  ·have h1:=R.lD hb
   have h2:=(E.block D).1
   omega
theorem gp:∀{l:List Nat},dY l=true->l.Nodup
 |[],_=>List.nodup_nil
 |b::A,h=>by
  simp only[dY,ed,nb]at h;rw[wa]
  exact⟨by simpa using h.1,gp h.2⟩
theorem gJ{l:List (Nat×dH)}:∀{ids:List Nat} {css:List (List AV)},bh l ids=some css->css.length=ids.length/\∀(k:Nat) (b:Nat),ids[k]? =some b->∃x,dh b l=some x/\css[k]? =some x.cells
 |[],css,h=>by simp[bh]at h;subst h;exact⟨rfl,λk b A=>by simp at A⟩
 |b::O,css,h=>by
  simp only[bh]at h
  split at h<;>try(cases h;done)
  rename_i x B E D;cases h;obtain⟨e,M⟩:=gJ D
  refine⟨by simp[e],λk L A=>?_⟩
  cases k with
  |zero=>simp at A;subst A;exact⟨x,E,rfl⟩
  |succ k=>exact M k L (by simpa using A)
theorem p9:∀{ids:List Nat} {css:List (List AV)} {l:List (Nat×dH)} {n:Nat} {x:dH},ids.Nodup->css.length=ids.length->dh n (eG ids css l)=some x->
  (∃(k:Nat) (cs:List AV),ids[k]? =some n/\css[k]? =some cs/\x=⟨cs,[]⟩/\∃y,dh n l=some y)\/(n∉ids/\dh n l=some x)
 |[],css,l,n,x,_,_,h=>.inr ⟨TB,by cases css<;>exact h⟩
 |b::Z,[],l,n,x,_,D,h=>by simp at D
 |b::Z,cs::css,l,n,x,B,D,h=>by
  simp only[eG]at h;rw[wa]at B
  rcases p9 B.2 (by simpa using D) h with⟨k,V,M,E,h3,y,L⟩|⟨M,E⟩
  ·refine .inl ⟨k+1,V,by simpa using M,by simpa using E,h3,?_⟩
   rcases nO L with⟨_,_,y',A⟩|⟨_,A⟩
   ·exact⟨y',by rename_i e _;rw[e];exact A⟩
   ·exact⟨y,A⟩
  ·rcases nO E with⟨e,O,y,L⟩|⟨R,O⟩
   ·subst e;exact .inl ⟨0,cs,rfl,rfl,O,y,L⟩
   ·exact .inr ⟨by simp[R,M],O⟩
theorem dV.get{w:World} {π:Nat->Nat->Prop}:∀{css:List (List AV)} {Bs:List Nat},dV w π css Bs->css.length=Bs.length/\∀(k:Nat) (cs:List AV) (B:Nat),css[k]? =some cs->Bs[k]? =some B->tC (λ_=>undef) w π B ⟨cs,[]⟩
 |[],[],h=>⟨rfl,λk cs B h=>by simp at h⟩
 |[],B::Bs,h=>h.elim
 |cs::css,[],h=>h.elim
 |cs::css,B::Bs,h=>by
  obtain⟨e,L⟩:=dV.get h.2
  refine⟨by simp[e],λk E B' D A=>?_⟩
  cases k with
  |zero=>simp at D A;subst D;subst A;exact h.1
  |succ k=>exact L k E B' (by simpa using D) (by simpa using A)
theorem tC.Bg{τ τ':Nat->Value} {w:World} {π:Nat->Nat->Prop} {B:Nat} {x:dH} (h:tC τ w π B x):tC τ' w π B ⟨x.cells,[]⟩:=by
 obtain⟨A,E,M,L,R,_,O⟩:=h
 exact⟨A,E,M,L,R,λo q D=>(by cases D),O⟩
theorem Rel.rE(R:Rel P nt n0 w0 π0 U s a w β τ π):∀{ids:List Nat} {css:List (List AV)},bh s.boxes ids=some css->dV w π css (ids.map β)
 |[],css,h=>by simp[bh]at h;subst h;trivial
 |b::E,css,h=>by
  simp only[bh]at h
  split at h<;>try(cases h;done)
  rename_i x A D B;cases h;exact⟨(R.boxes b x D).2.2.1.Bg,R.rE B⟩
theorem Rel.nodup(R:Rel P nt n0 w0 π0 U s a w β τ π):∀{ids:List Nat} {css:List (List AV)},ids.Nodup->bh s.boxes ids=some css->(ids.map β).Nodup
 |[],css,_,h=>List.nodup_nil
 |b::V,css,A,h=>by
  simp only[bh]at h
  split at h<;>try(cases h;done)
  rename_i x L O D;rw[wa]at A;simp only[md,wa]
  refine⟨λhm=>?_,R.nodup A.2 D⟩
  obtain⟨E,B,e⟩:=i8.1 hm
  obtain⟨k,hk⟩:=l3.1 B
  obtain⟨y,M,_⟩:=(gJ D).2 k E hk
  have:=R.inj E b y x M O e
  exact A.1 (this▸B)
theorem Rel.eV(R:Rel P nt n0 w0 π0 U s a w β τ π):∀{Xs:List Operand} {xs:List bC} {D:List (Option AV)} {ids:List Nat},∀{O:Bool},Xs.mapM cq=some xs->Eng.eV O s xs=some (D,ids)->gh w π D (ids.map β) (Xs.map a.eval)/\(O=false->nI D=true)
 |[],xs,D,ids,O,L,B=>by
  simp at L;subst L;simp[Eng.eV]at B;obtain⟨rfl,rfl⟩:=B
  exact⟨trivial,λ_=>rfl⟩
 |X::Xs,xs,D,ids,O,L,B=>by
  simp only[tp,pC,jp,vx,fo]at L;obtain⟨x,L,aa,A,rfl⟩:=L;simp only[Eng.eV]at B
  split at B<;>try(cases B;done)
  ·rename_i av q as V M E
   cases B
   have hd:=(R.bX L M).1.1
   refine⟨DI hd (R.eV A E).1,λe=>?_⟩
   have:=(R.eV A E).2 e
   have Z:av≠.hole:=λe=>by subst e;cases hd
   cases av<;>first|exact absurd rfl Z|exact this
  ·rename_i cs as V M E
   cases B;exact⟨DI (RV.ref.1 (R.bX L M).1) (R.eV A E).1,(R.eV A E).2⟩
  ·rename_i b as V M E
   cases B;exact⟨⟨(R.bX L M).1,(R.eV A E).1⟩,(R.eV A E).2⟩
  ·rename_i b as V M E
   cases O with
   |false=>cases B
   |true=>
    cases B
    exact⟨⟨(R.bX L M).1,(R.eV A E).1⟩,λe=>by cases e⟩
theorem Rel.y9(R:Rel P nt n0 w0 π0 U s a w β τ π) (a4:¬U id) {E:List (List AV)} (ad:ids.Nodup) (ao:bh s.boxes ids=some css) (a5:E.length=css.length) (D:A6 (kL.tD w (ids.map β)) w w') (hp:∀b o,π b o->π' b o) (ab:∀b o,π' b o->π b o\/w.heap.size<=b) (ak:∀b o,π' b o->b<w'.heap.size) (am:dV w' π' E (ids.map β)) (hd:DV w' π' r v) (ht:∀t,fr=some t->Hl P w' π' (λB=>w.heap.size<=B) t v):
  ∃τ',RV β τ' w' π' (.dat r (fr.map λ_=>id)) v/\Rel P nt n0 w0 π0 (fu U id) {s with boxes:=eG ids E s.boxes,live:=match(generalizing:=false) fr with|some e=>(id,e)::s.live|none=>s.live} a w' β τ' π':=by
 obtain⟨a6,ae⟩:=gJ ao
 have hlen':E.length=ids.length:=ST
 have an:n0.n<=w.heap.size:=ka R.gI R.below.size
 have O:∀B,B∈ids.map β->∃b x,b∈ids/\dh b s.boxes=some x/\β b=B:=λB hB=>by
  obtain⟨b,hb,e⟩:=i8.1 hB
  obtain⟨k,hk⟩:=l3.1 hb
  obtain⟨x,M,_⟩:=ae k b hk;exact⟨b,x,hb,M,e⟩
 have A:∀k,k<w.heap.size->k∉ids.map β->w'.heap[k]? =w.heap[k]?:=λk hk M=>D.block k hk M
 have al:∀B,B∈ids.map β->∀o,¬π B o:=λB hB=>by
  obtain⟨b,x,_,M,e⟩:=O B hB;obtain⟨_,_,⟨_,_,_,_,_,_,hn⟩,_⟩:=R.boxes b x M;rw[<-e];exact hn
 have hc:∀b o,π b o->w'.cell? ⟨b,o,none⟩=w.cell? ⟨b,o,none⟩:=λb o h=>
  World.cell?_of_block (w:=w) (A b (R.gj b o h) (λhm=>al b hm o h))
 have L:∀b x,dh b s.boxes=some x->β b<w.heap.size:=λb x h=>R.lD h
 have hold:∀b x,dh b (eG ids E s.boxes)=some x->∃y,dh b s.boxes=some y:=λb x h=>by
  rcases p9 ad hlen' h with⟨_,_,_,_,_,V⟩|⟨_,M⟩
  ·exact V
  ·exact⟨x,M⟩
 have R1:Rel P nt n0 w0 π0 U {s with boxes:=eG ids E s.boxes} a w' β τ π':=by
  refine⟨R.size,λt v h=>?_,λb x h=>?_,λb b' x x' h h' e=>?_,λq e h=>?_,R.dm,λq e b x h h' hB=>?_,R.below.trans ⟨D.os,D.tape,D.output,D.size,λk hk hX=>?_,D.others⟩,R.gI,ak,λb o h=>hp _ _ (R.gu b o h),λb o h=>?_,R.nL,R.jP,λb o h=>(hc b o (R.gu b o h)).trans (R.kept b o h)⟩
  ·obtain⟨⟨x,M,hv⟩,hu⟩:=R.slots t v h
   exact⟨⟨x,M,RV.mono (λ_ _=>rfl) (λ_ _=>rfl) hp hc hu hv⟩,hu⟩
  ·rcases p9 ad hlen' h with⟨k,cs,h1,Z,rfl,y,V⟩|⟨au,M⟩
   ·obtain⟨g1,g2,g3,g4⟩:=R.boxes b y V
    refine⟨g1,g2,?_,λo q hq=>by cases hq⟩
    exact(am.get.2 k cs (β b) Z (by simp[h1])).Bg
   ·obtain⟨g1,g2,g3,g4⟩:=R.boxes b x M
    have a3:β b∉ids.map β:=λhm=>by
     obtain⟨b',x',a2,ag,e⟩:=O _ hm
     exact au (R.inj b' b x' x ag M e▸a2)
    refine⟨g1,g2,g3.keep (λ_ _=>rfl) g4 (A _ (L b x M) a3) hp hc (λo ho=>?_),g4⟩
    rcases ab _ _ ho with h|h
    ·obtain⟨_,_,_,_,_,_,hn⟩:=g3;exact hn o h
    ·have:=L b x M;omega
  ·obtain⟨y,V⟩:=hold b x h
   obtain⟨y',ar⟩:=hold b' x' h';exact R.inj b b' y y' V ar e
  ·obtain⟨h1,Z⟩:=R.live q e h
   refine⟨h1,Z.keep (λB hB=>A B (Z.block hB).2 (λhm=>?_)) (λB o hB ho=>?_)⟩
   ·obtain⟨b,x,_,M,eb⟩:=O B hm
    exact R.dG q e b x h M (by rw[hB,eb])
   ·rcases ab _ _ ho with h|h
    ·exact h
    ·have:=(Z.block hB).2;omega
  ·obtain⟨y,V⟩:=hold b x h'
   exact R.dG q e b y h V hB
  ·refine A k ST (λhm=>?_)
   obtain⟨b,x,_,M,eb⟩:=O k hm
   rcases(R.boxes b x M).2.1 with h|h
   ·omega
   ·rw[eb]at h;exact hX h.2
  ·rcases ab b o h with h|h
   ·exact R.dW b o h
   ·exact .inr (.inl ST)
 cases fr with
 |none=>exact⟨τ,⟨hd,λt h=>by cases h⟩,R1.sub λ_ h=>.inl h⟩
 |some e=>
  have aa:=ht e rfl
  refine⟨FP τ id v,⟨hd,λt h=>by cases h;rw[cj]⟩,R1.tX a4 (aa.weaken (λB h=>.inl (ka an h))) (λq e' B hq hB ac=>?_) (λb x hb ac=>?_)⟩
  ·have h1:=((R.live q e' hq).2.block hB).2
   have Z:=(aa.block ac).1
   omega
  ·obtain⟨y,V⟩:=hold b x hb
   have h1:=L b y V
   have Z:=(aa.block ac).1
   omega
theorem DK{b o q:Nat}:∀{l:List (Nat×dH)} {n:Nat} {x:dH},dh n (K1 b o q l)=some x->(n=b/\∃y,dh b l=some y/\x=⟨y.cells,[(o,q)]⟩)\/(n≠b/\dh n l=some x)
 |[],n,x,h=>by simp[K1,dh]at h
 |(k,v)::r,n,x,h=>by
  simp only[K1]at h
  by_cases hk:b=k
  ·subst hk
   simp only[ns,ge,dh]at h
   by_cases B:n=b
   ·subst B;simp only[ns,ge,fo]at h
    exact .inl ⟨rfl,v,by simp[dh],h.symm⟩
   ·have A:(n==b)=false:=by simpa using B
    simp only[A,eQ]at h
    exact .inr ⟨B,by simp only[dh,A,eQ];exact h⟩
  ·have D:(b==k)=false:=by simpa using hk
   simp only[D,eQ,dh]at h
   by_cases B:n=k
   ·subst B;simp only[ns,ge]at h
    exact .inr ⟨λe=>hk e.symm,by simp only[dh,ns,ge];exact h⟩
   ·have A:(n==k)=false:=by simpa using B
    simp only[A,eQ]at h
    rcases DK h with⟨e,y,L,E⟩|⟨e,E⟩
    ·exact .inl ⟨e,y,by simp only[dh,D,eQ];exact L,E⟩
    ·exact .inr ⟨e,by simp only[dh,A,eQ];exact E⟩
theorem Rel.tag(R:Rel P nt n0 w0 π0 U s a w β τ π) (hU:U q) (hv:∀A E,w.heap[β b]? =some (.cells A E (0,0))->A[o]? =some (τ q)):Rel P nt n0 w0 π0 U {s with boxes:=K1 b o q s.boxes} a w β τ π:=by
 have hold:∀n x,dh n (K1 b o q s.boxes)=some x->∃y,dh n s.boxes=some y:=λn x h=>by
  rcases DK h with⟨rfl,y,B,_⟩|⟨_,h⟩
  ·exact⟨y,B⟩
  ·exact⟨x,h⟩
 refine⟨R.size,R.slots,λn x h=>?_,λb1 b2 x x' h L e=>?_,R.live,R.dm,λM e n x h L hB=>?_,R.below,R.gI,R.gj,R.gu,R.dW,R.nL,R.jP,R.kept⟩
 ·rcases DK h with⟨rfl,y,B,rfl⟩|⟨_,h⟩
  ·obtain⟨g1,g2,⟨A,E,Z,k2,k3,_,k5⟩,_⟩:=R.boxes n y B
   refine⟨g1,g2,⟨A,E,Z,k2,k3,λo' M D=>?_,k5⟩,λo' M D=>?_⟩
   all_goals
    simp only[fq]at D
    by_cases ho:o'=o
    ·subst ho
     simp only[ns,ge,fo]at D;subst D
     first|exact hv A E Z|exact hU
    ·have O:(o'==o)=false:=by simpa using ho
     simp[O]at D
  ·exact R.boxes n x h
 ·obtain⟨y,B⟩:=hold b1 x h
  obtain⟨y',V⟩:=hold b2 x' L;exact R.inj b1 b2 y y' B V e
 ·obtain⟨y,B⟩:=hold n x L
  exact R.dG M e n y h B hB
theorem PO{bx:List (Nat×dH)} {lv:List (Nat×Nat)} {j:Nat} {B:Option Nat} (h:tgQ bx lv ids (some (j,o,e))=some B):∃b x q,ids[j]? =some b/\dh b bx=some x/\fq o x.tags=some q/\fq q lv=some e/\B=some q:=by
 simp only[tgQ,jp]at h;obtain⟨b,E,x,D,q,M,A⟩:=h;split at A
 ·rename_i L;cases A;exact⟨b,x,q,E,D,M,L,rfl⟩
 ·cases A
theorem Rel.NP(R:Rel P nt n0 w0 π0 U s a w β τ π) {ids:List Nat} {css:List (List AV)} (M:bh s.boxes ids=some css) {D:Option (Nat×Nat×Nat)} {qo:Option Nat} (hq:tgQ s.boxes s.live ids D=some qo):
  ∃Z,Eng.NP P w π (ids.map β) (λ_=>True) Z D/\(D.isSome=true->∃q e,qo=some q/\fq q s.live=some e/\Z=τ q):=by
 cases D with
 |none=>exact⟨undef,trivial,λh=>by cases h⟩
 |some p=>
  obtain⟨j,o,e⟩:=p;obtain⟨b,x,q,h1,h2,h3,E,rfl⟩:=PO hq;obtain⟨_,_,⟨A,el,k1,_,_,k4,_⟩,_⟩:=R.boxes b x h2
  refine⟨τ q,⟨β b,A,el,by simp[h1],k1,k4 o q h3,?_,λTB L hm=>?_⟩,λ_=>⟨q,e,rfl,E,rfl⟩⟩
  ·have:=(R.live q e E).2
   rcases this with h|⟨B,len,cap,A,i,g1,g2,g3⟩
   ·exact .inl h
   ·exact .inr ⟨B,len,cap,A,i,g1,trivial,g3⟩
  ·obtain⟨V,O,e'⟩:=i8.1 hm
   obtain⟨k,hk⟩:=l3.1 O
   obtain⟨y,hy,_⟩:=(gJ M).2 k V hk
   exact R.dG q e V y E hy (by rw[L,e'])
theorem qa{A:Option Nat} {l:List (Nat×Nat)} (h:fq q (Pt A l)=some e):fq q l=some e/\A≠some q:=by
 cases A with
 |none=>exact⟨h,TB⟩
 |some k=>obtain⟨B,D⟩:=kg h;exact⟨B,λe=>by cases e;exact D rfl⟩
theorem Rel.Ti(R:Rel P nt n0 w0 π0 U s a w β τ π) (bi:¬U id) {D:List (List AV)} (al:ids.Nodup) (a7:bh s.boxes ids=some css) (bj:D.length=css.length) {tg ac:Option (Nat×Nat×Nat)} {qo:Option Nat} {tv am:Value} (a3:tg.isSome=true->∃q e,qo=some q/\fq q s.live=some e/\tv=τ q) (A:A6 (kL.aam w (ids.map β) (SR tg tv)) w w') (hp:∀b o,π b o->π' b o) (ae:∀b o,π' b o->π b o\/w.heap.size<=b\/SR tg tv b) (au:∀b o,π' b o->b<w'.heap.size) (hc:∀b o,π b o->w'.cell? ⟨b,o,none⟩=w.cell? ⟨b,o,none⟩) (a2:dV w' π' D (ids.map β)) (hd:DV w' π' r v) (ht:Eng.NP P w' π' (ids.map β) (λB=>w.heap.size<=B\/SR tg tv B) am ac):
  ∃τ',RV β τ' w' π' (.dat r none) v/\Rel P nt n0 w0 π0 (fu U id) {s with boxes:=Pq id ids ac (eG ids D s.boxes),live:=WQ id ac (Pt qo s.live)} a w' β τ' π':=by
 obtain⟨bs,ao⟩:=gJ a7
 have hlen':D.length=ids.length:=ST
 have a4:n0.n<=w.heap.size:=ka R.gI R.below.size
 have Z:∀B,SR tg tv B->∃q e,qo=some q/\fq q s.live=some e/\jq (τ q)=some B:=λB hB=>by
  obtain⟨q,e,h1,V,h3⟩:=a3 hB.1
  exact⟨q,e,h1,V,by rw[<-h3];exact hB.2⟩
 have ab:∀B,B∈ids.map β->∃b x,b∈ids/\dh b s.boxes=some x/\β b=B:=λB hB=>by
  obtain⟨b,hb,e⟩:=i8.1 hB
  obtain⟨k,hk⟩:=l3.1 hb
  obtain⟨x,O,_⟩:=ao k b hk;exact⟨b,x,hb,O,e⟩
 have L:∀k,k<w.heap.size->k∉ids.map β->¬SR tg tv k->w'.heap[k]? =w.heap[k]?:=λk hk O ht=>A.block k hk (λh=>h.elim O ht)
 have E:∀b x,dh b s.boxes=some x->β b<w.heap.size:=λb x h=>R.lD h
 have M:∀b x,dh b s.boxes=some x->¬SR tg tv (β b):=λb x h hB=>by
  obtain⟨q,e,_,V,h3⟩:=Z _ hB;exact R.dG q e b x V h h3
 have hold:∀b x,dh b (eG ids D s.boxes)=some x->∃y,dh b s.boxes=some y:=λb x h=>by
  rcases p9 al hlen' h with⟨_,_,_,_,_,hy⟩|⟨_,O⟩
  ·exact hy
  ·exact⟨x,O⟩
 have aa:∀q e,fq q (Pt qo s.live)=some e->∀B,jq (τ q)=some B->¬SR tg tv B:=λq e h B hB hT=>by
  obtain⟨h1,V⟩:=qa h;obtain⟨q',e',g1,g2,g3⟩:=Z B hT
  exact V (by rw[g1,R.dm q' q e' e B g2 h1 g3 hB])
 have R1:Rel P nt n0 w0 π0 U {s with boxes:=eG ids D s.boxes,live:=Pt qo s.live} a w' β τ π':=by
  refine⟨R.size,λt v h=>?_,λb x h=>?_,λb b' x x' h h' e=>?_,λq e h=>?_,λq q' e e' B h h'=>R.dm q q' e e' B (qa h).1 (qa h').1,λq e b x h h' hB=>?_,R.below.trans ⟨A.os,A.tape,A.output,A.size,λk hk hX=>?_,A.others⟩,R.gI,au,λb o h=>hp _ _ (R.gu b o h),λb o h=>?_,R.nL,R.jP,λb o h=>(hc b o (R.gu b o h)).trans (R.kept b o h)⟩
  ·obtain⟨⟨x,O,hv⟩,hu⟩:=R.slots t v h
   exact⟨⟨x,O,RV.mono (λ_ _=>rfl) (λ_ _=>rfl) hp hc hu hv⟩,hu⟩
  ·rcases p9 al hlen' h with⟨k,cs,h1,V,rfl,y,hy⟩|⟨a9,O⟩
   ·obtain⟨g1,g2,g3,g4⟩:=R.boxes b y hy
    refine⟨g1,g2,?_,λo q hq=>by cases hq⟩
    exact(a2.get.2 k cs (β b) V (by simp[h1])).Bg
   ·obtain⟨g1,g2,g3,g4⟩:=R.boxes b x O
    have bd:β b∉ids.map β:=λhm=>by
     obtain⟨b',x',ba,ar,e⟩:=ab _ hm
     exact a9 (R.inj b' b x' x ar O e▸ba)
    refine⟨g1,g2,g3.keep (λ_ _=>rfl) g4 (L _ (E b x O) bd (M b x O)) hp hc (λo ho=>?_),g4⟩
    rcases ae _ _ ho with h|h|h
    ·obtain⟨_,_,_,_,_,_,hn⟩:=g3;exact hn o h
    ·have:=E b x O;omega
    ·exact M b x O h
  ·obtain⟨y,hy⟩:=hold b x h
   obtain⟨y',a8⟩:=hold b' x' h';exact R.inj b b' y y' hy a8 e
  ·obtain⟨h0,_⟩:=qa h
   obtain⟨h1,V⟩:=R.live q e h0
   refine⟨h1,V.keep (λB hB=>L B (V.block hB).2 (λhm=>?_) (aa q e h B hB)) (λB o hB ho=>?_)⟩
   ·obtain⟨b,x,_,O,eb⟩:=ab B hm
    exact R.dG q e b x h0 O (by rw[hB,eb])
   ·rcases ae _ _ ho with g|g|g
    ·exact g
    ·have:=(V.block hB).2;omega
    ·exact absurd g (aa q e h B hB)
  ·obtain⟨y,hy⟩:=hold b x h'
   exact R.dG q e b y (qa h).1 hy hB
  ·refine L k ST (λhm=>?_) (λhT=>?_)
   ·obtain⟨b,x,_,O,eb⟩:=ab k hm
    rcases(R.boxes b x O).2.1 with h|h
    ·omega
    ·rw[eb]at h;exact hX h.2
   ·obtain⟨q,e,_,V,h3⟩:=Z k hT
    rcases((R.live q e V).2.block h3).1 with h|h
    ·omega
    ·exact hX h
  ·rcases ae b o h with h|h|h
   ·exact R.dW b o h
   ·exact .inr (.inl ST)
   ·obtain⟨q,e,_,V,h3⟩:=Z b h
    exact .inr ((R.live q e V).2.block h3).1
 cases ac with
 |none=>exact⟨τ,⟨hd,λt h=>by cases h⟩,R1.sub λ_ h=>.inl h⟩
 |some p=>
  obtain⟨j,o,e⟩:=p;obtain⟨B,bo,el,hj,hB,an,ad,be⟩:=ht
  obtain⟨b,hb,rfl⟩:∃b,ids[j]? =some b/\β b=B:=by
   simp only[im,eg]at hj;exact hj
  have R2:=R1.tX (e:=e) bi (ad.weaken (λB h=>?_)) (λq e' B hq ag a6=>?_) (λb x hb ak=>?_)
  ·refine⟨FP τ id am,⟨hd,λt h=>by cases h⟩,?_⟩
   have R3:=R2.tag (b:=b) (o:=o) (q:=id) (.inr rfl) (λcur' bm h=>?_)
   ·simp only[Pq,hb,WQ];exact R3
   ·rw[hB]at h;cases h
    rw[cj];exact an
  ·rcases h with h|h
   ·exact .inl (ka a4 h)
   ·obtain⟨q,e,_,V,h3⟩:=Z B h
    exact((R.live q e V).2.block h3).1
  ·obtain⟨h0,_⟩:=qa hq
   rcases(ad.block a6).1 with h|h
   ·have h1:=((R.live q e' h0).2.block ag).2
    omega
   ·exact aa q e' hq B ag h
  ·exact be _ ak (by
    obtain⟨y,hy⟩:=hold b x hb
    by_cases a5:b∈ids
    ·exact EQ a5
    ·exfalso
     rcases(ad.block ak).1 with h|h
     ·have:=E b y hy;omega
     ·exact M b y hy h)
theorem nQ{m:Nat}:∀{l:List (Nat×dH)} {n:Nat},dh n (mH m l)=if n=m then none else dh n l
 |[],n=>by simp[mH,dh]
 |(k,v)::r,n=>by
  have O:=nQ (m:=m) (l:=r) (n:=n)
  simp only[mH]
  by_cases A:m=k
  ·subst A
   simp only[ns,ge,dh,O]
   by_cases L:n=m
   ·simp[L]
   ·have M:(n==m)=false:=by simpa using L
    simp[L,M]
  ·have D:(m==k)=false:=by simpa using A
   simp only[D,eQ,dh,O]
   by_cases B:n=k
   ·simp[B,Ne.symm A]
   ·have E:(n==k)=false:=by simpa using B
    simp[E]
theorem zb{b:Nat} {cs:List AV}:∀{l:List (Nat×SV)} {t:Nat},lk t (DD b cs l)=(lk t l).map (kM b cs)
 |[],t=>rfl
 |(m,v)::r,t=>by
  simp only[DD,lk];cases h:t==m
  ·simp only[eQ];exact zb
  ·rfl
theorem xZ(z:Nat):∀(n:Nat) (cs:List AV),(dA z n cs).length=n
 |0,_=>rfl
 |n+1,cs=>by simp[dA,xZ z n]
theorem Bh(z:Nat):∀(n:Nat) (cs:List AV) (i:Nat) (r:List AV),(dA z n cs)[i]? =some r->i<n/\r=(cs.drop (i*z)).take z
 |0,_,i,r,h=>by simp[dA]at h
 |n+1,cs,0,r,h=>by simp only[dA,km,fo]at h;subst h;simp
 |n+1,cs,i+1,r,h=>by
  simp only[dA,kv]at h;obtain⟨B,A⟩:=Bh z n _ i r h
  refine⟨ST,?_⟩
  rw[A,xf]
  congr 2
  rw[Nat.succ_mul,Nat.add_comm]
theorem MB{π:Nat->Nat->Prop} {B:Nat} (h:DV w π (.ref cs) (.pointer (some ⟨B,o,none⟩))) {cap:Nat} (hn:n*z<=(cs.drop off).length) (M:n<=cap):DV w π (.sl (dA z n (cs.drop off))) (.slice (some ⟨B,o+off,none⟩) n cap):=by
 cases h with
 |ref _ _ _ f Z R h3 V=>
  have A:∀(i j:Nat) (r:List AV) (a:AV),(dA z n (cs.drop off))[i]? =some r->r[j]? =some a->cs[off+(i*z+j)]? =some a:=by
   intro i j r a E D;obtain⟨_,rfl⟩:=Bh z n _ i r E;rw[s8]at D;split at D
   ·rw[lh,lh]at D;rw[<-D]
   ·cases D
  have e:∀i j,o+off+i*z+j=o+(off+(i*z+j)):=λi j=>by omega
  have O:=xZ z n (cs.drop off)
  have key:=DV.sl (w:=w) (π:=π) (dA z n (cs.drop off)) B (o+off) cap z (λi j=>f (off+(i*z+j))) ST (λi r E=>?_) (λi j r a E D=>Z _ _ (A i j r a E D)) (λi j r a E D=>by rw[e];exact R _ _ (A i j r a E D)) (λi j r a E D=>by rw[e];exact h3 _ _ (A i j r a E D)) (λi j r a E D=>V _ _ (A i j r a E D))
  ·rw[O]at key;exact key
  ·obtain⟨L,rfl⟩:=Bh z n _ i r E
   have:(i+1)*z<=n*z:=ik _ L
   rw[Nat.succ_mul]at this;simp only[B0,List.length_drop]at hn⊢;omega
theorem PR{π:Nat->Nat->Prop} {B:Nat} (h:DV w π (.ref cs) (.pointer (some ⟨B,o,none⟩))) (A:n*z<=(cs.drop off).length):DV w π (.sl (dA z n (cs.drop off))) (.slice (some ⟨B,o+off,none⟩) n n):=MB h A (ia n)
theorem Rel.freeze(R:Rel P nt n0 w0 π0 U s a w β τ π) {x:dH} (hb:dh b s.boxes=some x) (h4:4<=b):
  ∃π':Nat->Nat->Prop,(∀B o,π B o->π' B o)/\Rel P nt n0 w0 π0 U {s with slots:=DD b x.cells s.slots,boxes:=mH b s.boxes} a w β τ π'/\DV w π' (.ref x.cells) (.pointer (some ⟨β b,0,none⟩)):=by
 obtain⟨ar,ae,ad,ao⟩:=R.boxes b x hb
 have ak:=R.lD hb
 have ac:n0.n<=β b:=by rcases ae with h|h;exact h;exact absurd h.1 ST
 obtain⟨f,hf,am,al,_⟩:=ad.cells
 have hp:∀B o,π B o->(λB o=>π B o\/(B=β b/\o<x.cells.length)) B o:=λ_ _ h=>.inl h
 have ab:∀(j:Nat) (c:AV),x.cells[j]? =some c->j<x.cells.length:=λj c O=>(er.1 O).1
 have L:∀d,RV β τ w (λB o=>π B o\/(B=β b/\o<x.cells.length)) (.rp (x.cells.drop d)) (.pointer (some ⟨β b,d,none⟩)):=by
  intro d
  refine⟨β b,d,λj=>f (d+j),rfl,?_,?_,?_,?_⟩<;>intro j c O<;>rw[lh]at O
  ·exact am _ _ O
  ·exact .inr ⟨rfl,ab _ _ O⟩
  ·exact hf _ (ab _ _ O)
  ·exact(al _ _ O).mono hp (λ_ _ _=>rfl)
 refine⟨_,hp,?_,RV.ref.1 (by simpa using L 0)⟩
 have D:∀c y,dh c (mH b s.boxes)=some y->c≠b/\dh c s.boxes=some y:=λc y h=>by
  rw[nQ]at h;split at h
  ·cases h
  ·rename_i aa;exact⟨aa,h⟩
 refine⟨R.size,λt v h=>?_,λc y h=>?_,λc c' y y' h h' e=>R.inj c c' y y' (D c y h).2 (D c' y' h').2 e,λq e h=>?_,R.dm,λq e c y h h' hB=>R.dG q e c y h (D c y h').2 hB,R.below,R.gI,λB o h=>?_,λB o h=>.inl (R.gu B o h),λB o h=>?_,R.nL,R.jP,R.kept⟩
 ·simp only[zb,eg]at h
  obtain⟨u,hu,rfl⟩:=h;obtain⟨⟨y,V,hr⟩,Z⟩:=R.slots t u hu
  have hm:RV β τ w (λB o=>π B o\/(B=β b/\o<x.cells.length)) u y:=RV.mono (λ_ _=>rfl) (λ_ _=>rfl) hp (λ_ _ _=>rfl) Z hr
  cases u with
  |dat av q=>exact⟨⟨y,V,hm⟩,Z⟩
  |rp cs=>exact⟨⟨y,V,hm⟩,Z⟩
  |undef=>exact⟨⟨y,V,hm⟩,Z⟩
  |vs c o n z=>
   simp only[kM]
   by_cases A:(c==b&&decide (n*z<=(x.cells.drop o).length))=true
   ·rw[A,ge]
    simp only[ed,kb,gc]at A;obtain⟨rfl,an⟩:=A;obtain⟨cap,ag,rfl⟩:=hr
    have:=MB (RV.ref.1 (by simpa using L 0)) an ag
    rw[la]at this
    exact⟨⟨_,V,this,λt h=>by cases h⟩,trivial⟩
   ·have M:=AC.2 A
    rw[M,eQ];exact⟨⟨y,V,hm⟩,Z⟩
  |wz _ _ _=>exact⟨⟨y,V,hm⟩,Z⟩
  |raw _ _=>exact⟨⟨y,V,hm⟩,Z⟩
  |pt _ _=>exact⟨⟨y,V,hm⟩,Z⟩
  |ptr c o=>
   simp only[kM]
   by_cases A:c=b
   ·subst A
    simp only[ns,ge]
    have e:y=.pointer (some ⟨β c,o,none⟩):=hr
    subst e;exact⟨⟨_,V,L o⟩,trivial⟩
   ·have M:(c==b)=false:=by simpa using A
    simp only[M,eQ];exact⟨⟨y,V,hm⟩,Z⟩
 ·obtain⟨aa,O⟩:=D c y h
  obtain⟨g1,g2,g3,g4⟩:=R.boxes c y O
  refine⟨g1,g2,g3.keep (λ_ _=>rfl) g4 rfl hp (λ_ _ _=>rfl) (λo E=>?_),g4⟩
  rcases E with E|⟨E,_⟩
  ·obtain⟨_,_,_,_,_,_,hn⟩:=g3;exact hn o E
  ·exact aa (R.inj c b y x O hb E)
 ·obtain⟨h1,h2⟩:=R.live q e h
  refine⟨h1,h2.keep (λB hB=>rfl) (λB o hB E=>?_)⟩
  rcases E with E|⟨E,_⟩
  ·exact E
  ·exact absurd (E▸hB) (R.dG q e b x h hb)
 ·rcases h with h|⟨rfl,_⟩
  ·exact R.gj B o h
  ·exact ak
 ·rcases h with h|⟨rfl,_⟩
  ·exact R.dW B o h
  ·exact .inr (.inl ac)
theorem BY{l:List (Nat×dH)} {b:Nat}:∀{ids:List Nat} {css:List (List AV)},b∉ids->bh l ids=some css->bh (mH b l) ids=some css
 |[],css,_,h=>h
 |c::ids,css,B,h=>by
  simp only[bh]at h⊢
  have A:c≠b:=λe=>B (e▸lr ..)
  split at h<;>try(cases h;done)
  rename_i x D L E
  rw[nQ,ek A,L,BY (λhm=>B (kp _ hm)) E]
  exact h
theorem Rel.zc:∀{ids:List Nat} {css:List (List AV)} {s:S} {π:Nat->Nat->Prop},Rel P nt n0 w0 π0 U s a w β τ π->ids.Nodup->jl ids=true->bh s.boxes ids=some css->
  ∃π':Nat->Nat->Prop,(∀B o,π B o->π' B o)/\Rel P nt n0 w0 π0 U (iA ids css s) a w β τ π'/\∀(k:Nat) (b:Nat) (cs:List AV),ids[k]? =some b->css[k]? =some cs->DV w π' (.ref cs) (.pointer (some ⟨β b,0,none⟩))
 |[],css,s,π,R,_,_,h=>by
  simp[bh]at h;subst h
  exact⟨π,λ_ _ h=>h,R,λk b cs h=>by simp at h⟩
 |b::ids,css,s,π,R,D,A,h=>by
  simp only[bh]at h
  split at h<;>try(cases h;done)
  rename_i x M h1 Z;cases h;rw[wa]at D;simp only[jl,ed,gc]at A;obtain⟨π1,m1,R1,d1⟩:=R.freeze h1 A.1
  obtain⟨π2,L,V,O⟩:=Rel.zc R1 D.2 A.2 (BY D.1 Z)
  refine⟨π2,λB o h=>L _ _ (m1 _ _ h),V,λk c cs hk E=>?_⟩
  cases k with
  |zero=>simp at hk E;subst hk;subst E;exact d1.mono L (λ_ _ _=>rfl)
  |succ k=>exact O k c cs (by simpa using hk) (by simpa using E)
theorem Rel.aan(R:Rel P nt n0 w0 π0 U s a w β τ π) {x:bC} {E:Option Nat} (hx:cq X=some x) (V:yX P t=some E) (h:bS (Pure P) id (.S1 x E) K s):∃v y,(Instr.loadAt t (a.eval X)).run P w=.ok y w/\RV β τ w π v y/\v.gS U/\K v s:=by
 simp only[bS]at h;obtain⟨p,D,h⟩:=ah h;obtain⟨L,Z⟩:=R.bX hx D
 cases p<;>try(exact h.elim)
 rename_i k ps
 match k,L,h with
 |2,L,h=>
  obtain⟨B,off,O,hc⟩:=L.Wl
  cases E with
  |none=>
   cases ps with
   |nil=>exact h.elim
   |cons q ps=>
    obtain⟨b,o⟩:=q
    refine⟨.ptr b o,.pointer (some ⟨β b,o,none⟩),?_,rfl,Z (b,o) TB,h⟩
    simp only[O,Instr.loadAt,Instr.sureAddr,fi,iv,e9];exact lC V (hc 0 (b,o) rfl).2
  |some n=>
   obtain⟨hn,h⟩:=h
   refine⟨.pt 0 (ps.take n),.agg ((List.range n).map λj=>Value.pointer (some ⟨β (ps.getD j (0,0)).1,(ps.getD j (0,0)).2,none⟩)).toArray,?_,?_,λp D=>Z p (tl D),h⟩
   ·simp only[O,Instr.loadAt,Instr.sureAddr,fi,iv,e9]
    refine lB V (f:=λj=>Value.pointer (some ⟨β (ps.getD j (0,0)).1,(ps.getD j (0,0)).2,none⟩)) (λj hj=>?_)
    have A:j<ps.length:=ST
    have:=(hc j ps[j] (dT A)).2
    rw[this];simp[A]
   ·show Value.agg _=Value.agg _
    congr 2
    apply List.ext_getElem?
    intro i;simp only[im,s8]
    by_cases hi:i<n
    ·have M:i<ps.length:=ST
     simp[hi,M]
    ·simp[hi]
 |0,_,h=>exact h.elim
 |1,_,h=>exact h.elim
 |k+3,_,h=>exact h.elim
theorem vQ{w:World} {π π':Nat->Nat->Prop} (O:∀B o,π B o->π' B o):∀{A:List (Option AV)} {css:List (List AV)} {Bs:List Nat} {vs:List Value},gh w π A Bs vs->nI A=true->css.length=Bs.length->
  (∀(k:Nat) (cs:List AV) (B:Nat),css[k]? =some cs->Bs[k]? =some B->DV w π' (.ref cs) (.pointer (some ⟨B,0,none⟩)))->jn w π' (j8 A css) vs
 |[],css,Bs,vs,h,_,_,_=>by
  have:vs=[]:=by cases Bs<;>cases vs<;>first|rfl|exact h.elim
  subst this
  have:j8 [] css=[]:=by cases css<;>rfl
  rw[this];exact .nil _ _
 |some av::A,css,Bs,[],h,_,_,_=>by cases Bs<;>cases av<;>exact h.elim
 |some av::A,css,Bs,v::vs,h,E,D,M=>by
  obtain⟨V,E⟩:=IM E
  have L:DV w π av v/\gh w π A Bs vs:=by
   rcases nM h with⟨e,_⟩|⟨_,L⟩
   ·exact absurd e V
   ·exact L
  have e:j8 (some av::A) css=av::j8 A css:=by cases css<;>rfl
  rw[e]
  exact .cons (L.1.mono O (λ_ _ _=>rfl)) (vQ O L.2 E D M)
 |none::A,css,[],vs,h,_,_,_=>by cases vs<;>exact h.elim
 |none::A,css,B::Bs,[],h,_,_,_=>h.elim
 |none::A,[],B::Bs,v::vs,h,_,D,_=>by simp at D
 |none::A,cs::css,B::Bs,v::vs,h,E,D,M=>by
  obtain⟨rfl,R⟩:=h
  exact .cons (M 0 cs B rfl rfl) (vQ O R E (by simpa using D) (λk cs B Z R=>M (k+1) cs B (by simpa using Z) (by simpa using R)))
theorem Ge:∀{ids:List Nat} {css:List (List AV)} {s:S},(iA ids css s).live=s.live
 |[],css,s=>by cases css<;>rfl
 |b::ids,[],s=>rfl
 |b::ids,cs::css,s=>Ge (ids:=ids) (css:=css)
theorem MC{B:Nat} (A:P.underlying t=some (.array n e)) (D:gq P e=some z):
  (Instr.sliceAt t (.pointer (some ⟨B,off,none⟩)) none none none).run P w=.ok (.slice (some ⟨B,off,none⟩) n n) w:=by
 simp[Instr.sliceAt,ii A,Instr.sureAddr,Instr.sliceBounds,eH D,Addr.add]
theorem Tj{B:Nat} (L:P.underlying t=some (.array n e)) (M:gq P e=some z) {k:IntKind} {j:Int} (E:0<=j) (D:j<=n):
  (Instr.sliceAt t (.pointer (some ⟨B,off,none⟩)) none (some (.int k j)) none).run P w=.ok (.slice (some ⟨B,off,none⟩) j.toNat n) w:=by
 have A:=M2 (P:=P) w k j n .sliceAlen E D
 simp[Instr.sliceAt,ii L,Instr.sureAddr,Instr.sliceBounds,eH M,Addr.add,A]
def NR:AV->Value
 | .float _ r=>.float .f64 r
 |_=>undef
def W5(b:Nat):Ieee.Datum->Sem Value
 | .nan s t=>if FloatKind.f64.format.quiet t=t then pure (.float .f64 b)else do
   let kept ← choose (.extern "math.Floor,Ceil,Trunc,RoundToEven.signallingNaN kept" 2)
   pure (.float .f64 (if kept==1 then b else FloatKind.f64.encode (.nan s (FloatKind.f64.format.quiet t))))
 |d=>pure (.float .f64 (FloatKind.f64.encode (d.integral .even)))
def Tk(b:Nat):Ieee.Datum->Option AV
 | .nan _ t=>if FloatKind.f64.format.quiet t=t then some (.float .f64 b)else none
 |d=>some (.float .f64 (FloatKind.f64.encode (d.integral .even)))
theorem PS{π:Nat->Nat->Prop} {v:AV}:∀{d:Ieee.Datum},Tk b d=some v->(W5 b d).run P w=.ok (NR v) w/\DV w π v (NR v)
 | .nan s t,h=>by
  simp only[Tk]at h
  split at h<;>try(cases h;done)
  rename_i A;cases h;simp only[W5,A,kh];exact⟨rfl,.float _ _⟩
 | .number s m i,h=>by cases h;exact⟨rfl,.float _ _⟩
 | .infinity s,h=>by cases h;exact⟨rfl,.float _ _⟩
theorem Tl{π:Nat → Nat → Prop} {v:AV} (h:Hh b = some v) : ((Extern.MathFloor.toIntegral "math.RoundToEven" .even) #[.float .f64 b]).run P w = .ok (NR v) w ∧ DV w π v (NR v) :=
 by
 have hto : Extern.MathFloor.toIntegral "math.RoundToEven" .even #[.float .f64 b] = W5 b (FloatKind.f64.decode b) := by
  show((match FloatKind.f64.decode b with
      | .nan s t=>if FloatKind.f64.format.quiet t=t then pure (.float .f64 b)else do
        let kept ← choose (.extern "math.Floor,Ceil,Trunc,RoundToEven.signallingNaN kept" 2)
        pure (.float .f64 (if kept==1 then b else FloatKind.f64.encode (.nan s (FloatKind.f64.format.quiet t))))
      |d=>pure (.float .f64 (FloatKind.f64.encode (d.integral .even)))):Sem Value)=_
  generalize FloatKind.f64.decode b=d
  cases d<;>rfl
 have hta:Tk b (FloatKind.f64.decode b)=some v:=by
  rw[<-h]
  show Tk b (FloatKind.f64.decode b)=((match FloatKind.f64.decode b with
   | .nan _ t=>if FloatKind.f64.format.quiet t=t then some (.float .f64 b)else none
   |d=>some (.float .f64 (FloatKind.f64.encode (d.integral .even)))):Option AV)
  generalize FloatKind.f64.decode b=d
  cases d<;>rfl
 rw[hto];exact PS hta
theorem W6{f:FuncId} {e:Xt} (he:WT P f=some e) {a v:AV} (hv:ZT e a=some v) (hd:DV w π a x):∃u,(callFunc f #[x]).run P w=.ok (.value u) w/\DV w π v u:=by
 unfold WT at he
 split at he<;>try(cases he;done)
 rename_i fn hf
 split at he<;>try(cases he;done)
 rename_i hb;simp only[Bool.and_eq_true]at hb
 have hb1:fn.body=none:=by simpa using hb.1
 have hb2:Extern.findNext fn=none:=by simpa using hb.2
 split at he
 ·rename_i hn
  have hn:=eq_of_beq hn
  cases he
  have hfi:Extern.find fn=some Extern.MathFloatBits.float64bits:=by unfold Extern.find;rw[hn];rfl
  cases a<;>try(cases hv;done)
  rename_i k b
  cases k<;>cases hv
  cases hd;refine⟨.int .u64 b,?_,.int _ _⟩
  rw[run_callFunc_extern hf (by rw[hn];rfl) (by rw[hb1];rfl) hb2 hfi]
  rfl
 ·split at he
  ·rename_i hn
   have hn:=eq_of_beq hn
   cases he
   have hfi:Extern.find fn=some Extern.MathFloatBits.float64frombits:=by unfold Extern.find;rw[hn];rfl
   cases a<;>try(cases hv;done)
   rename_i k b
   cases k<;>cases hv
   cases hd;refine⟨.float .f64 b.toNat,?_,.float _ _⟩
   rw[run_callFunc_extern hf (by rw[hn];rfl) (by rw[hb1];rfl) hb2 hfi]
   rfl
  ·split at he<;>try(cases he;done)
   rename_i hn
   have hn:=eq_of_beq hn
   cases he
   have hfi : Extern.find fn = some (Extern.MathFloor.toIntegral "math.RoundToEven" .even) := by unfold Extern.find; rw [hn]; rfl
   cases a<;>try(cases hv;done)
   rename_i k b
   cases k<;>try(cases hv;done)
   cases hd
   have hv:Hh b=some v:=hv
   have hrun : ((Extern.MathFloor.toIntegral "math.RoundToEven" .even) #[.float .f64 b]).run P w = .ok (NR v) w ∧ DV w π v (NR v) := by
    exact Tl hv
   refine⟨_,?_,hrun.2⟩
   rw[run_callFunc_extern hf (by rw[hn];rfl) (by rw[hb1];rfl) hb2 hfi,hrun.1]
   rfl
theorem gK{f:Nat} (A:dB P f=true) (args:Array Value):(callFunc f args).run P w=.ok (.enter f args) w:=by
 unfold dB at A;split at A
 ·rename_i fn B
  simp only[ed,bne_iff_ne,ne_eq]at A;obtain⟨b,D⟩:=Pl.1 A.2;simp[callFunc,B,A.1,D]
 ·cases A
theorem vR(R:Rel P nt n0 w0 π0 U s a w β τ π) {o:Oper} (ar:¬U id) (A:SQ P o.op=some c) (h:bS (Pure P) id c K s) (hn:∀v s' x w' β' τ' π',K v s'->RV β' τ' w' π' v x->v.gS (fu U id)->Rel P nt n0 w0 π0 (fu U id) s' a w' β' τ' π'->next (a.put o.dst x) w'):o.wp P a w next Q:=by
 obtain⟨dst,op,D,pos,after,guard⟩:=o;simp only at A
 have ad:∀n,U n->fu U id n:=λn h=>.inl h
 -- a value,nothing else
 have fin:∀{v:SV} {y:Value},(execOp a.eval ⟨dst,op,D,pos,after,guard⟩).run P w=.ok (.value y) w->RV β τ w π v y->v.gS U->K v s->Oper.wp P ⟨dst,op,D,pos,after,guard⟩ a w next Q:=by
  intro v y L E V hK;unfold Oper.wp;rw[L];exact hn v s y w β τ π hK E (SV.nN ad V) (R.sub ad)
 have Z:∀{v:AV} {y:Value},(execOp a.eval ⟨dst,op,D,pos,after,guard⟩).run P w=.ok (.value y) w->DV w π v y->K (.dat v none) s->Oper.wp P ⟨dst,op,D,pos,after,guard⟩ a w next Q:=
  λ{v y} L E hK=>fin (v:=.dat v none) L ⟨E,λt ht=>by cases ht⟩ trivial hK
 cases op<;>simp only[SQ]at A<;>try(cases A;done)
 case move x=>
  simp only[eg]at A;obtain⟨x',O,rfl⟩:=A;simp only[bS]at h;obtain⟨v,E,hK⟩:=ah h;obtain⟨L,V⟩:=R.bX O E;exact fin rfl L V hK
 case assign x=>
  simp only[eg]at A;obtain⟨x',O,rfl⟩:=A;simp only[bS]at h;obtain⟨v,E,hK⟩:=ah h;obtain⟨L,V⟩:=R.bX O E;exact fin rfl L V hK
 case pick cc aa bb=>
  split at A<;>try(cases A;done)
  rename_i c' a' b' h1 h2 h3;cases A;simp only[bS]at h;obtain⟨t,ht,h⟩:=ah h
  have hd:=R.aM h1 ht
  cases t<;>try(exact h.elim)
  rename_i t;obtain⟨u,V,h⟩:=ah h;obtain⟨v,E,cr,c6⟩:=ah h
  have hb:=hd.y6
  obtain⟨ra,ua⟩:=R.bX h2 V;obtain⟨rb,ub⟩:=R.bX h3 E;cases t
  ·exact fin (by simp[execOp,hb,asBool]) rb ub (c6 rfl)
  ·exact fin (by simp[execOp,hb,asBool]) ra ua (cr rfl)
 case alloc t=>
  simp only[eg]at A;obtain⟨zs,hz,rfl⟩:=A;simp only[bS]at h
  obtain⟨z,c0,c4,co⟩:=tV (P:=P) (w:=w) (π:=π) hz
  have L:(execOp a.eval ⟨dst,.alloc t,D,pos,after,guard⟩).run P w=.ok (.value (.pointer (some ⟨w.heap.size,0,none⟩))) (w.alloc (.cells z.cells t)):=by
   simp[execOp,Instr.alloc,c0,newVar,Go.newRow]
  unfold Oper.wp;rw[L]
  exact hn _ _ _ _ _ _ _ h (show RV (FP β id w.heap.size) τ _ π (.ptr id 0) _ by simp[RV,cj]) (.inr rfl) (R.K5 ar t c4.take co)
 case box t x=>
  simp only[eg]at A;obtain⟨x',O,rfl⟩:=A;simp only[bS]at h;obtain⟨av,E,h⟩:=ah h
  have hd:=R.aM O E
  have L:(execOp a.eval ⟨dst,.box t x,D,pos,after,guard⟩).run P w=.ok (.value (.pointer (some ⟨w.heap.size,0,none⟩))) (w.alloc (.cells (a.eval x).cells t)):=by
   simp[execOp,Instr.box,newVar,Go.newRow]
  obtain⟨ao,hK⟩:=h
  obtain⟨c3,ab⟩:=hd.cells (λvs e=>by subst e;simp[jo]at ao)
  unfold Oper.wp;rw[L]
  exact hn _ _ _ _ _ _ _ hK (show RV (FP β id w.heap.size) τ _ π (.ptr id 0) _ by simp[RV,cj]) (.inr rfl) (R.K5 ar t c3.take ab)
 case build t ps=>
  split at A<;>try(cases A;done)
  rename_i zs df hz cv
  split at A<;>try(cases A;done)
  rename_i b0;cases A;simp only[ed]at b0;obtain⟨v,y,L,E,V,hK⟩:=R.build hz cv b0.1 b0.2 h
  exact fin (by simp only[execOp,fi,L,e9,iv]) E V hK
 case buildSlice t n ps=>
  split at A<;>try(cases A;done)
  rename_i e ht
  split at A<;>try(cases A;done)
  rename_i zs z xs hz a3 ac
  split at A<;>try(cases A;done)
  rename_i ao;cases A;obtain⟨v,y,s',w',τ',π',L,E,V,hK,R'⟩:=R.buildSlice ht hz a3 ac ao ar h;unfold Oper.wp
  have:(execOp a.eval ⟨dst,.buildSlice t n ps,D,pos,after,guard⟩).run P w=.ok (.value y) w':=by simp only[execOp,fi,L,e9,iv]
  rw[this];exact hn v s' y w' β τ' π' hK E V R'
 case load t x=>
  split at A<;>try(cases A;done)
  rename_i r x' L O;cases A
  have:∃v y,(Instr.loadAt t (a.eval x)).run P w=.ok y w/\RV β τ w π v y/\v.gS U/\K v s:=by
   split at h
   ·exact R.aan O L h
   ·exact R.load O L h
  obtain⟨v,y,L,E,V,hK⟩:=this
  exact fin (by simp only[execOp,fi,L,e9,iv]) E V hK
 case store t x v=>
  split at A<;>try(cases A;done)
  rename_i z x' v' hz O E;cases A;obtain⟨s',w',L,hK,R'⟩:=R.store O E hz h;unfold Oper.wp
  have:(execOp a.eval ⟨dst,.store t x v,D,pos,after,guard⟩).run P w=.ok .skip w':=by simp only[execOp,fi,L,e9,iv]
  rw[this];exact hn .undef s' undef w' β τ π hK rfl trivial (R'.sub ad)
 case nilCheck x=>
  simp only[eg]at A;obtain⟨x',O,rfl⟩:=A;simp only[bS]at h;obtain⟨v,E,h⟩:=ah h;obtain⟨L,V⟩:=R.bX O E
  cases v with
  |ptr b o=>
   have he:a.eval x=.pointer (some ⟨β b,o,none⟩):=L
   exact fin (v:=.ptr b o) (by simp[execOp,he]) (show RV β τ w π (.ptr b o) (.pointer (some ⟨β b,o,none⟩))from rfl) V h
  |rp cs=>
   obtain⟨B,off,f,he,au⟩:=L
   exact fin (v:=.rp cs) (by simp[execOp,he]) (show RV β τ w π (.rp cs) (.pointer (some ⟨B,off,none⟩))from⟨B,off,f,rfl,au⟩) trivial h
  |undef=>exact h.elim
  |vs _ _ _ _=>exact h.elim
  |wz _ _ _=>exact h.elim
  |raw _ _=>exact h.elim
  |pt _ _=>exact h.elim
  |dat av q=>
   cases av<;>try(exact h.elim)
   case ref cs=>
    obtain⟨B,off,f,he,au⟩:=(RV.ref (β:=β) (τ:=τ)).2 L.1
    exact fin (v:=.rp cs) (by simp[execOp,he]) (show RV β τ w π (.rp cs) (.pointer (some ⟨B,off,none⟩))from⟨B,off,f,rfl,au⟩) trivial h
   rename_i fn as bs
   cases fn<;>try(exact h.elim)
   rename_i f
   have b8:=L
   obtain⟨hd,db⟩:=L;generalize ch:a.eval x=y at hd b8;cases hd
   exact fin (by simp[execOp,ch]) b8 V h
 case binOp op t x y yt=>
  split at A<;>try(cases A;done)
  rename_i x' y' O hy;split at A
  ·rename_i cp
   cases A;simp only[bS]at h;obtain⟨av,M,h⟩:=ah h;obtain⟨bv,a7,h⟩:=ah h;obtain⟨v,E,hK⟩:=ah h
   obtain⟨u,w',a5,V,hd⟩:=S8 (P:=P) (X:=x) (Y:=y) cp E (R.aM O M) (R.aM hy a7)
   rcases a5 with rfl|rfl
   ·exact Z (by simp only[execOp];rw[fi,V];rfl) hd hK
   ·have L:(execOp a.eval ⟨dst,.binOp op t x y yt,D,pos,after,guard⟩).run P w=.ok (.value u) w.drew:=by
     simp only[execOp];rw[fi,V];rfl
    unfold Oper.wp;rw[L]
    exact hn (.dat v none) _ _ _ _ _ _ hK ⟨Wk.dv (Or.inr rfl) hd,λt ht=>by cases ht⟩ trivial (R.draw.sub ad)
  ·split at A
   ·rename_i ci
    have key:∀neg,((op=.eql/\neg=false)\/(op=.neq/\neg=true))->c=.bb neg x' y'->Oper.wp P ⟨dst,.binOp op t x y yt,D,pos,after,guard⟩ a w next Q:=by
     intro neg be e;subst e;simp only[bS]at h;obtain⟨av,M,h⟩:=ah h;obtain⟨bv,a7,h⟩:=ah h;obtain⟨v,E,hK⟩:=ah h
     obtain⟨u,V,hd⟩:=WY (P:=P) (X:=x) (Y:=y) be ci E (R.aM O M) (R.aM hy a7)
     exact Z (by simp only[execOp];rw[fi,V];rfl) hd hK
    split at A<;>try(cases A;done)
    ·cases A;exact key false (.inl ⟨rfl,rfl⟩) rfl
    ·cases A;exact key true (.inr ⟨rfl,rfl⟩) rfl
   split at A
   ·rename_i ct
    have key:∀neg,((op=.eql/\neg=false)\/(op=.neq/\neg=true))->y'=.k .bV->c=.WE neg x'->Oper.wp P ⟨dst,.binOp op t x y yt,D,pos,after,guard⟩ a w next Q:=by
     intro neg be ey e;subst e ey;simp only[bS]at h;obtain⟨av,M,h⟩:=ah h;obtain⟨b,hb,hK⟩:=ah h
     have L:=Th (P:=P) (X:=x) (Y:=y) be ct hb (R.aM O M) (R.aM (v:=.bV) hy rfl)
     exact Z (by simp only[execOp];rw[fi,L];rfl) (.bool _) hK
    split at A<;>try(cases A;done)
    ·cases A;exact key false (.inl ⟨rfl,rfl⟩) rfl rfl
    ·cases A;exact key true (.inr ⟨rfl,rfl⟩) rfl rfl
   ·have key:∀neg,((op=.eql/\neg=false)\/(op=.neq/\neg=true))->cEq P t neg x' y'=some c->Oper.wp P ⟨dst,.binOp op t x y yt,D,pos,after,guard⟩ a w next Q:=by
     intro neg be he;unfold cEq at he
     split at he<;>try(cases he;done)
     rename_i ks hk
     split at he<;>try(cases he;done)
     rename_i hg;cases he;simp only[bS]at h;obtain⟨av,M,h⟩:=ah h
     cases av<;>try(exact h.elim)
     obtain⟨bv,a7,h⟩:=ah h
     cases bv<;>try(exact h.elim)
     obtain⟨e,he,hK⟩:=ah h
     have L:=Tg (P:=P) (X:=x) (Y:=y) be hk hg (R.aM O M) (R.aM hy a7) he
     exact Z (by simp only[execOp];rw[fi,L];rfl) (.bool _) hK
    split at A<;>try(cases A;done)
    ·exact key false (.inl ⟨rfl,rfl⟩) A
    ·exact key true (.inr ⟨rfl,rfl⟩) A
 case unOp op t x=>
  simp only[eg]at A;obtain⟨x',O,rfl⟩:=A;simp only[bS]at h;obtain⟨av,M,h⟩:=ah h;obtain⟨v,E,hK⟩:=ah h
  obtain⟨u,V,hd⟩:=WZ (P:=P) E (R.aM O M)
  exact Z (by simp only[execOp,fi,V,e9,iv]) hd hK
 case convert sr ds x=>
  simp only[jp]at A;obtain⟨x',O,A⟩:=A
  have c5:=A
  have key:∀{av v:AV},Eng.aM s x'=some av->((∃k,c=.rm k x'/\F6 k av=some v)\/(∃k,c=.Dw k x'/\F7 k av=some v)\/(∃k,c=.Hf k x'/\yQ k av=some v))->K (.dat v none) s->Oper.wp P ⟨dst,.convert sr ds x,D,pos,after,guard⟩ a w next Q:=by
   intro av v M cu hK
   obtain⟨u,V,hd⟩:=PM (P:=P) (X:=x) c5 (R.aM O M) cu
   exact Z (by simp only[execOp,fi,V,e9,iv]) hd hK
  unfold IU at A
  split at A<;>try(cases A;done)
  all_goals
   cases A;simp only[bS]at h;obtain⟨av,M,h⟩:=ah h;obtain⟨v,E,hK⟩:=ah h
   first
    |exact key M (.inl ⟨_,rfl,E⟩) hK
    |exact key M (.inr (.inl ⟨_,rfl,E⟩)) hK
    |exact key M (.inr (.inr ⟨_,rfl,E⟩)) hK
 case makeFunc fn first caps=>
  cases fn<;>simp only[]at A<;>try(cases A;done)
  rename_i f
  split at A<;>try(cases A;done)
  rename_i as bs h1 h2
  split at A<;>try(cases A;done)
  cases A;simp only[bS]at h;obtain⟨xs,ac,h⟩:=ah h;obtain⟨⟨a4,ids⟩,al,ao,h⟩:=ah h;obtain⟨css,ab,hK⟩:=ah h;simp only[ed]at ao
  have d1:=R.eS (by simpa[gV]using h1) ac
  obtain⟨d2,cy⟩:=R.eV (by simpa[gV]using h2) al
  obtain⟨π',hp,R',bi⟩:=Rel.zc R (gp ao.1) ao.2 ab
  have cx:=(gJ ab).1
  have d3:=vQ hp d2 (cy rfl) (by simpa using cx) (λk cs B h1 h2=>by
   rw[im,eg]at h2;obtain⟨b,hb,rfl⟩:=h2
   exact bi k b cs hb h1)
  have ce:=d1.mono hp (λ_ _ _=>rfl)
  have L:(execOp a.eval ⟨dst,.makeFunc (.func f) first caps,D,pos,after,guard⟩).run P w=.ok (.value (.func (.func f) (first.map a.eval) (caps.map a.eval))) w:=by simp[execOp,Instr.makeFunc]
  unfold Oper.wp;rw[L]
  refine hn (.dat (.fn (.func f) xs (j8 a4 css)) none) _ _ _ _ _ _ hK ⟨?_,λt ht=>by cases ht⟩ trivial (R'.sub ad)
  exact .fn _ _ _ _ _ (by simpa using ce.1) (by simpa using d3.1) (λi x v O E=>ce.2 i x v O (by simpa using E)) (λi x v O E=>d3.2 i x v O (by simpa using E))
 case slice t x lo hi mx=>
  cases mx<;>simp only[]at A<;>try(cases A;done)
  split at A<;>try(cases A;done)
  ·rename_i e x' dd cg ht O hl hh
   simp only[eg]at A;obtain⟨z,hz,rfl⟩:=A;obtain⟨v,y,L,E,V,hK⟩:=R.slice ht hz O hl hh h
   exact fin (by simp only[execOp,fi,Id,L,e9,iv]) E V hK
  ·rename_i n e x' ht O hl hh
   simp only[eg]at A;obtain⟨z,hz,rfl⟩:=A
   have e1:lo=none:=by cases lo with|none=>rfl|some y=>simp[cOpt]at hl
   have e2:hi=none:=by cases hi with|none=>rfl|some y=>simp[cOpt]at hh
   subst e1 e2;simp only[bS]at h;obtain⟨v,E,h⟩:=ah h
   have ae:=(R.bX O E).1
   cases v<;>try(exact h.elim)
   ·rename_i b off
    obtain⟨h4,h⟩:=h;obtain⟨bx,hb,bj,hK⟩:=ah h
    have he:a.eval x=.pointer (some ⟨β b,off,none⟩):=ae
    have ab:bh s.boxes [b]=some [bx.cells]:=by simp[bh,hb]
    obtain⟨π',hp,R',bi⟩:=Rel.zc R (ids:=[b]) TB (by simp[jl,h4]) ab
    have L:(execOp a.eval ⟨dst,.slice t x none none none,D,pos,after,guard⟩).run P w=.ok (.value (.slice (some ⟨β b,off,none⟩) n n)) w:=by
     simp only[execOp,Id,he,fi,MC ht hz,e9,iv]
    unfold Oper.wp;rw[L]
    refine hn _ _ _ _ _ _ _ hK ⟨?_,λt ht=>by cases ht⟩ trivial (R'.sub ad)
    have:=PR (bi 0 b bx.cells rfl rfl) bj
    simpa using this
   ·rename_i cs
    obtain⟨bj,hK⟩:=h;obtain⟨B,o,f,he,h1,h2,h3,h5⟩:=ae
    have hd:DV w π (.ref cs) (.pointer (some ⟨B,o,none⟩)):=.ref cs B o f h1 h2 h3 h5
    have:=PR (off:=0) hd (by simpa using bj)
    refine Z ?_ (by simpa using this) hK
    have he:a.eval x=.pointer (some ⟨B,o,none⟩):=he
    simp only[execOp,Id,he,fi,MC ht hz,e9,iv]
  ·rename_i n e x' cg ht O hl hh
   simp only[eg]at A;obtain⟨z,hz,rfl⟩:=A
   have e1:lo=none:=by cases lo with|none=>rfl|some y=>simp[cOpt]at hl
   subst e1
   cases hi with
   |none=>simp[cOpt]at hh
   |some hi=>
    simp only[cOpt,eg,fo,exists_eq_right]at hh;simp only[bS]at h;obtain⟨v,E,h⟩:=ah h
    have ae:=(R.bX O E).1
    have c1:=(R.bX O E).2
    cases v<;>try(exact h.elim)
    rename_i b off;obtain⟨b1,da,h⟩:=ah h;obtain⟨j,hj,⟨h0,h1⟩,hK⟩:=ah h;obtain⟨k,hk⟩:=R.idx hh da hj
    have he:a.eval x=.pointer (some ⟨β b,off,none⟩):=ae
    have L:(execOp a.eval ⟨dst,.slice t x none (some hi) none,D,pos,after,guard⟩).run P w=.ok (.value (.slice (some ⟨β b,off,none⟩) j.toNat n)) w:=by
     simp only[execOp,Id,ma,he,hk,fi,Tj ht hz h0 h1,e9,iv]
    exact fin (v:=.vs b off j.toNat z) L ⟨n,ST,rfl⟩ c1 hK
 case fieldAddr t x f=>
  split at A<;>try(cases A;done)
  rename_i fd x' hf O
  split at A<;>try(cases A;done)
  rename_i hz;cases A;obtain⟨v,y,L,E,V,hK⟩:=R.fieldAddr O hf hz h
  exact fin (by simp only[execOp,fi,L,e9,iv]) E V hK
 case field t x f=>
  split at A<;>try(cases A;done)
  rename_i fd x' hf O;simp only[eg]at A;obtain⟨r,L,rfl⟩:=A;simp only[bS]at h;obtain⟨av,M,h⟩:=ah h
  have hd:=R.aM O M
  cases av<;>try(exact h.elim)
  rename_i cs;obtain⟨v,E,hK⟩:=ah h;unfold yY at hf
  split at hf<;>try(cases hf;done)
  rename_i fs V;generalize he:a.eval x=u at hd
  cases hd with
  |agg _ us h1 h2 h3=>
   obtain⟨u,b7,ag⟩:=IZ (P:=P) L h1 h2 h3 E
   exact Z (by simp[execOp,he,Instr.field,asAgg,ii V,hf,b7]) ag hK
 case indexAddr t x i=>
  split at A<;>try(cases A;done)
  ·rename_i n e x' i' ht O hi
   simp only[eg]at A;obtain⟨z,hz,rfl⟩:=A;obtain⟨v,y,L,E,V,hK⟩:=R.PN O hi ht hz h
   exact fin (by simp only[execOp,fi,L,e9,iv]) E V hK
  ·rename_i e x' i' ht O hi
   simp only[eg]at A;obtain⟨z,hz,rfl⟩:=A;obtain⟨v,y,L,E,V,hK⟩:=R.Tf O hi ht hz h
   exact fin (by simp only[execOp,fi,L,e9,iv]) E V hK
 case index t x i=>
  split at A<;>try(cases A;done)
  rotate_left
  ·rename_i x' i' ht O hi
   cases A;simp only[bS]at h;obtain⟨av,M,h⟩:=ah h
   have hd:=R.aM O M
   cases av<;>try(exact h.elim)
   rename_i bs;obtain⟨b,hb,h⟩:=ah h;obtain⟨j,hj,h⟩:=ah h;obtain⟨v,E,hK⟩:=ah h;obtain⟨k,hk⟩:=R.idx hi hb hj;generalize he:a.eval x=u at hd;cases hd;unfold Mp at E
   split at E<;>try(cases E;done)
   rename_i b3;cases E
   exact Z (by simp[execOp,he,Instr.index,hk,asIntOf,ii ht,b3]) (.int _ _) hK
  rename_i n e x' i' ht O hi
  split at A<;>try(cases A;done)
  rename_i z r hz L;cases A;simp only[bS]at h;obtain⟨av,M,h⟩:=ah h
  have hd:=R.aM O M
  cases av<;>try(exact h.elim)
  rename_i cs;obtain⟨b,hb,h⟩:=ah h;obtain⟨j,hj,h⟩:=ah h;obtain⟨b3,h⟩:=h;obtain⟨v,E,hK⟩:=ah h;obtain⟨k,hk⟩:=R.idx hi hb hj
  have a3:=eH (w:=w) hz
  generalize he:a.eval x=u at hd
  cases hd with
  |agg _ us h1 h2 h3=>
   obtain⟨u,b7,ag⟩:=IZ (P:=P) L h1 h2 h3 E
   exact Z (by simp[execOp,he,Instr.index,hk,asIntOf,ii ht,b3,a3,b7]) ag hK
 case extract x i=>
  simp only[eg]at A;obtain⟨x',O,rfl⟩:=A;simp only[bS]at h;obtain⟨av,M,h⟩:=ah h;obtain⟨v,E,hK⟩:=ah h
  obtain⟨u,V,hd⟩:=Ta (P:=P) E (R.aM O M)
  exact Z (by simp only[execOp,fi,V,e9,iv]) hd hK
 case call cl=>
  obtain⟨callee,args,argTypes⟩:=cl
  -- a call
  have enter:∀{f:Nat} {as:List AV} {vs:List Value} {r:AV} {fr:Option Nat},Gb P f as r fr->jn w π as vs->
    (execOp a.eval ⟨dst,.call ⟨callee,args,argTypes⟩,D,pos,after,guard⟩).run P w=.ok (.enter f vs.toArray) w->
    K (.dat r (fr.map λ_=>id)) {s with live:=match(generalizing:=false) fr with|some e=>(id,e)::s.live|none=>s.live}->
    Oper.wp P ⟨dst,.call ⟨callee,args,argTypes⟩,D,pos,after,guard⟩ a w next Q:=by
   intro f as vs r fr hp hd L hK;unfold Oper.wp;rw[L,t0];refine(hp.2 w π vs R.gj hd).mono ?_
   rintro e w' ⟨v,π',rfl,am,ba,a8,a2,a9,bd⟩
   obtain⟨τ',ae,R'⟩:=R.called ar am ba a8 a2 a9 bd
   exact hn _ _ _ _ _ _ _ hK ae (by cases fr with|none=>trivial|some e=>exact .inr rfl) R'
  simp only[wD]at A;split at A
  ·rename_i f
   by_cases ak:dB P f=true
   rotate_left
   ·rw[ek ak]at A
    split at A<;>try(cases A;done)
    rename_i e x c2 hargs;simp only[eg]at A;obtain⟨x',O,rfl⟩:=A;simp only[bS]at h;obtain⟨av,M,h⟩:=ah h;obtain⟨v,E,hK⟩:=ah h
    obtain⟨u,V,ag⟩:=W6 c2 E (R.aM O M)
    have eX:args=#[x]:=ll.1 (by simpa using hargs)
    subst eX
    exact Z (by simp[execOp,resolve,Act.eval,Deferred.ofValue,invoke];simpa[Act.eval]using V) ag hK
   rw[et ak]at A;simp only[eg]at A;obtain⟨xs,ac,b5⟩:=A;split at b5
   ·subst b5
    simp only[bS]at h;obtain⟨⟨a4,ids⟩,al,b6,h⟩:=ah h;obtain⟨css,ab,r,fr,bm,hp,hK⟩:=ah h
    have hp:DH P f css a4 r fr bm:=hp
    obtain⟨ca,b2,_,hp⟩:=hp
    have an:ids.Nodup:=gp b6
    have bo:=(R.eV (by simpa[gV]using ac) al).1
    have e1:(args.toList.map a.eval).toArray=args.map a.eval:=ll.1 TB
    have L:(execOp a.eval ⟨dst,.call ⟨.value (.func f),args,argTypes⟩,D,pos,after,guard⟩).run P w=.ok (.enter f (args.toList.map a.eval).toArray) w:=by
     rw[e1];simp[execOp,resolve,Act.eval,Deferred.ofValue,invoke,gK ak]
    unfold Oper.wp;rw[L,t0];refine(hp w π (ids.map β) (args.toList.map a.eval) R.gj (R.nodup an ab) (R.rE ab) bo).mono ?_
    rintro e w' ⟨v,π',rfl,am,ba,a8,a2,b4,a9,bd⟩
    obtain⟨τ',ae,R'⟩:=R.y9 ar an ab b2 am ba a8 a2 b4 a9 bd
    exact hn _ _ _ _ _ _ _ hK ae (by cases fr with|none=>trivial|some e=>exact .inr rfl) R'
   subst b5;simp only[bS]at h;obtain⟨as,has,r,fr,hp,hK⟩:=ah h
   have hd:=R.eS (by simpa[gV]using ac) has
   have e1:(args.toList.map a.eval).toArray=args.map a.eval:=ll.1 TB
   exact enter hp hd (by rw[e1];simp[execOp,resolve,Act.eval,Deferred.ofValue,invoke,gK ak]) hK
  ·rename_i g hg
   split at A<;>try(cases A;done)
   rename_i g' xs cb ac;simp only[fo]at A;split at A
   ·subst A
    simp only[bS]at h;obtain⟨av,M,h⟩:=ah h
    have a6:=R.aM cb M
    cases av<;>try(exact h.elim)
    rename_i fn first caps
    cases fn<;>try(exact h.elim)
    rename_i f
    cases first<;>try(exact h.elim)
    cases caps<;>try(exact h.elim)
    obtain⟨⟨a4,ids⟩,al,b6,h⟩:=ah h;obtain⟨css,ab,r,fr,bm,hp,hK⟩:=ah h
    have hp:DH P f css a4 r fr bm:=hp
    obtain⟨ca,b2,_,hp⟩:=hp
    have an:ids.Nodup:=gp b6
    have bo:=(R.eV (by simpa[gV]using ac) al).1
    have e1:(args.toList.map a.eval).toArray=args.map a.eval:=ll.1 TB
    have L:(execOp a.eval ⟨dst,.call ⟨.value g,args,argTypes⟩,D,pos,after,guard⟩).run P w=.ok (.enter f (args.toList.map a.eval).toArray) w:=by
     generalize he:a.eval g=u at a6
     cases a6 with
     |fn _ _ vs _ us h1 h2 h3 h4=>
      have e2:vs=#[]:=Hm.1 (by simpa using h1.symm)
      have e3:us=#[]:=Hm.1 (by simpa using h2.symm)
      subst e2 e3;rw[e1];simp[execOp,resolve,he,Deferred.ofValue,invoke,gK ca]
    unfold Oper.wp;rw[L,t0];refine(hp w π (ids.map β) (args.toList.map a.eval) R.gj (R.nodup an ab) (R.rE ab) bo).mono ?_
    rintro e w' ⟨v,π',rfl,am,ba,a8,a2,b4,a9,bd⟩
    obtain⟨τ',ae,R'⟩:=R.y9 ar an ab b2 am ba a8 a2 b4 a9 bd
    exact hn _ _ _ _ _ _ _ hK ae (by cases fr with|none=>trivial|some e=>exact .inr rfl) R'
   subst A;simp only[bS]at h;obtain⟨av,M,h⟩:=ah h
   have a6:=R.aM cb M
   cases av<;>try(exact h.elim)
   rename_i fn first caps
   cases fn<;>try(exact h.elim)
   rename_i f;obtain⟨as,has,r,fr,hp,hK⟩:=ah h
   have hd:=R.eS (by simpa[gV]using ac) has
   generalize he:a.eval g=u at a6
   cases a6 with
   |fn _ _ vs _ us h1 h2 h3 h4=>
    have d1:jn w π first vs.toList:=⟨by simpa using h1,λi x v O E=>h3 i x v O (by simpa using E)⟩
    have d2:jn w π caps us.toList:=⟨by simpa using h2,λi x v O E=>h4 i x v O (by simpa using E)⟩
    have e1:(vs.toList++(args.toList.map a.eval)++us.toList).toArray=vs++args.map a.eval++us:=by
     apply ll.1;simp
    refine enter hp ((d1.append hd).append d2) ?_ hK;rw[e1]
    simp[execOp,resolve,he,Deferred.ofValue,invoke,gK (show Gb P _ _ _ _ from hp).1]
  ·--len
   split at A<;>try(cases A;done)
   rename_i t x hT hX
   split at A<;>try(cases A;done)
   ·rename_i e ht
    simp only[eg]at A;obtain⟨x',O,rfl⟩:=A;simp only[bS]at h;obtain⟨sv,al,h⟩:=ah h
    cases sv with
    |ptr _ _=>exact h.elim
    |rp _=>exact h.elim
    |undef=>exact h.elim
    |wz _ _ _=>exact h.elim
    |raw _ _=>exact h.elim
    |pt _ _=>exact h.elim
    |vs b off n z=>
     obtain⟨⟨cap,_,E⟩,_⟩:=R.bX O al
     exact Z (v:=.int .i64 n) (y:=.int .i64 n) (by simp[execOp,resolve,invoke,builtin,Builtin.len_,hT,hX,E,ii ht,goInt]) (.int _ _) h
    |dat av q=>
     obtain⟨v,E,hK⟩:=ah h
     have M:Eng.aM s x'=some av:=by simp[Eng.aM,al]
     obtain⟨u,V,hd⟩:=S9 (P:=P) ht hT (Xs:=args.map a.eval) (by simp[hX]) (R.aM O M) E D
     exact Z (by simp[execOp,resolve,invoke,builtin,V]) hd hK
   ·rename_i n e ht
    cases A;simp only[bS]at h
    exact Z (v:=.int .i64 n) (y:=.int .i64 n) (by simp[execOp,resolve,invoke,builtin,Builtin.len_,hT,hX,ii ht,goInt]) (.int _ _) h
  ·--append
   split at A<;>try(cases A;done)
   rename_i t t' x y hT hX
   split at A<;>try(cases A;done)
   rename_i ck;subst ck
   split at A<;>try(cases A;done)
   rename_i e x' y' ht O hy
   split at A<;>try(cases A;done)
   rename_i i hi
   split at A<;>try(cases A;done)
   rename_i zv hz
   split at A<;>try(cases A;done)
   rename_i a3;cases A;obtain⟨v,u,s',w',τ',π',L,E,V,hK,R'⟩:=R.append ht hi hz a3 O hy ar D h
   have eT:argTypes=#[t,t]:=ll.1 (by simpa using hT)
   have eX:args=#[x,y]:=ll.1 (by simpa using hX)
   subst eT eX;unfold Oper.wp
   have:(execOp a.eval ⟨dst,.call ⟨.builtin .append,#[x,y],#[t,t]⟩,D,pos,after,guard⟩).run P w=.ok (.value u) w':=by
    simp[execOp,resolve,invoke,builtin,L]
   rw[this];exact hn v s' u w' β τ' π' hK E V R'
  ·simp only[eg]at A
   obtain⟨xs,ac,rfl⟩:=A;simp only[bS]at h;obtain⟨as,has,h⟩:=ah h
   have hd:=R.eS (by simpa[gV]using ac) has
   cases as with
   |nil=>exact h.elim
   |cons b as=>
    obtain⟨v,E,hK⟩:=ah h;obtain⟨args⟩:=args
    cases args with
    |nil=>have:=hd.1;simp at this
    |cons y ys=>
     obtain⟨u,w',a5,V,ag⟩:=K6 (P:=P) E (hd.2 0 b (a.eval y) rfl rfl) (us:=ys.map a.eval) ⟨by have:=hd.1;simpa using this,λi a v h1 h2=>hd.2 (i+1) a v (by simpa using h1) (by simpa using h2)⟩
     simp only[kh]at V
     have L:(execOp a.eval ⟨dst,.call ⟨.builtin .max,⟨y::ys⟩,argTypes⟩,D,pos,after,guard⟩).run P w=.ok (.value u) w':=by simp[execOp,resolve,invoke,builtin,Builtin.max_,V]
     unfold Oper.wp;rw[L]
     exact hn (.dat v none) _ _ _ _ _ _ hK ⟨ag,λt ht=>by cases ht⟩ trivial (R.oM a5|>.sub ad)
  ·simp only[eg]at A
   obtain⟨xs,ac,rfl⟩:=A;simp only[bS]at h;obtain⟨as,has,h⟩:=ah h
   have hd:=R.eS (by simpa[gV]using ac) has
   cases as with
   |nil=>exact h.elim
   |cons b as=>
    obtain⟨v,E,hK⟩:=ah h;obtain⟨args⟩:=args
    cases args with
    |nil=>have:=hd.1;simp at this
    |cons y ys=>
     obtain⟨u,w',a5,V,ag⟩:=K6 (P:=P) E (hd.2 0 b (a.eval y) rfl rfl) (us:=ys.map a.eval) ⟨by have:=hd.1;simpa using this,λi a v h1 h2=>hd.2 (i+1) a v (by simpa using h1) (by simpa using h2)⟩
     simp only[ev,ib]at V
     have L:(execOp a.eval ⟨dst,.call ⟨.builtin .min,⟨y::ys⟩,argTypes⟩,D,pos,after,guard⟩).run P w=.ok (.value u) w':=by simp[execOp,resolve,invoke,builtin,Builtin.min_,V]
     unfold Oper.wp;rw[L]
     exact hn (.dat v none) _ _ _ _ _ _ hK ⟨ag,λt ht=>by cases ht⟩ trivial (R.oM a5|>.sub ad)
  ·cases A
theorem BZ(z:Nat):∀(n:Nat) (cs:List AV),(dA z n cs).flatten=cs.take (n*z)
 |0,cs=>by simp[dA]
 |n+1,cs=>by
  rw[dA,NE,BZ z n,Nat.succ_mul,Nat.add_comm,List.take_add]
theorem B3(z:Nat):∀(n:Nat) (cs:List AV),n*z<=cs.length->∀r∈dA z n cs,r.length=z
 |0,cs,_,r,h=>by simp[dA]at h
 |n+1,cs,A,r,h=>by
  rw[Nat.succ_mul]at A;rw[dA]at h
  rcases mp.1 h with rfl|h
  ·simp;omega
  ·exact B3 z n (cs.drop z) (by simp;omega) r h
theorem Rel.Tm(R:Rel P nt n0 w0 π0 U s a w β τ π) {e:TypeId} {i:TypeInfo} {zv:Value} {x:bC} {y:Nat} (M:P.underlying t=some (.slice e)) (hi:P.info? e=some i) (hz:i.zero=some zv) (V:(0<i.size&&zv.cells.size==i.size&&0<i.bytes)=true) (hx:cq X=some x) (a6:¬U id) (ty:TypeId) (h:bS (Pure P) id (.FQ e i.size i.bytes (.t y) x) K s):
  ∃v u s' w' τ' π',(Builtin.append_ #[t,t] ty #[.slice none 0 0,a.eval (.tmp y)]).run P w=.ok u w'/\RV β τ' w' π' v u/\v.gS (fu U id)/\K v s'/\Rel P nt n0 w0 π0 (fu U id) s' a w' β τ' π':=by
 simp only[ed,gc,kb]at V;obtain⟨⟨ao,a4⟩,au⟩:=V
 have ag:∀n,U n->fu U id n:=λn h=>.inl h
 simp only[bS]at h;obtain⟨p,hp,h⟩:=ah h
 have am:=(R.bX (X:=.tmp y) (x:=.t y) rfl hp).1
 cases p<;>try(exact h.elim)
 rename_i b off n z';obtain⟨q,hq,h2⟩:=ah h;clear h
 cases q<;>try(exact h2.elim)
 rename_i b' o';obtain⟨⟨ar,a7⟩,h3⟩:=h2;obtain⟨bx,hb,⟨ac,hbytes⟩,hK⟩:=ah h3;clear h3;subst ar a7;obtain⟨cap,a8,hv⟩:=am;obtain⟨_,_,aa,_⟩:=R.boxes b' bx hb;obtain⟨f,hf,a5,a2,_⟩:=aa.cells;rw[hv];simp only[List.length_drop]at ac
 by_cases L:n=0
 ·subst L
  rw[et rfl]at hK
  refine⟨.dat .bV none,.slice none 0 0,s,w,τ,π,?_,⟨.bV,λt M=>by cases M⟩,trivial,hK,R.sub ag⟩
  simp[Builtin.append_,ii M,sizeOf,typeInfo,hi,Builtin.lenOf,Builtin.firstCells,loadCells,loadCellsFrom]
 ·rw[ek L]at hK
  have ab:0<n:=Nat.pos_of_ne_zero L
  have O:n<=maxLen:=by
   have:=GT n au
   simp only[maxLen];omega
  have B:=xZ i.size n (bx.cells.drop off)
  have ak:=B3 i.size n (bx.cells.drop off) (by simp;omega)
  have E:=BZ i.size n (bx.cells.drop off)
  have al:∀(j:Nat) (c:AV),(dA i.size n (bx.cells.drop off)).flatten[j]? =some c->j<n*i.size/\bx.cells[off+j]? =some c:=by
   intro j c A;rw[E,s8]at A;split at A
   ·rename_i D;rw[lh]at A;exact⟨D,A⟩
   ·cases A
  have hnews:((List.range (n*i.size)).map λj=>f (off+j)).length=n*i.size:=TB
  have hcell:∀j v,((List.range (n*i.size)).map λj=>f (off+j))[j]? =some v->w.cell? ((⟨β b',off,none⟩:Addr).add j)=some v:=by
   intro j v A;rw[im,eg]at A;obtain⟨k,hk,rfl⟩:=A
   have an:j<n*i.size:=by
    rcases kn j (n*i.size)with h|h
    ·exact h
    ·rw[ip (by simpa using h)]at hk;cases hk
   rw[kr an]at hk;cases hk;rw[iP]
   exact hf _ ST
  have a3:jn w π (dA i.size n (bx.cells.drop off)).flatten ((List.range (n*i.size)).map λj=>f (off+j)):=by
   refine⟨by rw[E];simp;omega,λj c v hc A=>?_⟩
   obtain⟨D,hc⟩:=al j c hc;rw[im,kr D]at A;cases A;exact a2 _ _ hc
  have ad:∀r∈dA i.size n (bx.cells.drop off),∀x∈r,x.scalar=true:=by
   intro r hr x hx
   have hm:x∈(dA i.size n (bx.cells.drop off)).flatten:=H1.2 ⟨r,hr,hx⟩
   rw[E]at hm
   obtain⟨j,A⟩:=l3.1 (nf (tl hm))
   exact a5 j x A
  have ae:=run_append_nil (P:=P) w t ty e i zv M hi hz ⟨β b',off,none⟩ n cap _ hnews hcell ab (by simp only[maxLen]at O;omega) ST
  obtain⟨π',R',Z⟩:=R.grown (id:=id) (old:=0) hi hz rfl a4 ao a6 (zs:=dA i.size n (bx.cells.drop off)) (vs:=(List.range (n*i.size)).map λj=>f (off+j)) (by rw[B,hnews]) a3 ak ad (by rw[B];exact O) rfl
  rw[B]at R' Z
  exact⟨.dat (.sl _) (some id),_,_,_,_,_,ae,⟨Z,λt M=>by cases M;rw[cj]⟩,.inr rfl,hK,R'⟩
theorem K8(R:Rel P nt n0 w0 π0 U s a w β τ π) {o:Oper} (A:NM P ops o.op=some c) (h:bS (Pure P) id c K s) (V:∀v E x w' β' τ' π',K v E->RV β' τ' w' π' v x->v.gS (fu U id)->Rel P nt n0 w0 π0 (fu U id) E a w' β' τ' π'->next (a.put o.dst x) w'):o.wp P a w next Q:=by
 obtain⟨dst,op,B,pos,after,guard⟩:=o;simp only at A;unfold NM at A
 split at A<;>try(cases A;done)
 rename_i t x
 split at A<;>try(cases A;done)
 split at A<;>try(cases A;done)
 rename_i r Z D O;cases A;obtain⟨v,y,D,L,M,hK⟩:=R.load O D h;unfold Oper.wp
 have:(execOp a.eval ⟨dst,.load t x,B,pos,after,guard⟩).run P w=.ok (.value y) w:=by simp only[execOp,fi,D,e9,iv]
 rw[this]
 exact V v s y w β τ π hK L (SV.nN (λn h=>.inl h) M) (R.sub λn h=>.inl h)
theorem K9(R:Rel P nt n0 w0 π0 U s a w β τ π) {o:Oper} (V:¬U id) (A:xU P ops o.op=some c) (h:bS (Pure P) id c K s) (hn:∀v E x w' β' τ' π',K v E->RV β' τ' w' π' v x->v.gS (fu U id)->Rel P nt n0 w0 π0 (fu U id) E a w' β' τ' π'->next (a.put o.dst x) w'):o.wp P a w next Q:=by
 obtain⟨dst,op,D,pos,after,guard⟩:=o;simp only at A;unfold xU at A
 split at A<;>try(cases A;done)
 rename_i cl
 split at A<;>try(cases A;done)
 rename_i t t' y B hT hX
 split at A<;>try(cases A;done)
 rename_i O;subst O
 split at A<;>try(cases A;done)
 rename_i e x' ht hx
 split at A<;>try(cases A;done)
 rename_i i hi
 split at A<;>try(cases A;done)
 rename_i zv hz
 split at A<;>try(cases A;done)
 rename_i M;cases A;obtain⟨X,aa,L⟩:=jp.1 hx;obtain⟨v,u,E,w',τ',π',hr,hv,hu,hK,R'⟩:=R.Tm ht hi hz M L V D h;obtain⟨callee,args,argTypes⟩:=cl;simp only at B hT hX
 have eT:argTypes=#[t,t]:=ll.1 (by simpa using hT)
 have eX:args=#[.const (.slice none 0 0),.tmp y]:=ll.1 (by simpa using hX)
 subst eT eX B;unfold Oper.wp
 have:(execOp a.eval ⟨dst,.call ⟨.builtin .append,#[.const (.slice none 0 0),.tmp y],#[t,t]⟩,D,pos,after,guard⟩).run P w=.ok (.value u) w':=by
  have Z:a.eval (.const (.slice none 0 0))=.slice none 0 0:=rfl
  simp[execOp,resolve,invoke,builtin,hr,Z]
 rw[this];exact hn v E u w' β τ' π' hK hv hu R'
end
end
end Go.Eng
