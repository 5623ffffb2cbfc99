/- Part 4 of the engine and its library. -/
import Derived.Test.YtdfplndcbbofjaaGreatPkS3
set_option linter.all false
set_option maxRecDepth 10000
set_option maxHeartbeats 4000000
namespace Go.Eng
open Go
open Go.RowKit (Below)
section
variable{P:Program} {nt:Nat} {n0:ju} {w0:World} {π0:Nat->Nat->Prop} {U:Nat->Prop} {s:S} {a:Act} {w:World} {β:Nat->Nat} {τ:Nat->Value} {π:Nat->Nat->Prop}
section
variable {K:SV->S->Prop} {Q:Exit->Act->World->Prop} {X Y:Operand} {b:Nat} {c:bE} {cs:List AV} {css:List (List AV)} {e:Nat} {fr:Option Nat} {id:Nat} {ids:List Nat} {n:Nat} {neg:Bool} {next:Act->World->Prop} {o off:Nat} {op:BinOp} {ops:List Oper} {r:AV} {t:TypeId} {v:Value} {w':World} {x y:Value} {z:Nat} {π':Nat->Nat->Prop}
theorem Rel.xQ(R:Rel P nt n0 w0 π0 U s a w β τ π) {x:bn} {i:Int} (B:bV X=some x) (A:Eng.xQ (Eng.aF s x)=some i):∃k,a.eval X=.int k i:=by
 cases h:Eng.aF s x with
 |none=>rw[h]at A;cases A
 |some b=>rw[h]at A;exact R.idx B h A
theorem Rel.slice(R:Rel P nt n0 w0 π0 U s a w β τ π) {t e:TypeId} {z:Nat} {X:Operand} {x:bn} {lo Z:Option Operand} {a3 ar:Option bn} (ht:P.underlying t=some (.slice e)) (hz:eI P e=some z) (hx:bV X=some x) (hl:cOpt lo=some a3) (hh:cOpt Z=some ar)
  {id:Nat} {K:SV->S->Prop} (h:bB (Pure P) id (.SZ z x a3 ar) K s):
  ∃v y,(Instr.sliceAt t (a.eval X) (lo.map a.eval) (Z.map a.eval) none).run P w=.ok y w/\RV β τ w π v y/\v.fJ U/\K v s:=by
 simp only[bB]at h;obtain⟨b,hb,k1⟩:=af h;obtain⟨xs,aa,k2⟩:=af k1;obtain⟨l,am,k3⟩:=af k2;obtain⟨m,ae,⟨ao,bm,au⟩,ab,hK⟩:=af k3
 have hd:=R.aF hx hb
 have ak:=dL (P:=P) (w:=w) hz
 -- the bounds
 have a7:(lo=none/\l=0)\/∃L k,lo=some L/\a.eval L=.int k l:=by
  cases lo with
  |none=>simp[cOpt]at hl;subst hl;simp[Au]at am;exact .inl ⟨rfl,am.symm⟩
  |some L=>
   simp only[cOpt,em]at hl;obtain⟨x',ac,rfl⟩:=hl;obtain⟨k,hk⟩:=R.xQ ac am;exact .inr ⟨L,k,rfl,hk⟩
 have an:(Z=none/\m=xs.length)\/∃H k,Z=some H/\a.eval H=.int k m:=by
  cases Z with
  |none=>simp[cOpt]at hh;subst hh;simp[Av]at ae;exact .inl ⟨rfl,ae.symm⟩
  |some H=>
   simp only[cOpt,em]at hh;obtain⟨x',ac,rfl⟩:=hh;obtain⟨k,hk⟩:=R.xQ ac ae;exact .inr ⟨H,k,rfl,hk⟩
 have O:∀cap,xs.length<=cap->(Instr.sliceBounds true xs.length cap (lo.map a.eval) (Z.map a.eval) none).run P w=.ok (l.toNat,m.toNat,cap) w:=by
  intro cap bi
  have ad:(0:Int)<=m:=ST
  have a2:m<=cap:=ST
  have bd:(m.toNat:Int)=m:=tl ad
  rcases a7 with⟨rfl,rfl⟩|⟨L,k,rfl,hL⟩<;>rcases an with⟨rfl,hm⟩|⟨H,k',rfl,hH⟩
  ·subst hm;simp[Instr.sliceBounds]
  ·simp[Instr.sliceBounds,hH,OF,ad,a2]
  ·have hL':=OF (P:=P) w k l xs.length .sliceB ao ST
   have a6:m.toNat=xs.length:=ST
   simp[Instr.sliceBounds,hL,hL',a6]
  ·have be:=OF (P:=P) w k' m cap .sliceAcap ad a2
   have hL':=OF (P:=P) w k l m.toNat .sliceB ao ST
   simp[Instr.sliceBounds,hL,hH,be,hL']
 have ba:(Instr.sliceAt t (a.eval X) (lo.map a.eval) (Z.map a.eval) none).run P w=(Instr.slice t (a.eval X) (lo.map a.eval) (Z.map a.eval) none).run P w:=by
  simp[Instr.sliceAt,il ht]
 rw[ba]
 cases b<;>simp only[rowsOf]at aa<;>try(cases aa;done)
 ·--nil
  cases aa
  have hv:a.eval X=.slice none 0 0:=by generalize a.eval X=v at hd;cases hd;rfl
  have h0:=O 0 TB
  simp at au
  have ag:l=0:=ST
  have al:m=0:=ST
  subst ag al
  refine⟨.dat .bF none,.slice none 0 0,?_,⟨.bF,λt ht=>by cases ht⟩,trivial,hK⟩
  simp only[ge]at h0;simp[hv,Instr.slice,il ht,h0,ak]
 ·cases aa
  generalize hv:a.eval X=v at hd
  cases hd with
  |K1 A=>
   have h0:=O 0 TB
   simp at au
   have ag:l=0:=ST
   have al:m=0:=ST
   subst ag al
   refine⟨.dat (.sl []) none,.slice (some A) 0 0,?_,⟨.K1 A,λt ht=>by cases ht⟩,trivial,hK⟩
   simp only[ge]at h0;simp[Instr.slice,il ht,h0,ak]
  |sl _ B off cap z' f h1 h2 h3 h4 h5 h6=>
   have h0:=O cap h1
   have bj:l.toNat<=m.toNat:=ST
   have bd:m.toNat<=xs.length:=ST
   have V:((xs.take m.toNat).drop l.toNat).length=m.toNat-l.toNat:=by simp;omega
   have M:∀(i:Nat) (r:List AV),((xs.take m.toNat).drop l.toNat)[i]? =some r->xs[l.toNat+i]? =some r:=by
    intro i r D;rw[lh,ul]at D;split at D
    ·exact D
    ·cases D
   have a9:(Instr.slice t (.slice (some ⟨B,off,none⟩) xs.length cap) (lo.map a.eval) (Z.map a.eval) none).run P w=.ok (.slice (some (if cap=l.toNat then⟨B,off,none⟩else⟨B,off+l.toNat*z,none⟩)) (m.toNat-l.toNat) (cap-l.toNat)) w:=by
    simp only[Instr.slice,fp,il ht,fo,h0,ak,i8]
    split<;>simp[gG]
   refine⟨.dat (.sl ((xs.take m.toNat).drop l.toNat)) none,_,a9,⟨?_,λt ht=>by cases ht⟩,trivial,hK⟩
   rw[<-V]
   by_cases a4:cap=l.toNat
   ·rw[gc a4]
    have a8:(xs.take m.toNat).drop l.toNat=[]:=rc (by rw[V];omega)
    rw[a8]
    exact .sl [] B off _ z' f TB (λi r D=>by simp at D) (λi j r a D=>by simp at D) (λi j r a D=>by simp at D) (λi j r a D=>by simp at D) (λi j r a D=>by simp at D)
   ·rw[fx a4]
    have a5:∀(i:Nat) (r:List AV),((xs.take m.toNat).drop l.toNat)[i]? =some r->z'=z:=λi r D=>by
     rw[<-h2 _ _ (M i r D)];exact ab r (ev (M i r D))
    refine .sl _ B (off+l.toNat*z) _ z (λi j=>f (l.toNat+i) j) (by rw[V];omega) (λi r D=>ab r (ev (M i r D))) (λi j r x D hx=>h3 _ j r x (M i r D) hx) (λi j r x D hx=>?_) (λi j r x D hx=>?_) (λi j r x D hx=>h6 _ j r x (M i r D) hx)
    ·have e:=a5 i r D
     subst e
     have:=h4 _ j r x (M i r D) hx
     rwa[show off+(l.toNat+i)*z'+j=off+l.toNat*z'+i*z'+j by rw[Nat.add_mul];omega]at this
    ·have e:=a5 i r D
     subst e
     have:=h5 _ j r x (M i r D) hx
     rwa[show off+(l.toNat+i)*z'+j=off+l.toNat*z'+i*z'+j by rw[Nat.add_mul];omega]at this
theorem P9{D:List CK} (V:(op=.eql/\neg=false)\/(op=.neq/\neg=true)) (hk:l6 P 20 t=some D) (B:(mY P t&& !P.eqGuardType P.depth t)=true) {as A:List AV} {e:Bool} (hx:DV w π (.agg as) x) (hy:DV w π (.agg A) y) (he:dH D as A=some e):(do eqGuard op t X Y x y;binOp op t x y:Sem Value).run P w=.ok (.bool (e !=neg)) w:=by
 simp only[dT,pA]at B
 cases hx with
 |agg _ xs h1 h2 h3=>
  cases hy with
  |agg _ L k1 k2 k3=>
   have Z:Ms w π P t as (.agg xs):=by
    unfold Ms;rw[gc B.1];exact⟨xs,rfl,⟨by simpa using h1,λi a v M O=>h3 i a v M (by simpa using O)⟩,h2⟩
   have aa:Ms w π P t A (.agg L):=by
    unfold Ms;rw[gc B.1];exact⟨L,rfl,⟨by simpa using k1,λi a v M O=>k3 i a v M (by simpa using O)⟩,k2⟩
   have hr:=Ua 20 t D hk Op.maxDepth Ts as A _ _ e Z aa he
   have R:=run_eqGuard_agg w op t X Y xs L B.2
   rw[fp,R]
   rcases V with⟨rfl,rfl⟩|⟨rfl,rfl⟩
   ·simp[binOp,Op.equal,hr]
   ·simp[binOp,Op.equal,hr]
theorem Qa(O:(op=.eql/\neg=false)\/(op=.neq/\neg=true)) (M:sliceB P t=true) {a:AV} {b:Bool} (R:Fv neg a=some b) (Z:DV w π a x) (V:DV w π .bF y):(do eqGuard op t X Y x y;binOp op t x y:Sem Value).run P w=.ok (.bool b) w:=by
 have L:∃e,P.underlying t=some (.slice e):=by
  unfold sliceB at M;split at M
  ·exact⟨_,by assumption⟩
  ·cases M
 obtain⟨e,L⟩:=L;cases V
 have D:∀(A:Option Addr) (n c:Nat),(binOp .eql t (.slice A n c) (.slice none 0 0)).run P w=.ok (.bool A.isNone) w:=λA n c=>Lib.run_eql_slice_nil w t e A n c 0 0 L
 have B:∀(A:Option Addr) (n c:Nat),(binOp .neq t (.slice A n c) (.slice none 0 0)).run P w=.ok (.bool !A.isNone) w:=λA n c=>by
  simp only[binOp];simp[Op.equal,Op.maxDepth,Lib.run_equalIn_slice_nil w 9999 t e A n c 0 0 L]
 cases Z<;>simp only[Fv,gg,reduceCtorEq]at R<;>subst R
 all_goals(rcases O with⟨rfl,rfl⟩|⟨rfl,rfl⟩<;>rw[fp,gy _ _ _ _ (λ_ h=>by cases h) (λh=>by cases h)])
 all_goals first|exact D _ _ _|exact B _ _ _
theorem D7.weaken{ok A:Nat->Prop} (h:D7 P w π ok e v) (R:∀B,ok B->A B):D7 P w π A e v:=by
 rcases h with h|⟨B,len,cap,D,i,M,L,O⟩
 ·exact .inl h
 ·exact .inr ⟨B,len,cap,D,i,M,R _ L,O⟩
theorem Rel.called(R:Rel P nt n0 w0 π0 U s a w β τ π) (V:¬U id) (A:Below w.heap.size w w') (hp:∀b o,π b o->π' b o) (M:∀b o,π' b o->π b o\/w.heap.size<=b) (O:∀b o,π' b o->b<w'.heap.size) (hd:DV w' π' r v) (ht:∀t,fr=some t->D7 P w' π' (λB=>w.heap.size<=B) t v):
  ∃τ',RV β τ' w' π' (.dat r (fr.map λ_=>id)) v/\Rel P nt n0 w0 π0 (dZ U id) {s with live:=match(generalizing:=false) fr with|some e=>(id,e)::s.live|none=>s.live} a w' β τ' π':=by
 have Z:n0.n<=w.heap.size:=kf R.fc R.below.size
 cases fr with
 |none=>exact⟨τ,⟨hd,λt h=>by cases h⟩,R.frame (λ_ _=>rfl) (λ_ _=>rfl) (λ_ h=>.inl h) hp M O A⟩
 |some e=>
  have R1:Rel P nt n0 w0 π0 U s a w' β τ π':=R.frame (λ_ _=>rfl) (λ_ _=>rfl) (λ_ h=>h) hp M O A
  have L:=ht e rfl
  refine⟨CG τ id v,⟨hd,λt h=>by cases h;rw[bP]⟩,R1.rF V (L.weaken (λB h=>.inl (kf Z h))) (λq e' B hq hB D=>?_) (λb x hb D=>?_)⟩
  ·have h1:=((R.live q e' hq).2.block hB).2
   have h2:=(L.block D).1
   omega
  ·have h1:=R.jS hb
   have h2:=(L.block D).1
   omega
theorem eH:∀{l:List Nat},c8 l=true->l.Nodup
 |[],_=>List.nodup_nil
 |b::A,h=>by
  simp only[c8,dT,pA]at h;rw[xi]
  exact⟨by simpa using h.1,eH h.2⟩
theorem fe{l:List (Nat×cI)}:∀{ids:List Nat} {css:List (List AV)},aV l ids=some css->css.length=ids.length/\∀(k:Nat) (b:Nat),ids[k]? =some b->∃x,b9 b l=some x/\css[k]? =some x.cells
 |[],css,h=>by simp[aV]at h;subst h;exact⟨rfl,λk b A=>by simp at A⟩
 |b::R,css,h=>by
  simp only[aV]at h
  split at h<;>try(cases h;done)
  rename_i x B L D;cases h;obtain⟨e,O⟩:=fe D
  refine⟨by simp[e],λk M A=>?_⟩
  cases k with
  |zero=>simp at A;subst A;exact⟨x,L,rfl⟩
  |succ k=>exact O k M (by simpa using A)
theorem oh:∀{ids:List Nat} {css:List (List AV)} {l:List (Nat×cI)} {n:Nat} {x:cI},ids.Nodup->css.length=ids.length->b9 n (dJ ids css l)=some x->
  (∃(k:Nat) (cs:List AV),ids[k]? =some n/\css[k]? =some cs/\x=⟨cs,[]⟩/\∃y,b9 n l=some y)\/(n∉ids/\b9 n l=some x)
 |[],css,l,n,x,_,_,h=>.inr ⟨TB,by cases css<;>exact h⟩
 |b::bs,[],l,n,x,_,D,h=>by simp at D
 |b::bs,cs::css,l,n,x,B,D,h=>by
  simp only[dJ]at h;rw[xi]at B
  rcases oh B.2 (by simpa using D) h with⟨k,Z,O,L,h3,y,M⟩|⟨O,L⟩
  ·refine .inl ⟨k+1,Z,by simpa using O,by simpa using L,h3,?_⟩
   rcases mc M with⟨_,_,y',A⟩|⟨_,A⟩
   ·exact⟨y',by rename_i e _;rw[e];exact A⟩
   ·exact⟨y,A⟩
  ·rcases mc L with⟨e,R,y,M⟩|⟨V,R⟩
   ·subst e;exact .inl ⟨0,cs,rfl,rfl,R,y,M⟩
   ·exact .inr ⟨by simp[V,O],R⟩
theorem cY.get{w:World} {π:Nat->Nat->Prop}:∀{css:List (List AV)} {Bs:List Nat},cY w π css Bs->css.length=Bs.length/\∀(k:Nat) (cs:List AV) (B:Nat),css[k]? =some cs->Bs[k]? =some B->qO (λ_=>undef) w π B ⟨cs,[]⟩
 |[],[],h=>⟨rfl,λk cs B h=>by simp at h⟩
 |[],B::Bs,h=>h.elim
 |cs::css,[],h=>h.elim
 |cs::css,B::Bs,h=>by
  obtain⟨e,M⟩:=cY.get h.2
  refine⟨by simp[e],λk L B' D A=>?_⟩
  cases k with
  |zero=>simp at D A;subst D;subst A;exact h.1
  |succ k=>exact M k L B' (by simpa using D) (by simpa using A)
theorem qO.xW{τ τ':Nat->Value} {w:World} {π:Nat->Nat->Prop} {B:Nat} {x:cI} (h:qO τ w π B x):qO τ' w π B ⟨x.cells,[]⟩:=by
 obtain⟨A,L,O,M,V,_,R⟩:=h
 exact⟨A,L,O,M,V,λo q D=>(by cases D),R⟩
theorem Rel.o6(R:Rel P nt n0 w0 π0 U s a w β τ π):∀{ids:List Nat} {css:List (List AV)},aV s.boxes ids=some css->cY w π css (ids.map β)
 |[],css,h=>by simp[aV]at h;subst h;trivial
 |b::L,css,h=>by
  simp only[aV]at h
  split at h<;>try(cases h;done)
  rename_i x A D B;cases h;exact⟨(R.boxes b x D).2.2.1.xW,R.o6 B⟩
theorem Rel.nodup(R:Rel P nt n0 w0 π0 U s a w β τ π):∀{ids:List Nat} {css:List (List AV)},ids.Nodup->aV s.boxes ids=some css->(ids.map β).Nodup
 |[],css,_,h=>List.nodup_nil
 |b::Z,css,A,h=>by
  simp only[aV]at h
  split at h<;>try(cases h;done)
  rename_i x M V D;rw[xi]at A;simp only[l4,xi]
  refine⟨λhm=>?_,R.nodup A.2 D⟩
  obtain⟨L,B,e⟩:=kp.1 hm
  obtain⟨k,hk⟩:=mr.1 B
  obtain⟨y,O,_⟩:=(fe D).2 k L hk
  have:=R.inj L b y x O V e
  exact A.1 (this▸B)
theorem Rel.dS(R:Rel P nt n0 w0 π0 U s a w β τ π):∀{Xs:List Operand} {xs:List bn} {D:List (Option AV)} {ids:List Nat},∀{V:Bool},Xs.mapM bV=some xs->Eng.dS V s xs=some (D,ids)->ep w π D (ids.map β) (Xs.map a.eval)/\(V=false->l5 D=true)
 |[],xs,D,ids,V,M,B=>by
  simp at M;subst M;simp[Eng.dS]at B;obtain⟨rfl,rfl⟩:=B
  exact⟨trivial,λ_=>rfl⟩
 |X::Xs,xs,D,ids,V,M,B=>by
  simp only[vd,p7,kb,xf,gg]at M;obtain⟨x,M,ab,A,rfl⟩:=M;simp only[Eng.dS]at B
  split at B<;>try(cases B;done)
  ·rename_i av q as Z O L
   cases B
   have hd:=(R.bK M O).1.1
   refine⟨AB hd (R.dS A L).1,λe=>?_⟩
   have:=(R.dS A L).2 e
   have aa:av≠.hole:=λe=>by subst e;cases hd
   cases av<;>first|exact absurd rfl aa|exact this
  ·rename_i cs as Z O L
   cases B;exact⟨AB (RV.ref.1 (R.bK M O).1) (R.dS A L).1,(R.dS A L).2⟩
  ·rename_i b as Z O L
   cases B;exact⟨⟨(R.bK M O).1,(R.dS A L).1⟩,(R.dS A L).2⟩
  ·rename_i b as Z O L
   cases V with
   |false=>cases B
   |true=>
    cases B
    exact⟨⟨(R.bK M O).1,(R.dS A L).1⟩,λe=>by cases e⟩
theorem Rel.vU(R:Rel P nt n0 w0 π0 U s a w β τ π) (a4:¬U id) {L:List (List AV)} (ad:ids.Nodup) (ao:aV s.boxes ids=some css) (a5:L.length=css.length) (D:xO (ju.qP w (ids.map β)) w w') (hp:∀b o,π b o->π' b o) (ab:∀b o,π' b o->π b o\/w.heap.size<=b) (ak:∀b o,π' b o->b<w'.heap.size) (am:cY w' π' L (ids.map β)) (hd:DV w' π' r v) (ht:∀t,fr=some t->D7 P w' π' (λB=>w.heap.size<=B) t v):
  ∃τ',RV β τ' w' π' (.dat r (fr.map λ_=>id)) v/\Rel P nt n0 w0 π0 (dZ U id) {s with boxes:=dJ ids L s.boxes,live:=match(generalizing:=false) fr with|some e=>(id,e)::s.live|none=>s.live} a w' β τ' π':=by
 obtain⟨a6,ae⟩:=fe ao
 have hlen':L.length=ids.length:=ST
 have an:n0.n<=w.heap.size:=kf R.fc R.below.size
 have V:∀B,B∈ids.map β->∃b x,b∈ids/\b9 b s.boxes=some x/\β b=B:=λB hB=>by
  obtain⟨b,hb,e⟩:=kp.1 hB
  obtain⟨k,hk⟩:=mr.1 hb
  obtain⟨x,O,_⟩:=ae k b hk;exact⟨b,x,hb,O,e⟩
 have A:∀k,k<w.heap.size->k∉ids.map β->w'.heap[k]? =w.heap[k]?:=λk hk O=>D.block k hk O
 have al:∀B,B∈ids.map β->∀o,¬π B o:=λB hB=>by
  obtain⟨b,x,_,O,e⟩:=V B hB;obtain⟨_,_,⟨_,_,_,_,_,_,hn⟩,_⟩:=R.boxes b x O;rw[<-e];exact hn
 have hc:∀b o,π b o->w'.cell? ⟨b,o,none⟩=w.cell? ⟨b,o,none⟩:=λb o h=>
  World.cell?_of_block (w:=w) (A b (R.ez b o h) (λhm=>al b hm o h))
 have M:∀b x,b9 b s.boxes=some x->β b<w.heap.size:=λb x h=>R.jS h
 have hold:∀b x,b9 b (dJ ids L s.boxes)=some x->∃y,b9 b s.boxes=some y:=λb x h=>by
  rcases oh ad hlen' h with⟨_,_,_,_,_,Z⟩|⟨_,O⟩
  ·exact Z
  ·exact⟨x,O⟩
 have R1:Rel P nt n0 w0 π0 U {s with boxes:=dJ ids L s.boxes} a w' β τ π':=by
  refine⟨R.size,λt v h=>?_,λb x h=>?_,λb b' x x' h h' e=>?_,λq e h=>?_,R.cg,λq e b x h h' hB=>?_,R.below.trans ⟨D.os,D.tape,D.output,D.size,λk hk hX=>?_,D.others⟩,R.fc,ak,λb o h=>hp _ _ (R.eJ b o h),λb o h=>?_,R.l8,R.iV,λb o h=>(hc b o (R.eJ b o h)).trans (R.kept b o h)⟩
  ·obtain⟨⟨x,O,hv⟩,hu⟩:=R.slots t v h
   exact⟨⟨x,O,RV.mono (λ_ _=>rfl) (λ_ _=>rfl) hp hc hu hv⟩,hu⟩
  ·rcases oh ad hlen' h with⟨k,cs,h1,h2,rfl,y,Z⟩|⟨au,O⟩
   ·obtain⟨g1,g2,g3,g4⟩:=R.boxes b y Z
    refine⟨g1,g2,?_,λo q hq=>by cases hq⟩
    exact(am.get.2 k cs (β b) h2 (by simp[h1])).xW
   ·obtain⟨g1,g2,g3,g4⟩:=R.boxes b x O
    have a3:β b∉ids.map β:=λhm=>by
     obtain⟨b',x',a2,ag,e⟩:=V _ hm
     exact au (R.inj b' b x' x ag O e▸a2)
    refine⟨g1,g2,g3.keep (λ_ _=>rfl) g4 (A _ (M b x O) a3) hp hc (λo ho=>?_),g4⟩
    rcases ab _ _ ho with h|h
    ·obtain⟨_,_,_,_,_,_,hn⟩:=g3;exact hn o h
    ·have:=M b x O;omega
  ·obtain⟨y,Z⟩:=hold b x h
   obtain⟨y',ar⟩:=hold b' x' h';exact R.inj b b' y y' Z ar e
  ·obtain⟨h1,h2⟩:=R.live q e h
   refine⟨h1,h2.keep (λB hB=>A B (h2.block hB).2 (λhm=>?_)) (λB o hB ho=>?_)⟩
   ·obtain⟨b,x,_,O,eb⟩:=V B hm
    exact R.cz q e b x h O (by rw[hB,eb])
   ·rcases ab _ _ ho with h|h
    ·exact h
    ·have:=(h2.block hB).2;omega
  ·obtain⟨y,Z⟩:=hold b x h'
   exact R.cz q e b y h Z hB
  ·refine A k ST (λhm=>?_)
   obtain⟨b,x,_,O,eb⟩:=V k hm
   rcases(R.boxes b x O).2.1 with h|h
   ·omega
   ·rw[eb]at h;exact hX h.2
  ·rcases ab b o h with h|h
   ·exact R.cZ b o h
   ·exact .inr (.inl ST)
 cases fr with
 |none=>exact⟨τ,⟨hd,λt h=>by cases h⟩,R1.sub λ_ h=>.inl h⟩
 |some e=>
  have aa:=ht e rfl
  refine⟨CG τ id v,⟨hd,λt h=>by cases h;rw[bP]⟩,R1.rF a4 (aa.weaken (λB h=>.inl (kf an h))) (λq e' B hq hB ac=>?_) (λb x hb ac=>?_)⟩
  ·have h1:=((R.live q e' hq).2.block hB).2
   have h2:=(aa.block ac).1
   omega
  ·obtain⟨y,Z⟩:=hold b x hb
   have h1:=M b y Z
   have h2:=(aa.block ac).1
   omega
theorem AE{b o q:Nat}:∀{l:List (Nat×cI)} {n:Nat} {x:cI},b9 n (HU b o q l)=some x->(n=b/\∃y,b9 b l=some y/\x=⟨y.cells,[(o,q)]⟩)\/(n≠b/\b9 n l=some x)
 |[],n,x,h=>by simp[HU,b9]at h
 |(k,v)::r,n,x,h=>by
  simp only[HU]at h
  by_cases hk:b=k
  ·subst hk
   simp only[nl,gs,b9]at h
   by_cases B:n=b
   ·subst B;simp only[nl,gs,gg]at h
    exact .inl ⟨rfl,v,by simp[b9],h.symm⟩
   ·have A:(n==b)=false:=by simpa using B
    simp only[A,fb]at h
    exact .inr ⟨B,by simp only[b9,A,fb];exact h⟩
  ·have D:(b==k)=false:=by simpa using hk
   simp only[D,fb,b9]at h
   by_cases B:n=k
   ·subst B;simp only[nl,gs]at h
    exact .inr ⟨λe=>hk e.symm,by simp only[b9,nl,gs];exact h⟩
   ·have A:(n==k)=false:=by simpa using B
    simp only[A,fb]at h
    rcases AE h with⟨e,y,M,L⟩|⟨e,L⟩
    ·exact .inl ⟨e,y,by simp only[b9,D,fb];exact M,L⟩
    ·exact .inr ⟨e,by simp only[b9,A,fb];exact L⟩
theorem Rel.tag(R:Rel P nt n0 w0 π0 U s a w β τ π) {q:Nat} (hU:U q) (hv:∀A L,w.heap[β b]? =some (.cells A L (0,0))->A[o]? =some (τ q)):Rel P nt n0 w0 π0 U {s with boxes:=HU b o q s.boxes} a w β τ π:=by
 have hold:∀n x,b9 n (HU b o q s.boxes)=some x->∃y,b9 n s.boxes=some y:=λn x h=>by
  rcases AE h with⟨rfl,y,B,_⟩|⟨_,h⟩
  ·exact⟨y,B⟩
  ·exact⟨x,h⟩
 refine⟨R.size,R.slots,λn x h=>?_,λb1 b2 x x' h M e=>?_,R.live,R.cg,λO e n x h M hB=>?_,R.below,R.fc,R.ez,R.eJ,R.cZ,R.l8,R.iV,R.kept⟩
 ·rcases AE h with⟨rfl,y,B,rfl⟩|⟨_,h⟩
  ·obtain⟨g1,g2,⟨A,L,k1,k2,k3,_,k5⟩,_⟩:=R.boxes n y B
   refine⟨g1,g2,⟨A,L,k1,k2,k3,λo' O D=>?_,k5⟩,λo' O D=>?_⟩
   all_goals
    simp only[dY]at D
    by_cases ho:o'=o
    ·subst ho
     simp only[nl,gs,gg]at D;subst D
     first|exact hv A L k1|exact hU
    ·have V:(o'==o)=false:=by simpa using ho
     simp[V]at D
  ·exact R.boxes n x h
 ·obtain⟨y,B⟩:=hold b1 x h
  obtain⟨y',Z⟩:=hold b2 x' M;exact R.inj b1 b2 y y' B Z e
 ·obtain⟨y,B⟩:=hold n x M
  exact R.cz O e n y h B hB
theorem MW{bx:List (Nat×cI)} {lv:List (Nat×Nat)} {j:Nat} {B:Option Nat} (h:tgQ bx lv ids (some (j,o,e))=some B):∃b x q,ids[j]? =some b/\b9 b bx=some x/\dY o x.tags=some q/\dY q lv=some e/\B=some q:=by
 simp only[tgQ,kb]at h;obtain⟨b,L,x,D,q,O,A⟩:=h;split at A
 ·rename_i M;cases A;exact⟨b,x,q,L,D,O,M,rfl⟩
 ·cases A
theorem Rel.K2(R:Rel P nt n0 w0 π0 U s a w β τ π) {ids:List Nat} {css:List (List AV)} (O:aV s.boxes ids=some css) {D:Option (Nat×Nat×Nat)} {qo:Option Nat} (hq:tgQ s.boxes s.live ids D=some qo):
  ∃tv,Eng.K2 P w π (ids.map β) (λ_=>True) tv D/\(D.isSome=true->∃q e,qo=some q/\dY q s.live=some e/\tv=τ q):=by
 cases D with
 |none=>exact⟨undef,trivial,λh=>by cases h⟩
 |some p=>
  obtain⟨j,o,e⟩:=p;obtain⟨b,x,q,h1,h2,h3,L,rfl⟩:=MW hq;obtain⟨_,_,⟨A,el,k1,_,_,k4,_⟩,_⟩:=R.boxes b x h2
  refine⟨τ q,⟨β b,A,el,by simp[h1],k1,k4 o q h3,?_,λTB M hm=>?_⟩,λ_=>⟨q,e,rfl,L,rfl⟩⟩
  ·have:=(R.live q e L).2
   rcases this with h|⟨B,len,cap,A,i,g1,g2,g3⟩
   ·exact .inl h
   ·exact .inr ⟨B,len,cap,A,i,g1,trivial,g3⟩
  ·obtain⟨Z,V,e'⟩:=kp.1 hm
   obtain⟨k,hk⟩:=mr.1 V
   obtain⟨y,hy,_⟩:=(fe O).2 k Z hk
   exact R.cz q e Z y L hy (by rw[M,e'])
theorem om{q e:Nat} {A:Option Nat} {l:List (Nat×Nat)} (h:dY q (MC A l)=some e):dY q l=some e/\A≠some q:=by
 cases A with
 |none=>exact⟨h,TB⟩
 |some k=>obtain⟨B,D⟩:=jg h;exact⟨B,λe=>by cases e;exact D rfl⟩
theorem Rel.Qb(R:Rel P nt n0 w0 π0 U s a w β τ π) (bj:¬U id) {D:List (List AV)} (am:ids.Nodup) (a8:aV s.boxes ids=some css) (bm:D.length=css.length) {tg ad:Option (Nat×Nat×Nat)} {qo:Option Nat} {tv an:Value} (a4:tg.isSome=true->∃q e,qo=some q/\dY q s.live=some e/\tv=τ q) (A:xO (ju.Xv w (ids.map β) (PJ tg tv)) w w') (hp:∀b o,π b o->π' b o) (ag:∀b o,π' b o->π b o\/w.heap.size<=b\/PJ tg tv b) (a2:∀b o,π' b o->b<w'.heap.size) (hc:∀b o,π b o->w'.cell? ⟨b,o,none⟩=w.cell? ⟨b,o,none⟩) (a3:cY w' π' D (ids.map β)) (hd:DV w' π' r v) (ht:Eng.K2 P w' π' (ids.map β) (λB=>w.heap.size<=B\/PJ tg tv B) an ad):
  ∃τ',RV β τ' w' π' (.dat r none) v/\Rel P nt n0 w0 π0 (dZ U id) {s with boxes:=MB id ids ad (dJ ids D s.boxes),live:=TT id ad (MC qo s.live)} a w' β τ' π':=by
 obtain⟨b0,ar⟩:=fe a8
 have hlen':D.length=ids.length:=ST
 have a5:n0.n<=w.heap.size:=kf R.fc R.below.size
 have aa:∀B,PJ tg tv B->∃q e,qo=some q/\dY q s.live=some e/\iz (τ q)=some B:=λB hB=>by
  obtain⟨q,e,h1,Z,h3⟩:=a4 hB.1
  exact⟨q,e,h1,Z,by rw[<-h3];exact hB.2⟩
 have ac:∀B,B∈ids.map β->∃b x,b∈ids/\b9 b s.boxes=some x/\β b=B:=λB hB=>by
  obtain⟨b,hb,e⟩:=kp.1 hB
  obtain⟨k,hk⟩:=mr.1 hb
  obtain⟨x,V,_⟩:=ar k b hk;exact⟨b,x,hb,V,e⟩
 have M:∀k,k<w.heap.size->k∉ids.map β->¬PJ tg tv k->w'.heap[k]? =w.heap[k]?:=λk hk V ht=>A.block k hk (λh=>h.elim V ht)
 have L:∀b x,b9 b s.boxes=some x->β b<w.heap.size:=λb x h=>R.jS h
 have O:∀b x,b9 b s.boxes=some x->¬PJ tg tv (β b):=λb x h hB=>by
  obtain⟨q,e,_,Z,h3⟩:=aa _ hB;exact R.cz q e b x Z h h3
 have hold:∀b x,b9 b (dJ ids D s.boxes)=some x->∃y,b9 b s.boxes=some y:=λb x h=>by
  rcases oh am hlen' h with⟨_,_,_,_,_,hy⟩|⟨_,V⟩
  ·exact hy
  ·exact⟨x,V⟩
 have ab:∀q e,dY q (MC qo s.live)=some e->∀B,iz (τ q)=some B->¬PJ tg tv B:=λq e h B hB hT=>by
  obtain⟨h1,Z⟩:=om h;obtain⟨q',e',g1,g2,g3⟩:=aa B hT
  exact Z (by rw[g1,R.cg q' q e' e B g2 h1 g3 hB])
 have R1:Rel P nt n0 w0 π0 U {s with boxes:=dJ ids D s.boxes,live:=MC qo s.live} a w' β τ π':=by
  refine⟨R.size,λt v h=>?_,λb x h=>?_,λb b' x x' h h' e=>?_,λq e h=>?_,λq q' e e' B h h'=>R.cg q q' e e' B (om h).1 (om h').1,λq e b x h h' hB=>?_,R.below.trans ⟨A.os,A.tape,A.output,A.size,λk hk hX=>?_,A.others⟩,R.fc,a2,λb o h=>hp _ _ (R.eJ b o h),λb o h=>?_,R.l8,R.iV,λb o h=>(hc b o (R.eJ b o h)).trans (R.kept b o h)⟩
  ·obtain⟨⟨x,V,hv⟩,hu⟩:=R.slots t v h
   exact⟨⟨x,V,RV.mono (λ_ _=>rfl) (λ_ _=>rfl) hp hc hu hv⟩,hu⟩
  ·rcases oh am hlen' h with⟨k,cs,h1,Z,rfl,y,hy⟩|⟨ba,V⟩
   ·obtain⟨g1,g2,g3,g4⟩:=R.boxes b y hy
    refine⟨g1,g2,?_,λo q hq=>by cases hq⟩
    exact(a3.get.2 k cs (β b) Z (by simp[h1])).xW
   ·obtain⟨g1,g2,g3,g4⟩:=R.boxes b x V
    have be:β b∉ids.map β:=λhm=>by
     obtain⟨b',x',bd,au,e⟩:=ac _ hm
     exact ba (R.inj b' b x' x au V e▸bd)
    refine⟨g1,g2,g3.keep (λ_ _=>rfl) g4 (M _ (L b x V) be (O b x V)) hp hc (λo ho=>?_),g4⟩
    rcases ag _ _ ho with h|h|h
    ·obtain⟨_,_,_,_,_,_,hn⟩:=g3;exact hn o h
    ·have:=L b x V;omega
    ·exact O b x V h
  ·obtain⟨y,hy⟩:=hold b x h
   obtain⟨y',a9⟩:=hold b' x' h';exact R.inj b b' y y' hy a9 e
  ·obtain⟨h0,_⟩:=om h
   obtain⟨h1,Z⟩:=R.live q e h0
   refine⟨h1,Z.keep (λB hB=>M B (Z.block hB).2 (λhm=>?_) (ab q e h B hB)) (λB o hB ho=>?_)⟩
   ·obtain⟨b,x,_,V,eb⟩:=ac B hm
    exact R.cz q e b x h0 V (by rw[hB,eb])
   ·rcases ag _ _ ho with g|g|g
    ·exact g
    ·have:=(Z.block hB).2;omega
    ·exact absurd g (ab q e h B hB)
  ·obtain⟨y,hy⟩:=hold b x h'
   exact R.cz q e b y (om h).1 hy hB
  ·refine M k ST (λhm=>?_) (λhT=>?_)
   ·obtain⟨b,x,_,V,eb⟩:=ac k hm
    rcases(R.boxes b x V).2.1 with h|h
    ·omega
    ·rw[eb]at h;exact hX h.2
   ·obtain⟨q,e,_,Z,h3⟩:=aa k hT
    rcases((R.live q e Z).2.block h3).1 with h|h
    ·omega
    ·exact hX h
  ·rcases ag b o h with h|h|h
   ·exact R.cZ b o h
   ·exact .inr (.inl ST)
   ·obtain⟨q,e,_,Z,h3⟩:=aa b h
    exact .inr ((R.live q e Z).2.block h3).1
 cases ad with
 |none=>exact⟨τ,⟨hd,λt h=>by cases h⟩,R1.sub λ_ h=>.inl h⟩
 |some p=>
  obtain⟨j,o,e⟩:=p;obtain⟨B,bs,el,hj,hB,ao,ae,bi⟩:=ht
  obtain⟨b,hb,rfl⟩:∃b,ids[j]? =some b/\β b=B:=by
   simp only[jp,em]at hj;exact hj
  have R2:=R1.rF (e:=e) bj (ae.weaken (λB h=>?_)) (λq e' B hq ak a7=>?_) (λb x hb al=>?_)
  ·refine⟨CG τ id an,⟨hd,λt h=>by cases h⟩,?_⟩
   have R3:=R2.tag (b:=b) (o:=o) (q:=id) (.inr rfl) (λcur' bo h=>?_)
   ·simp only[MB,hb,TT];exact R3
   ·rw[hB]at h;cases h
    rw[bP];exact ao
  ·rcases h with h|h
   ·exact .inl (kf a5 h)
   ·obtain⟨q,e,_,Z,h3⟩:=aa B h
    exact((R.live q e Z).2.block h3).1
  ·obtain⟨h0,_⟩:=om hq
   rcases(ae.block a7).1 with h|h
   ·have h1:=((R.live q e' h0).2.block ak).2
    omega
   ·exact ab q e' hq B ak h
  ·exact bi _ al (by
    obtain⟨y,hy⟩:=hold b x hb
    by_cases a6:b∈ids
    ·exact Hc a6
    ·exfalso
     rcases(ae.block al).1 with h|h
     ·have:=L b y hy;omega
     ·exact O b y hy h)
theorem mg{m:Nat}:∀{l:List (Nat×cI)} {n:Nat},b9 n (kS m l)=if n=m then none else b9 n l
 |[],n=>by simp[kS,b9]
 |(k,v)::r,n=>by
  have R:=mg (m:=m) (l:=r) (n:=n)
  simp only[kS]
  by_cases A:m=k
  ·subst A
   simp only[nl,gs,b9,R]
   by_cases M:n=m
   ·simp[M]
   ·have O:(n==m)=false:=by simpa using M
    simp[M,O]
  ·have D:(m==k)=false:=by simpa using A
   simp only[D,fb,b9,R]
   by_cases B:n=k
   ·simp[B,Ne.symm A]
   ·have L:(n==k)=false:=by simpa using B
    simp[L]
theorem vV{b:Nat} {cs:List AV}:∀{l:List (Nat×SV)} {t:Nat},lk t (Aw b cs l)=(lk t l).map (jw b cs)
 |[],t=>rfl
 |(m,v)::r,t=>by
  simp only[Aw,lk];cases h:t==m
  ·simp only[fb];exact vV
  ·rfl
theorem uR(z:Nat):∀(n:Nat) (cs:List AV),(cq z n cs).length=n
 |0,_=>rfl
 |n+1,cs=>by simp[cq,uR z n]
theorem xX(z:Nat):∀(n:Nat) (cs:List AV) (i:Nat) (r:List AV),(cq z n cs)[i]? =some r->i<n/\r=(cs.drop (i*z)).take z
 |0,_,i,r,h=>by simp[cq]at h
 |n+1,cs,0,r,h=>by simp only[cq,kr,gg]at h;subst h;simp
 |n+1,cs,i+1,r,h=>by
  simp only[cq,kx]at h;obtain⟨B,A⟩:=xX z n _ i r h
  refine⟨ST,?_⟩
  rw[A,Fd]
  congr 2
  rw[Nat.succ_mul,Nat.add_comm]
theorem JB{π:Nat->Nat->Prop} {B:Nat} (h:DV w π (.ref cs) (.pointer (some ⟨B,o,none⟩))) {cap:Nat} (hn:n*z<=(cs.drop off).length) (O:n<=cap):DV w π (.sl (cq z n (cs.drop off))) (.slice (some ⟨B,o+off,none⟩) n cap):=by
 cases h with
 |ref _ _ _ f h1 V h3 Z=>
  have A:∀(i j:Nat) (r:List AV) (a:AV),(cq z n (cs.drop off))[i]? =some r->r[j]? =some a->cs[off+(i*z+j)]? =some a:=by
   intro i j r a L D;obtain⟨_,rfl⟩:=xX z n _ i r L;rw[ul]at D;split at D
   ·rw[lh,lh]at D;rw[<-D]
   ·cases D
  have e:∀i j,o+off+i*z+j=o+(off+(i*z+j)):=λi j=>by omega
  have R:=uR z n (cs.drop off)
  have key:=DV.sl (w:=w) (π:=π) (cq z n (cs.drop off)) B (o+off) cap z (λi j=>f (off+(i*z+j))) ST (λi r L=>?_) (λi j r a L D=>h1 _ _ (A i j r a L D)) (λi j r a L D=>by rw[e];exact V _ _ (A i j r a L D)) (λi j r a L D=>by rw[e];exact h3 _ _ (A i j r a L D)) (λi j r a L D=>Z _ _ (A i j r a L D))
  ·rw[R]at key;exact key
  ·obtain⟨M,rfl⟩:=xX z n _ i r L
   have:(i+1)*z<=n*z:=io _ M
   rw[Nat.succ_mul]at this;simp only[GE,List.length_drop]at hn⊢;omega
theorem MX{π:Nat->Nat->Prop} {B:Nat} (h:DV w π (.ref cs) (.pointer (some ⟨B,o,none⟩))) (A:n*z<=(cs.drop off).length):DV w π (.sl (cq z n (cs.drop off))) (.slice (some ⟨B,o+off,none⟩) n n):=JB h A (im n)
theorem Rel.freeze(R:Rel P nt n0 w0 π0 U s a w β τ π) {x:cI} (hb:b9 b s.boxes=some x) (h4:4<=b):
  ∃π':Nat->Nat->Prop,(∀B o,π B o->π' B o)/\Rel P nt n0 w0 π0 U {s with slots:=Aw b x.cells s.slots,boxes:=kS b s.boxes} a w β τ π'/\DV w π' (.ref x.cells) (.pointer (some ⟨β b,0,none⟩)):=by
 obtain⟨ar,ae,ad,ao⟩:=R.boxes b x hb
 have ak:=R.jS hb
 have ac:n0.n<=β b:=by rcases ae with h|h;exact h;exact absurd h.1 ST
 obtain⟨f,hf,am,al,_⟩:=ad.cells
 have hp:∀B o,π B o->(λB o=>π B o\/(B=β b/\o<x.cells.length)) B o:=λ_ _ h=>.inl h
 have ab:∀(j:Nat) (c:AV),x.cells[j]? =some c->j<x.cells.length:=λj c V=>(e9.1 V).1
 have M:∀d,RV β τ w (λB o=>π B o\/(B=β b/\o<x.cells.length)) (.rp (x.cells.drop d)) (.pointer (some ⟨β b,d,none⟩)):=by
  intro d
  refine⟨β b,d,λj=>f (d+j),rfl,?_,?_,?_,?_⟩<;>intro j c V<;>rw[lh]at V
  ·exact am _ _ V
  ·exact .inr ⟨rfl,ab _ _ V⟩
  ·exact hf _ (ab _ _ V)
  ·exact(al _ _ V).mono hp (λ_ _ _=>rfl)
 refine⟨_,hp,?_,RV.ref.1 (by simpa using M 0)⟩
 have D:∀c y,b9 c (kS b s.boxes)=some y->c≠b/\b9 c s.boxes=some y:=λc y h=>by
  rw[mg]at h;split at h
  ·cases h
  ·rename_i aa;exact⟨aa,h⟩
 refine⟨R.size,λt v h=>?_,λc y h=>?_,λc c' y y' h h' e=>R.inj c c' y y' (D c y h).2 (D c' y' h').2 e,λq e h=>?_,R.cg,λq e c y h h' hB=>R.cz q e c y h (D c y h').2 hB,R.below,R.fc,λB o h=>?_,λB o h=>.inl (R.eJ B o h),λB o h=>?_,R.l8,R.iV,R.kept⟩
 ·simp only[vV,em]at h
  obtain⟨u,hu,rfl⟩:=h;obtain⟨⟨y,Z,hr⟩,hi⟩:=R.slots t u hu
  have hm:RV β τ w (λB o=>π B o\/(B=β b/\o<x.cells.length)) u y:=RV.mono (λ_ _=>rfl) (λ_ _=>rfl) hp (λ_ _ _=>rfl) hi hr
  cases u with
  |dat av q=>exact⟨⟨y,Z,hm⟩,hi⟩
  |rp cs=>exact⟨⟨y,Z,hm⟩,hi⟩
  |undef=>exact⟨⟨y,Z,hm⟩,hi⟩
  |vs c o n z=>
   simp only[jw]
   by_cases A:(c==b&&decide (n*z<=(x.cells.drop o).length))=true
   ·rw[A,gs]
    simp only[dT,lc,gn]at A;obtain⟨rfl,an⟩:=A;obtain⟨cap,ag,rfl⟩:=hr
    have:=JB (RV.ref.1 (by simpa using M 0)) an ag
    rw[la]at this
    exact⟨⟨_,Z,this,λt h=>by cases h⟩,trivial⟩
   ·have O:=EQ.2 A
    rw[O,fb];exact⟨⟨y,Z,hm⟩,hi⟩
  |tW _ _ _=>exact⟨⟨y,Z,hm⟩,hi⟩
  |raw _ _=>exact⟨⟨y,Z,hm⟩,hi⟩
  |pt _ _=>exact⟨⟨y,Z,hm⟩,hi⟩
  |ptr c o=>
   simp only[jw]
   by_cases A:c=b
   ·subst A
    simp only[nl,gs]
    have e:y=.pointer (some ⟨β c,o,none⟩):=hr
    subst e;exact⟨⟨_,Z,M o⟩,trivial⟩
   ·have O:(c==b)=false:=by simpa using A
    simp only[O,fb];exact⟨⟨y,Z,hm⟩,hi⟩
 ·obtain⟨aa,V⟩:=D c y h
  obtain⟨g1,g2,g3,g4⟩:=R.boxes c y V
  refine⟨g1,g2,g3.keep (λ_ _=>rfl) g4 rfl hp (λ_ _ _=>rfl) (λo L=>?_),g4⟩
  rcases L with L|⟨L,_⟩
  ·obtain⟨_,_,_,_,_,_,hn⟩:=g3;exact hn o L
  ·exact aa (R.inj c b y x V hb L)
 ·obtain⟨h1,h2⟩:=R.live q e h
  refine⟨h1,h2.keep (λB hB=>rfl) (λB o hB L=>?_)⟩
  rcases L with L|⟨L,_⟩
  ·exact L
  ·exact absurd (L▸hB) (R.cz q e b x h hb)
 ·rcases h with h|⟨rfl,_⟩
  ·exact R.ez B o h
  ·exact ak
 ·rcases h with h|⟨rfl,_⟩
  ·exact R.cZ B o h
  ·exact .inr (.inl ac)
theorem yP{l:List (Nat×cI)} {b:Nat}:∀{ids:List Nat} {css:List (List AV)},b∉ids->aV l ids=some css->aV (kS b l) ids=some css
 |[],css,_,h=>h
 |c::ids,css,B,h=>by
  simp only[aV]at h⊢
  have A:c≠b:=λe=>B (e▸ip ..)
  split at h<;>try(cases h;done)
  rename_i x D M L
  rw[mg,fx A,M,yP (λhm=>B (ii _ hm)) L]
  exact h
theorem Rel.vW:∀{ids:List Nat} {css:List (List AV)} {s:S} {π:Nat->Nat->Prop},Rel P nt n0 w0 π0 U s a w β τ π->ids.Nodup->iu ids=true->aV s.boxes ids=some css->
  ∃π':Nat->Nat->Prop,(∀B o,π B o->π' B o)/\Rel P nt n0 w0 π0 U (gp ids css s) a w β τ π'/\∀(k:Nat) (b:Nat) (cs:List AV),ids[k]? =some b->css[k]? =some cs->DV w π' (.ref cs) (.pointer (some ⟨β b,0,none⟩))
 |[],css,s,π,R,_,_,h=>by
  simp[aV]at h;subst h
  exact⟨π,λ_ _ h=>h,R,λk b cs h=>by simp at h⟩
 |b::ids,css,s,π,R,D,A,h=>by
  simp only[aV]at h
  split at h<;>try(cases h;done)
  rename_i x O h1 h2;cases h;rw[xi]at D;simp only[iu,dT,gn]at A;obtain⟨π1,m1,R1,d1⟩:=R.freeze h1 A.1
  obtain⟨π2,M,Z,V⟩:=Rel.vW R1 D.2 A.2 (yP D.1 h2)
  refine⟨π2,λB o h=>M _ _ (m1 _ _ h),Z,λk c cs hk L=>?_⟩
  cases k with
  |zero=>simp at hk L;subst hk;subst L;exact d1.mono M (λ_ _ _=>rfl)
  |succ k=>exact V k c cs (by simpa using hk) (by simpa using L)
theorem Rel.Xw(R:Rel P nt n0 w0 π0 U s a w β τ π) {x:bn} {L:Option Nat} (hx:bV X=some x) (ht:vO P t=some L) (h:bB (Pure P) id (.PV x L) K s):∃v y,(Instr.loadAt t (a.eval X)).run P w=.ok y w/\RV β τ w π v y/\v.fJ U/\K v s:=by
 simp only[bB]at h;obtain⟨p,D,h⟩:=af h;obtain⟨M,Z⟩:=R.bK hx D
 cases p<;>try(exact h.elim)
 rename_i k ps
 match k,M,h with
 |2,M,h=>
  obtain⟨B,off,V,hc⟩:=M.S8
  cases L with
  |none=>
   cases ps with
   |nil=>exact h.elim
   |cons q ps=>
    obtain⟨b,o⟩:=q
    refine⟨.ptr b o,.pointer (some ⟨β b,o,none⟩),?_,rfl,Z (b,o) TB,h⟩
    simp only[V,Instr.loadAt,Instr.sureAddr,fp,i8,fo];exact jR ht (hc 0 (b,o) rfl).2
  |some n=>
   obtain⟨hn,h⟩:=h
   refine⟨.pt 0 (ps.take n),.agg ((List.range n).map λj=>Value.pointer (some ⟨β (ps.getD j (0,0)).1,(ps.getD j (0,0)).2,none⟩)).toArray,?_,?_,λp D=>Z p (ut D),h⟩
   ·simp only[V,Instr.loadAt,Instr.sureAddr,fp,i8,fo]
    refine jQ ht (f:=λj=>Value.pointer (some ⟨β (ps.getD j (0,0)).1,(ps.getD j (0,0)).2,none⟩)) (λj hj=>?_)
    have A:j<ps.length:=ST
    have:=(hc j ps[j] (et A)).2
    rw[this];simp[A]
   ·show Value.agg _=Value.agg _
    congr 2
    apply List.ext_getElem?
    intro i;simp only[jp,ul]
    by_cases hi:i<n
    ·have O:i<ps.length:=ST
     simp[hi,O]
    ·simp[hi]
 |0,_,h=>exact h.elim
 |1,_,h=>exact h.elim
 |k+3,_,h=>exact h.elim
theorem tr{w:World} {π π':Nat->Nat->Prop} (R:∀B o,π B o->π' B o):∀{A:List (Option AV)} {css:List (List AV)} {Bs:List Nat} {vs:List Value},ep w π A Bs vs->l5 A=true->css.length=Bs.length->
  (∀(k:Nat) (cs:List AV) (B:Nat),css[k]? =some cs->Bs[k]? =some B->DV w π' (.ref cs) (.pointer (some ⟨B,0,none⟩)))->iy w π' (je A css) vs
 |[],css,Bs,vs,h,_,_,_=>by
  have:vs=[]:=by cases Bs<;>cases vs<;>first|rfl|exact h.elim
  subst this
  have:je [] css=[]:=by cases css<;>rfl
  rw[this];exact .nil _ _
 |some av::A,css,Bs,[],h,_,_,_=>by cases Bs<;>cases av<;>exact h.elim
 |some av::A,css,Bs,v::vs,h,L,D,O=>by
  obtain⟨Z,L⟩:=Fx L
  have M:DV w π av v/\ep w π A Bs vs:=by
   rcases l9 h with⟨e,_⟩|⟨_,M⟩
   ·exact absurd e Z
   ·exact M
  have e:je (some av::A) css=av::je A css:=by cases css<;>rfl
  rw[e]
  exact .cons (M.1.mono R (λ_ _ _=>rfl)) (tr R M.2 L D O)
 |none::A,css,[],vs,h,_,_,_=>by cases vs<;>exact h.elim
 |none::A,css,B::Bs,[],h,_,_,_=>h.elim
 |none::A,[],B::Bs,v::vs,h,_,D,_=>by simp at D
 |none::A,cs::css,B::Bs,v::vs,h,L,D,O=>by
  obtain⟨rfl,V⟩:=h
  exact .cons (O 0 cs B rfl rfl) (tr R V L (by simpa using D) (λk cs B h1 V=>O (k+1) cs B (by simpa using h1) (by simpa using V)))
theorem C7:∀{ids:List Nat} {css:List (List AV)} {s:S},(gp ids css s).live=s.live
 |[],css,s=>by cases css<;>rfl
 |b::ids,[],s=>rfl
 |b::ids,cs::css,s=>C7 (ids:=ids) (css:=css)
theorem JC{B:Nat} (ht:P.underlying t=some (.array n e)) (A:eI P e=some z):
  (Instr.sliceAt t (.pointer (some ⟨B,off,none⟩)) none none none).run P w=.ok (.slice (some ⟨B,off,none⟩) n n) w:=by
 simp[Instr.sliceAt,il ht,Instr.sureAddr,Instr.sliceBounds,dL A,Addr.add]
theorem Qc{B:Nat} (ht:P.underlying t=some (.array n e)) (M:eI P e=some z) {k:IntKind} {j:Int} (L:0<=j) (D:j<=n):
  (Instr.sliceAt t (.pointer (some ⟨B,off,none⟩)) none (some (.int k j)) none).run P w=.ok (.slice (some ⟨B,off,none⟩) j.toNat n) w:=by
 have A:=OF (P:=P) w k j n .sliceAlen L D
 simp[Instr.sliceAt,il ht,Instr.sureAddr,Instr.sliceBounds,dL M,Addr.add,A]
def K4:AV->Value
 | .float _ r=>.float .f64 r
 |_=>undef
def Ub(b:Nat):Ieee.Datum->Sem Value
 | .nan s t=>if FloatKind.f64.format.quiet t=t then pure (.float .f64 b)else do
   let kept ← choose (.extern "math.Floor,Ceil,Trunc,RoundToEven.signallingNaN kept" 2)
   pure (.float .f64 (if kept==1 then b else FloatKind.f64.encode (.nan s (FloatKind.f64.format.quiet t))))
 |d=>pure (.float .f64 (FloatKind.f64.encode (d.integral .even)))
def Qd(b:Nat):Ieee.Datum->Option AV
 | .nan _ t=>if FloatKind.f64.format.quiet t=t then some (.float .f64 b)else none
 |d=>some (.float .f64 (FloatKind.f64.encode (d.integral .even)))
theorem MY{π:Nat->Nat->Prop} {v:AV}:∀{d:Ieee.Datum},Qd b d=some v->(Ub b d).run P w=.ok (K4 v) w/\DV w π v (K4 v)
 | .nan s t,h=>by
  simp only[Qd]at h
  split at h<;>try(cases h;done)
  rename_i A;cases h;simp only[Ub,A,kv];exact⟨rfl,.float _ _⟩
 | .number s m i,h=>by cases h;exact⟨rfl,.float _ _⟩
 | .infinity s,h=>by cases h;exact⟨rfl,.float _ _⟩
theorem Qe{π:Nat → Nat → Prop} {v:AV} (h:D4 b = some v) : ((Extern.MathFloor.toIntegral "math.RoundToEven" .even) #[.float .f64 b]).run P w = .ok (K4 v) w ∧ DV w π v (K4 v) :=
 by
 have hto : Extern.MathFloor.toIntegral "math.RoundToEven" .even #[.float .f64 b] = Ub b (FloatKind.f64.decode b) := by
  show((match FloatKind.f64.decode b with
      | .nan s t=>if FloatKind.f64.format.quiet t=t then pure (.float .f64 b)else do
        let kept ← choose (.extern "math.Floor,Ceil,Trunc,RoundToEven.signallingNaN kept" 2)
        pure (.float .f64 (if kept==1 then b else FloatKind.f64.encode (.nan s (FloatKind.f64.format.quiet t))))
      |d=>pure (.float .f64 (FloatKind.f64.encode (d.integral .even)))):Sem Value)=_
  generalize FloatKind.f64.decode b=d
  cases d<;>rfl
 have hta:Qd b (FloatKind.f64.decode b)=some v:=by
  rw[<-h]
  show Qd b (FloatKind.f64.decode b)=((match FloatKind.f64.decode b with
   | .nan _ t=>if FloatKind.f64.format.quiet t=t then some (.float .f64 b)else none
   |d=>some (.float .f64 (FloatKind.f64.encode (d.integral .even)))):Option AV)
  generalize FloatKind.f64.decode b=d
  cases d<;>rfl
 rw[hto];exact MY hta
theorem Uc{f:FuncId} {e:Xt} (he:TW P f=some e) {a v:AV} (hv:WX e a=some v) (hd:DV w π a x):∃u,(callFunc f #[x]).run P w=.ok (.value u) w/\DV w π v u:=by
 unfold TW at he
 split at he<;>try(cases he;done)
 rename_i fn hf
 split at he<;>try(cases he;done)
 rename_i hb;simp only[Bool.and_eq_true]at hb
 have hb1:fn.body=none:=by simpa using hb.1
 have hb2:Extern.findNext fn=none:=by simpa using hb.2
 split at he
 ·rename_i hn
  have hn:=eq_of_beq hn
  cases he
  have hfi:Extern.find fn=some Extern.MathFloatBits.float64bits:=by unfold Extern.find;rw[hn];rfl
  cases a<;>try(cases hv;done)
  rename_i k b
  cases k<;>cases hv
  cases hd;refine⟨.int .u64 b,?_,.int _ _⟩
  rw[run_callFunc_extern hf (by rw[hn];rfl) (by rw[hb1];rfl) hb2 hfi]
  rfl
 ·split at he
  ·rename_i hn
   have hn:=eq_of_beq hn
   cases he
   have hfi:Extern.find fn=some Extern.MathFloatBits.float64frombits:=by unfold Extern.find;rw[hn];rfl
   cases a<;>try(cases hv;done)
   rename_i k b
   cases k<;>cases hv
   cases hd;refine⟨.float .f64 b.toNat,?_,.float _ _⟩
   rw[run_callFunc_extern hf (by rw[hn];rfl) (by rw[hb1];rfl) hb2 hfi]
   rfl
  ·split at he<;>try(cases he;done)
   rename_i hn
   have hn:=eq_of_beq hn
   cases he
   have hfi : Extern.find fn = some (Extern.MathFloor.toIntegral "math.RoundToEven" .even) := by unfold Extern.find; rw [hn]; rfl
   cases a<;>try(cases hv;done)
   rename_i k b
   cases k<;>try(cases hv;done)
   cases hd
   have hv:D4 b=some v:=hv
   have hrun : ((Extern.MathFloor.toIntegral "math.RoundToEven" .even) #[.float .f64 b]).run P w = .ok (K4 v) w ∧ DV w π v (K4 v) := by
    exact Qe hv
   refine⟨_,?_,hrun.2⟩
   rw[run_callFunc_extern hf (by rw[hn];rfl) (by rw[hb1];rfl) hb2 hfi,hrun.1]
   rfl
theorem ff{f:Nat} (A:cw P f=true) (args:Array Value):(callFunc f args).run P w=.ok (.enter f args) w:=by
 unfold cw at A;split at A
 ·rename_i fn B
  simp only[dT,bne_iff_ne,ne_eq]at A;obtain⟨b,D⟩:=Pl.1 A.2;simp[callFunc,B,A.1,D]
 ·cases A
theorem tu(R:Rel P nt n0 w0 π0 U s a w β τ π) {o:Oper} (au:¬U id) (A:PI P o.op=some c) (h:bB (Pure P) id c K s) (hn:∀v s' x w' β' τ' π',K v s'->RV β' τ' w' π' v x->v.fJ (dZ U id)->Rel P nt n0 w0 π0 (dZ U id) s' a w' β' τ' π'->next (a.put o.dst x) w'):o.wp P a w next Q:=by
 obtain⟨dst,op,D,pos,after,guard⟩:=o;simp only at A
 have ae:∀n,U n->dZ U id n:=λn h=>.inl h
 -- a value,nothing else
 have fin:∀{v:SV} {y:Value},(execOp a.eval ⟨dst,op,D,pos,after,guard⟩).run P w=.ok (.value y) w->RV β τ w π v y->v.fJ U->K v s->Oper.wp P ⟨dst,op,D,pos,after,guard⟩ a w next Q:=by
  intro v y M L Z hK;unfold Oper.wp;rw[M];exact hn v s y w β τ π hK L (SV.mb ae Z) (R.sub ae)
 have ab:∀{v:AV} {y:Value},(execOp a.eval ⟨dst,op,D,pos,after,guard⟩).run P w=.ok (.value y) w->DV w π v y->K (.dat v none) s->Oper.wp P ⟨dst,op,D,pos,after,guard⟩ a w next Q:=
  λ{v y} M L hK=>fin (v:=.dat v none) M ⟨L,λt ht=>by cases ht⟩ trivial hK
 cases op<;>simp only[PI]at A<;>try(cases A;done)
 case move x=>
  simp only[em]at A;obtain⟨x',V,rfl⟩:=A;simp only[bB]at h;obtain⟨v,L,hK⟩:=af h;obtain⟨M,Z⟩:=R.bK V L;exact fin rfl M Z hK
 case assign x=>
  simp only[em]at A;obtain⟨x',V,rfl⟩:=A;simp only[bB]at h;obtain⟨v,L,hK⟩:=af h;obtain⟨M,Z⟩:=R.bK V L;exact fin rfl M Z hK
 case pick cc aa bb=>
  split at A<;>try(cases A;done)
  rename_i c' a' b' h1 h2 h3;cases A;simp only[bB]at h;obtain⟨t,ht,h⟩:=af h
  have hd:=R.aF h1 ht
  cases t<;>try(exact h.elim)
  rename_i t;obtain⟨u,Z,h⟩:=af h;obtain⟨v,L,cu,db⟩:=af h
  have hb:=hd.vR
  obtain⟨ra,ua⟩:=R.bK h2 Z;obtain⟨rb,ub⟩:=R.bK h3 L;cases t
  ·exact fin (by simp[execOp,hb,asBool]) rb ub (db rfl)
  ·exact fin (by simp[execOp,hb,asBool]) ra ua (cu rfl)
 case alloc t=>
  simp only[em]at A;obtain⟨zs,hz,rfl⟩:=A;simp only[bB]at h
  obtain⟨z,c2,c6,cr⟩:=rD (P:=P) (w:=w) (π:=π) hz
  have M:(execOp a.eval ⟨dst,.alloc t,D,pos,after,guard⟩).run P w=.ok (.value (.pointer (some ⟨w.heap.size,0,none⟩))) (w.alloc (.cells z.cells t)):=by
   simp[execOp,Instr.alloc,c2,newVar,Go.newRow]
  unfold Oper.wp;rw[M]
  exact hn _ _ _ _ _ _ _ h (show RV (CG β id w.heap.size) τ _ π (.ptr id 0) _ by simp[RV,bP]) (.inr rfl) (R.HY au t c6.take cr)
 case box t x=>
  simp only[em]at A;obtain⟨x',V,rfl⟩:=A;simp only[bB]at h;obtain⟨av,L,h⟩:=af h
  have hd:=R.aF V L
  have M:(execOp a.eval ⟨dst,.box t x,D,pos,after,guard⟩).run P w=.ok (.value (.pointer (some ⟨w.heap.size,0,none⟩))) (w.alloc (.cells (a.eval x).cells t)):=by
   simp[execOp,Instr.box,newVar,Go.newRow]
  obtain⟨ar,hK⟩:=h
  obtain⟨c5,ac⟩:=hd.cells (λvs e=>by subst e;simp[iL]at ar)
  unfold Oper.wp;rw[M]
  exact hn _ _ _ _ _ _ _ hK (show RV (CG β id w.heap.size) τ _ π (.ptr id 0) _ by simp[RV,bP]) (.inr rfl) (R.HY au t c5.take ac)
 case build t ps=>
  split at A<;>try(cases A;done)
  rename_i zs dj hz cy
  split at A<;>try(cases A;done)
  rename_i b2;cases A;simp only[dT]at b2;obtain⟨v,y,M,L,Z,hK⟩:=R.build hz cy b2.1 b2.2 h
  exact fin (by simp only[execOp,fp,M,fo,i8]) L Z hK
 case buildSlice t n ps=>
  split at A<;>try(cases A;done)
  rename_i e ht
  split at A<;>try(cases A;done)
  rename_i zs z xs hz a4 ad
  split at A<;>try(cases A;done)
  rename_i ar;cases A;obtain⟨v,y,s',w',τ',π',M,L,Z,hK,R'⟩:=R.buildSlice ht hz a4 ad ar au h;unfold Oper.wp
  have:(execOp a.eval ⟨dst,.buildSlice t n ps,D,pos,after,guard⟩).run P w=.ok (.value y) w':=by simp only[execOp,fp,M,fo,i8]
  rw[this];exact hn v s' y w' β τ' π' hK L Z R'
 case load t x=>
  split at A<;>try(cases A;done)
  rename_i r x' M V;cases A
  have:∃v y,(Instr.loadAt t (a.eval x)).run P w=.ok y w/\RV β τ w π v y/\v.fJ U/\K v s:=by
   split at h
   ·exact R.Xw V M h
   ·exact R.load V M h
  obtain⟨v,y,M,L,Z,hK⟩:=this
  exact fin (by simp only[execOp,fp,M,fo,i8]) L Z hK
 case store t x v=>
  split at A<;>try(cases A;done)
  rename_i z x' v' hz V L;cases A;obtain⟨s',w',M,hK,R'⟩:=R.store V L hz h;unfold Oper.wp
  have:(execOp a.eval ⟨dst,.store t x v,D,pos,after,guard⟩).run P w=.ok .skip w':=by simp only[execOp,fp,M,fo,i8]
  rw[this];exact hn .undef s' undef w' β τ π hK rfl trivial (R'.sub ae)
 case nilCheck x=>
  simp only[em]at A;obtain⟨x',V,rfl⟩:=A;simp only[bB]at h;obtain⟨v,L,h⟩:=af h;obtain⟨M,Z⟩:=R.bK V L
  cases v with
  |ptr b o=>
   have he:a.eval x=.pointer (some ⟨β b,o,none⟩):=M
   exact fin (v:=.ptr b o) (by simp[execOp,he]) (show RV β τ w π (.ptr b o) (.pointer (some ⟨β b,o,none⟩))from rfl) Z h
  |rp cs=>
   obtain⟨B,off,f,he,a2⟩:=M
   exact fin (v:=.rp cs) (by simp[execOp,he]) (show RV β τ w π (.rp cs) (.pointer (some ⟨B,off,none⟩))from⟨B,off,f,rfl,a2⟩) trivial h
  |undef=>exact h.elim
  |vs _ _ _ _=>exact h.elim
  |tW _ _ _=>exact h.elim
  |raw _ _=>exact h.elim
  |pt _ _=>exact h.elim
  |dat av q=>
   cases av<;>try(exact h.elim)
   case ref cs=>
    obtain⟨B,off,f,he,a2⟩:=(RV.ref (β:=β) (τ:=τ)).2 M.1
    exact fin (v:=.rp cs) (by simp[execOp,he]) (show RV β τ w π (.rp cs) (.pointer (some ⟨B,off,none⟩))from⟨B,off,f,rfl,a2⟩) trivial h
   rename_i fn as bs
   cases fn<;>try(exact h.elim)
   rename_i f
   have ca:=M
   obtain⟨hd,df⟩:=M;generalize ck:a.eval x=y at hd ca;cases hd
   exact fin (by simp[execOp,ck]) ca Z h
 case binOp op t x y yt=>
  split at A<;>try(cases A;done)
  rename_i x' y' V hy;split at A
  ·rename_i ct
   cases A;simp only[bB]at h;obtain⟨av,O,h⟩:=af h;obtain⟨bv,a8,h⟩:=af h;obtain⟨v,L,hK⟩:=af h
   obtain⟨u,w',a6,Z,hd⟩:=P3 (P:=P) (X:=x) (Y:=y) ct L (R.aF V O) (R.aF hy a8)
   rcases a6 with rfl|rfl
   ·exact ab (by simp only[execOp];rw[fp,Z];rfl) hd hK
   ·have M:(execOp a.eval ⟨dst,.binOp op t x y yt,D,pos,after,guard⟩).run P w=.ok (.value u) w.drew:=by
     simp only[execOp];rw[fp,Z];rfl
    unfold Oper.wp;rw[M]
    exact hn (.dat v none) _ _ _ _ _ _ hK ⟨S7.dv (Or.inr rfl) hd,λt ht=>by cases ht⟩ trivial (R.draw.sub ae)
  ·split at A
   ·rename_i co
    have key:∀neg,((op=.eql/\neg=false)\/(op=.neq/\neg=true))->c=.bb neg x' y'->Oper.wp P ⟨dst,.binOp op t x y yt,D,pos,after,guard⟩ a w next Q:=by
     intro neg bi e;subst e;simp only[bB]at h;obtain⟨av,O,h⟩:=af h;obtain⟨bv,a8,h⟩:=af h;obtain⟨v,L,hK⟩:=af h
     obtain⟨u,Z,hd⟩:=T7 (P:=P) (X:=x) (Y:=y) bi co L (R.aF V O) (R.aF hy a8)
     exact ab (by simp only[execOp];rw[fp,Z];rfl) hd hK
    split at A<;>try(cases A;done)
    ·cases A;exact key false (.inl ⟨rfl,rfl⟩) rfl
    ·cases A;exact key true (.inr ⟨rfl,rfl⟩) rfl
   split at A
   ·rename_i cv
    have key:∀neg,((op=.eql/\neg=false)\/(op=.neq/\neg=true))->y'=.k .bF->c=.TK neg x'->Oper.wp P ⟨dst,.binOp op t x y yt,D,pos,after,guard⟩ a w next Q:=by
     intro neg bi ey e;subst e ey;simp only[bB]at h;obtain⟨av,O,h⟩:=af h;obtain⟨b,hb,hK⟩:=af h
     have M:=Qa (P:=P) (X:=x) (Y:=y) bi cv hb (R.aF V O) (R.aF (v:=.bF) hy rfl)
     exact ab (by simp only[execOp];rw[fp,M];rfl) (.bool _) hK
    split at A<;>try(cases A;done)
    ·cases A;exact key false (.inl ⟨rfl,rfl⟩) rfl rfl
    ·cases A;exact key true (.inr ⟨rfl,rfl⟩) rfl rfl
   ·have key:∀neg,((op=.eql/\neg=false)\/(op=.neq/\neg=true))->Xl P t neg x' y'=some c->Oper.wp P ⟨dst,.binOp op t x y yt,D,pos,after,guard⟩ a w next Q:=by
     intro neg bi he;unfold Xl at he
     split at he<;>try(cases he;done)
     rename_i ks hk
     split at he<;>try(cases he;done)
     rename_i hg;cases he;simp only[bB]at h;obtain⟨av,O,h⟩:=af h
     cases av<;>try(exact h.elim)
     obtain⟨bv,a8,h⟩:=af h
     cases bv<;>try(exact h.elim)
     obtain⟨e,he,hK⟩:=af h
     have M:=P9 (P:=P) (X:=x) (Y:=y) bi hk hg (R.aF V O) (R.aF hy a8) he
     exact ab (by simp only[execOp];rw[fp,M];rfl) (.bool _) hK
    split at A<;>try(cases A;done)
    ·exact key false (.inl ⟨rfl,rfl⟩) A
    ·exact key true (.inr ⟨rfl,rfl⟩) A
 case unOp op t x=>
  simp only[em]at A;obtain⟨x',V,rfl⟩:=A;simp only[bB]at h;obtain⟨av,O,h⟩:=af h;obtain⟨v,L,hK⟩:=af h
  obtain⟨u,Z,hd⟩:=T8 (P:=P) L (R.aF V O)
  exact ab (by simp only[execOp,fp,Z,fo,i8]) hd hK
 case convert sr ds x=>
  simp only[kb]at A;obtain⟨x',V,A⟩:=A
  have da:=A
  have key:∀{av v:AV},Eng.aF s x'=some av->((∃k,c=.uI k x'/\CZ k av=some v)\/(∃k,c=.CI k x'/\C0 k av=some v)\/(∃k,c=.Ft k x'/\yK k av=some v))->K (.dat v none) s->Oper.wp P ⟨dst,.convert sr ds x,D,pos,after,guard⟩ a w next Q:=by
   intro av v O cx hK
   obtain⟨u,Z,hd⟩:=MU (P:=P) (X:=x) da (R.aF V O) cx
   exact ab (by simp only[execOp,fp,Z,fo,i8]) hd hK
  unfold FC at A
  split at A<;>try(cases A;done)
  all_goals
   cases A;simp only[bB]at h;obtain⟨av,O,h⟩:=af h;obtain⟨v,L,hK⟩:=af h
   first
    |exact key O (.inl ⟨_,rfl,L⟩) hK
    |exact key O (.inr (.inl ⟨_,rfl,L⟩)) hK
    |exact key O (.inr (.inr ⟨_,rfl,L⟩)) hK
 case makeFunc fn first caps=>
  cases fn<;>simp only[]at A<;>try(cases A;done)
  rename_i f
  split at A<;>try(cases A;done)
  rename_i as bs h1 h2
  split at A<;>try(cases A;done)
  cases A;simp only[bB]at h;obtain⟨xs,ad,h⟩:=af h;obtain⟨⟨a5,ids⟩,am,ar,h⟩:=af h;obtain⟨css,ac,hK⟩:=af h;simp only[dT]at ar
  have d1:=R.dQ (by simpa[f7]using h1) ad
  obtain⟨d2,c1⟩:=R.dS (by simpa[f7]using h2) am
  obtain⟨π',hp,R',bj⟩:=Rel.vW R (eH ar.1) ar.2 ac
  have c0:=(fe ac).1
  have d3:=tr hp d2 (c1 rfl) (by simpa using c0) (λk cs B h1 h2=>by
   rw[jp,em]at h2;obtain⟨b,hb,rfl⟩:=h2
   exact bj k b cs hb h1)
  have ch:=d1.mono hp (λ_ _ _=>rfl)
  have M:(execOp a.eval ⟨dst,.makeFunc (.func f) first caps,D,pos,after,guard⟩).run P w=.ok (.value (.func (.func f) (first.map a.eval) (caps.map a.eval))) w:=by simp[execOp,Instr.makeFunc]
  unfold Oper.wp;rw[M]
  refine hn (.dat (.fn (.func f) xs (je a5 css)) none) _ _ _ _ _ _ hK ⟨?_,λt ht=>by cases ht⟩ trivial (R'.sub ae)
  exact .fn _ _ _ _ _ (by simpa using ch.1) (by simpa using d3.1) (λi x v V L=>ch.2 i x v V (by simpa using L)) (λi x v V L=>d3.2 i x v V (by simpa using L))
 case slice t x lo hi mx=>
  cases mx<;>simp only[]at A<;>try(cases A;done)
  split at A<;>try(cases A;done)
  ·rename_i e x' di ci ht V hl hh
   simp only[em]at A;obtain⟨z,hz,rfl⟩:=A;obtain⟨v,y,M,L,Z,hK⟩:=R.slice ht hz V hl hh h
   exact fin (by simp only[execOp,fp,Option.map_none,M,fo,i8]) L Z hK
  ·rename_i n e x' ht V hl hh
   simp only[em]at A;obtain⟨z,hz,rfl⟩:=A
   have e1:lo=none:=by cases lo with|none=>rfl|some y=>simp[cOpt]at hl
   have e2:hi=none:=by cases hi with|none=>rfl|some y=>simp[cOpt]at hh
   subst e1 e2;simp only[bB]at h;obtain⟨v,L,h⟩:=af h
   have ag:=(R.bK V L).1
   cases v<;>try(exact h.elim)
   ·rename_i b off
    obtain⟨h4,h⟩:=h;obtain⟨bx,hb,bm,hK⟩:=af h
    have he:a.eval x=.pointer (some ⟨β b,off,none⟩):=ag
    have ac:aV s.boxes [b]=some [bx.cells]:=by simp[aV,hb]
    obtain⟨π',hp,R',bj⟩:=Rel.vW R (ids:=[b]) TB (by simp[iu,h4]) ac
    have M:(execOp a.eval ⟨dst,.slice t x none none none,D,pos,after,guard⟩).run P w=.ok (.value (.slice (some ⟨β b,off,none⟩) n n)) w:=by
     simp only[execOp,Option.map_none,he,fp,JC ht hz,fo,i8]
    unfold Oper.wp;rw[M]
    refine hn _ _ _ _ _ _ _ hK ⟨?_,λt ht=>by cases ht⟩ trivial (R'.sub ae)
    have:=MX (bj 0 b bx.cells rfl rfl) bm
    simpa using this
   ·rename_i cs
    obtain⟨bm,hK⟩:=h;obtain⟨B,o,f,he,h1,h2,h3,h5⟩:=ag
    have hd:DV w π (.ref cs) (.pointer (some ⟨B,o,none⟩)):=.ref cs B o f h1 h2 h3 h5
    have:=MX (off:=0) hd (by simpa using bm)
    refine ab ?_ (by simpa using this) hK
    have he:a.eval x=.pointer (some ⟨B,o,none⟩):=he
    simp only[execOp,Option.map_none,he,fp,JC ht hz,fo,i8]
  ·rename_i n e x' ci ht V hl hh
   simp only[em]at A;obtain⟨z,hz,rfl⟩:=A
   have e1:lo=none:=by cases lo with|none=>rfl|some y=>simp[cOpt]at hl
   subst e1
   cases hi with
   |none=>simp[cOpt]at hh
   |some hi=>
    simp only[cOpt,em,gg,exists_eq_right]at hh;simp only[bB]at h;obtain⟨v,L,h⟩:=af h
    have ag:=(R.bK V L).1
    have c3:=(R.bK V L).2
    cases v<;>try(exact h.elim)
    rename_i b off;obtain⟨b1,dd,h⟩:=af h;obtain⟨j,hj,⟨h0,h1⟩,hK⟩:=af h;obtain⟨k,hk⟩:=R.idx hh dd hj
    have he:a.eval x=.pointer (some ⟨β b,off,none⟩):=ag
    have M:(execOp a.eval ⟨dst,.slice t x none (some hi) none,D,pos,after,guard⟩).run P w=.ok (.value (.slice (some ⟨β b,off,none⟩) j.toNat n)) w:=by
     simp only[execOp,Option.map_none,mi,he,hk,fp,Qc ht hz h0 h1,fo,i8]
    exact fin (v:=.vs b off j.toNat z) M ⟨n,ST,rfl⟩ c3 hK
 case fieldAddr t x f=>
  split at A<;>try(cases A;done)
  rename_i fd x' hf V
  split at A<;>try(cases A;done)
  rename_i hz;cases A;obtain⟨v,y,M,L,Z,hK⟩:=R.fieldAddr V hf hz h
  exact fin (by simp only[execOp,fp,M,fo,i8]) L Z hK
 case field t x f=>
  split at A<;>try(cases A;done)
  rename_i fd x' hf V;simp only[em]at A;obtain⟨r,M,rfl⟩:=A;simp only[bB]at h;obtain⟨av,O,h⟩:=af h
  have hd:=R.aF V O
  cases av<;>try(exact h.elim)
  rename_i cs;obtain⟨v,L,hK⟩:=af h;unfold vP at hf
  split at hf<;>try(cases hf;done)
  rename_i fs Z;generalize he:a.eval x=u at hd
  cases hd with
  |agg _ us h1 h2 h3=>
   obtain⟨u,b8,ak⟩:=FH (P:=P) M h1 h2 h3 L
   exact ab (by simp[execOp,he,Instr.field,asAgg,il Z,hf,b8]) ak hK
 case indexAddr t x i=>
  split at A<;>try(cases A;done)
  ·rename_i n e x' i' ht V hi
   simp only[em]at A;obtain⟨z,hz,rfl⟩:=A;obtain⟨v,y,M,L,Z,hK⟩:=R.MV V hi ht hz h
   exact fin (by simp only[execOp,fp,M,fo,i8]) L Z hK
  ·rename_i e x' i' ht V hi
   simp only[em]at A;obtain⟨z,hz,rfl⟩:=A;obtain⟨v,y,M,L,Z,hK⟩:=R.P8 V hi ht hz h
   exact fin (by simp only[execOp,fp,M,fo,i8]) L Z hK
 case index t x i=>
  split at A<;>try(cases A;done)
  rotate_left
  ·rename_i x' i' ht V hi
   cases A;simp only[bB]at h;obtain⟨av,O,h⟩:=af h
   have hd:=R.aF V O
   cases av<;>try(exact h.elim)
   rename_i bs;obtain⟨b,hb,h⟩:=af h;obtain⟨j,hj,h⟩:=af h;obtain⟨v,L,hK⟩:=af h;obtain⟨k,hk⟩:=R.idx hi hb hj;generalize he:a.eval x=u at hd;cases hd;unfold Jo at L
   split at L<;>try(cases L;done)
   rename_i b4;cases L
   exact ab (by simp[execOp,he,Instr.index,hk,asIntOf,il ht,b4]) (.int _ _) hK
  rename_i n e x' i' ht V hi
  split at A<;>try(cases A;done)
  rename_i z r hz M;cases A;simp only[bB]at h;obtain⟨av,O,h⟩:=af h
  have hd:=R.aF V O
  cases av<;>try(exact h.elim)
  rename_i cs;obtain⟨b,hb,h⟩:=af h;obtain⟨j,hj,h⟩:=af h;obtain⟨b4,h⟩:=h;obtain⟨v,L,hK⟩:=af h;obtain⟨k,hk⟩:=R.idx hi hb hj
  have a4:=dL (w:=w) hz
  generalize he:a.eval x=u at hd
  cases hd with
  |agg _ us h1 h2 h3=>
   obtain⟨u,b8,ak⟩:=FH (P:=P) M h1 h2 h3 L
   exact ab (by simp[execOp,he,Instr.index,hk,asIntOf,il ht,b4,a4,b8]) ak hK
 case extract x i=>
  simp only[em]at A;obtain⟨x',V,rfl⟩:=A;simp only[bB]at h;obtain⟨av,O,h⟩:=af h;obtain⟨v,L,hK⟩:=af h
  obtain⟨u,Z,hd⟩:=P5 (P:=P) L (R.aF V O)
  exact ab (by simp only[execOp,fp,Z,fo,i8]) hd hK
 case call cl=>
  obtain⟨callee,args,argTypes⟩:=cl
  -- a call
  have enter:∀{f:Nat} {as:List AV} {vs:List Value} {r:AV} {fr:Option Nat},C4 P f as r fr->iy w π as vs->
    (execOp a.eval ⟨dst,.call ⟨callee,args,argTypes⟩,D,pos,after,guard⟩).run P w=.ok (.enter f vs.toArray) w->
    K (.dat r (fr.map λ_=>id)) {s with live:=match(generalizing:=false) fr with|some e=>(id,e)::s.live|none=>s.live}->
    Oper.wp P ⟨dst,.call ⟨callee,args,argTypes⟩,D,pos,after,guard⟩ a w next Q:=by
   intro f as vs r fr hp hd M hK;unfold Oper.wp;rw[M,wc];refine(hp.2 w π vs R.ez hd).mono ?_
   rintro e w' ⟨v,π',rfl,an,bd,a9,a3,ba,be⟩
   obtain⟨τ',ag,R'⟩:=R.called au an bd a9 a3 ba be
   exact hn _ _ _ _ _ _ _ hK ag (by cases fr with|none=>trivial|some e=>exact .inr rfl) R'
  simp only[t6]at A;split at A
  ·rename_i f
   by_cases al:cw P f=true
   rotate_left
   ·rw[fx al]at A
    split at A<;>try(cases A;done)
    rename_i e x c4 hargs;simp only[em]at A;obtain⟨x',V,rfl⟩:=A;simp only[bB]at h;obtain⟨av,O,h⟩:=af h;obtain⟨v,L,hK⟩:=af h
    obtain⟨u,Z,ak⟩:=Uc c4 L (R.aF V O)
    have eX:args=#[x]:=lj.1 (by simpa using hargs)
    subst eX
    exact ab (by simp[execOp,resolve,Act.eval,Deferred.ofValue,invoke];simpa[Act.eval]using Z) ak hK
   rw[gc al]at A;simp only[em]at A;obtain⟨xs,ad,b6⟩:=A;split at b6
   ·subst b6
    simp only[bB]at h;obtain⟨⟨a5,ids⟩,am,b7,h⟩:=af h;obtain⟨css,ac,r,fr,bo,hp,hK⟩:=af h
    have hp:AA P f css a5 r fr bo:=hp
    obtain⟨cb,b3,_,hp⟩:=hp
    have ao:ids.Nodup:=eH b7
    have b0:=(R.dS (by simpa[f7]using ad) am).1
    have e1:(args.toList.map a.eval).toArray=args.map a.eval:=lj.1 TB
    have M:(execOp a.eval ⟨dst,.call ⟨.value (.func f),args,argTypes⟩,D,pos,after,guard⟩).run P w=.ok (.enter f (args.toList.map a.eval).toArray) w:=by
     rw[e1];simp[execOp,resolve,Act.eval,Deferred.ofValue,invoke,ff al]
    unfold Oper.wp;rw[M,wc];refine(hp w π (ids.map β) (args.toList.map a.eval) R.ez (R.nodup ao ac) (R.o6 ac) b0).mono ?_
    rintro e w' ⟨v,π',rfl,an,bd,a9,a3,b5,ba,be⟩
    obtain⟨τ',ag,R'⟩:=R.vU au ao ac b3 an bd a9 a3 b5 ba be
    exact hn _ _ _ _ _ _ _ hK ag (by cases fr with|none=>trivial|some e=>exact .inr rfl) R'
   subst b6;simp only[bB]at h;obtain⟨as,has,r,fr,hp,hK⟩:=af h
   have hd:=R.dQ (by simpa[f7]using ad) has
   have e1:(args.toList.map a.eval).toArray=args.map a.eval:=lj.1 TB
   exact enter hp hd (by rw[e1];simp[execOp,resolve,Act.eval,Deferred.ofValue,invoke,ff al]) hK
  ·rename_i g hg
   split at A<;>try(cases A;done)
   rename_i g' xs ce ad;simp only[gg]at A;split at A
   ·subst A
    simp only[bB]at h;obtain⟨av,O,h⟩:=af h
    have a7:=R.aF ce O
    cases av<;>try(exact h.elim)
    rename_i fn first caps
    cases fn<;>try(exact h.elim)
    rename_i f
    cases first<;>try(exact h.elim)
    cases caps<;>try(exact h.elim)
    obtain⟨⟨a5,ids⟩,am,b7,h⟩:=af h;obtain⟨css,ac,r,fr,bo,hp,hK⟩:=af h
    have hp:AA P f css a5 r fr bo:=hp
    obtain⟨cb,b3,_,hp⟩:=hp
    have ao:ids.Nodup:=eH b7
    have b0:=(R.dS (by simpa[f7]using ad) am).1
    have e1:(args.toList.map a.eval).toArray=args.map a.eval:=lj.1 TB
    have M:(execOp a.eval ⟨dst,.call ⟨.value g,args,argTypes⟩,D,pos,after,guard⟩).run P w=.ok (.enter f (args.toList.map a.eval).toArray) w:=by
     generalize he:a.eval g=u at a7
     cases a7 with
     |fn _ _ vs _ us h1 h2 h3 h4=>
      have e2:vs=#[]:=H5.1 (by simpa using h1.symm)
      have e3:us=#[]:=H5.1 (by simpa using h2.symm)
      subst e2 e3;rw[e1];simp[execOp,resolve,he,Deferred.ofValue,invoke,ff cb]
    unfold Oper.wp;rw[M,wc];refine(hp w π (ids.map β) (args.toList.map a.eval) R.ez (R.nodup ao ac) (R.o6 ac) b0).mono ?_
    rintro e w' ⟨v,π',rfl,an,bd,a9,a3,b5,ba,be⟩
    obtain⟨τ',ag,R'⟩:=R.vU au ao ac b3 an bd a9 a3 b5 ba be
    exact hn _ _ _ _ _ _ _ hK ag (by cases fr with|none=>trivial|some e=>exact .inr rfl) R'
   subst A;simp only[bB]at h;obtain⟨av,O,h⟩:=af h
   have a7:=R.aF ce O
   cases av<;>try(exact h.elim)
   rename_i fn first caps
   cases fn<;>try(exact h.elim)
   rename_i f;obtain⟨as,has,r,fr,hp,hK⟩:=af h
   have hd:=R.dQ (by simpa[f7]using ad) has
   generalize he:a.eval g=u at a7
   cases a7 with
   |fn _ _ vs _ us h1 h2 h3 h4=>
    have d1:iy w π first vs.toList:=⟨by simpa using h1,λi x v V L=>h3 i x v V (by simpa using L)⟩
    have d2:iy w π caps us.toList:=⟨by simpa using h2,λi x v V L=>h4 i x v V (by simpa using L)⟩
    have e1:(vs.toList++(args.toList.map a.eval)++us.toList).toArray=vs++args.map a.eval++us:=by
     apply lj.1;simp
    refine enter hp ((d1.append hd).append d2) ?_ hK;rw[e1]
    simp[execOp,resolve,he,Deferred.ofValue,invoke,ff (show C4 P _ _ _ _ from hp).1]
  ·--len
   split at A<;>try(cases A;done)
   rename_i t x hT hX
   split at A<;>try(cases A;done)
   ·rename_i e ht
    simp only[em]at A;obtain⟨x',V,rfl⟩:=A;simp only[bB]at h;obtain⟨sv,am,h⟩:=af h
    cases sv with
    |ptr _ _=>exact h.elim
    |rp _=>exact h.elim
    |undef=>exact h.elim
    |tW _ _ _=>exact h.elim
    |raw _ _=>exact h.elim
    |pt _ _=>exact h.elim
    |vs b off n z=>
     obtain⟨⟨cap,_,L⟩,_⟩:=R.bK V am
     exact ab (v:=.int .i64 n) (y:=.int .i64 n) (by simp[execOp,resolve,invoke,builtin,Builtin.len_,hT,hX,L,il ht,goInt]) (.int _ _) h
    |dat av q=>
     obtain⟨v,L,hK⟩:=af h
     have O:Eng.aF s x'=some av:=by simp[Eng.aF,am]
     obtain⟨u,Z,hd⟩:=P4 (P:=P) ht hT (Xs:=args.map a.eval) (by simp[hX]) (R.aF V O) L D
     exact ab (by simp[execOp,resolve,invoke,builtin,Z]) hd hK
   ·rename_i n e ht
    cases A;simp only[bB]at h
    exact ab (v:=.int .i64 n) (y:=.int .i64 n) (by simp[execOp,resolve,invoke,builtin,Builtin.len_,hT,hX,il ht,goInt]) (.int _ _) h
  ·--append
   split at A<;>try(cases A;done)
   rename_i t t' x y hT hX
   split at A<;>try(cases A;done)
   rename_i cp;subst cp
   split at A<;>try(cases A;done)
   rename_i e x' y' ht V hy
   split at A<;>try(cases A;done)
   rename_i i hi
   split at A<;>try(cases A;done)
   rename_i zv hz
   split at A<;>try(cases A;done)
   rename_i a4;cases A;obtain⟨v,u,s',w',τ',π',M,L,Z,hK,R'⟩:=R.append ht hi hz a4 V hy au D h
   have eT:argTypes=#[t,t]:=lj.1 (by simpa using hT)
   have eX:args=#[x,y]:=lj.1 (by simpa using hX)
   subst eT eX;unfold Oper.wp
   have:(execOp a.eval ⟨dst,.call ⟨.builtin .append,#[x,y],#[t,t]⟩,D,pos,after,guard⟩).run P w=.ok (.value u) w':=by
    simp[execOp,resolve,invoke,builtin,M]
   rw[this];exact hn v s' u w' β τ' π' hK L Z R'
  ·simp only[em]at A
   obtain⟨xs,ad,rfl⟩:=A;simp only[bB]at h;obtain⟨as,has,h⟩:=af h
   have hd:=R.dQ (by simpa[f7]using ad) has
   cases as with
   |nil=>exact h.elim
   |cons b as=>
    obtain⟨v,L,hK⟩:=af h;obtain⟨args⟩:=args
    cases args with
    |nil=>have:=hd.1;simp at this
    |cons y ys=>
     obtain⟨u,w',a6,Z,ak⟩:=HZ (P:=P) L (hd.2 0 b (a.eval y) rfl rfl) (us:=ys.map a.eval) ⟨by have:=hd.1;simpa using this,λi a v h1 h2=>hd.2 (i+1) a v (by simpa using h1) (by simpa using h2)⟩
     simp only[kv]at Z
     have M:(execOp a.eval ⟨dst,.call ⟨.builtin .max,⟨y::ys⟩,argTypes⟩,D,pos,after,guard⟩).run P w=.ok (.value u) w':=by simp[execOp,resolve,invoke,builtin,Builtin.max_,Z]
     unfold Oper.wp;rw[M]
     exact hn (.dat v none) _ _ _ _ _ _ hK ⟨ak,λt ht=>by cases ht⟩ trivial (R.nh a6|>.sub ae)
  ·simp only[em]at A
   obtain⟨xs,ad,rfl⟩:=A;simp only[bB]at h;obtain⟨as,has,h⟩:=af h
   have hd:=R.dQ (by simpa[f7]using ad) has
   cases as with
   |nil=>exact h.elim
   |cons b as=>
    obtain⟨v,L,hK⟩:=af h;obtain⟨args⟩:=args
    cases args with
    |nil=>have:=hd.1;simp at this
    |cons y ys=>
     obtain⟨u,w',a6,Z,ak⟩:=HZ (P:=P) L (hd.2 0 b (a.eval y) rfl rfl) (us:=ys.map a.eval) ⟨by have:=hd.1;simpa using this,λi a v h1 h2=>hd.2 (i+1) a v (by simpa using h1) (by simpa using h2)⟩
     simp only[eQ,ik]at Z
     have M:(execOp a.eval ⟨dst,.call ⟨.builtin .min,⟨y::ys⟩,argTypes⟩,D,pos,after,guard⟩).run P w=.ok (.value u) w':=by simp[execOp,resolve,invoke,builtin,Builtin.min_,Z]
     unfold Oper.wp;rw[M]
     exact hn (.dat v none) _ _ _ _ _ _ hK ⟨ak,λt ht=>by cases ht⟩ trivial (R.nh a6|>.sub ae)
  ·cases A
theorem yQ(z:Nat):∀(n:Nat) (cs:List AV),(cq z n cs).flatten=cs.take (n*z)
 |0,cs=>by simp[cq]
 |n+1,cs=>by
  rw[cq,List.flatten_cons,yQ z n,Nat.succ_mul,Nat.add_comm,List.take_add]
theorem yR(z:Nat):∀(n:Nat) (cs:List AV),n*z<=cs.length->∀r∈cq z n cs,r.length=z
 |0,cs,_,r,h=>by simp[cq]at h
 |n+1,cs,A,r,h=>by
  rw[Nat.succ_mul]at A;rw[cq]at h
  rcases lw.1 h with rfl|h
  ·simp;omega
  ·exact yR z n (cs.drop z) (by simp;omega) r h
theorem Rel.Qf(R:Rel P nt n0 w0 π0 U s a w β τ π) {e:TypeId} {i:TypeInfo} {zv:Value} {x:bn} {y:Nat} (ht:P.underlying t=some (.slice e)) (hi:P.info? e=some i) (hz:i.zero=some zv) (V:(0<i.size&&zv.cells.size==i.size&&0<i.bytes)=true) (hx:bV X=some x) (a6:¬U id) (ty:TypeId) (h:bB (Pure P) id (.CJ e i.size i.bytes (.t y) x) K s):
  ∃v u s' w' τ' π',(Builtin.append_ #[t,t] ty #[.slice none 0 0,a.eval (.tmp y)]).run P w=.ok u w'/\RV β τ' w' π' v u/\v.fJ (dZ U id)/\K v s'/\Rel P nt n0 w0 π0 (dZ U id) s' a w' β τ' π':=by
 simp only[dT,gn,lc]at V;obtain⟨⟨ao,a4⟩,au⟩:=V
 have ag:∀n,U n->dZ U id n:=λn h=>.inl h
 simp only[bB]at h;obtain⟨p,hp,h⟩:=af h
 have am:=(R.bK (X:=.tmp y) (x:=.t y) rfl hp).1
 cases p<;>try(exact h.elim)
 rename_i b off n z';obtain⟨q,hq,h2⟩:=af h;clear h
 cases q<;>try(exact h2.elim)
 rename_i b' o';obtain⟨⟨ar,a7⟩,h3⟩:=h2;obtain⟨bx,hb,⟨ac,hbytes⟩,hK⟩:=af h3;clear h3;subst ar a7;obtain⟨cap,a8,hv⟩:=am;obtain⟨_,_,aa,_⟩:=R.boxes b' bx hb;obtain⟨f,hf,a5,a2,_⟩:=aa.cells;rw[hv];simp only[List.length_drop]at ac
 by_cases M:n=0
 ·subst M
  rw[gc rfl]at hK
  refine⟨.dat .bF none,.slice none 0 0,s,w,τ,π,?_,⟨.bF,λt ht=>by cases ht⟩,trivial,hK,R.sub ag⟩
  simp[Builtin.append_,il ht,sizeOf,typeInfo,hi,Builtin.lenOf,Builtin.firstCells,loadCells,loadCellsFrom]
 ·rw[fx M]at hK
  have ab:0<n:=Nat.pos_of_ne_zero M
  have O:n<=maxLen:=by
   have:=Hm n au
   simp only[maxLen];omega
  have B:=uR i.size n (bx.cells.drop off)
  have ak:=yR i.size n (bx.cells.drop off) (by simp;omega)
  have L:=yQ i.size n (bx.cells.drop off)
  have al:∀(j:Nat) (c:AV),(cq i.size n (bx.cells.drop off)).flatten[j]? =some c->j<n*i.size/\bx.cells[off+j]? =some c:=by
   intro j c A;rw[L,ul]at A;split at A
   ·rename_i D;rw[lh]at A;exact⟨D,A⟩
   ·cases A
  have hnews:((List.range (n*i.size)).map λj=>f (off+j)).length=n*i.size:=TB
  have hcell:∀j v,((List.range (n*i.size)).map λj=>f (off+j))[j]? =some v->w.cell? ((⟨β b',off,none⟩:Addr).add j)=some v:=by
   intro j v A;rw[jp,em]at A;obtain⟨k,hk,rfl⟩:=A
   have an:j<n*i.size:=by
    rcases ix j (n*i.size)with h|h
    ·exact h
    ·rw[iv (by simpa using h)]at hk;cases hk
   rw[kh an]at hk;cases hk;rw[gG]
   exact hf _ ST
  have a3:iy w π (cq i.size n (bx.cells.drop off)).flatten ((List.range (n*i.size)).map λj=>f (off+j)):=by
   refine⟨by rw[L];simp;omega,λj c v hc A=>?_⟩
   obtain⟨D,hc⟩:=al j c hc;rw[jp,kh D]at A;cases A;exact a2 _ _ hc
  have ad:∀r∈cq i.size n (bx.cells.drop off),∀x∈r,x.scalar=true:=by
   intro r hr x hx
   have hm:x∈(cq i.size n (bx.cells.drop off)).flatten:=Ix.2 ⟨r,hr,hx⟩
   rw[L]at hm
   obtain⟨j,A⟩:=mr.1 (pm (ut hm))
   exact a5 j x A
  have ae:=run_append_nil (P:=P) w t ty e i zv ht hi hz ⟨β b',off,none⟩ n cap _ hnews hcell ab (by simp only[maxLen]at O;omega) ST
  obtain⟨π',R',Z⟩:=R.grown (id:=id) (old:=0) hi hz rfl a4 ao a6 (zs:=cq i.size n (bx.cells.drop off)) (vs:=(List.range (n*i.size)).map λj=>f (off+j)) (by rw[B,hnews]) a3 ak ad (by rw[B];exact O) rfl
  rw[B]at R' Z
  exact⟨.dat (.sl _) (some id),_,_,_,_,_,ae,⟨Z,λt ht=>by cases ht;rw[bP]⟩,.inr rfl,hK,R'⟩
theorem H7(R:Rel P nt n0 w0 π0 U s a w β τ π) {o:Oper} (A:KZ P ops o.op=some c) (h:bB (Pure P) id c K s) (Z:∀v L x w' β' τ' π',K v L->RV β' τ' w' π' v x->v.fJ (dZ U id)->Rel P nt n0 w0 π0 (dZ U id) L a w' β' τ' π'->next (a.put o.dst x) w'):o.wp P a w next Q:=by
 obtain⟨dst,op,B,pos,after,guard⟩:=o;simp only at A;unfold KZ at A
 split at A<;>try(cases A;done)
 rename_i t x
 split at A<;>try(cases A;done)
 split at A<;>try(cases A;done)
 rename_i r x' D V;cases A;obtain⟨v,y,D,M,O,hK⟩:=R.load V D h;unfold Oper.wp
 have:(execOp a.eval ⟨dst,.load t x,B,pos,after,guard⟩).run P w=.ok (.value y) w:=by simp only[execOp,fp,D,fo,i8]
 rw[this]
 exact Z v s y w β τ π hK M (SV.mb (λn h=>.inl h) O) (R.sub λn h=>.inl h)
theorem H8(R:Rel P nt n0 w0 π0 U s a w β τ π) {o:Oper} (Z:¬U id) (A:uM P ops o.op=some c) (h:bB (Pure P) id c K s) (hn:∀v L x w' β' τ' π',K v L->RV β' τ' w' π' v x->v.fJ (dZ U id)->Rel P nt n0 w0 π0 (dZ U id) L a w' β' τ' π'->next (a.put o.dst x) w'):o.wp P a w next Q:=by
 obtain⟨dst,op,D,pos,after,guard⟩:=o;simp only at A;unfold uM at A
 split at A<;>try(cases A;done)
 rename_i cl
 split at A<;>try(cases A;done)
 rename_i t t' y B hT hX
 split at A<;>try(cases A;done)
 rename_i V;subst V
 split at A<;>try(cases A;done)
 rename_i e x' ht hx
 split at A<;>try(cases A;done)
 rename_i i hi
 split at A<;>try(cases A;done)
 rename_i zv hz
 split at A<;>try(cases A;done)
 rename_i O;cases A;obtain⟨X,aa,M⟩:=kb.1 hx;obtain⟨v,u,L,w',τ',π',hr,hv,hu,hK,R'⟩:=R.Qf ht hi hz O M Z D h;obtain⟨callee,args,argTypes⟩:=cl;simp only at B hT hX
 have eT:argTypes=#[t,t]:=lj.1 (by simpa using hT)
 have eX:args=#[.const (.slice none 0 0),.tmp y]:=lj.1 (by simpa using hX)
 subst eT eX B;unfold Oper.wp
 have:(execOp a.eval ⟨dst,.call ⟨.builtin .append,#[.const (.slice none 0 0),.tmp y],#[t,t]⟩,D,pos,after,guard⟩).run P w=.ok (.value u) w':=by
  have e0:a.eval (.const (.slice none 0 0))=.slice none 0 0:=rfl
  simp[execOp,resolve,invoke,builtin,hr,e0]
 rw[this];exact hn v L u w' β τ' π' hK hv hu R'
end
end
end Go.Eng
