/- The engine and the library,part 14 of 21: what the proofs of this seat need of them. -/
import Derived.Test.YtkckiembbiiliaaGreatPk13
set_option linter.unnecessarySimpa false
set_option linter.unusedSimpArgs false
set_option linter.unusedVariables false
set_option linter.defProp false
set_option maxRecDepth 10000
set_option maxHeartbeats 4000000
namespace Go.Eng
open Go
def bX(groups g:Nat):Nat:=8-(groups-1-g)
def dY(p m:Nat):List Int:=(List.range m).map fun(j:Nat)=>((p+j:Nat):Int)
def cnt(l:Option (List Int)) (g k:Nat) (r0:Nat):Nat:=
 let n:=(bV l (1+2*g+k) 3).toNat
 if k=1/\n=0/\r0=0 then 1 else n
def bA(n p lim:Nat):Nat:=min n (lim-p)
def bD(l:Option (List Int)) (groups:Nat):Nat->List Gr×Nat
 |0=>([],0)
 |g+1=>
  let q:=bD l groups g
  let m0:=bA (cnt l g 0 0) q.2 (bX groups g)
  let m1:=bA (cnt l g 1 m0) (q.2+m0) (bX groups g)
  (q.1++[⟨bf (dY q.2 m0),bf (dY (q.2+m0) m1)⟩],q.2+m0+m1)
def dQ(l:Option (List Int)):Nat:=(1+bV l 0 3).toNat
def rows.Spec(C:bw) (f:Nat):Prop:=∀(t:Tb) (l:Option (List Int)),t.Ok->t.groups=none->C.p f [t.cells] [none,some (aD aA l)] (I ((bD l (dQ l) (dQ l)).2:Nat)) none [({t with groups:=some (bD l (dQ l) (dQ l)).1}:Tb).cells]
theorem Tb.len'{t:Tb} (h1:t.phases.length=8) (h2:t.conflict.length=8) (h3:t.bp.length=8):t.cells.length=131:=by
 simp[Tb.cells,aY Ph.len,h1,h2,h3]
theorem Tb.uj{t:Tb} (h:t.phases.length=8):t.cells[104]? =some (aD Gr.cells t.groups):=by
 simp[Tb.cells,List.getElem?_append,aY Ph.len,h]
theorem Tb.zF{t:Tb} (h:t.phases.length=8) (g:Option (List Gr)):t.cells.take 104++(aD Gr.cells g::t.cells.drop 105)=({t with groups:=g}:Tb).cells:=by
 have e:(t.phases.flatMap Ph.cells).length=104:=by rw[aY Ph.len,h]
 simp only[Tb.cells]
 rw[List.take_append_of_le_length (by omega),List.take_of_length_le (by omega),List.drop_append,List.drop_of_length_le (by omega),e]
 rfl
theorem vB{C:bw} {base:Nat}:∀{l:List CO} {i:Nat} {s:S} {K:S->Prop},jh C base i l K s->∃s',K s'/\∀K':S->Prop,K' s'->jh C base i l K' s
 |[],i,s,K,h=>⟨s,h,fun _ h=>h⟩
 |o::l,i,s,K,h=>by
  rw[kK]at h;obtain⟨v,d,hd,hk',_⟩:=eY h;obtain⟨s',h1,h2⟩:=vB hk'
  refine⟨s',h1,fun K' hK=>?_⟩
  rw[kK];exact hd.2 s .refl _ (h2 K' hK)
theorem Re{C:bw} {id:Nat} {o:bR} {K:SV->S->Prop} {s:S} (h:bN C id o K s):∃v s',K v s'/\∀K':SV->S->Prop,K' v s'->bN C id o K' s:=by
 obtain⟨v,d,hK,hok,hU,hfp,hs⟩:=qH h
 exact⟨v,_,hK,fun K' hk=>hs s .refl _ hk⟩
theorem Nq{C:bw} {id:Nat} {o:CD} {K:SV->S->Prop} {X:AV->S->Prop} {s:S} (h:bH C id o K X s):
  (∃v s',K v s'/\∀(K':SV->S->Prop) (X':AV->S->Prop),K' v s'->bH C id o K' X' s)\/∃p s',X p s'/\∀(K':SV->S->Prop) (X':AV->S->Prop),X' p s'->bH C id o K' X' s:=by
 have so:∀{c:bR},bN C id c K s->(∀(K':SV->S->Prop) (X':AV->S->Prop),bN C id c K' s->bH C id o K' X' s)->(∃v s',K v s'/\∀(K':SV->S->Prop) (X':AV->S->Prop),K' v s'->bH C id o K' X' s)\/∃p s',X p s'/\∀(K':SV->S->Prop) (X':AV->S->Prop),X' p s'->bH C id o K' X' s:=by
  intro c h g;obtain⟨v,s',h1,h2⟩:=Re h
  exact .inl ⟨v,s',h1,fun K' X' hk=>g K' X' (h2 K' hk)⟩
 cases o with
 |o c=>exact so h fun _ _ h=>h
 |call f args=>
  simp only[bH]at h
  rcases h with h|h
  ·exact so h fun _ _ h=>.inl h
  ·obtain⟨as,has,h⟩:=af h
   rcases h with⟨cs,h1,h2⟩|⟨p,h1,h2⟩|⟨rows,e,z,h1,h3,h2⟩
   ·exact .inl ⟨_,_,h2,fun K' X' hk=>by simp only[bH,has];exact .inr (.inl ⟨cs,h1,hk⟩)⟩
   ·exact .inr ⟨_,_,h2,fun K' X' hk=>by simp only[bH,has];exact .inr (.inr (.inl ⟨p,h1,hk⟩))⟩
   ·exact .inl ⟨_,_,h2,fun K' X' hk=>by simp only[bH,has];exact .inr (.inr (.inr ⟨rows,e,z,h1,h3,hk⟩))⟩
 |Sn e z bytes y=>
  obtain⟨a,ha,h⟩:=af h;obtain⟨rows,hr,h1,h3,h2⟩:=af h
  exact .inl ⟨_,_,h2,fun K' X' hk=>by simp only[bH,ha,hr,aG];exact⟨h1,h3,hk⟩⟩
 |aE f args=>
  simp only[bH]at h
  rcases h with h|h
  ·exact so h fun _ _ h=>.inl h
  ·obtain⟨p,hp,hn,h⟩:=af h
   obtain⟨css,hcs,h⟩:=af h
   rcases h with⟨v,css',h1,h2⟩|⟨tg,r,css',tg',h1,h2⟩
   ·exact .inr ⟨_,_,h2,fun K' X' hk=>by simp only[bH,hp];exact .inr ⟨hn,by rw[hcs];exact .inl ⟨v,css',h1,hk⟩⟩⟩
   ·obtain⟨qo,hq,h2⟩:=af h2
    exact .inl ⟨_,_,h2,fun K' X' hk=>by simp only[bH,hp];exact .inr ⟨hn,by rw[hcs];exact .inr ⟨tg,r,css',tg',h1,by rw[hq];exact hk⟩⟩⟩
 |fc b g args=>
  simp only[bH]at h;split at h
  ·rename_i f as bs hg
   obtain⟨p,hp,hn,h⟩:=af h;obtain⟨css,hcs,h⟩:=af h
   rcases h with⟨r,fr,css',h1,h2⟩|⟨v,css',h1,h2⟩|⟨tg,r,css',tg',h1,h2⟩
   ·exact .inl ⟨_,_,h2,fun K' X' hk=>by simp only[bH,hg,hp];exact⟨hn,by rw[hcs];exact .inl ⟨r,fr,css',h1,hk⟩⟩⟩
   ·exact .inr ⟨_,_,h2,fun K' X' hk=>by simp only[bH,hg,hp];exact⟨hn,by rw[hcs];exact .inr (.inl ⟨v,css',h1,hk⟩)⟩⟩
   ·obtain⟨qo,hq,h2⟩:=af h2
    exact .inl ⟨_,_,h2,fun K' X' hk=>by simp only[bH,hg,hp];exact⟨hn,by rw[hcs];exact .inr (.inr ⟨tg,r,css',tg',h1,by rw[hq];exact hk⟩)⟩⟩
  ·rename_i hg
   refine so h fun K' X' h=>?_
   simp only[bH];revert h
   cases hv:bM s g with
   |none=>exact fun h=>h
   |some v=>cases v<;>first|exact fun h=>h|exact(hg _ _ _ hv).elim
 |Sm f caps=>obtain⟨p,hp,h⟩:=af h;exact .inl ⟨_,_,h,fun K' X' hk=>by simp only[bH,hp];exact hk⟩
 |Hy x=>obtain⟨a,ha,h1,h2⟩:=af h;exact .inr ⟨_,_,h2,fun K' X' hk=>by simp only[bH,ha];exact⟨h1,hk⟩⟩
 |Hz t x=>obtain⟨a,ha,h1,h2⟩:=af h;exact .inl ⟨_,_,h2,fun K' X' hk=>by simp only[bH,ha];exact⟨h1,hk⟩⟩
 |NO t z x=>
  obtain⟨a,ha,h⟩:=af h;obtain⟨v,hv,h⟩:=af h
  exact .inl ⟨_,_,h,fun K' X' hk=>by simp only[bH,ha,aG,hv];exact hk⟩
 |RH neg x=>
  obtain⟨a,ha,h⟩:=af h;obtain⟨v,hv,h⟩:=af h
  exact .inl ⟨_,_,h,fun K' X' hk=>by simp only[bH,ha,aG,hv];exact hk⟩
 |RI neg x=>
  obtain⟨a,ha,h⟩:=af h;obtain⟨v,hv,h⟩:=af h
  exact .inl ⟨_,_,h,fun K' X' hk=>by simp only[bH,ha,aG,hv];exact hk⟩
 |RJ e bytes l c=>
  obtain⟨a,ha,h⟩:=af h;obtain⟨l',hl,h⟩:=af h;obtain⟨b,hb,h⟩:=af h;obtain⟨c',hc,h1,h⟩:=af h
  exact .inl ⟨_,_,h,fun K' X' hk=>by simp only[bH,ha,aG,hl,hb,hc];exact⟨h1,hk⟩⟩
 |RM e x y=>
  obtain⟨p,hp,h⟩:=af h
  cases p<;>try(exact h.elim)
  obtain⟨b,hb,h⟩:=af h;obtain⟨ys,hy,h1,h2,h⟩:=af h
  exact .inl ⟨_,_,h,fun K' X' hk=>by simp only[bH,hp,hb,aG,hy];exact⟨h1,h2,hk⟩⟩
 |Gc x=>obtain⟨p,hp,h⟩:=af h;cases p<;>first|exact h.elim|exact .inl ⟨_,_,h,fun K' X' hk=>by simp only[bH,hp];exact hk⟩
 |sU x=>
  obtain⟨p,hp,h⟩:=af h
  cases p<;>try(exact h.elim)
  rename_i k ps
  match k,hp,h with
  |0,hp,h=>exact .inl ⟨_,_,h,fun K' X' hk=>by simp only[bH,hp];exact hk⟩
  |k+1,_,h=>exact h.elim
 |RO x v=>
  obtain⟨p,hp,h⟩:=af h
  cases p<;>try(exact h.elim)
  rename_i b o
  match o,hp,h with
  |0,hp,h=>
   obtain⟨q,hq,h⟩:=af h
   cases q<;>try(exact h.elim)
   rename_i k ps
   match k,hq,h with
   |0,hq,h=>
    obtain⟨y,hy,h1,h⟩:=af h
    exact .inl ⟨_,_,h,fun K' X' hk=>by simp only[bH,hp,hq,aG,hy];exact⟨h1,hk⟩⟩
   |k+1,_,h=>exact h.elim
  |o+1,_,h=>exact h.elim
 |Bu xs=>obtain⟨p,hp,h⟩:=af h;exact .inl ⟨_,_,h,fun K' X' hk=>by simp only[bH,hp];exact hk⟩
 |KZ x i=>
  obtain⟨p,hp,h⟩:=af h
  cases p<;>try(exact h.elim)
  rename_i k ps
  match k,hp,h with
  |1,hp,h=>
   obtain⟨a,ha,h⟩:=af h;obtain⟨j,hj,h1,h⟩:=af h
   exact .inl ⟨_,_,h,fun K' X' hk=>by simp only[bH,hp,ha,aG,hj];exact⟨h1,hk⟩⟩
  |0,_,h=>exact h.elim
  |k+2,_,h=>exact h.elim
 |K0 x=>
  obtain⟨p,hp,h⟩:=af h
  cases p<;>try(exact h.elim)
  rename_i k ps
  match k,hp,h with
  |1,hp,h=>exact .inl ⟨_,_,h,fun K' X' hk=>by simp only[bH,hp];exact hk⟩
  |0,_,h=>exact h.elim
  |k+2,_,h=>exact h.elim
 |Ay g args=>
  obtain⟨a,ha,h⟩:=af h
  cases a<;>try(exact h.elim)
  rename_i fn x y
  cases fn<;>try(exact h.elim)
  match x,y,ha,h with
  |[],[],ha,h=>
   obtain⟨p,hp,h1,h⟩:=af h;obtain⟨css,hcs,j,o,b,h2,h3,h⟩:=af h
   exact .inl ⟨_,_,h,fun K' X' hk=>by simp only[bH,ha,aG,hp];exact⟨h1,by rw[hcs];exact⟨j,o,b,h2,h3,hk⟩⟩⟩
  |_::_,_,_,h=>exact h.elim
  |[],_::_,_,h=>exact h.elim
theorem vC{C:bw} {base:Nat}:∀{l:List XO} {i:Nat} {s:S} {K:S->Prop} {X:AV->S->Prop},eU C base i l K X s->
  (∃s',K s'/\∀(K':S->Prop) (X':AV->S->Prop),K' s'->eU C base i l K' X' s)\/∃p s',X p s'/\∀(K':S->Prop) (X':AV->S->Prop),X' p s'->eU C base i l K' X' s
 |[],i,s,K,X,h=>.inl ⟨s,h,fun _ _ h=>h⟩
 |o::l,i,s,K,X,h=>by
  have go:∀{y:(S->Prop)->(AV->S->Prop)->Prop},((∃s',K s'/\∀(K':S->Prop) (X':AV->S->Prop),K' s'->y K' X')\/∃p s',X p s'/\∀(K':S->Prop) (X':AV->S->Prop),X' p s'->y K' X')->(∀K' X',y K' X'->eU C base i (o::l) K' X' s)->
    (∃s',K s'/\∀(K':S->Prop) (X':AV->S->Prop),K' s'->eU C base i (o::l) K' X' s)\/∃p s',X p s'/\∀(K':S->Prop) (X':AV->S->Prop),X' p s'->eU C base i (o::l) K' X' s:=by
   intro y h g
   rcases h with⟨s',h1,h2⟩|⟨p,s',h1,h2⟩
   ·exact .inl ⟨s',h1,fun K' X' hk=>g _ _ (h2 K' X' hk)⟩
   ·exact .inr ⟨p,s',h1,fun K' X' hk=>g _ _ (h2 K' X' hk)⟩
  have run:bH C (base+i) o.op (fun v s'=>eU C base (i+1) l K X (s'.put o.dst v)) X s->(∃s',K s'/\∀(K':S->Prop) (X':AV->S->Prop),K' s'->bH C (base+i) o.op (fun v s'=>eU C base (i+1) l K' X' (s'.put o.dst v)) X' s)\/
    ∃p s',X p s'/\∀(K':S->Prop) (X':AV->S->Prop),X' p s'->bH C (base+i) o.op (fun v s'=>eU C base (i+1) l K' X' (s'.put o.dst v)) X' s:=by
   intro h
   rcases Nq h with⟨v,s',h1,h2⟩|⟨p,s',h1,h2⟩
   ·rcases vC h1 with⟨s2,k1,k2⟩|⟨p,s2,k1,k2⟩
    ·exact .inl ⟨s2,k1,fun K' X' hk=>h2 _ _ (k2 K' X' hk)⟩
    ·exact .inr ⟨p,s2,k1,fun K' X' hk=>h2 _ _ (k2 K' X' hk)⟩
   ·exact .inr ⟨p,s',h1,fun K' X' hk=>h2 _ _ hk⟩
  unfold eU eA at h
  cases hg:o.g with
  |none=>
   simp only[hg]at h
   exact go (run h) fun K' X' h=>by unfold eU eA;simp only[hg];exact h
  |some q=>
   obtain⟨t,want⟩:=q;simp only[hg]at h;split at h
   ·rename_i b q2 hl
    by_cases hb:b=want
    ·exact go (run (h.1 hb)) fun K' X' h=>by
      unfold eU eA;simp only[hg,hl]
      exact⟨fun _=>h,fun e=>by subst hb;cases b<;>cases e⟩
    ·exact go (vC (h.2 (by cases b<;>cases want<;>simp_all))) fun K' X' h=>by
      unfold eU eA;simp only[hg,hl]
      exact⟨fun e=>absurd e hb,fun _=>h⟩
   ·rename_i hl
    exact go (vC h) fun K' X' h=>by unfold eU eA;simp only[hg,hl];exact h
   ·exact h.elim
theorem Oc{C:bw}:∀{c:bn} {Q:Exit->S->Prop} {s:S},aw C c Q s->∃e s',Q e s'/\∀Q':Exit->S->Prop,Q' e s'->aw C c Q' s:=by
 intro c
 induction c with
 |skip=>intro Q s h;exact⟨_,_,h,fun _ h=>h⟩
 |Bv ops=>
  intro Q s h;obtain⟨s',h1,h2⟩:=vB h
  exact⟨_,_,h1,fun Q' hq=>h2 _ hq⟩
 |seq a b iha ihb=>
  intro Q s h;obtain⟨e,s',h1,h2⟩:=iha h
  cases e with
  |normal=>
   obtain⟨e,s'',h3,h4⟩:=ihb h1
   exact⟨e,s'',h3,fun Q' hq=>h2 _ (h4 _ hq)⟩
  |exit i=>exact⟨_,_,h1,fun Q' hq=>h2 _ hq⟩
  |ret=>exact⟨_,_,h1,fun Q' hq=>h2 _ hq⟩
  |_=>exact⟨_,_,h1,fun Q' hq=>h2 _ hq⟩
 |join a b iha ihb=>
  intro Q s h;obtain⟨e,s',h1,h2⟩:=iha h
  cases e with
  |normal=>
   obtain⟨s1,hF,up⟩:=su h1;obtain⟨e,s'',h3,h4⟩:=ihb hF
   exact⟨e,s'',h3,fun Q' hq=>h2 _ (up _ (h4 _ hq))⟩
  |exit i=>exact⟨_,_,h1,fun Q' hq=>h2 _ hq⟩
  |ret=>exact⟨_,_,h1,fun Q' hq=>h2 _ hq⟩
  |_=>exact⟨_,_,h1,fun Q' hq=>h2 _ hq⟩
 |cond c a b iha ihb=>
  intro Q s h;simp only[aw]at h⊢;obtain⟨v,hv,hw⟩:=af h
  cases v<;>try(exact hw.elim)
  rename_i t
  cases t with
  |true=>
   obtain⟨e,s',h1,h2⟩:=iha (hw.1 rfl)
   exact⟨e,s',h1,fun Q' hq=>by rw[hv];exact⟨fun _=>h2 _ hq,fun h=>by cases h⟩⟩
  |false=>
   obtain⟨e,s',h1,h2⟩:=ihb (hw.2 rfl)
   exact⟨e,s',h1,fun Q' hq=>by rw[hv];exact⟨fun h=>(by cases h),fun _=>h2 _ hq⟩⟩
 |label l=>intro Q s h;exact⟨_,_,h,fun _ h=>h⟩
 |goto l=>intro Q s h;exact⟨_,_,h,fun _ h=>h⟩
 |scope l c r ihc ihr=>
  intro Q s h;obtain⟨e,s',h1,h2⟩:=ihc h
  cases e with
  |goto l'=>
   obtain⟨hl,h1⟩:=h1;obtain⟨e,s'',h3,h4⟩:=ihr h1
   cases e with
   |goto l2=>exact h3.elim
   |_=>exact⟨_,s'',h3,fun Q' hq=>h2 (mL l (aw C r (xK Q')) Q') ⟨hl,h4 (xK Q') hq⟩⟩
  |_=>exact⟨_,_,h1,fun Q' hq=>h2 (mL l (aw C r (xK Q')) Q') hq⟩
 |block id c ih=>
  intro Q s h;obtain⟨e,s',h1,h2⟩:=ih h
  cases e with
  |exit i=>
   simp only[gN]at h1
   by_cases hi:i=id
   ·rw[if_pos hi]at h1
    exact⟨_,_,h1,fun Q' hq=>h2 _ (by simp only[gN,if_pos hi];exact hq)⟩
   ·rw[if_neg hi]at h1
    exact⟨_,_,h1,fun Q' hq=>h2 _ (by simp only[gN,if_neg hi];exact hq)⟩
  |_=>exact⟨_,_,h1,fun Q' hq=>h2 _ hq⟩
 |loop c ih=>
  have key:∀(n:Nat) {Q:Exit->S->Prop} {s:S},nE (aw C c) Q n s->∃e s',Q e s'/\∀Q':Exit->S->Prop,Q' e s'->nE (aw C c) Q' n s:=by
   intro n
   induction n with
   |zero=>intro Q s h;exact h.elim
   |succ n ihn=>
    intro Q s h;obtain⟨e,s',h1,h2⟩:=ih h
    cases e with
    |normal=>
     obtain⟨s1,hF,up⟩:=su h1;obtain⟨e,s'',h3,h4⟩:=ihn hF
     exact⟨e,s'',h3,fun Q' hq=>h2 _ (up _ (h4 _ hq))⟩
    |exit i=>exact⟨_,_,h1,fun Q' hq=>h2 _ hq⟩
    |ret=>exact⟨_,_,h1,fun Q' hq=>h2 _ hq⟩
    |_=>exact⟨_,_,h1,fun Q' hq=>h2 _ hq⟩
  intro Q s h;obtain⟨s1,⟨n,hF⟩,up⟩:=su h;obtain⟨e,s'',h3,h4⟩:=key n hF
  exact⟨e,s'',h3,fun Q' hq=>up _ ⟨n,h4 _ hq⟩⟩
 |exit id=>intro Q s h;exact⟨_,_,h,fun _ h=>h⟩
 |ret=>intro Q s h;exact⟨_,_,h,fun _ h=>h⟩
 |aT ops=>
  intro Q s h
  rcases vC h with⟨s',h1,h2⟩|⟨p,s',h1,h2⟩
  ·exact⟨_,_,h1,fun Q' hq=>h2 _ _ hq⟩
  ·exact⟨_,_,h1,fun Q' hq=>h2 _ _ hq⟩
 |sV ops dZ=>
  intro Q s h;obtain⟨ids,hids,h⟩:=h;obtain⟨css,hcss,ro,hd,h⟩:=af h;obtain⟨s',h1,h2⟩:=vB h
  exact⟨_,_,h1,fun Q' hq=>⟨ids,hids,by rw[hcss];exact⟨ro,hd,h2 _ hq⟩⟩⟩
 |xJ ops dZ k dep=>
  intro Q s h
  rcases h with⟨ids,hids,h⟩|⟨hd,h⟩
  ·obtain⟨css,hcss,ro,hd,h⟩:=af h
   obtain⟨s',h1,h2⟩:=vB h
   exact⟨_,_,h1,fun Q' hq=>.inl ⟨ids,hids,by rw[hcss];exact⟨ro,hd,h2 _ hq⟩⟩⟩
  ·obtain⟨s',⟨d,p,k1,k2,k3⟩,h2⟩:=vB h
   exact⟨_,_,k3,fun Q' hq=>.inr ⟨hd,h2 _ ⟨d,p,k1,k2,hq⟩⟩⟩
 |Am g ps wr as bd iha ihb=>
  intro Q s h;simp only[aw]at h;obtain⟨gv,hgv,xs,h1,h2,F,h3,h4,h5,h6⟩:=af h
  have mono:∀{F F':S->Prop} {Q:Exit->S->Prop} {t:S},(∀s,F s->F' s)->aw C as (uI (aw C bd (Ff wr F Q))) t->aw C as (uI (aw C bd (Ff wr F' Q))) t:=by
   intro F F' Q t hF h
   refine ij (fun e s ha=>?_) h
   cases e<;>first|exact ha.elim|skip
   refine ij (fun e s hb=>?_) ha
   cases e<;>first|exact kM hF hb|exact hb
  have key:∀n i s',xs.length-i=n->i<=xs.length->F i s'->∃e s'',Q e s''/\∀Q':Exit->S->Prop,Q' e s''->∃F':Nat->S->Prop,F' i s'/\(∀j t,F' j t->i<=j/\aQ t g=some gv)/\
    (∀j x t,xs[j]? =some x->F' j t->aw C as (uI (aw C bd (Ff wr (F' (j+1)) Q'))) (qx ps x t))/\∀t,F' xs.length t->Q' .normal t:=by
   intro n
   induction n with
   |zero=>
    intro i s' hn hi hF
    have hi:i=xs.length:=by omega
    subst hi
    exact⟨.normal,s',h6 s' hF,fun Q' hq=>⟨fun j t=>j=xs.length/\t=s',⟨rfl,rfl⟩,fun j t ⟨e,e'⟩=>by subst e;subst e';exact⟨Nat.le_refl _,h4 _ _ hF⟩,
     fun j x t hx ⟨e,_⟩=>by subst e;simp at hx,fun t ⟨_,e⟩=>by subst e;exact hq⟩⟩
   |succ n ih=>
    intro i s' hn hi hF
    have hlt:i<xs.length:=by omega
    have hx:xs[i]? =some xs[i]:=by simp[hlt]
    obtain⟨e1,s1,k1,k2⟩:=iha (h5 i _ s' hx hF)
    cases e1<;>try exact k1.elim
    obtain⟨e2,s2,k3,k4⟩:=ihb k1
    have stop:∀(e:Exit) (s'':S),Q e s''->(∀(F':S->Prop) (Q':Exit->S->Prop),Q' e s''->Ff wr F' Q' e2 s2)->∃e s'',Q e s''/\∀Q':Exit->S->Prop,Q' e s''->∃F':Nat->S->Prop,F' i s'/\(∀j t,F' j t->i<=j/\aQ t g=some gv)/\
      (∀j x t,xs[j]? =some x->F' j t->aw C as (uI (aw C bd (Ff wr (F' (j+1)) Q'))) (qx ps x t))/\∀t,F' xs.length t->Q' .normal t:=by
     intro e s'' hq hr
     refine⟨e,s'',hq,fun Q' hq'=>⟨fun j t=>j=i/\t=s',⟨rfl,rfl⟩,fun j t ⟨e,e'⟩=>by subst e;subst e';exact⟨Nat.le_refl _,h4 _ _ hF⟩,fun j x t hx' ⟨e,e'⟩=>?_,fun t ⟨e,_⟩=>by omega⟩⟩
     subst e;subst e';rw[hx]at hx';cases hx';exact k2 _ (k4 _ (hr _ _ hq'))
    cases e2 with
    |normal=>
     obtain⟨s3,hs3⟩:∃s3,F (i+1) s3/\(∀F':S->Prop,F' s3->Eng.down F' (tL wr s2)):=by
      exact su (show Eng.down (F (i+1)) (tL wr s2)from k3)
     obtain⟨e,s'',hq,hre⟩:=ih (i+1) s3 (by omega) (by omega) hs3.1
     refine⟨e,s'',hq,fun Q' hq'=>?_⟩
     obtain⟨F'',g1,g2,g3,g4⟩:=hre Q' hq'
     refine⟨fun j t=>(j=i/\t=s')\/F'' j t,.inl ⟨rfl,rfl⟩,fun j t ht=>?_,fun j x t hx' ht=>?_,fun t ht=>?_⟩
     ·rcases ht with⟨rfl,rfl⟩|ht
      ·exact⟨Nat.le_refl _,h4 _ _ hF⟩
      ·exact⟨by have:=(g2 j t ht).1;omega,(g2 j t ht).2⟩
     ·rcases ht with⟨rfl,rfl⟩|ht
      ·rw[hx]at hx';cases hx'
       refine k2 _ (k4 _ (show Eng.down _ _ from ?_))
       exact hs3.2 _ (.inr g1)
      ·exact mono (fun _ h=>.inr h) (g3 j x t hx' ht)
     ·rcases ht with⟨e,_⟩|ht
      ·omega
      ·exact g4 t ht
    |ret=>exact stop .ret _ k3 fun _ _ h=>h
    |exit id=>exact stop (.exit id) _ k3 fun _ _ h=>h
    |_=>exact k3.elim
  obtain⟨s0,h0⟩:∃s0,F 0 s0/\(∀F':S->Prop,F' s0->Eng.down F' s):=su h3
  obtain⟨e,s'',hq,hre⟩:=key _ 0 s0 rfl (Nat.zero_le _) h0.1
  refine⟨e,s'',hq,fun Q' hq'=>?_⟩
  obtain⟨F',g1,g2,g3,g4⟩:=hre Q' hq';simp only[aw,hgv]
  refine⟨xs,h1,h2,F',?_,fun j t ht=>(g2 j t ht).2,g3,g4⟩
  exact h0.2 _ g1
theorem br{C:bw} {c:bn} {Q:Exit->S->Prop} {s:S} (h:aw C c (j5 (aw C (.loop c) Q) Q) s):aw C (.loop c) Q s:=by
 obtain⟨e,s',h1,h2⟩:=Oc h
 cases e with
 |normal=>
  obtain⟨s1,⟨n,hF⟩,up⟩:=su h1;exact i5 ⟨n+1,h2 _ (up _ hF)⟩
 |exit i=>exact i5 ⟨1,h2 _ h1⟩
 |ret=>exact i5 ⟨1,h2 _ h1⟩
 |_=>exact i5 ⟨1,h2 _ h1⟩
theorem jV(p i:Nat):dY p (i+1)=dY p i++[((p+i:Nat):Int)]:=by simp[dY,List.range_succ]
theorem sE(l:Option (List Int)) (G:Nat):∀g,(bD l G g).2<=8
 |0=>by simp[bD]
 |g+1=>by
  have:=sE l G g
  simp only[bD,bA,bX];omega
theorem pL(l:Option (List Int)) (G:Nat):∀g,(bD l G g).1.length=g
 |0=>by simp[bD]
 |g+1=>by
  have:=pL l G g
  simp only[bD,List.length_append,List.length_cons,List.length_nil];omega
def Cut{α:Type} (ex:Exit) (st:α->S) (J:α->Prop) (e:Exit) (s:S):Prop:=e=ex/\∃y,J y/\Le s (st y)
theorem bI{α:Type} {ex:Exit} {st:α->S} {J:α->Prop} {s:S} (y:α) (hy:J y) (hle:Le s (st y)):Cut ex st J ex s:=⟨rfl,y,hy,hle⟩
theorem dR{C:bw} {c:bn} {Q:Exit->S->Prop} {s:S} {F:S->Prop} {α:Type} (ex:Exit) (st:α->S) (J:α->Prop) (hQ:∀s',Q ex s'=down F s') (h1:aw C c (Cut ex st J) s) (h2:∀y,J y->F (st y)):aw C c Q s:=by
 refine ij ?_ h1
 rintro e s' ⟨rfl,y,hy,hle⟩
 rw[hQ];exact rS hle (h2 y hy)
theorem Nr:IntKind.i64.wrap (0+1)=1:=by decide
theorem Cb:IntKind.i64.wrap (1+1)=2:=by decide
theorem aU{α:Type} (f:α->List AV):aD f none=.bL:=rfl
theorem aJ{α:Type} (f:α->List AV) (l:List α):aD f (some l)=.sl (l.map f):=rfl
section
variable{P:Program} (hm:P.follows .mixedOrders=true) {f:Nat}
include hm
theorem rows.ok{fF e eR:Nat} (hc:de P f=some (n8 fF e eR)) (hF:from.Spec (Pure P) fF):rows.Spec (Pure P) f:=by
 intro t l ht hg0
 have hl:=Tb.len ht
 have hp:=Tb.whole ht
 refine bO hm hc (by show 2<=78;decide) rfl (by simp) (ax (keep:=[3,5]) (i:=0) ?_)
 try simp only[I,B,D,RX,↓KW,Nat.reduceBEq,Nat.reduceAdd,Nat.reduceLeDiff,Int.reduceNe,Int.reduceBEq,Int.reduceEq,reduceCtorEq,Nat.reduceMul,Int.reduceLT,Int.reduceLE,Int.reduceToNat,n8,Z.H]
 have hgr:=aS l 0 (n:=3) (by decide) (by decide)
 refine ai (hF _ _ _ (by decide)) ?_
 try simp only[I,B,D,RX,↓KW,Nat.reduceBEq,Nat.reduceAdd,Nat.reduceLeDiff,Int.reduceNe,Int.reduceBEq,Int.reduceEq,reduceCtorEq,Nat.reduceMul,Int.reduceLT,Int.reduceLE,Int.reduceToNat]
 have hgn:IntKind.i64.wrap (1+bV l 0 3)=(dQ l:Nat):=by
  rw[bC (by omega) (by omega),dQ];omega
 have hg3:1<=dQ l/\dQ l<=3:=by unfold dQ;omega
 rw[hgn];generalize dQ l=G at*
 refine aH (fun g:Nat=>(⟨[(7,.dat (I g) none),(5,.dat (I G) none),(1,.dat (aD aA l) none),(6,.dat (I (bD l G g).2) none),(0,.ptr 0 0)],[(0,⟨({t with groups:=bf (bD l G g).1}:Tb).cells,if(bD l G g).1=[]then[]else[(104,0)]⟩)],bq (bD l G g).1 0 eR,400⟩:S)) (fun g=>G-g) (fun g=>g<=G) ?_ 0 (by omega) ?_
 ·intro g hg A back
  have hw:=aF (k:=g) (by omega)
  have hn2:bD l G (g+1)=((bD l G g).1++[⟨bf (dY (bD l G g).2 (bA (cnt l g 0 0) (bD l G g).2 (bX G g))),bf (dY ((bD l G g).2+bA (cnt l g 0 0) (bD l G g).2 (bX G g)) (bA (cnt l g 1 (bA (cnt l g 0 0) (bD l G g).2 (bX G g))) ((bD l G g).2+bA (cnt l g 0 0) (bD l G g).2 (bX G g)) (bX G g)))⟩],(bD l G g).2+bA (cnt l g 0 0) (bD l G g).2 (bX G g)+bA (cnt l g 1 (bA (cnt l g 0 0) (bD l G g).2 (bX G g))) ((bD l G g).2+bA (cnt l g 0 0) (bD l G g).2 (bX G g)) (bX G g)):=rfl
  have hp8:(bD l G g).2<=8:=sE l G g
  have hgl:(bD l G g).1.length=g:=pL l G g
  generalize hR:bD l G g=R at*;obtain⟨gs,p⟩:=R;simp only at hn2 hp8 hgl
  have hc0:bV l (1+2*(g:Int)+0) 3=(cnt l g 0 0:Nat):=by
   have:=aS l (1+2*(g:Int)+0) (n:=3) (by decide) (by decide)
   have hc:cnt l g 0 0=(bV l (1+2*(g:Int)+0) 3).toNat:=by simp[cnt]
   rw[hc];omega
  have hw1:IntKind.i64.wrap (IntKind.i64.wrap (1+IntKind.i64.wrap (2*(g:Int)))+0)=1+2*(g:Int)+0:=by
   rw[bC (n:=2*(g:Int)) (by omega) (by omega),bC (n:=1+2*(g:Int)) (by omega) (by omega),bC (by omega) (by omega)]
  have hw2:IntKind.i64.wrap (IntKind.i64.wrap (1+IntKind.i64.wrap (2*(g:Int)))+1)=1+2*(g:Int)+1:=by
   rw[bC (n:=2*(g:Int)) (by omega) (by omega),bC (n:=1+2*(g:Int)) (by omega) (by omega),bC (by omega) (by omega)]
  have hlim:IntKind.i64.wrap (8-IntKind.i64.wrap (IntKind.i64.wrap ((G:Int)-1)-(g:Int)))=if g<G then((bX G g:Nat):Int)else(8-((G:Int)-1-g):Int):=by
   rw[bC (n:=(G:Int)-1) (by omega) (by omega),bC (n:=(G:Int)-1-g) (by omega) (by omega),bC (by omega) (by omega)]
   split<;>simp[bX]<;>omega
  by_cases hgs:gs=[]
  all_goals
   try simp only[I,B,D,RX,↓KW,Nat.reduceBEq,Nat.reduceAdd,Nat.reduceLeDiff,Int.reduceNe,Int.reduceBEq,Int.reduceEq,reduceCtorEq,Nat.reduceMul,Int.reduceLT,Int.reduceLE,Int.reduceToNat,hgs,bq,bf]
   refine aq (fun h=>?_) (fun h=>?_)<;>try simp only[I,B,D,RX,↓KW,Nat.reduceBEq,Nat.reduceAdd,Nat.reduceLeDiff,Int.reduceNe,Int.reduceBEq,Int.reduceEq,reduceCtorEq,Nat.reduceMul,Int.reduceLT,Int.reduceLE,Int.reduceToNat,hgs,bq,bf,h]
   ·have hlt:g<G:=by have:=of_decide_eq_true h;omega
    rw[if_pos hlt]at hlim;generalize hc0':cnt l g 0 0=n0 at*
    refine dR (.exit 2) (fun _:Unit=>(⟨[(6,.dat (I (p+bA n0 p (bX G g)+bA (cnt l g 1 (bA n0 p (bX G g))) (p+bA n0 p (bX G g)) (bX G g):Nat)) none),(5,.dat (I G) none),(7,.dat (I g) none),(8,.ptr 403 0),(1,.dat (aD aA l) none),(0,.ptr 0 0)],[(403,⟨[aD aA (bf (dY p (bA n0 p (bX G g)))),aD aA (bf (dY (p+bA n0 p (bX G g)) (bA (cnt l g 1 (bA n0 p (bX G g))) (p+bA n0 p (bX G g)) (bX G g))))],[]⟩),(0,⟨({t with groups:=bf gs}:Tb).cells,if gs=[]then[]else[(104,0)]⟩)],bq gs 0 eR,1000⟩:S)) (fun _=>True) (fun _=>rfl) ?_ ?_
    ·refine br ?_
     try simp only[I,B,D,RX,↓KW,Nat.reduceBEq,Nat.reduceAdd,Nat.reduceLeDiff,Int.reduceNe,Int.reduceBEq,Int.reduceEq,reduceCtorEq,Nat.reduceMul,Int.reduceLT,Int.reduceLE,Int.reduceToNat,hgs]
     refine ai (hF _ _ _ (by decide)) ?_
     try simp only[I,B,D,RX,↓KW,Nat.reduceBEq,Nat.reduceAdd,Nat.reduceLeDiff,Int.reduceNe,Int.reduceBEq,Int.reduceEq,reduceCtorEq,Nat.reduceMul,Int.reduceLT,Int.reduceLE,Int.reduceToNat,hw1,hc0,hgs]
     refine dR (.exit 4) (fun _:Unit=>(⟨[(9,.dat (I 0) none),(6,.dat (I (p+bA n0 (p) (bX G g):Nat)) none),(5,.dat (I G) none),(7,.dat (I g) none),(8,.ptr 403 0),(1,.dat (aD aA l) none),(0,.ptr 0 0)],[(403,⟨[aD aA (bf (dY (p) (bA n0 (p) (bX G g)))),.bL],[]⟩),(0,⟨({t with groups:=bf gs}:Tb).cells,if gs=[]then[]else[(104,0)]⟩)],bq gs 0 eR,1000⟩:S)) (fun _=>True) (fun _=>rfl) ?_ ?_
     ·refine aH (fun i:Nat=>(⟨[(11,.dat (I i) none),(10,.dat (I n0) none),(6,.dat (I (p+i:Nat)) none),(5,.dat (I G) none),(7,.dat (I g) none),(9,.dat (I 0) none),(8,.ptr 403 0),(1,.dat (aD aA l) none),(0,.ptr 0 0)],[(403,⟨[aD aA (bf (dY (p) i)),.bL],if dY (p) i=[]then[]else[(0,1)]⟩),(0,⟨({t with groups:=bf gs}:Tb).cells,if gs=[]then[]else[(104,0)]⟩)],bq (dY (p) i) 1 e++bq gs 0 eR,1000⟩:S)) (fun i=>bA n0 (p) (bX G g)-i) (fun i=>i<=bA n0 (p) (bX G g)) ?_ 0 (by omega) ?_
      ·intro i hi A1 back1
       have hfl:bA n0 (p) (bX G g)<=8:=by simp only[bA,bX];omega
       have hw3:=aF (k:=i) (by omega)
       have hf:bA n0 (p) (bX G g)=min n0 (bX G g-(p)):=rfl
       have hp1:IntKind.i64.wrap (((p+i:Nat):Int)+1)=((p+(i+1):Nat):Int):=by rw[bC (by omega) (by omega)];omega
       have hrl:(dY (p) i).length=i:=by simp[dY]
       by_cases hl:dY (p) i=[]
       ·try simp only[I,B,D,RX,↓KW,Nat.reduceBEq,Nat.reduceAdd,Nat.reduceLeDiff,Int.reduceNe,Int.reduceBEq,Int.reduceEq,reduceCtorEq,Nat.reduceMul,Int.reduceLT,Int.reduceLE,Int.reduceToNat,hl,bq,bf,hlim,hgs]
        repeat' (((first|refine bJ ?_ ?_|refine aq ?_ ?_|refine cX ?_ ?_)<;>intro h)<;>try simp only[I,B,D,RX,↓KW,Nat.reduceBEq,Nat.reduceAdd,Nat.reduceLeDiff,Int.reduceNe,Int.reduceBEq,Int.reduceEq,reduceCtorEq,Nat.reduceMul,Int.reduceLT,Int.reduceLE,Int.reduceToNat,aU,aJ,hlim,hl,hgs,hp1,h])
        ·have h1:=of_decide_eq_true h
         refine⟨by decide,?_⟩
         refine⟨by decide,?_⟩
         have h2:(i:Int)<n0:=by rename_i h2;exact of_decide_eq_true h2
         refine back1 (i+1) _ (by omega) (by omega) (ah (by decide) ?_ ?_ ?_ ?_)<;>simp[LX,I,B,D,hw3,jV,hl,bf,aU,aJ,hgs]
        ·have h1:=of_decide_eq_false h
         have:i=bA n0 (p) (bX G g):=by omega
         rw[<-this];refine bI () trivial ?_
         refine ah (by decide) ?_ ?_ ?_ ?_<;>simp[LX,I,B,D,hl,bf,aU,aJ,hgs]
        ·have h1:=of_decide_eq_false h
         have:i=bA n0 (p) (bX G g):=by omega
         rw[<-this];refine bI () trivial ?_
         refine ah (by decide) ?_ ?_ ?_ ?_<;>simp[LX,I,B,D,hl,bf,aU,aJ,hgs]
       ·try simp only[I,B,D,RX,↓KW,Nat.reduceBEq,Nat.reduceAdd,Nat.reduceLeDiff,Int.reduceNe,Int.reduceBEq,Int.reduceEq,reduceCtorEq,Nat.reduceMul,Int.reduceLT,Int.reduceLE,Int.reduceToNat,hl,bq,bf,hlim,hgs]
        repeat' (((first|refine bJ ?_ ?_|refine aq ?_ ?_|refine cX ?_ ?_)<;>intro h)<;>try simp only[I,B,D,RX,↓KW,Nat.reduceBEq,Nat.reduceAdd,Nat.reduceLeDiff,Int.reduceNe,Int.reduceBEq,Int.reduceEq,reduceCtorEq,Nat.reduceMul,Int.reduceLT,Int.reduceLE,Int.reduceToNat,aU,aJ,hlim,hl,hgs,hp1,h])
        ·have h1:=of_decide_eq_true h
         refine⟨by decide,by omega,by decide,?_⟩
         have h2:(i:Int)<n0:=by rename_i h2;exact of_decide_eq_true h2
         refine back1 (i+1) _ (by omega) (by omega) (ah (by decide) ?_ ?_ ?_ ?_)<;>simp[LX,I,B,D,hw3,jV,hl,bf,aU,aJ,hgs]
        ·have h1:=of_decide_eq_false h
         have:i=bA n0 (p) (bX G g):=by omega
         rw[<-this];refine bI () trivial ?_
         refine ah (by decide) ?_ ?_ ?_ ?_<;>simp[LX,I,B,D,hl,bf,aU,aJ,hgs]
        ·have h1:=of_decide_eq_false h
         have:i=bA n0 (p) (bX G g):=by omega
         rw[<-this];refine bI () trivial ?_
         refine ah (by decide) ?_ ?_ ?_ ?_<;>simp[LX,I,B,D,hl,bf,aU,aJ,hgs]
      ·refine ah (by decide) ?_ ?_ ?_ ?_<;>simp[LX,I,B,D,dY,bf,aU,aJ,hgs]
     ·intro _ _
      generalize hm0:bA n0 p (bX G g)=m0 at*
      have hrow0:(bf (dY p m0)).getD []=dY p m0:=cO _
      have hrl0:(dY p m0).length=m0:=by simp[dY]
      have hm8:m0<=8:=by rw[<-hm0];simp only[bA,bX];omega
      try simp only[I,B,D,RX,↓KW,Nat.reduceBEq,Nat.reduceAdd,Nat.reduceLeDiff,Int.reduceNe,Int.reduceBEq,Int.reduceEq,reduceCtorEq,Nat.reduceMul,Int.reduceLT,Int.reduceLE,Int.reduceToNat,hgs]
      refine br ?_;try simp only[I,B,D,RX,↓KW,Nat.reduceBEq,Nat.reduceAdd,Nat.reduceLeDiff,Int.reduceNe,Int.reduceBEq,Int.reduceEq,reduceCtorEq,Nat.reduceMul,Int.reduceLT,Int.reduceLE,Int.reduceToNat,hgs,Nr]
      refine ai (hF _ _ _ (by decide)) ?_
      try simp only[I,B,D,RX,↓KW,Nat.reduceBEq,Nat.reduceAdd,Nat.reduceLeDiff,Int.reduceNe,Int.reduceBEq,Int.reduceEq,reduceCtorEq,Nat.reduceMul,Int.reduceLT,Int.reduceLE,Int.reduceToNat,hw2,hgs]
      have hr2:=aS l (1+2*(g:Int)+1) (n:=3) (by decide) (by decide)
      have hcn0:cnt l g 1 m0=if(bV l (1+2*(g:Int)+1) 3).toNat=0/\m0=0 then 1 else(bV l (1+2*(g:Int)+1) 3).toNat:=by simp[cnt]
      generalize bV l (1+2*(g:Int)+1) 3=fr1 at*;generalize hn1:cnt l g 1 m0=n1 at*
      repeat' (((first|refine bJ ?_ ?_|refine aq ?_ ?_|refine cX ?_ ?_)<;>intro h)<;>try simp only[I,B,D,RX,↓KW,Nat.reduceBEq,Nat.reduceAdd,Nat.reduceLeDiff,Int.reduceNe,Int.reduceBEq,Int.reduceEq,reduceCtorEq,Nat.reduceMul,Int.reduceLT,Int.reduceLE,Int.reduceToNat,hrow0,hrl0,hgs,h])
      ·have hfr:fr1=0:=by simpa using h
       refine⟨by decide,?_⟩
       refine aq (fun hz=>?_) (fun hz=>?_)<;>try simp only[I,B,D,RX,↓KW,Nat.reduceBEq,Nat.reduceAdd,Nat.reduceLeDiff,Int.reduceNe,Int.reduceBEq,Int.reduceEq,reduceCtorEq,Nat.reduceMul,Int.reduceLT,Int.reduceLE,Int.reduceToNat,hgs,hz]
       ·have hz:m0=0:=by simpa using hz
        have hcn:(n1:Int)=1:=by rw[hcn0,if_pos ⟨by omega,hz⟩];rfl
        refine dR (.exit 4) (fun _:Unit=>(⟨[(9,.dat (I 1) none),(6,.dat (I (p+m0+bA n1 (p+m0) (bX G g):Nat)) none),(5,.dat (I G) none),(7,.dat (I g) none),(8,.ptr 403 0),(1,.dat (aD aA l) none),(0,.ptr 0 0)],[(403,⟨[aD aA (bf (dY p m0)),aD aA (bf (dY (p+m0) (bA n1 (p+m0) (bX G g))))],[]⟩),(0,⟨({t with groups:=bf gs}:Tb).cells,if gs=[]then[]else[(104,0)]⟩)],bq gs 0 eR,1000⟩:S)) (fun _=>True) (fun _=>rfl) ?_ ?_
        ·refine aH (fun i:Nat=>(⟨[(11,.dat (I i) none),(10,.dat (I n1) none),(6,.dat (I (p+m0+i:Nat)) none),(5,.dat (I G) none),(7,.dat (I g) none),(9,.dat (I 1) none),(8,.ptr 403 0),(1,.dat (aD aA l) none),(0,.ptr 0 0)],[(403,⟨[aD aA (bf (dY p m0)),aD aA (bf (dY (p+m0) i))],if dY (p+m0) i=[]then[]else[(1,1)]⟩),(0,⟨({t with groups:=bf gs}:Tb).cells,if gs=[]then[]else[(104,0)]⟩)],bq (dY (p+m0) i) 1 e++bq gs 0 eR,1000⟩:S)) (fun i=>bA n1 (p+m0) (bX G g)-i) (fun i=>i<=bA n1 (p+m0) (bX G g)) ?_ 0 (by omega) ?_
         ·intro i hi A1 back1
          have hfl:bA n1 (p+m0) (bX G g)<=8:=by simp only[bA,bX];omega
          have hw3:=aF (k:=i) (by omega)
          have hf:bA n1 (p+m0) (bX G g)=min n1 (bX G g-(p+m0)):=rfl
          have hp1:IntKind.i64.wrap (((p+m0+i:Nat):Int)+1)=((p+m0+(i+1):Nat):Int):=by rw[bC (by omega) (by omega)];omega
          have hrl:(dY (p+m0) i).length=i:=by simp[dY]
          by_cases hl:dY (p+m0) i=[]
          ·try simp only[I,B,D,RX,↓KW,Nat.reduceBEq,Nat.reduceAdd,Nat.reduceLeDiff,Int.reduceNe,Int.reduceBEq,Int.reduceEq,reduceCtorEq,Nat.reduceMul,Int.reduceLT,Int.reduceLE,Int.reduceToNat,hl,bq,bf,hlim,hgs,hrow0]
           repeat' (((first|refine bJ ?_ ?_|refine aq ?_ ?_|refine cX ?_ ?_)<;>intro h)<;>try simp only[I,B,D,RX,↓KW,Nat.reduceBEq,Nat.reduceAdd,Nat.reduceLeDiff,Int.reduceNe,Int.reduceBEq,Int.reduceEq,reduceCtorEq,Nat.reduceMul,Int.reduceLT,Int.reduceLE,Int.reduceToNat,aU,aJ,hlim,hl,hgs,hp1,hrow0,h])
           ·have h1:=of_decide_eq_true h
            refine⟨by decide,?_⟩
            refine⟨by decide,?_⟩
            have h2:(i:Int)<n1:=by rename_i h2;exact of_decide_eq_true h2
            refine back1 (i+1) _ (by omega) (by omega) (ah (by decide) ?_ ?_ ?_ ?_)<;>simp[LX,I,B,D,hw3,jV,hl,bf,aU,aJ,hgs,hrow0]
           ·have h1:=of_decide_eq_false h
            have:i=bA n1 (p+m0) (bX G g):=by omega
            rw[<-this];refine bI () trivial ?_
            refine ah (by decide) ?_ ?_ ?_ ?_<;>simp[LX,I,B,D,hl,bf,aU,aJ,hgs,hrow0]
           ·have h1:=of_decide_eq_false h
            have:i=bA n1 (p+m0) (bX G g):=by omega
            rw[<-this];refine bI () trivial ?_
            refine ah (by decide) ?_ ?_ ?_ ?_<;>simp[LX,I,B,D,hl,bf,aU,aJ,hgs,hrow0]
          ·try simp only[I,B,D,RX,↓KW,Nat.reduceBEq,Nat.reduceAdd,Nat.reduceLeDiff,Int.reduceNe,Int.reduceBEq,Int.reduceEq,reduceCtorEq,Nat.reduceMul,Int.reduceLT,Int.reduceLE,Int.reduceToNat,hl,bq,bf,hlim,hgs,hrow0]
           repeat' (((first|refine bJ ?_ ?_|refine aq ?_ ?_|refine cX ?_ ?_)<;>intro h)<;>try simp only[I,B,D,RX,↓KW,Nat.reduceBEq,Nat.reduceAdd,Nat.reduceLeDiff,Int.reduceNe,Int.reduceBEq,Int.reduceEq,reduceCtorEq,Nat.reduceMul,Int.reduceLT,Int.reduceLE,Int.reduceToNat,aU,aJ,hlim,hl,hgs,hp1,hrow0,h])
           ·have h1:=of_decide_eq_true h
            refine⟨by decide,by omega,by decide,?_⟩
            have h2:(i:Int)<n1:=by rename_i h2;exact of_decide_eq_true h2
            refine back1 (i+1) _ (by omega) (by omega) (ah (by decide) ?_ ?_ ?_ ?_)<;>simp[LX,I,B,D,hw3,jV,hl,bf,aU,aJ,hgs,hrow0]
           ·have h1:=of_decide_eq_false h
            have:i=bA n1 (p+m0) (bX G g):=by omega
            rw[<-this];refine bI () trivial ?_
            refine ah (by decide) ?_ ?_ ?_ ?_<;>simp[LX,I,B,D,hl,bf,aU,aJ,hgs,hrow0]
           ·have h1:=of_decide_eq_false h
            have:i=bA n1 (p+m0) (bX G g):=by omega
            rw[<-this];refine bI () trivial ?_
            refine ah (by decide) ?_ ?_ ?_ ?_<;>simp[LX,I,B,D,hl,bf,aU,aJ,hgs,hrow0]
         ·refine ah (by decide) ?_ ?_ ?_ ?_<;>simp[LX,I,B,D,dY,bf,aU,aJ,hgs,hrow0,hcn]
        ·intro _ _
         try simp only[I,B,D,RX,↓KW,Nat.reduceBEq,Nat.reduceAdd,Nat.reduceLeDiff,Int.reduceNe,Int.reduceBEq,Int.reduceEq,reduceCtorEq,Nat.reduceMul,Int.reduceLT,Int.reduceLE,Int.reduceToNat,hgs,bf,hrow0]
         refine br ?_;try simp only[I,B,D,RX,↓KW,Nat.reduceBEq,Nat.reduceAdd,Nat.reduceLeDiff,Int.reduceNe,Int.reduceBEq,Int.reduceEq,reduceCtorEq,Nat.reduceMul,Int.reduceLT,Int.reduceLE,Int.reduceToNat,hgs,Cb]
         refine bI () trivial ?_
         refine ah (by decide) ?_ ?_ ?_ ?_<;>simp[LX,I,B,D,hgs,bf,aU,aJ]
       ·have hz:¬m0=0:=by simpa using hz
        have hcn:fr1=(n1:Int):=by rw[hcn0,if_neg (fun hh=>hz hh.2)];omega
        refine dR (.exit 4) (fun _:Unit=>(⟨[(9,.dat (I 1) none),(6,.dat (I (p+m0+bA n1 (p+m0) (bX G g):Nat)) none),(5,.dat (I G) none),(7,.dat (I g) none),(8,.ptr 403 0),(1,.dat (aD aA l) none),(0,.ptr 0 0)],[(403,⟨[aD aA (bf (dY p m0)),aD aA (bf (dY (p+m0) (bA n1 (p+m0) (bX G g))))],[]⟩),(0,⟨({t with groups:=bf gs}:Tb).cells,if gs=[]then[]else[(104,0)]⟩)],bq gs 0 eR,1000⟩:S)) (fun _=>True) (fun _=>rfl) ?_ ?_
        ·refine aH (fun i:Nat=>(⟨[(11,.dat (I i) none),(10,.dat (I n1) none),(6,.dat (I (p+m0+i:Nat)) none),(5,.dat (I G) none),(7,.dat (I g) none),(9,.dat (I 1) none),(8,.ptr 403 0),(1,.dat (aD aA l) none),(0,.ptr 0 0)],[(403,⟨[aD aA (bf (dY p m0)),aD aA (bf (dY (p+m0) i))],if dY (p+m0) i=[]then[]else[(1,1)]⟩),(0,⟨({t with groups:=bf gs}:Tb).cells,if gs=[]then[]else[(104,0)]⟩)],bq (dY (p+m0) i) 1 e++bq gs 0 eR,1000⟩:S)) (fun i=>bA n1 (p+m0) (bX G g)-i) (fun i=>i<=bA n1 (p+m0) (bX G g)) ?_ 0 (by omega) ?_
         ·intro i hi A1 back1
          have hfl:bA n1 (p+m0) (bX G g)<=8:=by simp only[bA,bX];omega
          have hw3:=aF (k:=i) (by omega)
          have hf:bA n1 (p+m0) (bX G g)=min n1 (bX G g-(p+m0)):=rfl
          have hp1:IntKind.i64.wrap (((p+m0+i:Nat):Int)+1)=((p+m0+(i+1):Nat):Int):=by rw[bC (by omega) (by omega)];omega
          have hrl:(dY (p+m0) i).length=i:=by simp[dY]
          by_cases hl:dY (p+m0) i=[]
          ·try simp only[I,B,D,RX,↓KW,Nat.reduceBEq,Nat.reduceAdd,Nat.reduceLeDiff,Int.reduceNe,Int.reduceBEq,Int.reduceEq,reduceCtorEq,Nat.reduceMul,Int.reduceLT,Int.reduceLE,Int.reduceToNat,hl,bq,bf,hlim,hgs,hrow0]
           repeat' (((first|refine bJ ?_ ?_|refine aq ?_ ?_|refine cX ?_ ?_)<;>intro h)<;>try simp only[I,B,D,RX,↓KW,Nat.reduceBEq,Nat.reduceAdd,Nat.reduceLeDiff,Int.reduceNe,Int.reduceBEq,Int.reduceEq,reduceCtorEq,Nat.reduceMul,Int.reduceLT,Int.reduceLE,Int.reduceToNat,aU,aJ,hlim,hl,hgs,hp1,hrow0,h])
           ·have h1:=of_decide_eq_true h
            refine⟨by decide,?_⟩
            refine⟨by decide,?_⟩
            have h2:(i:Int)<n1:=by rename_i h2;exact of_decide_eq_true h2
            refine back1 (i+1) _ (by omega) (by omega) (ah (by decide) ?_ ?_ ?_ ?_)<;>simp[LX,I,B,D,hw3,jV,hl,bf,aU,aJ,hgs,hrow0]
           ·have h1:=of_decide_eq_false h
            have:i=bA n1 (p+m0) (bX G g):=by omega
            rw[<-this];refine bI () trivial ?_
            refine ah (by decide) ?_ ?_ ?_ ?_<;>simp[LX,I,B,D,hl,bf,aU,aJ,hgs,hrow0]
           ·have h1:=of_decide_eq_false h
            have:i=bA n1 (p+m0) (bX G g):=by omega
            rw[<-this];refine bI () trivial ?_
            refine ah (by decide) ?_ ?_ ?_ ?_<;>simp[LX,I,B,D,hl,bf,aU,aJ,hgs,hrow0]
          ·try simp only[I,B,D,RX,↓KW,Nat.reduceBEq,Nat.reduceAdd,Nat.reduceLeDiff,Int.reduceNe,Int.reduceBEq,Int.reduceEq,reduceCtorEq,Nat.reduceMul,Int.reduceLT,Int.reduceLE,Int.reduceToNat,hl,bq,bf,hlim,hgs,hrow0]
           repeat' (((first|refine bJ ?_ ?_|refine aq ?_ ?_|refine cX ?_ ?_)<;>intro h)<;>try simp only[I,B,D,RX,↓KW,Nat.reduceBEq,Nat.reduceAdd,Nat.reduceLeDiff,Int.reduceNe,Int.reduceBEq,Int.reduceEq,reduceCtorEq,Nat.reduceMul,Int.reduceLT,Int.reduceLE,Int.reduceToNat,aU,aJ,hlim,hl,hgs,hp1,hrow0,h])
           ·have h1:=of_decide_eq_true h
            refine⟨by decide,by omega,by decide,?_⟩
            have h2:(i:Int)<n1:=by rename_i h2;exact of_decide_eq_true h2
            refine back1 (i+1) _ (by omega) (by omega) (ah (by decide) ?_ ?_ ?_ ?_)<;>simp[LX,I,B,D,hw3,jV,hl,bf,aU,aJ,hgs,hrow0]
           ·have h1:=of_decide_eq_false h
            have:i=bA n1 (p+m0) (bX G g):=by omega
            rw[<-this];refine bI () trivial ?_
            refine ah (by decide) ?_ ?_ ?_ ?_<;>simp[LX,I,B,D,hl,bf,aU,aJ,hgs,hrow0]
           ·have h1:=of_decide_eq_false h
            have:i=bA n1 (p+m0) (bX G g):=by omega
            rw[<-this];refine bI () trivial ?_
            refine ah (by decide) ?_ ?_ ?_ ?_<;>simp[LX,I,B,D,hl,bf,aU,aJ,hgs,hrow0]
         ·refine ah (by decide) ?_ ?_ ?_ ?_<;>simp[LX,I,B,D,dY,bf,aU,aJ,hgs,hrow0,hcn]
        ·intro _ _
         try simp only[I,B,D,RX,↓KW,Nat.reduceBEq,Nat.reduceAdd,Nat.reduceLeDiff,Int.reduceNe,Int.reduceBEq,Int.reduceEq,reduceCtorEq,Nat.reduceMul,Int.reduceLT,Int.reduceLE,Int.reduceToNat,hgs,bf,hrow0]
         refine br ?_;try simp only[I,B,D,RX,↓KW,Nat.reduceBEq,Nat.reduceAdd,Nat.reduceLeDiff,Int.reduceNe,Int.reduceBEq,Int.reduceEq,reduceCtorEq,Nat.reduceMul,Int.reduceLT,Int.reduceLE,Int.reduceToNat,hgs,Cb]
         refine bI () trivial ?_
         refine ah (by decide) ?_ ?_ ?_ ?_<;>simp[LX,I,B,D,hgs,bf,aU,aJ]
      ·have hfr:¬fr1=0:=by simpa using h
       have hcn:fr1=(n1:Int):=by rw[hcn0,if_neg (fun hh=>hfr (by omega))];omega
       refine dR (.exit 4) (fun _:Unit=>(⟨[(9,.dat (I 1) none),(6,.dat (I (p+m0+bA n1 (p+m0) (bX G g):Nat)) none),(5,.dat (I G) none),(7,.dat (I g) none),(8,.ptr 403 0),(1,.dat (aD aA l) none),(0,.ptr 0 0)],[(403,⟨[aD aA (bf (dY p m0)),aD aA (bf (dY (p+m0) (bA n1 (p+m0) (bX G g))))],[]⟩),(0,⟨({t with groups:=bf gs}:Tb).cells,if gs=[]then[]else[(104,0)]⟩)],bq gs 0 eR,1000⟩:S)) (fun _=>True) (fun _=>rfl) ?_ ?_
       ·refine aH (fun i:Nat=>(⟨[(11,.dat (I i) none),(10,.dat (I n1) none),(6,.dat (I (p+m0+i:Nat)) none),(5,.dat (I G) none),(7,.dat (I g) none),(9,.dat (I 1) none),(8,.ptr 403 0),(1,.dat (aD aA l) none),(0,.ptr 0 0)],[(403,⟨[aD aA (bf (dY p m0)),aD aA (bf (dY (p+m0) i))],if dY (p+m0) i=[]then[]else[(1,1)]⟩),(0,⟨({t with groups:=bf gs}:Tb).cells,if gs=[]then[]else[(104,0)]⟩)],bq (dY (p+m0) i) 1 e++bq gs 0 eR,1000⟩:S)) (fun i=>bA n1 (p+m0) (bX G g)-i) (fun i=>i<=bA n1 (p+m0) (bX G g)) ?_ 0 (by omega) ?_
        ·intro i hi A1 back1
         have hfl:bA n1 (p+m0) (bX G g)<=8:=by simp only[bA,bX];omega
         have hw3:=aF (k:=i) (by omega)
         have hf:bA n1 (p+m0) (bX G g)=min n1 (bX G g-(p+m0)):=rfl
         have hp1:IntKind.i64.wrap (((p+m0+i:Nat):Int)+1)=((p+m0+(i+1):Nat):Int):=by rw[bC (by omega) (by omega)];omega
         have hrl:(dY (p+m0) i).length=i:=by simp[dY]
         by_cases hl:dY (p+m0) i=[]
         ·try simp only[I,B,D,RX,↓KW,Nat.reduceBEq,Nat.reduceAdd,Nat.reduceLeDiff,Int.reduceNe,Int.reduceBEq,Int.reduceEq,reduceCtorEq,Nat.reduceMul,Int.reduceLT,Int.reduceLE,Int.reduceToNat,hl,bq,bf,hlim,hgs,hrow0]
          repeat' (((first|refine bJ ?_ ?_|refine aq ?_ ?_|refine cX ?_ ?_)<;>intro h)<;>try simp only[I,B,D,RX,↓KW,Nat.reduceBEq,Nat.reduceAdd,Nat.reduceLeDiff,Int.reduceNe,Int.reduceBEq,Int.reduceEq,reduceCtorEq,Nat.reduceMul,Int.reduceLT,Int.reduceLE,Int.reduceToNat,aU,aJ,hlim,hl,hgs,hp1,hrow0,h])
          ·have h1:=of_decide_eq_true h
           refine⟨by decide,?_⟩
           refine⟨by decide,?_⟩
           have h2:(i:Int)<n1:=by rename_i h2;exact of_decide_eq_true h2
           refine back1 (i+1) _ (by omega) (by omega) (ah (by decide) ?_ ?_ ?_ ?_)<;>simp[LX,I,B,D,hw3,jV,hl,bf,aU,aJ,hgs,hrow0]
          ·have h1:=of_decide_eq_false h
           have:i=bA n1 (p+m0) (bX G g):=by omega
           rw[<-this];refine bI () trivial ?_
           refine ah (by decide) ?_ ?_ ?_ ?_<;>simp[LX,I,B,D,hl,bf,aU,aJ,hgs,hrow0]
          ·have h1:=of_decide_eq_false h
           have:i=bA n1 (p+m0) (bX G g):=by omega
           rw[<-this];refine bI () trivial ?_
           refine ah (by decide) ?_ ?_ ?_ ?_<;>simp[LX,I,B,D,hl,bf,aU,aJ,hgs,hrow0]
         ·try simp only[I,B,D,RX,↓KW,Nat.reduceBEq,Nat.reduceAdd,Nat.reduceLeDiff,Int.reduceNe,Int.reduceBEq,Int.reduceEq,reduceCtorEq,Nat.reduceMul,Int.reduceLT,Int.reduceLE,Int.reduceToNat,hl,bq,bf,hlim,hgs,hrow0]
          repeat' (((first|refine bJ ?_ ?_|refine aq ?_ ?_|refine cX ?_ ?_)<;>intro h)<;>try simp only[I,B,D,RX,↓KW,Nat.reduceBEq,Nat.reduceAdd,Nat.reduceLeDiff,Int.reduceNe,Int.reduceBEq,Int.reduceEq,reduceCtorEq,Nat.reduceMul,Int.reduceLT,Int.reduceLE,Int.reduceToNat,aU,aJ,hlim,hl,hgs,hp1,hrow0,h])
          ·have h1:=of_decide_eq_true h
           refine⟨by decide,by omega,by decide,?_⟩
           have h2:(i:Int)<n1:=by rename_i h2;exact of_decide_eq_true h2
           refine back1 (i+1) _ (by omega) (by omega) (ah (by decide) ?_ ?_ ?_ ?_)<;>simp[LX,I,B,D,hw3,jV,hl,bf,aU,aJ,hgs,hrow0]
          ·have h1:=of_decide_eq_false h
           have:i=bA n1 (p+m0) (bX G g):=by omega
           rw[<-this];refine bI () trivial ?_
           refine ah (by decide) ?_ ?_ ?_ ?_<;>simp[LX,I,B,D,hl,bf,aU,aJ,hgs,hrow0]
          ·have h1:=of_decide_eq_false h
           have:i=bA n1 (p+m0) (bX G g):=by omega
           rw[<-this];refine bI () trivial ?_
           refine ah (by decide) ?_ ?_ ?_ ?_<;>simp[LX,I,B,D,hl,bf,aU,aJ,hgs,hrow0]
        ·refine ah (by decide) ?_ ?_ ?_ ?_<;>simp[LX,I,B,D,dY,bf,aU,aJ,hgs,hrow0,hcn]
       ·intro _ _
        try simp only[I,B,D,RX,↓KW,Nat.reduceBEq,Nat.reduceAdd,Nat.reduceLeDiff,Int.reduceNe,Int.reduceBEq,Int.reduceEq,reduceCtorEq,Nat.reduceMul,Int.reduceLT,Int.reduceLE,Int.reduceToNat,hgs,bf,hrow0]
        refine br ?_;try simp only[I,B,D,RX,↓KW,Nat.reduceBEq,Nat.reduceAdd,Nat.reduceLeDiff,Int.reduceNe,Int.reduceBEq,Int.reduceEq,reduceCtorEq,Nat.reduceMul,Int.reduceLT,Int.reduceLE,Int.reduceToNat,hgs,Cb]
        refine bI () trivial ?_
        refine ah (by decide) ?_ ?_ ?_ ?_<;>simp[LX,I,B,D,hgs,bf,aU,aJ]
    ·intro _ _
     have hgc:=Tb.uj (t:={t with groups:=bf gs}) ht.phases
     have hln:=Tb.len' (t:={t with groups:=bf gs}) ht.phases ht.conflict ht.bp
     have hset:=Tb.zF (t:={t with groups:=bf gs}) ht.phases (some (gs++[⟨bf (dY p (bA n0 p (bX G g))),bf (dY (p+bA n0 p (bX G g)) (bA (cnt l g 1 (bA n0 p (bX G g))) (p+bA n0 p (bX G g)) (bX G g)))⟩]))
     simp only[hgs,bf,if_true,if_false]at hgc hln hset;try simp only[I,B,D,RX,↓KW,Nat.reduceBEq,Nat.reduceAdd,Nat.reduceLeDiff,Int.reduceNe,Int.reduceBEq,Int.reduceEq,reduceCtorEq,Nat.reduceMul,Int.reduceLT,Int.reduceLE,Int.reduceToNat,hgc,aU,aJ,Gr.len,hgl,hgs,bf]
     try refine⟨by omega,?_⟩
     try refine⟨by simp[bq,hgs,eK],?_⟩
     try refine⟨by omega,?_⟩
     simp[aJ,Gr.cells,hgs]at hset
     refine back (g+1) _ (by omega) (by omega) (ah (by decide) ?_ ?_ ?_ ?_)<;>simp[LX,I,B,D,hn2,hw,hgs,bf,aJ,aU,Gr.cells,hset]
     trace_state
   ·have hgG:g=G:=by have:=of_decide_eq_false h;omega
    subst hgG
    first
     |(exfalso;rw[hgs]at hgl;simp at hgl;omega)
     |exact⟨by rw[hR],by rw[hR]⟩
 ·have:({t with groups:=none}:Tb)=t:=by cases t;simp_all
  refine ah (by decide) ?_ ?_ ?_ ?_<;>simp[LX,I,B,D,bD,bf,this]
end
def cV:Tb:=⟨List.replicate 8 default,none,List.replicate 8 0,none,none,none,0,0,0,0,0,List.replicate 8 0,0,0⟩
theorem Cc:bG=cV.cells:=rfl
def Ce(l:Option (List Int)):Nat->List Ph
 |0=>List.replicate 8 default
 |k+1=>(Ce l k).set k (jE l (10+12*k))
def uk:Nat->List Int
 |0=>List.replicate 8 0
 |k+1=>(uk k).set k 1
theorem er(l:Option (List Int)):∀k,(Ce l k).length=8
 |0=>by simp[Ce]
 |k+1=>by simp[Ce,er l k]
theorem kn:∀k,(uk k).length=8
 |0=>by simp[uk]
 |k+1=>by simp[uk,kn k]
def A9(c:List Int) (i:Nat):Int:=c.getD i 0
def pM(t:Tb) (l:Option (List Int)) (p q:Nat):Bool:=!gw t p q&&bV l (110+8*p+q) 9 !=1
def gC(t:Tb) (l:Option (List Int)) (p q:Nat) (c:List Int):List Int:=
 if pM t l p q then
  let c1:=c.set p (je (A9 c p) q)
  c1.set q (je (A9 c1 q) p)
 else c
def jF(t:Tb) (l:Option (List Int)) (p:Nat):Nat->List Int->List Int
 |0,c=>c
 |q+1,c=>gC t l p q (jF t l p q c)
def gD(t:Tb) (l:Option (List Int)):Nat->List Int
 |0=>List.replicate 8 0
 |p+1=>jF t l p p (gD t l p)
theorem Cf{t:Tb} {l:Option (List Int)} {p q:Nat} {c:List Int}:(gC t l p q c).length=c.length:=by
 unfold gC;split<;>simp
theorem rz{t:Tb} {l:Option (List Int)} {p:Nat} {c:List Int}:∀q,(jF t l p q c).length=c.length
 |0=>rfl
 |q+1=>by rw[jF,Cf,rz q]
theorem dS{t:Tb} {l:Option (List Int)}:∀p,(gD t l p).length=8
 |0=>by simp[gD]
 |p+1=>by rw[gD,rz,dS p]
def l7(l:Option (List Int)) (n d:Int) (j:Nat):List fy:=(List.range j).map fun(k:Nat)=>jL l (180+8*(d-k)) n
def fm(t:Tb) (l:Option (List Int)) (n r:Int) (j:Nat):List Rl:=(List.range j).map fun(k:Nat)=>od t l (260+16*(r-k)) n
def Ba(l:Option (List Int)) (n i:Int):Bs:=
 let x:=nZ .i64 (bV l (330+2*i) 256) (cv (cv (1*2^min (IntKind.u64.wrap n).toNat 64)-1))
 ⟨if x>1 then x else 1,cv (1+bV l (331+2*i) 30)⟩
def l9(l:Option (List Int)) (n b:Int) (j:Nat):List Bs:=(List.range j).map fun(k:Nat)=>Ba l n (b-k)
def kD(t:Tb):Nat->Int
 |0=>0
 |k+1=>if lX t k>kD t k then lX t k else kD t k
def bU(l:Option (List Int)):List Gr×Nat:=bD l (dQ l) (dQ l)
def bB (l:Option (List Int)):Tb :=
  let n:=(bU l).2
  let t1:Tb:={ cV with groups:=some (bU l).1 }
  let q:=bV l 174 (n + 1)
  { phases:=Ce l n
    groups:=some (bU l).1
    conflict:=gD t1 l n
    az:=bf (l7 l n (bV l 175 9) (bV l 175 9).toNat)
    aR:=bf (fm t1 l n ((bV l 176 4).tmod 3) ((bV l 176 4).tmod 3).toNat)
    aX:=bf (l9 l n (bV l 177 3) (bV l 177 3).toNat)
    extend:=bV l 178 12
    cU:=bV l 179 40
    start:=bV l 180 8
    revert:=bV l 181 8
    least:=bV l 182 12
    bp:=if q < n then (uk n).set q.toNat 2 else uk n
    dw:=0
    share:=bV l 183 4 }
def bu(l:Option (List Int)):Tb:=
 {bB l with dw:=if(fm {cV with groups:=some (bU l).1} l (bU l).2 ((bV l 176 4).tmod 3) ((bV l 176 4).tmod 3).toNat)=[]then 0 else kD (bB l) (bU l).2}
def Table.Spec(C:bw) (f:Nat):Prop:=∀l:Option (List Int),C.c f [aD aA l] (.agg (bu l).cells) none
def jM(l:Option (List Int)) (k:Nat):Tb:={cV with groups:=some (bU l).1,phases:=Ce l k,bp:=uk k}
def iO(l:Option (List Int)) (c:List Int):Tb:={jM l (bU l).2 with conflict:=c}
def rA(l:Option (List Int)):Tb:={iO l (gD {cV with groups:=some (bU l).1} l (bU l).2)with bp:=(bB l).bp}
def xO(l:Option (List Int)) (d:List fy):Tb:={rA l with az:=bf d}
def wH(l:Option (List Int)) (r:List Rl):Tb:={rA l with az:=(bB l).az,aR:=bf r}
def xP(l:Option (List Int)) (b:List Bs):Tb:={rA l with az:=(bB l).az,aR:=(bB l).aR,aX:=bf b}
def zG(l:Option (List Int)) (w:Int):Tb:={bB l with dw:=w}
theorem JD(p m:Nat):(dY p m).length=m:=by simp[dY]
theorem pN(l:Option (List Int)) (G:Nat):∀g,∀x∈(bD l G g).1,(x.a.getD []).length<=8/\(x.b.getD []).length<=8
 |0,x,hx=>by simp[bD]at hx
 |g+1,x,hx=>by
  simp only[bD,List.mem_append,List.mem_singleton]at hx
  rcases hx with hx|rfl
  ·exact pN l G g x hx
  ·simp only[cO,JD,bA,bX]
   omega
theorem wJ(l:Option (List Int)):(bU l).2<=8:=sE _ _ _
theorem xE(l:Option (List Int)) (G:Nat):∀g,1<=g->g<=G->G<=3->1<=(bD l G g).2
 |0,h,_,_=>by omega
 |1,_,h1,h3=>by
  simp only[bD,bA,bX,cnt]
  split<;>split<;>simp_all<;>omega
 |g+2,_,h1,h3=>by
  have:=xE l G (g+1) (by omega) (by omega) h3
  rw[bD];simp only;omega
theorem pO(l:Option (List Int)):1<=dQ l/\dQ l<=3:=by
 have:=aS l 0 (n:=3) (by decide) (by decide)
 unfold dQ;omega
theorem zH(l:Option (List Int)):1<=(bU l).2:=xE l _ _ (pO l).1 (Nat.le_refl _) (pO l).2
theorem zI{l:Option (List Int)} {t:Tb} (hg:t.groups=some (bU l).1) (h1:t.phases.length=8) (h2:t.conflict.length=8) (h3:t.bp.length=8) (h4:(t.az.getD []).length<=1048576) (h5:(t.aR.getD []).length<=1048576) (h6:(t.aX.getD []).length<=1048576):t.Ok:=by
 refine⟨h1,h2,h3,?_,?_,h4,h5,h6⟩
 ·rw[hg];simp only[Option.getD_some,bU,pL];have:=pO l;omega
 ·rw[hg];simp only[Option.getD_some]
  intro g hg'
  have:=pN _ _ _ g hg'
  omega
theorem EP(l:Option (List Int)) (n d:Int) (j:Nat):l7 l n d (j+1)=l7 l n d j++[jL l (180+8*(d-j)) n]:=by simp[l7,List.range_succ]
theorem wK(l:Option (List Int)) (n d:Int) (j:Nat):(l7 l n d j).length=j:=by simp[l7]
theorem DB(t:Tb) (l:Option (List Int)) (n d:Int) (j:Nat):fm t l n d (j+1)=fm t l n d j++[od t l (260+16*(d-j)) n]:=by simp[fm,List.range_succ]
theorem uo(t:Tb) (l:Option (List Int)) (n d:Int) (j:Nat):(fm t l n d j).length=j:=by simp[fm]
theorem ER(l:Option (List Int)) (n d:Int) (j:Nat):l9 l n d (j+1)=l9 l n d j++[Ba l n (d-j)]:=by simp[l9,List.range_succ]
theorem sF(l:Option (List Int)) (n d:Int) (j:Nat):(l9 l n d j).length=j:=by simp[l9]
theorem fy.len(d:fy):d.cells.length=7:=rfl
theorem Bs.len(d:Bs):d.cells.length=2:=rfl
theorem dU(l:Option (List Int)):(bB l).bp.length=8:=by
 unfold bB;simp only;split<;>simp[kn]
theorem lF(l:Option (List Int)):((bB l).az.getD []).length<=1048576:=by
 have:=aS l 175 (n:=9) (by decide) (by decide)
 simp only[bB,cO,wK];omega
theorem ko(l:Option (List Int)):((bB l).aR.getD []).length<=1048576:=by
 have h:=Int.tmod_lt_of_pos (bV l 176 4) (b:=3) (by decide)
 simp only[bB,cO,uo];omega
theorem Cg(l:Option (List Int)):((bB l).aX.getD []).length<=1048576:=by
 have:=aS l 177 (n:=3) (by decide) (by decide)
 simp only[bB,cO,sF];omega
theorem uq(l:Option (List Int)):(bu l).Ok:=zI rfl (er l _) (dS _) (dU l) (lF l) (ko l) (Cg l)
section
variable{P:Program} (hm:P.follows .mixedOrders=true) {f:Nat}
include hm
theorem Table.ok{fR fP fB fF fW fD eD fr eR eB fw:Nat} (hc:de P f=some (mX fR fP fB fF fW fD eD fr eR eB fw)) (hR:rows.Spec (Pure P) fR) (hP:phase.Spec (Pure P) fP) (hB:beside.Spec (Pure P) fB) (hF:from.Spec (Pure P) fF) (hW:sw.Spec (Pure P) fW)
  (hD:ry.Spec (Pure P) fD) (hr:JC.Spec (Pure P) fr) (hw:wait.Spec (Pure P) fw):Table.Spec (Pure P) f:=by
 intro l
 refine aB hm hc (by show 1<=186;decide) (ax (keep:=[0,3,8,9,12,15,18]) (i:=0) ?_)
 try simp only[I,B,D,RY,↓KW,seval,mX,Z.H,Cc]
 have ok0:cV.Ok:=⟨rfl,rfl,rfl,by simp[cV],by simp[cV],by simp[cV],by simp[cV],by simp[cV]⟩
 refine⟨rfl,ay (hR cV l ok0 rfl) ?_⟩
 have hN:=wJ l
 have hN1:=zH l
 try simp only[I,B,D,RY,↓KW,seval]
 change aw _ _ _ (⟨[(5,_),(4,.dat (I ((bU l).2:Nat)) none),(14,_),(13,_),(3,_),(2,_),(0,_)],[(5,⟨(jM l 0).cells,[]⟩),_],_,_⟩:S)
 generalize hNe:(bU l).2=N at*
 refine dR (.exit 0) (fun _:Unit=>(⟨[(4,.dat (I N) none),(3,.ptr 5 0),(0,.dat (aD aA l) none),(2,.ptr 4 0)],[(5,⟨(jM l N).cells,[]⟩),(4,⟨cV.cells,[]⟩)],[],400⟩:S)) (fun _=>True) (fun _=>rfl) ?_ ?_
 ·refine aH (fun k:Nat=>(⟨[(5,.dat (I k) none),(4,.dat (I N) none),(3,.ptr 5 0),(0,.dat (aD aA l) none),(2,.ptr 4 0)],[(5,⟨(jM l k).cells,[]⟩),(4,⟨cV.cells,[]⟩)],[],400⟩:S)) (fun k=>N-k) (fun k=>k<=N) ?_ 0 (by omega) ?_
  ·intro k hk A back
   have hw3:=aF (k:=k) (by omega)
   have hw2:IntKind.i64.wrap (10+IntKind.i64.wrap (12*(k:Int)))=10+12*k:=by rw[bC (n:=12*(k:Int)) (by omega) (by omega),bC (by omega) (by omega)]
   have ln1:(jM l k).Ln:=⟨er l k,rfl,kn k⟩
   have ln2:({jM l k with phases:=(jM l k).phases.set k (jE l (10+12*k))}:Tb).Ln:=⟨by simp[er,jM],rfl,kn k⟩
   try simp only[I,B,D,RY,↓KW,seval]
   refine aq (fun h=>?_) (fun h=>?_)<;>try simp only[I,B,D,RY,↓KW,seval,h]
   ·have hkN:k<N:=by have:=of_decide_eq_true h;omega
    have hlt:k<8:=by omega
    have hs1:=ln1.wE hlt (jE l (10+12*k))
    have hs2:=ln2.sD hlt 1
    have hs3:({({jM l k with phases:=(jM l k).phases.set k (jE l (10+12*k))}:Tb)with bp:=({jM l k with phases:=(jM l k).phases.set k (jE l (10+12*k))}:Tb).bp.set k 1}:Tb)=jM l (k+1):=rfl
    rw[hs3]at hs2
    have hl1:=ln1.len
    have hl2:=ln2.len
    generalize({jM l k with phases:=(jM l k).phases.set k (jE l (10+12*k))}:Tb)=T at*
    refine ai (hP _ _) ?_;try simp only[I,B,D,RY,↓KW,seval,hw2,hs1]
    exact⟨by omega,Ph.len _,by omega,by omega,by omega,by refine back (k+1) _ (by omega) (by omega) (ah (by decide) ?_ ?_ ?_ ?_)<;>simp[LX,I,B,D,hs2,hw3]⟩
   ·have:k=N:=by have:=of_decide_eq_false h;omega
    subst this;refine bI () trivial ?_
    refine ah (by decide) ?_ ?_ ?_ ?_<;>simp[LX,I,B,D]
  ·refine ah (by decide) ?_ ?_ ?_ ?_<;>simp[LX,I,B,D]
 ·intro _ _
  try simp only[I,B,D,RY,↓KW,seval]
  generalize ht1:({cV with groups:=some (bU l).1}:Tb)=t1 at*
  have hA:jM l N=iO l (gD t1 l 0):=by subst hNe;rfl
  refine dR (.exit 2) (fun _:Unit=>(⟨[(4,.dat (I N) none),(3,.ptr 5 0),(0,.dat (aD aA l) none),(2,.ptr 4 0)],[(5,⟨(iO l (gD t1 l N)).cells,[]⟩),(4,⟨cV.cells,[]⟩)],[],400⟩:S)) (fun _=>True) (fun _=>rfl) ?_ ?_
  ·refine aH (fun p:Nat=>(⟨[(6,.dat (I p) none),(4,.dat (I N) none),(3,.ptr 5 0),(0,.dat (aD aA l) none),(2,.ptr 4 0)],[(5,⟨(iO l (gD t1 l p)).cells,[]⟩),(4,⟨cV.cells,[]⟩)],[],400⟩:S)) (fun p=>N-p) (fun p=>p<=N) ?_ 0 (by omega) ?_
   ·intro p hp A back
    have hw3:=aF (k:=p) (by omega)
    try simp only[I,B,D,RY,↓KW,seval]
    refine aq (fun h=>?_) (fun h=>?_)<;>try simp only[I,B,D,RY,↓KW,seval,h]
    ·have hpN:p<N:=by have:=of_decide_eq_true h;omega
     have hlt:p<8:=by omega
     have hcl:gD t1 l (p+1)=jF t1 l p p (gD t1 l p):=rfl
     have hcl8:=dS (t:=t1) (l:=l) p
     generalize gD t1 l p=c0 at*
     refine aH (fun q:Nat=>(⟨[(7,.dat (I q) none),(6,.dat (I p) none),(4,.dat (I N) none),(3,.ptr 5 0),(0,.dat (aD aA l) none),(2,.ptr 4 0)],[(5,⟨(iO l (jF t1 l p q c0)).cells,[]⟩),(4,⟨cV.cells,[]⟩)],[],400⟩:S)) (fun q=>p-q) (fun q=>q<=p) ?_ 0 (by omega) ?_
     ·intro q hq A2 back2
      have hw4:=aF (k:=q) (by omega)
      have hst:jF t1 l p (q+1) c0=gC t1 l p q (jF t1 l p q c0):=rfl
      have hc8:(jF t1 l p q c0).length=8:=by rw[rz,hcl8]
      generalize hce:jF t1 l p q c0=c at*
      have okB:(iO l c).Ok:=zI rfl (er l _) hc8 (kn _) (by simp[iO,jM,cV]) (by simp[iO,jM,cV]) (by simp[iO,jM,cV])
      have hwh:=okB.ln.whole
      have hln:=okB.ln.len
      have hbs:gw (iO l c) p q=gw t1 p q:=by subst ht1;rfl
      have hix:IntKind.i64.wrap (IntKind.i64.wrap (110+IntKind.i64.wrap (8*(p:Int)))+q)=110+8*p+q:=by
       rw[bC (n:=8*(p:Int)) (by omega) (by omega),bC (n:=110+8*(p:Int)) (by omega) (by omega),bC (by omega) (by omega)]
      try simp only[I,B,D,RY,↓KW,seval]
      refine aq (fun h2=>?_) (fun h2=>?_)<;>try simp only[I,B,D,RY,↓KW,seval,hwh,h2]
      ·have hq8:q<p:=by have:=of_decide_eq_true h2;omega
       refine ai (hB _ _ _ okB) ?_;try simp only[I,B,D,RY,↓KW,seval,hbs]
       repeat' (first|(refine ai (hF _ _ _ (by decide)) ?_;try simp only[I,B,D,RY,↓KW,seval,hix])|(((first|refine bJ ?_ ?_|refine aq ?_ ?_|refine cX ?_ ?_)<;>intro h)<;>try simp only[I,B,D,RY,↓KW,seval,hix,h]))
       ·have hb:gw t1 p q=false:=by simp_all
        have hcc:pM t1 l p q=true:=by simp only[pM,hb];simpa using h
        have hcs:gC t1 l p q c=(c.set p (je (A9 c p) q)).set q (je (A9 (c.set p (je (A9 c p) q)) q) p):=by simp only[gC,hcc,if_true]
        have g1:c[p]? =some (A9 c p):=by simp[A9,show p<c.length by omega]
        have g2:(c.set p (je (A9 c p) q))[q]? =some (A9 (c.set p (je (A9 c p) q)) q):=by simp[A9,show q<c.length by omega]
        have ln2:(iO l (c.set p (je (A9 c p) q))).Ln:=⟨er l _,by simp[iO,hc8],kn _⟩
        have l1:=okB.ln.qY (t:=iO l c) g1
        have l2:=ln2.qY g2
        have hs1:setCells (iO l c).cells (105+p) [I (je (A9 c p) q)]=(iO l (c.set p (je (A9 c p) q))).cells:=okB.ln.mF hlt _
        have hs2:setCells (iO l (c.set p (je (A9 c p) q))).cells (105+q) [I (je (A9 (c.set p (je (A9 c p) q)) q) p)]=(iO l (gC t1 l p q c)).cells:=by rw[hcs];exact ln2.mF (by omega) _
        have hln2:=ln2.len
        rw[<-hst]at hs2;simp only[I]at hs1 hs2;generalize A9 (c.set p (je (A9 c p) q)) q=v2 at*;generalize A9 c p=v1 at*;generalize c.set p (je v1 q)=c2 at*
        refine⟨by omega,?_⟩
        try simp only[I,B,D,RY,↓KW,seval,l1]
        refine ai (hW _ _) ?_;try simp only[I,B,D,RY,↓KW,seval,hs1]
        refine⟨by omega,by omega,by omega,?_⟩
        try simp only[I,B,D,RY,↓KW,seval,l2,hs1]
        refine ai (hW _ _) ?_;try simp only[I,B,D,RY,↓KW,seval,hs1,hs2]
        exact⟨by omega,by omega,by refine back2 (q+1) _ (by omega) (by omega) (ah (by decide) ?_ ?_ ?_ ?_)<;>simp[LX,I,B,D,hw4]⟩
       ·have hcs:gC t1 l p q c=c:=by
         have hcc:pM t1 l p q=false:=by simp only[pM];simp_all
         simp[gC,hcc]
        refine back2 (q+1) _ (by omega) (by omega) (ah (by decide) ?_ ?_ ?_ ?_)<;>simp[LX,I,B,D,hst,hcs,hw4]
       ·have hcs:gC t1 l p q c=c:=by
         have hcc:pM t1 l p q=false:=by simp only[pM];simp_all
         simp[gC,hcc]
        refine back2 (q+1) _ (by omega) (by omega) (ah (by decide) ?_ ?_ ?_ ?_)<;>simp[LX,I,B,D,hst,hcs,hw4]
      ·have:q=p:=by have:=of_decide_eq_false h2;omega
       subst this
       refine back (q+1) _ (by omega) (by omega) (ah (by decide) ?_ ?_ ?_ ?_)<;>simp[LX,I,B,D,hcl,hce,hw3]
     ·refine ah (by decide) ?_ ?_ ?_ ?_<;>simp[LX,I,B,D,jF]
    ·have:p=N:=by have:=of_decide_eq_false h;omega
     subst this;refine bI () trivial ?_
     refine ah (by decide) ?_ ?_ ?_ ?_<;>simp[LX,I,B,D]
   ·refine ah (by decide) ?_ ?_ ?_ ?_<;>simp[LX,I,B,D,hA]
  ·intro _ _
   have hn1:IntKind.i64.wrap ((N:Int)+1)=N+1:=aF (by omega)
   have hq:=aS l 174 (n:=(N:Int)+1) (by omega) (by omega)
   have okB:(iO l (gD t1 l N)).Ok:=zI rfl (er l _) (dS _) (kn _) (by simp[iO,jM,cV]) (by simp[iO,jM,cV]) (by simp[iO,jM,cV])
   have hln:=okB.ln.len
   have hpre:(bB l).bp=if bV l 174 (N+1)<N then(uk N).set (bV l 174 (N+1)).toNat 2 else uk N:=by subst hNe;rfl
   have hC:rA l={iO l (gD t1 l N)with bp:=(bB l).bp}:=by subst hNe;subst ht1;rfl
   have hfB:(iO l (gD t1 l N)).bp=uk N:=by subst hNe;rfl
   rw[IT]
   refine dR .normal (fun _:Unit=>(⟨[(4,.dat (I N) none),(3,.ptr 5 0),(0,.dat (aD aA l) none),(2,.ptr 4 0)],[(5,⟨(rA l).cells,[]⟩),(4,⟨cV.cells,[]⟩)],[],400⟩:S)) (fun _=>True) (fun _=>rfl) ?_ ?_
   ·try simp only[I,B,D,RY,↓KW,seval]
    refine ai (hF _ _ _ (by omega)) ?_
    rw[hn1];generalize bV l 174 (N+1)=q at*;try simp only[I,B,D,RY,↓KW,seval]
    refine aq (fun h=>?_) (fun h=>?_)<;>try simp only[I,B,D,RY,↓KW,seval,h]
    ·have hqN:q<N:=of_decide_eq_true h
     rw[if_pos hqN]at hpre
     have hs1:=okB.ln.sD (i:=q.toNat) (by omega) 2
     have e:({iO l (gD t1 l N)with bp:=(iO l (gD t1 l N)).bp.set q.toNat 2}:Tb)=rA l:=by rw[hC,hfB,hpre]
     rw[e]at hs1;simp only[I]at hs1
     refine⟨by omega,by omega,?_⟩
     refine bI () trivial ?_
     refine ah (by decide) ?_ ?_ ?_ ?_<;>simp[LX,I,B,D,hs1]
    ·have hqN:¬q<N:=of_decide_eq_false h
     rw[if_neg hqN]at hpre
     have e:iO l (gD t1 l N)=rA l:=by rw[hC,hpre,<-hfB]
     refine bI () trivial ?_
     refine ah (by decide) ?_ ?_ ?_ ?_<;>simp[LX,I,B,D,e]
   ·intro _ _
    have hd:=aS l 175 (n:=9) (by decide) (by decide)
    have hD0:rA l=xO l []:=rfl
    have hDe:xO l (l7 l N (bV l 175 9) (bV l 175 9).toNat)=wH l []:=by subst hNe;rfl
    try simp only[I,B,D,RY,↓KW,seval]
    refine ai (hF _ _ _ (by decide)) ?_
    generalize bV l 175 9=d at*;try simp only[I,B,D,RY,↓KW,seval]
    refine dR (.exit 6) (fun _:Unit=>(⟨[(4,.dat (I N) none),(3,.ptr 5 0),(0,.dat (aD aA l) none),(2,.ptr 4 0)],[(5,⟨(xO l (l7 l N d d.toNat)).cells,[]⟩),(4,⟨cV.cells,[]⟩)],[],400⟩:S)) (fun _=>True) (fun _=>rfl) ?_ ?_
    ·refine aH (fun j:Nat=>(⟨[(9,.dat (I (d-j)) none),(4,.dat (I N) none),(3,.ptr 5 0),(0,.dat (aD aA l) none),(2,.ptr 4 0)],[(5,⟨(xO l (l7 l N d j)).cells,if l7 l N d j=[]then[]else[(113,0)]⟩),(4,⟨cV.cells,[]⟩)],bq (l7 l N d j) 0 eD,400⟩:S)) (fun j=>d.toNat-j) (fun j=>j<=d.toNat) ?_ 0 (by omega) ?_
     ·intro j hj A back
      have hw3:IntKind.i64.wrap (d-j-1)=d-((j+1:Nat):Int):=by rw[bC (by omega) (by omega)];omega
      have hix:IntKind.i64.wrap (180+IntKind.i64.wrap (8*(d-(j:Int))))=180+8*(d-j):=by rw[bC (n:=8*(d-(j:Int))) (by omega) (by omega),bC (by omega) (by omega)]
      have hnext:=EP l N d j
      have hlen:(l7 l N d j).length=j:=wK ..
      generalize hL:l7 l N d j=L at*;generalize hx:jL l (180+8*(d-j)) N=x at*
      have Ah:(xO l L).Ok:=zI rfl (er l _) (dS _) (dU l) (by simp[xO,rA,iO,jM,cV,cO,lF];try omega) (by simp[xO,rA,iO,jM,cV,cO,ko];try omega) (by simp[xO,rA,iO,jM,cV,cO];try omega)
      have ln:=Ah.ln
      have hln:=ln.len
      have hwh:=ln.whole
      have hat:=ln.xC
      have hset:setCells (xO l L).cells 113 [aD fy.cells (some (L++[x]))]=(xO l (L++[x])).cells:=by rw[ln.vA (some (L++[x]))];simp[xO,bf]
      have hatr:(xO l L).az=bf L:=rfl
      rw[hatr]at hat;simp only[aJ,List.map_append,List.map_cons,List.map_nil]at hset
      cases L with
      |nil=>
       simp only[List.map_nil,List.nil_append,bf,if_true,aU]at hset hat hnext;try simp only[I,B,D,RY,↓KW,seval,bf,bq]
       refine aq (fun h=>?_) (fun h=>?_)<;>try simp only[I,B,D,RY,↓KW,seval,hat,hwh,h]
       ·have hj1:(0:Int)<d-j:=of_decide_eq_true h
        refine ai (hD _ _ _ (by omega)) ?_
        try simp only[I,B,D,RY,↓KW,seval,hix,hx,fy.len]
        try simp only[I,B,D,RY,↓KW,seval,hset]
        refine⟨by omega,?_⟩
        refine back (j+1) _ (by omega) (by omega) (ah (by decide) ?_ ?_ ?_ ?_)<;>simp[LX,I,B,D,hnext,hw3,bf]
       ·have hj1:¬(0:Int)<d-j:=of_decide_eq_false h
        have:j=d.toNat:=by omega
        rw[<-this,hL];refine bI () trivial ?_
        refine ah (by decide) ?_ ?_ ?_ ?_<;>simp[LX,I,B,D,bf]
      |cons y ys=>
       simp only[bf,reduceCtorEq,if_false,aJ]at hset hat hnext;try simp only[I,B,D,RY,↓KW,seval,bf,bq]
       refine aq (fun h=>?_) (fun h=>?_)<;>try simp only[I,B,D,RY,↓KW,seval,hat,hwh,h]
       ·have hj1:(0:Int)<d-j:=of_decide_eq_true h
        refine ai (hD _ _ _ (by omega)) ?_
        try simp only[I,B,D,RY,↓KW,seval,hix,hx,fy.len]
        try simp only[I,B,D,RY,↓KW,seval,hset,fy.len]
        refine⟨by simp at hlen⊢;omega,by omega,?_⟩
        refine back (j+1) _ (by omega) (by omega) (ah (by decide) ?_ ?_ ?_ ?_)<;>simp[LX,I,B,D,hnext,hw3,bf]
       ·have hj1:¬(0:Int)<d-j:=of_decide_eq_false h
        have:j=d.toNat:=by omega
        rw[<-this,hL];refine bI () trivial ?_
        refine ah (by decide) ?_ ?_ ?_ ?_<;>simp[LX,I,B,D,bf]
     ·refine ah (by decide) ?_ ?_ ?_ ?_<;>simp[LX,I,B,D,hD0,l7,bf]
    ·intro _ _
     have hr4:=aS l 176 (n:=4) (by decide) (by decide)
     have hr3:=Int.tmod_lt_of_pos (bV l 176 4) (b:=3) (by decide)
     have hr0:=Int.tmod_nonneg 3 hr4.1
     have hEe:wH l (fm t1 l N ((bV l 176 4).tmod 3) ((bV l 176 4).tmod 3).toNat)=xP l []:=by subst hNe;subst ht1;rfl
     have hRl:(bB l).aR=bf (fm t1 l N ((bV l 176 4).tmod 3) ((bV l 176 4).tmod 3).toNat):=by subst hNe;subst ht1;rfl
     have hTab:bu l=zG l (if fm t1 l N ((bV l 176 4).tmod 3) ((bV l 176 4).tmod 3).toNat=[]then 0 else kD (bB l) N):=by subst hNe;subst ht1;rfl
     try simp only[I,B,D,RY,↓KW,seval]
     refine ai (hF _ _ _ (by decide)) ?_
     try simp only[I,B,D,RY,↓KW,seval]
     generalize(bV l 176 4).tmod 3=r at*
     refine dR (.exit 8) (fun _:Unit=>(⟨[(4,.dat (I N) none),(3,.ptr 5 0),(0,.dat (aD aA l) none),(2,.ptr 4 0)],[(5,⟨(wH l (fm t1 l N r r.toNat)).cells,[]⟩),(4,⟨cV.cells,[]⟩)],[],400⟩:S)) (fun _=>True) (fun _=>rfl) ?_ ?_
     ·refine aH (fun j:Nat=>(⟨[(10,.dat (I (r-j)) none),(4,.dat (I N) none),(3,.ptr 5 0),(0,.dat (aD aA l) none),(2,.ptr 4 0)],[(5,⟨(wH l (fm t1 l N r j)).cells,if fm t1 l N r j=[]then[]else[(114,0)]⟩),(4,⟨cV.cells,[]⟩)],bq (fm t1 l N r j) 0 eR,400⟩:S)) (fun j=>r.toNat-j) (fun j=>j<=r.toNat) ?_ 0 (by omega) ?_
      ·intro j hj A back
       have hw3:IntKind.i64.wrap (r-j-1)=r-((j+1:Nat):Int):=by rw[bC (by omega) (by omega)];omega
       have hix:IntKind.i64.wrap (260+IntKind.i64.wrap (16*(r-(j:Int))))=260+16*(r-j):=by rw[bC (n:=16*(r-(j:Int))) (by omega) (by omega),bC (by omega) (by omega)]
       have hro:∀L',od (wH l L') l (260+16*(r-j)) N=od t1 l (260+16*(r-j)) N:=fun _=>by subst ht1;rfl
       have hnext:=DB t1 l N r j
       have hlen:(fm t1 l N r j).length=j:=uo ..
       generalize hL:fm t1 l N r j=L at*;generalize hx:od t1 l (260+16*(r-j)) N=x at*
       have Ah:(wH l L).Ok:=zI rfl (er l _) (dS _) (dU l) (by simp[wH,rA,iO,jM,cV,cO,lF];try omega) (by simp[wH,rA,iO,jM,cV,cO,ko];try omega) (by simp[wH,rA,iO,jM,cV,cO];try omega)
       have ln:=Ah.ln
       have hln:=ln.len
       have hwh:=ln.whole
       have hat:=ln.vz
       have hset:setCells (wH l L).cells 114 [aD Rl.cells (some (L++[x]))]=(wH l (L++[x])).cells:=by rw[ln.wF (some (L++[x]))];simp[wH,bf]
       have hatr:(wH l L).aR=bf L:=rfl
       rw[hatr]at hat;simp only[aJ,List.map_append,List.map_cons,List.map_nil]at hset
       cases L with
       |nil=>
        simp only[List.map_nil,List.nil_append,bf,if_true,aU]at hset hat hnext;try simp only[I,B,D,RY,↓KW,seval,bf,bq]
        refine aq (fun h=>?_) (fun h=>?_)<;>try simp only[I,B,D,RY,↓KW,seval,hat,hwh,h]
        ·have hj1:(0:Int)<r-j:=of_decide_eq_true h
         refine ai (hr _ _ _ _ Ah (by omega) (by omega)) ?_
         try simp only[I,B,D,RY,↓KW,seval,hix,hro,hx,Rl.len]
         try simp only[I,B,D,RY,↓KW,seval,hset]
         refine⟨by omega,?_⟩
         refine back (j+1) _ (by omega) (by omega) (ah (by decide) ?_ ?_ ?_ ?_)<;>simp[LX,I,B,D,hnext,hw3,bf]
        ·have hj1:¬(0:Int)<r-j:=of_decide_eq_false h
         have:j=r.toNat:=by omega
         rw[<-this,hL];refine bI () trivial ?_
         refine ah (by decide) ?_ ?_ ?_ ?_<;>simp[LX,I,B,D,bf]
       |cons y ys=>
        simp only[bf,reduceCtorEq,if_false,aJ]at hset hat hnext;try simp only[I,B,D,RY,↓KW,seval,bf,bq]
        refine aq (fun h=>?_) (fun h=>?_)<;>try simp only[I,B,D,RY,↓KW,seval,hat,hwh,h]
        ·have hj1:(0:Int)<r-j:=of_decide_eq_true h
         refine ai (hr _ _ _ _ Ah (by omega) (by omega)) ?_
         try simp only[I,B,D,RY,↓KW,seval,hix,hro,hx,Rl.len]
         try simp only[I,B,D,RY,↓KW,seval,hset,Rl.len]
         refine⟨by simp at hlen⊢;omega,by omega,?_⟩
         refine back (j+1) _ (by omega) (by omega) (ah (by decide) ?_ ?_ ?_ ?_)<;>simp[LX,I,B,D,hnext,hw3,bf]
        ·have hj1:¬(0:Int)<r-j:=of_decide_eq_false h
         have:j=r.toNat:=by omega
         rw[<-this,hL];refine bI () trivial ?_
         refine ah (by decide) ?_ ?_ ?_ ?_<;>simp[LX,I,B,D,bf]
      ·refine ah (by decide) ?_ ?_ ?_ ?_<;>simp[LX,I,B,D,hDe,fm,bf]
     ·intro _ _
      have hb3:=aS l 177 (n:=3) (by decide) (by decide)
      have hFe:xP l (l9 l N (bV l 177 3) (bV l 177 3).toNat)={bB l with extend:=0,cU:=0,start:=0,revert:=0,least:=0,share:=0}:=by subst hNe;rfl
      have hu:0<=IntKind.u64.wrap (N:Int):=by rw[IntKind.wrap];simp[IntKind.signed];omega
      try simp only[I,B,D,RY,↓KW,seval]
      refine ai (hF _ _ _ (by decide)) ?_
      generalize bV l 177 3=b at*;try simp only[I,B,D,RY,↓KW,seval]
      refine dR (.exit 10) (fun _:Unit=>(⟨[(4,.dat (I N) none),(3,.ptr 5 0),(0,.dat (aD aA l) none),(2,.ptr 4 0)],[(5,⟨(xP l (l9 l N b b.toNat)).cells,[]⟩),(4,⟨cV.cells,[]⟩)],[],400⟩:S)) (fun _=>True) (fun _=>rfl) ?_ ?_
      ·refine aH (fun j:Nat=>(⟨[(11,.dat (I (b-j)) none),(4,.dat (I N) none),(3,.ptr 5 0),(0,.dat (aD aA l) none),(2,.ptr 4 0)],[(5,⟨(xP l (l9 l N b j)).cells,if l9 l N b j=[]then[]else[(115,0)]⟩),(4,⟨cV.cells,[]⟩)],bq (l9 l N b j) 0 eB,400⟩:S)) (fun j=>b.toNat-j) (fun j=>j<=b.toNat) ?_ 0 (by omega) ?_
       ·intro j hj A back
        have hw3:IntKind.i64.wrap (b-j-1)=b-((j+1:Nat):Int):=by rw[bC (by omega) (by omega)];omega
        have hi1:IntKind.i64.wrap (330+IntKind.i64.wrap (2*(b-(j:Int))))=330+2*(b-j):=by rw[bC (n:=2*(b-(j:Int))) (by omega) (by omega),bC (by omega) (by omega)]
        have hi2:IntKind.i64.wrap (331+IntKind.i64.wrap (2*(b-(j:Int))))=331+2*(b-j):=by rw[bC (n:=2*(b-(j:Int))) (by omega) (by omega),bC (by omega) (by omega)]
        have hbx:(Ba l N (b-j)).cells=[AV.int .i64 (if nZ .i64 (bV l (330+2*(b-j)) 256) (IntKind.i64.wrap (IntKind.i64.wrap (1*2^min (IntKind.u64.wrap (N:Int)).toNat IntKind.i64.bits)-1))>1 then nZ .i64 (bV l (330+2*(b-j)) 256) (IntKind.i64.wrap (IntKind.i64.wrap (1*2^min (IntKind.u64.wrap (N:Int)).toNat IntKind.i64.bits)-1))else 1),AV.int .i64 (IntKind.i64.wrap (1+bV l (331+2*(b-j)) 30))]:=rfl
        have hnext:=ER l N b j
        have hlen:(l9 l N b j).length=j:=sF ..
        generalize hL:l9 l N b j=L at*;generalize hx:Ba l N (b-j)=x at*
        have Ah:(xP l L).Ok:=zI rfl (er l _) (dS _) (dU l) (by simp[xP,rA,iO,jM,cV,cO,lF];try omega) (by simp[xP,rA,iO,jM,cV,cO,ko];try omega) (by simp[xP,rA,iO,jM,cV,cO];try omega)
        have ln:=Ah.ln
        have hln:=ln.len
        have hwh:=ln.whole
        have hat:=ln.xD
        have hset:setCells (xP l L).cells 115 [aD Bs.cells (some (L++[x]))]=(xP l (L++[x])).cells:=by rw[ln.wG (some (L++[x]))];simp[xP,bf]
        have hatr:(xP l L).aX=bf L:=rfl
        rw[hatr]at hat;simp only[aJ,List.map_append,List.map_cons,List.map_nil]at hset
        cases L with
        |nil=>
         simp only[List.map_nil,List.nil_append,bf,if_true,aU]at hset hat hnext;try simp only[I,B,D,RY,↓KW,seval,bf,bq]
         refine aq (fun h=>?_) (fun h=>?_)<;>try simp only[I,B,D,RY,↓KW,seval,hat,hwh,h]
         ·have hj1:(0:Int)<b-j:=of_decide_eq_true h
          refine ai (hF _ _ _ (by decide)) ?_
          try simp only[I,B,D,RY,↓KW,seval,hi1]
          refine⟨hu,?_⟩
          refine ai (hF _ _ _ (by decide)) ?_
          try simp only[I,B,D,RY,↓KW,seval,hi2,hi1]
          simp only[gt_iff_lt]at hbx⊢;rw[hbx]at hset;try simp only[I,B,D,RY,↓KW,seval,hset]
          refine⟨by omega,?_⟩
          refine back (j+1) _ (by omega) (by omega) (ah (by decide) ?_ ?_ ?_ ?_)<;>simp[LX,I,B,D,hnext,hw3,bf]
         ·have hj1:¬(0:Int)<b-j:=of_decide_eq_false h
          have:j=b.toNat:=by omega
          rw[<-this,hL];refine bI () trivial ?_
          refine ah (by decide) ?_ ?_ ?_ ?_<;>simp[LX,I,B,D,bf]
        |cons y ys=>
         simp only[bf,reduceCtorEq,if_false,aJ]at hset hat hnext;try simp only[I,B,D,RY,↓KW,seval,bf,bq]
         refine aq (fun h=>?_) (fun h=>?_)<;>try simp only[I,B,D,RY,↓KW,seval,hat,hwh,h]
         ·have hj1:(0:Int)<b-j:=of_decide_eq_true h
          refine ai (hF _ _ _ (by decide)) ?_
          try simp only[I,B,D,RY,↓KW,seval,hi1]
          refine⟨hu,?_⟩
          refine ai (hF _ _ _ (by decide)) ?_
          try simp only[I,B,D,RY,↓KW,seval,hi2,hi1]
          simp only[gt_iff_lt]at hbx⊢;rw[hbx]at hset;try simp only[I,B,D,RY,↓KW,seval,hset,Bs.len]
          refine⟨by simp at hlen⊢;omega,by omega,?_⟩
          refine back (j+1) _ (by omega) (by omega) (ah (by decide) ?_ ?_ ?_ ?_)<;>simp[LX,I,B,D,hnext,hw3,bf]
         ·have hj1:¬(0:Int)<b-j:=of_decide_eq_false h
          have:j=b.toNat:=by omega
          rw[<-this,hL];refine bI () trivial ?_
          refine ah (by decide) ?_ ?_ ?_ ?_<;>simp[LX,I,B,D,bf]
       ·refine ah (by decide) ?_ ?_ ?_ ?_<;>simp[LX,I,B,D,hEe,l9,bf]
      ·intro _ _
       have n0:({bB l with extend:=0,cU:=0,start:=0,revert:=0,least:=0,share:=0}:Tb).Ln:=⟨er l _,dS _,dU l⟩
       have n1:({bB l with cU:=0,start:=0,revert:=0,least:=0,share:=0}:Tb).Ln:=⟨er l _,dS _,dU l⟩
       have n2:({bB l with start:=0,revert:=0,least:=0,share:=0}:Tb).Ln:=⟨er l _,dS _,dU l⟩
       have n3:({bB l with revert:=0,least:=0,share:=0}:Tb).Ln:=⟨er l _,dS _,dU l⟩
       have n4:({bB l with least:=0,share:=0}:Tb).Ln:=⟨er l _,dS _,dU l⟩
       have n5:({bB l with share:=0}:Tb).Ln:=⟨er l _,dS _,dU l⟩
       have s0:setCells ({bB l with extend:=0,cU:=0,start:=0,revert:=0,least:=0,share:=0}:Tb).cells 116 [AV.int .i64 (bV l 178 12)]=({bB l with cU:=0,start:=0,revert:=0,least:=0,share:=0}:Tb).cells:=(n0.fQ (bV l 178 12)).1
       have s1:setCells ({bB l with cU:=0,start:=0,revert:=0,least:=0,share:=0}:Tb).cells 117 [AV.int .i64 (bV l 179 40)]=({bB l with start:=0,revert:=0,least:=0,share:=0}:Tb).cells:=(n1.fQ (bV l 179 40)).2.1
       have s2:setCells ({bB l with start:=0,revert:=0,least:=0,share:=0}:Tb).cells 118 [AV.int .i64 (bV l 180 8)]=({bB l with revert:=0,least:=0,share:=0}:Tb).cells:=(n2.fQ (bV l 180 8)).2.2.1
       have s3:setCells ({bB l with revert:=0,least:=0,share:=0}:Tb).cells 119 [AV.int .i64 (bV l 181 8)]=({bB l with least:=0,share:=0}:Tb).cells:=(n3.fQ (bV l 181 8)).2.2.2.1
       have s4:setCells ({bB l with least:=0,share:=0}:Tb).cells 120 [AV.int .i64 (bV l 182 12)]=({bB l with share:=0}:Tb).cells:=(n4.fQ (bV l 182 12)).2.2.2.2
       have s5:setCells ({bB l with share:=0}:Tb).cells 130 [AV.int .i64 (bV l 183 4)]=(bB l).cells:=(n5.oP (bV l 183 4)).2
       have k0:=n0.len
       have k1:=n1.len
       have k2:=n2.len
       have k3:=n3.len
       have k4:=n4.len
       have k5:=n5.len
       rw[hFe]
       generalize({bB l with extend:=0,cU:=0,start:=0,revert:=0,least:=0,share:=0}:Tb)=T0 at*
       generalize({bB l with cU:=0,start:=0,revert:=0,least:=0,share:=0}:Tb)=T1 at*
       generalize({bB l with start:=0,revert:=0,least:=0,share:=0}:Tb)=T2 at*
       generalize({bB l with revert:=0,least:=0,share:=0}:Tb)=T3 at*
       generalize({bB l with least:=0,share:=0}:Tb)=T4 at*
       generalize({bB l with share:=0}:Tb)=T5 at*
       have c0:117<=T0.cells.length:=by omega
       have c1:118<=T1.cells.length:=by omega
       have c2:119<=T2.cells.length:=by omega
       have c3:120<=T3.cells.length:=by omega
       have c4:121<=T4.cells.length:=by omega
       have c5:131<=T5.cells.length:=by omega
       try simp only[I,B,D,RY,↓KW,seval]
       refine ai (hF _ _ _ (by decide)) ?_
       try simp only[I,B,D,RY,↓KW,seval,s0,s1,s2,s3,s4,s5,c0,c1,c2,c3,c4,c5]
       refine ai (hF _ _ _ (by decide)) ?_
       try simp only[I,B,D,RY,↓KW,seval,s0,s1,s2,s3,s4,s5,c0,c1,c2,c3,c4,c5]
       refine ai (hF _ _ _ (by decide)) ?_
       try simp only[I,B,D,RY,↓KW,seval,s0,s1,s2,s3,s4,s5,c0,c1,c2,c3,c4,c5]
       refine ai (hF _ _ _ (by decide)) ?_
       try simp only[I,B,D,RY,↓KW,seval,s0,s1,s2,s3,s4,s5,c0,c1,c2,c3,c4,c5]
       refine ai (hF _ _ _ (by decide)) ?_
       try simp only[I,B,D,RY,↓KW,seval,s0,s1,s2,s3,s4,s5,c0,c1,c2,c3,c4,c5]
       refine ai (hF _ _ _ (by decide)) ?_
       try simp only[I,B,D,RY,↓KW,seval,s0,s1,s2,s3,s4,s5,c0,c1,c2,c3,c4,c5]
       have hT:bu l=zG l (if fm t1 l N r r.toNat=[]then 0 else kD (bB l) N):=hTab
       have hW0:bB l=zG l (if fm t1 l N r r.toNat=[]then 0 else kD (bB l) 0):=by
        have:(if fm t1 l N r r.toNat=[]then(0:Int)else kD (bB l) 0)=0:=by split<;>rfl
        rw[this];rfl
       replace hW0:=congrArg Tb.cells hW0
       generalize fm t1 l N r r.toNat=R at*
       refine dR (.exit 12) (fun _:Unit=>(⟨[(3,.ptr 5 0),(2,.ptr 4 0)],[(5,⟨(bu l).cells,[]⟩),(4,⟨cV.cells,[]⟩)],[],400⟩:S)) (fun _=>True) (fun _=>rfl) ?_ ?_
       ·refine aH (fun k:Nat=>(⟨[(12,.dat (I k) none),(4,.dat (I N) none),(3,.ptr 5 0),(2,.ptr 4 0)],[(5,⟨(zG l (if R=[]then 0 else kD (bB l) k)).cells,[]⟩),(4,⟨cV.cells,[]⟩)],[],400⟩:S)) (fun k=>N-k) (fun k=>k<=N/\(R=[]->k=0)) ?_ 0 (by simp) ?_
        ·intro k ⟨hk,hR0⟩ A back
         have hw3:=aF (k:=k) (by omega)
         have hwt:∀w,lX (zG l w) k=lX (bB l) k:=fun _=>rfl
         have hnx:kD (bB l) (k+1)=if lX (bB l) k>kD (bB l) k then lX (bB l) k else kD (bB l) k:=rfl
         generalize hwv:(if R=[]then(0:Int)else kD (bB l) k)=wv at*
         have okW:(zG l wv).Ok:=zI rfl (er l _) (dS _) (dU l) (lF l) (ko l) (by have:=aS l 177 (n:=3) (by decide) (by decide);simp only[zG,bB,cO,sF];omega)
         have ln:=okW.ln
         have hln:=ln.len
         have hwh:=ln.whole
         have hat:=ln.vz
         have hat2:=ln.Vn
         have hrr:(zG l wv).aR=bf R:=hRl
         have hww:(zG l wv).dw=wv:=rfl
         rw[hrr]at hat;rw[hww]at hat2
         have hset:setCells (zG l wv).cells 129 [AV.int .i64 (if lX (bB l) k>wv then lX (bB l) k else wv)]=(zG l (if lX (bB l) k>wv then lX (bB l) k else wv)).cells:=(ln.oP _).1
         have hmk:=cO R
         try simp only[I,B,D,RY,↓KW,seval]
         repeat' (((first|refine bJ ?_ ?_|refine aq ?_ ?_|refine cX ?_ ?_)<;>intro h)<;>try simp only[I,B,D,RY,↓KW,seval,hat,hmk,h])
         ·have hRl0:=of_decide_eq_true h
          have hkN:(k:Int)<N:=by rename_i h1;exact of_decide_eq_true h1
          have hne:R≠[]:=by intro e;rw[e]at hRl0;simp at hRl0
          rw[if_neg hne]at hwv;subst hwv;rw[<-hnx]at hset;try simp only[I,B,D,RY,↓KW,seval,hat2,hwh]
          refine ai (hw _ _ okW) ?_;try simp only[I,B,D,RY,↓KW,seval,hwt,<-hnx,hset,gt_iff_lt]
          refine⟨by omega,?_⟩
          refine back (k+1) _ ⟨by omega,fun e=>absurd e hne⟩ (by omega) ?_
          refine ah (by decide) ?_ ?_ ?_ ?_<;>simp[LX,I,B,D,hne,hw3]
         ·have hRl0:=of_decide_eq_false h
          have hR0':R=[]:=List.eq_nil_of_length_eq_zero (by omega)
          rw[if_pos hR0']at hwv hT;subst hwv;refine bI () trivial ?_
          refine ah (by decide) ?_ ?_ ?_ ?_<;>simp[LX,I,B,D,hT]
         ·have hkN:k=N:=by have:=of_decide_eq_false h;omega
          rw[<-hkN,hwv]at hT;refine bI () trivial ?_
          refine ah (by decide) ?_ ?_ ?_ ?_<;>simp[LX,I,B,D,hT]
        ·refine ah (by decide) ?_ ?_ ?_ ?_<;>simp[LX,I,B,D,hW0]
       ·intro _ _
        have okZ:(bu l).Ok:=uq l
        have hlz:=okZ.ln.len
        have hwz:=okZ.ln.whole
        have hl0:=ok0.ln.len
        have hsz:setCells cV.cells 0 (bu l).cells=(bu l).cells:=dP (by omega)
        try simp only[I,B,D,RY,↓KW,seval,hwz,hlz,hl0,hsz]
end
def bv(s:Int):BitVec 64:=BitVec.ofInt 64 s
def tb(s:Int) (i:Nat):Bool:=(bv s).getLsbD i
theorem JE(n:Int):IntKind.i64.wrap n%18446744073709551616=n%18446744073709551616:=by
 simp only[IntKind.wrap,IntKind.bits,IntKind.signed];simp
 split<;>omega
theorem Ci(n:Int):bv (IntKind.i64.wrap n)=bv n:=by
 unfold bv
 apply BitVec.eq_of_toNat_eq
 have:=JE n
 simp only[BitVec.toNat_ofInt]
 have e:((2^64:Nat):Int)=18446744073709551616:=by decide
 rw[e,this]
theorem Cj(b:BitVec 64):bv (b.toNat:Int)=b:=by
 unfold bv;rw[BitVec.ofInt_natCast];simp
theorem bv_and(x y:Int):bv (nZ .i64 x y)=bv x&&&bv y:=by
 simp only[nZ,Ci];exact Cj _
theorem Vo(x y:Int):bv (KV .i64 x y)=bv x|||bv y:=by
 simp only[KV,Ci];exact Cj _
theorem He(x y:Int):bv (nM .i64 x y)=bv x&&& ~~~(bv y):=by
 simp only[nM,Ci];exact Cj _
theorem ES(x y:Int) (i:Nat):tb (nZ .i64 x y) i=(tb x i&&tb y i):=by simp[tb,bv_and]
theorem Vp(x y:Int) (i:Nat):tb (KV .i64 x y) i=(tb x i||tb y i):=by simp[tb,Vo]
theorem Bb(x y:Int) (i:Nat) (h:i<64):tb (nM .i64 x y) i=(tb x i&& !tb y i):=by simp[tb,He,h]
theorem x3(i:Nat):tb 0 i=false:=by simp[tb,bv]
theorem JF{p:Nat} (hp:p<8) (i:Nat):tb (2^p) i=decide (i=p):=by
 have e:bv (2^p)=BitVec.twoPow 64 p:=by
  have:p=0\/p=1\/p=2\/p=3\/p=4\/p=5\/p=6\/p=7:=by omega
  rcases this with rfl|rfl|rfl|rfl|rfl|rfl|rfl|rfl<;>rfl
 simp only[tb,e,BitVec.getLsbD_twoPow]
 by_cases h:i=p<;>simp[h]
 ·omega
 ·omega
theorem FT(l:List Int):∀k,k<=8->∀i,tb (uc l k) i=(decide (i<k)&&decide ((i:Int)∈l))
 |0,_,i=>by simp[uc,x3]
 |k+1,h,i=>by
  have ih:=FT l k (by omega) i
  simp only[uc];split
  ·rename_i hk
   rw[Vp,ih,JF (by omega)]
   by_cases e:i=k
   ·subst e;simp[hk]
   ·have:(i<k+1)↔i<k:=by omega
    simp[e,this]
  ·rename_i hk
   rw[ih]
   by_cases e:i=k
   ·subst e;simp[hk]
   ·have:(i<k+1)↔i<k:=by omega
    simp[this]
theorem Od(l:List Int) (i:Nat):tb (N6 l) i=(decide (i<8)&&decide ((i:Int)∈l)):=FT l 8 (by omega) i
theorem ET(s:Int) {p:Nat} (hp:p<64):tb s p=decide (s.fdiv (2^p)%2=1):=by
 have e:(bv s).toNat=(s%18446744073709551616).toNat:=by
  simp only[bv,BitVec.toNat_ofInt];rfl
 have h1:tb s p=(bv s).toNat.testBit p:=rfl
 rw[h1,e,Nat.testBit_eq_decide_div_mod_eq]
 congr 1
 have hf:s.fdiv (2^p)=s/2^p:=Int.fdiv_eq_ediv_of_nonneg _ (Int.le_of_lt (Int.pow_pos (by decide)))
 rw[hf,eq_iff_iff]
 have h0:0<=s%18446744073709551616:=Int.emod_nonneg _ (by decide)
 have hc:(((s%18446744073709551616).toNat/2^p%2:Nat):Int)=(s%18446744073709551616)/2^p%2:=by
  push_cast [Int.toNat_of_nonneg h0];rfl
 have key:(s%18446744073709551616)/2^p%2=s/2^p%2:=by
  have hpw:(18446744073709551616:Int)=2^p*(2*2^(63-p)):=by
   rw[show(2:Int)^p*(2*2^(63-p))=2^(p+(1+(63-p)))by rw[Int.pow_add,Int.pow_add];rfl,show p+(1+(63-p))=64 by omega];rfl
  have h2:s=s%18446744073709551616+2^p*(2*2^(63-p)*(s/18446744073709551616)):=by
   have:=Int.emod_add_mul_ediv s 18446744073709551616
   rw[<-Int.mul_assoc,<-Int.mul_assoc,Int.mul_assoc (2^p),<-hpw];omega
  conv=>rhs;rw[h2]
  rw[Int.add_mul_ediv_left _ _ (Int.ne_of_gt (Int.pow_pos (by decide))),Int.mul_assoc,Int.add_mul_emod_self_left]
 rw[<-key,<-hc];omega
theorem JG(x:Int):nZ .i64 x 1=if tb x 0 then 1 else 0:=by
 have e:nZ .i64 x 1=IntKind.i64.wrap ((bv x&&&1#64).toNat:Int):=rfl
 have e2:bv x&&&1#64=if tb x 0 then 1#64 else 0#64:=by
  apply BitVec.eq_of_getLsbD_eq
  intro i hi;simp only[BitVec.getLsbD_and,BitVec.getLsbD_one]
  by_cases h:i=0
  ·subst h;cases hx:tb x 0<;>simp[tb]at hx⊢<;>simp[hx]
  ·split<;>simp[h,BitVec.getLsbD_one]
 rw[e,e2];split<;>decide
theorem Ns{s:Int} {p:Nat} (hp:p<8):qh s p=tb s p:=by
 have h1:tb (s.fdiv (2^p)) 0=tb s p:=by
  rw[ET _ (by omega),ET _ (by omega)]
  simp
 simp only[qh,Int.toNat_natCast,JG,h1]
 have:(p:Int)<8:=by omega
 cases tb s p<;>simp[this]
theorem Rf(t:Tb) (i:Nat):t.phases.getD i default=eH t i:=by simp[eH]
structure Sh where
 rB:List Int
 time:List Int
 ke:List Int
 zJ:List Int
 entry:Bool
 deriving Inhabited,DecidableEq
def Sh.cells(s:Sh):List AV:=s.rB.map I++(s.time.map I++(s.ke.map I++(s.zJ.map I++[B s.entry])))
structure Sh.Ok (s:Sh):Prop where
 rB:s.rB.length=8
 time:s.time.length=8
 ke:s.ke.length=8
 zJ:s.zJ.length=8
def Sh.c(s:Sh) (p:Nat):Int:=s.rB.getD p 0
def Sh.t(s:Sh) (p:Nat):Int:=s.time.getD p 0
def Sh.f(s:Sh) (p:Nat):Int:=s.ke.getD p 0
theorem Sh.len{s:Sh} (h:s.Ok):s.cells.length=33:=by simp[Sh.cells,h.rB,h.time,h.ke,h.zJ]
theorem Sh.whole{s:Sh} (h:s.Ok):bF s.cells 0 (some 33)=some (.agg s.cells):=by
 have:=Sh.len h
 simp[bF,this];rw[<-this,List.take_length]
structure Yg (t:Tb) (a b:Sh):Prop where
 t:t.Ln
 a:a.Ok
 b:b.Ok
theorem Tb.Ln.Rh{t:Tb} (h:t.Ln) {k:Nat} (hk:k<8):t.phases[k]? =some (eH t k):=by
 have:k<t.phases.length:=by rw[h.phases];exact hk
 simp[eH,this]
end Go.Eng
