/- The engine and the library,part 14 of 20: what the proofs of this seat need of them. -/
import Derived.Test.YtkckiembbiiliaaGreatPk13
set_option linter.unnecessarySimpa false
set_option linter.unusedSimpArgs false
set_option linter.unusedVariables false
set_option linter.defProp false
set_option maxRecDepth 10000
set_option maxHeartbeats 4000000
namespace Go.Eng
open Go
def bX(groups g:Nat):Nat:=8-(groups-1-g)
def dP(p m:Nat):List Int:=(List.range m).map fun(j:Nat)=>((p+j:Nat):Int)
def cnt(l:Option (List Int)) (g k:Nat) (r0:Nat):Nat:=
 let n:=(bO l (1+2*g+k) 3).toNat
 if k=1/\n=0/\r0=0 then 1 else n
def bu(n p lim:Nat):Nat:=min n (lim-p)
def bA(l:Option (List Int)) (groups:Nat):Nat->List Gr×Nat
 |0=>([],0)
 |g+1=>
  let q:=bA l groups g
  let m0:=bu (cnt l g 0 0) q.2 (bX groups g)
  let m1:=bu (cnt l g 1 m0) (q.2+m0) (bX groups g)
  (q.1++[⟨bf (dP q.2 m0),bf (dP (q.2+m0) m1)⟩],q.2+m0+m1)
def dH(l:Option (List Int)):Nat:=(1+bO l 0 3).toNat
def rows.Spec(C:bz) (f:Nat):Prop:=∀(t:Tb) (l:Option (List Int)),t.Ok->t.groups=none->C.p f [t.cells] [none,some (aF aD l)] (I ((bA l (dH l) (dH l)).2:Nat)) none [({t with groups:=some (bA l (dH l) (dH l)).1}:Tb).cells]
theorem Tb.len'{t:Tb} (h1:t.phases.length=8) (h2:t.conflict.length=8) (h3:t.bq.length=8):t.cells.length=131:=by
 simp[Tb.cells,aX Ph.len,h1,h2,h3]
theorem Tb.uu{t:Tb} (h:t.phases.length=8):t.cells[104]? =some (aF Gr.cells t.groups):=by
 simp[Tb.cells,List.getElem?_append,aX Ph.len,h]
theorem Tb.zG{t:Tb} (h:t.phases.length=8) (g:Option (List Gr)):t.cells.take 104++(aF Gr.cells g::t.cells.drop 105)=({t with groups:=g}:Tb).cells:=by
 have e:(t.phases.flatMap Ph.cells).length=104:=by rw[aX Ph.len,h]
 simp only[Tb.cells]
 rw[List.take_append_of_le_length (by omega),List.take_of_length_le (by omega),List.drop_append,List.drop_of_length_le (by omega),e]
 rfl
theorem vz{C:bz} {base:Nat}:∀{l:List CO} {i:Nat} {s:S} {K:S->Prop},jg C base i l K s->∃s',K s'/\∀K':S->Prop,K' s'->jg C base i l K' s
 |[],i,s,K,h=>⟨s,h,fun _ h=>h⟩
 |o::l,i,s,K,h=>by
  rw[kP]at h;obtain⟨v,d,hd,hk',_⟩:=eN h;obtain⟨s',h1,h2⟩:=vz hk'
  refine⟨s',h1,fun K' hK=>?_⟩
  rw[kP];exact hd.2 s .refl _ (h2 K' hK)
theorem Rc{C:bz} {id:Nat} {o:bT} {K:SV->S->Prop} {s:S} (h:bJ C id o K s):∃v s',K v s'/\∀K':SV->S->Prop,K' v s'->bJ C id o K' s:=by
 obtain⟨v,d,hK,hok,hU,hfp,hs⟩:=qO h
 exact⟨v,_,hK,fun K' hk=>hs s .refl _ hk⟩
theorem Np{C:bz} {id:Nat} {o:D7} {K:SV->S->Prop} {X:AV->S->Prop} {s:S} (h:bI C id o K X s):
  (∃v s',K v s'/\∀(K':SV->S->Prop) (X':AV->S->Prop),K' v s'->bI C id o K' X' s)\/∃p s',X p s'/\∀(K':SV->S->Prop) (X':AV->S->Prop),X' p s'->bI C id o K' X' s:=by
 have so:∀{c:bT},bJ C id c K s->(∀(K':SV->S->Prop) (X':AV->S->Prop),bJ C id c K' s->bI C id o K' X' s)->(∃v s',K v s'/\∀(K':SV->S->Prop) (X':AV->S->Prop),K' v s'->bI C id o K' X' s)\/∃p s',X p s'/\∀(K':SV->S->Prop) (X':AV->S->Prop),X' p s'->bI C id o K' X' s:=by
  intro c h g;obtain⟨v,s',h1,h2⟩:=Rc h
  exact .inl ⟨v,s',h1,fun K' X' hk=>g K' X' (h2 K' hk)⟩
 cases o with
 |o c=>exact so h fun _ _ h=>h
 |call f args=>
  simp only[bI]at h
  rcases h with h|h
  ·exact so h fun _ _ h=>.inl h
  ·obtain⟨as,has,h⟩:=af h
   rcases h with⟨cs,h1,h2⟩|⟨p,h1,h2⟩
   ·exact .inl ⟨_,_,h2,fun K' X' hk=>by simp only[bI,has];exact .inr (.inl ⟨cs,h1,hk⟩)⟩
   ·exact .inr ⟨_,_,h2,fun K' X' hk=>by simp only[bI,has];exact .inr (.inr ⟨p,h1,hk⟩)⟩
 |aB f args=>
  simp only[bI]at h
  rcases h with h|h
  ·exact so h fun _ _ h=>.inl h
  ·obtain⟨p,hp,hn,h⟩:=af h
   obtain⟨css,hcs,h⟩:=af h
   rcases h with⟨v,css',h1,h2⟩|⟨tg,r,css',tg',h1,h2⟩
   ·exact .inr ⟨_,_,h2,fun K' X' hk=>by simp only[bI,hp];exact .inr ⟨hn,by rw[hcs];exact .inl ⟨v,css',h1,hk⟩⟩⟩
   ·obtain⟨qo,hq,h2⟩:=af h2
    exact .inl ⟨_,_,h2,fun K' X' hk=>by simp only[bI,hp];exact .inr ⟨hn,by rw[hcs];exact .inr ⟨tg,r,css',tg',h1,by rw[hq];exact hk⟩⟩⟩
 |eS b g args=>
  simp only[bI]at h;split at h
  ·rename_i f as bs hg
   obtain⟨p,hp,hn,h⟩:=af h;obtain⟨css,hcs,h⟩:=af h
   rcases h with⟨r,fr,css',h1,h2⟩|⟨v,css',h1,h2⟩|⟨tg,r,css',tg',h1,h2⟩
   ·exact .inl ⟨_,_,h2,fun K' X' hk=>by simp only[bI,hg,hp];exact⟨hn,by rw[hcs];exact .inl ⟨r,fr,css',h1,hk⟩⟩⟩
   ·exact .inr ⟨_,_,h2,fun K' X' hk=>by simp only[bI,hg,hp];exact⟨hn,by rw[hcs];exact .inr (.inl ⟨v,css',h1,hk⟩)⟩⟩
   ·obtain⟨qo,hq,h2⟩:=af h2
    exact .inl ⟨_,_,h2,fun K' X' hk=>by simp only[bI,hg,hp];exact⟨hn,by rw[hcs];exact .inr (.inr ⟨tg,r,css',tg',h1,by rw[hq];exact hk⟩)⟩⟩
  ·rename_i hg
   refine so h fun K' X' h=>?_
   simp only[bI];revert h
   cases hv:bQ s g with
   |none=>exact fun h=>h
   |some v=>cases v<;>first|exact fun h=>h|exact(hg _ _ _ hv).elim
 |Sg f caps=>obtain⟨p,hp,h⟩:=af h;exact .inl ⟨_,_,h,fun K' X' hk=>by simp only[bI,hp];exact hk⟩
 |Hx x=>obtain⟨a,ha,h1,h2⟩:=af h;exact .inr ⟨_,_,h2,fun K' X' hk=>by simp only[bI,ha];exact⟨h1,hk⟩⟩
 |Hy t x=>obtain⟨a,ha,h1,h2⟩:=af h;exact .inl ⟨_,_,h2,fun K' X' hk=>by simp only[bI,ha];exact⟨h1,hk⟩⟩
 |NL t z x=>
  obtain⟨a,ha,h⟩:=af h;obtain⟨v,hv,h⟩:=af h
  exact .inl ⟨_,_,h,fun K' X' hk=>by simp only[bI,ha,aE,hv];exact hk⟩
 |RD neg x=>
  obtain⟨a,ha,h⟩:=af h;obtain⟨v,hv,h⟩:=af h
  exact .inl ⟨_,_,h,fun K' X' hk=>by simp only[bI,ha,aE,hv];exact hk⟩
 |K2 neg x=>
  obtain⟨a,ha,h⟩:=af h;obtain⟨v,hv,h⟩:=af h
  exact .inl ⟨_,_,h,fun K' X' hk=>by simp only[bI,ha,aE,hv];exact hk⟩
 |RE e bytes l c=>
  obtain⟨a,ha,h⟩:=af h;obtain⟨l',hl,h⟩:=af h;obtain⟨b,hb,h⟩:=af h;obtain⟨c',hc,h1,h⟩:=af h
  exact .inl ⟨_,_,h,fun K' X' hk=>by simp only[bI,ha,aE,hl,hb,hc];exact⟨h1,hk⟩⟩
 |RF e x y=>
  obtain⟨p,hp,h⟩:=af h
  cases p<;>try(exact h.elim)
  obtain⟨b,hb,h⟩:=af h;obtain⟨ys,hy,h1,h2,h⟩:=af h
  exact .inl ⟨_,_,h,fun K' X' hk=>by simp only[bI,hp,hb,aE,hy];exact⟨h1,h2,hk⟩⟩
 |Ge x=>obtain⟨p,hp,h⟩:=af h;cases p<;>first|exact h.elim|exact .inl ⟨_,_,h,fun K' X' hk=>by simp only[bI,hp];exact hk⟩
 |tc x=>
  obtain⟨p,hp,h⟩:=af h
  cases p<;>try(exact h.elim)
  rename_i k ps
  match k,hp,h with
  |0,hp,h=>exact .inl ⟨_,_,h,fun K' X' hk=>by simp only[bI,hp];exact hk⟩
  |k+1,_,h=>exact h.elim
 |RG x v=>
  obtain⟨p,hp,h⟩:=af h
  cases p<;>try(exact h.elim)
  rename_i b o
  match o,hp,h with
  |0,hp,h=>
   obtain⟨q,hq,h⟩:=af h
   cases q<;>try(exact h.elim)
   rename_i k ps
   match k,hq,h with
   |0,hq,h=>
    obtain⟨y,hy,h1,h⟩:=af h
    exact .inl ⟨_,_,h,fun K' X' hk=>by simp only[bI,hp,hq,aE,hy];exact⟨h1,hk⟩⟩
   |k+1,_,h=>exact h.elim
  |o+1,_,h=>exact h.elim
 |Bq xs=>obtain⟨p,hp,h⟩:=af h;exact .inl ⟨_,_,h,fun K' X' hk=>by simp only[bI,hp];exact hk⟩
 |K3 x i=>
  obtain⟨p,hp,h⟩:=af h
  cases p<;>try(exact h.elim)
  rename_i k ps
  match k,hp,h with
  |1,hp,h=>
   obtain⟨a,ha,h⟩:=af h;obtain⟨j,hj,h1,h⟩:=af h
   exact .inl ⟨_,_,h,fun K' X' hk=>by simp only[bI,hp,ha,aE,hj];exact⟨h1,hk⟩⟩
  |0,_,h=>exact h.elim
  |k+2,_,h=>exact h.elim
 |K4 x=>
  obtain⟨p,hp,h⟩:=af h
  cases p<;>try(exact h.elim)
  rename_i k ps
  match k,hp,h with
  |1,hp,h=>exact .inl ⟨_,_,h,fun K' X' hk=>by simp only[bI,hp];exact hk⟩
  |0,_,h=>exact h.elim
  |k+2,_,h=>exact h.elim
 |Az g args=>
  obtain⟨a,ha,h⟩:=af h
  cases a<;>try(exact h.elim)
  rename_i fn x y
  cases fn<;>try(exact h.elim)
  match x,y,ha,h with
  |[],[],ha,h=>
   obtain⟨p,hp,h1,h⟩:=af h;obtain⟨css,hcs,j,o,b,h2,h3,h⟩:=af h
   exact .inl ⟨_,_,h,fun K' X' hk=>by simp only[bI,ha,aE,hp];exact⟨h1,by rw[hcs];exact⟨j,o,b,h2,h3,hk⟩⟩⟩
  |_::_,_,_,h=>exact h.elim
  |[],_::_,_,h=>exact h.elim
theorem vA{C:bz} {base:Nat}:∀{l:List XO} {i:Nat} {s:S} {K:S->Prop} {X:AV->S->Prop},eJ C base i l K X s->
  (∃s',K s'/\∀(K':S->Prop) (X':AV->S->Prop),K' s'->eJ C base i l K' X' s)\/∃p s',X p s'/\∀(K':S->Prop) (X':AV->S->Prop),X' p s'->eJ C base i l K' X' s
 |[],i,s,K,X,h=>.inl ⟨s,h,fun _ _ h=>h⟩
 |o::l,i,s,K,X,h=>by
  have go:∀{y:(S->Prop)->(AV->S->Prop)->Prop},((∃s',K s'/\∀(K':S->Prop) (X':AV->S->Prop),K' s'->y K' X')\/∃p s',X p s'/\∀(K':S->Prop) (X':AV->S->Prop),X' p s'->y K' X')->(∀K' X',y K' X'->eJ C base i (o::l) K' X' s)->
    (∃s',K s'/\∀(K':S->Prop) (X':AV->S->Prop),K' s'->eJ C base i (o::l) K' X' s)\/∃p s',X p s'/\∀(K':S->Prop) (X':AV->S->Prop),X' p s'->eJ C base i (o::l) K' X' s:=by
   intro y h g
   rcases h with⟨s',h1,h2⟩|⟨p,s',h1,h2⟩
   ·exact .inl ⟨s',h1,fun K' X' hk=>g _ _ (h2 K' X' hk)⟩
   ·exact .inr ⟨p,s',h1,fun K' X' hk=>g _ _ (h2 K' X' hk)⟩
  have run:bI C (base+i) o.op (fun v s'=>eJ C base (i+1) l K X (s'.put o.dst v)) X s->(∃s',K s'/\∀(K':S->Prop) (X':AV->S->Prop),K' s'->bI C (base+i) o.op (fun v s'=>eJ C base (i+1) l K' X' (s'.put o.dst v)) X' s)\/
    ∃p s',X p s'/\∀(K':S->Prop) (X':AV->S->Prop),X' p s'->bI C (base+i) o.op (fun v s'=>eJ C base (i+1) l K' X' (s'.put o.dst v)) X' s:=by
   intro h
   rcases Np h with⟨v,s',h1,h2⟩|⟨p,s',h1,h2⟩
   ·rcases vA h1 with⟨s2,k1,k2⟩|⟨p,s2,k1,k2⟩
    ·exact .inl ⟨s2,k1,fun K' X' hk=>h2 _ _ (k2 K' X' hk)⟩
    ·exact .inr ⟨p,s2,k1,fun K' X' hk=>h2 _ _ (k2 K' X' hk)⟩
   ·exact .inr ⟨p,s',h1,fun K' X' hk=>h2 _ _ hk⟩
  unfold eJ ee at h
  cases hg:o.g with
  |none=>
   simp only[hg]at h
   exact go (run h) fun K' X' h=>by unfold eJ ee;simp only[hg];exact h
  |some q=>
   obtain⟨t,want⟩:=q;simp only[hg]at h;split at h
   ·rename_i b q2 hl
    by_cases hb:b=want
    ·exact go (run (h.1 hb)) fun K' X' h=>by
      unfold eJ ee;simp only[hg,hl]
      exact⟨fun _=>h,fun e=>by subst hb;cases b<;>cases e⟩
    ·exact go (vA (h.2 (by cases b<;>cases want<;>simp_all))) fun K' X' h=>by
      unfold eJ ee;simp only[hg,hl]
      exact⟨fun e=>absurd e hb,fun _=>h⟩
   ·rename_i hl
    exact go (vA h) fun K' X' h=>by unfold eJ ee;simp only[hg,hl];exact h
   ·exact h.elim
theorem Oa {C:bz}:∀ {c:bp} {Q:Exit→S→Prop} {s:S},aw C c Q s→∃ e s',Q e s'∧∀ Q':Exit→S→Prop,Q' e s'→aw C c Q' s:=by
  intro c
  induction c with
  | skip=>intro Q s h; exact ⟨_,_,h,fun _ h=>h⟩
  | Cv ops =>
    intro Q s h
    obtain ⟨s',h1,h2⟩:=vz h
    exact ⟨_,_,h1,fun Q' hq=>h2 _ hq⟩
  | seq a b iha ihb =>
    intro Q s h
    obtain ⟨e,s',h1,h2⟩:=iha h
    cases e with
    | normal =>
      obtain ⟨e,s'',h3,h4⟩:=ihb h1
      exact ⟨e,s'',h3,fun Q' hq=>h2 _ (h4 _ hq)⟩
    | exit i=>exact ⟨_,_,h1,fun Q' hq=>h2 _ hq⟩
    | ret=>exact ⟨_,_,h1,fun Q' hq=>h2 _ hq⟩
    | _=>exact ⟨_,_,h1,fun Q' hq=>h2 _ hq⟩
  | join a b iha ihb =>
    intro Q s h
    obtain ⟨e,s',h1,h2⟩:=iha h
    cases e with
    | normal =>
      obtain ⟨s1,⟨hl,hF⟩|hF⟩:=h1
      · obtain ⟨e,s'',h3,h4⟩:=ihb hF
        exact ⟨e,s'',h3,fun Q' hq=>h2 _ ⟨s1,.inl ⟨hl,h4 _ hq⟩⟩⟩
      · obtain ⟨e,s'',h3,h4⟩:=ihb hF
        exact ⟨e,s'',h3,fun Q' hq=>h2 _ ⟨s1,.inr (h4 _ hq)⟩⟩
    | exit i=>exact ⟨_,_,h1,fun Q' hq=>h2 _ hq⟩
    | ret=>exact ⟨_,_,h1,fun Q' hq=>h2 _ hq⟩
    | _=>exact ⟨_,_,h1,fun Q' hq=>h2 _ hq⟩
  | cond c a b iha ihb =>
    intro Q s h
    simp only [aw] at h ⊢
    obtain ⟨v,hv,hw⟩:=af h
    cases v<;>try (exact hw.elim)
    rename_i t
    cases t with
    | true =>
      obtain ⟨e,s',h1,h2⟩:=iha (hw.1 rfl)
      exact ⟨e,s',h1,fun Q' hq=>by rw [hv]; exact ⟨fun _=>h2 _ hq,fun h=>by cases h⟩⟩
    | false =>
      obtain ⟨e,s',h1,h2⟩:=ihb (hw.2 rfl)
      exact ⟨e,s',h1,fun Q' hq=>by rw [hv]; exact ⟨fun h=>(by cases h),fun _=>h2 _ hq⟩⟩
  | label l=>intro Q s h; exact ⟨_,_,h,fun _ h=>h⟩
  | goto l=>intro Q s h; exact ⟨_,_,h,fun _ h=>h⟩
  | scope l c r ihc ihr =>
    intro Q s h
    obtain ⟨e,s',h1,h2⟩:=ihc h
    cases e with
    | goto l' =>
      obtain ⟨hl,h1⟩:=h1
      obtain ⟨e,s'',h3,h4⟩:=ihr h1
      cases e with
      | goto l2=>exact h3.elim
      | _=>exact ⟨_,s'',h3,fun Q' hq=>h2 (mM l (aw C r (xI Q')) Q') ⟨hl,h4 (xI Q') hq⟩⟩
    | _=>exact ⟨_,_,h1,fun Q' hq=>h2 (mM l (aw C r (xI Q')) Q') hq⟩
  | block id c ih =>
    intro Q s h
    obtain ⟨e,s',h1,h2⟩:=ih h
    cases e with
    | exit i =>
      simp only [gO] at h1
      by_cases hi:i=id
      · rw [if_pos hi] at h1
        exact ⟨_,_,h1,fun Q' hq=>h2 _ (by simp only [gO,if_pos hi]; exact hq)⟩
      · rw [if_neg hi] at h1
        exact ⟨_,_,h1,fun Q' hq=>h2 _ (by simp only [gO,if_neg hi]; exact hq)⟩
    | _=>exact ⟨_,_,h1,fun Q' hq=>h2 _ hq⟩
  | loop c ih =>
    have key:∀ (n:Nat) {Q:Exit→S→Prop} {s:S},nG (aw C c) Q n s→∃ e s',Q e s'∧∀ Q':Exit→S→Prop,Q' e s'→nG (aw C c) Q' n s:=by
      intro n
      induction n with
      | zero=>intro Q s h; exact h.elim
      | succ n ihn =>
        intro Q s h
        obtain ⟨e,s',h1,h2⟩:=ih h
        cases e with
        | normal =>
          obtain ⟨s1,⟨hl,hF⟩|hF⟩:=h1
          · obtain ⟨e,s'',h3,h4⟩:=ihn hF
            exact ⟨e,s'',h3,fun Q' hq=>h2 _ ⟨s1,.inl ⟨hl,h4 _ hq⟩⟩⟩
          · obtain ⟨e,s'',h3,h4⟩:=ihn hF
            exact ⟨e,s'',h3,fun Q' hq=>h2 _ ⟨s1,.inr (h4 _ hq)⟩⟩
        | exit i=>exact ⟨_,_,h1,fun Q' hq=>h2 _ hq⟩
        | ret=>exact ⟨_,_,h1,fun Q' hq=>h2 _ hq⟩
        | _=>exact ⟨_,_,h1,fun Q' hq=>h2 _ hq⟩
    intro Q s h
    obtain ⟨s1,⟨hl,n,hF⟩|⟨n,hF⟩⟩:=h
    · obtain ⟨e,s'',h3,h4⟩:=key n hF
      exact ⟨e,s'',h3,fun Q' hq=>⟨s1,.inl ⟨hl,n,h4 _ hq⟩⟩⟩
    · obtain ⟨e,s'',h3,h4⟩:=key n hF
      exact ⟨e,s'',h3,fun Q' hq=>⟨s1,.inr ⟨n,h4 _ hq⟩⟩⟩
  | exit id=>intro Q s h; exact ⟨_,_,h,fun _ h=>h⟩
  | ret=>intro Q s h; exact ⟨_,_,h,fun _ h=>h⟩
  | aO ops =>
    intro Q s h
    rcases vA h with ⟨s',h1,h2⟩|⟨p,s',h1,h2⟩
    · exact ⟨_,_,h1,fun Q' hq=>h2 _ _ hq⟩
    · exact ⟨_,_,h1,fun Q' hq=>h2 _ _ hq⟩
  | qm ops dQ =>
    intro Q s h
    obtain ⟨ids,hids,h⟩:=h
    obtain ⟨css,hcss,ro,hd,h⟩:=af h
    obtain ⟨s',h1,h2⟩:=vz h
    exact ⟨_,_,h1,fun Q' hq=>⟨ids,hids,by rw [hcss]; exact ⟨ro,hd,h2 _ hq⟩⟩⟩
  | xH ops dQ k dep =>
    intro Q s h
    rcases h with ⟨ids,hids,h⟩|⟨hd,h⟩
    · obtain ⟨css,hcss,ro,hd,h⟩:=af h
      obtain ⟨s',h1,h2⟩:=vz h
      exact ⟨_,_,h1,fun Q' hq=>.inl ⟨ids,hids,by rw [hcss]; exact ⟨ro,hd,h2 _ hq⟩⟩⟩
    · obtain ⟨s',⟨d,p,k1,k2,k3⟩,h2⟩:=vz h
      exact ⟨_,_,k3,fun Q' hq=>.inr ⟨hd,h2 _ ⟨d,p,k1,k2,hq⟩⟩⟩
  | Ai g ps wr as bd iha ihb =>
    intro Q s h
    simp only [aw] at h
    obtain ⟨gv,hgv,xs,h1,h2,F,h3,h4,h5,h6⟩:=af h
    have mono:∀ {F F':S→Prop} {Q:Exit→S→Prop} {t:S},(∀ s,F s→F' s)→aw C as (uH (aw C bd (Fc wr F Q))) t→aw C as (uH (aw C bd (Fc wr F' Q))) t:=by
      intro F F' Q t hF h
      refine jb (fun e s ha=>?_) h
      cases e<;>first | exact ha.elim | skip
      refine jb (fun e s hb=>?_) ha
      cases e<;>first | exact kR hF hb | exact hb
    have key:∀ n i s',xs.length - i=n→i≤xs.length→F i s'→∃ e s'',Q e s''∧∀ Q':Exit→S→Prop,Q' e s''→∃ F':Nat→S→Prop,F' i s'∧(∀ j t,F' j t→i≤j∧aR t g=some gv) ∧
        (∀ j x t,xs[j]? = some x→F' j t→aw C as (uH (aw C bd (Fc wr (F' (j + 1)) Q'))) (qE ps x t))∧∀ t,F' xs.length t→Q' .normal t:=by
      intro n
      induction n with
      | zero =>
        intro i s' hn hi hF
        have hi:i=xs.length:=by omega
        subst hi
        exact ⟨.normal,s',h6 s' hF,fun Q' hq=>⟨fun j t=>j=xs.length∧t=s',⟨rfl,rfl⟩,fun j t ⟨e,e'⟩=>by subst e; subst e'; exact ⟨Nat.le_refl _,h4 _ _ hF⟩,
          fun j x t hx ⟨e,_⟩=>by subst e; simp at hx,fun t ⟨_,e⟩=>by subst e; exact hq⟩⟩
      | succ n ih =>
        intro i s' hn hi hF
        have hlt:i < xs.length:=by omega
        have hx:xs[i]? = some xs[i]:=by simp [hlt]
        obtain ⟨e1,s1,k1,k2⟩:=iha (h5 i _ s' hx hF)
        cases e1<;>try exact k1.elim
        obtain ⟨e2,s2,k3,k4⟩:=ihb k1
        have stop:∀ (e:Exit) (s'':S),Q e s''→(∀ (F':S→Prop) (Q':Exit→S→Prop),Q' e s''→Fc wr F' Q' e2 s2)→∃ e s'',Q e s''∧∀ Q':Exit→S→Prop,Q' e s''→∃ F':Nat→S→Prop,F' i s'∧(∀ j t,F' j t→i≤j∧aR t g=some gv) ∧
            (∀ j x t,xs[j]? = some x→F' j t→aw C as (uH (aw C bd (Fc wr (F' (j + 1)) Q'))) (qE ps x t))∧∀ t,F' xs.length t→Q' .normal t:=by
          intro e s'' hq hr
          refine ⟨e,s'',hq,fun Q' hq'=>⟨fun j t=>j=i∧t=s',⟨rfl,rfl⟩,fun j t ⟨e,e'⟩=>by subst e; subst e'; exact ⟨Nat.le_refl _,h4 _ _ hF⟩,fun j x t hx' ⟨e,e'⟩=>?_,fun t ⟨e,_⟩=>by omega⟩⟩
          subst e; subst e'
          rw [hx] at hx'; cases hx'
          exact k2 _ (k4 _ (hr _ _ hq'))
        cases e2 with
        | normal =>
          obtain ⟨s3,hs3⟩:∃ s3,F (i + 1) s3∧(Le (tf wr s2) s3∨s3=tf wr s2):=by
            obtain ⟨s3,⟨hl,hf⟩|hf⟩:=(show Eng.down (F (i + 1)) (tf wr s2) from k3)
            · exact ⟨s3,hf,.inl hl⟩
            · exact ⟨_,hf,.inr rfl⟩
          obtain ⟨e,s'',hq,hre⟩:=ih (i + 1) s3 (by omega) (by omega) hs3.1
          refine ⟨e,s'',hq,fun Q' hq'=>?_⟩
          obtain ⟨F'',g1,g2,g3,g4⟩:=hre Q' hq'
          refine ⟨fun j t=>(j=i∧t=s')∨F'' j t,.inl ⟨rfl,rfl⟩,fun j t ht=>?_,fun j x t hx' ht=>?_,fun t ht=>?_⟩
          · rcases ht with ⟨rfl,rfl⟩ | ht
            · exact ⟨Nat.le_refl _,h4 _ _ hF⟩
            · exact ⟨by have:=(g2 j t ht).1; omega,(g2 j t ht).2⟩
          · rcases ht with ⟨rfl,rfl⟩ | ht
            · rw [hx] at hx'; cases hx'
              refine k2 _ (k4 _ (show Eng.down _ _ from ?_))
              rcases hs3.2 with hl|hl
              · exact ⟨s3,.inl ⟨hl,.inr g1⟩⟩
              · rw [← hl]; exact gA (.inr g1)
            · exact mono (fun _ h=>.inr h) (g3 j x t hx' ht)
          · rcases ht with ⟨e,_⟩ | ht
            · omega
            · exact g4 t ht
        | ret=>exact stop .ret _ k3 fun _ _ h=>h
        | exit id=>exact stop (.exit id) _ k3 fun _ _ h=>h
        | _=>exact k3.elim
    obtain ⟨s0,h0⟩:∃ s0,F 0 s0∧(Le s s0∨s0=s):=by
      obtain ⟨s0,⟨hl,hf⟩|hf⟩:=h3
      · exact ⟨s0,hf,.inl hl⟩
      · exact ⟨_,hf,.inr rfl⟩
    obtain ⟨e,s'',hq,hre⟩:=key _ 0 s0 rfl (Nat.zero_le _) h0.1
    refine ⟨e,s'',hq,fun Q' hq'=>?_⟩
    obtain ⟨F',g1,g2,g3,g4⟩:=hre Q' hq'
    simp only [aw,hgv]
    refine ⟨xs,h1,h2,F',?_,fun j t ht=>(g2 j t ht).2,g3,g4⟩
    rcases h0.2 with hl|hl
    · exact ⟨s0,.inl ⟨hl,g1⟩⟩
    · rw [← hl]; exact gA g1
theorem bF{C:bz} {c:bp} {Q:Exit->S->Prop} {s:S} (h:aw C c (jZ (aw C (.loop c) Q) Q) s):aw C (.loop c) Q s:=by
 obtain⟨e,s',h1,h2⟩:=Oa h
 cases e with
 |normal=>
  obtain⟨s1,⟨hl,n,hF⟩|⟨n,hF⟩⟩:=h1
  ·exact gA ⟨n+1,h2 _ ⟨s1,.inl ⟨hl,hF⟩⟩⟩
  ·exact gA ⟨n+1,h2 _ ⟨s1,.inr hF⟩⟩
 |exit i=>exact gA ⟨1,h2 _ h1⟩
 |ret=>exact gA ⟨1,h2 _ h1⟩
 |_=>exact gA ⟨1,h2 _ h1⟩
theorem jU(p i:Nat):dP p (i+1)=dP p i++[((p+i:Nat):Int)]:=by simp[dP,List.range_succ]
theorem sJ(l:Option (List Int)) (G:Nat):∀g,(bA l G g).2<=8
 |0=>by simp[bA]
 |g+1=>by
  have:=sJ l G g
  simp only[bA,bu,bX];omega
theorem pN(l:Option (List Int)) (G:Nat):∀g,(bA l G g).1.length=g
 |0=>by simp[bA]
 |g+1=>by
  have:=pN l G g
  simp only[bA,List.length_append,List.length_cons,List.length_nil];omega
def Cut{α:Type} (ex:Exit) (st:α->S) (J:α->Prop) (e:Exit) (s:S):Prop:=e=ex/\∃y,J y/\Le s (st y)
theorem bP{α:Type} {ex:Exit} {st:α->S} {J:α->Prop} {s:S} (y:α) (hy:J y) (hle:Le s (st y)):Cut ex st J ex s:=⟨rfl,y,hy,hle⟩
theorem fe{C:bz} {c:bp} {Q:Exit->S->Prop} {s:S} {F:S->Prop} {α:Type} (ex:Exit) (st:α->S) (J:α->Prop) (hQ:∀s',Q ex s'=down F s') (h1:aw C c (Cut ex st J) s) (h2:∀y,J y->F (st y)):aw C c Q s:=by
 refine jb ?_ h1
 rintro e s' ⟨rfl,y,hy,hle⟩
 rw[hQ];exact⟨st y,.inl ⟨hle,h2 y hy⟩⟩
theorem Nq:IntKind.i64.wrap (0+1)=1:=by decide
theorem B1:IntKind.i64.wrap (1+1)=2:=by decide
theorem aS{α:Type} (f:α->List AV):aF f none=.bM:=rfl
theorem aN{α:Type} (f:α->List AV) (l:List α):aF f (some l)=.sl (l.map f):=rfl
section
variable{P:Program} (hm:P.follows .mixedOrders=true) {f:Nat}
include hm
theorem rows.ok {fF e eR:Nat} (hc:cZ P f=some (ob fF e eR)) (hF:from.Spec (Pure P) fF):rows.Spec (Pure P) f:=by
  intro t l ht hg0
  have hl:=Tb.len ht
  have hp:=Tb.whole ht
  refine bK hm hc (by show 2≤78; decide) rfl (by simp) (ay (keep:=[3,5]) (i:=0) ?_)
  try simp only [I,B,D,RX,↓ KW,Nat.reduceBEq,Nat.reduceAdd,Nat.reduceLeDiff,Int.reduceNe,Int.reduceBEq,Int.reduceEq,reduceCtorEq,Nat.reduceMul,Int.reduceLT,Int.reduceLE,Int.reduceToNat,ob,Z.H]
  have hgr:=aQ l 0 (n:=3) (by decide) (by decide)
  refine ai (hF _ _ _ (by decide)) ?_
  try simp only [I,B,D,RX,↓ KW,Nat.reduceBEq,Nat.reduceAdd,Nat.reduceLeDiff,Int.reduceNe,Int.reduceBEq,Int.reduceEq,reduceCtorEq,Nat.reduceMul,Int.reduceLT,Int.reduceLE,Int.reduceToNat]
  have hgn:IntKind.i64.wrap (1 + bO l 0 3)=(dH l:Nat):=by
    rw [br (by omega) (by omega),dH]; omega
  have hg3:1≤dH l∧dH l≤3:=by unfold dH; omega
  rw [hgn]
  generalize dH l=G at *
  refine aI (fun g:Nat=>(⟨[(7,.dat (I g) none),(5,.dat (I G) none),(1,.dat (aF aD l) none),(6,.dat (I (bA l G g).2) none),(0,.ptr 0 0)],[(0,⟨({ t with groups:=bf (bA l G g).1 }:Tb).cells,if (bA l G g).1=[] then [] else [(104,0)]⟩)],bE (bA l G g).1 0 eR,400⟩:S)) (fun g=>G - g) (fun g=>g≤G) ?_ 0 (by omega) ?_
  · intro g hg A back
    have hw:=aG (k:=g) (by omega)
    have hn2:bA l G (g + 1)=((bA l G g).1++[⟨bf (dP (bA l G g).2 (bu (cnt l g 0 0) (bA l G g).2 (bX G g))),bf (dP ((bA l G g).2 + bu (cnt l g 0 0) (bA l G g).2 (bX G g)) (bu (cnt l g 1 (bu (cnt l g 0 0) (bA l G g).2 (bX G g))) ((bA l G g).2 + bu (cnt l g 0 0) (bA l G g).2 (bX G g)) (bX G g)))⟩],(bA l G g).2 + bu (cnt l g 0 0) (bA l G g).2 (bX G g) + bu (cnt l g 1 (bu (cnt l g 0 0) (bA l G g).2 (bX G g))) ((bA l G g).2 + bu (cnt l g 0 0) (bA l G g).2 (bX G g)) (bX G g)):=rfl
    have hp8:(bA l G g).2≤8:=sJ l G g
    have hgl:(bA l G g).1.length=g:=pN l G g
    generalize hR:bA l G g=R at *
    obtain ⟨gs,p⟩:=R
    simp only at hn2 hp8 hgl
    have hc0:bO l (1 + 2 * (g:Int) + 0) 3=(cnt l g 0 0:Nat):=by
      have:=aQ l (1 + 2 * (g:Int) + 0) (n:=3) (by decide) (by decide)
      have hc:cnt l g 0 0=(bO l (1 + 2 * (g:Int) + 0) 3).toNat:=by simp [cnt]
      rw [hc]; omega
    have hw1:IntKind.i64.wrap (IntKind.i64.wrap (1 + IntKind.i64.wrap (2 * (g:Int))) + 0)=1 + 2 * (g:Int) + 0:=by
      rw [br (n:=2 * (g:Int)) (by omega) (by omega),br (n:=1 + 2 * (g:Int)) (by omega) (by omega),br (by omega) (by omega)]
    have hw2:IntKind.i64.wrap (IntKind.i64.wrap (1 + IntKind.i64.wrap (2 * (g:Int))) + 1)=1 + 2 * (g:Int) + 1:=by
      rw [br (n:=2 * (g:Int)) (by omega) (by omega),br (n:=1 + 2 * (g:Int)) (by omega) (by omega),br (by omega) (by omega)]
    have hlim:IntKind.i64.wrap (8 - IntKind.i64.wrap (IntKind.i64.wrap ((G:Int) - 1) - (g:Int)))=if g < G then ((bX G g:Nat):Int) else (8 - ((G:Int) - 1 - g):Int):=by
      rw [br (n:=(G:Int) - 1) (by omega) (by omega),br (n:=(G:Int) - 1 - g) (by omega) (by omega),br (by omega) (by omega)]
      split<;>simp [bX]<;>omega
    by_cases hgs:gs=[]
    all_goals
      try simp only [I,B,D,RX,↓ KW,Nat.reduceBEq,Nat.reduceAdd,Nat.reduceLeDiff,Int.reduceNe,Int.reduceBEq,Int.reduceEq,reduceCtorEq,Nat.reduceMul,Int.reduceLT,Int.reduceLE,Int.reduceToNat,hgs,bE,bf]
      refine aq (fun h=>?_) (fun h=>?_)<;>try simp only [I,B,D,RX,↓ KW,Nat.reduceBEq,Nat.reduceAdd,Nat.reduceLeDiff,Int.reduceNe,Int.reduceBEq,Int.reduceEq,reduceCtorEq,Nat.reduceMul,Int.reduceLT,Int.reduceLE,Int.reduceToNat,hgs,bE,bf,h]
      · have hlt:g < G:=by have:=of_decide_eq_true h; omega
        rw [if_pos hlt] at hlim
        generalize hc0':cnt l g 0 0=n0 at *
        refine fe (.exit 2) (fun _:Unit=>(⟨[(6,.dat (I (p + bu n0 p (bX G g) + bu (cnt l g 1 (bu n0 p (bX G g))) (p + bu n0 p (bX G g)) (bX G g):Nat)) none),(5,.dat (I G) none),(7,.dat (I g) none),(8,.ptr 403 0),(1,.dat (aF aD l) none),(0,.ptr 0 0)],[(403,⟨[aF aD (bf (dP p (bu n0 p (bX G g)))),aF aD (bf (dP (p + bu n0 p (bX G g)) (bu (cnt l g 1 (bu n0 p (bX G g))) (p + bu n0 p (bX G g)) (bX G g))))],[]⟩),(0,⟨({ t with groups:=bf gs }:Tb).cells,if gs=[] then [] else [(104,0)]⟩)],bE gs 0 eR,1000⟩:S)) (fun _=>True) (fun _=>rfl) ?_ ?_
        · refine bF ?_
          try simp only [I,B,D,RX,↓ KW,Nat.reduceBEq,Nat.reduceAdd,Nat.reduceLeDiff,Int.reduceNe,Int.reduceBEq,Int.reduceEq,reduceCtorEq,Nat.reduceMul,Int.reduceLT,Int.reduceLE,Int.reduceToNat,hgs]
          refine ai (hF _ _ _ (by decide)) ?_
          try simp only [I,B,D,RX,↓ KW,Nat.reduceBEq,Nat.reduceAdd,Nat.reduceLeDiff,Int.reduceNe,Int.reduceBEq,Int.reduceEq,reduceCtorEq,Nat.reduceMul,Int.reduceLT,Int.reduceLE,Int.reduceToNat,hw1,hc0,hgs]
          refine fe (.exit 4) (fun _:Unit=>(⟨[(9,.dat (I 0) none),(6,.dat (I (p + bu n0 (p) (bX G g):Nat)) none),(5,.dat (I G) none),(7,.dat (I g) none),(8,.ptr 403 0),(1,.dat (aF aD l) none),(0,.ptr 0 0)],[(403,⟨[aF aD (bf (dP (p) (bu n0 (p) (bX G g)))),.bM],[]⟩),(0,⟨({ t with groups:=bf gs }:Tb).cells,if gs=[] then [] else [(104,0)]⟩)],bE gs 0 eR,1000⟩:S)) (fun _=>True) (fun _=>rfl) ?_ ?_
          · refine aI (fun i:Nat=>(⟨[(11,.dat (I i) none),(10,.dat (I n0) none),(6,.dat (I (p + i:Nat)) none),(5,.dat (I G) none),(7,.dat (I g) none),(9,.dat (I 0) none),(8,.ptr 403 0),(1,.dat (aF aD l) none),(0,.ptr 0 0)],[(403,⟨[aF aD (bf (dP (p) i)),.bM],if dP (p) i=[] then [] else [(0,1)]⟩),(0,⟨({ t with groups:=bf gs }:Tb).cells,if gs=[] then [] else [(104,0)]⟩)],bE (dP (p) i) 1 e++bE gs 0 eR,1000⟩:S)) (fun i=>bu n0 (p) (bX G g) - i) (fun i=>i≤bu n0 (p) (bX G g)) ?_ 0 (by omega) ?_
            · intro i hi A1 back1
              have hfl:bu n0 (p) (bX G g)≤8:=by simp only [bu,bX]; omega
              have hw3:=aG (k:=i) (by omega)
              have hf:bu n0 (p) (bX G g)=min n0 (bX G g - (p)):=rfl
              have hp1:IntKind.i64.wrap (((p + i:Nat):Int) + 1)=((p + (i + 1):Nat):Int):=by rw [br (by omega) (by omega)]; omega
              have hrl:(dP (p) i).length=i:=by simp [dP]
              by_cases hl:dP (p) i=[]
              · try simp only [I,B,D,RX,↓ KW,Nat.reduceBEq,Nat.reduceAdd,Nat.reduceLeDiff,Int.reduceNe,Int.reduceBEq,Int.reduceEq,reduceCtorEq,Nat.reduceMul,Int.reduceLT,Int.reduceLE,Int.reduceToNat,hl,bE,bf,hlim,hgs]
                repeat' (((first | refine bB ?_ ?_ | refine aq ?_ ?_ | refine cO ?_ ?_)<;>intro h)<;>try simp only [I,B,D,RX,↓ KW,Nat.reduceBEq,Nat.reduceAdd,Nat.reduceLeDiff,Int.reduceNe,Int.reduceBEq,Int.reduceEq,reduceCtorEq,Nat.reduceMul,Int.reduceLT,Int.reduceLE,Int.reduceToNat,aS,aN,hlim,hl,hgs,hp1,h])
                · have h1:=of_decide_eq_true h
                  refine ⟨by decide,?_⟩
                  refine ⟨by decide,?_⟩
                  have h2:(i:Int) < n0:=by rename_i h2; exact of_decide_eq_true h2
                  refine back1 (i + 1) _ (by omega) (by omega) (ah (by decide) ?_ ?_ ?_ ?_)<;>simp [LX,I,B,D,hw3,jU,hl,bf,aS,aN,hgs]
                · have h1:=of_decide_eq_false h
                  have:i=bu n0 (p) (bX G g):=by omega
                  rw [← this]
                  refine bP () trivial ?_
                  refine ah (by decide) ?_ ?_ ?_ ?_<;>simp [LX,I,B,D,hl,bf,aS,aN,hgs]
                · have h1:=of_decide_eq_false h
                  have:i=bu n0 (p) (bX G g):=by omega
                  rw [← this]
                  refine bP () trivial ?_
                  refine ah (by decide) ?_ ?_ ?_ ?_<;>simp [LX,I,B,D,hl,bf,aS,aN,hgs]
              · try simp only [I,B,D,RX,↓ KW,Nat.reduceBEq,Nat.reduceAdd,Nat.reduceLeDiff,Int.reduceNe,Int.reduceBEq,Int.reduceEq,reduceCtorEq,Nat.reduceMul,Int.reduceLT,Int.reduceLE,Int.reduceToNat,hl,bE,bf,hlim,hgs]
                repeat' (((first | refine bB ?_ ?_ | refine aq ?_ ?_ | refine cO ?_ ?_)<;>intro h)<;>try simp only [I,B,D,RX,↓ KW,Nat.reduceBEq,Nat.reduceAdd,Nat.reduceLeDiff,Int.reduceNe,Int.reduceBEq,Int.reduceEq,reduceCtorEq,Nat.reduceMul,Int.reduceLT,Int.reduceLE,Int.reduceToNat,aS,aN,hlim,hl,hgs,hp1,h])
                · have h1:=of_decide_eq_true h
                  refine ⟨by decide,by omega,by decide,?_⟩
                  have h2:(i:Int) < n0:=by rename_i h2; exact of_decide_eq_true h2
                  refine back1 (i + 1) _ (by omega) (by omega) (ah (by decide) ?_ ?_ ?_ ?_)<;>simp [LX,I,B,D,hw3,jU,hl,bf,aS,aN,hgs]
                · have h1:=of_decide_eq_false h
                  have:i=bu n0 (p) (bX G g):=by omega
                  rw [← this]
                  refine bP () trivial ?_
                  refine ah (by decide) ?_ ?_ ?_ ?_<;>simp [LX,I,B,D,hl,bf,aS,aN,hgs]
                · have h1:=of_decide_eq_false h
                  have:i=bu n0 (p) (bX G g):=by omega
                  rw [← this]
                  refine bP () trivial ?_
                  refine ah (by decide) ?_ ?_ ?_ ?_<;>simp [LX,I,B,D,hl,bf,aS,aN,hgs]
            · refine ah (by decide) ?_ ?_ ?_ ?_<;>simp [LX,I,B,D,dP,bf,aS,aN,hgs]
          · intro _ _
            generalize hm0:bu n0 p (bX G g)=m0 at *
            have hrow0:(bf (dP p m0)).getD []=dP p m0:=bL _
            have hrl0:(dP p m0).length=m0:=by simp [dP]
            have hm8:m0≤8:=by rw [← hm0]; simp only [bu,bX]; omega
            try simp only [I,B,D,RX,↓ KW,Nat.reduceBEq,Nat.reduceAdd,Nat.reduceLeDiff,Int.reduceNe,Int.reduceBEq,Int.reduceEq,reduceCtorEq,Nat.reduceMul,Int.reduceLT,Int.reduceLE,Int.reduceToNat,hgs]
            refine bF ?_
            try simp only [I,B,D,RX,↓ KW,Nat.reduceBEq,Nat.reduceAdd,Nat.reduceLeDiff,Int.reduceNe,Int.reduceBEq,Int.reduceEq,reduceCtorEq,Nat.reduceMul,Int.reduceLT,Int.reduceLE,Int.reduceToNat,hgs,Nq]
            refine ai (hF _ _ _ (by decide)) ?_
            try simp only [I,B,D,RX,↓ KW,Nat.reduceBEq,Nat.reduceAdd,Nat.reduceLeDiff,Int.reduceNe,Int.reduceBEq,Int.reduceEq,reduceCtorEq,Nat.reduceMul,Int.reduceLT,Int.reduceLE,Int.reduceToNat,hw2,hgs]
            have hr2:=aQ l (1 + 2 * (g:Int) + 1) (n:=3) (by decide) (by decide)
            have hcn0:cnt l g 1 m0=if (bO l (1 + 2 * (g:Int) + 1) 3).toNat=0∧m0=0 then 1 else (bO l (1 + 2 * (g:Int) + 1) 3).toNat:=by simp [cnt]
            generalize bO l (1 + 2 * (g:Int) + 1) 3=fr1 at *
            generalize hn1:cnt l g 1 m0=n1 at *
            repeat' (((first | refine bB ?_ ?_ | refine aq ?_ ?_ | refine cO ?_ ?_)<;>intro h)<;>try simp only [I,B,D,RX,↓ KW,Nat.reduceBEq,Nat.reduceAdd,Nat.reduceLeDiff,Int.reduceNe,Int.reduceBEq,Int.reduceEq,reduceCtorEq,Nat.reduceMul,Int.reduceLT,Int.reduceLE,Int.reduceToNat,hrow0,hrl0,hgs,h])
            · have hfr:fr1=0:=by simpa using h
              refine ⟨by decide,?_⟩
              refine aq (fun hz=>?_) (fun hz=>?_)<;>try simp only [I,B,D,RX,↓ KW,Nat.reduceBEq,Nat.reduceAdd,Nat.reduceLeDiff,Int.reduceNe,Int.reduceBEq,Int.reduceEq,reduceCtorEq,Nat.reduceMul,Int.reduceLT,Int.reduceLE,Int.reduceToNat,hgs,hz]
              · have hz:m0=0:=by simpa using hz
                have hcn:(n1:Int)=1:=by rw [hcn0,if_pos ⟨by omega,hz⟩]; rfl
                refine fe (.exit 4) (fun _:Unit=>(⟨[(9,.dat (I 1) none),(6,.dat (I (p + m0 + bu n1 (p + m0) (bX G g):Nat)) none),(5,.dat (I G) none),(7,.dat (I g) none),(8,.ptr 403 0),(1,.dat (aF aD l) none),(0,.ptr 0 0)],[(403,⟨[aF aD (bf (dP p m0)),aF aD (bf (dP (p + m0) (bu n1 (p + m0) (bX G g))))],[]⟩),(0,⟨({ t with groups:=bf gs }:Tb).cells,if gs=[] then [] else [(104,0)]⟩)],bE gs 0 eR,1000⟩:S)) (fun _=>True) (fun _=>rfl) ?_ ?_
                · refine aI (fun i:Nat=>(⟨[(11,.dat (I i) none),(10,.dat (I n1) none),(6,.dat (I (p + m0 + i:Nat)) none),(5,.dat (I G) none),(7,.dat (I g) none),(9,.dat (I 1) none),(8,.ptr 403 0),(1,.dat (aF aD l) none),(0,.ptr 0 0)],[(403,⟨[aF aD (bf (dP p m0)),aF aD (bf (dP (p + m0) i))],if dP (p + m0) i=[] then [] else [(1,1)]⟩),(0,⟨({ t with groups:=bf gs }:Tb).cells,if gs=[] then [] else [(104,0)]⟩)],bE (dP (p + m0) i) 1 e++bE gs 0 eR,1000⟩:S)) (fun i=>bu n1 (p + m0) (bX G g) - i) (fun i=>i≤bu n1 (p + m0) (bX G g)) ?_ 0 (by omega) ?_
                  · intro i hi A1 back1
                    have hfl:bu n1 (p + m0) (bX G g)≤8:=by simp only [bu,bX]; omega
                    have hw3:=aG (k:=i) (by omega)
                    have hf:bu n1 (p + m0) (bX G g)=min n1 (bX G g - (p + m0)):=rfl
                    have hp1:IntKind.i64.wrap (((p + m0 + i:Nat):Int) + 1)=((p + m0 + (i + 1):Nat):Int):=by rw [br (by omega) (by omega)]; omega
                    have hrl:(dP (p + m0) i).length=i:=by simp [dP]
                    by_cases hl:dP (p + m0) i=[]
                    · try simp only [I,B,D,RX,↓ KW,Nat.reduceBEq,Nat.reduceAdd,Nat.reduceLeDiff,Int.reduceNe,Int.reduceBEq,Int.reduceEq,reduceCtorEq,Nat.reduceMul,Int.reduceLT,Int.reduceLE,Int.reduceToNat,hl,bE,bf,hlim,hgs,hrow0]
                      repeat' (((first | refine bB ?_ ?_ | refine aq ?_ ?_ | refine cO ?_ ?_)<;>intro h)<;>try simp only [I,B,D,RX,↓ KW,Nat.reduceBEq,Nat.reduceAdd,Nat.reduceLeDiff,Int.reduceNe,Int.reduceBEq,Int.reduceEq,reduceCtorEq,Nat.reduceMul,Int.reduceLT,Int.reduceLE,Int.reduceToNat,aS,aN,hlim,hl,hgs,hp1,hrow0,h])
                      · have h1:=of_decide_eq_true h
                        refine ⟨by decide,?_⟩
                        refine ⟨by decide,?_⟩
                        have h2:(i:Int) < n1:=by rename_i h2; exact of_decide_eq_true h2
                        refine back1 (i + 1) _ (by omega) (by omega) (ah (by decide) ?_ ?_ ?_ ?_)<;>simp [LX,I,B,D,hw3,jU,hl,bf,aS,aN,hgs,hrow0]
                      · have h1:=of_decide_eq_false h
                        have:i=bu n1 (p + m0) (bX G g):=by omega
                        rw [← this]
                        refine bP () trivial ?_
                        refine ah (by decide) ?_ ?_ ?_ ?_<;>simp [LX,I,B,D,hl,bf,aS,aN,hgs,hrow0]
                      · have h1:=of_decide_eq_false h
                        have:i=bu n1 (p + m0) (bX G g):=by omega
                        rw [← this]
                        refine bP () trivial ?_
                        refine ah (by decide) ?_ ?_ ?_ ?_<;>simp [LX,I,B,D,hl,bf,aS,aN,hgs,hrow0]
                    · try simp only [I,B,D,RX,↓ KW,Nat.reduceBEq,Nat.reduceAdd,Nat.reduceLeDiff,Int.reduceNe,Int.reduceBEq,Int.reduceEq,reduceCtorEq,Nat.reduceMul,Int.reduceLT,Int.reduceLE,Int.reduceToNat,hl,bE,bf,hlim,hgs,hrow0]
                      repeat' (((first | refine bB ?_ ?_ | refine aq ?_ ?_ | refine cO ?_ ?_)<;>intro h)<;>try simp only [I,B,D,RX,↓ KW,Nat.reduceBEq,Nat.reduceAdd,Nat.reduceLeDiff,Int.reduceNe,Int.reduceBEq,Int.reduceEq,reduceCtorEq,Nat.reduceMul,Int.reduceLT,Int.reduceLE,Int.reduceToNat,aS,aN,hlim,hl,hgs,hp1,hrow0,h])
                      · have h1:=of_decide_eq_true h
                        refine ⟨by decide,by omega,by decide,?_⟩
                        have h2:(i:Int) < n1:=by rename_i h2; exact of_decide_eq_true h2
                        refine back1 (i + 1) _ (by omega) (by omega) (ah (by decide) ?_ ?_ ?_ ?_)<;>simp [LX,I,B,D,hw3,jU,hl,bf,aS,aN,hgs,hrow0]
                      · have h1:=of_decide_eq_false h
                        have:i=bu n1 (p + m0) (bX G g):=by omega
                        rw [← this]
                        refine bP () trivial ?_
                        refine ah (by decide) ?_ ?_ ?_ ?_<;>simp [LX,I,B,D,hl,bf,aS,aN,hgs,hrow0]
                      · have h1:=of_decide_eq_false h
                        have:i=bu n1 (p + m0) (bX G g):=by omega
                        rw [← this]
                        refine bP () trivial ?_
                        refine ah (by decide) ?_ ?_ ?_ ?_<;>simp [LX,I,B,D,hl,bf,aS,aN,hgs,hrow0]
                  · refine ah (by decide) ?_ ?_ ?_ ?_<;>simp [LX,I,B,D,dP,bf,aS,aN,hgs,hrow0,hcn]
                · intro _ _
                  try simp only [I,B,D,RX,↓ KW,Nat.reduceBEq,Nat.reduceAdd,Nat.reduceLeDiff,Int.reduceNe,Int.reduceBEq,Int.reduceEq,reduceCtorEq,Nat.reduceMul,Int.reduceLT,Int.reduceLE,Int.reduceToNat,hgs,bf,hrow0]
                  refine bF ?_
                  try simp only [I,B,D,RX,↓ KW,Nat.reduceBEq,Nat.reduceAdd,Nat.reduceLeDiff,Int.reduceNe,Int.reduceBEq,Int.reduceEq,reduceCtorEq,Nat.reduceMul,Int.reduceLT,Int.reduceLE,Int.reduceToNat,hgs,B1]
                  refine bP () trivial ?_
                  refine ah (by decide) ?_ ?_ ?_ ?_<;>simp [LX,I,B,D,hgs,bf,aS,aN]
              · have hz:¬ m0=0:=by simpa using hz
                have hcn:fr1=(n1:Int):=by rw [hcn0,if_neg (fun hh=>hz hh.2)]; omega
                refine fe (.exit 4) (fun _:Unit=>(⟨[(9,.dat (I 1) none),(6,.dat (I (p + m0 + bu n1 (p + m0) (bX G g):Nat)) none),(5,.dat (I G) none),(7,.dat (I g) none),(8,.ptr 403 0),(1,.dat (aF aD l) none),(0,.ptr 0 0)],[(403,⟨[aF aD (bf (dP p m0)),aF aD (bf (dP (p + m0) (bu n1 (p + m0) (bX G g))))],[]⟩),(0,⟨({ t with groups:=bf gs }:Tb).cells,if gs=[] then [] else [(104,0)]⟩)],bE gs 0 eR,1000⟩:S)) (fun _=>True) (fun _=>rfl) ?_ ?_
                · refine aI (fun i:Nat=>(⟨[(11,.dat (I i) none),(10,.dat (I n1) none),(6,.dat (I (p + m0 + i:Nat)) none),(5,.dat (I G) none),(7,.dat (I g) none),(9,.dat (I 1) none),(8,.ptr 403 0),(1,.dat (aF aD l) none),(0,.ptr 0 0)],[(403,⟨[aF aD (bf (dP p m0)),aF aD (bf (dP (p + m0) i))],if dP (p + m0) i=[] then [] else [(1,1)]⟩),(0,⟨({ t with groups:=bf gs }:Tb).cells,if gs=[] then [] else [(104,0)]⟩)],bE (dP (p + m0) i) 1 e++bE gs 0 eR,1000⟩:S)) (fun i=>bu n1 (p + m0) (bX G g) - i) (fun i=>i≤bu n1 (p + m0) (bX G g)) ?_ 0 (by omega) ?_
                  · intro i hi A1 back1
                    have hfl:bu n1 (p + m0) (bX G g)≤8:=by simp only [bu,bX]; omega
                    have hw3:=aG (k:=i) (by omega)
                    have hf:bu n1 (p + m0) (bX G g)=min n1 (bX G g - (p + m0)):=rfl
                    have hp1:IntKind.i64.wrap (((p + m0 + i:Nat):Int) + 1)=((p + m0 + (i + 1):Nat):Int):=by rw [br (by omega) (by omega)]; omega
                    have hrl:(dP (p + m0) i).length=i:=by simp [dP]
                    by_cases hl:dP (p + m0) i=[]
                    · try simp only [I,B,D,RX,↓ KW,Nat.reduceBEq,Nat.reduceAdd,Nat.reduceLeDiff,Int.reduceNe,Int.reduceBEq,Int.reduceEq,reduceCtorEq,Nat.reduceMul,Int.reduceLT,Int.reduceLE,Int.reduceToNat,hl,bE,bf,hlim,hgs,hrow0]
                      repeat' (((first | refine bB ?_ ?_ | refine aq ?_ ?_ | refine cO ?_ ?_)<;>intro h)<;>try simp only [I,B,D,RX,↓ KW,Nat.reduceBEq,Nat.reduceAdd,Nat.reduceLeDiff,Int.reduceNe,Int.reduceBEq,Int.reduceEq,reduceCtorEq,Nat.reduceMul,Int.reduceLT,Int.reduceLE,Int.reduceToNat,aS,aN,hlim,hl,hgs,hp1,hrow0,h])
                      · have h1:=of_decide_eq_true h
                        refine ⟨by decide,?_⟩
                        refine ⟨by decide,?_⟩
                        have h2:(i:Int) < n1:=by rename_i h2; exact of_decide_eq_true h2
                        refine back1 (i + 1) _ (by omega) (by omega) (ah (by decide) ?_ ?_ ?_ ?_)<;>simp [LX,I,B,D,hw3,jU,hl,bf,aS,aN,hgs,hrow0]
                      · have h1:=of_decide_eq_false h
                        have:i=bu n1 (p + m0) (bX G g):=by omega
                        rw [← this]
                        refine bP () trivial ?_
                        refine ah (by decide) ?_ ?_ ?_ ?_<;>simp [LX,I,B,D,hl,bf,aS,aN,hgs,hrow0]
                      · have h1:=of_decide_eq_false h
                        have:i=bu n1 (p + m0) (bX G g):=by omega
                        rw [← this]
                        refine bP () trivial ?_
                        refine ah (by decide) ?_ ?_ ?_ ?_<;>simp [LX,I,B,D,hl,bf,aS,aN,hgs,hrow0]
                    · try simp only [I,B,D,RX,↓ KW,Nat.reduceBEq,Nat.reduceAdd,Nat.reduceLeDiff,Int.reduceNe,Int.reduceBEq,Int.reduceEq,reduceCtorEq,Nat.reduceMul,Int.reduceLT,Int.reduceLE,Int.reduceToNat,hl,bE,bf,hlim,hgs,hrow0]
                      repeat' (((first | refine bB ?_ ?_ | refine aq ?_ ?_ | refine cO ?_ ?_)<;>intro h)<;>try simp only [I,B,D,RX,↓ KW,Nat.reduceBEq,Nat.reduceAdd,Nat.reduceLeDiff,Int.reduceNe,Int.reduceBEq,Int.reduceEq,reduceCtorEq,Nat.reduceMul,Int.reduceLT,Int.reduceLE,Int.reduceToNat,aS,aN,hlim,hl,hgs,hp1,hrow0,h])
                      · have h1:=of_decide_eq_true h
                        refine ⟨by decide,by omega,by decide,?_⟩
                        have h2:(i:Int) < n1:=by rename_i h2; exact of_decide_eq_true h2
                        refine back1 (i + 1) _ (by omega) (by omega) (ah (by decide) ?_ ?_ ?_ ?_)<;>simp [LX,I,B,D,hw3,jU,hl,bf,aS,aN,hgs,hrow0]
                      · have h1:=of_decide_eq_false h
                        have:i=bu n1 (p + m0) (bX G g):=by omega
                        rw [← this]
                        refine bP () trivial ?_
                        refine ah (by decide) ?_ ?_ ?_ ?_<;>simp [LX,I,B,D,hl,bf,aS,aN,hgs,hrow0]
                      · have h1:=of_decide_eq_false h
                        have:i=bu n1 (p + m0) (bX G g):=by omega
                        rw [← this]
                        refine bP () trivial ?_
                        refine ah (by decide) ?_ ?_ ?_ ?_<;>simp [LX,I,B,D,hl,bf,aS,aN,hgs,hrow0]
                  · refine ah (by decide) ?_ ?_ ?_ ?_<;>simp [LX,I,B,D,dP,bf,aS,aN,hgs,hrow0,hcn]
                · intro _ _
                  try simp only [I,B,D,RX,↓ KW,Nat.reduceBEq,Nat.reduceAdd,Nat.reduceLeDiff,Int.reduceNe,Int.reduceBEq,Int.reduceEq,reduceCtorEq,Nat.reduceMul,Int.reduceLT,Int.reduceLE,Int.reduceToNat,hgs,bf,hrow0]
                  refine bF ?_
                  try simp only [I,B,D,RX,↓ KW,Nat.reduceBEq,Nat.reduceAdd,Nat.reduceLeDiff,Int.reduceNe,Int.reduceBEq,Int.reduceEq,reduceCtorEq,Nat.reduceMul,Int.reduceLT,Int.reduceLE,Int.reduceToNat,hgs,B1]
                  refine bP () trivial ?_
                  refine ah (by decide) ?_ ?_ ?_ ?_<;>simp [LX,I,B,D,hgs,bf,aS,aN]
            · have hfr:¬ fr1=0:=by simpa using h
              have hcn:fr1=(n1:Int):=by rw [hcn0,if_neg (fun hh=>hfr (by omega))]; omega
              refine fe (.exit 4) (fun _:Unit=>(⟨[(9,.dat (I 1) none),(6,.dat (I (p + m0 + bu n1 (p + m0) (bX G g):Nat)) none),(5,.dat (I G) none),(7,.dat (I g) none),(8,.ptr 403 0),(1,.dat (aF aD l) none),(0,.ptr 0 0)],[(403,⟨[aF aD (bf (dP p m0)),aF aD (bf (dP (p + m0) (bu n1 (p + m0) (bX G g))))],[]⟩),(0,⟨({ t with groups:=bf gs }:Tb).cells,if gs=[] then [] else [(104,0)]⟩)],bE gs 0 eR,1000⟩:S)) (fun _=>True) (fun _=>rfl) ?_ ?_
              · refine aI (fun i:Nat=>(⟨[(11,.dat (I i) none),(10,.dat (I n1) none),(6,.dat (I (p + m0 + i:Nat)) none),(5,.dat (I G) none),(7,.dat (I g) none),(9,.dat (I 1) none),(8,.ptr 403 0),(1,.dat (aF aD l) none),(0,.ptr 0 0)],[(403,⟨[aF aD (bf (dP p m0)),aF aD (bf (dP (p + m0) i))],if dP (p + m0) i=[] then [] else [(1,1)]⟩),(0,⟨({ t with groups:=bf gs }:Tb).cells,if gs=[] then [] else [(104,0)]⟩)],bE (dP (p + m0) i) 1 e++bE gs 0 eR,1000⟩:S)) (fun i=>bu n1 (p + m0) (bX G g) - i) (fun i=>i≤bu n1 (p + m0) (bX G g)) ?_ 0 (by omega) ?_
                · intro i hi A1 back1
                  have hfl:bu n1 (p + m0) (bX G g)≤8:=by simp only [bu,bX]; omega
                  have hw3:=aG (k:=i) (by omega)
                  have hf:bu n1 (p + m0) (bX G g)=min n1 (bX G g - (p + m0)):=rfl
                  have hp1:IntKind.i64.wrap (((p + m0 + i:Nat):Int) + 1)=((p + m0 + (i + 1):Nat):Int):=by rw [br (by omega) (by omega)]; omega
                  have hrl:(dP (p + m0) i).length=i:=by simp [dP]
                  by_cases hl:dP (p + m0) i=[]
                  · try simp only [I,B,D,RX,↓ KW,Nat.reduceBEq,Nat.reduceAdd,Nat.reduceLeDiff,Int.reduceNe,Int.reduceBEq,Int.reduceEq,reduceCtorEq,Nat.reduceMul,Int.reduceLT,Int.reduceLE,Int.reduceToNat,hl,bE,bf,hlim,hgs,hrow0]
                    repeat' (((first | refine bB ?_ ?_ | refine aq ?_ ?_ | refine cO ?_ ?_)<;>intro h)<;>try simp only [I,B,D,RX,↓ KW,Nat.reduceBEq,Nat.reduceAdd,Nat.reduceLeDiff,Int.reduceNe,Int.reduceBEq,Int.reduceEq,reduceCtorEq,Nat.reduceMul,Int.reduceLT,Int.reduceLE,Int.reduceToNat,aS,aN,hlim,hl,hgs,hp1,hrow0,h])
                    · have h1:=of_decide_eq_true h
                      refine ⟨by decide,?_⟩
                      refine ⟨by decide,?_⟩
                      have h2:(i:Int) < n1:=by rename_i h2; exact of_decide_eq_true h2
                      refine back1 (i + 1) _ (by omega) (by omega) (ah (by decide) ?_ ?_ ?_ ?_)<;>simp [LX,I,B,D,hw3,jU,hl,bf,aS,aN,hgs,hrow0]
                    · have h1:=of_decide_eq_false h
                      have:i=bu n1 (p + m0) (bX G g):=by omega
                      rw [← this]
                      refine bP () trivial ?_
                      refine ah (by decide) ?_ ?_ ?_ ?_<;>simp [LX,I,B,D,hl,bf,aS,aN,hgs,hrow0]
                    · have h1:=of_decide_eq_false h
                      have:i=bu n1 (p + m0) (bX G g):=by omega
                      rw [← this]
                      refine bP () trivial ?_
                      refine ah (by decide) ?_ ?_ ?_ ?_<;>simp [LX,I,B,D,hl,bf,aS,aN,hgs,hrow0]
                  · try simp only [I,B,D,RX,↓ KW,Nat.reduceBEq,Nat.reduceAdd,Nat.reduceLeDiff,Int.reduceNe,Int.reduceBEq,Int.reduceEq,reduceCtorEq,Nat.reduceMul,Int.reduceLT,Int.reduceLE,Int.reduceToNat,hl,bE,bf,hlim,hgs,hrow0]
                    repeat' (((first | refine bB ?_ ?_ | refine aq ?_ ?_ | refine cO ?_ ?_)<;>intro h)<;>try simp only [I,B,D,RX,↓ KW,Nat.reduceBEq,Nat.reduceAdd,Nat.reduceLeDiff,Int.reduceNe,Int.reduceBEq,Int.reduceEq,reduceCtorEq,Nat.reduceMul,Int.reduceLT,Int.reduceLE,Int.reduceToNat,aS,aN,hlim,hl,hgs,hp1,hrow0,h])
                    · have h1:=of_decide_eq_true h
                      refine ⟨by decide,by omega,by decide,?_⟩
                      have h2:(i:Int) < n1:=by rename_i h2; exact of_decide_eq_true h2
                      refine back1 (i + 1) _ (by omega) (by omega) (ah (by decide) ?_ ?_ ?_ ?_)<;>simp [LX,I,B,D,hw3,jU,hl,bf,aS,aN,hgs,hrow0]
                    · have h1:=of_decide_eq_false h
                      have:i=bu n1 (p + m0) (bX G g):=by omega
                      rw [← this]
                      refine bP () trivial ?_
                      refine ah (by decide) ?_ ?_ ?_ ?_<;>simp [LX,I,B,D,hl,bf,aS,aN,hgs,hrow0]
                    · have h1:=of_decide_eq_false h
                      have:i=bu n1 (p + m0) (bX G g):=by omega
                      rw [← this]
                      refine bP () trivial ?_
                      refine ah (by decide) ?_ ?_ ?_ ?_<;>simp [LX,I,B,D,hl,bf,aS,aN,hgs,hrow0]
                · refine ah (by decide) ?_ ?_ ?_ ?_<;>simp [LX,I,B,D,dP,bf,aS,aN,hgs,hrow0,hcn]
              · intro _ _
                try simp only [I,B,D,RX,↓ KW,Nat.reduceBEq,Nat.reduceAdd,Nat.reduceLeDiff,Int.reduceNe,Int.reduceBEq,Int.reduceEq,reduceCtorEq,Nat.reduceMul,Int.reduceLT,Int.reduceLE,Int.reduceToNat,hgs,bf,hrow0]
                refine bF ?_
                try simp only [I,B,D,RX,↓ KW,Nat.reduceBEq,Nat.reduceAdd,Nat.reduceLeDiff,Int.reduceNe,Int.reduceBEq,Int.reduceEq,reduceCtorEq,Nat.reduceMul,Int.reduceLT,Int.reduceLE,Int.reduceToNat,hgs,B1]
                refine bP () trivial ?_
                refine ah (by decide) ?_ ?_ ?_ ?_<;>simp [LX,I,B,D,hgs,bf,aS,aN]
        · intro _ _
          have hgc:=Tb.uu (t:={ t with groups:=bf gs }) ht.phases
          have hln:=Tb.len' (t:={ t with groups:=bf gs }) ht.phases ht.conflict ht.bq
          have hset:=Tb.zG (t:={ t with groups:=bf gs }) ht.phases (some (gs++[⟨bf (dP p (bu n0 p (bX G g))),bf (dP (p + bu n0 p (bX G g)) (bu (cnt l g 1 (bu n0 p (bX G g))) (p + bu n0 p (bX G g)) (bX G g)))⟩]))
          simp only [hgs,bf,if_true,if_false] at hgc hln hset
          try simp only [I,B,D,RX,↓ KW,Nat.reduceBEq,Nat.reduceAdd,Nat.reduceLeDiff,Int.reduceNe,Int.reduceBEq,Int.reduceEq,reduceCtorEq,Nat.reduceMul,Int.reduceLT,Int.reduceLE,Int.reduceToNat,hgc,aS,aN,Gr.len,hgl,hgs,bf]
          try refine ⟨by omega,?_⟩
          try refine ⟨by simp [bE,hgs,er],?_⟩
          try refine ⟨by omega,?_⟩
          simp [aN,Gr.cells,hgs] at hset
          refine back (g + 1) _ (by omega) (by omega) (ah (by decide) ?_ ?_ ?_ ?_)<;>simp [LX,I,B,D,hn2,hw,hgs,bf,aN,aS,Gr.cells,hset]
          trace_state
      · have hgG:g=G:=by have:=of_decide_eq_false h; omega
        subst hgG
        first
          | (exfalso; rw [hgs] at hgl; simp at hgl; omega)
          | exact ⟨by rw [hR],by rw [hR]⟩
  · have:({ t with groups:=none }:Tb)=t:=by cases t; simp_all
    refine ah (by decide) ?_ ?_ ?_ ?_<;>simp [LX,I,B,D,bA,bf,this]
end
def cv:Tb:=⟨List.replicate 8 default,none,List.replicate 8 0,none,none,none,0,0,0,0,0,List.replicate 8 0,0,0⟩
theorem B3:aY=cv.cells:=rfl
def B4(l:Option (List Int)):Nat->List Ph
 |0=>List.replicate 8 default
 |k+1=>(B4 l k).set k (jB l (10+12*k))
def uv:Nat->List Int
 |0=>List.replicate 8 0
 |k+1=>(uv k).set k 1
theorem d7(l:Option (List Int)):∀k,(B4 l k).length=8
 |0=>by simp[B4]
 |k+1=>by simp[B4,d7 l k]
theorem kr:∀k,(uv k).length=8
 |0=>by simp[uv]
 |k+1=>by simp[uv,kr k]
def A7(c:List Int) (i:Nat):Int:=c.getD i 0
def pO(t:Tb) (l:Option (List Int)) (p q:Nat):Bool:=!gz t p q&&bO l (110+8*p+q) 9 !=1
def gF(t:Tb) (l:Option (List Int)) (p q:Nat) (c:List Int):List Int:=
 if pO t l p q then
  let c1:=c.set p (jd (A7 c p) q)
  c1.set q (jd (A7 c1 q) p)
 else c
def jC(t:Tb) (l:Option (List Int)) (p:Nat):Nat->List Int->List Int
 |0,c=>c
 |q+1,c=>gF t l p q (jC t l p q c)
def gG(t:Tb) (l:Option (List Int)):Nat->List Int
 |0=>List.replicate 8 0
 |p+1=>jC t l p p (gG t l p)
theorem B5{t:Tb} {l:Option (List Int)} {p q:Nat} {c:List Int}:(gF t l p q c).length=c.length:=by
 unfold gF;split<;>simp
theorem rJ{t:Tb} {l:Option (List Int)} {p:Nat} {c:List Int}:∀q,(jC t l p q c).length=c.length
 |0=>rfl
 |q+1=>by rw[jC,B5,rJ q]
theorem dI{t:Tb} {l:Option (List Int)}:∀p,(gG t l p).length=8
 |0=>by simp[gG]
 |p+1=>by rw[gG,rJ,dI p]
def kG(l:Option (List Int)) (n d:Int) (j:Nat):List gu:=(List.range j).map fun(k:Nat)=>iP l (180+8*(d-k)) n
def ff(t:Tb) (l:Option (List Int)) (n r:Int) (j:Nat):List Rl:=(List.range j).map fun(k:Nat)=>oh t l (260+16*(r-k)) n
def A8(l:Option (List Int)) (n i:Int):Bs:=
 let x:=oa .i64 (bO l (330+2*i) 256) (bV (bV (1*2^min (IntKind.u64.wrap n).toNat 64)-1))
 ⟨if x>1 then x else 1,bV (1+bO l (331+2*i) 30)⟩
def mc(l:Option (List Int)) (n b:Int) (j:Nat):List Bs:=(List.range j).map fun(k:Nat)=>A8 l n (b-k)
def kH(t:Tb):Nat->Int
 |0=>0
 |k+1=>if l5 t k>kH t k then l5 t k else kH t k
def bS(l:Option (List Int)):List Gr×Nat:=bA l (dH l) (dH l)
def bw (l:Option (List Int)):Tb :=
  let n:=(bS l).2
  let t1:Tb:={ cv with groups:=some (bS l).1 }
  let q:=bO l 174 (n + 1)
  { phases:=B4 l n
    groups:=some (bS l).1
    conflict:=gG t1 l n
    aA:=bf (kG l n (bO l 175 9) (bO l 175 9).toNat)
    aV:=bf (ff t1 l n ((bO l 176 4).tmod 3) ((bO l 176 4).tmod 3).toNat)
    bl:=bf (mc l n (bO l 177 3) (bO l 177 3).toNat)
    extend:=bO l 178 12
    cV:=bO l 179 40
    start:=bO l 180 8
    revert:=bO l 181 8
    least:=bO l 182 12
    bq:=if q < n then (uv n).set q.toNat 2 else uv n
    dw:=0
    share:=bO l 183 4 }
def bg(l:Option (List Int)):Tb:=
 {bw l with dw:=if(ff {cv with groups:=some (bS l).1} l (bS l).2 ((bO l 176 4).tmod 3) ((bO l 176 4).tmod 3).toNat)=[]then 0 else kH (bw l) (bS l).2}
def Table.Spec(C:bz) (f:Nat):Prop:=∀l:Option (List Int),C.c f [aF aD l] (.agg (bg l).cells) none
def jL(l:Option (List Int)) (k:Nat):Tb:={cv with groups:=some (bS l).1,phases:=B4 l k,bq:=uv k}
def iQ(l:Option (List Int)) (c:List Int):Tb:={jL l (bS l).2 with conflict:=c}
def rK(l:Option (List Int)):Tb:={iQ l (gG {cv with groups:=some (bS l).1} l (bS l).2)with bq:=(bw l).bq}
def xM(l:Option (List Int)) (d:List gu):Tb:={rK l with aA:=bf d}
def wG(l:Option (List Int)) (r:List Rl):Tb:={rK l with aA:=(bw l).aA,aV:=bf r}
def xN(l:Option (List Int)) (b:List Bs):Tb:={rK l with aA:=(bw l).aA,aV:=(bw l).aV,bl:=bf b}
def zH(l:Option (List Int)) (w:Int):Tb:={bw l with dw:=w}
theorem JC(p m:Nat):(dP p m).length=m:=by simp[dP]
theorem pP(l:Option (List Int)) (G:Nat):∀g,∀x∈(bA l G g).1,(x.a.getD []).length<=8/\(x.b.getD []).length<=8
 |0,x,hx=>by simp[bA]at hx
 |g+1,x,hx=>by
  simp only[bA,List.mem_append,List.mem_singleton]at hx
  rcases hx with hx|rfl
  ·exact pP l G g x hx
  ·simp only[bL,JC,bu,bX]
   omega
theorem wH(l:Option (List Int)):(bS l).2<=8:=sJ _ _ _
theorem xC(l:Option (List Int)) (G:Nat):∀g,1<=g->g<=G->G<=3->1<=(bA l G g).2
 |0,h,_,_=>by omega
 |1,_,h1,h3=>by
  simp only[bA,bu,bX,cnt]
  split<;>split<;>simp_all<;>omega
 |g+2,_,h1,h3=>by
  have:=xC l G (g+1) (by omega) (by omega) h3
  rw[bA];simp only;omega
theorem pQ(l:Option (List Int)):1<=dH l/\dH l<=3:=by
 have:=aQ l 0 (n:=3) (by decide) (by decide)
 unfold dH;omega
theorem zI(l:Option (List Int)):1<=(bS l).2:=xC l _ _ (pQ l).1 (Nat.le_refl _) (pQ l).2
theorem zJ{l:Option (List Int)} {t:Tb} (hg:t.groups=some (bS l).1) (h1:t.phases.length=8) (h2:t.conflict.length=8) (h3:t.bq.length=8) (h4:(t.aA.getD []).length<=1048576) (h5:(t.aV.getD []).length<=1048576) (h6:(t.bl.getD []).length<=1048576):t.Ok:=by
 refine⟨h1,h2,h3,?_,?_,h4,h5,h6⟩
 ·rw[hg];simp only[Option.getD_some,bS,pN];have:=pQ l;omega
 ·rw[hg];simp only[Option.getD_some]
  intro g hg'
  have:=pP _ _ _ g hg'
  omega
theorem ER(l:Option (List Int)) (n d:Int) (j:Nat):kG l n d (j+1)=kG l n d j++[iP l (180+8*(d-j)) n]:=by simp[kG,List.range_succ]
theorem wJ(l:Option (List Int)) (n d:Int) (j:Nat):(kG l n d j).length=j:=by simp[kG]
theorem Dz(t:Tb) (l:Option (List Int)) (n d:Int) (j:Nat):ff t l n d (j+1)=ff t l n d j++[oh t l (260+16*(d-j)) n]:=by simp[ff,List.range_succ]
theorem uw(t:Tb) (l:Option (List Int)) (n d:Int) (j:Nat):(ff t l n d j).length=j:=by simp[ff]
theorem ES(l:Option (List Int)) (n d:Int) (j:Nat):mc l n d (j+1)=mc l n d j++[A8 l n (d-j)]:=by simp[mc,List.range_succ]
theorem sK(l:Option (List Int)) (n d:Int) (j:Nat):(mc l n d j).length=j:=by simp[mc]
theorem gu.len(d:gu):d.cells.length=7:=rfl
theorem Bs.len(d:Bs):d.cells.length=2:=rfl
theorem dJ(l:Option (List Int)):(bw l).bq.length=8:=by
 unfold bw;simp only;split<;>simp[kr]
theorem lF(l:Option (List Int)):((bw l).aA.getD []).length<=1048576:=by
 have:=aQ l 175 (n:=9) (by decide) (by decide)
 simp only[bw,bL,wJ];omega
theorem ku(l:Option (List Int)):((bw l).aV.getD []).length<=1048576:=by
 have h:=Int.tmod_lt_of_pos (bO l 176 4) (b:=3) (by decide)
 simp only[bw,bL,uw];omega
theorem B6(l:Option (List Int)):((bw l).bl.getD []).length<=1048576:=by
 have:=aQ l 177 (n:=3) (by decide) (by decide)
 simp only[bw,bL,sK];omega
theorem pR(l:Option (List Int)):(bg l).Ok:=zJ rfl (d7 l _) (dI _) (dJ l) (lF l) (ku l) (B6 l)
section
variable{P:Program} (hm:P.follows .mixedOrders=true) {f:Nat}
include hm
theorem Table.ok {fR fP fB fF fW fD eD fr eR eB fw:Nat} (hc:cZ P f=some (mY fR fP fB fF fW fD eD fr eR eB fw)) (hR:rows.Spec (Pure P) fR) (hP:phase.Spec (Pure P) fP) (hB:beside.Spec (Pure P) fB) (hF:from.Spec (Pure P) fF) (hW:sD.Spec (Pure P) fW)
    (hD:rI.Spec (Pure P) fD) (hr:JB.Spec (Pure P) fr) (hw:wait.Spec (Pure P) fw):Table.Spec (Pure P) f:=by
  intro l
  refine aC hm hc (by show 1≤186; decide) (ay (keep:=[0,3,8,9,12,15,18]) (i:=0) ?_)
  try simp only [I,B,D,RY,↓ KW,seval,mY,Z.H,B3]
  have ok0:cv.Ok:=⟨rfl,rfl,rfl,by simp [cv],by simp [cv],by simp [cv],by simp [cv],by simp [cv]⟩
  refine ⟨rfl,ax (hR cv l ok0 rfl) ?_⟩
  have hN:=wH l
  have hN1:=zI l
  try simp only [I,B,D,RY,↓ KW,seval]
  change aw _ _ _ (⟨[(5,_),(4,.dat (I ((bS l).2:Nat)) none),(14,_),(13,_),(3,_),(2,_),(0,_)],[(5,⟨(jL l 0).cells,[]⟩),_],_,_⟩:S)
  generalize hNe:(bS l).2=N at *
  refine fe (.exit 0) (fun _:Unit=>(⟨[(4,.dat (I N) none),(3,.ptr 5 0),(0,.dat (aF aD l) none),(2,.ptr 4 0)],[(5,⟨(jL l N).cells,[]⟩),(4,⟨cv.cells,[]⟩)],[],400⟩:S)) (fun _=>True) (fun _=>rfl) ?_ ?_
  · refine aI (fun k:Nat=>(⟨[(5,.dat (I k) none),(4,.dat (I N) none),(3,.ptr 5 0),(0,.dat (aF aD l) none),(2,.ptr 4 0)],[(5,⟨(jL l k).cells,[]⟩),(4,⟨cv.cells,[]⟩)],[],400⟩:S)) (fun k=>N - k) (fun k=>k≤N) ?_ 0 (by omega) ?_
    · intro k hk A back
      have hw3:=aG (k:=k) (by omega)
      have hw2:IntKind.i64.wrap (10 + IntKind.i64.wrap (12 * (k:Int)))=10 + 12 * k:=by rw [br (n:=12 * (k:Int)) (by omega) (by omega),br (by omega) (by omega)]
      have ln1:(jL l k).Ln:=⟨d7 l k,rfl,kr k⟩
      have ln2:({ jL l k with phases:=(jL l k).phases.set k (jB l (10 + 12 * k)) }:Tb).Ln:=⟨by simp [d7,jL],rfl,kr k⟩
      try simp only [I,B,D,RY,↓ KW,seval]
      refine aq (fun h=>?_) (fun h=>?_)<;>try simp only [I,B,D,RY,↓ KW,seval,h]
      · have hkN:k < N:=by have:=of_decide_eq_true h; omega
        have hlt:k < 8:=by omega
        have hs1:=ln1.wD hlt (jB l (10 + 12 * k))
        have hs2:=ln2.sI hlt 1
        have hs3:({ ({ jL l k with phases:=(jL l k).phases.set k (jB l (10 + 12 * k)) }:Tb) with bq:=({ jL l k with phases:=(jL l k).phases.set k (jB l (10 + 12 * k)) }:Tb).bq.set k 1 }:Tb)=jL l (k + 1):=rfl
        rw [hs3] at hs2
        have hl1:=ln1.len
        have hl2:=ln2.len
        generalize ({ jL l k with phases:=(jL l k).phases.set k (jB l (10 + 12 * k)) }:Tb)=T at *
        refine ai (hP _ _) ?_
        try simp only [I,B,D,RY,↓ KW,seval,hw2,hs1]
        exact ⟨by omega,Ph.len _,by omega,by omega,by omega,by refine back (k + 1) _ (by omega) (by omega) (ah (by decide) ?_ ?_ ?_ ?_)<;>simp [LX,I,B,D,hs2,hw3]⟩
      · have:k=N:=by have:=of_decide_eq_false h; omega
        subst this
        refine bP () trivial ?_
        refine ah (by decide) ?_ ?_ ?_ ?_<;>simp [LX,I,B,D]
    · refine ah (by decide) ?_ ?_ ?_ ?_<;>simp [LX,I,B,D]
  · intro _ _
    try simp only [I,B,D,RY,↓ KW,seval]
    generalize ht1:({ cv with groups:=some (bS l).1 }:Tb)=t1 at *
    have hA:jL l N=iQ l (gG t1 l 0):=by subst hNe; rfl
    refine fe (.exit 2) (fun _:Unit=>(⟨[(4,.dat (I N) none),(3,.ptr 5 0),(0,.dat (aF aD l) none),(2,.ptr 4 0)],[(5,⟨(iQ l (gG t1 l N)).cells,[]⟩),(4,⟨cv.cells,[]⟩)],[],400⟩:S)) (fun _=>True) (fun _=>rfl) ?_ ?_
    · refine aI (fun p:Nat=>(⟨[(6,.dat (I p) none),(4,.dat (I N) none),(3,.ptr 5 0),(0,.dat (aF aD l) none),(2,.ptr 4 0)],[(5,⟨(iQ l (gG t1 l p)).cells,[]⟩),(4,⟨cv.cells,[]⟩)],[],400⟩:S)) (fun p=>N - p) (fun p=>p≤N) ?_ 0 (by omega) ?_
      · intro p hp A back
        have hw3:=aG (k:=p) (by omega)
        try simp only [I,B,D,RY,↓ KW,seval]
        refine aq (fun h=>?_) (fun h=>?_)<;>try simp only [I,B,D,RY,↓ KW,seval,h]
        · have hpN:p < N:=by have:=of_decide_eq_true h; omega
          have hlt:p < 8:=by omega
          have hcl:gG t1 l (p + 1)=jC t1 l p p (gG t1 l p):=rfl
          have hcl8:=dI (t:=t1) (l:=l) p
          generalize gG t1 l p=c0 at *
          refine aI (fun q:Nat=>(⟨[(7,.dat (I q) none),(6,.dat (I p) none),(4,.dat (I N) none),(3,.ptr 5 0),(0,.dat (aF aD l) none),(2,.ptr 4 0)],[(5,⟨(iQ l (jC t1 l p q c0)).cells,[]⟩),(4,⟨cv.cells,[]⟩)],[],400⟩:S)) (fun q=>p - q) (fun q=>q≤p) ?_ 0 (by omega) ?_
          · intro q hq A2 back2
            have hw4:=aG (k:=q) (by omega)
            have hst:jC t1 l p (q + 1) c0=gF t1 l p q (jC t1 l p q c0):=rfl
            have hc8:(jC t1 l p q c0).length=8:=by rw [rJ,hcl8]
            generalize hce:jC t1 l p q c0=c at *
            have okB:(iQ l c).Ok:=zJ rfl (d7 l _) hc8 (kr _) (by simp [iQ,jL,cv]) (by simp [iQ,jL,cv]) (by simp [iQ,jL,cv])
            have hwh:=okB.ln.whole
            have hln:=okB.ln.len
            have hbs:gz (iQ l c) p q=gz t1 p q:=by subst ht1; rfl
            have hix:IntKind.i64.wrap (IntKind.i64.wrap (110 + IntKind.i64.wrap (8 * (p:Int))) + q)=110 + 8 * p + q:=by
              rw [br (n:=8 * (p:Int)) (by omega) (by omega),br (n:=110 + 8 * (p:Int)) (by omega) (by omega),br (by omega) (by omega)]
            try simp only [I,B,D,RY,↓ KW,seval]
            refine aq (fun h2=>?_) (fun h2=>?_)<;>try simp only [I,B,D,RY,↓ KW,seval,hwh,h2]
            · have hq8:q < p:=by have:=of_decide_eq_true h2; omega
              refine ai (hB _ _ _ okB) ?_
              try simp only [I,B,D,RY,↓ KW,seval,hbs]
              repeat' (first | (refine ai (hF _ _ _ (by decide)) ?_; try simp only [I,B,D,RY,↓ KW,seval,hix]) | (((first | refine bB ?_ ?_ | refine aq ?_ ?_ | refine cO ?_ ?_)<;>intro h)<;>try simp only [I,B,D,RY,↓ KW,seval,hix,h]))
              · have hb:gz t1 p q=false:=by simp_all
                have hcc:pO t1 l p q=true:=by simp only [pO,hb]; simpa using h
                have hcs:gF t1 l p q c=(c.set p (jd (A7 c p) q)).set q (jd (A7 (c.set p (jd (A7 c p) q)) q) p):=by simp only [gF,hcc,if_true]
                have g1:c[p]? = some (A7 c p):=by simp [A7,show p < c.length by omega]
                have g2:(c.set p (jd (A7 c p) q))[q]? = some (A7 (c.set p (jd (A7 c p) q)) q):=by simp [A7,show q < c.length by omega]
                have ln2:(iQ l (c.set p (jd (A7 c p) q))).Ln:=⟨d7 l _,by simp [iQ,hc8],kr _⟩
                have l1:=okB.ln.rm (t:=iQ l c) g1
                have l2:=ln2.rm g2
                have hs1:setCells (iQ l c).cells (105 + p) [I (jd (A7 c p) q)]=(iQ l (c.set p (jd (A7 c p) q))).cells:=okB.ln.mG hlt _
                have hs2:setCells (iQ l (c.set p (jd (A7 c p) q))).cells (105 + q) [I (jd (A7 (c.set p (jd (A7 c p) q)) q) p)]=(iQ l (gF t1 l p q c)).cells:=by rw [hcs]; exact ln2.mG (by omega) _
                have hln2:=ln2.len
                rw [← hst] at hs2
                simp only [I] at hs1 hs2
                generalize A7 (c.set p (jd (A7 c p) q)) q=v2 at *
                generalize A7 c p=v1 at *
                generalize c.set p (jd v1 q)=c2 at *
                refine ⟨by omega,?_⟩
                try simp only [I,B,D,RY,↓ KW,seval,l1]
                refine ai (hW _ _) ?_
                try simp only [I,B,D,RY,↓ KW,seval,hs1]
                refine ⟨by omega,by omega,by omega,?_⟩
                try simp only [I,B,D,RY,↓ KW,seval,l2,hs1]
                refine ai (hW _ _) ?_
                try simp only [I,B,D,RY,↓ KW,seval,hs1,hs2]
                exact ⟨by omega,by omega,by refine back2 (q + 1) _ (by omega) (by omega) (ah (by decide) ?_ ?_ ?_ ?_)<;>simp [LX,I,B,D,hw4]⟩
              · have hcs:gF t1 l p q c=c:=by
                  have hcc:pO t1 l p q=false:=by simp only [pO]; simp_all
                  simp [gF,hcc]
                refine back2 (q + 1) _ (by omega) (by omega) (ah (by decide) ?_ ?_ ?_ ?_)<;>simp [LX,I,B,D,hst,hcs,hw4]
              · have hcs:gF t1 l p q c=c:=by
                  have hcc:pO t1 l p q=false:=by simp only [pO]; simp_all
                  simp [gF,hcc]
                refine back2 (q + 1) _ (by omega) (by omega) (ah (by decide) ?_ ?_ ?_ ?_)<;>simp [LX,I,B,D,hst,hcs,hw4]
            · have:q=p:=by have:=of_decide_eq_false h2; omega
              subst this
              refine back (q + 1) _ (by omega) (by omega) (ah (by decide) ?_ ?_ ?_ ?_)<;>simp [LX,I,B,D,hcl,hce,hw3]
          · refine ah (by decide) ?_ ?_ ?_ ?_<;>simp [LX,I,B,D,jC]
        · have:p=N:=by have:=of_decide_eq_false h; omega
          subst this
          refine bP () trivial ?_
          refine ah (by decide) ?_ ?_ ?_ ?_<;>simp [LX,I,B,D]
      · refine ah (by decide) ?_ ?_ ?_ ?_<;>simp [LX,I,B,D,hA]
    · intro _ _
      have hn1:IntKind.i64.wrap ((N:Int) + 1)=N + 1:=aG (by omega)
      have hq:=aQ l 174 (n:=(N:Int) + 1) (by omega) (by omega)
      have okB:(iQ l (gG t1 l N)).Ok:=zJ rfl (d7 l _) (dI _) (kr _) (by simp [iQ,jL,cv]) (by simp [iQ,jL,cv]) (by simp [iQ,jL,cv])
      have hln:=okB.ln.len
      have hpre:(bw l).bq=if bO l 174 (N + 1) < N then (uv N).set (bO l 174 (N + 1)).toNat 2 else uv N:=by subst hNe; rfl
      have hC:rK l={ iQ l (gG t1 l N) with bq:=(bw l).bq }:=by subst hNe; subst ht1; rfl
      have hfB:(iQ l (gG t1 l N)).bq=uv N:=by subst hNe; rfl
      rw [IT]
      refine fe .normal (fun _:Unit=>(⟨[(4,.dat (I N) none),(3,.ptr 5 0),(0,.dat (aF aD l) none),(2,.ptr 4 0)],[(5,⟨(rK l).cells,[]⟩),(4,⟨cv.cells,[]⟩)],[],400⟩:S)) (fun _=>True) (fun _=>rfl) ?_ ?_
      · try simp only [I,B,D,RY,↓ KW,seval]
        refine ai (hF _ _ _ (by omega)) ?_
        rw [hn1]
        generalize bO l 174 (N + 1)=q at *
        try simp only [I,B,D,RY,↓ KW,seval]
        refine aq (fun h=>?_) (fun h=>?_)<;>try simp only [I,B,D,RY,↓ KW,seval,h]
        · have hqN:q < N:=of_decide_eq_true h
          rw [if_pos hqN] at hpre
          have hs1:=okB.ln.sI (i:=q.toNat) (by omega) 2
          have e:({ iQ l (gG t1 l N) with bq:=(iQ l (gG t1 l N)).bq.set q.toNat 2 }:Tb)=rK l:=by rw [hC,hfB,hpre]
          rw [e] at hs1
          simp only [I] at hs1
          refine ⟨by omega,by omega,?_⟩
          refine bP () trivial ?_
          refine ah (by decide) ?_ ?_ ?_ ?_<;>simp [LX,I,B,D,hs1]
        · have hqN:¬ q < N:=of_decide_eq_false h
          rw [if_neg hqN] at hpre
          have e:iQ l (gG t1 l N)=rK l:=by rw [hC,hpre,← hfB]
          refine bP () trivial ?_
          refine ah (by decide) ?_ ?_ ?_ ?_<;>simp [LX,I,B,D,e]
      · intro _ _
        have hd:=aQ l 175 (n:=9) (by decide) (by decide)
        have hD0:rK l=xM l []:=rfl
        have hDe:xM l (kG l N (bO l 175 9) (bO l 175 9).toNat)=wG l []:=by subst hNe; rfl
        try simp only [I,B,D,RY,↓ KW,seval]
        refine ai (hF _ _ _ (by decide)) ?_
        generalize bO l 175 9=d at *
        try simp only [I,B,D,RY,↓ KW,seval]
        refine fe (.exit 6) (fun _:Unit=>(⟨[(4,.dat (I N) none),(3,.ptr 5 0),(0,.dat (aF aD l) none),(2,.ptr 4 0)],[(5,⟨(xM l (kG l N d d.toNat)).cells,[]⟩),(4,⟨cv.cells,[]⟩)],[],400⟩:S)) (fun _=>True) (fun _=>rfl) ?_ ?_
        · refine aI (fun j:Nat=>(⟨[(9,.dat (I (d - j)) none),(4,.dat (I N) none),(3,.ptr 5 0),(0,.dat (aF aD l) none),(2,.ptr 4 0)],[(5,⟨(xM l (kG l N d j)).cells,if kG l N d j=[] then [] else [(113,0)]⟩),(4,⟨cv.cells,[]⟩)],bE (kG l N d j) 0 eD,400⟩:S)) (fun j=>d.toNat - j) (fun j=>j≤d.toNat) ?_ 0 (by omega) ?_
          · intro j hj A back
            have hw3:IntKind.i64.wrap (d - j - 1)=d - ((j + 1:Nat):Int):=by rw [br (by omega) (by omega)]; omega
            have hix:IntKind.i64.wrap (180 + IntKind.i64.wrap (8 * (d - (j:Int))))=180 + 8 * (d - j):=by rw [br (n:=8 * (d - (j:Int))) (by omega) (by omega),br (by omega) (by omega)]
            have hnext:=ER  l N d j
            have hlen:(kG l N d j).length=j:=wJ ..
            generalize hL:kG l N d j=L at *
            generalize hx:iP l (180 + 8 * (d - j)) N=x at *
            have Am:(xM l L).Ok:=zJ rfl (d7 l _) (dI _) (dJ l) (by simp [xM,rK,iQ,jL,cv,bL,lF]; try omega) (by simp [xM,rK,iQ,jL,cv,bL,ku]; try omega) (by simp [xM,rK,iQ,jL,cv,bL]; try omega)
            have ln:=Am.ln
            have hln:=ln.len
            have hwh:=ln.whole
            have hat:=ln.zE
            have hset:setCells (xM l L).cells 113 [aF gu.cells (some (L++[x]))]=(xM l (L++[x])).cells:=by rw [ln.vw (some (L++[x]))]; simp [xM,bf]
            have hatr:(xM l L).aA=bf L:=rfl
            rw [hatr] at hat
            simp only [aN,List.map_append,List.map_cons,List.map_nil] at hset
            cases L with
            | nil =>
              simp only [List.map_nil,List.nil_append,bf,if_true,aS] at hset hat hnext
              try simp only [I,B,D,RY,↓ KW,seval,bf,bE]
              refine aq (fun h=>?_) (fun h=>?_)<;>try simp only [I,B,D,RY,↓ KW,seval,hat,hwh,h]
              · have hj1:(0:Int) < d - j:=of_decide_eq_true h
                refine ai (hD _ _ _ (by omega)) ?_
                try simp only [I,B,D,RY,↓ KW,seval,hix,hx,gu.len]
                try simp only [I,B,D,RY,↓ KW,seval,hset]
                refine ⟨by omega,?_⟩
                refine back (j + 1) _ (by omega) (by omega) (ah (by decide) ?_ ?_ ?_ ?_)<;>simp [LX,I,B,D,hnext,hw3,bf]
              · have hj1:¬ (0:Int) < d - j:=of_decide_eq_false h
                have:j=d.toNat:=by omega
                rw [← this,hL]
                refine bP () trivial ?_
                refine ah (by decide) ?_ ?_ ?_ ?_<;>simp [LX,I,B,D,bf]
            | cons y ys =>
              simp only [bf,reduceCtorEq,if_false,aN] at hset hat hnext
              try simp only [I,B,D,RY,↓ KW,seval,bf,bE]
              refine aq (fun h=>?_) (fun h=>?_)<;>try simp only [I,B,D,RY,↓ KW,seval,hat,hwh,h]
              · have hj1:(0:Int) < d - j:=of_decide_eq_true h
                refine ai (hD _ _ _ (by omega)) ?_
                try simp only [I,B,D,RY,↓ KW,seval,hix,hx,gu.len]
                try simp only [I,B,D,RY,↓ KW,seval,hset,gu.len]
                refine ⟨by simp at hlen ⊢; omega,by omega,?_⟩
                refine back (j + 1) _ (by omega) (by omega) (ah (by decide) ?_ ?_ ?_ ?_)<;>simp [LX,I,B,D,hnext,hw3,bf]
              · have hj1:¬ (0:Int) < d - j:=of_decide_eq_false h
                have:j=d.toNat:=by omega
                rw [← this,hL]
                refine bP () trivial ?_
                refine ah (by decide) ?_ ?_ ?_ ?_<;>simp [LX,I,B,D,bf]
          · refine ah (by decide) ?_ ?_ ?_ ?_<;>simp [LX,I,B,D,hD0,kG,bf]
        · intro _ _
          have hr4:=aQ l 176 (n:=4) (by decide) (by decide)
          have hr3:=Int.tmod_lt_of_pos (bO l 176 4) (b:=3) (by decide)
          have hr0:=Int.tmod_nonneg 3 hr4.1
          have hEe:wG l (ff t1 l N ((bO l 176 4).tmod 3) ((bO l 176 4).tmod 3).toNat)=xN l []:=by subst hNe; subst ht1; rfl
          have hRl:(bw l).aV=bf (ff t1 l N ((bO l 176 4).tmod 3) ((bO l 176 4).tmod 3).toNat):=by subst hNe; subst ht1; rfl
          have hTab:bg l=zH l (if ff t1 l N ((bO l 176 4).tmod 3) ((bO l 176 4).tmod 3).toNat=[] then 0 else kH (bw l) N):=by subst hNe; subst ht1; rfl
          try simp only [I,B,D,RY,↓ KW,seval]
          refine ai (hF _ _ _ (by decide)) ?_
          try simp only [I,B,D,RY,↓ KW,seval]
          generalize (bO l 176 4).tmod 3=r at *
          refine fe (.exit 8) (fun _:Unit=>(⟨[(4,.dat (I N) none),(3,.ptr 5 0),(0,.dat (aF aD l) none),(2,.ptr 4 0)],[(5,⟨(wG l (ff t1 l N r r.toNat)).cells,[]⟩),(4,⟨cv.cells,[]⟩)],[],400⟩:S)) (fun _=>True) (fun _=>rfl) ?_ ?_
          · refine aI (fun j:Nat=>(⟨[(10,.dat (I (r - j)) none),(4,.dat (I N) none),(3,.ptr 5 0),(0,.dat (aF aD l) none),(2,.ptr 4 0)],[(5,⟨(wG l (ff t1 l N r j)).cells,if ff t1 l N r j=[] then [] else [(114,0)]⟩),(4,⟨cv.cells,[]⟩)],bE (ff t1 l N r j) 0 eR,400⟩:S)) (fun j=>r.toNat - j) (fun j=>j≤r.toNat) ?_ 0 (by omega) ?_
            · intro j hj A back
              have hw3:IntKind.i64.wrap (r - j - 1)=r - ((j + 1:Nat):Int):=by rw [br (by omega) (by omega)]; omega
              have hix:IntKind.i64.wrap (260 + IntKind.i64.wrap (16 * (r - (j:Int))))=260 + 16 * (r - j):=by rw [br (n:=16 * (r - (j:Int))) (by omega) (by omega),br (by omega) (by omega)]
              have hro:∀ L',oh (wG l L') l (260 + 16 * (r - j)) N=oh t1 l (260 + 16 * (r - j)) N:=fun _=>by subst ht1; rfl
              have hnext:=Dz  t1 l N r j
              have hlen:(ff t1 l N r j).length=j:=uw ..
              generalize hL:ff t1 l N r j=L at *
              generalize hx:oh t1 l (260 + 16 * (r - j)) N=x at *
              have Am:(wG l L).Ok:=zJ rfl (d7 l _) (dI _) (dJ l) (by simp [wG,rK,iQ,jL,cv,bL,lF]; try omega) (by simp [wG,rK,iQ,jL,cv,bL,ku]; try omega) (by simp [wG,rK,iQ,jL,cv,bL]; try omega)
              have ln:=Am.ln
              have hln:=ln.len
              have hwh:=ln.whole
              have hat:=ln.xB
              have hset:setCells (wG l L).cells 114 [aF Rl.cells (some (L++[x]))]=(wG l (L++[x])).cells:=by rw [ln.wE (some (L++[x]))]; simp [wG,bf]
              have hatr:(wG l L).aV=bf L:=rfl
              rw [hatr] at hat
              simp only [aN,List.map_append,List.map_cons,List.map_nil] at hset
              cases L with
              | nil =>
                simp only [List.map_nil,List.nil_append,bf,if_true,aS] at hset hat hnext
                try simp only [I,B,D,RY,↓ KW,seval,bf,bE]
                refine aq (fun h=>?_) (fun h=>?_)<;>try simp only [I,B,D,RY,↓ KW,seval,hat,hwh,h]
                · have hj1:(0:Int) < r - j:=of_decide_eq_true h
                  refine ai (hr _ _ _ _ Am (by omega) (by omega)) ?_
                  try simp only [I,B,D,RY,↓ KW,seval,hix,hro,hx,Rl.len]
                  try simp only [I,B,D,RY,↓ KW,seval,hset]
                  refine ⟨by omega,?_⟩
                  refine back (j + 1) _ (by omega) (by omega) (ah (by decide) ?_ ?_ ?_ ?_)<;>simp [LX,I,B,D,hnext,hw3,bf]
                · have hj1:¬ (0:Int) < r - j:=of_decide_eq_false h
                  have:j=r.toNat:=by omega
                  rw [← this,hL]
                  refine bP () trivial ?_
                  refine ah (by decide) ?_ ?_ ?_ ?_<;>simp [LX,I,B,D,bf]
              | cons y ys =>
                simp only [bf,reduceCtorEq,if_false,aN] at hset hat hnext
                try simp only [I,B,D,RY,↓ KW,seval,bf,bE]
                refine aq (fun h=>?_) (fun h=>?_)<;>try simp only [I,B,D,RY,↓ KW,seval,hat,hwh,h]
                · have hj1:(0:Int) < r - j:=of_decide_eq_true h
                  refine ai (hr _ _ _ _ Am (by omega) (by omega)) ?_
                  try simp only [I,B,D,RY,↓ KW,seval,hix,hro,hx,Rl.len]
                  try simp only [I,B,D,RY,↓ KW,seval,hset,Rl.len]
                  refine ⟨by simp at hlen ⊢; omega,by omega,?_⟩
                  refine back (j + 1) _ (by omega) (by omega) (ah (by decide) ?_ ?_ ?_ ?_)<;>simp [LX,I,B,D,hnext,hw3,bf]
                · have hj1:¬ (0:Int) < r - j:=of_decide_eq_false h
                  have:j=r.toNat:=by omega
                  rw [← this,hL]
                  refine bP () trivial ?_
                  refine ah (by decide) ?_ ?_ ?_ ?_<;>simp [LX,I,B,D,bf]
            · refine ah (by decide) ?_ ?_ ?_ ?_<;>simp [LX,I,B,D,hDe,ff,bf]
          · intro _ _
            have hb3:=aQ l 177 (n:=3) (by decide) (by decide)
            have hFe:xN l (mc l N (bO l 177 3) (bO l 177 3).toNat)={ bw l with extend:=0,cV:=0,start:=0,revert:=0,least:=0,share:=0 }:=by subst hNe; rfl
            have hu:0≤IntKind.u64.wrap (N:Int):=by rw [IntKind.wrap]; simp [IntKind.signed]; omega
            try simp only [I,B,D,RY,↓ KW,seval]
            refine ai (hF _ _ _ (by decide)) ?_
            generalize bO l 177 3=b at *
            try simp only [I,B,D,RY,↓ KW,seval]
            refine fe (.exit 10) (fun _:Unit=>(⟨[(4,.dat (I N) none),(3,.ptr 5 0),(0,.dat (aF aD l) none),(2,.ptr 4 0)],[(5,⟨(xN l (mc l N b b.toNat)).cells,[]⟩),(4,⟨cv.cells,[]⟩)],[],400⟩:S)) (fun _=>True) (fun _=>rfl) ?_ ?_
            · refine aI (fun j:Nat=>(⟨[(11,.dat (I (b - j)) none),(4,.dat (I N) none),(3,.ptr 5 0),(0,.dat (aF aD l) none),(2,.ptr 4 0)],[(5,⟨(xN l (mc l N b j)).cells,if mc l N b j=[] then [] else [(115,0)]⟩),(4,⟨cv.cells,[]⟩)],bE (mc l N b j) 0 eB,400⟩:S)) (fun j=>b.toNat - j) (fun j=>j≤b.toNat) ?_ 0 (by omega) ?_
              · intro j hj A back
                have hw3:IntKind.i64.wrap (b - j - 1)=b - ((j + 1:Nat):Int):=by rw [br (by omega) (by omega)]; omega
                have hi1:IntKind.i64.wrap (330 + IntKind.i64.wrap (2 * (b - (j:Int))))=330 + 2 * (b - j):=by rw [br (n:=2 * (b - (j:Int))) (by omega) (by omega),br (by omega) (by omega)]
                have hi2:IntKind.i64.wrap (331 + IntKind.i64.wrap (2 * (b - (j:Int))))=331 + 2 * (b - j):=by rw [br (n:=2 * (b - (j:Int))) (by omega) (by omega),br (by omega) (by omega)]
                have hbx:(A8 l N (b - j)).cells=[AV.int .i64 (if oa .i64 (bO l (330 + 2 * (b - j)) 256) (IntKind.i64.wrap (IntKind.i64.wrap (1 * 2 ^ min (IntKind.u64.wrap (N:Int)).toNat IntKind.i64.bits) - 1)) > 1 then oa .i64 (bO l (330 + 2 * (b - j)) 256) (IntKind.i64.wrap (IntKind.i64.wrap (1 * 2 ^ min (IntKind.u64.wrap (N:Int)).toNat IntKind.i64.bits) - 1)) else 1),AV.int .i64 (IntKind.i64.wrap (1 + bO l (331 + 2 * (b - j)) 30))]:=rfl
                have hnext:=ES  l N b j
                have hlen:(mc l N b j).length=j:=sK ..
                generalize hL:mc l N b j=L at *
                generalize hx:A8 l N (b - j)=x at *
                have Am:(xN l L).Ok:=zJ rfl (d7 l _) (dI _) (dJ l) (by simp [xN,rK,iQ,jL,cv,bL,lF]; try omega) (by simp [xN,rK,iQ,jL,cv,bL,ku]; try omega) (by simp [xN,rK,iQ,jL,cv,bL]; try omega)
                have ln:=Am.ln
                have hln:=ln.len
                have hwh:=ln.whole
                have hat:=ln.zF
                have hset:setCells (xN l L).cells 115 [aF Bs.cells (some (L++[x]))]=(xN l (L++[x])).cells:=by rw [ln.wF (some (L++[x]))]; simp [xN,bf]
                have hatr:(xN l L).bl=bf L:=rfl
                rw [hatr] at hat
                simp only [aN,List.map_append,List.map_cons,List.map_nil] at hset
                cases L with
                | nil =>
                  simp only [List.map_nil,List.nil_append,bf,if_true,aS] at hset hat hnext
                  try simp only [I,B,D,RY,↓ KW,seval,bf,bE]
                  refine aq (fun h=>?_) (fun h=>?_)<;>try simp only [I,B,D,RY,↓ KW,seval,hat,hwh,h]
                  · have hj1:(0:Int) < b - j:=of_decide_eq_true h
                    refine ai (hF _ _ _ (by decide)) ?_
                    try simp only [I,B,D,RY,↓ KW,seval,hi1]
                    refine ⟨hu,?_⟩
                    refine ai (hF _ _ _ (by decide)) ?_
                    try simp only [I,B,D,RY,↓ KW,seval,hi2,hi1]
                    simp only [gt_iff_lt] at hbx ⊢
                    rw [hbx] at hset
                    try simp only [I,B,D,RY,↓ KW,seval,hset]
                    refine ⟨by omega,?_⟩
                    refine back (j + 1) _ (by omega) (by omega) (ah (by decide) ?_ ?_ ?_ ?_)<;>simp [LX,I,B,D,hnext,hw3,bf]
                  · have hj1:¬ (0:Int) < b - j:=of_decide_eq_false h
                    have:j=b.toNat:=by omega
                    rw [← this,hL]
                    refine bP () trivial ?_
                    refine ah (by decide) ?_ ?_ ?_ ?_<;>simp [LX,I,B,D,bf]
                | cons y ys =>
                  simp only [bf,reduceCtorEq,if_false,aN] at hset hat hnext
                  try simp only [I,B,D,RY,↓ KW,seval,bf,bE]
                  refine aq (fun h=>?_) (fun h=>?_)<;>try simp only [I,B,D,RY,↓ KW,seval,hat,hwh,h]
                  · have hj1:(0:Int) < b - j:=of_decide_eq_true h
                    refine ai (hF _ _ _ (by decide)) ?_
                    try simp only [I,B,D,RY,↓ KW,seval,hi1]
                    refine ⟨hu,?_⟩
                    refine ai (hF _ _ _ (by decide)) ?_
                    try simp only [I,B,D,RY,↓ KW,seval,hi2,hi1]
                    simp only [gt_iff_lt] at hbx ⊢
                    rw [hbx] at hset
                    try simp only [I,B,D,RY,↓ KW,seval,hset,Bs.len]
                    refine ⟨by simp at hlen ⊢; omega,by omega,?_⟩
                    refine back (j + 1) _ (by omega) (by omega) (ah (by decide) ?_ ?_ ?_ ?_)<;>simp [LX,I,B,D,hnext,hw3,bf]
                  · have hj1:¬ (0:Int) < b - j:=of_decide_eq_false h
                    have:j=b.toNat:=by omega
                    rw [← this,hL]
                    refine bP () trivial ?_
                    refine ah (by decide) ?_ ?_ ?_ ?_<;>simp [LX,I,B,D,bf]
              · refine ah (by decide) ?_ ?_ ?_ ?_<;>simp [LX,I,B,D,hEe,mc,bf]
            · intro _ _
              have n0:({ bw l with extend:=0,cV:=0,start:=0,revert:=0,least:=0,share:=0 }:Tb).Ln:=⟨d7 l _,dI _,dJ l⟩
              have n1:({ bw l with cV:=0,start:=0,revert:=0,least:=0,share:=0 }:Tb).Ln:=⟨d7 l _,dI _,dJ l⟩
              have n2:({ bw l with start:=0,revert:=0,least:=0,share:=0 }:Tb).Ln:=⟨d7 l _,dI _,dJ l⟩
              have n3:({ bw l with revert:=0,least:=0,share:=0 }:Tb).Ln:=⟨d7 l _,dI _,dJ l⟩
              have n4:({ bw l with least:=0,share:=0 }:Tb).Ln:=⟨d7 l _,dI _,dJ l⟩
              have n5:({ bw l with share:=0 }:Tb).Ln:=⟨d7 l _,dI _,dJ l⟩
              have s0:setCells ({ bw l with extend:=0,cV:=0,start:=0,revert:=0,least:=0,share:=0 }:Tb).cells 116 [AV.int .i64 (bO l 178 12)]=({ bw l with cV:=0,start:=0,revert:=0,least:=0,share:=0 }:Tb).cells:=(n0.fy (bO l 178 12)).1
              have s1:setCells ({ bw l with cV:=0,start:=0,revert:=0,least:=0,share:=0 }:Tb).cells 117 [AV.int .i64 (bO l 179 40)]=({ bw l with start:=0,revert:=0,least:=0,share:=0 }:Tb).cells:=(n1.fy (bO l 179 40)).2.1
              have s2:setCells ({ bw l with start:=0,revert:=0,least:=0,share:=0 }:Tb).cells 118 [AV.int .i64 (bO l 180 8)]=({ bw l with revert:=0,least:=0,share:=0 }:Tb).cells:=(n2.fy (bO l 180 8)).2.2.1
              have s3:setCells ({ bw l with revert:=0,least:=0,share:=0 }:Tb).cells 119 [AV.int .i64 (bO l 181 8)]=({ bw l with least:=0,share:=0 }:Tb).cells:=(n3.fy (bO l 181 8)).2.2.2.1
              have s4:setCells ({ bw l with least:=0,share:=0 }:Tb).cells 120 [AV.int .i64 (bO l 182 12)]=({ bw l with share:=0 }:Tb).cells:=(n4.fy (bO l 182 12)).2.2.2.2
              have s5:setCells ({ bw l with share:=0 }:Tb).cells 130 [AV.int .i64 (bO l 183 4)]=(bw l).cells:=(n5.oO (bO l 183 4)).2
              have k0:=n0.len
              have k1:=n1.len
              have k2:=n2.len
              have k3:=n3.len
              have k4:=n4.len
              have k5:=n5.len
              rw [hFe]
              generalize ({ bw l with extend:=0,cV:=0,start:=0,revert:=0,least:=0,share:=0 }:Tb)=T0 at *
              generalize ({ bw l with cV:=0,start:=0,revert:=0,least:=0,share:=0 }:Tb)=T1 at *
              generalize ({ bw l with start:=0,revert:=0,least:=0,share:=0 }:Tb)=T2 at *
              generalize ({ bw l with revert:=0,least:=0,share:=0 }:Tb)=T3 at *
              generalize ({ bw l with least:=0,share:=0 }:Tb)=T4 at *
              generalize ({ bw l with share:=0 }:Tb)=T5 at *
              have c0:117≤T0.cells.length:=by omega
              have c1:118≤T1.cells.length:=by omega
              have c2:119≤T2.cells.length:=by omega
              have c3:120≤T3.cells.length:=by omega
              have c4:121≤T4.cells.length:=by omega
              have c5:131≤T5.cells.length:=by omega
              try simp only [I,B,D,RY,↓ KW,seval]
              refine ai (hF _ _ _ (by decide)) ?_
              try simp only [I,B,D,RY,↓ KW,seval,s0,s1,s2,s3,s4,s5,c0,c1,c2,c3,c4,c5]
              refine ai (hF _ _ _ (by decide)) ?_
              try simp only [I,B,D,RY,↓ KW,seval,s0,s1,s2,s3,s4,s5,c0,c1,c2,c3,c4,c5]
              refine ai (hF _ _ _ (by decide)) ?_
              try simp only [I,B,D,RY,↓ KW,seval,s0,s1,s2,s3,s4,s5,c0,c1,c2,c3,c4,c5]
              refine ai (hF _ _ _ (by decide)) ?_
              try simp only [I,B,D,RY,↓ KW,seval,s0,s1,s2,s3,s4,s5,c0,c1,c2,c3,c4,c5]
              refine ai (hF _ _ _ (by decide)) ?_
              try simp only [I,B,D,RY,↓ KW,seval,s0,s1,s2,s3,s4,s5,c0,c1,c2,c3,c4,c5]
              refine ai (hF _ _ _ (by decide)) ?_
              try simp only [I,B,D,RY,↓ KW,seval,s0,s1,s2,s3,s4,s5,c0,c1,c2,c3,c4,c5]
              have hT:bg l=zH l (if ff t1 l N r r.toNat=[] then 0 else kH (bw l) N):=hTab
              have hW0:bw l=zH l (if ff t1 l N r r.toNat=[] then 0 else kH (bw l) 0):=by
                have:(if ff t1 l N r r.toNat=[] then (0:Int) else kH (bw l) 0)=0:=by split<;>rfl
                rw [this]; rfl
              replace hW0:=congrArg Tb.cells hW0
              generalize ff t1 l N r r.toNat=R at *
              refine fe (.exit 12) (fun _:Unit=>(⟨[(3,.ptr 5 0),(2,.ptr 4 0)],[(5,⟨(bg l).cells,[]⟩),(4,⟨cv.cells,[]⟩)],[],400⟩:S)) (fun _=>True) (fun _=>rfl) ?_ ?_
              · refine aI (fun k:Nat=>(⟨[(12,.dat (I k) none),(4,.dat (I N) none),(3,.ptr 5 0),(2,.ptr 4 0)],[(5,⟨(zH l (if R=[] then 0 else kH (bw l) k)).cells,[]⟩),(4,⟨cv.cells,[]⟩)],[],400⟩:S)) (fun k=>N - k) (fun k=>k≤N∧(R=[]→k=0)) ?_ 0 (by simp) ?_
                · intro k ⟨hk,hR0⟩ A back
                  have hw3:=aG (k:=k) (by omega)
                  have hwt:∀ w,l5 (zH l w) k=l5 (bw l) k:=fun _=>rfl
                  have hnx:kH (bw l) (k + 1)=if l5 (bw l) k > kH (bw l) k then l5 (bw l) k else kH (bw l) k:=rfl
                  generalize hwv:(if R=[] then (0:Int) else kH (bw l) k)=wv at *
                  have okW:(zH l wv).Ok:=zJ rfl (d7 l _) (dI _) (dJ l) (lF l) (ku l) (by have:=aQ l 177 (n:=3) (by decide) (by decide); simp only [zH,bw,bL,sK]; omega)
                  have ln:=okW.ln
                  have hln:=ln.len
                  have hwh:=ln.whole
                  have hat:=ln.xB
                  have hat2:=ln.Vl
                  have hrr:(zH l wv).aV=bf R:=hRl
                  have hww:(zH l wv).dw=wv:=rfl
                  rw [hrr] at hat
                  rw [hww] at hat2
                  have hset:setCells (zH l wv).cells 129 [AV.int .i64 (if l5 (bw l) k > wv then l5 (bw l) k else wv)]=(zH l (if l5 (bw l) k > wv then l5 (bw l) k else wv)).cells:=(ln.oO _).1
                  have hmk:=bL R
                  try simp only [I,B,D,RY,↓ KW,seval]
                  repeat' (((first | refine bB ?_ ?_ | refine aq ?_ ?_ | refine cO ?_ ?_)<;>intro h)<;>try simp only [I,B,D,RY,↓ KW,seval,hat,hmk,h])
                  · have hRl0:=of_decide_eq_true h
                    have hkN:(k:Int) < N:=by rename_i h1; exact of_decide_eq_true h1
                    have hne:R≠[]:=by intro e; rw [e] at hRl0; simp at hRl0
                    rw [if_neg hne] at hwv
                    subst hwv
                    rw [← hnx] at hset
                    try simp only [I,B,D,RY,↓ KW,seval,hat2,hwh]
                    refine ai (hw _ _ okW) ?_
                    try simp only [I,B,D,RY,↓ KW,seval,hwt,← hnx,hset,gt_iff_lt]
                    refine ⟨by omega,?_⟩
                    refine back (k + 1) _ ⟨by omega,fun e=>absurd e hne⟩ (by omega) ?_
                    refine ah (by decide) ?_ ?_ ?_ ?_<;>simp [LX,I,B,D,hne,hw3]
                  · have hRl0:=of_decide_eq_false h
                    have hR0':R=[]:=List.eq_nil_of_length_eq_zero (by omega)
                    rw [if_pos hR0'] at hwv hT
                    subst hwv
                    refine bP () trivial ?_
                    refine ah (by decide) ?_ ?_ ?_ ?_<;>simp [LX,I,B,D,hT]
                  · have hkN:k=N:=by have:=of_decide_eq_false h; omega
                    rw [← hkN,hwv] at hT
                    refine bP () trivial ?_
                    refine ah (by decide) ?_ ?_ ?_ ?_<;>simp [LX,I,B,D,hT]
                · refine ah (by decide) ?_ ?_ ?_ ?_<;>simp [LX,I,B,D,hW0]
              · intro _ _
                have okZ:(bg l).Ok:=pR l
                have hlz:=okZ.ln.len
                have hwz:=okZ.ln.whole
                have hl0:=ok0.ln.len
                have hsz:setCells cv.cells 0 (bg l).cells=(bg l).cells:=dW (by omega)
                try simp only [I,B,D,RY,↓ KW,seval,hwz,hlz,hl0,hsz]
end
def bv(s:Int):BitVec 64:=BitVec.ofInt 64 s
def tb(s:Int) (i:Nat):Bool:=(bv s).getLsbD i
theorem JD(n:Int):IntKind.i64.wrap n%18446744073709551616=n%18446744073709551616:=by
 simp only[IntKind.wrap,IntKind.bits,IntKind.signed];simp
 split<;>omega
theorem B7(n:Int):bv (IntKind.i64.wrap n)=bv n:=by
 unfold bv
 apply BitVec.eq_of_toNat_eq
 have:=JD n
 simp only[BitVec.toNat_ofInt]
 have e:((2^64:Nat):Int)=18446744073709551616:=by decide
 rw[e,this]
theorem B8(b:BitVec 64):bv (b.toNat:Int)=b:=by
 unfold bv;rw[BitVec.ofInt_natCast];simp
theorem bv_and(x y:Int):bv (oa .i64 x y)=bv x&&&bv y:=by
 simp only[oa,B7];exact B8 _
theorem Vm(x y:Int):bv (K0 .i64 x y)=bv x|||bv y:=by
 simp only[K0,B7];exact B8 _
theorem G9(x y:Int):bv (nP .i64 x y)=bv x&&& ~~~(bv y):=by
 simp only[nP,B7];exact B8 _
theorem ET(x y:Int) (i:Nat):tb (oa .i64 x y) i=(tb x i&&tb y i):=by simp[tb,bv_and]
theorem Vn(x y:Int) (i:Nat):tb (K0 .i64 x y) i=(tb x i||tb y i):=by simp[tb,Vm]
theorem A9(x y:Int) (i:Nat) (h:i<64):tb (nP .i64 x y) i=(tb x i&& !tb y i):=by simp[tb,G9,h]
theorem x4(i:Nat):tb 0 i=false:=by simp[tb,bv]
theorem JE{p:Nat} (hp:p<8) (i:Nat):tb (2^p) i=decide (i=p):=by
 have e:bv (2^p)=BitVec.twoPow 64 p:=by
  have:p=0\/p=1\/p=2\/p=3\/p=4\/p=5\/p=6\/p=7:=by omega
  rcases this with rfl|rfl|rfl|rfl|rfl|rfl|rfl|rfl<;>rfl
 simp only[tb,e,BitVec.getLsbD_twoPow]
 by_cases h:i=p<;>simp[h]
 ·omega
 ·omega
theorem FR(l:List Int):∀k,k<=8->∀i,tb (uh l k) i=(decide (i<k)&&decide ((i:Int)∈l))
 |0,_,i=>by simp[uh,x4]
 |k+1,h,i=>by
  have ih:=FR l k (by omega) i
  simp only[uh];split
  ·rename_i hk
   rw[Vn,ih,JE (by omega)]
   by_cases e:i=k
   ·subst e;simp[hk]
   ·have:(i<k+1)↔i<k:=by omega
    simp[e,this]
  ·rename_i hk
   rw[ih]
   by_cases e:i=k
   ·subst e;simp[hk]
   ·have:(i<k+1)↔i<k:=by omega
    simp[this]
theorem Ob(l:List Int) (i:Nat):tb (N0 l) i=(decide (i<8)&&decide ((i:Int)∈l)):=FR l 8 (by omega) i
theorem EU(s:Int) {p:Nat} (hp:p<64):tb s p=decide (s.fdiv (2^p)%2=1):=by
 have e:(bv s).toNat=(s%18446744073709551616).toNat:=by
  simp only[bv,BitVec.toNat_ofInt];rfl
 have h1:tb s p=(bv s).toNat.testBit p:=rfl
 rw[h1,e,Nat.testBit_eq_decide_div_mod_eq]
 congr 1
 have hf:s.fdiv (2^p)=s/2^p:=Int.fdiv_eq_ediv_of_nonneg _ (Int.le_of_lt (Int.pow_pos (by decide)))
 rw[hf,eq_iff_iff]
 have h0:0<=s%18446744073709551616:=Int.emod_nonneg _ (by decide)
 have hc:(((s%18446744073709551616).toNat/2^p%2:Nat):Int)=(s%18446744073709551616)/2^p%2:=by
  push_cast [Int.toNat_of_nonneg h0];rfl
 have key:(s%18446744073709551616)/2^p%2=s/2^p%2:=by
  have hpw:(18446744073709551616:Int)=2^p*(2*2^(63-p)):=by
   rw[show(2:Int)^p*(2*2^(63-p))=2^(p+(1+(63-p)))by rw[Int.pow_add,Int.pow_add];rfl,show p+(1+(63-p))=64 by omega];rfl
  have h2:s=s%18446744073709551616+2^p*(2*2^(63-p)*(s/18446744073709551616)):=by
   have:=Int.emod_add_mul_ediv s 18446744073709551616
   rw[<-Int.mul_assoc,<-Int.mul_assoc,Int.mul_assoc (2^p),<-hpw];omega
  conv=>rhs;rw[h2]
  rw[Int.add_mul_ediv_left _ _ (Int.ne_of_gt (Int.pow_pos (by decide))),Int.mul_assoc,Int.add_mul_emod_self_left]
 rw[<-key,<-hc];omega
theorem JF(x:Int):oa .i64 x 1=if tb x 0 then 1 else 0:=by
 have e:oa .i64 x 1=IntKind.i64.wrap ((bv x&&&1#64).toNat:Int):=rfl
 have e2:bv x&&&1#64=if tb x 0 then 1#64 else 0#64:=by
  apply BitVec.eq_of_getLsbD_eq
  intro i hi;simp only[BitVec.getLsbD_and,BitVec.getLsbD_one]
  by_cases h:i=0
  ·subst h;cases hx:tb x 0<;>simp[tb]at hx⊢<;>simp[hx]
  ·split<;>simp[h,BitVec.getLsbD_one]
 rw[e,e2];split<;>decide
theorem Nr{s:Int} {p:Nat} (hp:p<8):qp s p=tb s p:=by
 have h1:tb (s.fdiv (2^p)) 0=tb s p:=by
  rw[EU _ (by omega),EU _ (by omega)]
  simp
 simp only[qp,Int.toNat_natCast,JF,h1]
 have:(p:Int)<8:=by omega
 cases tb s p<;>simp[this]
theorem Re(t:Tb) (i:Nat):t.phases.getD i default=ej t i:=by simp[ej]
structure Sh where
 rL:List Int
 time:List Int
 lU:List Int
 zK:List Int
 entry:Bool
 deriving Inhabited,DecidableEq
def Sh.cells(s:Sh):List AV:=s.rL.map I++(s.time.map I++(s.lU.map I++(s.zK.map I++[B s.entry])))
structure Sh.Ok (s:Sh):Prop where
 rL:s.rL.length=8
 time:s.time.length=8
 lU:s.lU.length=8
 zK:s.zK.length=8
def Sh.c(s:Sh) (p:Nat):Int:=s.rL.getD p 0
def Sh.t(s:Sh) (p:Nat):Int:=s.time.getD p 0
def Sh.f(s:Sh) (p:Nat):Int:=s.lU.getD p 0
theorem Sh.len{s:Sh} (h:s.Ok):s.cells.length=33:=by simp[Sh.cells,h.rL,h.time,h.lU,h.zK]
theorem Sh.whole{s:Sh} (h:s.Ok):bG s.cells 0 (some 33)=some (.agg s.cells):=by
 have:=Sh.len h
 simp[bG,this];rw[<-this,List.take_length]
structure X9 (t:Tb) (a b:Sh):Prop where
 t:t.Ln
 a:a.Ok
 b:b.Ok
theorem Tb.Ln.Rf{t:Tb} (h:t.Ln) {k:Nat} (hk:k<8):t.phases[k]? =some (ej t k):=by
 have:k<t.phases.length:=by rw[h.phases];exact hk
 simp[ej,this]
end Go.Eng
