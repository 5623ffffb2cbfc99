/- The engine and the library,part 9 of 18: what the proofs of this seat need of them. -/
import Derived.Test.YtdhlkekmkollhaaGreatPk8
set_option linter.unnecessarySimpa false
set_option linter.unusedSimpArgs false
set_option linter.unusedVariables false
set_option linter.defProp false
set_option maxRecDepth 10000
set_option maxHeartbeats 4000000
namespace Go.Eng
open Go
def bM (groups g:Nat):Nat:=8 - (groups - 1 - g)
def cI (p m:Nat):List Int:=(List.range m).map fun (j:Nat)=>((p + j:Nat):Int)
def cnt (l:Option (List Int)) (g k:Nat) (r0:Nat):Nat :=
 let n:=(bR l (1 + 2 * g + k) 3).toNat
 if k=1∧n=0∧r0=0 then 1 else n
def aX (n p lim:Nat):Nat:=min n (lim - p)
def aW (l:Option (List Int)) (groups:Nat):Nat→List Gr × Nat
 | 0=>([],0)
 | g + 1 =>
  let q:=aW l groups g
  let m0:=aX (cnt l g 0 0) q.2 (bM groups g)
  let m1:=aX (cnt l g 1 m0) (q.2 + m0) (bM groups g)
  (q.1++[⟨bX (cI q.2 m0),bX (cI (q.2 + m0) m1)⟩],q.2 + m0 + m1)
def eF (l:Option (List Int)):Nat:=(1 + bR l 0 3).toNat
def rows.Spec (C:aZ) (f:Nat):Prop:=∀ (t:Tb) (l:Option (List Int)),t.Ok→t.groups=none→C.p f [t.cells] [none,some (aG aC l)] (I ((aW l (eF l) (eF l)).2:Nat)) none [({ t with groups:=some (aW l (eF l) (eF l)).1 }:Tb).cells]
theorem Tb.len' {t:Tb} (h1:t.phases.length=8) (h2:t.conflict.length=8) (h3:t.dm.length=8):t.cells.length=131:=by
 simp [Tb.cells,aH Ph.len,h1,h2,h3]
theorem Tb.Hj {t:Tb} (h:t.phases.length=8):t.cells[104]? = some (aG Gr.cells t.groups):=by
 simp [Tb.cells,List.getElem?_append,aH Ph.len,h]
theorem Tb.Hl {t:Tb} (h:t.phases.length=8) (g:Option (List Gr)):t.cells.take 104++(aG Gr.cells g :: t.cells.drop 105)=({ t with groups:=g }:Tb).cells:=by
 have e:(t.phases.flatMap Ph.cells).length=104:=by rw [aH Ph.len,h]
 simp only [Tb.cells]
 rw [List.take_append_of_le_length (by omega),List.take_of_length_le (by omega),List.drop_append,List.drop_of_length_le (by omega),e]
 rfl
theorem DO {C:aZ} {base:Nat}:∀ {l:List CO} {i:Nat} {s:S} {K:S→Prop},jD C base i l K s→∃ s',K s'∧∀ K':S→Prop,K' s'→jD C base i l K' s
 | [],i,s,K,h=>⟨s,h,fun _ h=>h⟩
 | o :: l,i,s,K,h=>by
  rw [mO] at h
  obtain ⟨v,d,hd,hk',_⟩:=d8 h
  obtain ⟨s',h1,h2⟩:=DO hk'
  refine ⟨s',h1,fun K' hK=>?_⟩
  rw [mO]
  exact hd.2 s .refl _ (h2 K' hK)
theorem Vs {C:aZ}:∀ {c:br} {Q:Exit→S→Prop} {s:S},aw C c Q s→∃ e s',Q e s'∧∀ Q':Exit→S→Prop,Q' e s'→aw C c Q' s:=by
  intro c
  induction c with
  | skip=>intro Q s h; exact ⟨_,_,h,fun _ h=>h⟩
  | Nj ops =>
    intro Q s h
    obtain ⟨s',h1,h2⟩:=DO h
    exact ⟨_,_,h1,fun Q' hq=>h2 _ hq⟩
  | seq a b iha ihb =>
    intro Q s h
    obtain ⟨e,s',h1,h2⟩:=iha h
    cases e with
    | normal =>
      obtain ⟨e,s'',h3,h4⟩:=ihb h1
      exact ⟨e,s'',h3,fun Q' hq=>h2 _ (h4 _ hq)⟩
    | exit i=>exact ⟨_,_,h1,fun Q' hq=>h2 _ hq⟩
    | ret=>exact ⟨_,_,h1,fun Q' hq=>h2 _ hq⟩
    | _=>exact ⟨_,_,h1,fun Q' hq=>h2 _ hq⟩
  | join a b iha ihb =>
    intro Q s h
    obtain ⟨e,s',h1,h2⟩:=iha h
    cases e with
    | normal =>
      obtain ⟨s1,⟨hl,hF⟩|hF⟩:=h1
      · obtain ⟨e,s'',h3,h4⟩:=ihb hF
        exact ⟨e,s'',h3,fun Q' hq=>h2 _ ⟨s1,.inl ⟨hl,h4 _ hq⟩⟩⟩
      · obtain ⟨e,s'',h3,h4⟩:=ihb hF
        exact ⟨e,s'',h3,fun Q' hq=>h2 _ ⟨s1,.inr (h4 _ hq)⟩⟩
    | exit i=>exact ⟨_,_,h1,fun Q' hq=>h2 _ hq⟩
    | ret=>exact ⟨_,_,h1,fun Q' hq=>h2 _ hq⟩
    | _=>exact ⟨_,_,h1,fun Q' hq=>h2 _ hq⟩
  | cond c a b iha ihb =>
    intro Q s h
    simp only [aw] at h ⊢
    obtain ⟨v,hv,hw⟩:=ah h
    cases v<;>try (exact hw.elim)
    rename_i t
    cases t with
    | true =>
      obtain ⟨e,s',h1,h2⟩:=iha (hw.1 rfl)
      exact ⟨e,s',h1,fun Q' hq=>by rw [hv]; exact ⟨fun _=>h2 _ hq,fun h=>by cases h⟩⟩
    | false =>
      obtain ⟨e,s',h1,h2⟩:=ihb (hw.2 rfl)
      exact ⟨e,s',h1,fun Q' hq=>by rw [hv]; exact ⟨fun h=>(by cases h),fun _=>h2 _ hq⟩⟩
  | label l=>intro Q s h; exact ⟨_,_,h,fun _ h=>h⟩
  | goto l=>intro Q s h; exact ⟨_,_,h,fun _ h=>h⟩
  | scope l c r ihc ihr =>
    intro Q s h
    obtain ⟨e,s',h1,h2⟩:=ihc h
    cases e with
    | goto l' =>
      obtain ⟨hl,h1⟩:=h1
      obtain ⟨e,s'',h3,h4⟩:=ihr h1
      cases e with
      | goto l2=>exact h3.elim
      | _=>exact ⟨_,s'',h3,fun Q' hq=>h2 (oH l (aw C r (z6 Q')) Q') ⟨hl,h4 (z6 Q') hq⟩⟩
    | _=>exact ⟨_,_,h1,fun Q' hq=>h2 (oH l (aw C r (z6 Q')) Q') hq⟩
  | block id c ih =>
    intro Q s h
    obtain ⟨e,s',h1,h2⟩:=ih h
    cases e with
    | exit i =>
      simp only [gz] at h1
      by_cases hi:i=id
      · rw [if_pos hi] at h1
        exact ⟨_,_,h1,fun Q' hq=>h2 _ (by simp only [gz,if_pos hi]; exact hq)⟩
      · rw [if_neg hi] at h1
        exact ⟨_,_,h1,fun Q' hq=>h2 _ (by simp only [gz,if_neg hi]; exact hq)⟩
    | _=>exact ⟨_,_,h1,fun Q' hq=>h2 _ hq⟩
  | loop c ih =>
    have key:∀ (n:Nat) {Q:Exit→S→Prop} {s:S},og (aw C c) Q n s→∃ e s',Q e s'∧∀ Q':Exit→S→Prop,Q' e s'→og (aw C c) Q' n s:=by
      intro n
      induction n with
      | zero=>intro Q s h; exact h.elim
      | succ n ihn =>
        intro Q s h
        obtain ⟨e,s',h1,h2⟩:=ih h
        cases e with
        | normal =>
          obtain ⟨s1,⟨hl,hF⟩|hF⟩:=h1
          · obtain ⟨e,s'',h3,h4⟩:=ihn hF
            exact ⟨e,s'',h3,fun Q' hq=>h2 _ ⟨s1,.inl ⟨hl,h4 _ hq⟩⟩⟩
          · obtain ⟨e,s'',h3,h4⟩:=ihn hF
            exact ⟨e,s'',h3,fun Q' hq=>h2 _ ⟨s1,.inr (h4 _ hq)⟩⟩
        | exit i=>exact ⟨_,_,h1,fun Q' hq=>h2 _ hq⟩
        | ret=>exact ⟨_,_,h1,fun Q' hq=>h2 _ hq⟩
        | _=>exact ⟨_,_,h1,fun Q' hq=>h2 _ hq⟩
    intro Q s h
    obtain ⟨s1,⟨hl,n,hF⟩|⟨n,hF⟩⟩:=h
    · obtain ⟨e,s'',h3,h4⟩:=key n hF
      exact ⟨e,s'',h3,fun Q' hq=>⟨s1,.inl ⟨hl,n,h4 _ hq⟩⟩⟩
    · obtain ⟨e,s'',h3,h4⟩:=key n hF
      exact ⟨e,s'',h3,fun Q' hq=>⟨s1,.inr ⟨n,h4 _ hq⟩⟩⟩
  | exit id=>intro Q s h; exact ⟨_,_,h,fun _ h=>h⟩
  | ret=>intro Q s h; exact ⟨_,_,h,fun _ h=>h⟩
  | lF ops dF =>
    intro Q s h
    obtain ⟨ids,hids,h⟩:=h
    obtain ⟨css,hcss,ro,hd,h⟩:=ah h
    obtain ⟨s',h1,h2⟩:=DO h
    exact ⟨_,_,h1,fun Q' hq=>⟨ids,hids,by rw [hcss]; exact ⟨ro,hd,h2 _ hq⟩⟩⟩
  | mW g ps wr as bd iha ihb =>
    intro Q s h
    simp only [aw] at h
    obtain ⟨gv,hgv,xs,h1,h2,F,h3,h4,h5,h6⟩:=ah h
    have mono:∀ {F F':S→Prop} {Q:Exit→S→Prop} {t:S},(∀ s,F s→F' s)→aw C as (vJ (aw C bd (GK wr F Q))) t→aw C as (vJ (aw C bd (GK wr F' Q))) t:=by
      intro F F' Q t hF h
      refine kT (fun e s ha=>?_) h
      cases e<;>first | exact ha.elim | skip
      refine kT (fun e s hb=>?_) ha
      cases e<;>first | exact kr hF hb | exact hb
    have key:∀ n i s',xs.length - i=n→i≤xs.length→F i s'→∃ e s'',Q e s''∧∀ Q':Exit→S→Prop,Q' e s''→∃ F':Nat→S→Prop,F' i s'∧(∀ j t,F' j t→i≤j∧aI t g=some gv) ∧
        (∀ j x t,xs[j]? = some x→F' j t→aw C as (vJ (aw C bd (GK wr (F' (j + 1)) Q'))) (pM ps x t))∧∀ t,F' xs.length t→Q' .normal t:=by
      intro n
      induction n with
      | zero =>
        intro i s' hn hi hF
        have hi:i=xs.length:=by omega
        subst hi
        exact ⟨.normal,s',h6 s' hF,fun Q' hq=>⟨fun j t=>j=xs.length∧t=s',⟨rfl,rfl⟩,fun j t ⟨e,e'⟩=>by subst e; subst e'; exact ⟨Nat.le_refl _,h4 _ _ hF⟩,
          fun j x t hx ⟨e,_⟩=>by subst e; simp at hx,fun t ⟨_,e⟩=>by subst e; exact hq⟩⟩
      | succ n ih =>
        intro i s' hn hi hF
        have hlt:i < xs.length:=by omega
        have hx:xs[i]? = some xs[i]:=by simp [hlt]
        obtain ⟨e1,s1,k1,k2⟩:=iha (h5 i _ s' hx hF)
        cases e1<;>try exact k1.elim
        obtain ⟨e2,s2,k3,k4⟩:=ihb k1
        have stop:∀ (e:Exit) (s'':S),Q e s''→(∀ (F':S→Prop) (Q':Exit→S→Prop),Q' e s''→GK wr F' Q' e2 s2)→∃ e s'',Q e s''∧∀ Q':Exit→S→Prop,Q' e s''→∃ F':Nat→S→Prop,F' i s'∧(∀ j t,F' j t→i≤j∧aI t g=some gv) ∧
            (∀ j x t,xs[j]? = some x→F' j t→aw C as (vJ (aw C bd (GK wr (F' (j + 1)) Q'))) (pM ps x t))∧∀ t,F' xs.length t→Q' .normal t:=by
          intro e s'' hq hr
          refine ⟨e,s'',hq,fun Q' hq'=>⟨fun j t=>j=i∧t=s',⟨rfl,rfl⟩,fun j t ⟨e,e'⟩=>by subst e; subst e'; exact ⟨Nat.le_refl _,h4 _ _ hF⟩,fun j x t hx' ⟨e,e'⟩=>?_,fun t ⟨e,_⟩=>by omega⟩⟩
          subst e; subst e'
          rw [hx] at hx'; cases hx'
          exact k2 _ (k4 _ (hr _ _ hq'))
        cases e2 with
        | normal =>
          obtain ⟨s3,hs3⟩:∃ s3,F (i + 1) s3∧(Le (z5 wr s2) s3∨s3=z5 wr s2):=by
            obtain ⟨s3,⟨hl,hf⟩|hf⟩:=(show Eng.down (F (i + 1)) (z5 wr s2) from k3)
            · exact ⟨s3,hf,.inl hl⟩
            · exact ⟨_,hf,.inr rfl⟩
          obtain ⟨e,s'',hq,hre⟩:=ih (i + 1) s3 (by omega) (by omega) hs3.1
          refine ⟨e,s'',hq,fun Q' hq'=>?_⟩
          obtain ⟨F'',g1,g2,g3,g4⟩:=hre Q' hq'
          refine ⟨fun j t=>(j=i∧t=s')∨F'' j t,.inl ⟨rfl,rfl⟩,fun j t ht=>?_,fun j x t hx' ht=>?_,fun t ht=>?_⟩
          · rcases ht with ⟨rfl,rfl⟩ | ht
            · exact ⟨Nat.le_refl _,h4 _ _ hF⟩
            · exact ⟨by have:=(g2 j t ht).1; omega,(g2 j t ht).2⟩
          · rcases ht with ⟨rfl,rfl⟩ | ht
            · rw [hx] at hx'; cases hx'
              refine k2 _ (k4 _ (show Eng.down _ _ from ?_))
              rcases hs3.2 with hl|hl
              · exact ⟨s3,.inl ⟨hl,.inr g1⟩⟩
              · rw [← hl]; exact gw (.inr g1)
            · exact mono (fun _ h=>.inr h) (g3 j x t hx' ht)
          · rcases ht with ⟨e,_⟩ | ht
            · omega
            · exact g4 t ht
        | ret=>exact stop .ret _ k3 fun _ _ h=>h
        | exit id=>exact stop (.exit id) _ k3 fun _ _ h=>h
        | _=>exact k3.elim
    obtain ⟨s0,h0⟩:∃ s0,F 0 s0∧(Le s s0∨s0=s):=by
      obtain ⟨s0,⟨hl,hf⟩|hf⟩:=h3
      · exact ⟨s0,hf,.inl hl⟩
      · exact ⟨_,hf,.inr rfl⟩
    obtain ⟨e,s'',hq,hre⟩:=key _ 0 s0 rfl (Nat.zero_le _) h0.1
    refine ⟨e,s'',hq,fun Q' hq'=>?_⟩
    obtain ⟨F',g1,g2,g3,g4⟩:=hre Q' hq'
    simp only [aw,hgv]
    refine ⟨xs,h1,h2,F',?_,fun j t ht=>(g2 j t ht).2,g3,g4⟩
    rcases h0.2 with hl|hl
    · exact ⟨s0,.inl ⟨hl,g1⟩⟩
    · rw [← hl]; exact gw g1
theorem pY {C:aZ} {c:br} {Q:Exit→S→Prop} {s:S} (h:aw C c (k6 (aw C (.loop c) Q) Q) s):aw C (.loop c) Q s:=by
 obtain ⟨e,s',h1,h2⟩:=Vs h
 cases e with
 | normal =>
  obtain ⟨s1,⟨hl,n,hF⟩|⟨n,hF⟩⟩:=h1
  ·exact gw ⟨n + 1,h2 _ ⟨s1,.inl ⟨hl,hF⟩⟩⟩
  ·exact gw ⟨n + 1,h2 _ ⟨s1,.inr hF⟩⟩
 | exit i=>exact gw ⟨1,h2 _ h1⟩
 | ret=>exact gw ⟨1,h2 _ h1⟩
 | _=>exact gw ⟨1,h2 _ h1⟩
theorem jz (p i:Nat):cI p (i + 1)=cI p i++[((p + i:Nat):Int)]:=by simp [cI,List.range_succ]
theorem tZ (l:Option (List Int)) (G:Nat):∀ g,(aW l G g).2≤8
 | 0=>by simp [aW]
 | g + 1=>by
  have:=tZ l G g
  simp only [aW,aX,bM]
  omega
theorem nD (l:Option (List Int)) (G:Nat):∀ g,(aW l G g).1.length=g
 | 0=>by simp [aW]
 | g + 1=>by
  have:=nD l G g
  simp only [aW,List.length_append,List.length_cons,List.length_nil]
  omega
def Cut {α:Type} (ex:Exit) (st:α→S) (J:α→Prop) (e:Exit) (s:S):Prop:=e=ex∧∃ y,J y∧Le s (st y)
theorem dc {α:Type} {ex:Exit} {st:α→S} {J:α→Prop} {s:S} (y:α) (hy:J y) (hle:Le s (st y)):Cut ex st J ex s:=⟨rfl,y,hy,hle⟩
theorem lT {C:aZ} {c:br} {Q:Exit→S→Prop} {s:S} {F:S→Prop} {α:Type} (ex:Exit) (st:α→S) (J:α→Prop) (hQ:∀ s',Q ex s'=down F s') (h1:aw C c (Cut ex st J) s) (h2:∀ y,J y→F (st y)):aw C c Q s:=by
 refine kT ?_ h1
 rintro e s' ⟨rfl,y,hy,hle⟩
 rw [hQ]
 exact ⟨st y,.inl ⟨hle,h2 y hy⟩⟩
theorem OK:IntKind.i64.wrap (0 + 1)=1:=by decide
theorem DP:IntKind.i64.wrap (1 + 1)=2:=by decide
theorem aP {α:Type} (f:α→List AV):aG f none=.bl:=rfl
theorem aJ {α:Type} (f:α→List AV) (l:List α):aG f (some l)=.sl (l.map f):=rfl
section
variable {P:Program} (hm:P.follows .mixedOrders=true) {f:Nat}
include hm
theorem rows.ok {fF e eR:Nat} (hc:aE P f=some (oO fF e eR)) (hF:from.Spec (Pure P) fF):rows.Spec (Pure P) f:=by
  intro t l ht hg0
  have hl:=Tb.len ht
  have hp:=Tb.whole ht
  refine E1 hm hc (by show 2≤78; decide) rfl (by simp) (aj (keep:=[3,5]) (i:=0) ?_)
  try simp only [I,B,D,RX,↓ KW,Nat.reduceBEq,Nat.reduceAdd,Nat.reduceLeDiff,Int.reduceNe,Int.reduceBEq,Int.reduceEq,reduceCtorEq,Nat.reduceMul,Int.reduceLT,Int.reduceLE,Int.reduceToNat,oO,Z.H]
  have hgr:=aK l 0 (n:=3) (by decide) (by decide)
  refine af (hF _ _ _ (by decide)) ?_
  try simp only [I,B,D,RX,↓ KW,Nat.reduceBEq,Nat.reduceAdd,Nat.reduceLeDiff,Int.reduceNe,Int.reduceBEq,Int.reduceEq,reduceCtorEq,Nat.reduceMul,Int.reduceLT,Int.reduceLE,Int.reduceToNat]
  have hgn:IntKind.i64.wrap (1 + bR l 0 3)=(eF l:Nat):=by
    rw [aV (by omega) (by omega),eF]; omega
  have hg3:1≤eF l∧eF l≤3:=by unfold eF; omega
  rw [hgn]
  generalize eF l=G at *
  refine aF (fun g:Nat=>(⟨[(7,.dat (I g) none),(5,.dat (I G) none),(1,.dat (aG aC l) none),(6,.dat (I (aW l G g).2) none),(0,.ptr 0 0)],[(0,⟨({ t with groups:=bX (aW l G g).1 }:Tb).cells,if (aW l G g).1=[] then [] else [(104,0)]⟩)],bG (aW l G g).1 0 eR,400⟩:S)) (fun g=>G - g) (fun g=>g≤G) ?_ 0 (by omega) ?_
  · intro g hg A back
    have hw:=aD (k:=g) (by omega)
    have hn2:aW l G (g + 1)=((aW l G g).1++[⟨bX (cI (aW l G g).2 (aX (cnt l g 0 0) (aW l G g).2 (bM G g))),bX (cI ((aW l G g).2 + aX (cnt l g 0 0) (aW l G g).2 (bM G g)) (aX (cnt l g 1 (aX (cnt l g 0 0) (aW l G g).2 (bM G g))) ((aW l G g).2 + aX (cnt l g 0 0) (aW l G g).2 (bM G g)) (bM G g)))⟩],(aW l G g).2 + aX (cnt l g 0 0) (aW l G g).2 (bM G g) + aX (cnt l g 1 (aX (cnt l g 0 0) (aW l G g).2 (bM G g))) ((aW l G g).2 + aX (cnt l g 0 0) (aW l G g).2 (bM G g)) (bM G g)):=rfl
    have hp8:(aW l G g).2≤8:=tZ l G g
    have hgl:(aW l G g).1.length=g:=nD l G g
    generalize hR:aW l G g=R at *
    obtain ⟨gs,p⟩:=R
    simp only at hn2 hp8 hgl
    have hc0:bR l (1 + 2 * (g:Int) + 0) 3=(cnt l g 0 0:Nat):=by
      have:=aK l (1 + 2 * (g:Int) + 0) (n:=3) (by decide) (by decide)
      have hc:cnt l g 0 0=(bR l (1 + 2 * (g:Int) + 0) 3).toNat:=by simp [cnt]
      rw [hc]; omega
    have hw1:IntKind.i64.wrap (IntKind.i64.wrap (1 + IntKind.i64.wrap (2 * (g:Int))) + 0)=1 + 2 * (g:Int) + 0:=by
      rw [aV (n:=2 * (g:Int)) (by omega) (by omega),aV (n:=1 + 2 * (g:Int)) (by omega) (by omega),aV (by omega) (by omega)]
    have hw2:IntKind.i64.wrap (IntKind.i64.wrap (1 + IntKind.i64.wrap (2 * (g:Int))) + 1)=1 + 2 * (g:Int) + 1:=by
      rw [aV (n:=2 * (g:Int)) (by omega) (by omega),aV (n:=1 + 2 * (g:Int)) (by omega) (by omega),aV (by omega) (by omega)]
    have hlim:IntKind.i64.wrap (8 - IntKind.i64.wrap (IntKind.i64.wrap ((G:Int) - 1) - (g:Int)))=if g < G then ((bM G g:Nat):Int) else (8 - ((G:Int) - 1 - g):Int):=by
      rw [aV (n:=(G:Int) - 1) (by omega) (by omega),aV (n:=(G:Int) - 1 - g) (by omega) (by omega),aV (by omega) (by omega)]
      split<;>simp [bM]<;>omega
    by_cases hgs:gs=[]
    all_goals
      try simp only [I,B,D,RX,↓ KW,Nat.reduceBEq,Nat.reduceAdd,Nat.reduceLeDiff,Int.reduceNe,Int.reduceBEq,Int.reduceEq,reduceCtorEq,Nat.reduceMul,Int.reduceLT,Int.reduceLE,Int.reduceToNat,hgs,bG,bX]
      refine ay (fun h=>?_) (fun h=>?_)<;>try simp only [I,B,D,RX,↓ KW,Nat.reduceBEq,Nat.reduceAdd,Nat.reduceLeDiff,Int.reduceNe,Int.reduceBEq,Int.reduceEq,reduceCtorEq,Nat.reduceMul,Int.reduceLT,Int.reduceLE,Int.reduceToNat,hgs,bG,bX,h]
      · have hlt:g < G:=by have:=of_decide_eq_true h; omega
        rw [if_pos hlt] at hlim
        generalize hc0':cnt l g 0 0=n0 at *
        refine lT (.exit 2) (fun _:Unit=>(⟨[(6,.dat (I (p + aX n0 p (bM G g) + aX (cnt l g 1 (aX n0 p (bM G g))) (p + aX n0 p (bM G g)) (bM G g):Nat)) none),(5,.dat (I G) none),(7,.dat (I g) none),(8,.ptr 403 0),(1,.dat (aG aC l) none),(0,.ptr 0 0)],[(403,⟨[aG aC (bX (cI p (aX n0 p (bM G g)))),aG aC (bX (cI (p + aX n0 p (bM G g)) (aX (cnt l g 1 (aX n0 p (bM G g))) (p + aX n0 p (bM G g)) (bM G g))))],[]⟩),(0,⟨({ t with groups:=bX gs }:Tb).cells,if gs=[] then [] else [(104,0)]⟩)],bG gs 0 eR,1000⟩:S)) (fun _=>True) (fun _=>rfl) ?_ ?_
        · refine pY ?_
          try simp only [I,B,D,RX,↓ KW,Nat.reduceBEq,Nat.reduceAdd,Nat.reduceLeDiff,Int.reduceNe,Int.reduceBEq,Int.reduceEq,reduceCtorEq,Nat.reduceMul,Int.reduceLT,Int.reduceLE,Int.reduceToNat,hgs]
          refine af (hF _ _ _ (by decide)) ?_
          try simp only [I,B,D,RX,↓ KW,Nat.reduceBEq,Nat.reduceAdd,Nat.reduceLeDiff,Int.reduceNe,Int.reduceBEq,Int.reduceEq,reduceCtorEq,Nat.reduceMul,Int.reduceLT,Int.reduceLE,Int.reduceToNat,hw1,hc0,hgs]
          refine lT (.exit 4) (fun _:Unit=>(⟨[(9,.dat (I 0) none),(6,.dat (I (p + aX n0 (p) (bM G g):Nat)) none),(5,.dat (I G) none),(7,.dat (I g) none),(8,.ptr 403 0),(1,.dat (aG aC l) none),(0,.ptr 0 0)],[(403,⟨[aG aC (bX (cI (p) (aX n0 (p) (bM G g)))),.bl],[]⟩),(0,⟨({ t with groups:=bX gs }:Tb).cells,if gs=[] then [] else [(104,0)]⟩)],bG gs 0 eR,1000⟩:S)) (fun _=>True) (fun _=>rfl) ?_ ?_
          · refine aF (fun i:Nat=>(⟨[(11,.dat (I i) none),(10,.dat (I n0) none),(6,.dat (I (p + i:Nat)) none),(5,.dat (I G) none),(7,.dat (I g) none),(9,.dat (I 0) none),(8,.ptr 403 0),(1,.dat (aG aC l) none),(0,.ptr 0 0)],[(403,⟨[aG aC (bX (cI (p) i)),.bl],if cI (p) i=[] then [] else [(0,1)]⟩),(0,⟨({ t with groups:=bX gs }:Tb).cells,if gs=[] then [] else [(104,0)]⟩)],bG (cI (p) i) 1 e++bG gs 0 eR,1000⟩:S)) (fun i=>aX n0 (p) (bM G g) - i) (fun i=>i≤aX n0 (p) (bM G g)) ?_ 0 (by omega) ?_
            · intro i hi A1 back1
              have hfl:aX n0 (p) (bM G g)≤8:=by simp only [aX,bM]; omega
              have hw3:=aD (k:=i) (by omega)
              have hf:aX n0 (p) (bM G g)=min n0 (bM G g - (p)):=rfl
              have hp1:IntKind.i64.wrap (((p + i:Nat):Int) + 1)=((p + (i + 1):Nat):Int):=by rw [aV (by omega) (by omega)]; omega
              have hrl:(cI (p) i).length=i:=by simp [cI]
              by_cases hl:cI (p) i=[]
              · try simp only [I,B,D,RX,↓ KW,Nat.reduceBEq,Nat.reduceAdd,Nat.reduceLeDiff,Int.reduceNe,Int.reduceBEq,Int.reduceEq,reduceCtorEq,Nat.reduceMul,Int.reduceLT,Int.reduceLE,Int.reduceToNat,hl,bG,bX,hlim,hgs]
                repeat' (((first | refine aR ?_ ?_ | refine ay ?_ ?_ | refine bk ?_ ?_)<;>intro h)<;>try simp only [I,B,D,RX,↓ KW,Nat.reduceBEq,Nat.reduceAdd,Nat.reduceLeDiff,Int.reduceNe,Int.reduceBEq,Int.reduceEq,reduceCtorEq,Nat.reduceMul,Int.reduceLT,Int.reduceLE,Int.reduceToNat,aP,aJ,hlim,hl,hgs,hp1,h])
                · have h1:=of_decide_eq_true h
                  refine ⟨by decide,?_⟩
                  refine ⟨by decide,?_⟩
                  have h2:(i:Int) < n0:=by rename_i h2; exact of_decide_eq_true h2
                  refine back1 (i + 1) _ (by omega) (by omega) (ai (by decide) ?_ ?_ ?_ ?_)<;>simp [LX,I,B,D,hw3,jz,hl,bX,aP,aJ,hgs]
                · have h1:=of_decide_eq_false h
                  have:i=aX n0 (p) (bM G g):=by omega
                  rw [← this]
                  refine dc () trivial ?_
                  refine ai (by decide) ?_ ?_ ?_ ?_<;>simp [LX,I,B,D,hl,bX,aP,aJ,hgs]
                · have h1:=of_decide_eq_false h
                  have:i=aX n0 (p) (bM G g):=by omega
                  rw [← this]
                  refine dc () trivial ?_
                  refine ai (by decide) ?_ ?_ ?_ ?_<;>simp [LX,I,B,D,hl,bX,aP,aJ,hgs]
              · try simp only [I,B,D,RX,↓ KW,Nat.reduceBEq,Nat.reduceAdd,Nat.reduceLeDiff,Int.reduceNe,Int.reduceBEq,Int.reduceEq,reduceCtorEq,Nat.reduceMul,Int.reduceLT,Int.reduceLE,Int.reduceToNat,hl,bG,bX,hlim,hgs]
                repeat' (((first | refine aR ?_ ?_ | refine ay ?_ ?_ | refine bk ?_ ?_)<;>intro h)<;>try simp only [I,B,D,RX,↓ KW,Nat.reduceBEq,Nat.reduceAdd,Nat.reduceLeDiff,Int.reduceNe,Int.reduceBEq,Int.reduceEq,reduceCtorEq,Nat.reduceMul,Int.reduceLT,Int.reduceLE,Int.reduceToNat,aP,aJ,hlim,hl,hgs,hp1,h])
                · have h1:=of_decide_eq_true h
                  refine ⟨by decide,by omega,by decide,?_⟩
                  have h2:(i:Int) < n0:=by rename_i h2; exact of_decide_eq_true h2
                  refine back1 (i + 1) _ (by omega) (by omega) (ai (by decide) ?_ ?_ ?_ ?_)<;>simp [LX,I,B,D,hw3,jz,hl,bX,aP,aJ,hgs]
                · have h1:=of_decide_eq_false h
                  have:i=aX n0 (p) (bM G g):=by omega
                  rw [← this]
                  refine dc () trivial ?_
                  refine ai (by decide) ?_ ?_ ?_ ?_<;>simp [LX,I,B,D,hl,bX,aP,aJ,hgs]
                · have h1:=of_decide_eq_false h
                  have:i=aX n0 (p) (bM G g):=by omega
                  rw [← this]
                  refine dc () trivial ?_
                  refine ai (by decide) ?_ ?_ ?_ ?_<;>simp [LX,I,B,D,hl,bX,aP,aJ,hgs]
            · refine ai (by decide) ?_ ?_ ?_ ?_<;>simp [LX,I,B,D,cI,bX,aP,aJ,hgs]
          · intro _ _
            generalize hm0:aX n0 p (bM G g)=m0 at *
            have hrow0:(bX (cI p m0)).getD []=cI p m0:=bU _
            have hrl0:(cI p m0).length=m0:=by simp [cI]
            have hm8:m0≤8:=by rw [← hm0]; simp only [aX,bM]; omega
            try simp only [I,B,D,RX,↓ KW,Nat.reduceBEq,Nat.reduceAdd,Nat.reduceLeDiff,Int.reduceNe,Int.reduceBEq,Int.reduceEq,reduceCtorEq,Nat.reduceMul,Int.reduceLT,Int.reduceLE,Int.reduceToNat,hgs]
            refine pY ?_
            try simp only [I,B,D,RX,↓ KW,Nat.reduceBEq,Nat.reduceAdd,Nat.reduceLeDiff,Int.reduceNe,Int.reduceBEq,Int.reduceEq,reduceCtorEq,Nat.reduceMul,Int.reduceLT,Int.reduceLE,Int.reduceToNat,hgs,OK]
            refine af (hF _ _ _ (by decide)) ?_
            try simp only [I,B,D,RX,↓ KW,Nat.reduceBEq,Nat.reduceAdd,Nat.reduceLeDiff,Int.reduceNe,Int.reduceBEq,Int.reduceEq,reduceCtorEq,Nat.reduceMul,Int.reduceLT,Int.reduceLE,Int.reduceToNat,hw2,hgs]
            have hr2:=aK l (1 + 2 * (g:Int) + 1) (n:=3) (by decide) (by decide)
            have hcn0:cnt l g 1 m0=if (bR l (1 + 2 * (g:Int) + 1) 3).toNat=0∧m0=0 then 1 else (bR l (1 + 2 * (g:Int) + 1) 3).toNat:=by simp [cnt]
            generalize bR l (1 + 2 * (g:Int) + 1) 3=fr1 at *
            generalize hn1:cnt l g 1 m0=n1 at *
            repeat' (((first | refine aR ?_ ?_ | refine ay ?_ ?_ | refine bk ?_ ?_)<;>intro h)<;>try simp only [I,B,D,RX,↓ KW,Nat.reduceBEq,Nat.reduceAdd,Nat.reduceLeDiff,Int.reduceNe,Int.reduceBEq,Int.reduceEq,reduceCtorEq,Nat.reduceMul,Int.reduceLT,Int.reduceLE,Int.reduceToNat,hrow0,hrl0,hgs,h])
            · have hfr:fr1=0:=by simpa using h
              refine ⟨by decide,?_⟩
              refine ay (fun hz=>?_) (fun hz=>?_)<;>try simp only [I,B,D,RX,↓ KW,Nat.reduceBEq,Nat.reduceAdd,Nat.reduceLeDiff,Int.reduceNe,Int.reduceBEq,Int.reduceEq,reduceCtorEq,Nat.reduceMul,Int.reduceLT,Int.reduceLE,Int.reduceToNat,hgs,hz]
              · have hz:m0=0:=by simpa using hz
                have hcn:(n1:Int)=1:=by rw [hcn0,if_pos ⟨by omega,hz⟩]; rfl
                refine lT (.exit 4) (fun _:Unit=>(⟨[(9,.dat (I 1) none),(6,.dat (I (p + m0 + aX n1 (p + m0) (bM G g):Nat)) none),(5,.dat (I G) none),(7,.dat (I g) none),(8,.ptr 403 0),(1,.dat (aG aC l) none),(0,.ptr 0 0)],[(403,⟨[aG aC (bX (cI p m0)),aG aC (bX (cI (p + m0) (aX n1 (p + m0) (bM G g))))],[]⟩),(0,⟨({ t with groups:=bX gs }:Tb).cells,if gs=[] then [] else [(104,0)]⟩)],bG gs 0 eR,1000⟩:S)) (fun _=>True) (fun _=>rfl) ?_ ?_
                · refine aF (fun i:Nat=>(⟨[(11,.dat (I i) none),(10,.dat (I n1) none),(6,.dat (I (p + m0 + i:Nat)) none),(5,.dat (I G) none),(7,.dat (I g) none),(9,.dat (I 1) none),(8,.ptr 403 0),(1,.dat (aG aC l) none),(0,.ptr 0 0)],[(403,⟨[aG aC (bX (cI p m0)),aG aC (bX (cI (p + m0) i))],if cI (p + m0) i=[] then [] else [(1,1)]⟩),(0,⟨({ t with groups:=bX gs }:Tb).cells,if gs=[] then [] else [(104,0)]⟩)],bG (cI (p + m0) i) 1 e++bG gs 0 eR,1000⟩:S)) (fun i=>aX n1 (p + m0) (bM G g) - i) (fun i=>i≤aX n1 (p + m0) (bM G g)) ?_ 0 (by omega) ?_
                  · intro i hi A1 back1
                    have hfl:aX n1 (p + m0) (bM G g)≤8:=by simp only [aX,bM]; omega
                    have hw3:=aD (k:=i) (by omega)
                    have hf:aX n1 (p + m0) (bM G g)=min n1 (bM G g - (p + m0)):=rfl
                    have hp1:IntKind.i64.wrap (((p + m0 + i:Nat):Int) + 1)=((p + m0 + (i + 1):Nat):Int):=by rw [aV (by omega) (by omega)]; omega
                    have hrl:(cI (p + m0) i).length=i:=by simp [cI]
                    by_cases hl:cI (p + m0) i=[]
                    · try simp only [I,B,D,RX,↓ KW,Nat.reduceBEq,Nat.reduceAdd,Nat.reduceLeDiff,Int.reduceNe,Int.reduceBEq,Int.reduceEq,reduceCtorEq,Nat.reduceMul,Int.reduceLT,Int.reduceLE,Int.reduceToNat,hl,bG,bX,hlim,hgs,hrow0]
                      repeat' (((first | refine aR ?_ ?_ | refine ay ?_ ?_ | refine bk ?_ ?_)<;>intro h)<;>try simp only [I,B,D,RX,↓ KW,Nat.reduceBEq,Nat.reduceAdd,Nat.reduceLeDiff,Int.reduceNe,Int.reduceBEq,Int.reduceEq,reduceCtorEq,Nat.reduceMul,Int.reduceLT,Int.reduceLE,Int.reduceToNat,aP,aJ,hlim,hl,hgs,hp1,hrow0,h])
                      · have h1:=of_decide_eq_true h
                        refine ⟨by decide,?_⟩
                        refine ⟨by decide,?_⟩
                        have h2:(i:Int) < n1:=by rename_i h2; exact of_decide_eq_true h2
                        refine back1 (i + 1) _ (by omega) (by omega) (ai (by decide) ?_ ?_ ?_ ?_)<;>simp [LX,I,B,D,hw3,jz,hl,bX,aP,aJ,hgs,hrow0]
                      · have h1:=of_decide_eq_false h
                        have:i=aX n1 (p + m0) (bM G g):=by omega
                        rw [← this]
                        refine dc () trivial ?_
                        refine ai (by decide) ?_ ?_ ?_ ?_<;>simp [LX,I,B,D,hl,bX,aP,aJ,hgs,hrow0]
                      · have h1:=of_decide_eq_false h
                        have:i=aX n1 (p + m0) (bM G g):=by omega
                        rw [← this]
                        refine dc () trivial ?_
                        refine ai (by decide) ?_ ?_ ?_ ?_<;>simp [LX,I,B,D,hl,bX,aP,aJ,hgs,hrow0]
                    · try simp only [I,B,D,RX,↓ KW,Nat.reduceBEq,Nat.reduceAdd,Nat.reduceLeDiff,Int.reduceNe,Int.reduceBEq,Int.reduceEq,reduceCtorEq,Nat.reduceMul,Int.reduceLT,Int.reduceLE,Int.reduceToNat,hl,bG,bX,hlim,hgs,hrow0]
                      repeat' (((first | refine aR ?_ ?_ | refine ay ?_ ?_ | refine bk ?_ ?_)<;>intro h)<;>try simp only [I,B,D,RX,↓ KW,Nat.reduceBEq,Nat.reduceAdd,Nat.reduceLeDiff,Int.reduceNe,Int.reduceBEq,Int.reduceEq,reduceCtorEq,Nat.reduceMul,Int.reduceLT,Int.reduceLE,Int.reduceToNat,aP,aJ,hlim,hl,hgs,hp1,hrow0,h])
                      · have h1:=of_decide_eq_true h
                        refine ⟨by decide,by omega,by decide,?_⟩
                        have h2:(i:Int) < n1:=by rename_i h2; exact of_decide_eq_true h2
                        refine back1 (i + 1) _ (by omega) (by omega) (ai (by decide) ?_ ?_ ?_ ?_)<;>simp [LX,I,B,D,hw3,jz,hl,bX,aP,aJ,hgs,hrow0]
                      · have h1:=of_decide_eq_false h
                        have:i=aX n1 (p + m0) (bM G g):=by omega
                        rw [← this]
                        refine dc () trivial ?_
                        refine ai (by decide) ?_ ?_ ?_ ?_<;>simp [LX,I,B,D,hl,bX,aP,aJ,hgs,hrow0]
                      · have h1:=of_decide_eq_false h
                        have:i=aX n1 (p + m0) (bM G g):=by omega
                        rw [← this]
                        refine dc () trivial ?_
                        refine ai (by decide) ?_ ?_ ?_ ?_<;>simp [LX,I,B,D,hl,bX,aP,aJ,hgs,hrow0]
                  · refine ai (by decide) ?_ ?_ ?_ ?_<;>simp [LX,I,B,D,cI,bX,aP,aJ,hgs,hrow0,hcn]
                · intro _ _
                  try simp only [I,B,D,RX,↓ KW,Nat.reduceBEq,Nat.reduceAdd,Nat.reduceLeDiff,Int.reduceNe,Int.reduceBEq,Int.reduceEq,reduceCtorEq,Nat.reduceMul,Int.reduceLT,Int.reduceLE,Int.reduceToNat,hgs,bX,hrow0]
                  refine pY ?_
                  try simp only [I,B,D,RX,↓ KW,Nat.reduceBEq,Nat.reduceAdd,Nat.reduceLeDiff,Int.reduceNe,Int.reduceBEq,Int.reduceEq,reduceCtorEq,Nat.reduceMul,Int.reduceLT,Int.reduceLE,Int.reduceToNat,hgs,DP]
                  refine dc () trivial ?_
                  refine ai (by decide) ?_ ?_ ?_ ?_<;>simp [LX,I,B,D,hgs,bX,aP,aJ]
              · have hz:¬ m0=0:=by simpa using hz
                have hcn:fr1=(n1:Int):=by rw [hcn0,if_neg (fun hh=>hz hh.2)]; omega
                refine lT (.exit 4) (fun _:Unit=>(⟨[(9,.dat (I 1) none),(6,.dat (I (p + m0 + aX n1 (p + m0) (bM G g):Nat)) none),(5,.dat (I G) none),(7,.dat (I g) none),(8,.ptr 403 0),(1,.dat (aG aC l) none),(0,.ptr 0 0)],[(403,⟨[aG aC (bX (cI p m0)),aG aC (bX (cI (p + m0) (aX n1 (p + m0) (bM G g))))],[]⟩),(0,⟨({ t with groups:=bX gs }:Tb).cells,if gs=[] then [] else [(104,0)]⟩)],bG gs 0 eR,1000⟩:S)) (fun _=>True) (fun _=>rfl) ?_ ?_
                · refine aF (fun i:Nat=>(⟨[(11,.dat (I i) none),(10,.dat (I n1) none),(6,.dat (I (p + m0 + i:Nat)) none),(5,.dat (I G) none),(7,.dat (I g) none),(9,.dat (I 1) none),(8,.ptr 403 0),(1,.dat (aG aC l) none),(0,.ptr 0 0)],[(403,⟨[aG aC (bX (cI p m0)),aG aC (bX (cI (p + m0) i))],if cI (p + m0) i=[] then [] else [(1,1)]⟩),(0,⟨({ t with groups:=bX gs }:Tb).cells,if gs=[] then [] else [(104,0)]⟩)],bG (cI (p + m0) i) 1 e++bG gs 0 eR,1000⟩:S)) (fun i=>aX n1 (p + m0) (bM G g) - i) (fun i=>i≤aX n1 (p + m0) (bM G g)) ?_ 0 (by omega) ?_
                  · intro i hi A1 back1
                    have hfl:aX n1 (p + m0) (bM G g)≤8:=by simp only [aX,bM]; omega
                    have hw3:=aD (k:=i) (by omega)
                    have hf:aX n1 (p + m0) (bM G g)=min n1 (bM G g - (p + m0)):=rfl
                    have hp1:IntKind.i64.wrap (((p + m0 + i:Nat):Int) + 1)=((p + m0 + (i + 1):Nat):Int):=by rw [aV (by omega) (by omega)]; omega
                    have hrl:(cI (p + m0) i).length=i:=by simp [cI]
                    by_cases hl:cI (p + m0) i=[]
                    · try simp only [I,B,D,RX,↓ KW,Nat.reduceBEq,Nat.reduceAdd,Nat.reduceLeDiff,Int.reduceNe,Int.reduceBEq,Int.reduceEq,reduceCtorEq,Nat.reduceMul,Int.reduceLT,Int.reduceLE,Int.reduceToNat,hl,bG,bX,hlim,hgs,hrow0]
                      repeat' (((first | refine aR ?_ ?_ | refine ay ?_ ?_ | refine bk ?_ ?_)<;>intro h)<;>try simp only [I,B,D,RX,↓ KW,Nat.reduceBEq,Nat.reduceAdd,Nat.reduceLeDiff,Int.reduceNe,Int.reduceBEq,Int.reduceEq,reduceCtorEq,Nat.reduceMul,Int.reduceLT,Int.reduceLE,Int.reduceToNat,aP,aJ,hlim,hl,hgs,hp1,hrow0,h])
                      · have h1:=of_decide_eq_true h
                        refine ⟨by decide,?_⟩
                        refine ⟨by decide,?_⟩
                        have h2:(i:Int) < n1:=by rename_i h2; exact of_decide_eq_true h2
                        refine back1 (i + 1) _ (by omega) (by omega) (ai (by decide) ?_ ?_ ?_ ?_)<;>simp [LX,I,B,D,hw3,jz,hl,bX,aP,aJ,hgs,hrow0]
                      · have h1:=of_decide_eq_false h
                        have:i=aX n1 (p + m0) (bM G g):=by omega
                        rw [← this]
                        refine dc () trivial ?_
                        refine ai (by decide) ?_ ?_ ?_ ?_<;>simp [LX,I,B,D,hl,bX,aP,aJ,hgs,hrow0]
                      · have h1:=of_decide_eq_false h
                        have:i=aX n1 (p + m0) (bM G g):=by omega
                        rw [← this]
                        refine dc () trivial ?_
                        refine ai (by decide) ?_ ?_ ?_ ?_<;>simp [LX,I,B,D,hl,bX,aP,aJ,hgs,hrow0]
                    · try simp only [I,B,D,RX,↓ KW,Nat.reduceBEq,Nat.reduceAdd,Nat.reduceLeDiff,Int.reduceNe,Int.reduceBEq,Int.reduceEq,reduceCtorEq,Nat.reduceMul,Int.reduceLT,Int.reduceLE,Int.reduceToNat,hl,bG,bX,hlim,hgs,hrow0]
                      repeat' (((first | refine aR ?_ ?_ | refine ay ?_ ?_ | refine bk ?_ ?_)<;>intro h)<;>try simp only [I,B,D,RX,↓ KW,Nat.reduceBEq,Nat.reduceAdd,Nat.reduceLeDiff,Int.reduceNe,Int.reduceBEq,Int.reduceEq,reduceCtorEq,Nat.reduceMul,Int.reduceLT,Int.reduceLE,Int.reduceToNat,aP,aJ,hlim,hl,hgs,hp1,hrow0,h])
                      · have h1:=of_decide_eq_true h
                        refine ⟨by decide,by omega,by decide,?_⟩
                        have h2:(i:Int) < n1:=by rename_i h2; exact of_decide_eq_true h2
                        refine back1 (i + 1) _ (by omega) (by omega) (ai (by decide) ?_ ?_ ?_ ?_)<;>simp [LX,I,B,D,hw3,jz,hl,bX,aP,aJ,hgs,hrow0]
                      · have h1:=of_decide_eq_false h
                        have:i=aX n1 (p + m0) (bM G g):=by omega
                        rw [← this]
                        refine dc () trivial ?_
                        refine ai (by decide) ?_ ?_ ?_ ?_<;>simp [LX,I,B,D,hl,bX,aP,aJ,hgs,hrow0]
                      · have h1:=of_decide_eq_false h
                        have:i=aX n1 (p + m0) (bM G g):=by omega
                        rw [← this]
                        refine dc () trivial ?_
                        refine ai (by decide) ?_ ?_ ?_ ?_<;>simp [LX,I,B,D,hl,bX,aP,aJ,hgs,hrow0]
                  · refine ai (by decide) ?_ ?_ ?_ ?_<;>simp [LX,I,B,D,cI,bX,aP,aJ,hgs,hrow0,hcn]
                · intro _ _
                  try simp only [I,B,D,RX,↓ KW,Nat.reduceBEq,Nat.reduceAdd,Nat.reduceLeDiff,Int.reduceNe,Int.reduceBEq,Int.reduceEq,reduceCtorEq,Nat.reduceMul,Int.reduceLT,Int.reduceLE,Int.reduceToNat,hgs,bX,hrow0]
                  refine pY ?_
                  try simp only [I,B,D,RX,↓ KW,Nat.reduceBEq,Nat.reduceAdd,Nat.reduceLeDiff,Int.reduceNe,Int.reduceBEq,Int.reduceEq,reduceCtorEq,Nat.reduceMul,Int.reduceLT,Int.reduceLE,Int.reduceToNat,hgs,DP]
                  refine dc () trivial ?_
                  refine ai (by decide) ?_ ?_ ?_ ?_<;>simp [LX,I,B,D,hgs,bX,aP,aJ]
            · have hfr:¬ fr1=0:=by simpa using h
              have hcn:fr1=(n1:Int):=by rw [hcn0,if_neg (fun hh=>hfr (by omega))]; omega
              refine lT (.exit 4) (fun _:Unit=>(⟨[(9,.dat (I 1) none),(6,.dat (I (p + m0 + aX n1 (p + m0) (bM G g):Nat)) none),(5,.dat (I G) none),(7,.dat (I g) none),(8,.ptr 403 0),(1,.dat (aG aC l) none),(0,.ptr 0 0)],[(403,⟨[aG aC (bX (cI p m0)),aG aC (bX (cI (p + m0) (aX n1 (p + m0) (bM G g))))],[]⟩),(0,⟨({ t with groups:=bX gs }:Tb).cells,if gs=[] then [] else [(104,0)]⟩)],bG gs 0 eR,1000⟩:S)) (fun _=>True) (fun _=>rfl) ?_ ?_
              · refine aF (fun i:Nat=>(⟨[(11,.dat (I i) none),(10,.dat (I n1) none),(6,.dat (I (p + m0 + i:Nat)) none),(5,.dat (I G) none),(7,.dat (I g) none),(9,.dat (I 1) none),(8,.ptr 403 0),(1,.dat (aG aC l) none),(0,.ptr 0 0)],[(403,⟨[aG aC (bX (cI p m0)),aG aC (bX (cI (p + m0) i))],if cI (p + m0) i=[] then [] else [(1,1)]⟩),(0,⟨({ t with groups:=bX gs }:Tb).cells,if gs=[] then [] else [(104,0)]⟩)],bG (cI (p + m0) i) 1 e++bG gs 0 eR,1000⟩:S)) (fun i=>aX n1 (p + m0) (bM G g) - i) (fun i=>i≤aX n1 (p + m0) (bM G g)) ?_ 0 (by omega) ?_
                · intro i hi A1 back1
                  have hfl:aX n1 (p + m0) (bM G g)≤8:=by simp only [aX,bM]; omega
                  have hw3:=aD (k:=i) (by omega)
                  have hf:aX n1 (p + m0) (bM G g)=min n1 (bM G g - (p + m0)):=rfl
                  have hp1:IntKind.i64.wrap (((p + m0 + i:Nat):Int) + 1)=((p + m0 + (i + 1):Nat):Int):=by rw [aV (by omega) (by omega)]; omega
                  have hrl:(cI (p + m0) i).length=i:=by simp [cI]
                  by_cases hl:cI (p + m0) i=[]
                  · try simp only [I,B,D,RX,↓ KW,Nat.reduceBEq,Nat.reduceAdd,Nat.reduceLeDiff,Int.reduceNe,Int.reduceBEq,Int.reduceEq,reduceCtorEq,Nat.reduceMul,Int.reduceLT,Int.reduceLE,Int.reduceToNat,hl,bG,bX,hlim,hgs,hrow0]
                    repeat' (((first | refine aR ?_ ?_ | refine ay ?_ ?_ | refine bk ?_ ?_)<;>intro h)<;>try simp only [I,B,D,RX,↓ KW,Nat.reduceBEq,Nat.reduceAdd,Nat.reduceLeDiff,Int.reduceNe,Int.reduceBEq,Int.reduceEq,reduceCtorEq,Nat.reduceMul,Int.reduceLT,Int.reduceLE,Int.reduceToNat,aP,aJ,hlim,hl,hgs,hp1,hrow0,h])
                    · have h1:=of_decide_eq_true h
                      refine ⟨by decide,?_⟩
                      refine ⟨by decide,?_⟩
                      have h2:(i:Int) < n1:=by rename_i h2; exact of_decide_eq_true h2
                      refine back1 (i + 1) _ (by omega) (by omega) (ai (by decide) ?_ ?_ ?_ ?_)<;>simp [LX,I,B,D,hw3,jz,hl,bX,aP,aJ,hgs,hrow0]
                    · have h1:=of_decide_eq_false h
                      have:i=aX n1 (p + m0) (bM G g):=by omega
                      rw [← this]
                      refine dc () trivial ?_
                      refine ai (by decide) ?_ ?_ ?_ ?_<;>simp [LX,I,B,D,hl,bX,aP,aJ,hgs,hrow0]
                    · have h1:=of_decide_eq_false h
                      have:i=aX n1 (p + m0) (bM G g):=by omega
                      rw [← this]
                      refine dc () trivial ?_
                      refine ai (by decide) ?_ ?_ ?_ ?_<;>simp [LX,I,B,D,hl,bX,aP,aJ,hgs,hrow0]
                  · try simp only [I,B,D,RX,↓ KW,Nat.reduceBEq,Nat.reduceAdd,Nat.reduceLeDiff,Int.reduceNe,Int.reduceBEq,Int.reduceEq,reduceCtorEq,Nat.reduceMul,Int.reduceLT,Int.reduceLE,Int.reduceToNat,hl,bG,bX,hlim,hgs,hrow0]
                    repeat' (((first | refine aR ?_ ?_ | refine ay ?_ ?_ | refine bk ?_ ?_)<;>intro h)<;>try simp only [I,B,D,RX,↓ KW,Nat.reduceBEq,Nat.reduceAdd,Nat.reduceLeDiff,Int.reduceNe,Int.reduceBEq,Int.reduceEq,reduceCtorEq,Nat.reduceMul,Int.reduceLT,Int.reduceLE,Int.reduceToNat,aP,aJ,hlim,hl,hgs,hp1,hrow0,h])
                    · have h1:=of_decide_eq_true h
                      refine ⟨by decide,by omega,by decide,?_⟩
                      have h2:(i:Int) < n1:=by rename_i h2; exact of_decide_eq_true h2
                      refine back1 (i + 1) _ (by omega) (by omega) (ai (by decide) ?_ ?_ ?_ ?_)<;>simp [LX,I,B,D,hw3,jz,hl,bX,aP,aJ,hgs,hrow0]
                    · have h1:=of_decide_eq_false h
                      have:i=aX n1 (p + m0) (bM G g):=by omega
                      rw [← this]
                      refine dc () trivial ?_
                      refine ai (by decide) ?_ ?_ ?_ ?_<;>simp [LX,I,B,D,hl,bX,aP,aJ,hgs,hrow0]
                    · have h1:=of_decide_eq_false h
                      have:i=aX n1 (p + m0) (bM G g):=by omega
                      rw [← this]
                      refine dc () trivial ?_
                      refine ai (by decide) ?_ ?_ ?_ ?_<;>simp [LX,I,B,D,hl,bX,aP,aJ,hgs,hrow0]
                · refine ai (by decide) ?_ ?_ ?_ ?_<;>simp [LX,I,B,D,cI,bX,aP,aJ,hgs,hrow0,hcn]
              · intro _ _
                try simp only [I,B,D,RX,↓ KW,Nat.reduceBEq,Nat.reduceAdd,Nat.reduceLeDiff,Int.reduceNe,Int.reduceBEq,Int.reduceEq,reduceCtorEq,Nat.reduceMul,Int.reduceLT,Int.reduceLE,Int.reduceToNat,hgs,bX,hrow0]
                refine pY ?_
                try simp only [I,B,D,RX,↓ KW,Nat.reduceBEq,Nat.reduceAdd,Nat.reduceLeDiff,Int.reduceNe,Int.reduceBEq,Int.reduceEq,reduceCtorEq,Nat.reduceMul,Int.reduceLT,Int.reduceLE,Int.reduceToNat,hgs,DP]
                refine dc () trivial ?_
                refine ai (by decide) ?_ ?_ ?_ ?_<;>simp [LX,I,B,D,hgs,bX,aP,aJ]
        · intro _ _
          have hgc:=Tb.Hj (t:={ t with groups:=bX gs }) ht.phases
          have hln:=Tb.len' (t:={ t with groups:=bX gs }) ht.phases ht.conflict ht.dm
          have hset:=Tb.Hl (t:={ t with groups:=bX gs }) ht.phases (some (gs++[⟨bX (cI p (aX n0 p (bM G g))),bX (cI (p + aX n0 p (bM G g)) (aX (cnt l g 1 (aX n0 p (bM G g))) (p + aX n0 p (bM G g)) (bM G g)))⟩]))
          simp only [hgs,bX,if_true,if_false] at hgc hln hset
          try simp only [I,B,D,RX,↓ KW,Nat.reduceBEq,Nat.reduceAdd,Nat.reduceLeDiff,Int.reduceNe,Int.reduceBEq,Int.reduceEq,reduceCtorEq,Nat.reduceMul,Int.reduceLT,Int.reduceLE,Int.reduceToNat,hgc,aP,aJ,Gr.len,hgl,hgs,bX]
          try refine ⟨by omega,?_⟩
          try refine ⟨by simp [bG,hgs,eA],?_⟩
          try refine ⟨by omega,?_⟩
          simp [aJ,Gr.cells,hgs] at hset
          refine back (g + 1) _ (by omega) (by omega) (ai (by decide) ?_ ?_ ?_ ?_)<;>simp [LX,I,B,D,hn2,hw,hgs,bX,aJ,aP,Gr.cells,hset]
          trace_state
      · have hgG:g=G:=by have:=of_decide_eq_false h; omega
        subst hgG
        first
          | (exfalso; rw [hgs] at hgl; simp at hgl; omega)
          | exact ⟨by rw [hR],by rw [hR]⟩
  · have:({ t with groups:=none }:Tb)=t:=by cases t; simp_all
    refine ai (by decide) ?_ ?_ ?_ ?_<;>simp [LX,I,B,D,aW,bX,this]
end
end Go.Eng
namespace Go.Eng
open Go
structure Tb.Ln (t:Tb):Prop where
 phases:t.phases.length=8
 conflict:t.conflict.length=8
 dm:t.dm.length=8
theorem Tb.Ok.ln {t:Tb} (h:t.Ok):t.Ln:=⟨h.phases,h.conflict,h.dm⟩
section
variable {t:Tb} (h:t.Ln)
include h
theorem Tb.Ln.len:t.cells.length=131:=by
 simp [Tb.cells,aH Ph.len,h.phases,h.conflict,h.dm]
theorem Tb.Ln.whole:aB t.cells 0 (some 131)=some (.agg t.cells):=by
 have hl:=h.len
 rw [bh _ _ _ (by omega),List.drop_zero,← hl,List.take_length]
theorem Tb.Ln.LQ:t.cells[113]? = some (aG vZ.cells t.aQ):=by
 simp [Tb.cells,List.getElem?_append,aH Ph.len,h.phases,h.conflict,h.dm,List.getElem?_cons]
theorem Tb.Ln.LR:t.cells[114]? = some (aG Rl.cells t.bA):=by
 simp [Tb.cells,List.getElem?_append,aH Ph.len,h.phases,h.conflict,h.dm,List.getElem?_cons]
theorem Tb.Ln.Vt:t.cells[115]? = some (aG Bs.cells t.lp):=by
 simp [Tb.cells,List.getElem?_append,aH Ph.len,h.phases,h.conflict,h.dm,List.getElem?_cons]
theorem Tb.Ln.Vu:t.cells[129]? = some (I t.qC):=by
 simp [Tb.cells,List.getElem?_append,aH Ph.len,h.phases,h.conflict,h.dm,List.getElem?_cons]
theorem Tb.Ln.ou {i:Nat} {c:Int} (hc:t.conflict[i]? = some c):t.cells[105 + i]? = some (I c):=by
 have hi:i < 8:=by have:=(List.getElem?_eq_some_iff.1 hc).1; rw [h.conflict] at this; exact this
 have e:(t.phases.flatMap Ph.cells).length=104:=by rw [aH Ph.len,h.phases]
 unfold Tb.cells
 rw [List.getElem?_append_right (by omega),e,show 105 + i - 104=i + 1 by omega,List.getElem?_cons_succ,List.getElem?_append_left (by simp [h.conflict,hi]),List.getElem?_map,hc]; rfl
def Tb.rest (t:Tb):List AV:=aG Gr.cells t.groups :: (t.conflict.map I++(aG vZ.cells t.aQ :: aG Rl.cells t.bA :: aG Bs.cells t.lp ::
  I t.extend :: I t.gY :: I t.start :: I t.revert :: I t.least :: (t.dm.map I++[I t.qC,I t.share])))
omit h in
theorem bI {pre post ps:List AV} {off:Nat} (hle:pre.length≤off):setCells (pre++post) off ps=pre++setCells post (off - pre.length) ps:=by
 simp only [setCells,List.take_append,List.drop_append,List.append_assoc]
 rw [List.take_of_length_le hle,List.drop_of_length_le (by omega),show off + ps.length - pre.length=off - pre.length + ps.length by omega]
 rfl
omit h in
theorem AN {pre post ps:List AV} {off:Nat} (hle:off + ps.length≤pre.length):setCells (pre++post) off ps=setCells pre off ps++post:=by
 simp only [setCells]
 rw [List.take_append_of_le_length (by omega),List.drop_append_of_le_length hle]
 simp
omit h in
theorem Is {l:List Int} {i:Nat} {v:Int} (hi:i < l.length):setCells (l.map I) i [I v]=(l.set i v).map I:=by
 simp only [setCells,List.length_cons,List.length_nil]
 rw [List.set_eq_take_append_cons_drop,if_pos hi]
 simp [List.map_take,List.map_drop]
omit h in
theorem ef (c:AV) (cs ps:List AV) (k:Nat):setCells (c :: cs) (k + 1) ps=c :: setCells cs k ps:=by
 simp only [setCells,List.take_succ_cons,List.cons_append,show k + 1 + ps.length=(k + ps.length) + 1 by omega,List.drop_succ_cons]
theorem Tb.Ln.JO {i:Nat} (hi:i < 8) (q:Ph):setCells t.cells (i * 13) q.cells=({ t with phases:=t.phases.set i q }:Tb).cells:=by
 obtain ⟨p,hp⟩:∃ p,t.phases[i]? = some p:=⟨_,List.getElem?_eq_getElem (by rw [h.phases]; exact hi)⟩
 exact Tb.JJ hp
theorem Tb.Ln.wg {i:Nat} (hi:i < 8) (v:Int):setCells t.cells (105 + i) [I v]=({ t with conflict:=t.conflict.set i v }:Tb).cells:=by
 have e:(t.phases.flatMap Ph.cells).length=104:=by rw [aH Ph.len,h.phases]
 unfold Tb.cells
 rw [bI (by omega),e,show 105 + i - 104=i + 1 by omega,ef,AN (by simp [h.conflict]; omega),Is (by rw [h.conflict]; exact hi)]
theorem Tb.Ln.CS {i:Nat} (hi:i < 8) (v:Int):setCells t.cells (121 + i) [I v]=({ t with dm:=t.dm.set i v }:Tb).cells:=by
 have e:(t.phases.flatMap Ph.cells).length=104:=by rw [aH Ph.len,h.phases]
 unfold Tb.cells
 rw [bI (by omega),e,show 121 + i - 104=(i + 16) + 1 by omega,ef,bI (by simp [h.conflict]),show i + 16 - (t.conflict.map I).length=i + 8 by simp [h.conflict]]
 simp only [ef]
 rw [AN (by simp [h.dm]; omega),Is (by rw [h.dm]; exact hi)]
theorem Tb.Ln.LS (d:Option (List vZ)):setCells t.cells 113 [aG vZ.cells d]=({ t with aQ:=d }:Tb).cells:=by
 have e:(t.phases.flatMap Ph.cells).length=104:=by rw [aH Ph.len,h.phases]
 have e2:(t.conflict.map I).length=8:=by simp [h.conflict]
 unfold Tb.cells
 rw [bI (by omega),e,show 113 - 104=8 + 1 by omega,ef,bI (by omega),e2]
 rfl
theorem Tb.Ln.JP (d:Option (List Rl)):setCells t.cells 114 [aG Rl.cells d]=({ t with bA:=d }:Tb).cells:=by
 have e:(t.phases.flatMap Ph.cells).length=104:=by rw [aH Ph.len,h.phases]
 have e2:(t.conflict.map I).length=8:=by simp [h.conflict]
 unfold Tb.cells
 rw [bI (by omega),e,show 114 - 104=9 + 1 by omega,ef,bI (by omega),e2]
 rfl
theorem Tb.Ln.JQ (d:Option (List Bs)):setCells t.cells 115 [aG Bs.cells d]=({ t with lp:=d }:Tb).cells:=by
 have e:(t.phases.flatMap Ph.cells).length=104:=by rw [aH Ph.len,h.phases]
 have e2:(t.conflict.map I).length=8:=by simp [h.conflict]
 unfold Tb.cells
 rw [bI (by omega),e,show 115 - 104=10 + 1 by omega,ef,bI (by omega),e2]
 rfl
theorem Tb.Ln.sM (v:Int):setCells t.cells 116 [I v]=({ t with extend:=v }:Tb).cells∧setCells t.cells 117 [I v]=({ t with gY:=v }:Tb).cells∧setCells t.cells 118 [I v]=({ t with start:=v }:Tb).cells ∧
  setCells t.cells 119 [I v]=({ t with revert:=v }:Tb).cells∧setCells t.cells 120 [I v]=({ t with least:=v }:Tb).cells:=by
 have e:(t.phases.flatMap Ph.cells).length=104:=by rw [aH Ph.len,h.phases]
 have e2:(t.conflict.map I).length=8:=by simp [h.conflict]
 unfold Tb.cells
 refine ⟨?_,?_,?_,?_,?_⟩
 ·rw [bI (by omega),e,show 116 - 104=11 + 1 by omega,ef,bI (by omega),e2]; rfl
 ·rw [bI (by omega),e,show 117 - 104=12 + 1 by omega,ef,bI (by omega),e2]; rfl
 ·rw [bI (by omega),e,show 118 - 104=13 + 1 by omega,ef,bI (by omega),e2]; rfl
 ·rw [bI (by omega),e,show 119 - 104=14 + 1 by omega,ef,bI (by omega),e2]; rfl
 ·rw [bI (by omega),e,show 120 - 104=15 + 1 by omega,ef,bI (by omega),e2]; rfl
theorem Tb.Ln.Fi (v:Int):setCells t.cells 129 [I v]=({ t with qC:=v }:Tb).cells∧setCells t.cells 130 [I v]=({ t with share:=v }:Tb).cells:=by
 have e:(t.phases.flatMap Ph.cells).length=104:=by rw [aH Ph.len,h.phases]
 have e2:(t.conflict.map I).length=8:=by simp [h.conflict]
 have e3:(t.dm.map I).length=8:=by simp [h.dm]
 unfold Tb.cells
 refine ⟨?_,?_⟩
 ·rw [bI (by omega),e,show 129 - 104=24 + 1 by omega,ef,bI (by omega),e2]
  simp only [Nat.reduceSub,ef]
  rw [bI (by omega),e3]; rfl
 ·rw [bI (by omega),e,show 130 - 104=25 + 1 by omega,ef,bI (by omega),e2]
  simp only [Nat.reduceSub,ef]
  rw [bI (by omega),e3]; rfl
end
end Go.Eng
namespace Go.Eng
open Go
def kU:Tb:=⟨List.replicate 8 default,none,List.replicate 8 0,none,none,none,0,0,0,0,0,List.replicate 8 0,0,0⟩
theorem OL:cj=kU.cells:=rfl
def DQ (l:Option (List Int)):Nat→List Ph
 | 0=>List.replicate 8 default
 | k + 1=>(DQ l k).set k (jf l (10 + 12 * k))
def Cp:Nat→List Int
 | 0=>List.replicate 8 0
 | k + 1=>(Cp k).set k 1
theorem dN (l:Option (List Int)):∀ k,(DQ l k).length=8
 | 0=>by simp [DQ]
 | k + 1=>by simp [DQ,dN l k]
theorem nE:∀ k,(Cp k).length=8
 | 0=>by simp [Cp]
 | k + 1=>by simp [Cp,nE k]
def uH (c:List Int) (i:Nat):Int:=c.getD i 0
def oz (t:Tb) (l:Option (List Int)) (p q:Nat):Bool:=!cK t p q && bR l (110 + 8 * p + q) 9 != 1
def ei (t:Tb) (l:Option (List Int)) (p q:Nat) (c:List Int):List Int :=
 if oz t l p q then
  let c1:=c.set p (gR (uH c p) q)
  c1.set q (gR (uH c1 q) p)
 else c
def iL (t:Tb) (l:Option (List Int)) (p:Nat):Nat→List Int→List Int
 | 0,c=>c
 | q + 1,c=>ei t l p q (iL t l p q c)
def d6 (t:Tb) (l:Option (List Int)):Nat→List Int
 | 0=>List.replicate 8 0
 | p + 1=>iL t l p p (d6 t l p)
theorem DR {t:Tb} {l:Option (List Int)} {p q:Nat} {c:List Int}:(ei t l p q c).length=c.length:=by
 unfold ei; split<;>simp
theorem lu {t:Tb} {l:Option (List Int)} {p:Nat} {c:List Int}:∀ q,(iL t l p q c).length=c.length
 | 0=>rfl
 | q + 1=>by rw [iL,DR,lu q]
theorem cV {t:Tb} {l:Option (List Int)}:∀ p,(d6 t l p).length=8
 | 0=>by simp [d6]
 | p + 1=>by rw [d6,lu,cV p]
def kf (l:Option (List Int)) (n d:Int) (j:Nat):List vZ:=(List.range j).map fun (k:Nat)=>gZ l (180 + 8 * (d - k)) n
def ej (t:Tb) (l:Option (List Int)) (n r:Int) (j:Nat):List Rl:=(List.range j).map fun (k:Nat)=>oZ t l (260 + 16 * (r - k)) n
def It (l:Option (List Int)) (n i:Int):Bs :=
 let x:=cn .i64 (bR l (330 + 2 * i) 256) (bK (bK (1 * 2 ^ min (IntKind.u64.wrap n).toNat 64) - 1))
 ⟨if x > 1 then x else 1,bK (1 + bR l (331 + 2 * i) 30)⟩
def oA (l:Option (List Int)) (n b:Int) (j:Nat):List Bs:=(List.range j).map fun (k:Nat)=>It l n (b - k)
def rH (t:Tb):Nat→Int
 | 0=>0
 | k + 1=>if pX t k > rH t k then pX t k else rH t k
def c7 (l:Option (List Int)):List Gr × Nat:=aW l (eF l) (eF l)
def aY (l:Option (List Int)):Tb :=
  let n:=(c7 l).2
  let t1:Tb:={ kU with groups:=some (c7 l).1 }
  let q:=bR l 174 (n + 1)
  { phases:=DQ l n
    groups:=some (c7 l).1
    conflict:=d6 t1 l n
    aQ:=bX (kf l n (bR l 175 9) (bR l 175 9).toNat)
    bA:=bX (ej t1 l n ((bR l 176 4).tmod 3) ((bR l 176 4).tmod 3).toNat)
    lp:=bX (oA l n (bR l 177 3) (bR l 177 3).toNat)
    extend:=bR l 178 12
    gY:=bR l 179 40
    start:=bR l 180 8
    revert:=bR l 181 8
    least:=bR l 182 12
    dm:=if q < n then (Cp n).set q.toNat 2 else Cp n
    qC:=0
    share:=bR l 183 4 }
def bO (l:Option (List Int)):Tb :=
 { aY l with qC:=if (ej { kU with groups:=some (c7 l).1 } l (c7 l).2 ((bR l 176 4).tmod 3) ((bR l 176 4).tmod 3).toNat)=[] then 0 else rH (aY l) (c7 l).2 }
def Table.Spec (C:aZ) (f:Nat):Prop:=∀ l:Option (List Int),C.c f [aG aC l] (.agg (bO l).cells) none
def jn (l:Option (List Int)) (k:Nat):Tb:={ kU with groups:=some (c7 l).1,phases:=DQ l k,dm:=Cp k }
def ia (l:Option (List Int)) (c:List Int):Tb:={ jn l (c7 l).2 with conflict:=c }
def sN (l:Option (List Int)):Tb:={ ia l (d6 { kU with groups:=some (c7 l).1 } l (c7 l).2) with dm:=(aY l).dm }
def zw (l:Option (List Int)) (d:List vZ):Tb:={ sN l with aQ:=bX d }
def xV (l:Option (List Int)) (r:List Rl):Tb:={ sN l with aQ:=(aY l).aQ,bA:=bX r }
def zx (l:Option (List Int)) (b:List Bs):Tb:={ sN l with aQ:=(aY l).aQ,bA:=(aY l).bA,lp:=bX b }
def AO (l:Option (List Int)) (w:Int):Tb:={ aY l with qC:=w }
theorem LU (p m:Nat):(cI p m).length=m:=by simp [cI]
theorem wj (l:Option (List Int)) (G:Nat):∀ g,∀ x∈(aW l G g).1,(x.a.getD []).length≤8∧(x.b.getD []).length≤8
 | 0,x,hx=>by simp [aW] at hx
 | g + 1,x,hx=>by
  simp only [aW,List.mem_append,List.mem_singleton] at hx
  rcases hx with hx|rfl
  ·exact wj l G g x hx
  ·simp only [bU,LU,aX,bM]
   omega
theorem t5 (l:Option (List Int)):(c7 l).2≤8:=tZ _ _ _
theorem y7 (l:Option (List Int)) (G:Nat):∀ g,1≤g→g≤G→G≤3→1≤(aW l G g).2
 | 0,h,_,_=>by omega
 | 1,_,h1,h3=>by
  simp only [aW,aX,bM,cnt]
  split<;>split<;>simp_all<;>omega
 | g + 2,_,h1,h3=>by
  have:=y7 l G (g + 1) (by omega) (by omega) h3
  rw [aW]
  simp only
  omega
theorem qN (l:Option (List Int)):1≤eF l∧eF l≤3:=by
 have:=aK l 0 (n:=3) (by decide) (by decide)
 unfold eF; omega
theorem AP (l:Option (List Int)):1≤(c7 l).2:=y7 l _ _ (qN l).1 (Nat.le_refl _) (qN l).2
theorem AQ {l:Option (List Int)} {t:Tb} (hg:t.groups=some (c7 l).1) (h1:t.phases.length=8) (h2:t.conflict.length=8) (h3:t.dm.length=8) (h4:(t.aQ.getD []).length≤1048576) (h5:(t.bA.getD []).length≤1048576) (h6:(t.lp.getD []).length≤1048576):t.Ok:=by
 refine ⟨h1,h2,h3,?_,?_,h4,h5,h6⟩
 ·rw [hg]; simp only [Option.getD_some,c7,nD]; have:=qN l; omega
 ·rw [hg]; simp only [Option.getD_some]
  intro g hg'
  have:=wj _ _ _ g hg'
  omega
theorem Ho (l:Option (List Int)) (n d:Int) (j:Nat):kf l n d (j + 1)=kf l n d j++[gZ l (180 + 8 * (d - j)) n]:=by simp [kf,List.range_succ]
theorem xW (l:Option (List Int)) (n d:Int) (j:Nat):(kf l n d j).length=j:=by simp [kf]
theorem Fj (t:Tb) (l:Option (List Int)) (n d:Int) (j:Nat):ej t l n d (j + 1)=ej t l n d j++[oZ t l (260 + 16 * (d - j)) n]:=by simp [ej,List.range_succ]
theorem u6 (t:Tb) (l:Option (List Int)) (n d:Int) (j:Nat):(ej t l n d j).length=j:=by simp [ej]
theorem Hp (l:Option (List Int)) (n d:Int) (j:Nat):oA l n d (j + 1)=oA l n d j++[It l n (d - j)]:=by simp [oA,List.range_succ]
theorem xX (l:Option (List Int)) (n d:Int) (j:Nat):(oA l n d j).length=j:=by simp [oA]
theorem vZ.len (d:vZ):d.cells.length=7:=rfl
theorem Bs.len (d:Bs):d.cells.length=2:=rfl
theorem dH (l:Option (List Int)):(aY l).dm.length=8:=by
 unfold aY; simp only; split<;>simp [nE]
theorem lz (l:Option (List Int)):((aY l).aQ.getD []).length≤1048576:=by
 have:=aK l 175 (n:=9) (by decide) (by decide)
 simp only [aY,bU,xW]; omega
theorem jO (l:Option (List Int)):((aY l).bA.getD []).length≤1048576:=by
 have h:=Int.tmod_lt_of_pos (bR l 176 4) (b:=3) (by decide)
 simp only [aY,bU,u6]; omega
theorem DS (l:Option (List Int)):((aY l).lp.getD []).length≤1048576:=by
 have:=aK l 177 (n:=3) (by decide) (by decide)
 simp only [aY,bU,xX]; omega
theorem u7 (l:Option (List Int)):(bO l).Ok:=AQ rfl (dN l _) (cV _) (dH l) (lz l) (jO l) (DS l)
section
variable {P:Program} (hm:P.follows .mixedOrders=true) {f:Nat}
include hm
theorem Table.ok {fR fP fB fF fW fD eD fr eR eB fw:Nat} (hc:aE P f=some (nj fR fP fB fF fW fD eD fr eR eB fw)) (hR:rows.Spec (Pure P) fR) (hP:phase.Spec (Pure P) fP) (hB:beside.Spec (Pure P) fB) (hF:from.Spec (Pure P) fF) (hW:tW.Spec (Pure P) fW)
    (hD:sL.Spec (Pure P) fD) (hr:LP.Spec (Pure P) fr) (hw:wait.Spec (Pure P) fw):Table.Spec (Pure P) f:=by
  intro l
  refine ak hm hc (by show 1≤186; decide) (aj (keep:=[0,3,8,9,12,15,18]) (i:=0) ?_)
  try simp only [I,B,D,RY,↓ KW,seval,nj,Z.H,OL]
  have ok0:kU.Ok:=⟨rfl,rfl,rfl,by simp [kU],by simp [kU],by simp [kU],by simp [kU],by simp [kU]⟩
  refine ⟨rfl,aT (hR kU l ok0 rfl) ?_⟩
  have hN:=t5 l
  have hN1:=AP l
  try simp only [I,B,D,RY,↓ KW,seval]
  change aw _ _ _ (⟨[(5,_),(4,.dat (I ((c7 l).2:Nat)) none),(14,_),(13,_),(3,_),(2,_),(0,_)],[(5,⟨(jn l 0).cells,[]⟩),_],_,_⟩:S)
  generalize hNe:(c7 l).2=N at *
  refine lT (.exit 0) (fun _:Unit=>(⟨[(4,.dat (I N) none),(3,.ptr 5 0),(0,.dat (aG aC l) none),(2,.ptr 4 0)],[(5,⟨(jn l N).cells,[]⟩),(4,⟨kU.cells,[]⟩)],[],400⟩:S)) (fun _=>True) (fun _=>rfl) ?_ ?_
  · refine aF (fun k:Nat=>(⟨[(5,.dat (I k) none),(4,.dat (I N) none),(3,.ptr 5 0),(0,.dat (aG aC l) none),(2,.ptr 4 0)],[(5,⟨(jn l k).cells,[]⟩),(4,⟨kU.cells,[]⟩)],[],400⟩:S)) (fun k=>N - k) (fun k=>k≤N) ?_ 0 (by omega) ?_
    · intro k hk A back
      have hw3:=aD (k:=k) (by omega)
      have hw2:IntKind.i64.wrap (10 + IntKind.i64.wrap (12 * (k:Int)))=10 + 12 * k:=by rw [aV (n:=12 * (k:Int)) (by omega) (by omega),aV (by omega) (by omega)]
      have ln1:(jn l k).Ln:=⟨dN l k,rfl,nE k⟩
      have ln2:({ jn l k with phases:=(jn l k).phases.set k (jf l (10 + 12 * k)) }:Tb).Ln:=⟨by simp [dN,jn],rfl,nE k⟩
      try simp only [I,B,D,RY,↓ KW,seval]
      refine ay (fun h=>?_) (fun h=>?_)<;>try simp only [I,B,D,RY,↓ KW,seval,h]
      · have hkN:k < N:=by have:=of_decide_eq_true h; omega
        have hlt:k < 8:=by omega
        have hs1:=ln1.JO hlt (jf l (10 + 12 * k))
        have hs2:=ln2.CS hlt 1
        have hs3:({ ({ jn l k with phases:=(jn l k).phases.set k (jf l (10 + 12 * k)) }:Tb) with dm:=({ jn l k with phases:=(jn l k).phases.set k (jf l (10 + 12 * k)) }:Tb).dm.set k 1 }:Tb)=jn l (k + 1):=rfl
        rw [hs3] at hs2
        have hl1:=ln1.len
        have hl2:=ln2.len
        generalize ({ jn l k with phases:=(jn l k).phases.set k (jf l (10 + 12 * k)) }:Tb)=T at *
        refine af (hP _ _) ?_
        try simp only [I,B,D,RY,↓ KW,seval,hw2,hs1]
        exact ⟨by omega,Ph.len _,by omega,by omega,by omega,by refine back (k + 1) _ (by omega) (by omega) (ai (by decide) ?_ ?_ ?_ ?_)<;>simp [LX,I,B,D,hs2,hw3]⟩
      · have:k=N:=by have:=of_decide_eq_false h; omega
        subst this
        refine dc () trivial ?_
        refine ai (by decide) ?_ ?_ ?_ ?_<;>simp [LX,I,B,D]
    · refine ai (by decide) ?_ ?_ ?_ ?_<;>simp [LX,I,B,D]
  · intro _ _
    try simp only [I,B,D,RY,↓ KW,seval]
    generalize ht1:({ kU with groups:=some (c7 l).1 }:Tb)=t1 at *
    have hA:jn l N=ia l (d6 t1 l 0):=by subst hNe; rfl
    refine lT (.exit 2) (fun _:Unit=>(⟨[(4,.dat (I N) none),(3,.ptr 5 0),(0,.dat (aG aC l) none),(2,.ptr 4 0)],[(5,⟨(ia l (d6 t1 l N)).cells,[]⟩),(4,⟨kU.cells,[]⟩)],[],400⟩:S)) (fun _=>True) (fun _=>rfl) ?_ ?_
    · refine aF (fun p:Nat=>(⟨[(6,.dat (I p) none),(4,.dat (I N) none),(3,.ptr 5 0),(0,.dat (aG aC l) none),(2,.ptr 4 0)],[(5,⟨(ia l (d6 t1 l p)).cells,[]⟩),(4,⟨kU.cells,[]⟩)],[],400⟩:S)) (fun p=>N - p) (fun p=>p≤N) ?_ 0 (by omega) ?_
      · intro p hp A back
        have hw3:=aD (k:=p) (by omega)
        try simp only [I,B,D,RY,↓ KW,seval]
        refine ay (fun h=>?_) (fun h=>?_)<;>try simp only [I,B,D,RY,↓ KW,seval,h]
        · have hpN:p < N:=by have:=of_decide_eq_true h; omega
          have hlt:p < 8:=by omega
          have hcl:d6 t1 l (p + 1)=iL t1 l p p (d6 t1 l p):=rfl
          have hcl8:=cV (t:=t1) (l:=l) p
          generalize d6 t1 l p=c0 at *
          refine aF (fun q:Nat=>(⟨[(7,.dat (I q) none),(6,.dat (I p) none),(4,.dat (I N) none),(3,.ptr 5 0),(0,.dat (aG aC l) none),(2,.ptr 4 0)],[(5,⟨(ia l (iL t1 l p q c0)).cells,[]⟩),(4,⟨kU.cells,[]⟩)],[],400⟩:S)) (fun q=>p - q) (fun q=>q≤p) ?_ 0 (by omega) ?_
          · intro q hq A2 back2
            have hw4:=aD (k:=q) (by omega)
            have hst:iL t1 l p (q + 1) c0=ei t1 l p q (iL t1 l p q c0):=rfl
            have hc8:(iL t1 l p q c0).length=8:=by rw [lu,hcl8]
            generalize hce:iL t1 l p q c0=c at *
            have okB:(ia l c).Ok:=AQ rfl (dN l _) hc8 (nE _) (by simp [ia,jn,kU]) (by simp [ia,jn,kU]) (by simp [ia,jn,kU])
            have hwh:=okB.ln.whole
            have hln:=okB.ln.len
            have hbs:cK (ia l c) p q=cK t1 p q:=by subst ht1; rfl
            have hix:IntKind.i64.wrap (IntKind.i64.wrap (110 + IntKind.i64.wrap (8 * (p:Int))) + q)=110 + 8 * p + q:=by
              rw [aV (n:=8 * (p:Int)) (by omega) (by omega),aV (n:=110 + 8 * (p:Int)) (by omega) (by omega),aV (by omega) (by omega)]
            try simp only [I,B,D,RY,↓ KW,seval]
            refine ay (fun h2=>?_) (fun h2=>?_)<;>try simp only [I,B,D,RY,↓ KW,seval,hwh,h2]
            · have hq8:q < p:=by have:=of_decide_eq_true h2; omega
              refine af (hB _ _ _ okB) ?_
              try simp only [I,B,D,RY,↓ KW,seval,hbs]
              repeat' (first | (refine af (hF _ _ _ (by decide)) ?_; try simp only [I,B,D,RY,↓ KW,seval,hix]) | (((first | refine aR ?_ ?_ | refine ay ?_ ?_ | refine bk ?_ ?_)<;>intro h)<;>try simp only [I,B,D,RY,↓ KW,seval,hix,h]))
              · have hb:cK t1 p q=false:=by simp_all
                have hcc:oz t1 l p q=true:=by simp only [oz,hb]; simpa using h
                have hcs:ei t1 l p q c=(c.set p (gR (uH c p) q)).set q (gR (uH (c.set p (gR (uH c p) q)) q) p):=by simp only [ei,hcc,if_true]
                have g1:c[p]? = some (uH c p):=by simp [uH,show p < c.length by omega]
                have g2:(c.set p (gR (uH c p) q))[q]? = some (uH (c.set p (gR (uH c p) q)) q):=by simp [uH,show q < c.length by omega]
                have ln2:(ia l (c.set p (gR (uH c p) q))).Ln:=⟨dN l _,by simp [ia,hc8],nE _⟩
                have l1:=okB.ln.ou (t:=ia l c) g1
                have l2:=ln2.ou g2
                have hs1:setCells (ia l c).cells (105 + p) [I (gR (uH c p) q)]=(ia l (c.set p (gR (uH c p) q))).cells:=okB.ln.wg hlt _
                have hs2:setCells (ia l (c.set p (gR (uH c p) q))).cells (105 + q) [I (gR (uH (c.set p (gR (uH c p) q)) q) p)]=(ia l (ei t1 l p q c)).cells:=by rw [hcs]; exact ln2.wg (by omega) _
                have hln2:=ln2.len
                rw [← hst] at hs2
                simp only [I] at hs1 hs2
                generalize uH (c.set p (gR (uH c p) q)) q=v2 at *
                generalize uH c p=v1 at *
                generalize c.set p (gR v1 q)=c2 at *
                refine ⟨by omega,?_⟩
                try simp only [I,B,D,RY,↓ KW,seval,l1]
                refine af (hW _ _) ?_
                try simp only [I,B,D,RY,↓ KW,seval,hs1]
                refine ⟨by omega,by omega,by omega,?_⟩
                try simp only [I,B,D,RY,↓ KW,seval,l2,hs1]
                refine af (hW _ _) ?_
                try simp only [I,B,D,RY,↓ KW,seval,hs1,hs2]
                exact ⟨by omega,by omega,by refine back2 (q + 1) _ (by omega) (by omega) (ai (by decide) ?_ ?_ ?_ ?_)<;>simp [LX,I,B,D,hw4]⟩
              · have hcs:ei t1 l p q c=c:=by
                  have hcc:oz t1 l p q=false:=by simp only [oz]; simp_all
                  simp [ei,hcc]
                refine back2 (q + 1) _ (by omega) (by omega) (ai (by decide) ?_ ?_ ?_ ?_)<;>simp [LX,I,B,D,hst,hcs,hw4]
              · have hcs:ei t1 l p q c=c:=by
                  have hcc:oz t1 l p q=false:=by simp only [oz]; simp_all
                  simp [ei,hcc]
                refine back2 (q + 1) _ (by omega) (by omega) (ai (by decide) ?_ ?_ ?_ ?_)<;>simp [LX,I,B,D,hst,hcs,hw4]
            · have:q=p:=by have:=of_decide_eq_false h2; omega
              subst this
              refine back (q + 1) _ (by omega) (by omega) (ai (by decide) ?_ ?_ ?_ ?_)<;>simp [LX,I,B,D,hcl,hce,hw3]
          · refine ai (by decide) ?_ ?_ ?_ ?_<;>simp [LX,I,B,D,iL]
        · have:p=N:=by have:=of_decide_eq_false h; omega
          subst this
          refine dc () trivial ?_
          refine ai (by decide) ?_ ?_ ?_ ?_<;>simp [LX,I,B,D]
      · refine ai (by decide) ?_ ?_ ?_ ?_<;>simp [LX,I,B,D,hA]
    · intro _ _
      have hn1:IntKind.i64.wrap ((N:Int) + 1)=N + 1:=aD (by omega)
      have hq:=aK l 174 (n:=(N:Int) + 1) (by omega) (by omega)
      have okB:(ia l (d6 t1 l N)).Ok:=AQ rfl (dN l _) (cV _) (nE _) (by simp [ia,jn,kU]) (by simp [ia,jn,kU]) (by simp [ia,jn,kU])
      have hln:=okB.ln.len
      have hpre:(aY l).dm=if bR l 174 (N + 1) < N then (Cp N).set (bR l 174 (N + 1)).toNat 2 else Cp N:=by subst hNe; rfl
      have hC:sN l={ ia l (d6 t1 l N) with dm:=(aY l).dm }:=by subst hNe; subst ht1; rfl
      have hfB:(ia l (d6 t1 l N)).dm=Cp N:=by subst hNe; rfl
      rw [Lu]
      refine lT .normal (fun _:Unit=>(⟨[(4,.dat (I N) none),(3,.ptr 5 0),(0,.dat (aG aC l) none),(2,.ptr 4 0)],[(5,⟨(sN l).cells,[]⟩),(4,⟨kU.cells,[]⟩)],[],400⟩:S)) (fun _=>True) (fun _=>rfl) ?_ ?_
      · try simp only [I,B,D,RY,↓ KW,seval]
        refine af (hF _ _ _ (by omega)) ?_
        rw [hn1]
        generalize bR l 174 (N + 1)=q at *
        try simp only [I,B,D,RY,↓ KW,seval]
        refine ay (fun h=>?_) (fun h=>?_)<;>try simp only [I,B,D,RY,↓ KW,seval,h]
        · have hqN:q < N:=of_decide_eq_true h
          rw [if_pos hqN] at hpre
          have hs1:=okB.ln.CS (i:=q.toNat) (by omega) 2
          have e:({ ia l (d6 t1 l N) with dm:=(ia l (d6 t1 l N)).dm.set q.toNat 2 }:Tb)=sN l:=by rw [hC,hfB,hpre]
          rw [e] at hs1
          simp only [I] at hs1
          refine ⟨by omega,by omega,?_⟩
          refine dc () trivial ?_
          refine ai (by decide) ?_ ?_ ?_ ?_<;>simp [LX,I,B,D,hs1]
        · have hqN:¬ q < N:=of_decide_eq_false h
          rw [if_neg hqN] at hpre
          have e:ia l (d6 t1 l N)=sN l:=by rw [hC,hpre,← hfB]
          refine dc () trivial ?_
          refine ai (by decide) ?_ ?_ ?_ ?_<;>simp [LX,I,B,D,e]
      · intro _ _
        have hd:=aK l 175 (n:=9) (by decide) (by decide)
        have hD0:sN l=zw l []:=rfl
        have hDe:zw l (kf l N (bR l 175 9) (bR l 175 9).toNat)=xV l []:=by subst hNe; rfl
        try simp only [I,B,D,RY,↓ KW,seval]
        refine af (hF _ _ _ (by decide)) ?_
        generalize bR l 175 9=d at *
        try simp only [I,B,D,RY,↓ KW,seval]
        refine lT (.exit 6) (fun _:Unit=>(⟨[(4,.dat (I N) none),(3,.ptr 5 0),(0,.dat (aG aC l) none),(2,.ptr 4 0)],[(5,⟨(zw l (kf l N d d.toNat)).cells,[]⟩),(4,⟨kU.cells,[]⟩)],[],400⟩:S)) (fun _=>True) (fun _=>rfl) ?_ ?_
        · refine aF (fun j:Nat=>(⟨[(9,.dat (I (d - j)) none),(4,.dat (I N) none),(3,.ptr 5 0),(0,.dat (aG aC l) none),(2,.ptr 4 0)],[(5,⟨(zw l (kf l N d j)).cells,if kf l N d j=[] then [] else [(113,0)]⟩),(4,⟨kU.cells,[]⟩)],bG (kf l N d j) 0 eD,400⟩:S)) (fun j=>d.toNat - j) (fun j=>j≤d.toNat) ?_ 0 (by omega) ?_
          · intro j hj A back
            have hw3:IntKind.i64.wrap (d - j - 1)=d - ((j + 1:Nat):Int):=by rw [aV (by omega) (by omega)]; omega
            have hix:IntKind.i64.wrap (180 + IntKind.i64.wrap (8 * (d - (j:Int))))=180 + 8 * (d - j):=by rw [aV (n:=8 * (d - (j:Int))) (by omega) (by omega),aV (by omega) (by omega)]
            have hnext:=Ho  l N d j
            have hlen:(kf l N d j).length=j:=xW ..
            generalize hL:kf l N d j=L at *
            generalize hx:gZ l (180 + 8 * (d - j)) N=x at *
            have z0:(zw l L).Ok:=AQ rfl (dN l _) (cV _) (dH l) (by simp [zw,sN,ia,jn,kU,bU,lz]; try omega) (by simp [zw,sN,ia,jn,kU,bU,jO]; try omega) (by simp [zw,sN,ia,jn,kU,bU]; try omega)
            have ln:=z0.ln
            have hln:=ln.len
            have hwh:=ln.whole
            have hat:=ln.LQ
            have hset:setCells (zw l L).cells 113 [aG vZ.cells (some (L++[x]))]=(zw l (L++[x])).cells:=by rw [ln.LS (some (L++[x]))]; simp [zw,bX]
            have hatr:(zw l L).aQ=bX L:=rfl
            rw [hatr] at hat
            simp only [aJ,List.map_append,List.map_cons,List.map_nil] at hset
            cases L with
            | nil =>
              simp only [List.map_nil,List.nil_append,bX,if_true,aP] at hset hat hnext
              try simp only [I,B,D,RY,↓ KW,seval,bX,bG]
              refine ay (fun h=>?_) (fun h=>?_)<;>try simp only [I,B,D,RY,↓ KW,seval,hat,hwh,h]
              · have hj1:(0:Int) < d - j:=of_decide_eq_true h
                refine af (hD _ _ _ (by omega)) ?_
                try simp only [I,B,D,RY,↓ KW,seval,hix,hx,vZ.len]
                try simp only [I,B,D,RY,↓ KW,seval,hset]
                refine ⟨by omega,?_⟩
                refine back (j + 1) _ (by omega) (by omega) (ai (by decide) ?_ ?_ ?_ ?_)<;>simp [LX,I,B,D,hnext,hw3,bX]
              · have hj1:¬ (0:Int) < d - j:=of_decide_eq_false h
                have:j=d.toNat:=by omega
                rw [← this,hL]
                refine dc () trivial ?_
                refine ai (by decide) ?_ ?_ ?_ ?_<;>simp [LX,I,B,D,bX]
            | cons y ys =>
              simp only [bX,reduceCtorEq,if_false,aJ] at hset hat hnext
              try simp only [I,B,D,RY,↓ KW,seval,bX,bG]
              refine ay (fun h=>?_) (fun h=>?_)<;>try simp only [I,B,D,RY,↓ KW,seval,hat,hwh,h]
              · have hj1:(0:Int) < d - j:=of_decide_eq_true h
                refine af (hD _ _ _ (by omega)) ?_
                try simp only [I,B,D,RY,↓ KW,seval,hix,hx,vZ.len]
                try simp only [I,B,D,RY,↓ KW,seval,hset,vZ.len]
                refine ⟨by simp at hlen ⊢; omega,by omega,?_⟩
                refine back (j + 1) _ (by omega) (by omega) (ai (by decide) ?_ ?_ ?_ ?_)<;>simp [LX,I,B,D,hnext,hw3,bX]
              · have hj1:¬ (0:Int) < d - j:=of_decide_eq_false h
                have:j=d.toNat:=by omega
                rw [← this,hL]
                refine dc () trivial ?_
                refine ai (by decide) ?_ ?_ ?_ ?_<;>simp [LX,I,B,D,bX]
          · refine ai (by decide) ?_ ?_ ?_ ?_<;>simp [LX,I,B,D,hD0,kf,bX]
        · intro _ _
          have hr4:=aK l 176 (n:=4) (by decide) (by decide)
          have hr3:=Int.tmod_lt_of_pos (bR l 176 4) (b:=3) (by decide)
          have hr0:=Int.tmod_nonneg 3 hr4.1
          have hEe:xV l (ej t1 l N ((bR l 176 4).tmod 3) ((bR l 176 4).tmod 3).toNat)=zx l []:=by subst hNe; subst ht1; rfl
          have hRl:(aY l).bA=bX (ej t1 l N ((bR l 176 4).tmod 3) ((bR l 176 4).tmod 3).toNat):=by subst hNe; subst ht1; rfl
          have hTab:bO l=AO l (if ej t1 l N ((bR l 176 4).tmod 3) ((bR l 176 4).tmod 3).toNat=[] then 0 else rH (aY l) N):=by subst hNe; subst ht1; rfl
          try simp only [I,B,D,RY,↓ KW,seval]
          refine af (hF _ _ _ (by decide)) ?_
          try simp only [I,B,D,RY,↓ KW,seval]
          generalize (bR l 176 4).tmod 3=r at *
          refine lT (.exit 8) (fun _:Unit=>(⟨[(4,.dat (I N) none),(3,.ptr 5 0),(0,.dat (aG aC l) none),(2,.ptr 4 0)],[(5,⟨(xV l (ej t1 l N r r.toNat)).cells,[]⟩),(4,⟨kU.cells,[]⟩)],[],400⟩:S)) (fun _=>True) (fun _=>rfl) ?_ ?_
          · refine aF (fun j:Nat=>(⟨[(10,.dat (I (r - j)) none),(4,.dat (I N) none),(3,.ptr 5 0),(0,.dat (aG aC l) none),(2,.ptr 4 0)],[(5,⟨(xV l (ej t1 l N r j)).cells,if ej t1 l N r j=[] then [] else [(114,0)]⟩),(4,⟨kU.cells,[]⟩)],bG (ej t1 l N r j) 0 eR,400⟩:S)) (fun j=>r.toNat - j) (fun j=>j≤r.toNat) ?_ 0 (by omega) ?_
            · intro j hj A back
              have hw3:IntKind.i64.wrap (r - j - 1)=r - ((j + 1:Nat):Int):=by rw [aV (by omega) (by omega)]; omega
              have hix:IntKind.i64.wrap (260 + IntKind.i64.wrap (16 * (r - (j:Int))))=260 + 16 * (r - j):=by rw [aV (n:=16 * (r - (j:Int))) (by omega) (by omega),aV (by omega) (by omega)]
              have hro:∀ L',oZ (xV l L') l (260 + 16 * (r - j)) N=oZ t1 l (260 + 16 * (r - j)) N:=fun _=>by subst ht1; rfl
              have hnext:=Fj  t1 l N r j
              have hlen:(ej t1 l N r j).length=j:=u6 ..
              generalize hL:ej t1 l N r j=L at *
              generalize hx:oZ t1 l (260 + 16 * (r - j)) N=x at *
              have z0:(xV l L).Ok:=AQ rfl (dN l _) (cV _) (dH l) (by simp [xV,sN,ia,jn,kU,bU,lz]; try omega) (by simp [xV,sN,ia,jn,kU,bU,jO]; try omega) (by simp [xV,sN,ia,jn,kU,bU]; try omega)
              have ln:=z0.ln
              have hln:=ln.len
              have hwh:=ln.whole
              have hat:=ln.LR
              have hset:setCells (xV l L).cells 114 [aG Rl.cells (some (L++[x]))]=(xV l (L++[x])).cells:=by rw [ln.JP (some (L++[x]))]; simp [xV,bX]
              have hatr:(xV l L).bA=bX L:=rfl
              rw [hatr] at hat
              simp only [aJ,List.map_append,List.map_cons,List.map_nil] at hset
              cases L with
              | nil =>
                simp only [List.map_nil,List.nil_append,bX,if_true,aP] at hset hat hnext
                try simp only [I,B,D,RY,↓ KW,seval,bX,bG]
                refine ay (fun h=>?_) (fun h=>?_)<;>try simp only [I,B,D,RY,↓ KW,seval,hat,hwh,h]
                · have hj1:(0:Int) < r - j:=of_decide_eq_true h
                  refine af (hr _ _ _ _ z0 (by omega) (by omega)) ?_
                  try simp only [I,B,D,RY,↓ KW,seval,hix,hro,hx,Rl.len]
                  try simp only [I,B,D,RY,↓ KW,seval,hset]
                  refine ⟨by omega,?_⟩
                  refine back (j + 1) _ (by omega) (by omega) (ai (by decide) ?_ ?_ ?_ ?_)<;>simp [LX,I,B,D,hnext,hw3,bX]
                · have hj1:¬ (0:Int) < r - j:=of_decide_eq_false h
                  have:j=r.toNat:=by omega
                  rw [← this,hL]
                  refine dc () trivial ?_
                  refine ai (by decide) ?_ ?_ ?_ ?_<;>simp [LX,I,B,D,bX]
              | cons y ys =>
                simp only [bX,reduceCtorEq,if_false,aJ] at hset hat hnext
                try simp only [I,B,D,RY,↓ KW,seval,bX,bG]
                refine ay (fun h=>?_) (fun h=>?_)<;>try simp only [I,B,D,RY,↓ KW,seval,hat,hwh,h]
                · have hj1:(0:Int) < r - j:=of_decide_eq_true h
                  refine af (hr _ _ _ _ z0 (by omega) (by omega)) ?_
                  try simp only [I,B,D,RY,↓ KW,seval,hix,hro,hx,Rl.len]
                  try simp only [I,B,D,RY,↓ KW,seval,hset,Rl.len]
                  refine ⟨by simp at hlen ⊢; omega,by omega,?_⟩
                  refine back (j + 1) _ (by omega) (by omega) (ai (by decide) ?_ ?_ ?_ ?_)<;>simp [LX,I,B,D,hnext,hw3,bX]
                · have hj1:¬ (0:Int) < r - j:=of_decide_eq_false h
                  have:j=r.toNat:=by omega
                  rw [← this,hL]
                  refine dc () trivial ?_
                  refine ai (by decide) ?_ ?_ ?_ ?_<;>simp [LX,I,B,D,bX]
            · refine ai (by decide) ?_ ?_ ?_ ?_<;>simp [LX,I,B,D,hDe,ej,bX]
          · intro _ _
            have hb3:=aK l 177 (n:=3) (by decide) (by decide)
            have hFe:zx l (oA l N (bR l 177 3) (bR l 177 3).toNat)={ aY l with extend:=0,gY:=0,start:=0,revert:=0,least:=0,share:=0 }:=by subst hNe; rfl
            have hu:0≤IntKind.u64.wrap (N:Int):=by rw [IntKind.wrap]; simp [IntKind.signed]; omega
            try simp only [I,B,D,RY,↓ KW,seval]
            refine af (hF _ _ _ (by decide)) ?_
            generalize bR l 177 3=b at *
            try simp only [I,B,D,RY,↓ KW,seval]
            refine lT (.exit 10) (fun _:Unit=>(⟨[(4,.dat (I N) none),(3,.ptr 5 0),(0,.dat (aG aC l) none),(2,.ptr 4 0)],[(5,⟨(zx l (oA l N b b.toNat)).cells,[]⟩),(4,⟨kU.cells,[]⟩)],[],400⟩:S)) (fun _=>True) (fun _=>rfl) ?_ ?_
            · refine aF (fun j:Nat=>(⟨[(11,.dat (I (b - j)) none),(4,.dat (I N) none),(3,.ptr 5 0),(0,.dat (aG aC l) none),(2,.ptr 4 0)],[(5,⟨(zx l (oA l N b j)).cells,if oA l N b j=[] then [] else [(115,0)]⟩),(4,⟨kU.cells,[]⟩)],bG (oA l N b j) 0 eB,400⟩:S)) (fun j=>b.toNat - j) (fun j=>j≤b.toNat) ?_ 0 (by omega) ?_
              · intro j hj A back
                have hw3:IntKind.i64.wrap (b - j - 1)=b - ((j + 1:Nat):Int):=by rw [aV (by omega) (by omega)]; omega
                have hi1:IntKind.i64.wrap (330 + IntKind.i64.wrap (2 * (b - (j:Int))))=330 + 2 * (b - j):=by rw [aV (n:=2 * (b - (j:Int))) (by omega) (by omega),aV (by omega) (by omega)]
                have hi2:IntKind.i64.wrap (331 + IntKind.i64.wrap (2 * (b - (j:Int))))=331 + 2 * (b - j):=by rw [aV (n:=2 * (b - (j:Int))) (by omega) (by omega),aV (by omega) (by omega)]
                have hbx:(It l N (b - j)).cells=[AV.int .i64 (if cn .i64 (bR l (330 + 2 * (b - j)) 256) (IntKind.i64.wrap (IntKind.i64.wrap (1 * 2 ^ min (IntKind.u64.wrap (N:Int)).toNat IntKind.i64.bits) - 1)) > 1 then cn .i64 (bR l (330 + 2 * (b - j)) 256) (IntKind.i64.wrap (IntKind.i64.wrap (1 * 2 ^ min (IntKind.u64.wrap (N:Int)).toNat IntKind.i64.bits) - 1)) else 1),AV.int .i64 (IntKind.i64.wrap (1 + bR l (331 + 2 * (b - j)) 30))]:=rfl
                have hnext:=Hp  l N b j
                have hlen:(oA l N b j).length=j:=xX ..
                generalize hL:oA l N b j=L at *
                generalize hx:It l N (b - j)=x at *
                have z0:(zx l L).Ok:=AQ rfl (dN l _) (cV _) (dH l) (by simp [zx,sN,ia,jn,kU,bU,lz]; try omega) (by simp [zx,sN,ia,jn,kU,bU,jO]; try omega) (by simp [zx,sN,ia,jn,kU,bU]; try omega)
                have ln:=z0.ln
                have hln:=ln.len
                have hwh:=ln.whole
                have hat:=ln.Vt
                have hset:setCells (zx l L).cells 115 [aG Bs.cells (some (L++[x]))]=(zx l (L++[x])).cells:=by rw [ln.JQ (some (L++[x]))]; simp [zx,bX]
                have hatr:(zx l L).lp=bX L:=rfl
                rw [hatr] at hat
                simp only [aJ,List.map_append,List.map_cons,List.map_nil] at hset
                cases L with
                | nil =>
                  simp only [List.map_nil,List.nil_append,bX,if_true,aP] at hset hat hnext
                  try simp only [I,B,D,RY,↓ KW,seval,bX,bG]
                  refine ay (fun h=>?_) (fun h=>?_)<;>try simp only [I,B,D,RY,↓ KW,seval,hat,hwh,h]
                  · have hj1:(0:Int) < b - j:=of_decide_eq_true h
                    refine af (hF _ _ _ (by decide)) ?_
                    try simp only [I,B,D,RY,↓ KW,seval,hi1]
                    refine ⟨hu,?_⟩
                    refine af (hF _ _ _ (by decide)) ?_
                    try simp only [I,B,D,RY,↓ KW,seval,hi2,hi1]
                    simp only [gt_iff_lt] at hbx ⊢
                    rw [hbx] at hset
                    try simp only [I,B,D,RY,↓ KW,seval,hset]
                    refine ⟨by omega,?_⟩
                    refine back (j + 1) _ (by omega) (by omega) (ai (by decide) ?_ ?_ ?_ ?_)<;>simp [LX,I,B,D,hnext,hw3,bX]
                  · have hj1:¬ (0:Int) < b - j:=of_decide_eq_false h
                    have:j=b.toNat:=by omega
                    rw [← this,hL]
                    refine dc () trivial ?_
                    refine ai (by decide) ?_ ?_ ?_ ?_<;>simp [LX,I,B,D,bX]
                | cons y ys =>
                  simp only [bX,reduceCtorEq,if_false,aJ] at hset hat hnext
                  try simp only [I,B,D,RY,↓ KW,seval,bX,bG]
                  refine ay (fun h=>?_) (fun h=>?_)<;>try simp only [I,B,D,RY,↓ KW,seval,hat,hwh,h]
                  · have hj1:(0:Int) < b - j:=of_decide_eq_true h
                    refine af (hF _ _ _ (by decide)) ?_
                    try simp only [I,B,D,RY,↓ KW,seval,hi1]
                    refine ⟨hu,?_⟩
                    refine af (hF _ _ _ (by decide)) ?_
                    try simp only [I,B,D,RY,↓ KW,seval,hi2,hi1]
                    simp only [gt_iff_lt] at hbx ⊢
                    rw [hbx] at hset
                    try simp only [I,B,D,RY,↓ KW,seval,hset,Bs.len]
                    refine ⟨by simp at hlen ⊢; omega,by omega,?_⟩
                    refine back (j + 1) _ (by omega) (by omega) (ai (by decide) ?_ ?_ ?_ ?_)<;>simp [LX,I,B,D,hnext,hw3,bX]
                  · have hj1:¬ (0:Int) < b - j:=of_decide_eq_false h
                    have:j=b.toNat:=by omega
                    rw [← this,hL]
                    refine dc () trivial ?_
                    refine ai (by decide) ?_ ?_ ?_ ?_<;>simp [LX,I,B,D,bX]
              · refine ai (by decide) ?_ ?_ ?_ ?_<;>simp [LX,I,B,D,hEe,oA,bX]
            · intro _ _
              have n0:({ aY l with extend:=0,gY:=0,start:=0,revert:=0,least:=0,share:=0 }:Tb).Ln:=⟨dN l _,cV _,dH l⟩
              have n1:({ aY l with gY:=0,start:=0,revert:=0,least:=0,share:=0 }:Tb).Ln:=⟨dN l _,cV _,dH l⟩
              have n2:({ aY l with start:=0,revert:=0,least:=0,share:=0 }:Tb).Ln:=⟨dN l _,cV _,dH l⟩
              have n3:({ aY l with revert:=0,least:=0,share:=0 }:Tb).Ln:=⟨dN l _,cV _,dH l⟩
              have n4:({ aY l with least:=0,share:=0 }:Tb).Ln:=⟨dN l _,cV _,dH l⟩
              have n5:({ aY l with share:=0 }:Tb).Ln:=⟨dN l _,cV _,dH l⟩
              have s0:setCells ({ aY l with extend:=0,gY:=0,start:=0,revert:=0,least:=0,share:=0 }:Tb).cells 116 [AV.int .i64 (bR l 178 12)]=({ aY l with gY:=0,start:=0,revert:=0,least:=0,share:=0 }:Tb).cells:=(n0.sM (bR l 178 12)).1
              have s1:setCells ({ aY l with gY:=0,start:=0,revert:=0,least:=0,share:=0 }:Tb).cells 117 [AV.int .i64 (bR l 179 40)]=({ aY l with start:=0,revert:=0,least:=0,share:=0 }:Tb).cells:=(n1.sM (bR l 179 40)).2.1
              have s2:setCells ({ aY l with start:=0,revert:=0,least:=0,share:=0 }:Tb).cells 118 [AV.int .i64 (bR l 180 8)]=({ aY l with revert:=0,least:=0,share:=0 }:Tb).cells:=(n2.sM (bR l 180 8)).2.2.1
              have s3:setCells ({ aY l with revert:=0,least:=0,share:=0 }:Tb).cells 119 [AV.int .i64 (bR l 181 8)]=({ aY l with least:=0,share:=0 }:Tb).cells:=(n3.sM (bR l 181 8)).2.2.2.1
              have s4:setCells ({ aY l with least:=0,share:=0 }:Tb).cells 120 [AV.int .i64 (bR l 182 12)]=({ aY l with share:=0 }:Tb).cells:=(n4.sM (bR l 182 12)).2.2.2.2
              have s5:setCells ({ aY l with share:=0 }:Tb).cells 130 [AV.int .i64 (bR l 183 4)]=(aY l).cells:=(n5.Fi (bR l 183 4)).2
              have k0:=n0.len
              have k1:=n1.len
              have k2:=n2.len
              have k3:=n3.len
              have k4:=n4.len
              have k5:=n5.len
              rw [hFe]
              generalize ({ aY l with extend:=0,gY:=0,start:=0,revert:=0,least:=0,share:=0 }:Tb)=T0 at *
              generalize ({ aY l with gY:=0,start:=0,revert:=0,least:=0,share:=0 }:Tb)=T1 at *
              generalize ({ aY l with start:=0,revert:=0,least:=0,share:=0 }:Tb)=T2 at *
              generalize ({ aY l with revert:=0,least:=0,share:=0 }:Tb)=T3 at *
              generalize ({ aY l with least:=0,share:=0 }:Tb)=T4 at *
              generalize ({ aY l with share:=0 }:Tb)=T5 at *
              have c0:117≤T0.cells.length:=by omega
              have c1:118≤T1.cells.length:=by omega
              have c2:119≤T2.cells.length:=by omega
              have c3:120≤T3.cells.length:=by omega
              have c4:121≤T4.cells.length:=by omega
              have c5:131≤T5.cells.length:=by omega
              try simp only [I,B,D,RY,↓ KW,seval]
              refine af (hF _ _ _ (by decide)) ?_
              try simp only [I,B,D,RY,↓ KW,seval,s0,s1,s2,s3,s4,s5,c0,c1,c2,c3,c4,c5]
              refine af (hF _ _ _ (by decide)) ?_
              try simp only [I,B,D,RY,↓ KW,seval,s0,s1,s2,s3,s4,s5,c0,c1,c2,c3,c4,c5]
              refine af (hF _ _ _ (by decide)) ?_
              try simp only [I,B,D,RY,↓ KW,seval,s0,s1,s2,s3,s4,s5,c0,c1,c2,c3,c4,c5]
              refine af (hF _ _ _ (by decide)) ?_
              try simp only [I,B,D,RY,↓ KW,seval,s0,s1,s2,s3,s4,s5,c0,c1,c2,c3,c4,c5]
              refine af (hF _ _ _ (by decide)) ?_
              try simp only [I,B,D,RY,↓ KW,seval,s0,s1,s2,s3,s4,s5,c0,c1,c2,c3,c4,c5]
              refine af (hF _ _ _ (by decide)) ?_
              try simp only [I,B,D,RY,↓ KW,seval,s0,s1,s2,s3,s4,s5,c0,c1,c2,c3,c4,c5]
              have hT:bO l=AO l (if ej t1 l N r r.toNat=[] then 0 else rH (aY l) N):=hTab
              have hW0:aY l=AO l (if ej t1 l N r r.toNat=[] then 0 else rH (aY l) 0):=by
                have:(if ej t1 l N r r.toNat=[] then (0:Int) else rH (aY l) 0)=0:=by split<;>rfl
                rw [this]; rfl
              replace hW0:=congrArg Tb.cells hW0
              generalize ej t1 l N r r.toNat=R at *
              refine lT (.exit 12) (fun _:Unit=>(⟨[(3,.ptr 5 0),(2,.ptr 4 0)],[(5,⟨(bO l).cells,[]⟩),(4,⟨kU.cells,[]⟩)],[],400⟩:S)) (fun _=>True) (fun _=>rfl) ?_ ?_
              · refine aF (fun k:Nat=>(⟨[(12,.dat (I k) none),(4,.dat (I N) none),(3,.ptr 5 0),(2,.ptr 4 0)],[(5,⟨(AO l (if R=[] then 0 else rH (aY l) k)).cells,[]⟩),(4,⟨kU.cells,[]⟩)],[],400⟩:S)) (fun k=>N - k) (fun k=>k≤N∧(R=[]→k=0)) ?_ 0 (by simp) ?_
                · intro k ⟨hk,hR0⟩ A back
                  have hw3:=aD (k:=k) (by omega)
                  have hwt:∀ w,pX (AO l w) k=pX (aY l) k:=fun _=>rfl
                  have hnx:rH (aY l) (k + 1)=if pX (aY l) k > rH (aY l) k then pX (aY l) k else rH (aY l) k:=rfl
                  generalize hwv:(if R=[] then (0:Int) else rH (aY l) k)=wv at *
                  have okW:(AO l wv).Ok:=AQ rfl (dN l _) (cV _) (dH l) (lz l) (jO l) (by have:=aK l 177 (n:=3) (by decide) (by decide); simp only [AO,aY,bU,xX]; omega)
                  have ln:=okW.ln
                  have hln:=ln.len
                  have hwh:=ln.whole
                  have hat:=ln.LR
                  have hat2:=ln.Vu
                  have hrr:(AO l wv).bA=bX R:=hRl
                  have hww:(AO l wv).qC=wv:=rfl
                  rw [hrr] at hat
                  rw [hww] at hat2
                  have hset:setCells (AO l wv).cells 129 [AV.int .i64 (if pX (aY l) k > wv then pX (aY l) k else wv)]=(AO l (if pX (aY l) k > wv then pX (aY l) k else wv)).cells:=(ln.Fi _).1
                  have hmk:=bU R
                  try simp only [I,B,D,RY,↓ KW,seval]
                  repeat' (((first | refine aR ?_ ?_ | refine ay ?_ ?_ | refine bk ?_ ?_)<;>intro h)<;>try simp only [I,B,D,RY,↓ KW,seval,hat,hmk,h])
                  · have hRl0:=of_decide_eq_true h
                    have hkN:(k:Int) < N:=by rename_i h1; exact of_decide_eq_true h1
                    have hne:R≠[]:=by intro e; rw [e] at hRl0; simp at hRl0
                    rw [if_neg hne] at hwv
                    subst hwv
                    rw [← hnx] at hset
                    try simp only [I,B,D,RY,↓ KW,seval,hat2,hwh]
                    refine af (hw _ _ okW) ?_
                    try simp only [I,B,D,RY,↓ KW,seval,hwt,← hnx,hset,gt_iff_lt]
                    refine ⟨by omega,?_⟩
                    refine back (k + 1) _ ⟨by omega,fun e=>absurd e hne⟩ (by omega) ?_
                    refine ai (by decide) ?_ ?_ ?_ ?_<;>simp [LX,I,B,D,hne,hw3]
                  · have hRl0:=of_decide_eq_false h
                    have hR0':R=[]:=List.eq_nil_of_length_eq_zero (by omega)
                    rw [if_pos hR0'] at hwv hT
                    subst hwv
                    refine dc () trivial ?_
                    refine ai (by decide) ?_ ?_ ?_ ?_<;>simp [LX,I,B,D,hT]
                  · have hkN:k=N:=by have:=of_decide_eq_false h; omega
                    rw [← hkN,hwv] at hT
                    refine dc () trivial ?_
                    refine ai (by decide) ?_ ?_ ?_ ?_<;>simp [LX,I,B,D,hT]
                · refine ai (by decide) ?_ ?_ ?_ ?_<;>simp [LX,I,B,D,hW0]
              · intro _ _
                have okZ:(bO l).Ok:=u7 l
                have hlz:=okZ.ln.len
                have hwz:=okZ.ln.whole
                have hl0:=ok0.ln.len
                have hsz:setCells kU.cells 0 (bO l).cells=(bO l).cells:=cz (by omega)
                try simp only [I,B,D,RY,↓ KW,seval,hwz,hlz,hl0,hsz]
end
end Go.Eng
namespace Go.Eng
open Go
def bv (s:Int):BitVec 64:=BitVec.ofInt 64 s
def tb (s:Int) (i:Nat):Bool:=(bv s).getLsbD i
theorem Fk (n:Int):IntKind.i64.wrap n % 18446744073709551616=n % 18446744073709551616:=by
 simp only [IntKind.wrap,IntKind.bits,IntKind.signed]
 simp
 split<;>omega
theorem DT (n:Int):bv (IntKind.i64.wrap n)=bv n:=by
 unfold bv
 apply BitVec.eq_of_toNat_eq
 have:=Fk n
 simp only [BitVec.toNat_ofInt]
 have e:((2 ^ 64:Nat):Int)=18446744073709551616:=by decide
 rw [e,this]
theorem DU (b:BitVec 64):bv (b.toNat:Int)=b:=by
 unfold bv
 rw [BitVec.ofInt_natCast]; simp
theorem bv_and (x y:Int):bv (cn .i64 x y)=bv x &&& bv y:=by
 simp only [cn,DT]; exact DU _
theorem Vv (x y:Int):bv (zD .i64 x y)=bv x ||| bv y:=by
 simp only [zD,DT]; exact DU _
theorem JR (x y:Int):bv (cJ .i64 x y)=bv x &&& ~~~(bv y):=by
 simp only [cJ,DT]; exact DU _
theorem wrap_zero {b:BitVec 64}:IntKind.i64.wrap (b.toNat:Int)=0↔b=0:=by
 constructor
 ·intro h
  have:=Fk (b.toNat:Int)
  rw [h] at this
  have h2:=b.isLt
  apply BitVec.eq_of_toNat_eq
  simp only [BitVec.toNat_zero,BitVec.ofNat_eq_ofNat] at *
  omega
 ·rintro rfl; decide
theorem and_zero {x y:Int}:cn .i64 x y=0↔∀ i,i < 64→(tb x i && tb y i)=false:=by
 rw [show cn .i64 x y=IntKind.i64.wrap ((bv x &&& bv y).toNat:Int) from rfl,wrap_zero]
 constructor
 ·intro h i hi; have:=congrArg (fun b=>b.getLsbD i) h; simpa [tb] using this
 ·intro h; apply BitVec.eq_of_getLsbD_eq; intro i hi; simpa [tb] using h i hi
theorem xY (x y:Int) (i:Nat):tb (cn .i64 x y) i=(tb x i && tb y i):=by simp [tb,bv_and]
theorem P6 (x y:Int) (i:Nat):tb (zD .i64 x y) i=(tb x i || tb y i):=by simp [tb,Vv]
theorem xZ (x y:Int) (i:Nat) (h:i < 64):tb (cJ .i64 x y) i=(tb x i && !tb y i):=by simp [tb,JR,h]
theorem fc (i:Nat):tb 0 i=false:=by simp [tb,bv]
theorem AR (i:Nat):tb 255 i=decide (i < 8):=by
 have:bv 255=255#64:=rfl
 simp only [tb,this,BitVec.getLsbD_ofNat]
 by_cases h:i < 8
 ·have:i=0∨i=1∨i=2∨i=3∨i=4∨i=5∨i=6∨i=7:=by omega
  rcases this with rfl|rfl|rfl|rfl|rfl|rfl|rfl|rfl<;>decide
 ·simp only [h,decide_false,Bool.and_eq_false_imp]
  intro _
  apply Nat.testBit_lt_two_pow
  exact Nat.lt_of_lt_of_le (by decide:255 < 2 ^ 8) (Nat.pow_le_pow_right (by decide) (by omega))
theorem Hq {p:Nat} (hp:p < 8) (i:Nat):tb (2 ^ p) i=decide (i=p):=by
 have e:bv (2 ^ p)=BitVec.twoPow 64 p:=by
  have:p=0∨p=1∨p=2∨p=3∨p=4∨p=5∨p=6∨p=7:=by omega
  rcases this with rfl|rfl|rfl|rfl|rfl|rfl|rfl|rfl<;>rfl
 simp only [tb,e,BitVec.getLsbD_twoPow]
 by_cases h:i=p<;>simp [h]
 ·omega
 ·omega
theorem DW {p:Nat} (hp:p < 8) (i:Nat):tb (pU p) i=decide (i=p):=by
 have:pU p=2 ^ p:=by simp [pU]; omega
 rw [this,Hq hp]
theorem oB {s:Int} {p:Nat} (hp:p < 8):dM s p=tb s p:=by
 have h:dM s p=!(cn .i64 s (pU p) == 0):=rfl
 rw [h]
 cases ht:tb s p with
 | true =>
  have:¬ cn .i64 s (pU p)=0:=by
   rw [and_zero]; intro h; have:=h p (by omega); rw [ht,DW hp] at this; simp at this
  simp [this]
 | false =>
  have:cn .i64 s (pU p)=0:=by
   rw [and_zero]; intro i _
   by_cases hi:i=p
   ·subst hi; rw [ht]; rfl
   ·rw [DW hp]; simp [hi]
  simp [this]
theorem qO {s:Int} {p:Nat} (hp:p < 8) (i:Nat):tb (dn s p) i=(tb s i && decide (i < 8) || decide (i=p)):=by
 simp only [dn,P6,xY,AR,DW hp]
theorem Iu (l:List Int):∀ k,k≤8→∀ i,tb (uZ l k) i=(decide (i < k) && decide ((i:Int)∈l))
 | 0,_,i=>by simp [uZ,fc]
 | k + 1,h,i=>by
  have ih:=Iu l k (by omega) i
  simp only [uZ]
  split
  ·rename_i hk
   rw [P6,ih,Hq (by omega)]
   by_cases e:i=k
   ·subst e; simp [hk]
   ·have:(i < k + 1)↔i < k:=by omega
    simp [e,this]
  ·rename_i hk
   rw [ih]
   by_cases e:i=k
   ·subst e; simp [hk]
   ·have:(i < k + 1)↔i < k:=by omega
    simp [this]
theorem LV (l:List Int) (i:Nat):tb (P4 l) i=(decide (i < 8) && decide ((i:Int)∈l)):=Iu l 8 (by omega) i
theorem u9 (s:Int) {p:Nat} (hp:p < 64):tb s p=decide (s.fdiv (2 ^ p) % 2=1):=by
 have e:(bv s).toNat=(s % 18446744073709551616).toNat:=by
  simp only [bv,BitVec.toNat_ofInt]; rfl
 have h1:tb s p=(bv s).toNat.testBit p:=rfl
 rw [h1,e,Nat.testBit_eq_decide_div_mod_eq]
 congr 1
 have hf:s.fdiv (2 ^ p)=s / 2 ^ p:=Int.fdiv_eq_ediv_of_nonneg _ (Int.le_of_lt (Int.pow_pos (by decide)))
 rw [hf,eq_iff_iff]
 have h0:0≤s % 18446744073709551616:=Int.emod_nonneg _ (by decide)
 have hc:(((s % 18446744073709551616).toNat / 2 ^ p % 2:Nat):Int)=(s % 18446744073709551616) / 2 ^ p % 2:=by
  push_cast [Int.toNat_of_nonneg h0]; rfl
 have key:(s % 18446744073709551616) / 2 ^ p % 2=s / 2 ^ p % 2:=by
  have hpw:(18446744073709551616:Int)=2 ^ p * (2 * 2 ^ (63 - p)):=by
   rw [show (2:Int) ^ p * (2 * 2 ^ (63 - p))=2 ^ (p + (1 + (63 - p))) by rw [Int.pow_add,Int.pow_add]; rfl,show p + (1 + (63 - p))=64 by omega]; rfl
  have h2:s=s % 18446744073709551616 + 2 ^ p * (2 * 2 ^ (63 - p) * (s / 18446744073709551616)):=by
   have:=Int.emod_add_mul_ediv s 18446744073709551616
   rw [← Int.mul_assoc,← Int.mul_assoc,Int.mul_assoc (2 ^ p),← hpw]; omega
  conv=>rhs; rw [h2]
  rw [Int.add_mul_ediv_left _ _ (Int.ne_of_gt (Int.pow_pos (by decide))),Int.mul_assoc,Int.add_mul_emod_self_left]
 rw [← key,← hc]
 omega
theorem AS (x:Int):cn .i64 x 1=if tb x 0 then 1 else 0:=by
 have e:cn .i64 x 1=IntKind.i64.wrap ((bv x &&& 1#64).toNat:Int):=rfl
 have e2:bv x &&& 1#64=if tb x 0 then 1#64 else 0#64:=by
  apply BitVec.eq_of_getLsbD_eq
  intro i hi
  simp only [BitVec.getLsbD_and,BitVec.getLsbD_one]
  by_cases h:i=0
  ·subst h; cases hx:tb x 0<;>simp [tb] at hx ⊢<;>simp [hx]
  ·split<;>simp [h,BitVec.getLsbD_one]
 rw [e,e2]; split<;>decide
theorem OM {s:Int} {p:Nat} (hp:p < 8):rQ s p=tb s p:=by
 have h1:tb (s.fdiv (2 ^ p)) 0=tb s p:=by
  rw [u9 _ (by omega),u9 _ (by omega)]
  simp
 simp only [rQ,Int.toNat_natCast,AS,h1]
 have:(p:Int) < 8:=by omega
 cases tb s p<;>simp [this]
theorem Sm (t:Tb) (i:Nat):t.phases.getD i default=aO t i:=by simp [aO]
theorem ic {α:Type} {l:List α} {f:α→List AV} {n:Nat} (h:∀ k,(f k).length=n):∀ x∈l.map f,x.length=n:=by
 intro x hx; obtain ⟨k,_,rfl⟩:=List.mem_map.1 hx; exact h k
theorem nF {α:Type} {l:List α} {f:α→List AV} {i:Nat} {x:List AV} (h:(l.map f)[i]? = some x):∃ k,l[i]? = some k∧x=f k:=by
 rw [List.getElem?_map,Option.map_eq_some_iff] at h; obtain ⟨k,h1,h2⟩:=h; exact ⟨k,h1,h2.symm⟩
theorem ie {C:aZ} {g:bW} {ps wr:List Nat} {as bd:br} {Q:Exit→S→Prop} {s:S} {gv:AV} {xs:List (List AV)} {α:Type} (hd:α→S) (I:Nat→α→Prop)
  (hit:C.i gv xs) (hg:aI s g=some gv) (hlen:∀ x∈xs,x.length=ps.length) (hgd:∀ y,aI (hd y) g=some gv)
  (round:∀ i x y,xs[i]? = some x→I i y→∀ F:S→Prop,(∀ z s,I (i + 1) z→Le s (hd z)→Eng.down F s)→aw C as (vJ (aw C bd (GK wr F Q))) (pM ps x (hd y)))
  (fin:∀ y,I xs.length y→Q .normal (hd y)) (y0:α) (hI0:I 0 y0) (h0:Le s (hd y0)):aw C (.mW g ps wr as bd) Q s :=
 Ow hd I hg hit hlen (.inl h0) hI0 hgd (fun i x y hx hy=>round i x y hx hy _ fun z s hz hle=>⟨hd z,.inl ⟨hle,z,rfl,hz⟩⟩) fin
end Go.Eng
