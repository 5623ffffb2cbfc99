/- The engine and the library,part 9 of 16: what the proofs of this seat need of them. -/
import Derived.Test.YtdfplndcbbofjaaGreatPk8
set_option linter.unnecessarySimpa false
set_option linter.unusedSimpArgs false
set_option linter.unusedVariables false
set_option linter.defProp false
set_option maxRecDepth 10000
set_option maxHeartbeats 4000000
namespace Go.Eng
open Go
def bL (groups g:Nat):Nat:=8 - (groups - 1 - g)
def cw (p m:Nat):List Int:=(List.range m).map fun (j:Nat)=>((p + j:Nat):Int)
def cnt (l:Option (List Int)) (g k:Nat) (r0:Nat):Nat :=
 let n:=(bR l (1 + 2 * g + k) 3).toNat
 if k=1∧n=0∧r0=0 then 1 else n
def aW (n p lim:Nat):Nat:=min n (lim - p)
def aU (l:Option (List Int)) (groups:Nat):Nat→List Gr × Nat
 | 0=>([],0)
 | g + 1 =>
  let q:=aU l groups g
  let m0:=aW (cnt l g 0 0) q.2 (bL groups g)
  let m1:=aW (cnt l g 1 m0) (q.2 + m0) (bL groups g)
  (q.1++[⟨bW (cw q.2 m0),bW (cw (q.2 + m0) m1)⟩],q.2 + m0 + m1)
def eG (l:Option (List Int)):Nat:=(1 + bR l 0 3).toNat
def rows.Spec (C:bk) (f:Nat):Prop:=∀ (t:Tb) (l:Option (List Int)),t.Ok→t.groups=none→C.p f [t.cells] [none,some (aE az l)] (I ((aU l (eG l) (eG l)).2:Nat)) none [({ t with groups:=some (aU l (eG l) (eG l)).1 }:Tb).cells]
theorem Tb.len' {t:Tb} (h1:t.phases.length=8) (h2:t.conflict.length=8) (h3:t.cV.length=8):t.cells.length=131:=by
 simp [Tb.cells,aK Ph.len,h1,h2,h3]
theorem Tb.Fq {t:Tb} (h:t.phases.length=8):t.cells[104]? = some (aE Gr.cells t.groups):=by
 simp [Tb.cells,List.getElem?_append,aK Ph.len,h]
theorem Tb.Fs {t:Tb} (h:t.phases.length=8) (g:Option (List Gr)):t.cells.take 104++(aE Gr.cells g :: t.cells.drop 105)=({ t with groups:=g }:Tb).cells:=by
 have e:(t.phases.flatMap Ph.cells).length=104:=by rw [aK Ph.len,h]
 simp only [Tb.cells]
 rw [List.take_append_of_le_length (by omega),List.take_of_length_le (by omega),List.drop_append,List.drop_of_length_le (by omega),e]
 rfl
theorem B8 {C:bk} {base:Nat}:∀ {l:List CO} {i:Nat} {s:S} {K:S→Prop},je C base i l K s→∃ s',K s'∧∀ K':S→Prop,K' s'→je C base i l K' s
 | [],i,s,K,h=>⟨s,h,fun _ h=>h⟩
 | o :: l,i,s,K,h=>by
  rw [lQ] at h
  obtain ⟨v,d,hd,hk',_⟩:=d6 h
  obtain ⟨s',h1,h2⟩:=B8 hk'
  refine ⟨s',h1,fun K' hK=>?_⟩
  rw [lQ]
  exact hd.2 s .refl _ (h2 K' hK)
theorem SG {C:bk}:∀ {c:bp} {Q:Exit→S→Prop} {s:S},aw C c Q s→∃ e s',Q e s'∧∀ Q':Exit→S→Prop,Q' e s'→aw C c Q' s:=by
  intro c
  induction c with
  | skip=>intro Q s h; exact ⟨_,_,h,fun _ h=>h⟩
  | KY ops =>
    intro Q s h
    obtain ⟨s',h1,h2⟩:=B8 h
    exact ⟨_,_,h1,fun Q' hq=>h2 _ hq⟩
  | seq a b iha ihb =>
    intro Q s h
    obtain ⟨e,s',h1,h2⟩:=iha h
    cases e with
    | normal =>
      obtain ⟨e,s'',h3,h4⟩:=ihb h1
      exact ⟨e,s'',h3,fun Q' hq=>h2 _ (h4 _ hq)⟩
    | exit i=>exact ⟨_,_,h1,fun Q' hq=>h2 _ hq⟩
    | ret=>exact ⟨_,_,h1,fun Q' hq=>h2 _ hq⟩
    | _=>exact ⟨_,_,h1,fun Q' hq=>h2 _ hq⟩
  | join a b iha ihb =>
    intro Q s h
    obtain ⟨e,s',h1,h2⟩:=iha h
    cases e with
    | normal =>
      obtain ⟨s1,⟨hl,hF⟩|hF⟩:=h1
      · obtain ⟨e,s'',h3,h4⟩:=ihb hF
        exact ⟨e,s'',h3,fun Q' hq=>h2 _ ⟨s1,.inl ⟨hl,h4 _ hq⟩⟩⟩
      · obtain ⟨e,s'',h3,h4⟩:=ihb hF
        exact ⟨e,s'',h3,fun Q' hq=>h2 _ ⟨s1,.inr (h4 _ hq)⟩⟩
    | exit i=>exact ⟨_,_,h1,fun Q' hq=>h2 _ hq⟩
    | ret=>exact ⟨_,_,h1,fun Q' hq=>h2 _ hq⟩
    | _=>exact ⟨_,_,h1,fun Q' hq=>h2 _ hq⟩
  | cond c a b iha ihb =>
    intro Q s h
    simp only [aw] at h ⊢
    obtain ⟨v,hv,hw⟩:=ah h
    cases v<;>try (exact hw.elim)
    rename_i t
    cases t with
    | true =>
      obtain ⟨e,s',h1,h2⟩:=iha (hw.1 rfl)
      exact ⟨e,s',h1,fun Q' hq=>by rw [hv]; exact ⟨fun _=>h2 _ hq,fun h=>by cases h⟩⟩
    | false =>
      obtain ⟨e,s',h1,h2⟩:=ihb (hw.2 rfl)
      exact ⟨e,s',h1,fun Q' hq=>by rw [hv]; exact ⟨fun h=>(by cases h),fun _=>h2 _ hq⟩⟩
  | label l=>intro Q s h; exact ⟨_,_,h,fun _ h=>h⟩
  | goto l=>intro Q s h; exact ⟨_,_,h,fun _ h=>h⟩
  | scope l c r ihc ihr =>
    intro Q s h
    obtain ⟨e,s',h1,h2⟩:=ihc h
    cases e with
    | goto l' =>
      obtain ⟨hl,h1⟩:=h1
      obtain ⟨e,s'',h3,h4⟩:=ihr h1
      cases e with
      | goto l2=>exact h3.elim
      | _=>exact ⟨_,s'',h3,fun Q' hq=>h2 (nC l (aw C r (yo Q')) Q') ⟨hl,h4 (yo Q') hq⟩⟩
    | _=>exact ⟨_,_,h1,fun Q' hq=>h2 (nC l (aw C r (yo Q')) Q') hq⟩
  | block id c ih =>
    intro Q s h
    obtain ⟨e,s',h1,h2⟩:=ih h
    cases e with
    | exit i =>
      simp only [gh] at h1
      by_cases hi:i=id
      · rw [if_pos hi] at h1
        exact ⟨_,_,h1,fun Q' hq=>h2 _ (by simp only [gh,if_pos hi]; exact hq)⟩
      · rw [if_neg hi] at h1
        exact ⟨_,_,h1,fun Q' hq=>h2 _ (by simp only [gh,if_neg hi]; exact hq)⟩
    | _=>exact ⟨_,_,h1,fun Q' hq=>h2 _ hq⟩
  | loop c ih =>
    have key:∀ (n:Nat) {Q:Exit→S→Prop} {s:S},m5 (aw C c) Q n s→∃ e s',Q e s'∧∀ Q':Exit→S→Prop,Q' e s'→m5 (aw C c) Q' n s:=by
      intro n
      induction n with
      | zero=>intro Q s h; exact h.elim
      | succ n ihn =>
        intro Q s h
        obtain ⟨e,s',h1,h2⟩:=ih h
        cases e with
        | normal =>
          obtain ⟨s1,⟨hl,hF⟩|hF⟩:=h1
          · obtain ⟨e,s'',h3,h4⟩:=ihn hF
            exact ⟨e,s'',h3,fun Q' hq=>h2 _ ⟨s1,.inl ⟨hl,h4 _ hq⟩⟩⟩
          · obtain ⟨e,s'',h3,h4⟩:=ihn hF
            exact ⟨e,s'',h3,fun Q' hq=>h2 _ ⟨s1,.inr (h4 _ hq)⟩⟩
        | exit i=>exact ⟨_,_,h1,fun Q' hq=>h2 _ hq⟩
        | ret=>exact ⟨_,_,h1,fun Q' hq=>h2 _ hq⟩
        | _=>exact ⟨_,_,h1,fun Q' hq=>h2 _ hq⟩
    intro Q s h
    obtain ⟨s1,⟨hl,n,hF⟩|⟨n,hF⟩⟩:=h
    · obtain ⟨e,s'',h3,h4⟩:=key n hF
      exact ⟨e,s'',h3,fun Q' hq=>⟨s1,.inl ⟨hl,n,h4 _ hq⟩⟩⟩
    · obtain ⟨e,s'',h3,h4⟩:=key n hF
      exact ⟨e,s'',h3,fun Q' hq=>⟨s1,.inr ⟨n,h4 _ hq⟩⟩⟩
  | exit id=>intro Q s h; exact ⟨_,_,h,fun _ h=>h⟩
  | ret=>intro Q s h; exact ⟨_,_,h,fun _ h=>h⟩
  | nB ops dA =>
    intro Q s h
    obtain ⟨ids,hids,h⟩:=h
    obtain ⟨css,hcss,ro,hd,h⟩:=ah h
    obtain ⟨s',h1,h2⟩:=B8 h
    exact ⟨_,_,h1,fun Q' hq=>⟨ids,hids,by rw [hcss]; exact ⟨ro,hd,h2 _ hq⟩⟩⟩
  | mW g ps wr as bd iha ihb =>
    intro Q s h
    simp only [aw] at h
    obtain ⟨gv,hgv,xs,h1,h2,F,h3,h4,h5,h6⟩:=ah h
    have mono:∀ {F F':S→Prop} {Q:Exit→S→Prop} {t:S},(∀ s,F s→F' s)→aw C as (uw (aw C bd (ER wr F Q))) t→aw C as (uw (aw C bd (ER wr F' Q))) t:=by
      intro F F' Q t hF h
      refine j4 (fun e s ha=>?_) h
      cases e<;>first | exact ha.elim | skip
      refine j4 (fun e s hb=>?_) ha
      cases e<;>first | exact jK hF hb | exact hb
    have key:∀ n i s',xs.length - i=n→i≤xs.length→F i s'→∃ e s'',Q e s''∧∀ Q':Exit→S→Prop,Q' e s''→∃ F':Nat→S→Prop,F' i s'∧(∀ j t,F' j t→i≤j∧aG t g=some gv) ∧
        (∀ j x t,xs[j]? = some x→F' j t→aw C as (uw (aw C bd (ER wr (F' (j + 1)) Q'))) (ov ps x t))∧∀ t,F' xs.length t→Q' .normal t:=by
      intro n
      induction n with
      | zero =>
        intro i s' hn hi hF
        have hi:i=xs.length:=by omega
        subst hi
        exact ⟨.normal,s',h6 s' hF,fun Q' hq=>⟨fun j t=>j=xs.length∧t=s',⟨rfl,rfl⟩,fun j t ⟨e,e'⟩=>by subst e; subst e'; exact ⟨Nat.le_refl _,h4 _ _ hF⟩,
          fun j x t hx ⟨e,_⟩=>by subst e; simp at hx,fun t ⟨_,e⟩=>by subst e; exact hq⟩⟩
      | succ n ih =>
        intro i s' hn hi hF
        have hlt:i < xs.length:=by omega
        have hx:xs[i]? = some xs[i]:=by simp [hlt]
        obtain ⟨e1,s1,k1,k2⟩:=iha (h5 i _ s' hx hF)
        cases e1<;>try exact k1.elim
        obtain ⟨e2,s2,k3,k4⟩:=ihb k1
        have stop:∀ (e:Exit) (s'':S),Q e s''→(∀ (F':S→Prop) (Q':Exit→S→Prop),Q' e s''→ER wr F' Q' e2 s2)→∃ e s'',Q e s''∧∀ Q':Exit→S→Prop,Q' e s''→∃ F':Nat→S→Prop,F' i s'∧(∀ j t,F' j t→i≤j∧aG t g=some gv) ∧
            (∀ j x t,xs[j]? = some x→F' j t→aw C as (uw (aw C bd (ER wr (F' (j + 1)) Q'))) (ov ps x t))∧∀ t,F' xs.length t→Q' .normal t:=by
          intro e s'' hq hr
          refine ⟨e,s'',hq,fun Q' hq'=>⟨fun j t=>j=i∧t=s',⟨rfl,rfl⟩,fun j t ⟨e,e'⟩=>by subst e; subst e'; exact ⟨Nat.le_refl _,h4 _ _ hF⟩,fun j x t hx' ⟨e,e'⟩=>?_,fun t ⟨e,_⟩=>by omega⟩⟩
          subst e; subst e'
          rw [hx] at hx'; cases hx'
          exact k2 _ (k4 _ (hr _ _ hq'))
        cases e2 with
        | normal =>
          obtain ⟨s3,hs3⟩:∃ s3,F (i + 1) s3∧(Le (ym wr s2) s3∨s3=ym wr s2):=by
            obtain ⟨s3,⟨hl,hf⟩|hf⟩:=(show Eng.down (F (i + 1)) (ym wr s2) from k3)
            · exact ⟨s3,hf,.inl hl⟩
            · exact ⟨_,hf,.inr rfl⟩
          obtain ⟨e,s'',hq,hre⟩:=ih (i + 1) s3 (by omega) (by omega) hs3.1
          refine ⟨e,s'',hq,fun Q' hq'=>?_⟩
          obtain ⟨F'',g1,g2,g3,g4⟩:=hre Q' hq'
          refine ⟨fun j t=>(j=i∧t=s')∨F'' j t,.inl ⟨rfl,rfl⟩,fun j t ht=>?_,fun j x t hx' ht=>?_,fun t ht=>?_⟩
          · rcases ht with ⟨rfl,rfl⟩ | ht
            · exact ⟨Nat.le_refl _,h4 _ _ hF⟩
            · exact ⟨by have:=(g2 j t ht).1; omega,(g2 j t ht).2⟩
          · rcases ht with ⟨rfl,rfl⟩ | ht
            · rw [hx] at hx'; cases hx'
              refine k2 _ (k4 _ (show Eng.down _ _ from ?_))
              rcases hs3.2 with hl|hl
              · exact ⟨s3,.inl ⟨hl,.inr g1⟩⟩
              · rw [← hl]; exact ga (.inr g1)
            · exact mono (fun _ h=>.inr h) (g3 j x t hx' ht)
          · rcases ht with ⟨e,_⟩ | ht
            · omega
            · exact g4 t ht
        | ret=>exact stop .ret _ k3 fun _ _ h=>h
        | exit id=>exact stop (.exit id) _ k3 fun _ _ h=>h
        | _=>exact k3.elim
    obtain ⟨s0,h0⟩:∃ s0,F 0 s0∧(Le s s0∨s0=s):=by
      obtain ⟨s0,⟨hl,hf⟩|hf⟩:=h3
      · exact ⟨s0,hf,.inl hl⟩
      · exact ⟨_,hf,.inr rfl⟩
    obtain ⟨e,s'',hq,hre⟩:=key _ 0 s0 rfl (Nat.zero_le _) h0.1
    refine ⟨e,s'',hq,fun Q' hq'=>?_⟩
    obtain ⟨F',g1,g2,g3,g4⟩:=hre Q' hq'
    simp only [aw,hgv]
    refine ⟨xs,h1,h2,F',?_,fun j t ht=>(g2 j t ht).2,g3,g4⟩
    rcases h0.2 with hl|hl
    · exact ⟨s0,.inl ⟨hl,g1⟩⟩
    · rw [← hl]; exact ga g1
theorem oI {C:bk} {c:bp} {Q:Exit→S→Prop} {s:S} (h:aw C c (j8 (aw C (.loop c) Q) Q) s):aw C (.loop c) Q s:=by
 obtain ⟨e,s',h1,h2⟩:=SG h
 cases e with
 | normal =>
  obtain ⟨s1,⟨hl,n,hF⟩|⟨n,hF⟩⟩:=h1
  ·exact ga ⟨n + 1,h2 _ ⟨s1,.inl ⟨hl,hF⟩⟩⟩
  ·exact ga ⟨n + 1,h2 _ ⟨s1,.inr hF⟩⟩
 | exit i=>exact ga ⟨1,h2 _ h1⟩
 | ret=>exact ga ⟨1,h2 _ h1⟩
 | _=>exact ga ⟨1,h2 _ h1⟩
theorem i9 (p i:Nat):cw p (i + 1)=cw p i++[((p + i:Nat):Int)]:=by simp [cw,List.range_succ]
theorem sD (l:Option (List Int)) (G:Nat):∀ g,(aU l G g).2≤8
 | 0=>by simp [aU]
 | g + 1=>by
  have:=sD l G g
  simp only [aU,aW,bL]
  omega
theorem mC (l:Option (List Int)) (G:Nat):∀ g,(aU l G g).1.length=g
 | 0=>by simp [aU]
 | g + 1=>by
  have:=mC l G g
  simp only [aU,List.length_append,List.length_cons,List.length_nil]
  omega
def Cut {α:Type} (ex:Exit) (st:α→S) (J:α→Prop) (e:Exit) (s:S):Prop:=e=ex∧∃ y,J y∧Le s (st y)
theorem cZ {α:Type} {ex:Exit} {st:α→S} {J:α→Prop} {s:S} (y:α) (hy:J y) (hle:Le s (st y)):Cut ex st J ex s:=⟨rfl,y,hy,hle⟩
theorem kQ {C:bk} {c:bp} {Q:Exit→S→Prop} {s:S} {F:S→Prop} {α:Type} (ex:Exit) (st:α→S) (J:α→Prop) (hQ:∀ s',Q ex s'=down F s') (h1:aw C c (Cut ex st J) s) (h2:∀ y,J y→F (st y)):aw C c Q s:=by
 refine j4 ?_ h1
 rintro e s' ⟨rfl,y,hy,hle⟩
 rw [hQ]
 exact ⟨st y,.inl ⟨hle,h2 y hy⟩⟩
theorem Mq:IntKind.i64.wrap (0 + 1)=1:=by decide
theorem B9:IntKind.i64.wrap (1 + 1)=2:=by decide
theorem aN {α:Type} (f:α→List AV):aE f none=.bw:=rfl
theorem aI {α:Type} (f:α→List AV) (l:List α):aE f (some l)=.sl (l.map f):=rfl
section
variable {P:Program} (hm:P.follows .mixedOrders=true) {f:Nat}
include hm
theorem rows.ok {fF e eR:Nat} (hc:aL P f=some (nJ fF e eR)) (hF:from.Spec (Pure P) fF):rows.Spec (Pure P) f:=by
  intro t l ht hg0
  have hl:=Tb.len ht
  have hp:=Tb.whole ht
  refine Dk hm hc (by show 2≤78; decide) rfl (by simp) (aj (keep:=[3,5]) (i:=0) ?_)
  try simp only [I,B,D,RX,↓ KW,Nat.reduceBEq,Nat.reduceAdd,Nat.reduceLeDiff,Int.reduceNe,Int.reduceBEq,Int.reduceEq,reduceCtorEq,Nat.reduceMul,Int.reduceLT,Int.reduceLE,Int.reduceToNat,nJ,Z.H]
  have hgr:=aH l 0 (n:=3) (by decide) (by decide)
  refine af (hF _ _ _ (by decide)) ?_
  try simp only [I,B,D,RX,↓ KW,Nat.reduceBEq,Nat.reduceAdd,Nat.reduceLeDiff,Int.reduceNe,Int.reduceBEq,Int.reduceEq,reduceCtorEq,Nat.reduceMul,Int.reduceLT,Int.reduceLE,Int.reduceToNat]
  have hgn:IntKind.i64.wrap (1 + bR l 0 3)=(eG l:Nat):=by
    rw [aY (by omega) (by omega),eG]; omega
  have hg3:1≤eG l∧eG l≤3:=by unfold eG; omega
  rw [hgn]
  generalize eG l=G at *
  refine aF (fun g:Nat=>(⟨[(7,.dat (I g) none),(5,.dat (I G) none),(1,.dat (aE az l) none),(6,.dat (I (aU l G g).2) none),(0,.ptr 0 0)],[(0,⟨({ t with groups:=bW (aU l G g).1 }:Tb).cells,if (aU l G g).1=[] then [] else [(104,0)]⟩)],bF (aU l G g).1 0 eR,400⟩:S)) (fun g=>G - g) (fun g=>g≤G) ?_ 0 (by omega) ?_
  · intro g hg A back
    have hw:=aB (k:=g) (by omega)
    have hn2:aU l G (g + 1)=((aU l G g).1++[⟨bW (cw (aU l G g).2 (aW (cnt l g 0 0) (aU l G g).2 (bL G g))),bW (cw ((aU l G g).2 + aW (cnt l g 0 0) (aU l G g).2 (bL G g)) (aW (cnt l g 1 (aW (cnt l g 0 0) (aU l G g).2 (bL G g))) ((aU l G g).2 + aW (cnt l g 0 0) (aU l G g).2 (bL G g)) (bL G g)))⟩],(aU l G g).2 + aW (cnt l g 0 0) (aU l G g).2 (bL G g) + aW (cnt l g 1 (aW (cnt l g 0 0) (aU l G g).2 (bL G g))) ((aU l G g).2 + aW (cnt l g 0 0) (aU l G g).2 (bL G g)) (bL G g)):=rfl
    have hp8:(aU l G g).2≤8:=sD l G g
    have hgl:(aU l G g).1.length=g:=mC l G g
    generalize hR:aU l G g=R at *
    obtain ⟨gs,p⟩:=R
    simp only at hn2 hp8 hgl
    have hc0:bR l (1 + 2 * (g:Int) + 0) 3=(cnt l g 0 0:Nat):=by
      have:=aH l (1 + 2 * (g:Int) + 0) (n:=3) (by decide) (by decide)
      have hc:cnt l g 0 0=(bR l (1 + 2 * (g:Int) + 0) 3).toNat:=by simp [cnt]
      rw [hc]; omega
    have hw1:IntKind.i64.wrap (IntKind.i64.wrap (1 + IntKind.i64.wrap (2 * (g:Int))) + 0)=1 + 2 * (g:Int) + 0:=by
      rw [aY (n:=2 * (g:Int)) (by omega) (by omega),aY (n:=1 + 2 * (g:Int)) (by omega) (by omega),aY (by omega) (by omega)]
    have hw2:IntKind.i64.wrap (IntKind.i64.wrap (1 + IntKind.i64.wrap (2 * (g:Int))) + 1)=1 + 2 * (g:Int) + 1:=by
      rw [aY (n:=2 * (g:Int)) (by omega) (by omega),aY (n:=1 + 2 * (g:Int)) (by omega) (by omega),aY (by omega) (by omega)]
    have hlim:IntKind.i64.wrap (8 - IntKind.i64.wrap (IntKind.i64.wrap ((G:Int) - 1) - (g:Int)))=if g < G then ((bL G g:Nat):Int) else (8 - ((G:Int) - 1 - g):Int):=by
      rw [aY (n:=(G:Int) - 1) (by omega) (by omega),aY (n:=(G:Int) - 1 - g) (by omega) (by omega),aY (by omega) (by omega)]
      split<;>simp [bL]<;>omega
    by_cases hgs:gs=[]
    all_goals
      try simp only [I,B,D,RX,↓ KW,Nat.reduceBEq,Nat.reduceAdd,Nat.reduceLeDiff,Int.reduceNe,Int.reduceBEq,Int.reduceEq,reduceCtorEq,Nat.reduceMul,Int.reduceLT,Int.reduceLE,Int.reduceToNat,hgs,bF,bW]
      refine ax (fun h=>?_) (fun h=>?_)<;>try simp only [I,B,D,RX,↓ KW,Nat.reduceBEq,Nat.reduceAdd,Nat.reduceLeDiff,Int.reduceNe,Int.reduceBEq,Int.reduceEq,reduceCtorEq,Nat.reduceMul,Int.reduceLT,Int.reduceLE,Int.reduceToNat,hgs,bF,bW,h]
      · have hlt:g < G:=by have:=of_decide_eq_true h; omega
        rw [if_pos hlt] at hlim
        generalize hc0':cnt l g 0 0=n0 at *
        refine kQ (.exit 2) (fun _:Unit=>(⟨[(6,.dat (I (p + aW n0 p (bL G g) + aW (cnt l g 1 (aW n0 p (bL G g))) (p + aW n0 p (bL G g)) (bL G g):Nat)) none),(5,.dat (I G) none),(7,.dat (I g) none),(8,.ptr 403 0),(1,.dat (aE az l) none),(0,.ptr 0 0)],[(403,⟨[aE az (bW (cw p (aW n0 p (bL G g)))),aE az (bW (cw (p + aW n0 p (bL G g)) (aW (cnt l g 1 (aW n0 p (bL G g))) (p + aW n0 p (bL G g)) (bL G g))))],[]⟩),(0,⟨({ t with groups:=bW gs }:Tb).cells,if gs=[] then [] else [(104,0)]⟩)],bF gs 0 eR,1000⟩:S)) (fun _=>True) (fun _=>rfl) ?_ ?_
        · refine oI ?_
          try simp only [I,B,D,RX,↓ KW,Nat.reduceBEq,Nat.reduceAdd,Nat.reduceLeDiff,Int.reduceNe,Int.reduceBEq,Int.reduceEq,reduceCtorEq,Nat.reduceMul,Int.reduceLT,Int.reduceLE,Int.reduceToNat,hgs]
          refine af (hF _ _ _ (by decide)) ?_
          try simp only [I,B,D,RX,↓ KW,Nat.reduceBEq,Nat.reduceAdd,Nat.reduceLeDiff,Int.reduceNe,Int.reduceBEq,Int.reduceEq,reduceCtorEq,Nat.reduceMul,Int.reduceLT,Int.reduceLE,Int.reduceToNat,hw1,hc0,hgs]
          refine kQ (.exit 4) (fun _:Unit=>(⟨[(9,.dat (I 0) none),(6,.dat (I (p + aW n0 (p) (bL G g):Nat)) none),(5,.dat (I G) none),(7,.dat (I g) none),(8,.ptr 403 0),(1,.dat (aE az l) none),(0,.ptr 0 0)],[(403,⟨[aE az (bW (cw (p) (aW n0 (p) (bL G g)))),.bw],[]⟩),(0,⟨({ t with groups:=bW gs }:Tb).cells,if gs=[] then [] else [(104,0)]⟩)],bF gs 0 eR,1000⟩:S)) (fun _=>True) (fun _=>rfl) ?_ ?_
          · refine aF (fun i:Nat=>(⟨[(11,.dat (I i) none),(10,.dat (I n0) none),(6,.dat (I (p + i:Nat)) none),(5,.dat (I G) none),(7,.dat (I g) none),(9,.dat (I 0) none),(8,.ptr 403 0),(1,.dat (aE az l) none),(0,.ptr 0 0)],[(403,⟨[aE az (bW (cw (p) i)),.bw],if cw (p) i=[] then [] else [(0,1)]⟩),(0,⟨({ t with groups:=bW gs }:Tb).cells,if gs=[] then [] else [(104,0)]⟩)],bF (cw (p) i) 1 e++bF gs 0 eR,1000⟩:S)) (fun i=>aW n0 (p) (bL G g) - i) (fun i=>i≤aW n0 (p) (bL G g)) ?_ 0 (by omega) ?_
            · intro i hi A1 back1
              have hfl:aW n0 (p) (bL G g)≤8:=by simp only [aW,bL]; omega
              have hw3:=aB (k:=i) (by omega)
              have hf:aW n0 (p) (bL G g)=min n0 (bL G g - (p)):=rfl
              have hp1:IntKind.i64.wrap (((p + i:Nat):Int) + 1)=((p + (i + 1):Nat):Int):=by rw [aY (by omega) (by omega)]; omega
              have hrl:(cw (p) i).length=i:=by simp [cw]
              by_cases hl:cw (p) i=[]
              · try simp only [I,B,D,RX,↓ KW,Nat.reduceBEq,Nat.reduceAdd,Nat.reduceLeDiff,Int.reduceNe,Int.reduceBEq,Int.reduceEq,reduceCtorEq,Nat.reduceMul,Int.reduceLT,Int.reduceLE,Int.reduceToNat,hl,bF,bW,hlim,hgs]
                repeat' (((first | refine aV ?_ ?_ | refine ax ?_ ?_ | refine bq ?_ ?_)<;>intro h)<;>try simp only [I,B,D,RX,↓ KW,Nat.reduceBEq,Nat.reduceAdd,Nat.reduceLeDiff,Int.reduceNe,Int.reduceBEq,Int.reduceEq,reduceCtorEq,Nat.reduceMul,Int.reduceLT,Int.reduceLE,Int.reduceToNat,aN,aI,hlim,hl,hgs,hp1,h])
                · have h1:=of_decide_eq_true h
                  refine ⟨by decide,?_⟩
                  refine ⟨by decide,?_⟩
                  have h2:(i:Int) < n0:=by rename_i h2; exact of_decide_eq_true h2
                  refine back1 (i + 1) _ (by omega) (by omega) (ai (by decide) ?_ ?_ ?_ ?_)<;>simp [LX,I,B,D,hw3,i9,hl,bW,aN,aI,hgs]
                · have h1:=of_decide_eq_false h
                  have:i=aW n0 (p) (bL G g):=by omega
                  rw [← this]
                  refine cZ () trivial ?_
                  refine ai (by decide) ?_ ?_ ?_ ?_<;>simp [LX,I,B,D,hl,bW,aN,aI,hgs]
                · have h1:=of_decide_eq_false h
                  have:i=aW n0 (p) (bL G g):=by omega
                  rw [← this]
                  refine cZ () trivial ?_
                  refine ai (by decide) ?_ ?_ ?_ ?_<;>simp [LX,I,B,D,hl,bW,aN,aI,hgs]
              · try simp only [I,B,D,RX,↓ KW,Nat.reduceBEq,Nat.reduceAdd,Nat.reduceLeDiff,Int.reduceNe,Int.reduceBEq,Int.reduceEq,reduceCtorEq,Nat.reduceMul,Int.reduceLT,Int.reduceLE,Int.reduceToNat,hl,bF,bW,hlim,hgs]
                repeat' (((first | refine aV ?_ ?_ | refine ax ?_ ?_ | refine bq ?_ ?_)<;>intro h)<;>try simp only [I,B,D,RX,↓ KW,Nat.reduceBEq,Nat.reduceAdd,Nat.reduceLeDiff,Int.reduceNe,Int.reduceBEq,Int.reduceEq,reduceCtorEq,Nat.reduceMul,Int.reduceLT,Int.reduceLE,Int.reduceToNat,aN,aI,hlim,hl,hgs,hp1,h])
                · have h1:=of_decide_eq_true h
                  refine ⟨by decide,by omega,by decide,?_⟩
                  have h2:(i:Int) < n0:=by rename_i h2; exact of_decide_eq_true h2
                  refine back1 (i + 1) _ (by omega) (by omega) (ai (by decide) ?_ ?_ ?_ ?_)<;>simp [LX,I,B,D,hw3,i9,hl,bW,aN,aI,hgs]
                · have h1:=of_decide_eq_false h
                  have:i=aW n0 (p) (bL G g):=by omega
                  rw [← this]
                  refine cZ () trivial ?_
                  refine ai (by decide) ?_ ?_ ?_ ?_<;>simp [LX,I,B,D,hl,bW,aN,aI,hgs]
                · have h1:=of_decide_eq_false h
                  have:i=aW n0 (p) (bL G g):=by omega
                  rw [← this]
                  refine cZ () trivial ?_
                  refine ai (by decide) ?_ ?_ ?_ ?_<;>simp [LX,I,B,D,hl,bW,aN,aI,hgs]
            · refine ai (by decide) ?_ ?_ ?_ ?_<;>simp [LX,I,B,D,cw,bW,aN,aI,hgs]
          · intro _ _
            generalize hm0:aW n0 p (bL G g)=m0 at *
            have hrow0:(bW (cw p m0)).getD []=cw p m0:=bN _
            have hrl0:(cw p m0).length=m0:=by simp [cw]
            have hm8:m0≤8:=by rw [← hm0]; simp only [aW,bL]; omega
            try simp only [I,B,D,RX,↓ KW,Nat.reduceBEq,Nat.reduceAdd,Nat.reduceLeDiff,Int.reduceNe,Int.reduceBEq,Int.reduceEq,reduceCtorEq,Nat.reduceMul,Int.reduceLT,Int.reduceLE,Int.reduceToNat,hgs]
            refine oI ?_
            try simp only [I,B,D,RX,↓ KW,Nat.reduceBEq,Nat.reduceAdd,Nat.reduceLeDiff,Int.reduceNe,Int.reduceBEq,Int.reduceEq,reduceCtorEq,Nat.reduceMul,Int.reduceLT,Int.reduceLE,Int.reduceToNat,hgs,Mq]
            refine af (hF _ _ _ (by decide)) ?_
            try simp only [I,B,D,RX,↓ KW,Nat.reduceBEq,Nat.reduceAdd,Nat.reduceLeDiff,Int.reduceNe,Int.reduceBEq,Int.reduceEq,reduceCtorEq,Nat.reduceMul,Int.reduceLT,Int.reduceLE,Int.reduceToNat,hw2,hgs]
            have hr2:=aH l (1 + 2 * (g:Int) + 1) (n:=3) (by decide) (by decide)
            have hcn0:cnt l g 1 m0=if (bR l (1 + 2 * (g:Int) + 1) 3).toNat=0∧m0=0 then 1 else (bR l (1 + 2 * (g:Int) + 1) 3).toNat:=by simp [cnt]
            generalize bR l (1 + 2 * (g:Int) + 1) 3=fr1 at *
            generalize hn1:cnt l g 1 m0=n1 at *
            repeat' (((first | refine aV ?_ ?_ | refine ax ?_ ?_ | refine bq ?_ ?_)<;>intro h)<;>try simp only [I,B,D,RX,↓ KW,Nat.reduceBEq,Nat.reduceAdd,Nat.reduceLeDiff,Int.reduceNe,Int.reduceBEq,Int.reduceEq,reduceCtorEq,Nat.reduceMul,Int.reduceLT,Int.reduceLE,Int.reduceToNat,hrow0,hrl0,hgs,h])
            · have hfr:fr1=0:=by simpa using h
              refine ⟨by decide,?_⟩
              refine ax (fun hz=>?_) (fun hz=>?_)<;>try simp only [I,B,D,RX,↓ KW,Nat.reduceBEq,Nat.reduceAdd,Nat.reduceLeDiff,Int.reduceNe,Int.reduceBEq,Int.reduceEq,reduceCtorEq,Nat.reduceMul,Int.reduceLT,Int.reduceLE,Int.reduceToNat,hgs,hz]
              · have hz:m0=0:=by simpa using hz
                have hcn:(n1:Int)=1:=by rw [hcn0,if_pos ⟨by omega,hz⟩]; rfl
                refine kQ (.exit 4) (fun _:Unit=>(⟨[(9,.dat (I 1) none),(6,.dat (I (p + m0 + aW n1 (p + m0) (bL G g):Nat)) none),(5,.dat (I G) none),(7,.dat (I g) none),(8,.ptr 403 0),(1,.dat (aE az l) none),(0,.ptr 0 0)],[(403,⟨[aE az (bW (cw p m0)),aE az (bW (cw (p + m0) (aW n1 (p + m0) (bL G g))))],[]⟩),(0,⟨({ t with groups:=bW gs }:Tb).cells,if gs=[] then [] else [(104,0)]⟩)],bF gs 0 eR,1000⟩:S)) (fun _=>True) (fun _=>rfl) ?_ ?_
                · refine aF (fun i:Nat=>(⟨[(11,.dat (I i) none),(10,.dat (I n1) none),(6,.dat (I (p + m0 + i:Nat)) none),(5,.dat (I G) none),(7,.dat (I g) none),(9,.dat (I 1) none),(8,.ptr 403 0),(1,.dat (aE az l) none),(0,.ptr 0 0)],[(403,⟨[aE az (bW (cw p m0)),aE az (bW (cw (p + m0) i))],if cw (p + m0) i=[] then [] else [(1,1)]⟩),(0,⟨({ t with groups:=bW gs }:Tb).cells,if gs=[] then [] else [(104,0)]⟩)],bF (cw (p + m0) i) 1 e++bF gs 0 eR,1000⟩:S)) (fun i=>aW n1 (p + m0) (bL G g) - i) (fun i=>i≤aW n1 (p + m0) (bL G g)) ?_ 0 (by omega) ?_
                  · intro i hi A1 back1
                    have hfl:aW n1 (p + m0) (bL G g)≤8:=by simp only [aW,bL]; omega
                    have hw3:=aB (k:=i) (by omega)
                    have hf:aW n1 (p + m0) (bL G g)=min n1 (bL G g - (p + m0)):=rfl
                    have hp1:IntKind.i64.wrap (((p + m0 + i:Nat):Int) + 1)=((p + m0 + (i + 1):Nat):Int):=by rw [aY (by omega) (by omega)]; omega
                    have hrl:(cw (p + m0) i).length=i:=by simp [cw]
                    by_cases hl:cw (p + m0) i=[]
                    · try simp only [I,B,D,RX,↓ KW,Nat.reduceBEq,Nat.reduceAdd,Nat.reduceLeDiff,Int.reduceNe,Int.reduceBEq,Int.reduceEq,reduceCtorEq,Nat.reduceMul,Int.reduceLT,Int.reduceLE,Int.reduceToNat,hl,bF,bW,hlim,hgs,hrow0]
                      repeat' (((first | refine aV ?_ ?_ | refine ax ?_ ?_ | refine bq ?_ ?_)<;>intro h)<;>try simp only [I,B,D,RX,↓ KW,Nat.reduceBEq,Nat.reduceAdd,Nat.reduceLeDiff,Int.reduceNe,Int.reduceBEq,Int.reduceEq,reduceCtorEq,Nat.reduceMul,Int.reduceLT,Int.reduceLE,Int.reduceToNat,aN,aI,hlim,hl,hgs,hp1,hrow0,h])
                      · have h1:=of_decide_eq_true h
                        refine ⟨by decide,?_⟩
                        refine ⟨by decide,?_⟩
                        have h2:(i:Int) < n1:=by rename_i h2; exact of_decide_eq_true h2
                        refine back1 (i + 1) _ (by omega) (by omega) (ai (by decide) ?_ ?_ ?_ ?_)<;>simp [LX,I,B,D,hw3,i9,hl,bW,aN,aI,hgs,hrow0]
                      · have h1:=of_decide_eq_false h
                        have:i=aW n1 (p + m0) (bL G g):=by omega
                        rw [← this]
                        refine cZ () trivial ?_
                        refine ai (by decide) ?_ ?_ ?_ ?_<;>simp [LX,I,B,D,hl,bW,aN,aI,hgs,hrow0]
                      · have h1:=of_decide_eq_false h
                        have:i=aW n1 (p + m0) (bL G g):=by omega
                        rw [← this]
                        refine cZ () trivial ?_
                        refine ai (by decide) ?_ ?_ ?_ ?_<;>simp [LX,I,B,D,hl,bW,aN,aI,hgs,hrow0]
                    · try simp only [I,B,D,RX,↓ KW,Nat.reduceBEq,Nat.reduceAdd,Nat.reduceLeDiff,Int.reduceNe,Int.reduceBEq,Int.reduceEq,reduceCtorEq,Nat.reduceMul,Int.reduceLT,Int.reduceLE,Int.reduceToNat,hl,bF,bW,hlim,hgs,hrow0]
                      repeat' (((first | refine aV ?_ ?_ | refine ax ?_ ?_ | refine bq ?_ ?_)<;>intro h)<;>try simp only [I,B,D,RX,↓ KW,Nat.reduceBEq,Nat.reduceAdd,Nat.reduceLeDiff,Int.reduceNe,Int.reduceBEq,Int.reduceEq,reduceCtorEq,Nat.reduceMul,Int.reduceLT,Int.reduceLE,Int.reduceToNat,aN,aI,hlim,hl,hgs,hp1,hrow0,h])
                      · have h1:=of_decide_eq_true h
                        refine ⟨by decide,by omega,by decide,?_⟩
                        have h2:(i:Int) < n1:=by rename_i h2; exact of_decide_eq_true h2
                        refine back1 (i + 1) _ (by omega) (by omega) (ai (by decide) ?_ ?_ ?_ ?_)<;>simp [LX,I,B,D,hw3,i9,hl,bW,aN,aI,hgs,hrow0]
                      · have h1:=of_decide_eq_false h
                        have:i=aW n1 (p + m0) (bL G g):=by omega
                        rw [← this]
                        refine cZ () trivial ?_
                        refine ai (by decide) ?_ ?_ ?_ ?_<;>simp [LX,I,B,D,hl,bW,aN,aI,hgs,hrow0]
                      · have h1:=of_decide_eq_false h
                        have:i=aW n1 (p + m0) (bL G g):=by omega
                        rw [← this]
                        refine cZ () trivial ?_
                        refine ai (by decide) ?_ ?_ ?_ ?_<;>simp [LX,I,B,D,hl,bW,aN,aI,hgs,hrow0]
                  · refine ai (by decide) ?_ ?_ ?_ ?_<;>simp [LX,I,B,D,cw,bW,aN,aI,hgs,hrow0,hcn]
                · intro _ _
                  try simp only [I,B,D,RX,↓ KW,Nat.reduceBEq,Nat.reduceAdd,Nat.reduceLeDiff,Int.reduceNe,Int.reduceBEq,Int.reduceEq,reduceCtorEq,Nat.reduceMul,Int.reduceLT,Int.reduceLE,Int.reduceToNat,hgs,bW,hrow0]
                  refine oI ?_
                  try simp only [I,B,D,RX,↓ KW,Nat.reduceBEq,Nat.reduceAdd,Nat.reduceLeDiff,Int.reduceNe,Int.reduceBEq,Int.reduceEq,reduceCtorEq,Nat.reduceMul,Int.reduceLT,Int.reduceLE,Int.reduceToNat,hgs,B9]
                  refine cZ () trivial ?_
                  refine ai (by decide) ?_ ?_ ?_ ?_<;>simp [LX,I,B,D,hgs,bW,aN,aI]
              · have hz:¬ m0=0:=by simpa using hz
                have hcn:fr1=(n1:Int):=by rw [hcn0,if_neg (fun hh=>hz hh.2)]; omega
                refine kQ (.exit 4) (fun _:Unit=>(⟨[(9,.dat (I 1) none),(6,.dat (I (p + m0 + aW n1 (p + m0) (bL G g):Nat)) none),(5,.dat (I G) none),(7,.dat (I g) none),(8,.ptr 403 0),(1,.dat (aE az l) none),(0,.ptr 0 0)],[(403,⟨[aE az (bW (cw p m0)),aE az (bW (cw (p + m0) (aW n1 (p + m0) (bL G g))))],[]⟩),(0,⟨({ t with groups:=bW gs }:Tb).cells,if gs=[] then [] else [(104,0)]⟩)],bF gs 0 eR,1000⟩:S)) (fun _=>True) (fun _=>rfl) ?_ ?_
                · refine aF (fun i:Nat=>(⟨[(11,.dat (I i) none),(10,.dat (I n1) none),(6,.dat (I (p + m0 + i:Nat)) none),(5,.dat (I G) none),(7,.dat (I g) none),(9,.dat (I 1) none),(8,.ptr 403 0),(1,.dat (aE az l) none),(0,.ptr 0 0)],[(403,⟨[aE az (bW (cw p m0)),aE az (bW (cw (p + m0) i))],if cw (p + m0) i=[] then [] else [(1,1)]⟩),(0,⟨({ t with groups:=bW gs }:Tb).cells,if gs=[] then [] else [(104,0)]⟩)],bF (cw (p + m0) i) 1 e++bF gs 0 eR,1000⟩:S)) (fun i=>aW n1 (p + m0) (bL G g) - i) (fun i=>i≤aW n1 (p + m0) (bL G g)) ?_ 0 (by omega) ?_
                  · intro i hi A1 back1
                    have hfl:aW n1 (p + m0) (bL G g)≤8:=by simp only [aW,bL]; omega
                    have hw3:=aB (k:=i) (by omega)
                    have hf:aW n1 (p + m0) (bL G g)=min n1 (bL G g - (p + m0)):=rfl
                    have hp1:IntKind.i64.wrap (((p + m0 + i:Nat):Int) + 1)=((p + m0 + (i + 1):Nat):Int):=by rw [aY (by omega) (by omega)]; omega
                    have hrl:(cw (p + m0) i).length=i:=by simp [cw]
                    by_cases hl:cw (p + m0) i=[]
                    · try simp only [I,B,D,RX,↓ KW,Nat.reduceBEq,Nat.reduceAdd,Nat.reduceLeDiff,Int.reduceNe,Int.reduceBEq,Int.reduceEq,reduceCtorEq,Nat.reduceMul,Int.reduceLT,Int.reduceLE,Int.reduceToNat,hl,bF,bW,hlim,hgs,hrow0]
                      repeat' (((first | refine aV ?_ ?_ | refine ax ?_ ?_ | refine bq ?_ ?_)<;>intro h)<;>try simp only [I,B,D,RX,↓ KW,Nat.reduceBEq,Nat.reduceAdd,Nat.reduceLeDiff,Int.reduceNe,Int.reduceBEq,Int.reduceEq,reduceCtorEq,Nat.reduceMul,Int.reduceLT,Int.reduceLE,Int.reduceToNat,aN,aI,hlim,hl,hgs,hp1,hrow0,h])
                      · have h1:=of_decide_eq_true h
                        refine ⟨by decide,?_⟩
                        refine ⟨by decide,?_⟩
                        have h2:(i:Int) < n1:=by rename_i h2; exact of_decide_eq_true h2
                        refine back1 (i + 1) _ (by omega) (by omega) (ai (by decide) ?_ ?_ ?_ ?_)<;>simp [LX,I,B,D,hw3,i9,hl,bW,aN,aI,hgs,hrow0]
                      · have h1:=of_decide_eq_false h
                        have:i=aW n1 (p + m0) (bL G g):=by omega
                        rw [← this]
                        refine cZ () trivial ?_
                        refine ai (by decide) ?_ ?_ ?_ ?_<;>simp [LX,I,B,D,hl,bW,aN,aI,hgs,hrow0]
                      · have h1:=of_decide_eq_false h
                        have:i=aW n1 (p + m0) (bL G g):=by omega
                        rw [← this]
                        refine cZ () trivial ?_
                        refine ai (by decide) ?_ ?_ ?_ ?_<;>simp [LX,I,B,D,hl,bW,aN,aI,hgs,hrow0]
                    · try simp only [I,B,D,RX,↓ KW,Nat.reduceBEq,Nat.reduceAdd,Nat.reduceLeDiff,Int.reduceNe,Int.reduceBEq,Int.reduceEq,reduceCtorEq,Nat.reduceMul,Int.reduceLT,Int.reduceLE,Int.reduceToNat,hl,bF,bW,hlim,hgs,hrow0]
                      repeat' (((first | refine aV ?_ ?_ | refine ax ?_ ?_ | refine bq ?_ ?_)<;>intro h)<;>try simp only [I,B,D,RX,↓ KW,Nat.reduceBEq,Nat.reduceAdd,Nat.reduceLeDiff,Int.reduceNe,Int.reduceBEq,Int.reduceEq,reduceCtorEq,Nat.reduceMul,Int.reduceLT,Int.reduceLE,Int.reduceToNat,aN,aI,hlim,hl,hgs,hp1,hrow0,h])
                      · have h1:=of_decide_eq_true h
                        refine ⟨by decide,by omega,by decide,?_⟩
                        have h2:(i:Int) < n1:=by rename_i h2; exact of_decide_eq_true h2
                        refine back1 (i + 1) _ (by omega) (by omega) (ai (by decide) ?_ ?_ ?_ ?_)<;>simp [LX,I,B,D,hw3,i9,hl,bW,aN,aI,hgs,hrow0]
                      · have h1:=of_decide_eq_false h
                        have:i=aW n1 (p + m0) (bL G g):=by omega
                        rw [← this]
                        refine cZ () trivial ?_
                        refine ai (by decide) ?_ ?_ ?_ ?_<;>simp [LX,I,B,D,hl,bW,aN,aI,hgs,hrow0]
                      · have h1:=of_decide_eq_false h
                        have:i=aW n1 (p + m0) (bL G g):=by omega
                        rw [← this]
                        refine cZ () trivial ?_
                        refine ai (by decide) ?_ ?_ ?_ ?_<;>simp [LX,I,B,D,hl,bW,aN,aI,hgs,hrow0]
                  · refine ai (by decide) ?_ ?_ ?_ ?_<;>simp [LX,I,B,D,cw,bW,aN,aI,hgs,hrow0,hcn]
                · intro _ _
                  try simp only [I,B,D,RX,↓ KW,Nat.reduceBEq,Nat.reduceAdd,Nat.reduceLeDiff,Int.reduceNe,Int.reduceBEq,Int.reduceEq,reduceCtorEq,Nat.reduceMul,Int.reduceLT,Int.reduceLE,Int.reduceToNat,hgs,bW,hrow0]
                  refine oI ?_
                  try simp only [I,B,D,RX,↓ KW,Nat.reduceBEq,Nat.reduceAdd,Nat.reduceLeDiff,Int.reduceNe,Int.reduceBEq,Int.reduceEq,reduceCtorEq,Nat.reduceMul,Int.reduceLT,Int.reduceLE,Int.reduceToNat,hgs,B9]
                  refine cZ () trivial ?_
                  refine ai (by decide) ?_ ?_ ?_ ?_<;>simp [LX,I,B,D,hgs,bW,aN,aI]
            · have hfr:¬ fr1=0:=by simpa using h
              have hcn:fr1=(n1:Int):=by rw [hcn0,if_neg (fun hh=>hfr (by omega))]; omega
              refine kQ (.exit 4) (fun _:Unit=>(⟨[(9,.dat (I 1) none),(6,.dat (I (p + m0 + aW n1 (p + m0) (bL G g):Nat)) none),(5,.dat (I G) none),(7,.dat (I g) none),(8,.ptr 403 0),(1,.dat (aE az l) none),(0,.ptr 0 0)],[(403,⟨[aE az (bW (cw p m0)),aE az (bW (cw (p + m0) (aW n1 (p + m0) (bL G g))))],[]⟩),(0,⟨({ t with groups:=bW gs }:Tb).cells,if gs=[] then [] else [(104,0)]⟩)],bF gs 0 eR,1000⟩:S)) (fun _=>True) (fun _=>rfl) ?_ ?_
              · refine aF (fun i:Nat=>(⟨[(11,.dat (I i) none),(10,.dat (I n1) none),(6,.dat (I (p + m0 + i:Nat)) none),(5,.dat (I G) none),(7,.dat (I g) none),(9,.dat (I 1) none),(8,.ptr 403 0),(1,.dat (aE az l) none),(0,.ptr 0 0)],[(403,⟨[aE az (bW (cw p m0)),aE az (bW (cw (p + m0) i))],if cw (p + m0) i=[] then [] else [(1,1)]⟩),(0,⟨({ t with groups:=bW gs }:Tb).cells,if gs=[] then [] else [(104,0)]⟩)],bF (cw (p + m0) i) 1 e++bF gs 0 eR,1000⟩:S)) (fun i=>aW n1 (p + m0) (bL G g) - i) (fun i=>i≤aW n1 (p + m0) (bL G g)) ?_ 0 (by omega) ?_
                · intro i hi A1 back1
                  have hfl:aW n1 (p + m0) (bL G g)≤8:=by simp only [aW,bL]; omega
                  have hw3:=aB (k:=i) (by omega)
                  have hf:aW n1 (p + m0) (bL G g)=min n1 (bL G g - (p + m0)):=rfl
                  have hp1:IntKind.i64.wrap (((p + m0 + i:Nat):Int) + 1)=((p + m0 + (i + 1):Nat):Int):=by rw [aY (by omega) (by omega)]; omega
                  have hrl:(cw (p + m0) i).length=i:=by simp [cw]
                  by_cases hl:cw (p + m0) i=[]
                  · try simp only [I,B,D,RX,↓ KW,Nat.reduceBEq,Nat.reduceAdd,Nat.reduceLeDiff,Int.reduceNe,Int.reduceBEq,Int.reduceEq,reduceCtorEq,Nat.reduceMul,Int.reduceLT,Int.reduceLE,Int.reduceToNat,hl,bF,bW,hlim,hgs,hrow0]
                    repeat' (((first | refine aV ?_ ?_ | refine ax ?_ ?_ | refine bq ?_ ?_)<;>intro h)<;>try simp only [I,B,D,RX,↓ KW,Nat.reduceBEq,Nat.reduceAdd,Nat.reduceLeDiff,Int.reduceNe,Int.reduceBEq,Int.reduceEq,reduceCtorEq,Nat.reduceMul,Int.reduceLT,Int.reduceLE,Int.reduceToNat,aN,aI,hlim,hl,hgs,hp1,hrow0,h])
                    · have h1:=of_decide_eq_true h
                      refine ⟨by decide,?_⟩
                      refine ⟨by decide,?_⟩
                      have h2:(i:Int) < n1:=by rename_i h2; exact of_decide_eq_true h2
                      refine back1 (i + 1) _ (by omega) (by omega) (ai (by decide) ?_ ?_ ?_ ?_)<;>simp [LX,I,B,D,hw3,i9,hl,bW,aN,aI,hgs,hrow0]
                    · have h1:=of_decide_eq_false h
                      have:i=aW n1 (p + m0) (bL G g):=by omega
                      rw [← this]
                      refine cZ () trivial ?_
                      refine ai (by decide) ?_ ?_ ?_ ?_<;>simp [LX,I,B,D,hl,bW,aN,aI,hgs,hrow0]
                    · have h1:=of_decide_eq_false h
                      have:i=aW n1 (p + m0) (bL G g):=by omega
                      rw [← this]
                      refine cZ () trivial ?_
                      refine ai (by decide) ?_ ?_ ?_ ?_<;>simp [LX,I,B,D,hl,bW,aN,aI,hgs,hrow0]
                  · try simp only [I,B,D,RX,↓ KW,Nat.reduceBEq,Nat.reduceAdd,Nat.reduceLeDiff,Int.reduceNe,Int.reduceBEq,Int.reduceEq,reduceCtorEq,Nat.reduceMul,Int.reduceLT,Int.reduceLE,Int.reduceToNat,hl,bF,bW,hlim,hgs,hrow0]
                    repeat' (((first | refine aV ?_ ?_ | refine ax ?_ ?_ | refine bq ?_ ?_)<;>intro h)<;>try simp only [I,B,D,RX,↓ KW,Nat.reduceBEq,Nat.reduceAdd,Nat.reduceLeDiff,Int.reduceNe,Int.reduceBEq,Int.reduceEq,reduceCtorEq,Nat.reduceMul,Int.reduceLT,Int.reduceLE,Int.reduceToNat,aN,aI,hlim,hl,hgs,hp1,hrow0,h])
                    · have h1:=of_decide_eq_true h
                      refine ⟨by decide,by omega,by decide,?_⟩
                      have h2:(i:Int) < n1:=by rename_i h2; exact of_decide_eq_true h2
                      refine back1 (i + 1) _ (by omega) (by omega) (ai (by decide) ?_ ?_ ?_ ?_)<;>simp [LX,I,B,D,hw3,i9,hl,bW,aN,aI,hgs,hrow0]
                    · have h1:=of_decide_eq_false h
                      have:i=aW n1 (p + m0) (bL G g):=by omega
                      rw [← this]
                      refine cZ () trivial ?_
                      refine ai (by decide) ?_ ?_ ?_ ?_<;>simp [LX,I,B,D,hl,bW,aN,aI,hgs,hrow0]
                    · have h1:=of_decide_eq_false h
                      have:i=aW n1 (p + m0) (bL G g):=by omega
                      rw [← this]
                      refine cZ () trivial ?_
                      refine ai (by decide) ?_ ?_ ?_ ?_<;>simp [LX,I,B,D,hl,bW,aN,aI,hgs,hrow0]
                · refine ai (by decide) ?_ ?_ ?_ ?_<;>simp [LX,I,B,D,cw,bW,aN,aI,hgs,hrow0,hcn]
              · intro _ _
                try simp only [I,B,D,RX,↓ KW,Nat.reduceBEq,Nat.reduceAdd,Nat.reduceLeDiff,Int.reduceNe,Int.reduceBEq,Int.reduceEq,reduceCtorEq,Nat.reduceMul,Int.reduceLT,Int.reduceLE,Int.reduceToNat,hgs,bW,hrow0]
                refine oI ?_
                try simp only [I,B,D,RX,↓ KW,Nat.reduceBEq,Nat.reduceAdd,Nat.reduceLeDiff,Int.reduceNe,Int.reduceBEq,Int.reduceEq,reduceCtorEq,Nat.reduceMul,Int.reduceLT,Int.reduceLE,Int.reduceToNat,hgs,B9]
                refine cZ () trivial ?_
                refine ai (by decide) ?_ ?_ ?_ ?_<;>simp [LX,I,B,D,hgs,bW,aN,aI]
        · intro _ _
          have hgc:=Tb.Fq (t:={ t with groups:=bW gs }) ht.phases
          have hln:=Tb.len' (t:={ t with groups:=bW gs }) ht.phases ht.conflict ht.cV
          have hset:=Tb.Fs (t:={ t with groups:=bW gs }) ht.phases (some (gs++[⟨bW (cw p (aW n0 p (bL G g))),bW (cw (p + aW n0 p (bL G g)) (aW (cnt l g 1 (aW n0 p (bL G g))) (p + aW n0 p (bL G g)) (bL G g)))⟩]))
          simp only [hgs,bW,if_true,if_false] at hgc hln hset
          try simp only [I,B,D,RX,↓ KW,Nat.reduceBEq,Nat.reduceAdd,Nat.reduceLeDiff,Int.reduceNe,Int.reduceBEq,Int.reduceEq,reduceCtorEq,Nat.reduceMul,Int.reduceLT,Int.reduceLE,Int.reduceToNat,hgc,aN,aI,Gr.len,hgl,hgs,bW]
          try refine ⟨by omega,?_⟩
          try refine ⟨by simp [bF,hgs,eA],?_⟩
          try refine ⟨by omega,?_⟩
          simp [aI,Gr.cells,hgs] at hset
          refine back (g + 1) _ (by omega) (by omega) (ai (by decide) ?_ ?_ ?_ ?_)<;>simp [LX,I,B,D,hn2,hw,hgs,bW,aI,aN,Gr.cells,hset]
          trace_state
      · have hgG:g=G:=by have:=of_decide_eq_false h; omega
        subst hgG
        first
          | (exfalso; rw [hgs] at hgl; simp at hgl; omega)
          | exact ⟨by rw [hR],by rw [hR]⟩
  · have:({ t with groups:=none }:Tb)=t:=by cases t; simp_all
    refine ai (by decide) ?_ ?_ ?_ ?_<;>simp [LX,I,B,D,aU,bW,this]
end
end Go.Eng
namespace Go.Eng
open Go
structure Tb.Ln (t:Tb):Prop where
 phases:t.phases.length=8
 conflict:t.conflict.length=8
 cV:t.cV.length=8
theorem Tb.Ok.ln {t:Tb} (h:t.Ok):t.Ln:=⟨h.phases,h.conflict,h.cV⟩
section
variable {t:Tb} (h:t.Ln)
include h
theorem Tb.Ln.len:t.cells.length=131:=by
 simp [Tb.cells,aK Ph.len,h.phases,h.conflict,h.cV]
theorem Tb.Ln.whole:aD t.cells 0 (some 131)=some (.agg t.cells):=by
 have hl:=h.len
 rw [bh _ _ _ (by omega),List.drop_zero,← hl,List.take_length]
theorem Tb.Ln.JQ:t.cells[113]? = some (aE uM.cells t.aP):=by
 simp [Tb.cells,List.getElem?_append,aK Ph.len,h.phases,h.conflict,h.cV,List.getElem?_cons]
theorem Tb.Ln.JR:t.cells[114]? = some (aE Rl.cells t.bz):=by
 simp [Tb.cells,List.getElem?_append,aK Ph.len,h.phases,h.conflict,h.cV,List.getElem?_cons]
theorem Tb.Ln.SH:t.cells[115]? = some (aE Bs.cells t.ki):=by
 simp [Tb.cells,List.getElem?_append,aK Ph.len,h.phases,h.conflict,h.cV,List.getElem?_cons]
theorem Tb.Ln.SJ:t.cells[129]? = some (I t.o4):=by
 simp [Tb.cells,List.getElem?_append,aK Ph.len,h.phases,h.conflict,h.cV,List.getElem?_cons]
theorem Tb.Ln.nj {i:Nat} {c:Int} (hc:t.conflict[i]? = some c):t.cells[105 + i]? = some (I c):=by
 have hi:i < 8:=by have:=(List.getElem?_eq_some_iff.1 hc).1; rw [h.conflict] at this; exact this
 have e:(t.phases.flatMap Ph.cells).length=104:=by rw [aK Ph.len,h.phases]
 unfold Tb.cells
 rw [List.getElem?_append_right (by omega),e,show 105 + i - 104=i + 1 by omega,List.getElem?_cons_succ,List.getElem?_append_left (by simp [h.conflict,hi]),List.getElem?_map,hc]; rfl
def Tb.rest (t:Tb):List AV:=aE Gr.cells t.groups :: (t.conflict.map I++(aE uM.cells t.aP :: aE Rl.cells t.bz :: aE Bs.cells t.ki ::
  I t.extend :: I t.gE :: I t.start :: I t.revert :: I t.least :: (t.cV.map I++[I t.o4,I t.share])))
omit h in
theorem bH {pre post ps:List AV} {off:Nat} (hle:pre.length≤off):setCells (pre++post) off ps=pre++setCells post (off - pre.length) ps:=by
 simp only [setCells,List.take_append,List.drop_append,List.append_assoc]
 rw [List.take_of_length_le hle,List.drop_of_length_le (by omega),show off + ps.length - pre.length=off - pre.length + ps.length by omega]
 rfl
omit h in
theorem zi {pre post ps:List AV} {off:Nat} (hle:off + ps.length≤pre.length):setCells (pre++post) off ps=setCells pre off ps++post:=by
 simp only [setCells]
 rw [List.take_append_of_le_length (by omega),List.drop_append_of_le_length hle]
 simp
omit h in
theorem Gt {l:List Int} {i:Nat} {v:Int} (hi:i < l.length):setCells (l.map I) i [I v]=(l.set i v).map I:=by
 simp only [setCells,List.length_cons,List.length_nil]
 rw [List.set_eq_take_append_cons_drop,if_pos hi]
 simp [List.map_take,List.map_drop]
omit h in
theorem d9 (c:AV) (cs ps:List AV) (k:Nat):setCells (c :: cs) (k + 1) ps=c :: setCells cs k ps:=by
 simp only [setCells,List.take_succ_cons,List.cons_append,show k + 1 + ps.length=(k + ps.length) + 1 by omega,List.drop_succ_cons]
theorem Tb.Ln.HT {i:Nat} (hi:i < 8) (q:Ph):setCells t.cells (i * 13) q.cells=({ t with phases:=t.phases.set i q }:Tb).cells:=by
 obtain ⟨p,hp⟩:∃ p,t.phases[i]? = some p:=⟨_,List.getElem?_eq_getElem (by rw [h.phases]; exact hi)⟩
 exact Tb.HO hp
theorem Tb.Ln.uR {i:Nat} (hi:i < 8) (v:Int):setCells t.cells (105 + i) [I v]=({ t with conflict:=t.conflict.set i v }:Tb).cells:=by
 have e:(t.phases.flatMap Ph.cells).length=104:=by rw [aK Ph.len,h.phases]
 unfold Tb.cells
 rw [bH (by omega),e,show 105 + i - 104=i + 1 by omega,d9,zi (by simp [h.conflict]; omega),Gt (by rw [h.conflict]; exact hi)]
theorem Tb.Ln.Bd {i:Nat} (hi:i < 8) (v:Int):setCells t.cells (121 + i) [I v]=({ t with cV:=t.cV.set i v }:Tb).cells:=by
 have e:(t.phases.flatMap Ph.cells).length=104:=by rw [aK Ph.len,h.phases]
 unfold Tb.cells
 rw [bH (by omega),e,show 121 + i - 104=(i + 16) + 1 by omega,d9,bH (by simp [h.conflict]),show i + 16 - (t.conflict.map I).length=i + 8 by simp [h.conflict]]
 simp only [d9]
 rw [zi (by simp [h.cV]; omega),Gt (by rw [h.cV]; exact hi)]
theorem Tb.Ln.JS (d:Option (List uM)):setCells t.cells 113 [aE uM.cells d]=({ t with aP:=d }:Tb).cells:=by
 have e:(t.phases.flatMap Ph.cells).length=104:=by rw [aK Ph.len,h.phases]
 have e2:(t.conflict.map I).length=8:=by simp [h.conflict]
 unfold Tb.cells
 rw [bH (by omega),e,show 113 - 104=8 + 1 by omega,d9,bH (by omega),e2]
 rfl
theorem Tb.Ln.HU (d:Option (List Rl)):setCells t.cells 114 [aE Rl.cells d]=({ t with bz:=d }:Tb).cells:=by
 have e:(t.phases.flatMap Ph.cells).length=104:=by rw [aK Ph.len,h.phases]
 have e2:(t.conflict.map I).length=8:=by simp [h.conflict]
 unfold Tb.cells
 rw [bH (by omega),e,show 114 - 104=9 + 1 by omega,d9,bH (by omega),e2]
 rfl
theorem Tb.Ln.HV (d:Option (List Bs)):setCells t.cells 115 [aE Bs.cells d]=({ t with ki:=d }:Tb).cells:=by
 have e:(t.phases.flatMap Ph.cells).length=104:=by rw [aK Ph.len,h.phases]
 have e2:(t.conflict.map I).length=8:=by simp [h.conflict]
 unfold Tb.cells
 rw [bH (by omega),e,show 115 - 104=10 + 1 by omega,d9,bH (by omega),e2]
 rfl
theorem Tb.Ln.qW (v:Int):setCells t.cells 116 [I v]=({ t with extend:=v }:Tb).cells∧setCells t.cells 117 [I v]=({ t with gE:=v }:Tb).cells∧setCells t.cells 118 [I v]=({ t with start:=v }:Tb).cells ∧
  setCells t.cells 119 [I v]=({ t with revert:=v }:Tb).cells∧setCells t.cells 120 [I v]=({ t with least:=v }:Tb).cells:=by
 have e:(t.phases.flatMap Ph.cells).length=104:=by rw [aK Ph.len,h.phases]
 have e2:(t.conflict.map I).length=8:=by simp [h.conflict]
 unfold Tb.cells
 refine ⟨?_,?_,?_,?_,?_⟩
 ·rw [bH (by omega),e,show 116 - 104=11 + 1 by omega,d9,bH (by omega),e2]; rfl
 ·rw [bH (by omega),e,show 117 - 104=12 + 1 by omega,d9,bH (by omega),e2]; rfl
 ·rw [bH (by omega),e,show 118 - 104=13 + 1 by omega,d9,bH (by omega),e2]; rfl
 ·rw [bH (by omega),e,show 119 - 104=14 + 1 by omega,d9,bH (by omega),e2]; rfl
 ·rw [bH (by omega),e,show 120 - 104=15 + 1 by omega,d9,bH (by omega),e2]; rfl
theorem Tb.Ln.DC (v:Int):setCells t.cells 129 [I v]=({ t with o4:=v }:Tb).cells∧setCells t.cells 130 [I v]=({ t with share:=v }:Tb).cells:=by
 have e:(t.phases.flatMap Ph.cells).length=104:=by rw [aK Ph.len,h.phases]
 have e2:(t.conflict.map I).length=8:=by simp [h.conflict]
 have e3:(t.cV.map I).length=8:=by simp [h.cV]
 unfold Tb.cells
 refine ⟨?_,?_⟩
 ·rw [bH (by omega),e,show 129 - 104=24 + 1 by omega,d9,bH (by omega),e2]
  simp only [Nat.reduceSub,d9]
  rw [bH (by omega),e3]; rfl
 ·rw [bH (by omega),e,show 130 - 104=25 + 1 by omega,d9,bH (by omega),e2]
  simp only [Nat.reduceSub,d9]
  rw [bH (by omega),e3]; rfl
end
end Go.Eng
namespace Go.Eng
open Go
def lH:Tb:=⟨List.replicate 8 default,none,List.replicate 8 0,none,none,none,0,0,0,0,0,List.replicate 8 0,0,0⟩
theorem Mr:dV=lH.cells:=rfl
def Ca (l:Option (List Int)):Nat→List Ph
 | 0=>List.replicate 8 default
 | k + 1=>(Ca l k).set k (iN l (10 + 12 * k))
def AK:Nat→List Int
 | 0=>List.replicate 8 0
 | k + 1=>(AK k).set k 1
theorem dJ (l:Option (List Int)):∀ k,(Ca l k).length=8
 | 0=>by simp [Ca]
 | k + 1=>by simp [Ca,dJ l k]
theorem mD:∀ k,(AK k).length=8
 | 0=>by simp [AK]
 | k + 1=>by simp [AK,mD k]
def th (c:List Int) (i:Nat):Int:=c.getD i 0
def nq (t:Tb) (l:Option (List Int)) (p q:Nat):Bool:=!cz t p q && bR l (110 + 8 * p + q) 9 != 1
def ee (t:Tb) (l:Option (List Int)) (p q:Nat) (c:List Int):List Int :=
 if nq t l p q then
  let c1:=c.set p (eN (th c p) q)
  c1.set q (eN (th c1 q) p)
 else c
def gY (t:Tb) (l:Option (List Int)) (p:Nat):Nat→List Int→List Int
 | 0,c=>c
 | q + 1,c=>ee t l p q (gY t l p q c)
def d4 (t:Tb) (l:Option (List Int)):Nat→List Int
 | 0=>List.replicate 8 0
 | p + 1=>gY t l p p (d4 t l p)
theorem Cb {t:Tb} {l:Option (List Int)} {p q:Nat} {c:List Int}:(ee t l p q c).length=c.length:=by
 unfold ee; split<;>simp
theorem kq {t:Tb} {l:Option (List Int)} {p:Nat} {c:List Int}:∀ q,(gY t l p q c).length=c.length
 | 0=>rfl
 | q + 1=>by rw [gY,Cb,kq q]
theorem cK {t:Tb} {l:Option (List Int)}:∀ p,(d4 t l p).length=8
 | 0=>by simp [d4]
 | p + 1=>by rw [d4,kq,cK p]
def jD (l:Option (List Int)) (n d:Int) (j:Nat):List uM:=(List.range j).map fun (k:Nat)=>gF l (180 + 8 * (d - k)) n
def ef (t:Tb) (l:Option (List Int)) (n r:Int) (j:Nat):List Rl:=(List.range j).map fun (k:Nat)=>nW t l (260 + 16 * (r - k)) n
def Gu (l:Option (List Int)) (n i:Int):Bs :=
 let x:=dB .i64 (bR l (330 + 2 * i) 256) (bJ (bJ (1 * 2 ^ min (IntKind.u64.wrap n).toNat 64) - 1))
 ⟨if x > 1 then x else 1,bJ (1 + bR l (331 + 2 * i) 30)⟩
def nr (l:Option (List Int)) (n b:Int) (j:Nat):List Bs:=(List.range j).map fun (k:Nat)=>Gu l n (b - k)
def qa (t:Tb):Nat→Int
 | 0=>0
 | k + 1=>if oH t k > qa t k then oH t k else qa t k
def cN (l:Option (List Int)):List Gr × Nat:=aU l (eG l) (eG l)
def aX (l:Option (List Int)):Tb :=
  let n:=(cN l).2
  let t1:Tb:={ lH with groups:=some (cN l).1 }
  let q:=bR l 174 (n + 1)
  { phases:=Ca l n
    groups:=some (cN l).1
    conflict:=d4 t1 l n
    aP:=bW (jD l n (bR l 175 9) (bR l 175 9).toNat)
    bz:=bW (ef t1 l n ((bR l 176 4).tmod 3) ((bR l 176 4).tmod 3).toNat)
    ki:=bW (nr l n (bR l 177 3) (bR l 177 3).toNat)
    extend:=bR l 178 12
    gE:=bR l 179 40
    start:=bR l 180 8
    revert:=bR l 181 8
    least:=bR l 182 12
    cV:=if q < n then (AK n).set q.toNat 2 else AK n
    o4:=0
    share:=bR l 183 4 }
def bO (l:Option (List Int)):Tb :=
 { aX l with o4:=if (ef { lH with groups:=some (cN l).1 } l (cN l).2 ((bR l 176 4).tmod 3) ((bR l 176 4).tmod 3).toNat)=[] then 0 else qa (aX l) (cN l).2 }
def Table.Spec (C:bk) (f:Nat):Prop:=∀ l:Option (List Int),C.c f [aE az l] (.agg (bO l).cells) none
def iV (l:Option (List Int)) (k:Nat):Tb:={ lH with groups:=some (cN l).1,phases:=Ca l k,cV:=AK k }
def gG (l:Option (List Int)) (c:List Int):Tb:={ iV l (cN l).2 with conflict:=c }
def qX (l:Option (List Int)):Tb:={ gG l (d4 { lH with groups:=some (cN l).1 } l (cN l).2) with cV:=(aX l).cV }
def xK (l:Option (List Int)) (d:List uM):Tb:={ qX l with aP:=bW d }
def we (l:Option (List Int)) (r:List Rl):Tb:={ qX l with aP:=(aX l).aP,bz:=bW r }
def xL (l:Option (List Int)) (b:List Bs):Tb:={ qX l with aP:=(aX l).aP,bz:=(aX l).bz,ki:=bW b }
def zj (l:Option (List Int)) (w:Int):Tb:={ aX l with o4:=w }
theorem JT (p m:Nat):(cw p m).length=m:=by simp [cw]
theorem uS (l:Option (List Int)) (G:Nat):∀ g,∀ x∈(aU l G g).1,(x.a.getD []).length≤8∧(x.b.getD []).length≤8
 | 0,x,hx=>by simp [aU] at hx
 | g + 1,x,hx=>by
  simp only [aU,List.mem_append,List.mem_singleton] at hx
  rcases hx with hx|rfl
  ·exact uS l G g x hx
  ·simp only [bN,JT,aW,bL]
   omega
theorem sE (l:Option (List Int)):(cN l).2≤8:=sD _ _ _
theorem xx (l:Option (List Int)) (G:Nat):∀ g,1≤g→g≤G→G≤3→1≤(aU l G g).2
 | 0,h,_,_=>by omega
 | 1,_,h1,h3=>by
  simp only [aU,aW,bL,cnt]
  split<;>split<;>simp_all<;>omega
 | g + 2,_,h1,h3=>by
  have:=xx l G (g + 1) (by omega) (by omega) h3
  rw [aU]
  simp only
  omega
theorem pI (l:Option (List Int)):1≤eG l∧eG l≤3:=by
 have:=aH l 0 (n:=3) (by decide) (by decide)
 unfold eG; omega
theorem zk (l:Option (List Int)):1≤(cN l).2:=xx l _ _ (pI l).1 (Nat.le_refl _) (pI l).2
theorem zl {l:Option (List Int)} {t:Tb} (hg:t.groups=some (cN l).1) (h1:t.phases.length=8) (h2:t.conflict.length=8) (h3:t.cV.length=8) (h4:(t.aP.getD []).length≤1048576) (h5:(t.bz.getD []).length≤1048576) (h6:(t.ki.getD []).length≤1048576):t.Ok:=by
 refine ⟨h1,h2,h3,?_,?_,h4,h5,h6⟩
 ·rw [hg]; simp only [Option.getD_some,cN,mC]; have:=pI l; omega
 ·rw [hg]; simp only [Option.getD_some]
  intro g hg'
  have:=uS _ _ _ g hg'
  omega
theorem Ft (l:Option (List Int)) (n d:Int) (j:Nat):jD l n d (j + 1)=jD l n d j++[gF l (180 + 8 * (d - j)) n]:=by simp [jD,List.range_succ]
theorem wg (l:Option (List Int)) (n d:Int) (j:Nat):(jD l n d j).length=j:=by simp [jD]
theorem DD (t:Tb) (l:Option (List Int)) (n d:Int) (j:Nat):ef t l n d (j + 1)=ef t l n d j++[nW t l (260 + 16 * (d - j)) n]:=by simp [ef,List.range_succ]
theorem tP (t:Tb) (l:Option (List Int)) (n d:Int) (j:Nat):(ef t l n d j).length=j:=by simp [ef]
theorem Fu (l:Option (List Int)) (n d:Int) (j:Nat):nr l n d (j + 1)=nr l n d j++[Gu l n (d - j)]:=by simp [nr,List.range_succ]
theorem wj (l:Option (List Int)) (n d:Int) (j:Nat):(nr l n d j).length=j:=by simp [nr]
theorem uM.len (d:uM):d.cells.length=7:=rfl
theorem Bs.len (d:Bs):d.cells.length=2:=rfl
theorem dD (l:Option (List Int)):(aX l).cV.length=8:=by
 unfold aX; simp only; split<;>simp [mD]
theorem kr (l:Option (List Int)):((aX l).aP.getD []).length≤1048576:=by
 have:=aH l 175 (n:=9) (by decide) (by decide)
 simp only [aX,bN,wg]; omega
theorem jo (l:Option (List Int)):((aX l).bz.getD []).length≤1048576:=by
 have h:=Int.tmod_lt_of_pos (bR l 176 4) (b:=3) (by decide)
 simp only [aX,bN,tP]; omega
theorem Cc (l:Option (List Int)):((aX l).ki.getD []).length≤1048576:=by
 have:=aH l 177 (n:=3) (by decide) (by decide)
 simp only [aX,bN,wj]; omega
theorem tQ (l:Option (List Int)):(bO l).Ok:=zl rfl (dJ l _) (cK _) (dD l) (kr l) (jo l) (Cc l)
section
variable {P:Program} (hm:P.follows .mixedOrders=true) {f:Nat}
include hm
theorem Table.ok {fR fP fB fF fW fD eD fr eR eB fw:Nat} (hc:aL P f=some (me fR fP fB fF fW fD eD fr eR eB fw)) (hR:rows.Spec (Pure P) fR) (hP:phase.Spec (Pure P) fP) (hB:beside.Spec (Pure P) fB) (hF:from.Spec (Pure P) fF) (hW:pF.Spec (Pure P) fW)
    (hD:qV.Spec (Pure P) fD) (hr:JP.Spec (Pure P) fr) (hw:wait.Spec (Pure P) fw):Table.Spec (Pure P) f:=by
  intro l
  refine an hm hc (by show 1≤186; decide) (aj (keep:=[0,3,8,9,12,15,18]) (i:=0) ?_)
  try simp only [I,B,D,RY,↓ KW,seval,me,Z.H,Mr]
  have ok0:lH.Ok:=⟨rfl,rfl,rfl,by simp [lH],by simp [lH],by simp [lH],by simp [lH],by simp [lH]⟩
  refine ⟨rfl,aS (hR lH l ok0 rfl) ?_⟩
  have hN:=sE l
  have hN1:=zk l
  try simp only [I,B,D,RY,↓ KW,seval]
  change aw _ _ _ (⟨[(5,_),(4,.dat (I ((cN l).2:Nat)) none),(14,_),(13,_),(3,_),(2,_),(0,_)],[(5,⟨(iV l 0).cells,[]⟩),_],_,_⟩:S)
  generalize hNe:(cN l).2=N at *
  refine kQ (.exit 0) (fun _:Unit=>(⟨[(4,.dat (I N) none),(3,.ptr 5 0),(0,.dat (aE az l) none),(2,.ptr 4 0)],[(5,⟨(iV l N).cells,[]⟩),(4,⟨lH.cells,[]⟩)],[],400⟩:S)) (fun _=>True) (fun _=>rfl) ?_ ?_
  · refine aF (fun k:Nat=>(⟨[(5,.dat (I k) none),(4,.dat (I N) none),(3,.ptr 5 0),(0,.dat (aE az l) none),(2,.ptr 4 0)],[(5,⟨(iV l k).cells,[]⟩),(4,⟨lH.cells,[]⟩)],[],400⟩:S)) (fun k=>N - k) (fun k=>k≤N) ?_ 0 (by omega) ?_
    · intro k hk A back
      have hw3:=aB (k:=k) (by omega)
      have hw2:IntKind.i64.wrap (10 + IntKind.i64.wrap (12 * (k:Int)))=10 + 12 * k:=by rw [aY (n:=12 * (k:Int)) (by omega) (by omega),aY (by omega) (by omega)]
      have ln1:(iV l k).Ln:=⟨dJ l k,rfl,mD k⟩
      have ln2:({ iV l k with phases:=(iV l k).phases.set k (iN l (10 + 12 * k)) }:Tb).Ln:=⟨by simp [dJ,iV],rfl,mD k⟩
      try simp only [I,B,D,RY,↓ KW,seval]
      refine ax (fun h=>?_) (fun h=>?_)<;>try simp only [I,B,D,RY,↓ KW,seval,h]
      · have hkN:k < N:=by have:=of_decide_eq_true h; omega
        have hlt:k < 8:=by omega
        have hs1:=ln1.HT hlt (iN l (10 + 12 * k))
        have hs2:=ln2.Bd hlt 1
        have hs3:({ ({ iV l k with phases:=(iV l k).phases.set k (iN l (10 + 12 * k)) }:Tb) with cV:=({ iV l k with phases:=(iV l k).phases.set k (iN l (10 + 12 * k)) }:Tb).cV.set k 1 }:Tb)=iV l (k + 1):=rfl
        rw [hs3] at hs2
        have hl1:=ln1.len
        have hl2:=ln2.len
        generalize ({ iV l k with phases:=(iV l k).phases.set k (iN l (10 + 12 * k)) }:Tb)=T at *
        refine af (hP _ _) ?_
        try simp only [I,B,D,RY,↓ KW,seval,hw2,hs1]
        exact ⟨by omega,Ph.len _,by omega,by omega,by omega,by refine back (k + 1) _ (by omega) (by omega) (ai (by decide) ?_ ?_ ?_ ?_)<;>simp [LX,I,B,D,hs2,hw3]⟩
      · have:k=N:=by have:=of_decide_eq_false h; omega
        subst this
        refine cZ () trivial ?_
        refine ai (by decide) ?_ ?_ ?_ ?_<;>simp [LX,I,B,D]
    · refine ai (by decide) ?_ ?_ ?_ ?_<;>simp [LX,I,B,D]
  · intro _ _
    try simp only [I,B,D,RY,↓ KW,seval]
    generalize ht1:({ lH with groups:=some (cN l).1 }:Tb)=t1 at *
    have hA:iV l N=gG l (d4 t1 l 0):=by subst hNe; rfl
    refine kQ (.exit 2) (fun _:Unit=>(⟨[(4,.dat (I N) none),(3,.ptr 5 0),(0,.dat (aE az l) none),(2,.ptr 4 0)],[(5,⟨(gG l (d4 t1 l N)).cells,[]⟩),(4,⟨lH.cells,[]⟩)],[],400⟩:S)) (fun _=>True) (fun _=>rfl) ?_ ?_
    · refine aF (fun p:Nat=>(⟨[(6,.dat (I p) none),(4,.dat (I N) none),(3,.ptr 5 0),(0,.dat (aE az l) none),(2,.ptr 4 0)],[(5,⟨(gG l (d4 t1 l p)).cells,[]⟩),(4,⟨lH.cells,[]⟩)],[],400⟩:S)) (fun p=>N - p) (fun p=>p≤N) ?_ 0 (by omega) ?_
      · intro p hp A back
        have hw3:=aB (k:=p) (by omega)
        try simp only [I,B,D,RY,↓ KW,seval]
        refine ax (fun h=>?_) (fun h=>?_)<;>try simp only [I,B,D,RY,↓ KW,seval,h]
        · have hpN:p < N:=by have:=of_decide_eq_true h; omega
          have hlt:p < 8:=by omega
          have hcl:d4 t1 l (p + 1)=gY t1 l p p (d4 t1 l p):=rfl
          have hcl8:=cK (t:=t1) (l:=l) p
          generalize d4 t1 l p=c0 at *
          refine aF (fun q:Nat=>(⟨[(7,.dat (I q) none),(6,.dat (I p) none),(4,.dat (I N) none),(3,.ptr 5 0),(0,.dat (aE az l) none),(2,.ptr 4 0)],[(5,⟨(gG l (gY t1 l p q c0)).cells,[]⟩),(4,⟨lH.cells,[]⟩)],[],400⟩:S)) (fun q=>p - q) (fun q=>q≤p) ?_ 0 (by omega) ?_
          · intro q hq A2 back2
            have hw4:=aB (k:=q) (by omega)
            have hst:gY t1 l p (q + 1) c0=ee t1 l p q (gY t1 l p q c0):=rfl
            have hc8:(gY t1 l p q c0).length=8:=by rw [kq,hcl8]
            generalize hce:gY t1 l p q c0=c at *
            have okB:(gG l c).Ok:=zl rfl (dJ l _) hc8 (mD _) (by simp [gG,iV,lH]) (by simp [gG,iV,lH]) (by simp [gG,iV,lH])
            have hwh:=okB.ln.whole
            have hln:=okB.ln.len
            have hbs:cz (gG l c) p q=cz t1 p q:=by subst ht1; rfl
            have hix:IntKind.i64.wrap (IntKind.i64.wrap (110 + IntKind.i64.wrap (8 * (p:Int))) + q)=110 + 8 * p + q:=by
              rw [aY (n:=8 * (p:Int)) (by omega) (by omega),aY (n:=110 + 8 * (p:Int)) (by omega) (by omega),aY (by omega) (by omega)]
            try simp only [I,B,D,RY,↓ KW,seval]
            refine ax (fun h2=>?_) (fun h2=>?_)<;>try simp only [I,B,D,RY,↓ KW,seval,hwh,h2]
            · have hq8:q < p:=by have:=of_decide_eq_true h2; omega
              refine af (hB _ _ _ okB) ?_
              try simp only [I,B,D,RY,↓ KW,seval,hbs]
              repeat' (first | (refine af (hF _ _ _ (by decide)) ?_; try simp only [I,B,D,RY,↓ KW,seval,hix]) | (((first | refine aV ?_ ?_ | refine ax ?_ ?_ | refine bq ?_ ?_)<;>intro h)<;>try simp only [I,B,D,RY,↓ KW,seval,hix,h]))
              · have hb:cz t1 p q=false:=by simp_all
                have hcc:nq t1 l p q=true:=by simp only [nq,hb]; simpa using h
                have hcs:ee t1 l p q c=(c.set p (eN (th c p) q)).set q (eN (th (c.set p (eN (th c p) q)) q) p):=by simp only [ee,hcc,if_true]
                have g1:c[p]? = some (th c p):=by simp [th,show p < c.length by omega]
                have g2:(c.set p (eN (th c p) q))[q]? = some (th (c.set p (eN (th c p) q)) q):=by simp [th,show q < c.length by omega]
                have ln2:(gG l (c.set p (eN (th c p) q))).Ln:=⟨dJ l _,by simp [gG,hc8],mD _⟩
                have l1:=okB.ln.nj (t:=gG l c) g1
                have l2:=ln2.nj g2
                have hs1:setCells (gG l c).cells (105 + p) [I (eN (th c p) q)]=(gG l (c.set p (eN (th c p) q))).cells:=okB.ln.uR hlt _
                have hs2:setCells (gG l (c.set p (eN (th c p) q))).cells (105 + q) [I (eN (th (c.set p (eN (th c p) q)) q) p)]=(gG l (ee t1 l p q c)).cells:=by rw [hcs]; exact ln2.uR (by omega) _
                have hln2:=ln2.len
                rw [← hst] at hs2
                simp only [I] at hs1 hs2
                generalize th (c.set p (eN (th c p) q)) q=v2 at *
                generalize th c p=v1 at *
                generalize c.set p (eN v1 q)=c2 at *
                refine ⟨by omega,?_⟩
                try simp only [I,B,D,RY,↓ KW,seval,l1]
                refine af (hW _ _) ?_
                try simp only [I,B,D,RY,↓ KW,seval,hs1]
                refine ⟨by omega,by omega,by omega,?_⟩
                try simp only [I,B,D,RY,↓ KW,seval,l2,hs1]
                refine af (hW _ _) ?_
                try simp only [I,B,D,RY,↓ KW,seval,hs1,hs2]
                exact ⟨by omega,by omega,by refine back2 (q + 1) _ (by omega) (by omega) (ai (by decide) ?_ ?_ ?_ ?_)<;>simp [LX,I,B,D,hw4]⟩
              · have hcs:ee t1 l p q c=c:=by
                  have hcc:nq t1 l p q=false:=by simp only [nq]; simp_all
                  simp [ee,hcc]
                refine back2 (q + 1) _ (by omega) (by omega) (ai (by decide) ?_ ?_ ?_ ?_)<;>simp [LX,I,B,D,hst,hcs,hw4]
              · have hcs:ee t1 l p q c=c:=by
                  have hcc:nq t1 l p q=false:=by simp only [nq]; simp_all
                  simp [ee,hcc]
                refine back2 (q + 1) _ (by omega) (by omega) (ai (by decide) ?_ ?_ ?_ ?_)<;>simp [LX,I,B,D,hst,hcs,hw4]
            · have:q=p:=by have:=of_decide_eq_false h2; omega
              subst this
              refine back (q + 1) _ (by omega) (by omega) (ai (by decide) ?_ ?_ ?_ ?_)<;>simp [LX,I,B,D,hcl,hce,hw3]
          · refine ai (by decide) ?_ ?_ ?_ ?_<;>simp [LX,I,B,D,gY]
        · have:p=N:=by have:=of_decide_eq_false h; omega
          subst this
          refine cZ () trivial ?_
          refine ai (by decide) ?_ ?_ ?_ ?_<;>simp [LX,I,B,D]
      · refine ai (by decide) ?_ ?_ ?_ ?_<;>simp [LX,I,B,D,hA]
    · intro _ _
      have hn1:IntKind.i64.wrap ((N:Int) + 1)=N + 1:=aB (by omega)
      have hq:=aH l 174 (n:=(N:Int) + 1) (by omega) (by omega)
      have okB:(gG l (d4 t1 l N)).Ok:=zl rfl (dJ l _) (cK _) (mD _) (by simp [gG,iV,lH]) (by simp [gG,iV,lH]) (by simp [gG,iV,lH])
      have hln:=okB.ln.len
      have hpre:(aX l).cV=if bR l 174 (N + 1) < N then (AK N).set (bR l 174 (N + 1)).toNat 2 else AK N:=by subst hNe; rfl
      have hC:qX l={ gG l (d4 t1 l N) with cV:=(aX l).cV }:=by subst hNe; subst ht1; rfl
      have hfB:(gG l (d4 t1 l N)).cV=AK N:=by subst hNe; rfl
      rw [Jw]
      refine kQ .normal (fun _:Unit=>(⟨[(4,.dat (I N) none),(3,.ptr 5 0),(0,.dat (aE az l) none),(2,.ptr 4 0)],[(5,⟨(qX l).cells,[]⟩),(4,⟨lH.cells,[]⟩)],[],400⟩:S)) (fun _=>True) (fun _=>rfl) ?_ ?_
      · try simp only [I,B,D,RY,↓ KW,seval]
        refine af (hF _ _ _ (by omega)) ?_
        rw [hn1]
        generalize bR l 174 (N + 1)=q at *
        try simp only [I,B,D,RY,↓ KW,seval]
        refine ax (fun h=>?_) (fun h=>?_)<;>try simp only [I,B,D,RY,↓ KW,seval,h]
        · have hqN:q < N:=of_decide_eq_true h
          rw [if_pos hqN] at hpre
          have hs1:=okB.ln.Bd (i:=q.toNat) (by omega) 2
          have e:({ gG l (d4 t1 l N) with cV:=(gG l (d4 t1 l N)).cV.set q.toNat 2 }:Tb)=qX l:=by rw [hC,hfB,hpre]
          rw [e] at hs1
          simp only [I] at hs1
          refine ⟨by omega,by omega,?_⟩
          refine cZ () trivial ?_
          refine ai (by decide) ?_ ?_ ?_ ?_<;>simp [LX,I,B,D,hs1]
        · have hqN:¬ q < N:=of_decide_eq_false h
          rw [if_neg hqN] at hpre
          have e:gG l (d4 t1 l N)=qX l:=by rw [hC,hpre,← hfB]
          refine cZ () trivial ?_
          refine ai (by decide) ?_ ?_ ?_ ?_<;>simp [LX,I,B,D,e]
      · intro _ _
        have hd:=aH l 175 (n:=9) (by decide) (by decide)
        have hD0:qX l=xK l []:=rfl
        have hDe:xK l (jD l N (bR l 175 9) (bR l 175 9).toNat)=we l []:=by subst hNe; rfl
        try simp only [I,B,D,RY,↓ KW,seval]
        refine af (hF _ _ _ (by decide)) ?_
        generalize bR l 175 9=d at *
        try simp only [I,B,D,RY,↓ KW,seval]
        refine kQ (.exit 6) (fun _:Unit=>(⟨[(4,.dat (I N) none),(3,.ptr 5 0),(0,.dat (aE az l) none),(2,.ptr 4 0)],[(5,⟨(xK l (jD l N d d.toNat)).cells,[]⟩),(4,⟨lH.cells,[]⟩)],[],400⟩:S)) (fun _=>True) (fun _=>rfl) ?_ ?_
        · refine aF (fun j:Nat=>(⟨[(9,.dat (I (d - j)) none),(4,.dat (I N) none),(3,.ptr 5 0),(0,.dat (aE az l) none),(2,.ptr 4 0)],[(5,⟨(xK l (jD l N d j)).cells,if jD l N d j=[] then [] else [(113,0)]⟩),(4,⟨lH.cells,[]⟩)],bF (jD l N d j) 0 eD,400⟩:S)) (fun j=>d.toNat - j) (fun j=>j≤d.toNat) ?_ 0 (by omega) ?_
          · intro j hj A back
            have hw3:IntKind.i64.wrap (d - j - 1)=d - ((j + 1:Nat):Int):=by rw [aY (by omega) (by omega)]; omega
            have hix:IntKind.i64.wrap (180 + IntKind.i64.wrap (8 * (d - (j:Int))))=180 + 8 * (d - j):=by rw [aY (n:=8 * (d - (j:Int))) (by omega) (by omega),aY (by omega) (by omega)]
            have hnext:=Ft  l N d j
            have hlen:(jD l N d j).length=j:=wg ..
            generalize hL:jD l N d j=L at *
            generalize hx:gF l (180 + 8 * (d - j)) N=x at *
            have AS:(xK l L).Ok:=zl rfl (dJ l _) (cK _) (dD l) (by simp [xK,qX,gG,iV,lH,bN,kr]; try omega) (by simp [xK,qX,gG,iV,lH,bN,jo]; try omega) (by simp [xK,qX,gG,iV,lH,bN]; try omega)
            have ln:=AS.ln
            have hln:=ln.len
            have hwh:=ln.whole
            have hat:=ln.JQ
            have hset:setCells (xK l L).cells 113 [aE uM.cells (some (L++[x]))]=(xK l (L++[x])).cells:=by rw [ln.JS (some (L++[x]))]; simp [xK,bW]
            have hatr:(xK l L).aP=bW L:=rfl
            rw [hatr] at hat
            simp only [aI,List.map_append,List.map_cons,List.map_nil] at hset
            cases L with
            | nil =>
              simp only [List.map_nil,List.nil_append,bW,if_true,aN] at hset hat hnext
              try simp only [I,B,D,RY,↓ KW,seval,bW,bF]
              refine ax (fun h=>?_) (fun h=>?_)<;>try simp only [I,B,D,RY,↓ KW,seval,hat,hwh,h]
              · have hj1:(0:Int) < d - j:=of_decide_eq_true h
                refine af (hD _ _ _ (by omega)) ?_
                try simp only [I,B,D,RY,↓ KW,seval,hix,hx,uM.len]
                try simp only [I,B,D,RY,↓ KW,seval,hset]
                refine ⟨by omega,?_⟩
                refine back (j + 1) _ (by omega) (by omega) (ai (by decide) ?_ ?_ ?_ ?_)<;>simp [LX,I,B,D,hnext,hw3,bW]
              · have hj1:¬ (0:Int) < d - j:=of_decide_eq_false h
                have:j=d.toNat:=by omega
                rw [← this,hL]
                refine cZ () trivial ?_
                refine ai (by decide) ?_ ?_ ?_ ?_<;>simp [LX,I,B,D,bW]
            | cons y ys =>
              simp only [bW,reduceCtorEq,if_false,aI] at hset hat hnext
              try simp only [I,B,D,RY,↓ KW,seval,bW,bF]
              refine ax (fun h=>?_) (fun h=>?_)<;>try simp only [I,B,D,RY,↓ KW,seval,hat,hwh,h]
              · have hj1:(0:Int) < d - j:=of_decide_eq_true h
                refine af (hD _ _ _ (by omega)) ?_
                try simp only [I,B,D,RY,↓ KW,seval,hix,hx,uM.len]
                try simp only [I,B,D,RY,↓ KW,seval,hset,uM.len]
                refine ⟨by simp at hlen ⊢; omega,by omega,?_⟩
                refine back (j + 1) _ (by omega) (by omega) (ai (by decide) ?_ ?_ ?_ ?_)<;>simp [LX,I,B,D,hnext,hw3,bW]
              · have hj1:¬ (0:Int) < d - j:=of_decide_eq_false h
                have:j=d.toNat:=by omega
                rw [← this,hL]
                refine cZ () trivial ?_
                refine ai (by decide) ?_ ?_ ?_ ?_<;>simp [LX,I,B,D,bW]
          · refine ai (by decide) ?_ ?_ ?_ ?_<;>simp [LX,I,B,D,hD0,jD,bW]
        · intro _ _
          have hr4:=aH l 176 (n:=4) (by decide) (by decide)
          have hr3:=Int.tmod_lt_of_pos (bR l 176 4) (b:=3) (by decide)
          have hr0:=Int.tmod_nonneg 3 hr4.1
          have hEe:we l (ef t1 l N ((bR l 176 4).tmod 3) ((bR l 176 4).tmod 3).toNat)=xL l []:=by subst hNe; subst ht1; rfl
          have hRl:(aX l).bz=bW (ef t1 l N ((bR l 176 4).tmod 3) ((bR l 176 4).tmod 3).toNat):=by subst hNe; subst ht1; rfl
          have hTab:bO l=zj l (if ef t1 l N ((bR l 176 4).tmod 3) ((bR l 176 4).tmod 3).toNat=[] then 0 else qa (aX l) N):=by subst hNe; subst ht1; rfl
          try simp only [I,B,D,RY,↓ KW,seval]
          refine af (hF _ _ _ (by decide)) ?_
          try simp only [I,B,D,RY,↓ KW,seval]
          generalize (bR l 176 4).tmod 3=r at *
          refine kQ (.exit 8) (fun _:Unit=>(⟨[(4,.dat (I N) none),(3,.ptr 5 0),(0,.dat (aE az l) none),(2,.ptr 4 0)],[(5,⟨(we l (ef t1 l N r r.toNat)).cells,[]⟩),(4,⟨lH.cells,[]⟩)],[],400⟩:S)) (fun _=>True) (fun _=>rfl) ?_ ?_
          · refine aF (fun j:Nat=>(⟨[(10,.dat (I (r - j)) none),(4,.dat (I N) none),(3,.ptr 5 0),(0,.dat (aE az l) none),(2,.ptr 4 0)],[(5,⟨(we l (ef t1 l N r j)).cells,if ef t1 l N r j=[] then [] else [(114,0)]⟩),(4,⟨lH.cells,[]⟩)],bF (ef t1 l N r j) 0 eR,400⟩:S)) (fun j=>r.toNat - j) (fun j=>j≤r.toNat) ?_ 0 (by omega) ?_
            · intro j hj A back
              have hw3:IntKind.i64.wrap (r - j - 1)=r - ((j + 1:Nat):Int):=by rw [aY (by omega) (by omega)]; omega
              have hix:IntKind.i64.wrap (260 + IntKind.i64.wrap (16 * (r - (j:Int))))=260 + 16 * (r - j):=by rw [aY (n:=16 * (r - (j:Int))) (by omega) (by omega),aY (by omega) (by omega)]
              have hro:∀ L',nW (we l L') l (260 + 16 * (r - j)) N=nW t1 l (260 + 16 * (r - j)) N:=fun _=>by subst ht1; rfl
              have hnext:=DD  t1 l N r j
              have hlen:(ef t1 l N r j).length=j:=tP ..
              generalize hL:ef t1 l N r j=L at *
              generalize hx:nW t1 l (260 + 16 * (r - j)) N=x at *
              have AS:(we l L).Ok:=zl rfl (dJ l _) (cK _) (dD l) (by simp [we,qX,gG,iV,lH,bN,kr]; try omega) (by simp [we,qX,gG,iV,lH,bN,jo]; try omega) (by simp [we,qX,gG,iV,lH,bN]; try omega)
              have ln:=AS.ln
              have hln:=ln.len
              have hwh:=ln.whole
              have hat:=ln.JR
              have hset:setCells (we l L).cells 114 [aE Rl.cells (some (L++[x]))]=(we l (L++[x])).cells:=by rw [ln.HU (some (L++[x]))]; simp [we,bW]
              have hatr:(we l L).bz=bW L:=rfl
              rw [hatr] at hat
              simp only [aI,List.map_append,List.map_cons,List.map_nil] at hset
              cases L with
              | nil =>
                simp only [List.map_nil,List.nil_append,bW,if_true,aN] at hset hat hnext
                try simp only [I,B,D,RY,↓ KW,seval,bW,bF]
                refine ax (fun h=>?_) (fun h=>?_)<;>try simp only [I,B,D,RY,↓ KW,seval,hat,hwh,h]
                · have hj1:(0:Int) < r - j:=of_decide_eq_true h
                  refine af (hr _ _ _ _ AS (by omega) (by omega)) ?_
                  try simp only [I,B,D,RY,↓ KW,seval,hix,hro,hx,Rl.len]
                  try simp only [I,B,D,RY,↓ KW,seval,hset]
                  refine ⟨by omega,?_⟩
                  refine back (j + 1) _ (by omega) (by omega) (ai (by decide) ?_ ?_ ?_ ?_)<;>simp [LX,I,B,D,hnext,hw3,bW]
                · have hj1:¬ (0:Int) < r - j:=of_decide_eq_false h
                  have:j=r.toNat:=by omega
                  rw [← this,hL]
                  refine cZ () trivial ?_
                  refine ai (by decide) ?_ ?_ ?_ ?_<;>simp [LX,I,B,D,bW]
              | cons y ys =>
                simp only [bW,reduceCtorEq,if_false,aI] at hset hat hnext
                try simp only [I,B,D,RY,↓ KW,seval,bW,bF]
                refine ax (fun h=>?_) (fun h=>?_)<;>try simp only [I,B,D,RY,↓ KW,seval,hat,hwh,h]
                · have hj1:(0:Int) < r - j:=of_decide_eq_true h
                  refine af (hr _ _ _ _ AS (by omega) (by omega)) ?_
                  try simp only [I,B,D,RY,↓ KW,seval,hix,hro,hx,Rl.len]
                  try simp only [I,B,D,RY,↓ KW,seval,hset,Rl.len]
                  refine ⟨by simp at hlen ⊢; omega,by omega,?_⟩
                  refine back (j + 1) _ (by omega) (by omega) (ai (by decide) ?_ ?_ ?_ ?_)<;>simp [LX,I,B,D,hnext,hw3,bW]
                · have hj1:¬ (0:Int) < r - j:=of_decide_eq_false h
                  have:j=r.toNat:=by omega
                  rw [← this,hL]
                  refine cZ () trivial ?_
                  refine ai (by decide) ?_ ?_ ?_ ?_<;>simp [LX,I,B,D,bW]
            · refine ai (by decide) ?_ ?_ ?_ ?_<;>simp [LX,I,B,D,hDe,ef,bW]
          · intro _ _
            have hb3:=aH l 177 (n:=3) (by decide) (by decide)
            have hFe:xL l (nr l N (bR l 177 3) (bR l 177 3).toNat)={ aX l with extend:=0,gE:=0,start:=0,revert:=0,least:=0,share:=0 }:=by subst hNe; rfl
            have hu:0≤IntKind.u64.wrap (N:Int):=by rw [IntKind.wrap]; simp [IntKind.signed]; omega
            try simp only [I,B,D,RY,↓ KW,seval]
            refine af (hF _ _ _ (by decide)) ?_
            generalize bR l 177 3=b at *
            try simp only [I,B,D,RY,↓ KW,seval]
            refine kQ (.exit 10) (fun _:Unit=>(⟨[(4,.dat (I N) none),(3,.ptr 5 0),(0,.dat (aE az l) none),(2,.ptr 4 0)],[(5,⟨(xL l (nr l N b b.toNat)).cells,[]⟩),(4,⟨lH.cells,[]⟩)],[],400⟩:S)) (fun _=>True) (fun _=>rfl) ?_ ?_
            · refine aF (fun j:Nat=>(⟨[(11,.dat (I (b - j)) none),(4,.dat (I N) none),(3,.ptr 5 0),(0,.dat (aE az l) none),(2,.ptr 4 0)],[(5,⟨(xL l (nr l N b j)).cells,if nr l N b j=[] then [] else [(115,0)]⟩),(4,⟨lH.cells,[]⟩)],bF (nr l N b j) 0 eB,400⟩:S)) (fun j=>b.toNat - j) (fun j=>j≤b.toNat) ?_ 0 (by omega) ?_
              · intro j hj A back
                have hw3:IntKind.i64.wrap (b - j - 1)=b - ((j + 1:Nat):Int):=by rw [aY (by omega) (by omega)]; omega
                have hi1:IntKind.i64.wrap (330 + IntKind.i64.wrap (2 * (b - (j:Int))))=330 + 2 * (b - j):=by rw [aY (n:=2 * (b - (j:Int))) (by omega) (by omega),aY (by omega) (by omega)]
                have hi2:IntKind.i64.wrap (331 + IntKind.i64.wrap (2 * (b - (j:Int))))=331 + 2 * (b - j):=by rw [aY (n:=2 * (b - (j:Int))) (by omega) (by omega),aY (by omega) (by omega)]
                have hbx:(Gu l N (b - j)).cells=[AV.int .i64 (if dB .i64 (bR l (330 + 2 * (b - j)) 256) (IntKind.i64.wrap (IntKind.i64.wrap (1 * 2 ^ min (IntKind.u64.wrap (N:Int)).toNat IntKind.i64.bits) - 1)) > 1 then dB .i64 (bR l (330 + 2 * (b - j)) 256) (IntKind.i64.wrap (IntKind.i64.wrap (1 * 2 ^ min (IntKind.u64.wrap (N:Int)).toNat IntKind.i64.bits) - 1)) else 1),AV.int .i64 (IntKind.i64.wrap (1 + bR l (331 + 2 * (b - j)) 30))]:=rfl
                have hnext:=Fu  l N b j
                have hlen:(nr l N b j).length=j:=wj ..
                generalize hL:nr l N b j=L at *
                generalize hx:Gu l N (b - j)=x at *
                have AS:(xL l L).Ok:=zl rfl (dJ l _) (cK _) (dD l) (by simp [xL,qX,gG,iV,lH,bN,kr]; try omega) (by simp [xL,qX,gG,iV,lH,bN,jo]; try omega) (by simp [xL,qX,gG,iV,lH,bN]; try omega)
                have ln:=AS.ln
                have hln:=ln.len
                have hwh:=ln.whole
                have hat:=ln.SH
                have hset:setCells (xL l L).cells 115 [aE Bs.cells (some (L++[x]))]=(xL l (L++[x])).cells:=by rw [ln.HV (some (L++[x]))]; simp [xL,bW]
                have hatr:(xL l L).ki=bW L:=rfl
                rw [hatr] at hat
                simp only [aI,List.map_append,List.map_cons,List.map_nil] at hset
                cases L with
                | nil =>
                  simp only [List.map_nil,List.nil_append,bW,if_true,aN] at hset hat hnext
                  try simp only [I,B,D,RY,↓ KW,seval,bW,bF]
                  refine ax (fun h=>?_) (fun h=>?_)<;>try simp only [I,B,D,RY,↓ KW,seval,hat,hwh,h]
                  · have hj1:(0:Int) < b - j:=of_decide_eq_true h
                    refine af (hF _ _ _ (by decide)) ?_
                    try simp only [I,B,D,RY,↓ KW,seval,hi1]
                    refine ⟨hu,?_⟩
                    refine af (hF _ _ _ (by decide)) ?_
                    try simp only [I,B,D,RY,↓ KW,seval,hi2,hi1]
                    simp only [gt_iff_lt] at hbx ⊢
                    rw [hbx] at hset
                    try simp only [I,B,D,RY,↓ KW,seval,hset]
                    refine ⟨by omega,?_⟩
                    refine back (j + 1) _ (by omega) (by omega) (ai (by decide) ?_ ?_ ?_ ?_)<;>simp [LX,I,B,D,hnext,hw3,bW]
                  · have hj1:¬ (0:Int) < b - j:=of_decide_eq_false h
                    have:j=b.toNat:=by omega
                    rw [← this,hL]
                    refine cZ () trivial ?_
                    refine ai (by decide) ?_ ?_ ?_ ?_<;>simp [LX,I,B,D,bW]
                | cons y ys =>
                  simp only [bW,reduceCtorEq,if_false,aI] at hset hat hnext
                  try simp only [I,B,D,RY,↓ KW,seval,bW,bF]
                  refine ax (fun h=>?_) (fun h=>?_)<;>try simp only [I,B,D,RY,↓ KW,seval,hat,hwh,h]
                  · have hj1:(0:Int) < b - j:=of_decide_eq_true h
                    refine af (hF _ _ _ (by decide)) ?_
                    try simp only [I,B,D,RY,↓ KW,seval,hi1]
                    refine ⟨hu,?_⟩
                    refine af (hF _ _ _ (by decide)) ?_
                    try simp only [I,B,D,RY,↓ KW,seval,hi2,hi1]
                    simp only [gt_iff_lt] at hbx ⊢
                    rw [hbx] at hset
                    try simp only [I,B,D,RY,↓ KW,seval,hset,Bs.len]
                    refine ⟨by simp at hlen ⊢; omega,by omega,?_⟩
                    refine back (j + 1) _ (by omega) (by omega) (ai (by decide) ?_ ?_ ?_ ?_)<;>simp [LX,I,B,D,hnext,hw3,bW]
                  · have hj1:¬ (0:Int) < b - j:=of_decide_eq_false h
                    have:j=b.toNat:=by omega
                    rw [← this,hL]
                    refine cZ () trivial ?_
                    refine ai (by decide) ?_ ?_ ?_ ?_<;>simp [LX,I,B,D,bW]
              · refine ai (by decide) ?_ ?_ ?_ ?_<;>simp [LX,I,B,D,hEe,nr,bW]
            · intro _ _
              have n0:({ aX l with extend:=0,gE:=0,start:=0,revert:=0,least:=0,share:=0 }:Tb).Ln:=⟨dJ l _,cK _,dD l⟩
              have n1:({ aX l with gE:=0,start:=0,revert:=0,least:=0,share:=0 }:Tb).Ln:=⟨dJ l _,cK _,dD l⟩
              have n2:({ aX l with start:=0,revert:=0,least:=0,share:=0 }:Tb).Ln:=⟨dJ l _,cK _,dD l⟩
              have n3:({ aX l with revert:=0,least:=0,share:=0 }:Tb).Ln:=⟨dJ l _,cK _,dD l⟩
              have n4:({ aX l with least:=0,share:=0 }:Tb).Ln:=⟨dJ l _,cK _,dD l⟩
              have n5:({ aX l with share:=0 }:Tb).Ln:=⟨dJ l _,cK _,dD l⟩
              have s0:setCells ({ aX l with extend:=0,gE:=0,start:=0,revert:=0,least:=0,share:=0 }:Tb).cells 116 [AV.int .i64 (bR l 178 12)]=({ aX l with gE:=0,start:=0,revert:=0,least:=0,share:=0 }:Tb).cells:=(n0.qW (bR l 178 12)).1
              have s1:setCells ({ aX l with gE:=0,start:=0,revert:=0,least:=0,share:=0 }:Tb).cells 117 [AV.int .i64 (bR l 179 40)]=({ aX l with start:=0,revert:=0,least:=0,share:=0 }:Tb).cells:=(n1.qW (bR l 179 40)).2.1
              have s2:setCells ({ aX l with start:=0,revert:=0,least:=0,share:=0 }:Tb).cells 118 [AV.int .i64 (bR l 180 8)]=({ aX l with revert:=0,least:=0,share:=0 }:Tb).cells:=(n2.qW (bR l 180 8)).2.2.1
              have s3:setCells ({ aX l with revert:=0,least:=0,share:=0 }:Tb).cells 119 [AV.int .i64 (bR l 181 8)]=({ aX l with least:=0,share:=0 }:Tb).cells:=(n3.qW (bR l 181 8)).2.2.2.1
              have s4:setCells ({ aX l with least:=0,share:=0 }:Tb).cells 120 [AV.int .i64 (bR l 182 12)]=({ aX l with share:=0 }:Tb).cells:=(n4.qW (bR l 182 12)).2.2.2.2
              have s5:setCells ({ aX l with share:=0 }:Tb).cells 130 [AV.int .i64 (bR l 183 4)]=(aX l).cells:=(n5.DC (bR l 183 4)).2
              have k0:=n0.len
              have k1:=n1.len
              have k2:=n2.len
              have k3:=n3.len
              have k4:=n4.len
              have k5:=n5.len
              rw [hFe]
              generalize ({ aX l with extend:=0,gE:=0,start:=0,revert:=0,least:=0,share:=0 }:Tb)=T0 at *
              generalize ({ aX l with gE:=0,start:=0,revert:=0,least:=0,share:=0 }:Tb)=T1 at *
              generalize ({ aX l with start:=0,revert:=0,least:=0,share:=0 }:Tb)=T2 at *
              generalize ({ aX l with revert:=0,least:=0,share:=0 }:Tb)=T3 at *
              generalize ({ aX l with least:=0,share:=0 }:Tb)=T4 at *
              generalize ({ aX l with share:=0 }:Tb)=T5 at *
              have c0:117≤T0.cells.length:=by omega
              have c1:118≤T1.cells.length:=by omega
              have c2:119≤T2.cells.length:=by omega
              have c3:120≤T3.cells.length:=by omega
              have c4:121≤T4.cells.length:=by omega
              have c5:131≤T5.cells.length:=by omega
              try simp only [I,B,D,RY,↓ KW,seval]
              refine af (hF _ _ _ (by decide)) ?_
              try simp only [I,B,D,RY,↓ KW,seval,s0,s1,s2,s3,s4,s5,c0,c1,c2,c3,c4,c5]
              refine af (hF _ _ _ (by decide)) ?_
              try simp only [I,B,D,RY,↓ KW,seval,s0,s1,s2,s3,s4,s5,c0,c1,c2,c3,c4,c5]
              refine af (hF _ _ _ (by decide)) ?_
              try simp only [I,B,D,RY,↓ KW,seval,s0,s1,s2,s3,s4,s5,c0,c1,c2,c3,c4,c5]
              refine af (hF _ _ _ (by decide)) ?_
              try simp only [I,B,D,RY,↓ KW,seval,s0,s1,s2,s3,s4,s5,c0,c1,c2,c3,c4,c5]
              refine af (hF _ _ _ (by decide)) ?_
              try simp only [I,B,D,RY,↓ KW,seval,s0,s1,s2,s3,s4,s5,c0,c1,c2,c3,c4,c5]
              refine af (hF _ _ _ (by decide)) ?_
              try simp only [I,B,D,RY,↓ KW,seval,s0,s1,s2,s3,s4,s5,c0,c1,c2,c3,c4,c5]
              have hT:bO l=zj l (if ef t1 l N r r.toNat=[] then 0 else qa (aX l) N):=hTab
              have hW0:aX l=zj l (if ef t1 l N r r.toNat=[] then 0 else qa (aX l) 0):=by
                have:(if ef t1 l N r r.toNat=[] then (0:Int) else qa (aX l) 0)=0:=by split<;>rfl
                rw [this]; rfl
              replace hW0:=congrArg Tb.cells hW0
              generalize ef t1 l N r r.toNat=R at *
              refine kQ (.exit 12) (fun _:Unit=>(⟨[(3,.ptr 5 0),(2,.ptr 4 0)],[(5,⟨(bO l).cells,[]⟩),(4,⟨lH.cells,[]⟩)],[],400⟩:S)) (fun _=>True) (fun _=>rfl) ?_ ?_
              · refine aF (fun k:Nat=>(⟨[(12,.dat (I k) none),(4,.dat (I N) none),(3,.ptr 5 0),(2,.ptr 4 0)],[(5,⟨(zj l (if R=[] then 0 else qa (aX l) k)).cells,[]⟩),(4,⟨lH.cells,[]⟩)],[],400⟩:S)) (fun k=>N - k) (fun k=>k≤N∧(R=[]→k=0)) ?_ 0 (by simp) ?_
                · intro k ⟨hk,hR0⟩ A back
                  have hw3:=aB (k:=k) (by omega)
                  have hwt:∀ w,oH (zj l w) k=oH (aX l) k:=fun _=>rfl
                  have hnx:qa (aX l) (k + 1)=if oH (aX l) k > qa (aX l) k then oH (aX l) k else qa (aX l) k:=rfl
                  generalize hwv:(if R=[] then (0:Int) else qa (aX l) k)=wv at *
                  have okW:(zj l wv).Ok:=zl rfl (dJ l _) (cK _) (dD l) (kr l) (jo l) (by have:=aH l 177 (n:=3) (by decide) (by decide); simp only [zj,aX,bN,wj]; omega)
                  have ln:=okW.ln
                  have hln:=ln.len
                  have hwh:=ln.whole
                  have hat:=ln.JR
                  have hat2:=ln.SJ
                  have hrr:(zj l wv).bz=bW R:=hRl
                  have hww:(zj l wv).o4=wv:=rfl
                  rw [hrr] at hat
                  rw [hww] at hat2
                  have hset:setCells (zj l wv).cells 129 [AV.int .i64 (if oH (aX l) k > wv then oH (aX l) k else wv)]=(zj l (if oH (aX l) k > wv then oH (aX l) k else wv)).cells:=(ln.DC _).1
                  have hmk:=bN R
                  try simp only [I,B,D,RY,↓ KW,seval]
                  repeat' (((first | refine aV ?_ ?_ | refine ax ?_ ?_ | refine bq ?_ ?_)<;>intro h)<;>try simp only [I,B,D,RY,↓ KW,seval,hat,hmk,h])
                  · have hRl0:=of_decide_eq_true h
                    have hkN:(k:Int) < N:=by rename_i h1; exact of_decide_eq_true h1
                    have hne:R≠[]:=by intro e; rw [e] at hRl0; simp at hRl0
                    rw [if_neg hne] at hwv
                    subst hwv
                    rw [← hnx] at hset
                    try simp only [I,B,D,RY,↓ KW,seval,hat2,hwh]
                    refine af (hw _ _ okW) ?_
                    try simp only [I,B,D,RY,↓ KW,seval,hwt,← hnx,hset,gt_iff_lt]
                    refine ⟨by omega,?_⟩
                    refine back (k + 1) _ ⟨by omega,fun e=>absurd e hne⟩ (by omega) ?_
                    refine ai (by decide) ?_ ?_ ?_ ?_<;>simp [LX,I,B,D,hne,hw3]
                  · have hRl0:=of_decide_eq_false h
                    have hR0':R=[]:=List.eq_nil_of_length_eq_zero (by omega)
                    rw [if_pos hR0'] at hwv hT
                    subst hwv
                    refine cZ () trivial ?_
                    refine ai (by decide) ?_ ?_ ?_ ?_<;>simp [LX,I,B,D,hT]
                  · have hkN:k=N:=by have:=of_decide_eq_false h; omega
                    rw [← hkN,hwv] at hT
                    refine cZ () trivial ?_
                    refine ai (by decide) ?_ ?_ ?_ ?_<;>simp [LX,I,B,D,hT]
                · refine ai (by decide) ?_ ?_ ?_ ?_<;>simp [LX,I,B,D,hW0]
              · intro _ _
                have okZ:(bO l).Ok:=tQ l
                have hlz:=okZ.ln.len
                have hwz:=okZ.ln.whole
                have hl0:=ok0.ln.len
                have hsz:setCells lH.cells 0 (bO l).cells=(bO l).cells:=ep (by omega)
                try simp only [I,B,D,RY,↓ KW,seval,hwz,hlz,hl0,hsz]
end
end Go.Eng
namespace Go.Eng
open Go
def bv (s:Int):BitVec 64:=BitVec.ofInt 64 s
def tb (s:Int) (i:Nat):Bool:=(bv s).getLsbD i
theorem DE (n:Int):IntKind.i64.wrap n % 18446744073709551616=n % 18446744073709551616:=by
 simp only [IntKind.wrap,IntKind.bits,IntKind.signed]
 simp
 split<;>omega
theorem Cd (n:Int):bv (IntKind.i64.wrap n)=bv n:=by
 unfold bv
 apply BitVec.eq_of_toNat_eq
 have:=DE n
 simp only [BitVec.toNat_ofInt]
 have e:((2 ^ 64:Nat):Int)=18446744073709551616:=by decide
 rw [e,this]
theorem Ce (b:BitVec 64):bv (b.toNat:Int)=b:=by
 unfold bv
 rw [BitVec.ofInt_natCast]; simp
theorem bv_and (x y:Int):bv (dB .i64 x y)=bv x &&& bv y:=by
 simp only [dB,Cd]; exact Ce _
theorem SK (x y:Int):bv (xm .i64 x y)=bv x ||| bv y:=by
 simp only [xm,Cd]; exact Ce _
theorem HW (x y:Int):bv (bf .i64 x y)=bv x &&& ~~~(bv y):=by
 simp only [bf,Cd]; exact Ce _
theorem wrap_zero {b:BitVec 64}:IntKind.i64.wrap (b.toNat:Int)=0↔b=0:=by
 constructor
 ·intro h
  have:=DE (b.toNat:Int)
  rw [h] at this
  have h2:=b.isLt
  apply BitVec.eq_of_toNat_eq
  simp only [BitVec.toNat_zero,BitVec.ofNat_eq_ofNat] at *
  omega
 ·rintro rfl; decide
theorem and_zero {x y:Int}:dB .i64 x y=0↔∀ i,i < 64→(tb x i && tb y i)=false:=by
 rw [show dB .i64 x y=IntKind.i64.wrap ((bv x &&& bv y).toNat:Int) from rfl,wrap_zero]
 constructor
 ·intro h i hi; have:=congrArg (fun b=>b.getLsbD i) h; simpa [tb] using this
 ·intro h; apply BitVec.eq_of_getLsbD_eq; intro i hi; simpa [tb] using h i hi
theorem qY {x y:Int}:bf .i64 x y=0↔∀ i,i < 64→(tb x i && !tb y i)=false:=by
 rw [show bf .i64 x y=IntKind.i64.wrap ((bv x &&& ~~~(bv y)).toNat:Int) from rfl,wrap_zero]
 constructor
 ·intro h i hi; have:=congrArg (fun b=>b.getLsbD i) h; simpa [tb,hi] using this
 ·intro h; apply BitVec.eq_of_getLsbD_eq; intro i hi; simpa [tb,hi] using h i hi
theorem wk (x y:Int) (i:Nat):tb (dB .i64 x y) i=(tb x i && tb y i):=by simp [tb,bv_and]
theorem DG (x y:Int) (i:Nat):tb (xm .i64 x y) i=(tb x i || tb y i):=by simp [tb,SK]
theorem eE (x y:Int) (i:Nat) (h:i < 64):tb (bf .i64 x y) i=(tb x i && !tb y i):=by simp [tb,HW,h]
theorem eu (i:Nat):tb 0 i=false:=by simp [tb,bv]
theorem qZ (i:Nat):tb 255 i=decide (i < 8):=by
 have:bv 255=255#64:=rfl
 simp only [tb,this,BitVec.getLsbD_ofNat]
 by_cases h:i < 8
 ·have:i=0∨i=1∨i=2∨i=3∨i=4∨i=5∨i=6∨i=7:=by omega
  rcases this with rfl|rfl|rfl|rfl|rfl|rfl|rfl|rfl<;>decide
 ·simp only [h,decide_false,Bool.and_eq_false_imp]
  intro _
  apply Nat.testBit_lt_two_pow
  exact Nat.lt_of_lt_of_le (by decide:255 < 2 ^ 8) (Nat.pow_le_pow_right (by decide) (by omega))
theorem Fv {p:Nat} (hp:p < 8) (i:Nat):tb (2 ^ p) i=decide (i=p):=by
 have e:bv (2 ^ p)=BitVec.twoPow 64 p:=by
  have:p=0∨p=1∨p=2∨p=3∨p=4∨p=5∨p=6∨p=7:=by omega
  rcases this with rfl|rfl|rfl|rfl|rfl|rfl|rfl|rfl<;>rfl
 simp only [tb,e,BitVec.getLsbD_twoPow]
 by_cases h:i=p<;>simp [h]
 ·omega
 ·omega
theorem Cf {p:Nat} (hp:p < 8) (i:Nat):tb (oE p) i=decide (i=p):=by
 have:oE p=2 ^ p:=by simp [oE]; omega
 rw [this,Fv hp]
theorem jq {s:Int} {p:Nat} (hp:p < 8):dR s p=tb s p:=by
 have h:dR s p=!(dB .i64 s (oE p) == 0):=rfl
 rw [h]
 cases ht:tb s p with
 | true =>
  have:¬ dB .i64 s (oE p)=0:=by
   rw [and_zero]; intro h; have:=h p (by omega); rw [ht,Cf hp] at this; simp at this
  simp [this]
 | false =>
  have:dB .i64 s (oE p)=0:=by
   rw [and_zero]; intro i _
   by_cases hi:i=p
   ·subst hi; rw [ht]; rfl
   ·rw [Cf hp]; simp [hi]
  simp [this]
theorem lN {s:Int} {p:Nat} (hp:p < 8) (i:Nat):tb (cY s p) i=(tb s i && decide (i < 8) || decide (i=p)):=by
 simp only [cY,DG,wk,qZ,Cf hp]
theorem Gv (l:List Int):∀ k,k≤8→∀ i,tb (tN l k) i=(decide (i < k) && decide ((i:Int)∈l))
 | 0,_,i=>by simp [tN,eu]
 | k + 1,h,i=>by
  have ih:=Gv l k (by omega) i
  simp only [tN]
  split
  ·rename_i hk
   rw [DG,ih,Fv (by omega)]
   by_cases e:i=k
   ·subst e; simp [hk]
   ·have:(i < k + 1)↔i < k:=by omega
    simp [e,this]
  ·rename_i hk
   rw [ih]
   by_cases e:i=k
   ·subst e; simp [hk]
   ·have:(i < k + 1)↔i < k:=by omega
    simp [this]
theorem Gw (l:List Int) (i:Nat):tb (Nu l) i=(decide (i < 8) && decide ((i:Int)∈l)):=Gv l 8 (by omega) i
theorem tR (s:Int) {p:Nat} (hp:p < 64):tb s p=decide (s.fdiv (2 ^ p) % 2=1):=by
 have e:(bv s).toNat=(s % 18446744073709551616).toNat:=by
  simp only [bv,BitVec.toNat_ofInt]; rfl
 have h1:tb s p=(bv s).toNat.testBit p:=rfl
 rw [h1,e,Nat.testBit_eq_decide_div_mod_eq]
 congr 1
 have hf:s.fdiv (2 ^ p)=s / 2 ^ p:=Int.fdiv_eq_ediv_of_nonneg _ (Int.le_of_lt (Int.pow_pos (by decide)))
 rw [hf,eq_iff_iff]
 have h0:0≤s % 18446744073709551616:=Int.emod_nonneg _ (by decide)
 have hc:(((s % 18446744073709551616).toNat / 2 ^ p % 2:Nat):Int)=(s % 18446744073709551616) / 2 ^ p % 2:=by
  push_cast [Int.toNat_of_nonneg h0]; rfl
 have key:(s % 18446744073709551616) / 2 ^ p % 2=s / 2 ^ p % 2:=by
  have hpw:(18446744073709551616:Int)=2 ^ p * (2 * 2 ^ (63 - p)):=by
   rw [show (2:Int) ^ p * (2 * 2 ^ (63 - p))=2 ^ (p + (1 + (63 - p))) by rw [Int.pow_add,Int.pow_add]; rfl,show p + (1 + (63 - p))=64 by omega]; rfl
  have h2:s=s % 18446744073709551616 + 2 ^ p * (2 * 2 ^ (63 - p) * (s / 18446744073709551616)):=by
   have:=Int.emod_add_mul_ediv s 18446744073709551616
   rw [← Int.mul_assoc,← Int.mul_assoc,Int.mul_assoc (2 ^ p),← hpw]; omega
  conv=>rhs; rw [h2]
  rw [Int.add_mul_ediv_left _ _ (Int.ne_of_gt (Int.pow_pos (by decide))),Int.mul_assoc,Int.add_mul_emod_self_left]
 rw [← key,← hc]
 omega
theorem zm (x:Int):dB .i64 x 1=if tb x 0 then 1 else 0:=by
 have e:dB .i64 x 1=IntKind.i64.wrap ((bv x &&& 1#64).toNat:Int):=rfl
 have e2:bv x &&& 1#64=if tb x 0 then 1#64 else 0#64:=by
  apply BitVec.eq_of_getLsbD_eq
  intro i hi
  simp only [BitVec.getLsbD_and,BitVec.getLsbD_one]
  by_cases h:i=0
  ·subst h; cases hx:tb x 0<;>simp [tb] at hx ⊢<;>simp [hx]
  ·split<;>simp [h,BitVec.getLsbD_one]
 rw [e,e2]; split<;>decide
theorem uT {s:Int} {p:Nat} (hp:p < 8):kn s p=tb s p:=by
 have h1:tb (s.fdiv (2 ^ p)) 0=tb s p:=by
  rw [tR _ (by omega),tR _ (by omega)]
  simp
 simp only [kn,Int.toNat_natCast,zm,h1]
 have:(p:Int) < 8:=by omega
 cases tb s p<;>simp [this]
theorem uU (is:Int→Ph→Bool) (ps:List Ph):∀ k,k≤8→∀ i,tb (eF is ps k) i=(decide (i < k) && ((ps.getD i default).on && is i (ps.getD i default)))
 | 0,_,i=>by simp [eF,eu]
 | k + 1,h,i=>by
  have ih:=uU is ps k (by omega) i
  simp only [eF]
  split
  ·rename_i hk
   rw [lN (by omega),ih]
   by_cases e:i=k
   ·subst e; simpa using hk
   ·have:(i < k + 1)↔i < k:=by omega
    simp [e,this]; omega
  ·rename_i hk
   rw [ih]
   by_cases e:i=k
   ·subst e; simp at hk ⊢; exact hk
   ·have:(i < k + 1)↔i < k:=by omega
    simp [this]
theorem Gx (t:Tb) (i:Nat):tb (sB t) i=(decide (i < 8) && (aO t i).on):=by
 rw [sB,Gw]
 by_cases h:i < 8
 ·have:((i:Int)∈sV t 8)↔(aO t i).on=true:=by
   simp only [sV,List.mem_filter,List.mem_map,List.mem_range]
   exact ⟨fun h=>h.2,fun h'=>⟨⟨i,h,rfl⟩,h'⟩⟩
  simp [h,this]
 ·simp [h]
theorem Cg (t:Tb) (i:Nat):t.phases.getD i default=aO t i:=by simp [aO]
theorem iI {α:Type} {l:List α} {f:α→List AV} {n:Nat} (h:∀ k,(f k).length=n):∀ x∈l.map f,x.length=n:=by
 intro x hx; obtain ⟨k,_,rfl⟩:=List.mem_map.1 hx; exact h k
theorem nX {α:Type} {l:List α} {f:α→List AV} {i:Nat} {x:List AV} (h:(l.map f)[i]? = some x):∃ k,l[i]? = some k∧x=f k:=by
 rw [List.getElem?_map,Option.map_eq_some_iff] at h; obtain ⟨k,h1,h2⟩:=h; exact ⟨k,h1,h2.symm⟩
theorem iJ {C:bk} {g:bV} {ps wr:List Nat} {as bd:bp} {Q:Exit→S→Prop} {s:S} {gv:AV} {xs:List (List AV)} {α:Type} (hd:α→S) (I:Nat→α→Prop)
  (hit:C.i gv xs) (hg:aG s g=some gv) (hlen:∀ x∈xs,x.length=ps.length) (hgd:∀ y,aG (hd y) g=some gv)
  (round:∀ i x y,xs[i]? = some x→I i y→∀ F:S→Prop,(∀ z s,I (i + 1) z→Le s (hd z)→Eng.down F s)→aw C as (uw (aw C bd (ER wr F Q))) (ov ps x (hd y)))
  (fin:∀ y,I xs.length y→Q .normal (hd y)) (y0:α) (hI0:I 0 y0) (h0:Le s (hd y0)):aw C (.mW g ps wr as bd) Q s :=
 Md hd I hg hit hlen (.inl h0) hI0 hgd (fun i x y hx hy=>round i x y hx hy _ fun z s hz hle=>⟨hd z,.inl ⟨hle,z,rfl,hz⟩⟩) fin
end Go.Eng
