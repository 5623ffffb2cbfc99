/- The engine and the library,part 12 of 12: what the proofs of this seat need of them. -/
import Derived.Test.YthoinfdfenkgnaaGreatPk11
set_option linter.unnecessarySimpa false
set_option linter.unusedSimpArgs false
set_option linter.unusedVariables false
set_option linter.defProp false
set_option maxRecDepth 10000
set_option maxHeartbeats 4000000
namespace Go.Eng
open Go
def Fr.fm (x:Fr):Fm:=⟨x.samples.map (List.map mq),x.push,x.ask,x.lines,x.cU,x.reset⟩
theorem Fr.CU (x:Fr):x.fm.cells=x.cells:=by
 obtain ⟨s,p,a,l,st,r⟩:=x
 cases s with
 | none=>rfl
 | some s =>
  have:az Mm (some (s.map mq))=az mq (some s):=by
   simp only [az,AV.sl.injEq,List.map_map]
   rfl
  simp only [Fr.fm,Fm.cells,Fr.cells,Option.map_some,this]
theorem AB (L:List Fr):az Fr.cells (aX L)=az Fm.cells (aX (L.map Fr.fm)):=by
 unfold aX
 by_cases h:L=[]
 ·simp [h,az]
 ·have:¬ L.map Fr.fm=[]:=by simpa using h
  simp only [if_neg h,if_neg this,az,AV.sl.injEq,List.map_map]
  apply List.map_congr_left
  intro x _
  exact (Fr.CU x).symm
structure Fj (x:Fm):Prop where
 IF:(x.samples.getD []).length≤16
 ask:0≤x.ask∧x.ask≤15
 lines:0≤x.lines∧x.lines≤15
theorem L1:∀ n:Nat,n < 16→∀ j:Nat,j < 4→0≤qp .i64 (n:Int) (2 ^ j)∧qp .i64 (n:Int) (2 ^ j)≤15:=by decide +kernel
theorem No:∀ n:Nat,n < 16→∀ m:Nat,m < 16→0≤tJ .i64 (n:Int) (m:Int)∧tJ .i64 (n:Int) (m:Int)≤15:=by decide +kernel
theorem CV {x:Int} (h:0≤x∧x≤15) (j:Nat) (hj:j < 4):0≤qp .i64 x (2 ^ j)∧qp .i64 x (2 ^ j)≤15:=by
 obtain ⟨n,rfl⟩:∃ n:Nat,x=n:=⟨x.toNat,by omega⟩
 exact L1 n (by omega) j hj
theorem L2 {x y:Int} (h:0≤x∧x≤15) (g:0≤y∧y≤15):0≤tJ .i64 x y∧tJ .i64 x y≤15:=by
 obtain ⟨n,rfl⟩:∃ n:Nat,x=n:=⟨x.toNat,by omega⟩
 obtain ⟨m,rfl⟩:∃ m:Nat,y=m:=⟨y.toNat,by omega⟩
 exact No n (by omega) m (by omega)
theorem IG (j:Nat):0≤((2:Int) ^ (j % 4))∧((2:Int) ^ (j % 4))≤15:=by
 have:j % 4=0∨j % 4=1∨j % 4=2∨j % 4=3:=by omega
 rcases this with h|h|h|h<;>rw [h]<;>decide
structure Np (c:Sc):Prop where
 ask:0≤c.ask∧c.ask≤15
 lines:0≤c.lines∧c.lines≤15
theorem II {v:Nat} {c:Sc} (h:Np c):Np (dh false v c).1∧0≤(dh false v c).2.lines∧(dh false v c).2.lines≤15∧(dh false v c).2.cU=0:=by
 have h1:=h.ask
 have h2:=h.lines
 have p:=IG (dr v)
 have x1:=CV h1 (dr v % 4) (by omega)
 have x2:=CV h2 (dr v % 4) (by omega)
 rcases vO v with e|e|e|e|e|e|e|e|e|e|e|e|e|e|e|e <;>
  simp only [dh,e]<;>refine ⟨⟨?_,?_⟩,?_,?_,?_⟩<;>simp [jQ, *]
theorem CW (l:List Int):∀ i,Np (dV false l i).1∧∀ x∈(dV false l i).2,Fj x.fm
  | 0=>⟨⟨by simp [dV],by simp [dV]⟩,fun x hx=>by simp [dV] at hx⟩
  | i + 1=>by
    have ih:=CW l i
    have hok:=(qK false l i).1
    rw [dV]; split
    · obtain ⟨m1,m2,m3,m4⟩:=II (v:=C4 l i) ih.1
      have hx:=(vP (wild:=false) (v:=C4 l i) hok).1
      refine ⟨m1,?_⟩
      intro x hx'
      simp only [zw,sY,List.mem_append,List.mem_map] at hx'
      rcases hx' with hx'|⟨j,_,rfl⟩
      · exact ih.2 x hx'
      · refine ⟨?_,m1.ask,?_⟩
        · show (((aX ((dh false (C4 l i) (dV false l i).1).1.xs.take (dh false (C4 l i) (dV false l i).1).1.tu)).map (List.map mq)).getD []).length≤16
          have hxs:=hx.xs
          unfold aX
          split
          · simp
          · simp [hxs]; omega
        · simp only [jO,Fr.fm]
          split
          · exact L2 m1.lines ⟨m2,m3⟩
          · exact m1.lines
    · exact ih
theorem xl (l:List Int):∀ x∈(mM false l).map Fr.fm,Fj x:=by
 intro x hx
 obtain ⟨y,hy,rfl⟩:=List.mem_map.1 hx
 exact (CW l _).2 y hy
def AD (t:Tb) (L:List Fm) (i:Nat):Fm:={ I4 (L.getD i default) with lines:=mR t (cW t L i) (L.getD i default) }
theorem yf (t:Tb) (L:List Fm):∀ i,(cW t L i).out=(List.range i).map (AD t L)
 | 0=>rfl
 | i + 1=>by simp [cW,kP,yf t L i,List.range_succ,AD]
theorem CX (t:Tb) (L:List Fm) {i:Nat} (h:i < L.length):(eU t L).getD i default=AD t L i:=by
 simp [eU,yf,List.getD_eq_getElem?_getD,h]
theorem ta (t:Tb) (L:List Fm):(eU t L).length=L.length:=by simp [eU,yf]
section
variable {t:Tb} {L:List Fm} (hm:∀ x∈L,Fj x)
include hm
theorem Fk {i:Nat} (h:i < L.length):Fj (L.getD i default):=by
 have:L.getD i default=L[i]:=by simp [h]
 rw [this]; exact hm _ (List.getElem_mem h)
theorem Fo {i:Nat} (h:i < L.length):mc (AD t L i)=true:=by
 have m:=Fk hm h
 have hp:Can (d7 .i64 (L.getD i default).push 255):=EN EO
 have hl:0≤mR t (cW t L i) (L.getD i default)∧mR t (cW t L i) (L.getD i default)≤15:=by
  unfold mR; split
  ·simp
  ·exact m.lines
 have h1:=m.IF
 have h2:=m.ask
 unfold Can at hp
 have a1:decide ((((L.getD i default).samples.getD []).length:Int)≤16)=true:=decide_eq_true (by omega)
 have a2:vU (d7 .i64 (L.getD i default).push 255) 255=true:=by simp only [vU,Bool.and_eq_true,decide_eq_true_eq]; omega
 have a3:vU 0 255=true:=rfl
 have a4:vU (L.getD i default).ask 15=true:=by simp only [vU,Bool.and_eq_true,decide_eq_true_eq]; omega
 have a5:vU (mR t (cW t L i) (L.getD i default)) 15=true:=by simp only [vU,Bool.and_eq_true,decide_eq_true_eq]; omega
 simp only [mc,AD,I4,a1,a2,a3,a4,a5,Bool.and_true]
 exact decide_eq_true (by omega)
theorem uK {i:Nat} (h:i < L.length) (l:Int):cn ((eU t L).getD i default) l=AD t L i:=by
 rw [CX t L h,cn,Fo hm h,if_pos rfl]
theorem CY {i:Nat} (h:i < L.length):(ep (eU t L)).getD i 0=mR t (cW t L i) (L.getD i default):=by
 rw [zj _ (by rw [ta]; exact h)]
 show (cn _ _).lines=_
 rw [uK hm h]; rfl
theorem L3 {i:Nat} (h:i < L.length):qx (eU t L) i=0:=by
 unfold qx; rw [uK hm h]; rfl
theorem zz {k:Nat} (hk:k < nR t):∀ i,i≤L.length→(gI (ep (eU t L)) k i).2=(cW t L i).held k
 | 0,_=>rfl
 | i + 1,h=>by
  have ih:=zz hk i (by omega)
  simp only [gI,CY hm (show i < L.length by omega),ih,cW,kP]
  unfold mR
  split
  ·simp [iI]
  ·unfold xj; rw [if_pos hk]
omit hm in
theorem IJ (hft:uF t) (hn:nR t≤4) {k:Nat} (hk:k < nR t):∀ i,i≤L.length→(cW t L i).held k≤(uD t k).limit
 | 0,_=>hft.Is k hk
 | i + 1,h=>by
  have hl:=hft.Is k hk
  simp only [cW,kP]
  split
  ·exact hl
  ·rename_i hc
   have hc:uG t (cW t L i).left (cW t L i).held (L.getD i default).lines=false:=by simpa using hc
   rw [uG,Bool.and_eq_false_iff] at hc
   unfold xj; rw [if_pos hk]
   rcases hc with hc|hc
   ·have hc:d7 .i64 (L.getD i default).lines 15=0:=by simpa using hc
    rw [and_zero] at hc
    have:=hc k (by omega)
    rw [show (15:Int)=uE 4 from rfl,vJ 4 (by omega) k (by omega)] at this
    have:tb (L.getD i default).lines k=false:=by simpa [show k < 4 by omega] using this
    rw [this]
    simp only [if_false,Bool.false_eq_true]
    exact hl
   ·have h2:CE t (cW t L i).held (L.getD i default).lines (nR t)=false:=(Bool.or_eq_false_iff.1 hc).2
    unfold CE at h2
    rw [List.any_eq_false] at h2
    have:=h2 k (List.mem_range.2 hk)
    simp only [decide_eq_true_eq] at this
    unfold xj at this; rw [if_pos hk] at this
    omega
theorem FX (hft:uF t) (hn:nR t≤4):∀ i,i≤L.length→(ie t.aG (nR t) (ep (eU t L)) i).2≤t.share - (cW t L i).left
 | 0,_=>by simp [ie,cW]
 | i + 1,h=>by
  have ih:=FX hft hn i (by omega)
  have hg:=CY (t:=t) hm (show i < L.length by omega)
  have hnx:(ie t.aG (nR t) (ep (eU t L)) (i + 1)).2=((ie t.aG (nR t) (ep (eU t L)) i).2 + (if jf (nR t) ((ep (eU t L)).getD i 0) then 1 else 0) - (if decide ((i:Int) ≥ t.aG) && jf (nR t) ((ep (eU t L)).getD ((i:Int) - max t.aG 0).toNat 0) then 1 else 0)):=rfl
  have hle:(ie t.aG (nR t) (ep (eU t L)) (i + 1)).2≤(ie t.aG (nR t) (ep (eU t L)) i).2 + (if jf (nR t) ((ep (eU t L)).getD i 0) then 1 else 0):=by
   rw [hnx]; split<;>split<;>omega
  rw [hg] at hle
  have hlf:(cW t L (i + 1)).left=if d7 .i64 (mR t (cW t L i) (L.getD i default)) 15 != 0 then (cW t L i).left - 1 else (cW t L i).left:=rfl
  have hac:jf (nR t) (mR t (cW t L i) (L.getD i default))=true→(d7 .i64 (mR t (cW t L i) (L.getD i default)) 15 != 0)=true:=by
   intro ha
   have:=sJ (n:=4) (by omega) (mR t (cW t L i) (L.getD i default))
   rw [show uE 4=15 from rfl] at this
   rw [this]
   unfold jf at ha ⊢
   rw [List.any_eq_true] at ha ⊢
   obtain ⟨x,hx,hb⟩:=ha
   exact ⟨x,List.mem_range.2 (by have:=List.mem_range.1 hx; omega),hb⟩
  rw [hlf]
  cases ha:jf (nR t) (mR t (cW t L i) (L.getD i default))
  ·rw [ha] at hle
   simp only [if_false,Bool.false_eq_true] at hle
   split<;>omega
  ·rw [ha] at hle
   rw [if_pos (hac ha)]
   simp only [if_true] at hle
   omega
theorem AE (hft:uF t):sK t (eU t L)=true:=by
 have hn:nR t≤4:=by unfold nR; omega
 rw [xg hft]
 rw [ta]
 refine ⟨fun j hj=>L3 hm hj,fun k hk i hi=>?_,.inr fun i hi=>?_⟩
 ·rw [zz hm hk i hi]; exact IJ hft hn hk i hi
 ·have h1:=FX hm hft hn i hi
  have h2:=(CH hft.share L i).left
  omega
end
end Go.Eng
namespace Go.Eng
open Go
theorem FY (l:Option (List Int)):uF (bE l) where
 Is:=fun k hk=>by
  obtain ⟨h1,h2⟩:=Co l
  have hk2:k < ((bE l).aL.getD []).length:=by unfold nR at hk; omega
  have e:uD (bE l) k=((bE l).aL.getD [])[k]:=by simp [uD,List.getD_eq_getElem?_getD,hk2]
  have:=(h2 _ (List.getElem_mem hk2)).limit
  have h3:=(h2 _ (List.getElem_mem hk2)).M3
  rw [e]; omega
 share:=(aS l 183 (n:=4) (by decide) (by decide)).1
theorem CZ (l:Option (List Int)):(bE l).share≤1000000:=by
 have:(bE l).share < 4:=(aS l 183 (n:=4) (by decide) (by decide)).2
 omega
def oO.Spec (C:bI) (f:Nat):Prop:=∀ (l:Option (List Int)) (fr:Option (List Fm)),C.c f [az ak l,az Fm.cells fr] (B true) none
def qL.Spec (C:bI) (f:Nat):Prop:=∀ l sc:Option (List Int),C.c f [az ak l,az ak sc] (B true) none
section
variable {P:Program} (hm:P.follows .mixedOrders=true) {f:Nat}
include hm
theorem qL.ok {fT fS fM fF fA:Nat} (hc:bU P f=some (eo fT fS fM fF fA)) (hT:Table.Spec (Pure P) fT) (hS:sZ.Spec (Pure P) fS) (hM:sN.Spec (Pure P) fM) (hF:pL.Spec (Pure P) fF) (hA:mL.Spec (Pure P) fA):qL.Spec (Pure P) f:=by
 intro l sc
 have ht:=nI l
 have hft:=FY l
 have hsl:=CZ l
 have hr:=(Co l).1
 have hl:=Tb.len ht
 have hp:=Tb.whole ht
 have z1:bq.length=131:=rfl
 have z2:setCells bq 0 (bE l).cells=(bE l).cells:=gA (by rw [hl]; rfl)
 have cT:=hT l
 have cS:=hS sc false
 rw [AB] at cS
 have hml:=xl (sc.getD [])
 have hsn:((mM false (sc.getD [])).map Fr.fm).length≤1500:=by rw [List.length_map]; exact (qK false _ _).2
 obtain ⟨L,hL⟩:∃ L,(mM false (sc.getD [])).map Fr.fm=L:=⟨_,rfl⟩
 rw [hL] at cS hml hsn
 have cM:=hM (bE l) (aX L) ht (by omega) hft.share hsl (by rw [jx]; omega)
 have cF:=hF (bE l) (aX (eU (bE l) L)) ht (by rw [jx,ta]; omega)
 rw [jx] at cM cF
 rw [AE hml hft] at cF
 generalize bE l=t at *
 generalize eU t L=T at *
 refine aD hm hc (by show 2≤17; decide) (aC (keep:=[]) (i:=0) ?_)
 try simp only [I,B,D,RY,↓ KW,seval,eo,Z.H,hl,hp,z1,z2]
 refine aj cT ?_
 try simp only [I,B,D,RY,↓ KW,seval,hl,hp,z1,z2]
 refine aj cS ?_
 try simp only [I,B,D,RY,↓ KW,seval,hl,hp,z1,z2]
 refine aj cM ?_
 try simp only [I,B,D,RY,↓ KW,seval,hl,hp,z1,z2]
 refine aj cF ?_
 try simp only [I,B,D,RY,↓ KW,seval,hl,hp,z1,z2]
 refine aj hA ?_
 try simp only [I,B,D,RY,↓ KW,seval,hl,hp,z1,z2]
theorem oO.ok {fA fG fR fT fF fRF:Nat} (hc:bU P f=some (dM fA fG fR fT fF fRF)) (hA:mL.Spec (Pure P) fA) (hG:jg.Spec (Pure P) fG) (hR:jg.Spec (Pure P) fR) (hT:Table.Spec (Pure P) fT) (hF:pL.Spec (Pure P) fF) (hRF:sL.Spec (Pure P) fRF):oO.Spec (Pure P) f:=by
 intro l fr
 have ht:=nI l
 have hft:=FY l
 have hl:=Tb.len ht
 have hp:=Tb.whole ht
 have z1:bq.length=131:=rfl
 have z2:setCells bq 0 (bE l).cells=(bE l).cells:=gA (by rw [hl]; rfl)
 have cT:=hT l
 generalize bE l=t at *
 have hf0:∀ x:Fm,x.cells[0]? = some (az Mm x.samples):=fun _=>rfl
 have hfl:∀ x:Fm,x.cells.length=6:=fun _=>rfl
 have hfw:∀ x:Fm,aU x.cells 0 (some 6)=some (.agg x.cells):=fun _=>rfl
 obtain ⟨L,hL⟩:∃ L,L=fr.getD []:=⟨_,rfl⟩
 refine aD hm hc (by show 2≤48; decide) (aC (keep:=[]) (i:=0) ?_)
 try simp only [I,B,D,RY,↓ KW,seval,dM,Z.H,← hL,hl,hp,z1,z2,hf0,hfl,hfw]
 rcases bf (decide (60 < (L.length:Int))) with h|h
 rotate_left
 ·try simp only [I,B,D,RY,↓ KW,seval,h,hl,hp,z1,z2,hf0,hfl,hfw]
  refine aj hA ?_
  try simp only [I,B,D,RY,↓ KW,seval,hl,hp,z1,z2,hf0,hfl,hfw]
 have hL60:L.length≤60:=by have:=of_decide_eq_false h; omega
 have cF:=hF t fr ht (by rw [← hL]; omega)
 have cR:=hRF t fr ht hft (by rw [← hL]; omega)
 rw [← hL] at cF cR
 try simp only [I,B,D,RY,↓ KW,seval,h,hl,hp,z1,z2,hf0,hfl,hfw]
 refine aF (fun i:Nat=>(⟨[(5,.dat (I i) none),(1,.dat (az Fm.cells fr) none),(0,.dat (az ak l) none)],[],[],400⟩:S)) (fun i=>100 - i) (fun i=>i≤L.length) ?_ 0 (by omega) ?_
 rotate_left
 ·refine ai (by decide) ?_ ?_ ?_ ?_<;>simp [LX,I,B,D]
 intro i hi A back
 have hwr:=aB (k:=i) (by omega)
 rcases bf (decide ((i:Int) < (L.length:Int))) with h2|h2
 ·try simp only [I,B,D,RY,↓ KW,seval,h2,← hL,hl,hp,z1,z2,hf0,hfl,hfw]
  refine aj cT ?_
  try simp only [I,B,D,RY,↓ KW,seval,hl,hp,z1,z2,hf0,hfl,hfw]
  refine aj cF ?_
  try simp only [I,B,D,RY,↓ KW,seval,hl,hp,z1,z2,hf0,hfl,hfw]
  refine aj cR ?_
  try simp only [I,B,D,RY,↓ KW,seval,beq_self_eq_true,hl,hp,z1,z2,hf0,hfl,hfw]
  refine aj hA ?_
  try simp only [I,B,D,RY,↓ KW,seval,hl,hp,z1,z2,hf0,hfl,hfw]
 ·have h1:i < L.length:=by have:=of_decide_eq_true h2; omega
  obtain ⟨d,hd⟩:∃ d,L[i]? = some d:=⟨L[i],by simp [h1]⟩
  have hb:0≤(i:Int)∧(i:Int) < (L.length:Int):=by omega
  try simp only [I,B,D,RY,↓ KW,seval,h2,hb,hd,← hL,hl,hp,z1,z2,hf0,hfl,hfw]
  rcases bf (decide (20 < ((d.samples.getD []).length:Int))) with h3|h3
  ·try simp only [I,B,D,RY,↓ KW,seval,h3,hb,hd,← hL,hl,hp,z1,z2,hf0,hfl,hfw]
   refine aj (hG d) ?_
   try simp only [I,B,D,RY,↓ KW,seval,hb,hd,← hL,hl,hp,z1,z2,hf0,hfl,hfw]
   refine aj (hR d) ?_
   try simp only [I,B,D,RY,↓ KW,seval,bne_self_eq_false,hl,hp,z1,z2,hf0,hfl,hfw]
   refine back (i + 1) _ (by omega) (by omega) ?_
   refine ai (by decide) ?_ ?_ ?_ ?_<;>simp [LX,I,B,D,hwr]
  ·try simp only [I,B,D,RY,↓ KW,seval,h3,hl,hp,z1,z2,hf0,hfl,hfw]
   refine aj hA ?_
   try simp only [I,B,D,RY,↓ KW,seval,hl,hp,z1,z2,hf0,hfl,hfw]
end
end Go.Eng
namespace Go.Eng
open Go
def Al {α β:Type} (R:α→β→Prop):List α→List β→Prop
 | [],[]=>True
 | a :: l,b :: m=>R a b∧Al R l m
 | _,_=>False
theorem Al.len {α β:Type} {R:α→β→Prop}:∀ {l:List α} {m:List β},Al R l m→l.length=m.length
 | [],[],_=>rfl
 | a :: l,b :: m,h=>by simp [Al.len h.2]
 | [],b :: m,h=>h.elim
 | a :: l,[],h=>h.elim
theorem Al.get {α β:Type} {R:α→β→Prop}:∀ {l:List α} {m:List β},Al R l m→∀ (i:Nat) (a:α) (b:β),l[i]? = some a→m[i]? = some b→R a b
 | a :: l,b :: m,h,0,x,y,hx,hy=>by simp at hx hy; subst hx; subst hy; exact h.1
 | a :: l,b :: m,h,i + 1,x,y,hx,hy=>Al.get h.2 i x y (by simpa using hx) (by simpa using hy)
 | [],_,_,i,_,_,hx,_=>by simp at hx
theorem Al.mk {α β:Type} {R:α→β→Prop}:∀ {l:List α} {m:List β},l.length=m.length→(∀ (i:Nat) (a:α) (b:β),l[i]? = some a→m[i]? = some b→R a b)→Al R l m
 | [],[],_,_=>trivial
 | a :: l,b :: m,h,f=>⟨f 0 a b rfl rfl,Al.mk (by simpa using h) fun i x y hx hy=>f (i + 1) x y (by simpa using hx) (by simpa using hy)⟩
theorem Al.append {α β:Type} {R:α→β→Prop}:∀ {l:List α} {m:List β} {l':List α} {m':List β},Al R l m→Al R l' m'→Al R (l++l') (m++m')
 | [],[],_,_,_,h=>h
 | a :: l,b :: m,_,_,h,h'=>⟨h.1,Al.append h.2 h'⟩
theorem Al.n {α β:Type} {R:α→β→Prop}:Al R ([]:List α) ([]:List β):=trivial
theorem Al.c {α β:Type} {R:α→β→Prop} {a:α} {b:β} {l:List α} {m:List β} (h:R a b) (t:Al R l m):Al R (a :: l) (b :: m):=⟨h,t⟩
theorem Al.oP {α β:Type} {R:α→β→Prop} {m:List β} (h:Al R [] m):m=[]:=by
 cases m with
 | nil=>rfl
 | cons b m=>exact h.elim
theorem Al.cons_inv {α β:Type} {R:α→β→Prop} {a:α} {l:List α} {m:List β} (h:Al R (a :: l) m):∃ b m',m=b :: m'∧R a b∧Al R l m':=by
 cases m with
 | nil=>exact h.elim
 | cons b m=>exact ⟨b,m,rfl,h.1,h.2⟩
inductive Z' where
 | bool
 | int (k:IntKind)
 | Nq (k:FloatKind)
 | str
inductive Ty where
 | sc (s:Z')
 | sl (l:List Ty)
def mN (sz:TypeId→Nat) (F:TypeId→Option (List Ty)):Nat→List (Nat × TypeId)→Option (List Ty)
 | _,[]=>some []
 | o,f :: r=>if f.1=o then match F f.2 with
   | some l=>if sz f.2=l.length then match mN sz F (o + l.length) r with
    | some m=>some (l++m)
    | none=>none
    else none
   | none=>none
  else none
def yg (P:Program):Nat→TypeId→Option (List Ty)
 | 0,_=>none
 | n + 1,t=>match P.underlying t with
  | some .bool=>some [.sc .bool]
  | some (.int k)=>some [.sc (.int k)]
  | some (.float k)=>some [.sc (.Nq k)]
  | some .string=>some [.sc .str]
  | some (.slice e)=>match yg P n e with
   | some l=>if P.cellsOf e=l.length∧0 < l.length then some [.sl l] else none
   | none=>none
  | some (.struct fs)=>match mN P.cellsOf (yg P n) 0 (fs.toList.map fun f=>(f.offset,f.type)) with
   | some l=>if P.cellsOf t=l.length then some l else none
   | none=>none
  | some (.array k e)=>match mN P.cellsOf (yg P n) 0 ((List.range k).map fun i=>(i * P.cellsOf e,e)) with
   | some l=>if P.cellsOf t=l.length then some l else none
   | none=>none
  | _=>none
def L4:Z'→AV→Prop
 | .bool,.bool _=>True
 | .int k,.int k' n=>k'=k∧(Lit.int k n).wf=true
 | .Nq k,.float k' b=>k'=k∧(Lit.float k b).wf=true
 | .str,.str s=>s.size≤maxLen
 | _,_=>False
mutual
def nO:Ty→AV→Prop
 | .sc s,a=>L4 s a
 | .sl _,.aN=>True
 | .sl l,.sl xs=>xs.length≤maxLen∧∀ r∈xs,xm l r
 | _,_=>False
def xm:List Ty→List AV→Prop
 | [],[]=>True
 | t :: l,a :: r=>nO t a∧xm l r
 | _,_=>False
end
theorem vQ:∀ {l:List Ty} {as:List AV},xm l as↔Al nO l as
 | [],[]=>by simp [xm,Al]
 | t :: l,a :: r=>by simp only [xm,Al]; rw [vQ (l:=l) (as:=r)]
 | [],a :: r=>by simp [xm,Al]
 | t :: l,[]=>by simp [xm,Al]
def tc (W:World):Nat→Nat→Prop:=fun b _=>b < W.heap.size
theorem Fp {W:World} {a:Addr} {v:Value} (h:W.cell? a=some v):a.block < W.heap.size:=by
 unfold World.cell? at h
 split at h
 ·rename_i hh; exact jn hh
 ·cases h
theorem L4.scalar {s:Z'} {a:AV} (h:L4 s a):a.scalar=true:=by cases s<;>cases a<;>first | exact h.elim | rfl
theorem nO.scalar {s:Ty} {a:AV} (h:nO s a):a.scalar=true:=by
 cases s with
 | sc s=>exact L4.scalar (by simpa [nO] using h)
 | sl l=>cases a<;>first | rfl | (simp [nO] at h)
section
variable {H:Type} {enc:TypeId × Value→H} {P:Program} {W:World} {base:Nat}
open Go.ChangeShapes Go.WideShapes Go.ChangeAt Go.RowKit
theorem yh {sp:Nat→Bool} {held:Bool} {b0 fuel:Nat} {t:TypeId} {cs:List Value} {x:DataW H × List MemPlace} {k:FloatKind} (ht:P.underlying t=some (.float k)) (h:DataW.trod enc P W b0 sp held fuel t cs=some x):∃ n,cs=[.float k n]∧(Lit.float k n).wf=true:=by
 cases fuel with
 | zero=>simp [DataW.trod] at h
 | succ n =>
  unfold DataW.trod at h
  rw [ht] at h
  split at h<;>simp_all
theorem nM {sp:TypeId→Nat} {G:TypeId→Option (List Ty)} {Tr:TypeId→List Value→Prop}
  (each:∀ t l cs,G t=some l→Tr t cs→∃ as,Al nO l as∧Al (DV W (tc W)) as cs):∀ (ps:List (Nat × TypeId)) (o:Nat) (l:List Ty) (cs:List Value),mN sp G o ps=some l→cs.length=o + l.length →
   (∀ (i:Nat) (f:Nat × TypeId),ps[i]? = some f→Tr f.2 ((cs.drop f.1).take (sp f.2)))→∃ as,Al nO l as∧Al (DV W (tc W)) as (cs.drop o)
 | [],o,l,cs,h,hl,_=>by
  simp only [mN,Option.some.injEq] at h
  subst h
  refine ⟨[],trivial,?_⟩
  rw [List.drop_of_length_le (by simp at hl; omega)]; trivial
 | f :: ps,o,l,cs,h,hl,htr=>by
  simp only [mN] at h
  split at h<;>try (cases h; done)
  rename_i ho
  split at h<;>try (cases h; done)
  rename_i l1 hl1
  split at h<;>try (cases h; done)
  rename_i hsz
  split at h<;>try (cases h; done)
  rename_i m hm
  cases h
  have h0:=htr 0 f rfl
  rw [ho,hsz] at h0
  obtain ⟨as1,ht1,hd1⟩:=each f.2 l1 _ hl1 h0
  obtain ⟨as2,ht2,hd2⟩:=nM each ps (o + l1.length) m cs hm (by rw [hl]; simp; omega) (fun i g hg=>htr (i + 1) g (by simpa using hg))
  refine ⟨as1++as2,ht1.append ht2,?_⟩
  have:=hd1.append hd2
  rw [← List.drop_drop,List.take_append_drop] at this
  exact this
omit H enc P W base in
theorem yj {w:World} {b o:Nat} {sp:Option Nat} {v:Value} (h:w.cell? ⟨b,o,sp⟩=some v):sp=none:=by
 cases sp with
 | none=>rfl
 | some x=>unfold World.cell? at h; split at h<;>simp at h
theorem vR {a:Addr} {n:Nat} (h:a.spot=none):a.add n=⟨a.block,a.off + n,none⟩:=by
 obtain ⟨b,o,s⟩:=a
 simp only at h; subst h
 unfold Addr.add; split
 ·rename_i hh; subst hh; rfl
 ·rfl
theorem qM:∀ (n:Nat) (t:TypeId) (l:List Ty),yg P n t=some l→∀ (cs:List Value) (x:DataW H × List MemPlace) (fuel:Nat),
  DataW.trod enc P W 0 (fun _=>true) true fuel t cs=some x→∃ as,Al nO l as∧Al (DV W (tc W)) as cs
 | 0,t,l,h,cs,x,fuel,hx=>by cases h
 | n + 1,t,l,h,cs,x,fuel,hx=>by
  simp only [yg] at h
  split at h
  ·rename_i ht; cases h
   obtain ⟨b,rfl,_⟩:=DataW.trod_bool ht hx
   exact ⟨[.bool b],⟨by simp [nO,L4],trivial⟩,⟨.bool b,trivial⟩⟩
  ·rename_i k ht; cases h
   obtain ⟨m,rfl,_,hw⟩:=DataW.trod_int ht hx
   exact ⟨[.int k m],⟨by simp only [nO]; exact ⟨rfl,hw⟩,trivial⟩,⟨.int k m,trivial⟩⟩
  ·rename_i k ht; cases h
   obtain ⟨m,rfl,hw⟩:=yh ht hx
   exact ⟨[.float k m],⟨by simp only [nO]; exact ⟨rfl,hw⟩,trivial⟩,⟨.float k m,trivial⟩⟩
  ·rename_i ht; cases h
   obtain ⟨s,rfl,_,hw⟩:=DataW.trod_string ht hx
   exact ⟨[.str s],⟨by simp only [nO]; exact hw,trivial⟩,⟨.str s,trivial⟩⟩
  ·rename_i e ht
   split at h<;>try (cases h; done)
   rename_i le hle
   split at h<;>try (cases h; done)
   rename_i hsz
   cases h
   obtain ⟨hsz,hpos⟩:=hsz
   rcases DataW.trod_slice ht hx with ⟨rfl,_⟩|⟨a,len,cap,elems,rest,k,_,rfl,_,_,hlc,hmx,hlen,hel,hrest,_⟩
   ·exact ⟨[.aN],⟨by simp [nO],trivial⟩,⟨.aN,trivial⟩⟩
   have spotOf:∀ (y:DataW H × List MemPlace),(W.cells? 0 (a.add (0 * P.cellsOf e)) (P.cellsOf e)).bind (DataW.trod enc P W 0 (fun _=>true) true k e)=some y→a.spot=none:=by
    intro y hy
    rw [Option.bind_eq_some_iff] at hy
    obtain ⟨cs,hcs,_⟩:=hy
    obtain ⟨_,hcl,hcell⟩:=World.cells?_some hcs
    have h0:=hcell 0 (by omega)
    obtain ⟨v,hv⟩:∃ v,cs[0]? = some v:=⟨_,List.getElem?_eq_getElem (by omega)⟩
    rw [hv] at h0
    obtain ⟨b,o,sp⟩:=a
    simp only [Nat.zero_mul,Addr.add,if_true] at h0
    exact yj h0
   have hspot:cap=0∨a.spot=none:=by
    rcases Nat.eq_zero_or_pos cap with h|h
    ·exact .inl h
    right
    rcases Nat.eq_zero_or_pos len with h'|h'
    ·obtain ⟨hr1,hr2⟩:=hrest rfl
     have:=hr2 0 (by omega)
     obtain ⟨y,hy⟩:∃ y,rest[0]? = some y:=⟨_,List.getElem?_eq_getElem (by omega)⟩
     rw [hy,h',Nat.zero_add] at this
     exact spotOf y this
    ·have:=hel 0 h'
     obtain ⟨y,hy⟩:∃ y,elems[0]? = some y:=⟨_,List.getElem?_eq_getElem (by omega)⟩
     rw [hy] at this
     exact spotOf y this
   rcases hspot with rfl|hspot
   ·have:len=0:=by omega
    subst this
    exact ⟨[.sl []],⟨by simp [nO],trivial⟩,⟨.AR a,trivial⟩⟩
   have each:∀ i,i < len→∃ as cs,Al nO le as∧Al (DV W (tc W)) as cs∧∀ j,j < le.length→W.cell? ⟨a.block,a.off + i * le.length + j,none⟩=cs[j]?:=by
    intro i hi
    have he:=hel i hi
    have:elems[i]?≠none:=by simp; omega
    obtain ⟨y,hy⟩:=Option.ne_none_iff_exists'.1 this
    rw [hy,Option.bind_eq_some_iff] at he
    obtain ⟨cs,hcs,htr⟩:=he
    obtain ⟨_,hcl,hcell⟩:=World.cells?_some hcs
    obtain ⟨as,hta,hda⟩:=qM n e le hle cs y k htr
    refine ⟨as,cs,hta,hda,fun j hj=>?_⟩
    have:=hcell j (by omega)
    rw [← this,vR (a:=a.add _) (by rw [vR hspot]),vR hspot,hsz]
   obtain ⟨rows,hrl,hrt,hr⟩:∃ rows:List (List AV),rows.length=len∧(∀ r∈rows,Al nO le r)∧∀ i r,rows[i]? = some r→∃ cs,Al (DV W (tc W)) r cs∧∀ j,j < le.length→W.cell? ⟨a.block,a.off + i * le.length + j,none⟩=cs[j]?:=by
    refine ⟨(List.range len).map fun i=>if h:i < len then (each i h).choose else [],by simp,?_,?_⟩
    ·intro r hr
     obtain ⟨i,hi,rfl⟩:=List.mem_map.1 hr
     rw [List.mem_range] at hi
     rw [dif_pos hi]
     exact (each i hi).choose_spec.choose_spec.1
    ·intro i r hr
     rw [List.getElem?_map,Option.map_eq_some_iff] at hr
     obtain ⟨k,hk,rfl⟩:=hr
     have hi:=(List.getElem?_eq_some_iff.1 hk).1
     simp at hi
     rw [List.getElem?_range hi] at hk
     cases hk
     rw [dif_pos hi]
     exact ⟨_,(each i hi).choose_spec.choose_spec.2⟩
   obtain ⟨b,off,spot⟩:=a
   simp only at hspot hr
   subst hspot
   refine ⟨[.sl rows],⟨by simp only [nO]; exact ⟨by omega,fun r hr=>vQ.2 (hrt r hr)⟩,trivial⟩,?_,trivial⟩
   have hz:∀ (i:Nat) (r:List AV),rows[i]? = some r→r.length=le.length:=fun i r h=>(hrt r (List.mem_of_getElem? h)).len.symm
   have at_:∀ (i j:Nat) (r:List AV) (x:AV),rows[i]? = some r→r[j]? = some x→∃ v,W.cell? ⟨b,off + i * le.length + j,none⟩=some v∧DV W (tc W) x v:=by
    intro i j r x h1 h2
    obtain ⟨cs,hd,hc⟩:=hr i r h1
    have hj:j < le.length:=by have:=(List.getElem?_eq_some_iff.1 h2).1; have:=hz i r h1; omega
    obtain ⟨v,hv⟩:∃ v,cs[j]? = some v:=⟨_,List.getElem?_eq_getElem (by have:=hd.len; have:=hz i r h1; omega)⟩
    exact ⟨v,(hc j hj).trans hv,hd.get j x v h2 hv⟩
   have key:=DV.sl (w:=W) (π:=tc W) rows b off cap le.length (fun i j=>(W.cell? ⟨b,off + i * le.length + j,none⟩).getD default) (by omega) hz
    (fun i j r x h1 h2=>by
     obtain ⟨t,ht⟩:∃ t,le[j]? = some t:=⟨_,List.getElem?_eq_getElem (by have:=(List.getElem?_eq_some_iff.1 h2).1; have:=hz i r h1; omega)⟩
     exact nO.scalar ((hrt r (List.mem_of_getElem? h1)).get j t x ht h2))
    (fun i j r x h1 h2=>by obtain ⟨v,hv,_⟩:=at_ i j r x h1 h2; exact Fp hv)
    (fun i j r x h1 h2=>by obtain ⟨v,hv,_⟩:=at_ i j r x h1 h2; rw [hv]; rfl)
    (fun i j r x h1 h2=>by obtain ⟨v,hv,hd⟩:=at_ i j r x h1 h2; rw [hv]; exact hd)
   rw [hrl] at key
   exact key
  ·rename_i fs ht
   split at h<;>try (cases h; done)
   rename_i l' hl'
   split at h<;>try (cases h; done)
   rename_i hsz
   cases h
   obtain ⟨xs,k,_,_,hcl,hxl,hf⟩:=DataW.trod_struct ht hx
   have:=nM (W:=W) (Tr:=fun t cs=>∃ x fuel,DataW.trod enc P W 0 (fun _=>true) true fuel t cs=some x) (fun t l cs h1 ⟨x,fuel,h3⟩=>qM n t l h1 cs x fuel h3) _ 0 l cs hl' (by omega) (fun i f hif=>by
    rw [List.getElem?_map,Option.map_eq_some_iff] at hif
    obtain ⟨f,hif,rfl⟩:=hif
    have h1:=hf i f (by simpa using hif)
    have:xs[i]?≠none:=by
     have:=(List.getElem?_eq_some_iff.1 hif).1
     simp at this ⊢; omega
    obtain ⟨y,hy⟩:=Option.ne_none_iff_exists'.1 this
    exact ⟨y,k,h1.trans hy⟩)
   simpa using this
  ·rename_i q e ht
   split at h<;>try (cases h; done)
   rename_i l' hl'
   split at h<;>try (cases h; done)
   rename_i hsz
   cases h
   obtain ⟨xs,k,_,_,hcl,hxl,hf⟩:=DataW.trod_array ht hx
   have:=nM (W:=W) (Tr:=fun t cs=>∃ x fuel,DataW.trod enc P W 0 (fun _=>true) true fuel t cs=some x) (fun t l cs h1 ⟨x,fuel,h3⟩=>qM n t l h1 cs x fuel h3) _ 0 l cs hl' (by omega) (fun i f hif=>by
    rw [List.getElem?_map,Option.map_eq_some_iff] at hif
    obtain ⟨f,hif,rfl⟩:=hif
    have hi:=(List.getElem?_eq_some_iff.1 hif).1
    simp at hi
    rw [List.getElem?_range hi] at hif
    cases hif
    have h1:=hf i hi
    have:xs[i]?≠none:=by simp; omega
    obtain ⟨y,hy⟩:=Option.ne_none_iff_exists'.1 this
    exact ⟨y,k,h1.trans hy⟩)
   simpa using this
  ·cases h
def isAgg (P:Program) (t:TypeId):Bool:=match P.underlying t with
 | some (.struct _) | some (.array _ _)=>true
 | _=>false
theorem AF {n:Nat} {t:TypeId} {k:Ty} {v:Value} {d:DataW H} {p:List MemPlace} (hl:yg P n t=some [k]) (ha:isAgg P t=false) (hval:Value.okWide P W .any base t v)
  (h:DataW.Trod enc P W 0 (fun _=>true) true t v d p):∃ a,nO k a∧DV W (tc W) a v:=by
 obtain ⟨fuel,hf⟩:=h
 obtain ⟨as,ht,hd⟩:=qM n t [k] hl _ _ _ hf
 obtain ⟨a,as',rfl,hk,ht'⟩:=ht.cons_inv
 cases ht'.oP
 obtain ⟨u,us,e,hdu,_⟩:=hd.cons_inv
 have hne:∀ cs,v≠.agg cs:=by
  rintro cs rfl
  unfold isAgg at ha
  unfold Value.okWide at hval
  split at hval
  ·rename_i e; rw [e] at ha; cases ha
  ·rename_i e; rw [e] at ha; cases ha
  ·unfold Cell.okWide at hval
   split at hval<;>simp_all [Cell.ok]
 refine ⟨a,hk,?_⟩
 cases v<;>simp [Value.cells] at e
 case agg cs=>exact absurd rfl (hne cs)
 all_goals (obtain ⟨rfl,rfl⟩:=e; exact hdu)
theorem oQ {k:IntKind} {a:AV} (h:nO (.sc (.int k)) a):∃ n,a=.int k n∧(Lit.int k n).wf=true:=by
 simp only [nO] at h
 cases a<;>first | exact h.elim | (obtain ⟨rfl,hw⟩:=h; exact ⟨_,rfl,hw⟩)
theorem C0 {a:AV} (h:nO (.sc .bool) a):∃ b,a=.bool b:=by
 simp only [nO] at h
 cases a<;>first | exact h.elim | exact ⟨_,rfl⟩
theorem yl {α:Type} {f:α→List AV} {Q:α→Prop} {l:List Ty} (row:∀ r,Al nO l r→∃ x,r=f x∧Q x) {a:AV} (h:nO (.sl l) a):∃ xs:Option (List α),a=az f xs∧(xs.getD []).length≤maxLen∧∀ x∈xs.getD [],Q x:=by
 cases a<;>simp only [nO] at h
 ·exact ⟨none,rfl,by simp,by simp⟩
 rename_i xs
 have:∀ (xs:List (List AV)),(∀ r∈xs,xm l r)→∃ m:List α,xs=m.map f∧∀ x∈m,Q x:=by
  intro xs
  induction xs with
  | nil=>intro _; exact ⟨[],rfl,by simp⟩
  | cons r xs ih =>
   intro h
   obtain ⟨m,rfl,hm⟩:=ih (fun r hr=>h r (List.mem_cons_of_mem _ hr))
   obtain ⟨x,rfl,hx⟩:=row _ (vQ.1 (h _ List.mem_cons_self))
   exact ⟨x :: m,rfl,by simpa using ⟨hx,hm⟩⟩
 obtain ⟨m,rfl,hm⟩:=this xs h.2
 exact ⟨some m,rfl,by simpa using h.1,hm⟩
theorem tf {k:IntKind} {a:AV} (h:nO (.sl [.sc (.int k)]) a):∃ l:Option (List Int),a=az (fun n=>[.int k n]) l∧(l.getD []).length≤maxLen∧∀ n∈l.getD [],(Lit.int k n).wf=true :=
 yl (fun r hr=>by
  obtain ⟨a,as,rfl,h1,h2⟩:=hr.cons_inv
  cases h2.oP
  obtain ⟨n,rfl,hn⟩:=oQ h1
  exact ⟨n,rfl,hn⟩) h
theorem xp {P:Program} {f:Nat} {args:List AV} {W:World} {vs:List Value} (h:(Pure P).c f args (.bool true) none) (hd:Al (DV W (tc W)) args vs) :
  Calls P f vs.toArray W fun e w'=>e=.returned (.bool true)∧Go.RowKit.Below W.heap.size W w':=by
 refine (h.2 W (tc W) vs (fun _ _ h=>h) ⟨hd.len,hd.get⟩).mono fun e w' ⟨v,π',he,hb,_,_,_,hdv,_⟩=>?_
 cases hdv
 exact ⟨he,hb⟩
end
section
variable {H:Type} {enc:TypeId × Value→H} {P:Program} {W:World} {base:Nat}
open Go.ChangeShapes Go.WideShapes Go.ChangeAt Go.RowKit
def L5 (enc:TypeId × Value→H) (P:Program) (W:World) (base:Nat) (t:TypeId) (v:Value):Prop :=
 Value.okWide P W .any base t v∧∃ d p,DataW.Trod enc P W 0 (fun _=>true) true t v d p
theorem pN:∀ {ts:List TypeId} {vs:List Value} {ds:List (DataW H)} {ps:List MemPlace},DataW.TrodAll enc P W 0 (fun _=>true) true ts vs ds ps →
  (∀ (j:Nat) t v,ts[j]? = some t→vs[j]? = some v→Value.okWide P W .any base t v)→Al (L5 enc P W base) ts vs
 | [],vs,ds,ps,h,_=>by obtain ⟨rfl,_,_⟩:=trodAll_nil h; trivial
 | t :: ts,vs,ds,ps,h,hv=>by
  obtain ⟨v,vs',d,ds',p,q,rfl,rfl,rfl,h0,h1⟩:=trodAll_cons h
  exact ⟨⟨hv 0 t v rfl rfl,d,p,h0⟩,pN h1 fun j t v h1 h2=>hv (j + 1) t v (by simpa using h1) (by simpa using h2)⟩
theorem nN {W':World} (hl:laidOutB P=true):∀ {ts:List TypeId} {vs:List Value} {ds:List (DataW H)} {ps:List MemPlace},(ts.all fun t=>P.readableRec t && decide (t < P.types.size))=true →
  DataW.TrodAll enc P W 0 (fun _=>true) true ts vs ds ps→Below W.heap.size W W'→DataW.TrodAll enc P W' 0 (fun b=>decide (b < W.heap.size)) true ts vs ds ps
 | [],vs,ds,ps,_,h,_=>by obtain ⟨rfl,rfl,rfl⟩:=trodAll_nil h; exact trodAll_mk0
 | t :: ts,vs,ds,ps,hr,h,hb=>by
  have hlt:=DataW.TrodAll.lt h
  obtain ⟨v,vs',d,ds',p,q,rfl,rfl,rfl,h0,h1⟩:=trodAll_cons h
  simp only [List.all_cons,Bool.and_eq_true,decide_eq_true_eq] at hr
  exact trodAll_cons_mk (Below.trod hl hr.1.1 hr.1.2 h0 hb fun x hx=>hlt x (by simp [hx])) (nN hl hr.2 h1 hb)
theorem oR {n:Nat} {t:TypeId} {k:Ty} {v:Value} (hl:yg P n t=some [k]) (ha:isAgg P t=false) (h:L5 enc P W base t v):∃ a,nO k a∧DV W (tc W) a v:=by
 obtain ⟨h1,d,p,h2⟩:=h; exact AF hl ha h1 h2
theorem kR {sp:Nat→Bool} {held:Bool} {b0:Nat}:∀ {ts:List TypeId} {vs:List Value} {ds:List (DataW H)} {ps:List MemPlace},DataW.TrodAll enc P W b0 sp held ts vs ds ps→ds.length=ts.length
 | [],vs,ds,ps,h=>by obtain ⟨_,rfl,_⟩:=trodAll_nil h; rfl
 | t :: ts,vs,ds,ps,h=>by
  obtain ⟨v,vs',d,ds',p,q,rfl,rfl,rfl,h0,h1⟩:=trodAll_cons h
  simp [kR h1]
end
theorem FZ {α:Type} {l:List α} {n:Nat} (h:l.length=n + 1):∃ a m,l=a :: m∧m.length=n:=by
 cases l with
 | nil=>cases h
 | cons a m=>exact ⟨a,m,rfl,by simpa using h⟩
theorem L6 {α:Type} {l:List α} (h:l.length=1):∃ a,l=[a]:=by obtain ⟨a,m,rfl,h2⟩:=FZ h; exact ⟨a,by rw [List.length_eq_zero_iff.1 h2]⟩
theorem F0 {α:Type} {l:List α} (h:l.length=2):∃ a b,l=[a,b]:=by obtain ⟨a,m,rfl,h2⟩:=FZ h; obtain ⟨b,rfl⟩:=L6 h2; exact ⟨a,b,rfl⟩
end Go.Eng
namespace Go.Eng
open Go
def NG:List Ty:=[.sl [.sc (.Nq .f64)],.sc (.int .i64),.sc (.int .i64),.sc (.int .i64),.sc (.int .i64),.sc .bool]
theorem C1 {a:AV} (h:nO (.sl NG) a):∃ l:Option (List Fm),a=az Fm.cells l∧(l.getD []).length≤maxLen∧∀ d∈l.getD [],True :=
 yl (fun r hr=>by
  obtain ⟨a1,r1,rfl,k1,h1⟩:=hr.cons_inv
  obtain ⟨a2,r2,rfl,k2,h2⟩:=h1.cons_inv
  obtain ⟨a3,r3,rfl,k3,h3⟩:=h2.cons_inv
  obtain ⟨a4,r4,rfl,k4,h4⟩:=h3.cons_inv
  obtain ⟨a5,r5,rfl,k5,h5⟩:=h4.cons_inv
  obtain ⟨a6,r6,rfl,k6,h6⟩:=h5.cons_inv
  cases h6.oP
  obtain ⟨l1,rfl,_⟩:=yl (f:=Mm) (Q:=fun _=>True) (fun r hr=>⟨r,rfl,trivial⟩) k1
  obtain ⟨n2,rfl,_⟩:=oQ k2
  obtain ⟨n3,rfl,_⟩:=oQ k3
  obtain ⟨n4,rfl,_⟩:=oQ k4
  obtain ⟨n5,rfl,_⟩:=oQ k5
  obtain ⟨b6,rfl⟩:=C0 k6
  exact ⟨⟨l1,n2,n3,n4,n5,b6⟩,rfl,trivial⟩) h
end Go.Eng
