/- The engine and the library,part 11 of 12: what the proofs of this seat need of them. -/
import Derived.Test.YthoinfdfenkgnaaGreatPk10
set_option linter.unnecessarySimpa false
set_option linter.unusedSimpArgs false
set_option linter.unusedVariables false
set_option linter.defProp false
set_option maxRecDepth 10000
set_option maxHeartbeats 4000000
namespace Go.Eng
open Go
def I4 (x:Fm):Fm:={ x with cU:=0,push:=d7 .i64 x.push 255 }
def xj (n:Nat) (h:Nat→Int) (ln:Int) (k:Nat):Int:=if k < n then (if tb ln k then h k + 1 else 0) else h k
def CE (t:Tb) (h:Nat→Int) (ln:Int) (k:Nat):Bool:=(List.range k).any fun j=>decide (xj (nR t) h ln j > (uD t j).limit)
def uG (t:Tb) (left:Int) (h:Nat→Int) (ln:Int):Bool:=(d7 .i64 ln 15 != 0) && (left == 0 || CE t h ln (nR t))
theorem sM (x:Int):d7 .i64 0 x=0:=by rw [and_zero]; intro i _; simp [iI]
theorem CF {α:Type} (f:α→List AV) (q:List α) (t:Nat):ah (BN (some (aH f q t))) fun p=>p.1=az f (aX q):=by unfold aH aX; split<;>rfl
structure Tm where
 out:List Fm
 left:Int
 held:Nat→Int
def mR (t:Tb) (s:Tm) (x:Fm):Int:=if uG t s.left s.held x.lines then 0 else x.lines
def kP (t:Tb) (s:Tm) (x:Fm):Tm :=
 ⟨s.out++[{ I4 x with lines:=mR t s x }],if d7 .i64 (mR t s x) 15 != 0 then s.left - 1 else s.left,if uG t s.left s.held x.lines then fun _=>0 else xj (nR t) s.held x.lines⟩
def cW (t:Tb) (L:List Fm):Nat→Tm
 | 0=>⟨[],t.share,fun _=>0⟩
 | i + 1=>kP t (cW t L i) (L.getD i default)
def eU (t:Tb) (L:List Fm):List Fm:=(cW t L L.length).out
def h4 (h:Nat→Int):List AV:=[I (h 0),I (h 1),I (h 2),I (h 3)]
def Ay (n:Nat) (h:Nat→Int) (ln:Int) (k:Nat):Nat→Int:=fun j=>if j < k then xj n h ln j else h j
theorem FT (h:Nat→Int) {k:Nat} (hk:k < 4):(h4 h)[k]? = some (I (h k)):=by
 have e:k=0∨k=1∨k=2∨k=3:=by omega
 rcases e with rfl|rfl|rfl|rfl<;>rfl
theorem E8 (n:Nat) (h:Nat→Int) (ln:Int) {k:Nat} (hk:k < 4):h4 (Ay n h ln (k + 1))=setCells (h4 (Ay n h ln k)) k [I (xj n h ln k)]:=by
 have e:k=0∨k=1∨k=2∨k=3:=by omega
 rcases e with rfl|rfl|rfl|rfl<;>simp [h4,Ay,setCells]
theorem CG (h:Nat→Int) (ln:Int) {n:Nat} (hn:n≤4):h4 (Ay n h ln n)=h4 (xj n h ln):=by
 have g:∀ j,Ay n h ln n j=xj n h ln j:=fun j=>by unfold Ay xj; split<;>simp_all
 simp [h4,g]
structure Nc (t:Tb) (i:Nat) (s:Tm):Prop where
 len:s.out.length=i
 left:0≤s.left∧s.left≤t.share
 held:∀ k,0≤s.held k∧s.held k≤i
theorem Iw {n:Nat} {h:Nat→Int} {i:Int} (g:∀ k,0≤h k∧h k≤i) (hi:0≤i) (ln:Int) (k:Nat):0≤xj n h ln k∧xj n h ln k≤i + 1:=by
 have:=g k
 unfold xj; split
 ·split<;>omega
 ·omega
theorem CH {t:Tb} (hs:0≤t.share) (L:List Fm):∀ i,Nc t i (cW t L i)
  | 0=>⟨rfl,by simp [cW,hs],fun k=>by simp [cW]⟩
  | i + 1=>by
    have ih:=CH hs L i
    have hl:=ih.left
    refine ⟨by simp [cW,kP,ih.len],?_,fun k=>?_⟩
    · simp only [cW,kP]
      split
      · rename_i hb
        have:¬ (cW t L i).left=0:=by
          intro h0
          simp only [mR,uG,h0,beq_self_eq_true,Bool.true_or,Bool.and_true] at hb
          split at hb
          · rw [sM] at hb; simp at hb
          · rename_i h2; exact h2 hb
        omega
      · exact hl
    · simp only [cW,kP]
      split
      · simp; omega
      · have:=Iw ih.held (by omega) (L.getD i default).lines (n:=nR t) k
        omega
def sN.Spec (C:bI) (f:Nat):Prop:=∀ (t:Tb) (l:Option (List Fm)),t.Ok→(t.aL.getD []).length≤4→0≤t.share→t.share≤1000000→(l.getD []).length≤1000000→C.c f [.agg t.cells,az Fm.cells l] (az Fm.cells (aX (eU t (l.getD [])))) none
section
variable {P:Program} (hm:P.follows .mixedOrders=true) {f:Nat}
include hm
theorem sN.ok {e:Nat} (hc:bU P f=some (jN e)):sN.Spec (Pure P) f:=by
  intro t l ht hn4 hs0 hs1 hlen
  obtain ⟨L,hLe⟩:∃ L,L=l.getD []:=⟨_,rfl⟩
  rw [← hLe] at hlen ⊢
  have hl:=Tb.len ht
  have hp:=Tb.whole ht
  have hg:=Tb.ja ht
  have hsh:=Tb.ov ht
  have hz4:([.int .i64 0,.int .i64 0,.int .i64 0,.int .i64 0]:List AV)=h4 fun _=>0:=rfl
  have hh4:∀ h,(h4 h).length=4:=fun _=>rfl
  have hha:∀ h g,setCells (h4 h) 0 (h4 g)=h4 g:=fun _ _=>rfl
  have hfl:∀ x:Fm,x.cells.length=6:=fun _=>rfl
  have hfw:∀ x:Fm,aU x.cells 0 (some 6)=some (.agg x.cells):=fun _=>rfl
  have hf1:∀ x:Fm,x.cells[1]? = some (I x.push):=fun _=>rfl
  have hf3:∀ x:Fm,x.cells[3]? = some (I x.lines):=fun _=>rfl
  have hs1':∀ (x:Fm) (n:Int),setCells x.cells 1 [I n]=({ x with push:=n }:Fm).cells:=fun _ _=>rfl
  have hs3':∀ (x:Fm) (n:Int),setCells x.cells 3 [I n]=({ x with lines:=n }:Fm).cells:=fun _ _=>rfl
  have hs4':∀ (x:Fm) (n:Int),setCells x.cells 4 [I n]=({ x with cU:=n }:Fm).cells:=fun _ _=>rfl
  have hnr:((t.aL.getD []).length:Int)=(nR t:Int):=by unfold nR; omega
  have hn:nR t≤4:=by unfold nR; omega
  refine aD hm hc (by show 2≤87; decide) (aC (keep:=[]) (i:=0) ?_)
  try simp only [I,B,D,RY,↓ KW,seval,jN,Z.H,hsh,← hLe,hl,hp,hz4,hh4,hha,hfl,hfw,bM,bN,hf1,hf3,hs1',hs3',hs4']
  refine aF (fun i:Nat=>(⟨[(8,.dat (I i) none),(1,.dat (az Fm.cells l) none),(2,.ptr 4 0),(7,.ptr 10 0),(6,.dat (I (cW t L i).left) none),(5,aH Fm.cells (cW t L i).out 0)],[(4,⟨t.cells,[]⟩),(10,⟨h4 (cW t L i).held,[]⟩)],aM (cW t L i).out 0 e,400⟩:S)) (fun i=>L.length - i) (fun i=>i≤L.length) ?_ 0 (by omega) ?_
  rotate_left
  · refine ai (by decide) ?_ ?_ ?_ ?_<;>simp [LX,I,B,D,cW,hLe,hz4]
  intro i hi A back
  have hwr:=aB (k:=i) (by omega)
  have hok:=CH hs0 L i
  have hfin:i=L.length→eU t L=(cW t L i).out:=fun h=>by rw [h]; rfl
  have hnx:cW t L (i + 1)=kP t (cW t L i) (L.getD i default):=rfl
  generalize cW t L i=s at *
  obtain ⟨q,left,hd⟩:=s
  have hql:=hok.len
  have hlf:=hok.left
  have hhd:=hok.held
  clear hok
  simp only at hfin hql hlf hhd
  rcases bf (decide ((i:Int) < (L.length:Int))) with h|h
  · have h1:i=L.length:=by have:=of_decide_eq_false h; omega
    try simp only [I,B,D,RY,↓ KW,seval,h,← hLe]
    rw [hfin h1]
    exact CF ..
  · have h1:i < L.length:=by have:=of_decide_eq_true h; omega
    obtain ⟨d,hd'⟩:∃ d,L[i]? = some d:=⟨L[i],by simp [h1]⟩
    have hD:L.getD i default=d:=by simp [hd']
    have hb0:0≤(i:Int):=by omega
    have hb1:(i:Int) < (L.length:Int):=by omega
    rw [hD] at hnx
    have hxx:({ { d with cU:=0 } with push:=d7 .i64 d.push 255 }:Fm)=I4 d:=rfl
    try simp only [I,B,D,RY,↓ KW,seval,h,hb0,hb1,← hLe,hd',hxx,hl,hp,hz4,hh4,hha,hfl,hfw,bM,bN,hf1,hf3,hs1',hs3',hs4']
    refine aF (fun k:Nat=>(⟨[(11,.dat (I k) none),(2,.ptr 4 0),(9,.ptr 408 0),(7,.ptr 10 0),(10,.dat (B (CE t hd d.lines k)) none),(6,.dat (I left) none),(5,aH Fm.cells q 0),(8,.dat (I i) none),(1,.dat (az Fm.cells l) none)],[(4,⟨t.cells,[]⟩),(408,⟨(I4 d).cells,[]⟩),(10,⟨h4 (Ay (nR t) hd d.lines k),[]⟩)],aM q 0 e,500⟩:S)) (fun k=>nR t - k) (fun k=>k≤nR t) ?_ 0 (by omega) ?_
    rotate_left
    · have:h4 (Ay (nR t) hd d.lines 0)=h4 hd:=by simp [h4,Ay]
      by_cases ho:q=[]
      all_goals refine ai (by decide) ?_ ?_ ?_ ?_<;>simp [LX,I,B,D,this,CE,ho,aH,aM]
    intro k hk A2 back2
    have hwk:=aB (k:=k) (by omega)
    have hxl:(I4 d).lines=d.lines:=rfl
    rcases bf (decide ((k:Int) < (nR t:Int))) with h2|h2
    · have h3:k=nR t:=by have:=of_decide_eq_false h2; omega
      subst h3
      have hbf:=CG hd d.lines hn
      rw [hbf]
      have hz:(d7 .i64 0 15 != 0)=false:=by rw [sM]; rfl
      have hw1:¬ left=0→IntKind.i64.wrap (left - 1)=left - 1:=fun h=>aE (by omega) (by omega)
      have hcut:uG t left hd d.lines=((d7 .i64 d.lines 15 != 0) && (left == 0 || CE t hd d.lines (nR t))):=rfl
      generalize CE t hd d.lines (nR t)=b3 at *
      obtain ⟨b1,hb1⟩:∃ b1,(d7 .i64 d.lines 15 != 0)=b1:=⟨_,rfl⟩
      obtain ⟨b2,hb2⟩:∃ b2,(left == 0)=b2:=⟨_,rfl⟩
      have hb20:b2=false→IntKind.i64.wrap (left - 1)=left - 1:=fun h=>hw1 (by rw [h] at hb2; simpa using hb2)
      rw [hb1,hb2] at hcut
      rcases bf b1 with e1|e1<;>rcases bf b2 with e2|e2<;>rcases bf b3 with e3|e3
      all_goals
        rw [e1] at hb1
        rw [e2] at hb2
        simp only [e1,e2,e3,Bool.true_and,Bool.false_and,Bool.or_true,Bool.true_or,Bool.or_false,Bool.false_or] at hcut
        simp only [kP,mR,hcut,hb1,hz,if_true,if_false,Bool.false_eq_true] at hnx
        have hw2:b2=true∨IntKind.i64.wrap (left - 1)=left - 1:=by rcases bf b2 with e | e; exact .inr (hb20 e); exact .inl e
        by_cases ho:q=[]
        all_goals
          try simp only [I,B,D,RY,↓ KW,seval,h2,hnr,hg,hxl,e1,e2,e3,hb1,hb2,hz,Bool.true_and,Bool.false_and,Bool.or_true,Bool.true_or,Bool.or_false,Bool.false_or,ho,aH,aM,hl,hp,hz4,hh4,hha,hfl,hfw,bM,bN,hf1,hf3,hs1',hs3',hs4']
          try try simp only [I,B,D,RY,↓ KW,seval,hb20 e2,h2,hnr,hg,hxl,e1,e2,e3,hb1,hb2,hz,Bool.true_and,Bool.false_and,Bool.or_true,Bool.true_or,Bool.or_false,Bool.false_or,ho,aH,aM,hl,hp,hz4,hh4,hha,hfl,hfw,bM,bN,hf1,hf3,hs1',hs3',hs4']
          first
            | refine back (i + 1) _ (by omega) (by omega) ?_
            | refine ⟨by omega,back (i + 1) _ (by omega) (by omega) ?_⟩
          refine ai (by decide) ?_ ?_ ?_ ?_<;>simp [LX,I,B,D,hwr,hnx,ho,aH,aM,← hxx,hz4]
    · have h3:k < nR t:=by have:=of_decide_eq_true h2; omega
      have h5:k < 4:=by omega
      have hm1:min k IntKind.i64.bits=k:=by have:=vI h5; simpa using this
      have hb:=vH (s:=d.lines) h5
      have hy:0≤(k:Int)∧(k:Int) < 4:=by omega
      have hy2:0≤(k:Int)∧(k:Int) < (nR t:Int):=by omega
      have huk:IntKind.u64.wrap (k:Int)=(k:Int):=wrap_u64 (by omega)
      have hk3:k≤3:=by omega
      have hgb:=hhd k
      have hw1:IntKind.i64.wrap (hd k + 1)=hd k + 1:=aE (by omega) (by omega)
      have g1:(h4 (Ay (nR t) hd d.lines k))[k]? = some (I (hd k)):=by rw [FT _ h5]; simp [Ay]
      have g2:(h4 (Ay (nR t) hd d.lines (k + 1)))[k]? = some (I (xj (nR t) hd d.lines k)):=by rw [FT _ h5]; simp [Ay]
      have g3:=E8 (nR t) hd d.lines h5
      have g4:xj (nR t) hd d.lines k=if tb d.lines k then hd k + 1 else 0:=by unfold xj; rw [if_pos h3]
      have g5:CE t hd d.lines (k + 1)=(CE t hd d.lines k || decide (xj (nR t) hd d.lines k > (uD t k).limit)):=by simp [CE,List.range_succ]
      have g6:(t.aL.getD [])[k]? = some (uD t k):=by
        have:=vG t h3
        unfold EP at this
        cases hr:t.aL with
        | none=>rw [hr] at this; simp at this
        | some r=>rw [hr] at this; simp only [Option.map_some,Option.getD_some] at this ⊢; rw [List.getElem?_take] at this; split at this<;>simp_all
      have hrq:∀ r:Rl,(r.cells.drop 10)[0]? = some (I r.limit):=fun _=>rfl
      generalize CE t hd d.lines k=b3 at *
      cases htb:tb d.lines k
      all_goals
        rw [htb] at hb g4
        simp only [if_true,if_false,Bool.false_eq_true] at hb g4
        rw [g4] at g2 g3 g5
        rcases bf b3 with e3|e3
        all_goals
          simp only [e3,Bool.false_or,Bool.true_or] at g5
          try simp only [I,B,D,RY,↓ KW,seval,h2,hnr,hg,hxl,huk,hm1,hb,hy,hy2,g1,g2,← g3,g6,hrq,hw1,hk3,e3,Rl.len,Bool.false_or,Bool.true_or,hl,hp,hz4,hh4,hha,hfl,hfw,bM,bN,hf1,hf3,hs1',hs3',hs4']
          first
            | refine back2 (k + 1) _ (by omega) (by omega) ?_
            | refine ⟨by omega,back2 (k + 1) _ (by omega) (by omega) ?_⟩
          by_cases ho:q=[]
          all_goals refine ai (by decide) ?_ ?_ ?_ ?_<;>simp [LX,I,B,D,hwk,g5,g3,ho,aH,aM]
end
end Go.Eng
namespace Go.Eng
open Go
structure Mn where
 last:List Int
 ticks:List Int
 deriving Inhabited,DecidableEq
def Mn.cells (m:Mn):List AV:=m.last.map I++m.ticks.map I
structure Mn.Ok (m:Mn):Prop where
 last:m.last.length=8
 ticks:m.ticks.length=8
theorem Mn.len {m:Mn} (h:m.Ok):m.cells.length=16:=by simp [Mn.cells,h.last,h.ticks]
theorem Mn.whole {m:Mn} (h:m.Ok):aU m.cells 0 (some 16)=some (.agg m.cells):=by
 have:=Mn.len h
 simp [aU,this]
 rw [← this,List.take_length]
structure N9 (t:Tb) (m:Mn) (l:List Int):Prop where
 t:t.Ln
 m:m.Ok
 l:l.length=8
end Go.Eng
namespace Go.Eng
open Go
structure Bx where
 mode:Int
 time:Int
 fault:Int
 st:kX
 iz:Mn
 lines:Int
 tick:Int
 deriving Inhabited
def Bx.cells (b:Bx):List AV:=I b.mode :: I b.time :: I b.fault :: (b.st.cells++(b.iz.cells++[I b.lines,I b.tick]))
structure Bx.Ok (b:Bx):Prop where
 st:b.st.Ok
 iz:b.iz.Ok
def Iy:Mn:=⟨List.replicate 8 0,List.replicate 8 0⟩
def Az (t:Tb):Bx:=⟨1,0,0,qw t,Iy,0,0⟩
theorem zo (t:Tb):(Az t).Ok:=⟨qG t,rfl,rfl⟩
section
variable {b:Bx} (h:b.Ok)
include h
theorem Bx.Iz:b.iz.cells.length=16:=by simp [Mn.cells,h.iz.last,h.iz.ticks]
theorem Bx.len:b.cells.length=138:=by
 have:=Bx.Iz h
 have:=kX.len h.st
 simp [Bx.cells, *]
theorem Bx.whole:aU b.cells 0 (some 138)=some (.agg b.cells):=by
 have:=Bx.len h
 simp [aU,this]
 rw [← this,List.take_length]
theorem Bx.FU {k:Nat} (hk:k < 117):b.cells[3 + k]? = b.st.cells[k]?:=by
 have:=kX.len h.st
 rw [Bx.cells,show 3 + k=k + 1 + 1 + 1 by omega,List.getElem?_cons_succ,List.getElem?_cons_succ,List.getElem?_cons_succ,List.getElem?_append_left (by omega)]
theorem Bx.CI:b.cells[109]? = some (I b.st.pre.uC):=by
 rw [show 109=3 + 106 from rfl,Bx.FU h (by omega),kX.Ci h.st]
theorem Bx.CJ:b.cells[99]? = some (I b.st.rings.group):=by
 rw [show 99=3 + 96 from rfl,Bx.FU h (by omega)]
 simp [kX.cells,List.getElem?_append,pK h.st.runs,EL.cells]
theorem Bx.qI:b.cells[136]? = some (I b.lines)∧b.cells[137]? = some (I b.tick):=by
 have h1:=Bx.Iz h
 have h2:=kX.len h.st
 constructor<;>simp [Bx.cells,List.getElem?_append,h1,h2]
theorem Bx.lX (v:Int):setCells b.cells 136 [I v]=({ b with lines:=v }:Bx).cells∧setCells b.cells 137 [I v]=({ b with tick:=v }:Bx).cells:=by
 have h1:=Bx.Iz h
 have h2:=kX.len h.st
 have e1:∀ k,3≤k→∀ vs,setCells b.cells k vs=I b.mode :: I b.time :: I b.fault :: setCells (b.st.cells++(b.iz.cells++[I b.lines,I b.tick])) (k - 3) vs:=by
  intro k hk vs
  obtain ⟨m,rfl⟩:∃ m,k=m + 3:=⟨k - 3,by omega⟩
  simp [Bx.cells,setCells,Nat.add_right_comm]
 constructor
 ·rw [e1 136 (by omega)]
  have:setCells (b.st.cells++(b.iz.cells++[I b.lines,I b.tick])) (136 - 3) [I v]=b.st.cells++(b.iz.cells++[I v,I b.tick]):=by
   simp [setCells,List.take_append,List.drop_append,h1,h2]
   rw [List.take_of_length_le (by omega),List.drop_of_length_le (by omega),List.drop_of_length_le (by omega)]
   rfl
  rw [this]; rfl
 ·rw [e1 137 (by omega)]
  have:setCells (b.st.cells++(b.iz.cells++[I b.lines,I b.tick])) (137 - 3) [I v]=b.st.cells++(b.iz.cells++[I b.lines,I v]):=by
   simp [setCells,List.take_append,List.drop_append,h1,h2]
   rw [List.take_of_length_le (by omega),List.take_of_length_le (by omega),List.drop_of_length_le (by omega),List.drop_of_length_le (by omega)]
   rfl
  rw [this]; rfl
end
def FV (x:Int × Int × Int):List AV:=[I x.1,I x.2.1,I x.2.2]
def IA (k:Nat):List AV:=(List.range 8).map fun j=>if j < k then I 1 else I 0
def vK:List AV:=[I 1,I 1,I 1,I 1,I 1,I 1,I 1,I 1]
def sO.Spec (C:bI) (f:Nat):Prop:=∀ n:Int,C.c f [I n] (I (gS n 0 9999 + 1)) none
def sP.Spec (C:bI) (f:Nat):Prop:=C.c f [] (.agg vK) none
def oK.Spec (C:bI) (f:Nat):Prop:=∀ t:Tb,t.Ok→C.c f [.agg t.cells] (.agg (Az t).cells) none
def sQ.Spec (C:bI) (f:Nat):Prop:=∀ (o:AV) (b:Bx) (kind which:Int),b.Ok→C.p f [[o],b.cells] [some (B false),some (I kind),some (I which),none,none] (.oS []) none [[o],b.cells]
def sR.Spec (C:bI) (f:Nat):Prop:=∀ (b:Bx) (kind which:Int),b.Ok→C.p f [[.aN],b.cells] [some (B true),some (I kind),some (I which),none,none] (.oS []) none [[.sl [FV (b.tick,kind,which)]],b.cells]
section
variable {P:Program} (hm:P.follows .mixedOrders=true) {f:Nat}
include hm
theorem sO.ok (hc:bU P f=some hY):sO.Spec (Pure P) f:=by
 intro n
 have h1:(if 9999 < (if 0 > n then 0 else n) then 9999 else (if 0 > n then 0 else n))=gS n 0 9999:=by
  unfold gS; split<;>split<;>(try split)<;>omega
 have h2:IntKind.i64.wrap (gS n 0 9999 + 1)=gS n 0 9999 + 1:=by
  have:0≤gS n 0 9999∧gS n 0 9999≤9999:=by unfold gS; split<;>(try split)<;>omega
  exact aE (by omega) (by omega)
 refine aD hm hc (by show 1≤7; decide) (aC (keep:=[]) (i:=0) ?_)
 try simp only [I,B,D,RX,↓ KW,seval,hY,Z.H]
 rw [h1,h2]
theorem sP.ok (hc:bU P f=some hJ):sP.Spec (Pure P) f:=by
 show (Pure P).c f _ _ none
 have hz:∀ k,k < 8→setCells (IA k) k [I 1]=IA (k + 1):=by
  intro k hk
  have e:k=0∨k=1∨k=2∨k=3∨k=4∨k=5∨k=6∨k=7:=by omega
  rcases e with rfl|rfl|rfl|rfl|rfl|rfl|rfl|rfl<;>rfl
 have hl:∀ k,(IA k).length=8:=fun k=>by simp [IA]
 have h0:IA 0=[I 0,I 0,I 0,I 0,I 0,I 0,I 0,I 0]:=rfl
 have h8:IA 8=vK:=rfl
 refine aD hm hc (by show 0≤10; decide) (aC (keep:=[]) (i:=0) ?_)
 try simp only [I,B,D,RY,↓ KW,seval,hJ,Z.H]
 refine aF (fun k:Nat=>(⟨[(3,.dat (I k) none),(1,.ptr 5 0),(0,.ptr 4 0)],[(5,⟨IA k,[]⟩),(4,⟨[I 0,I 0,I 0,I 0,I 0,I 0,I 0,I 0],[]⟩)],[],400⟩:S)) (fun k=>8 - k) (fun k=>k≤8) ?_ 0 (by omega) ?_
 rotate_left
 ·refine ai (by decide) ?_ ?_ ?_ ?_<;>simp [LX,I,B,D,h0]
 intro k hk A back
 have hwr:=aB (k:=k) (by omega)
 try simp only [I,B,D,RY,↓ KW,seval]
 rcases bf (decide ((k:Int) < 8)) with h|h
 ·have:k=8:=by have:=of_decide_eq_false h; omega
  subst this
  rw [h8]
  have h9:aU vK 0 (some 8)=some (.agg vK):=rfl
  have h10:setCells [I 0,I 0,I 0,I 0,I 0,I 0,I 0,I 0] 0 vK=vK:=rfl
  have h11:vK.length=8:=rfl
  try simp only [I,B,D,RY,↓ KW,seval,h,h9,h10,h11]
 ·have h8:k < 8:=by have:=of_decide_eq_true h; omega
  have hb:0≤(k:Int)∧(k:Int) < 8:=by omega
  have hzk:=hz k h8
  try simp only [I,B,D,RY,↓ KW,seval,h,hb,hl]
  refine ⟨by omega,?_⟩
  refine back (k + 1) _ (by omega) (by omega) (ai (by decide) ?_ ?_ ?_ ?_)<;>simp [LX,I,B,D,hzk,hwr]
theorem oK.ok {fB:Nat} (hc:bU P f=some (gu fB)) (hB:vC.Spec (Pure P) fB):oK.Spec (Pure P) f:=by
 intro t ht
 have hl:=Tb.len ht
 have hp:=Tb.whole ht
 have b1:=kX.len (qG t)
 have b2:=kX.whole (qG t)
 refine aD hm hc (by show 1≤6; decide) (aC (keep:=[]) (i:=0) ?_)
 try simp only [I,B,D,RY,↓ KW,seval,gu,Z.H,hl,hp]
 refine aj (hB t ht.ln) ?_
 have e1:(.int .i64 1 :: (List.take 2 (List.drop 1 bB)++(qw t).cells++List.drop 119 (List.drop 1 bB)))=(Az t).cells:=rfl
 have e2:(List.take 2 (List.drop 1 bB)++(qw t).cells++List.drop 119 (List.drop 1 bB)).length=137:=by simp [b1,bB]
 have e3:=Bx.len (zo t)
 have e4:=Bx.whole (zo t)
 have e5:setCells bB 0 (Az t).cells=(Az t).cells:=gA (by rw [e3]; rfl)
 have e6:bB.length=138:=rfl
 try simp only [I,B,D,RY,↓ KW,seval,hl,hp,b1,b2,e1,e2,e3,e4,e5,e6]
 trace_state
theorem sQ.ok {e:Nat} (hc:tF true P f=some (cQ e)):sQ.Spec (Pure P) f:=by
 intro o b kind which hb
 refine rO hm hc (by show 5≤17; decide) rfl (by simp) (aC (keep:=[]) (i:=0) ?_)
 try simp only [I,B,D,RX,th,tj,tr,↓ KW,↓ tq,seval,cQ,Z.H]
theorem sR.ok {e:Nat} (hc:tF true P f=some (cQ e)):sR.Spec (Pure P) f:=by
 intro b kind which hb
 have h1:=(Bx.qI hb).2
 have h2:∀ x,setCells [.aN] 0 [x]=[x]:=fun _=>rfl
 refine rO hm hc (by show 5≤17; decide) rfl (by simp) (aC (keep:=[]) (i:=0) ?_)
 try simp only [I,B,D,RX,th,tj,tr,↓ KW,↓ tq,seval,cQ,Z.H,h1,h2,FV]
end
end Go.Eng
namespace Go.Eng
open Go
def sS (t:Tb) (p:Nat):Int:=t.br.getD p 0
def xk (t:Tb) (p:Nat):Int:=if sS t p == 1 then 33 else if sS t p == 2 then 34 else 0
def iA (t:Tb) (k:Nat):List Int:=(List.range 8).map fun p=>if p < k then xk t p else 0
def AA (t:Tb):List Int:=iA t 8
def sU.Spec (C:bI) (f:Nat):Prop:=∀ t:Tb,t.Ok→C.c f [.agg t.cells] (.agg ((AA t).map I)) none
theorem yb (t:Tb) {k:Nat} (hk:k < 8):setCells ((iA t k).map I) k [I (xk t k)]=(iA t (k + 1)).map I:=by
 have e:k=0∨k=1∨k=2∨k=3∨k=4∨k=5∨k=6∨k=7:=by omega
 rcases e with rfl|rfl|rfl|rfl|rfl|rfl|rfl|rfl<;>simp [iA,setCells,List.range_succ]
theorem yc (t:Tb) {k:Nat} (hk:k < 8) (h:xk t k=0):iA t (k + 1)=iA t k:=by
 have e:k=0∨k=1∨k=2∨k=3∨k=4∨k=5∨k=6∨k=7:=by omega
 rcases e with rfl|rfl|rfl|rfl|rfl|rfl|rfl|rfl<;>simp [iA,List.range_succ,h]
def LU (p:Nat):Ph:=⟨true,50,20,200,300,50,35,10,if p % 2=1 then 70 else 0,if p % 2=1 then 80 else 0,0,true,false⟩
def LV:List AV:=[.bool true,.int .i64 50,.int .i64 20,.int .i64 200,.int .i64 300,.int .i64 50,.int .i64 35,.int .i64 10,.int .i64 0,.int .i64 0,.int .i64 0,.bool true,.bool false]
def zq (k:Nat):lO:=⟨k,4621819117588971520,4617315517961601024,0,4602678819172646912,6000,0⟩
def aT (k:Nat):List lO:=(List.range k).map zq
def zu (k:Nat):Int:=[206,205,59,55,236,220,179,115].getD k 0
def Nd (k:Nat):Tb:={ ji with phases:=(List.range 8).map (fun p=>if p < k then LU p else default),conflict:=(List.range 8).map (fun p=>if p < k then zu p else 0),br:=(List.range 8).map (fun p=>if p < k then 1 else 0),bO:=aX (aT k) }
def E9 (k:Nat):List AV:=(Nd k).cells
def IB (k:Nat):List AV:=setCells (E9 k) (k * 13) LV
def Mo (k:Nat):List AV:=setCells (IB k) (k * 13 + 8) [I 70]
def CL (k:Nat):List AV:=setCells (Mo k) (k * 13 + 9) [I 80]
def C3 (k:Nat):List AV:=setCells (if k % 2=1 then CL k else IB k) (121 + k) [I 1]
def Mp (k:Nat):List AV:=setCells (C3 k) 113 [.sl ((aT k++[zq k]).map lO.cells)]
theorem IC (k:Nat) (hk:k < 8):(E9 k).length=131∧(IB k).length=131∧(Mo k).length=131∧(CL k).length=131∧(C3 k).length=131∧(Mp k).length=131:=by
 have e:k=0∨k=1∨k=2∨k=3∨k=4∨k=5∨k=6∨k=7:=by omega
 rcases e with rfl|rfl|rfl|rfl|rfl|rfl|rfl|rfl<;>exact ⟨rfl,rfl,rfl,rfl,rfl,rfl⟩
theorem LW (k:Nat) (hk:k < 8):(C3 k)[113]? = some (az lO.cells (aX (aT k))):=by
 have e:k=0∨k=1∨k=2∨k=3∨k=4∨k=5∨k=6∨k=7:=by omega
 rcases e with rfl|rfl|rfl|rfl|rfl|rfl|rfl|rfl<;>rfl
theorem Fa (k:Nat) (hk:k < 8):setCells (Mp k) (105 + k) [I (zu k)]=E9 (k + 1):=by
 have e:k=0∨k=1∨k=2∨k=3∨k=4∨k=5∨k=6∨k=7:=by omega
 rcases e with rfl|rfl|rfl|rfl|rfl|rfl|rfl|rfl<;>rfl
theorem ID (k:Nat) (hk:k < 8):gy .i64 (gy .i64 255 (IntKind.i64.wrap (3 * 2 ^ min (IntKind.u64.wrap (qp .i64 (IntKind.i64.wrap (IntKind.i64.wrap ((k:Int).tdiv 2) * 2)) 4)).toNat IntKind.i64.bits))) (IntKind.i64.wrap (1 * 2 ^ min k IntKind.i64.bits))=zu k∧0≤IntKind.u64.wrap (qp .i64 (IntKind.i64.wrap (IntKind.i64.wrap ((k:Int).tdiv 2) * 2)) 4):=by
 have e:k=0∨k=1∨k=2∨k=3∨k=4∨k=5∨k=6∨k=7:=by omega
 rcases e with rfl|rfl|rfl|rfl|rfl|rfl|rfl|rfl<;>decide +kernel
def Oa:AV:=.sl [[.sl [[I 0],[I 1]],.sl [[I 4],[I 5]]],[.sl [[I 2],[I 3]],.sl [[I 6],[I 7]]]]
def Nf:AV:=.sl [[I 204,I 136,I 34,I 68,I 5,I 20,I 30,I 100,I 100,I 3000,I 4000]]
def Ob:AV:=.sl [[I 34,I 600]]
def jk:Tb :=
  { phases:=(List.range 8).map (fun p=>{ LU p with kA:=if p=1∨p=5 then 1 else 0 }),groups:=some [⟨some [0,1],some [4,5]⟩,⟨some [2,3],some [6,7]⟩],conflict:=(List.range 8).map zu,bO:=some (aT 8),
    aL:=some [⟨204,136,34,68,5,20,30,100,100,3000,4000⟩],js:=some [⟨34,600⟩],extend:=100,e8:=200,start:=60,revert:=20,least:=100,br:=(List.range 8).map (fun p=>if p=1∨p=5 then 2 else 1),aG:=8640000,share:=600 }
theorem qJ:jk.Ok:=⟨rfl,rfl,rfl,by simp [jk],by simp [jk],by simp [jk,aT],by simp [jk],by simp [jk]⟩
def me.Spec (C:bI) (f:Nat):Prop:=C.c f [] (.agg jk.cells) none
def mg (n:Nat):List AV:=([(23,I 1),(75,I 1),(122,I 2),(126,I 2),(104,Oa),(114,Nf),(115,Ob),(116,I 100),(117,I 200),(118,I 60),(119,I 20),(120,I 100),(129,I 8640000),(130,I 600)]:List (Nat × AV)).take n |>.foldl (fun a x=>setCells a x.1 [x.2]) (E9 8)
theorem dO (n:Nat) (hn:n≤14):(mg n).length=131:=by
 have e:n=0∨n=1∨n=2∨n=3∨n=4∨n=5∨n=6∨n=7∨n=8∨n=9∨n=10∨n=11∨n=12∨n=13∨n=14:=by omega
 rcases e with rfl|rfl|rfl|rfl|rfl|rfl|rfl|rfl|rfl|rfl|rfl|rfl|rfl|rfl|rfl<;>rfl
theorem Fb:mg 14=jk.cells:=by rfl
section
variable {P:Program} (hm:P.follows .mixedOrders=true) {f:Nat}
include hm
theorem sU.ok (hc:bU P f=some gZ):sU.Spec (Pure P) f:=by
 intro t ht
 have hl:=Tb.len ht
 have hfl:=Ls ht.ln
 have h8:∀ k,((iA t k).map I).length=8:=fun k=>by simp [iA]
 have hw:aU ((iA t 8).map I) 0 (some 8)=some (.agg ((iA t 8).map I)):=rfl
 have hz:setCells [I 0,I 0,I 0,I 0,I 0,I 0,I 0,I 0] 0 ((iA t 8).map I)=(iA t 8).map I:=rfl
 have h0:(iA t 0).map I=[I 0,I 0,I 0,I 0,I 0,I 0,I 0,I 0]:=rfl
 refine aD hm hc (by show 1≤23; decide) (aC (keep:=[]) (i:=0) ?_)
 try simp only [I,B,D,RY,↓ KW,seval,gZ,Z.H,hl,hfl,h8,hw,hz]
 refine aF (fun k:Nat=>(⟨[(8,.dat (I k) none),(7,.dat (.agg (t.br.map I)) none),(3,.ptr 6 0),(2,.ptr 5 0)],[(6,⟨(iA t k).map I,[]⟩),(5,⟨[I 0,I 0,I 0,I 0,I 0,I 0,I 0,I 0],[]⟩)],[],400⟩:S)) (fun k=>8 - k) (fun k=>k≤8) ?_ 0 (by omega) ?_
 rotate_left
 ·refine ai (by decide) ?_ ?_ ?_ ?_<;>simp [LX,I,B,D,h0]
 intro k hk A back
 have hwr:=aB (k:=k) (by omega)
 rcases bf (decide ((k:Int) < 8)) with h|h
 ·have:k=8:=by have:=of_decide_eq_false h; omega
  subst this
  try simp only [I,B,D,RY,↓ KW,seval,h,hl,hfl,h8,hw,hz]
  try rfl
 ·have h8k:k < 8:=by have:=of_decide_eq_true h; omega
  have hb:0≤(k:Int)∧(k:Int) < 8:=by omega
  have hk7:k≤7:=by omega
  have hat:(t.br.map I)[k]? = some (I (sS t k)):=by
   have:=ht.br
   rw [List.getElem?_map,List.getElem?_eq_getElem (by omega)]
   simp [sS,this,h8k]
  have hfl8:(t.br.map I).length=8:=by simp [ht.br]
  have hnx:=yb t h8k
  have hkp:=yc t h8k
  have hpa:xk t k=if sS t k == 1 then 33 else if sS t k == 2 then 34 else 0:=rfl
  generalize sS t k=v at *
  generalize xk t k=w at *
  rcases bf (v == 1) with e1|e1<;>rcases bf (v == 2) with e2|e2
  all_goals
   simp only [e1,e2,if_true,if_false,Bool.false_eq_true] at hpa
   (subst hpa)
   try simp only [I,B,D,RY,↓ KW,seval,h,hb,hk7,hat,hfl8,e1,e2,hl,hfl,h8,hw,hz]
   first
    | refine back (k + 1) _ (by omega) (by omega) ?_
    | refine ⟨by omega,back (k + 1) _ (by omega) (by omega) ?_⟩
  ·have hkp:=hkp rfl
   refine ai (by decide) ?_ ?_ ?_ ?_<;>simp [LX,I,B,D,hkp,hwr]
  all_goals refine ai (by decide) ?_ ?_ ?_ ?_<;>simp [LX,I,B,D,hnx,hwr]
theorem me.ok {e1 e2 e3 e4 e5:Nat} (hc:bU P f=some (ic e1 e2 e3 e4 e5)):me.Spec (Pure P) f:=by
 show (Pure P).c f _ _ none
 have z0:bq=E9 0:=rfl
 have zl:bq.length=131:=rfl
 have x8:(E9 8).length=131:=rfl
 refine aD hm hc (by show 0≤78; decide) (aC (keep:=[]) (i:=0) ?_)
 try simp only [I,B,D,RY,↓ KW,seval,ic,Z.H,zl]
 refine aF (fun k:Nat=>(⟨[(2,.dat (I k) none),(1,.ptr 5 0),(0,.ptr 4 0)],[(5,⟨E9 k,if k=0 then [] else [(113,0)]⟩),(4,⟨bq,[]⟩)],aM (aT k) 0 e1,400⟩:S)) (fun k=>8 - k) (fun k=>k≤8) ?_ 0 (by omega) ?_
 rotate_left
 ·refine ai (by decide) ?_ ?_ ?_ ?_<;>simp [LX,I,B,D,z0,aT]
 intro k hk A back
 have hwr:=aB (k:=k) (by omega)
 rcases bf (decide ((k:Int) < 8)) with h|h
 ·have:k=8:=by have:=of_decide_eq_false h; omega
  subst this
  have t00:E9 8=mg 0:=rfl
  have t0:setCells (mg 0) 23 [I 1]=mg 1:=rfl
  have u0:=dO 0 (by omega)
  have t1:setCells (mg 1) 75 [I 1]=mg 2:=rfl
  have u1:=dO 1 (by omega)
  have t2:setCells (mg 2) 122 [I 2]=mg 3:=rfl
  have u2:=dO 2 (by omega)
  have t3:setCells (mg 3) 126 [I 2]=mg 4:=rfl
  have u3:=dO 3 (by omega)
  have t4:setCells (mg 4) 104 [.sl [[.sl [[I 0],[I 1]],.sl [[I 4],[I 5]]],[.sl [[I 2],[I 3]],.sl [[I 6],[I 7]]]]]=mg 5:=rfl
  have u4:=dO 4 (by omega)
  have t5:setCells (mg 5) 114 [.sl [[I 204,I 136,I 34,I 68,I 5,I 20,I 30,I 100,I 100,I 3000,I 4000]]]=mg 6:=rfl
  have u5:=dO 5 (by omega)
  have t6:setCells (mg 6) 115 [.sl [[I 34,I 600]]]=mg 7:=rfl
  have u6:=dO 6 (by omega)
  have t7:setCells (mg 7) 116 [I 100]=mg 8:=rfl
  have u7:=dO 7 (by omega)
  have t8:setCells (mg 8) 117 [I 200]=mg 9:=rfl
  have u8:=dO 8 (by omega)
  have t9:setCells (mg 9) 118 [I 60]=mg 10:=rfl
  have u9:=dO 9 (by omega)
  have NF:setCells (mg 10) 119 [I 20]=mg 11:=rfl
  have u10:=dO 10 (by omega)
  have t11:setCells (mg 11) 120 [I 100]=mg 12:=rfl
  have u11:=dO 11 (by omega)
  have t12:setCells (mg 12) 129 [I 8640000]=mg 13:=rfl
  have u12:=dO 12 (by omega)
  have t13:setCells (mg 13) 130 [I 600]=mg 14:=rfl
  have u13:=dO 13 (by omega)
  have u14:=dO 14 (by omega)
  have hw:aU (mg 14) 0 (some 131)=some (.agg (mg 14)):=rfl
  have hz:setCells bq 0 (mg 14)=mg 14:=rfl
  rw [← Fb]
  try simp only [I,B,D,RY,↓ KW,seval,h,zl,hw,hz,cN,t00,t0,u0,t1,u1,t2,u2,t3,u3,t4,u4,t5,u5,t6,u6,t7,u7,t8,u8,t9,u9,NF,u10,t11,u11,t12,u12,t13,u13,u14]
 ·have h8k:k < 8:=by have:=of_decide_eq_true h; omega
  have hb:0≤(k:Int)∧(k:Int) < 8:=by omega
  have hk7:k≤7:=by omega
  obtain ⟨l0,l1,l2,l3,l4,l5⟩:=IC k h8k
  have hat:=LW k h8k
  have hcon:=ID k h8k
  have hnx:=Fa k h8k
  have q1:setCells (E9 k) (k * 13) [.bool true,.int .i64 50,.int .i64 20,.int .i64 200,.int .i64 300,.int .i64 50,.int .i64 35,.int .i64 10,.int .i64 0,.int .i64 0,.int .i64 0,.bool true,.bool false]=IB k:=rfl
  have q2:setCells (IB k) (k * 13 + 8) [.int .i64 70]=Mo k:=rfl
  have q3:setCells (Mo k) (k * 13 + 9) [.int .i64 80]=CL k:=rfl
  have q4:k % 2=1→setCells (CL k) (121 + k) [.int .i64 1]=C3 k:=fun h=>by unfold C3; rw [if_pos h]
  have q5:¬ k % 2=1→setCells (IB k) (121 + k) [.int .i64 1]=C3 k:=fun h=>by unfold C3; rw [if_neg h]
  have q6:setCells (C3 k) 113 [.sl ((aT k).map lO.cells++[[.int .i64 k,.float .f64 4621819117588971520,.float .f64 4617315517961601024,.float .f64 0,.float .f64 4602678819172646912,.int .i64 6000,.int .i64 0]])]=Mp k:=by unfold Mp; rw [List.map_append]; rfl
  have hem:aT k=[]↔k=0:=by simp [aT]
  have md:((k:Int).tmod 2 == 1)=decide (k % 2=1):=by rw [show (k:Int).tmod 2=((k % 2:Nat):Int) from rfl,Bool.eq_iff_iff]; simp; omega
  have hk13:k * 13≤118:=by omega
  have hatk:(C3 k)[113]? = some (if k=0 then .aN else .sl ((aT k).map lO.cells)):=by
   rw [hat]
   by_cases hk0:k=0
   ·rw [if_pos hk0,hem.2 hk0]; rfl
   ·have:¬ aT k=[]:=fun h=>hk0 (hem.1 h)
    rw [if_neg hk0,aX,if_neg this,ay]
  have hsl:(aT k).length=k:=by simp [aT]
  have hsn:aT (k + 1)=aT k++[zq k]:=by simp [aT,List.range_succ]
  have hd7:∀ j:lO,j.cells.length=7:=fun _=>rfl
  have hsd:(zq k).cells=[.int .i64 k,.float .f64 4621819117588971520,.float .f64 4617315517961601024,.float .f64 0,.float .f64 4602678819172646912,.int .i64 6000,.int .i64 0]:=rfl
  have huk:0≤IntKind.u64.wrap (k:Int)∧IntKind.u64.wrap (k:Int)=(k:Int):=by rw [wrap_u64 (by omega)]; omega
  have e:k=0∨k=1∨k=2∨k=3∨k=4∨k=5∨k=6∨k=7:=by omega
  have hq:setCells (if k % 2=1 then CL k else IB k) (121 + k) [.int .i64 1]=C3 k:=rfl
  have hol:aM (aT k) 0 e1=if k=0 then [] else [(0,e1)]:=by
   unfold aM; simp only [hem]
  have hd0:aT 0=[]:=rfl
  clear q4 q5 hat
  rcases e with rfl|rfl|rfl|rfl|rfl|rfl|rfl|rfl
  ·(try simp only [I,B,D,RY,↓ KW,seval,if_true,if_false,hd0,List.map_nil,List.nil_append] at hq q1 q2 q3 q6 hnx hatk md hcon huk hol)
   try simp only [I,B,D,RY,↓ KW,seval,h,hb,l0,l1,l2,l3,l4,l5,hatk,hcon,q1,q2,q3,hq,q6,md,bX,hsl,huk,hol,lO.len,List.filter_cons,List.filter_nil,decide_true,decide_false,Bool.true_or,Bool.or_true,Bool.false_or,if_true,if_false,Bool.false_eq_true]
   have w1:IntKind.i64.wrap 1=1:=rfl
   have n1:¬ aT 1=[]:=by rw [aT]; decide
   refine back 1 _ (by omega) (by omega) ?_
   refine ai (by decide) ?_ ?_ ?_ ?_<;>simp [LX,I,B,D,hnx,w1,n1,hd0]
  ·(try simp only [I,B,D,RY,↓ KW,seval,if_true,if_false,hd0,List.map_nil,List.nil_append] at hq q1 q2 q3 q6 hnx hatk md hcon huk hol)
   try simp only [I,B,D,RY,↓ KW,seval,h,hb,l0,l1,l2,l3,l4,l5,hatk,hcon,q1,q2,q3,hq,q6,md,bX,hsl,huk,hol,lO.len,List.filter_cons,List.filter_nil,decide_true,decide_false,Bool.true_or,Bool.or_true,Bool.false_or,if_true,if_false,Bool.false_eq_true]
   have w1:IntKind.i64.wrap 2=2:=rfl
   have n2:¬ aT 2=[]:=by rw [aT]; decide
   have n1:¬ aT 1=[]:=by rw [aT]; decide
   refine back 2 _ (by omega) (by omega) ?_
   refine ai (by decide) ?_ ?_ ?_ ?_<;>simp [LX,I,B,D,hnx,w1,n2,n1]
  ·(try simp only [I,B,D,RY,↓ KW,seval,if_true,if_false,hd0,List.map_nil,List.nil_append] at hq q1 q2 q3 q6 hnx hatk md hcon huk hol)
   try simp only [I,B,D,RY,↓ KW,seval,h,hb,l0,l1,l2,l3,l4,l5,hatk,hcon,q1,q2,q3,hq,q6,md,bX,hsl,huk,hol,lO.len,List.filter_cons,List.filter_nil,decide_true,decide_false,Bool.true_or,Bool.or_true,Bool.false_or,if_true,if_false,Bool.false_eq_true]
   have w1:IntKind.i64.wrap 3=3:=rfl
   have n3:¬ aT 3=[]:=by rw [aT]; decide
   have n2:¬ aT 2=[]:=by rw [aT]; decide
   refine back 3 _ (by omega) (by omega) ?_
   refine ai (by decide) ?_ ?_ ?_ ?_<;>simp [LX,I,B,D,hnx,w1,n3,n2]
  ·(try simp only [I,B,D,RY,↓ KW,seval,if_true,if_false,hd0,List.map_nil,List.nil_append] at hq q1 q2 q3 q6 hnx hatk md hcon huk hol)
   try simp only [I,B,D,RY,↓ KW,seval,h,hb,l0,l1,l2,l3,l4,l5,hatk,hcon,q1,q2,q3,hq,q6,md,bX,hsl,huk,hol,lO.len,List.filter_cons,List.filter_nil,decide_true,decide_false,Bool.true_or,Bool.or_true,Bool.false_or,if_true,if_false,Bool.false_eq_true]
   have w1:IntKind.i64.wrap 4=4:=rfl
   have n4:¬ aT 4=[]:=by rw [aT]; decide
   have n3:¬ aT 3=[]:=by rw [aT]; decide
   refine back 4 _ (by omega) (by omega) ?_
   refine ai (by decide) ?_ ?_ ?_ ?_<;>simp [LX,I,B,D,hnx,w1,n4,n3]
  ·(try simp only [I,B,D,RY,↓ KW,seval,if_true,if_false,hd0,List.map_nil,List.nil_append] at hq q1 q2 q3 q6 hnx hatk md hcon huk hol)
   try simp only [I,B,D,RY,↓ KW,seval,h,hb,l0,l1,l2,l3,l4,l5,hatk,hcon,q1,q2,q3,hq,q6,md,bX,hsl,huk,hol,lO.len,List.filter_cons,List.filter_nil,decide_true,decide_false,Bool.true_or,Bool.or_true,Bool.false_or,if_true,if_false,Bool.false_eq_true]
   have w1:IntKind.i64.wrap 5=5:=rfl
   have n5:¬ aT 5=[]:=by rw [aT]; decide
   have n4:¬ aT 4=[]:=by rw [aT]; decide
   refine back 5 _ (by omega) (by omega) ?_
   refine ai (by decide) ?_ ?_ ?_ ?_<;>simp [LX,I,B,D,hnx,w1,n5,n4]
  ·(try simp only [I,B,D,RY,↓ KW,seval,if_true,if_false,hd0,List.map_nil,List.nil_append] at hq q1 q2 q3 q6 hnx hatk md hcon huk hol)
   try simp only [I,B,D,RY,↓ KW,seval,h,hb,l0,l1,l2,l3,l4,l5,hatk,hcon,q1,q2,q3,hq,q6,md,bX,hsl,huk,hol,lO.len,List.filter_cons,List.filter_nil,decide_true,decide_false,Bool.true_or,Bool.or_true,Bool.false_or,if_true,if_false,Bool.false_eq_true]
   have w1:IntKind.i64.wrap 6=6:=rfl
   have n6:¬ aT 6=[]:=by rw [aT]; decide
   have n5:¬ aT 5=[]:=by rw [aT]; decide
   refine back 6 _ (by omega) (by omega) ?_
   refine ai (by decide) ?_ ?_ ?_ ?_<;>simp [LX,I,B,D,hnx,w1,n6,n5]
  ·(try simp only [I,B,D,RY,↓ KW,seval,if_true,if_false,hd0,List.map_nil,List.nil_append] at hq q1 q2 q3 q6 hnx hatk md hcon huk hol)
   try simp only [I,B,D,RY,↓ KW,seval,h,hb,l0,l1,l2,l3,l4,l5,hatk,hcon,q1,q2,q3,hq,q6,md,bX,hsl,huk,hol,lO.len,List.filter_cons,List.filter_nil,decide_true,decide_false,Bool.true_or,Bool.or_true,Bool.false_or,if_true,if_false,Bool.false_eq_true]
   have w1:IntKind.i64.wrap 7=7:=rfl
   have n7:¬ aT 7=[]:=by rw [aT]; decide
   have n6:¬ aT 6=[]:=by rw [aT]; decide
   refine back 7 _ (by omega) (by omega) ?_
   refine ai (by decide) ?_ ?_ ?_ ?_<;>simp [LX,I,B,D,hnx,w1,n7,n6]
  ·(try simp only [I,B,D,RY,↓ KW,seval,if_true,if_false,hd0,List.map_nil,List.nil_append] at hq q1 q2 q3 q6 hnx hatk md hcon huk hol)
   try simp only [I,B,D,RY,↓ KW,seval,h,hb,l0,l1,l2,l3,l4,l5,hatk,hcon,q1,q2,q3,hq,q6,md,bX,hsl,huk,hol,lO.len,List.filter_cons,List.filter_nil,decide_true,decide_false,Bool.true_or,Bool.or_true,Bool.false_or,if_true,if_false,Bool.false_eq_true]
   have w1:IntKind.i64.wrap 8=8:=rfl
   have n8:¬ aT 8=[]:=by rw [aT]; decide
   have n7:¬ aT 7=[]:=by rw [aT]; decide
   refine back 8 _ (by omega) (by omega) ?_
   refine ai (by decide) ?_ ?_ ?_ ?_<;>simp [LX,I,B,D,hnx,w1,n8,n7]
end
end Go.Eng
namespace Go.Eng
open Go
def Ng (t:Tb) (b:Bx) (x:Fm):Bx :=
 if decide (gS b.time 0 9999 + 1 ≥ t.start) then ⟨2,0,b.fault,b.st,b.iz,x.lines,IntKind.i64.wrap (b.tick + 1)⟩ else ⟨1,gS b.time 0 9999 + 1,b.fault,b.st,b.iz,x.lines,IntKind.i64.wrap (b.tick + 1)⟩
def Nh (t:Tb) (b:Bx):AV:=if decide (gS b.time 0 9999 + 1 ≥ t.start) then .sl [FV (IntKind.i64.wrap (b.tick + 1),1,2)] else .aN
def Ni:Fm:=⟨none,0,0,0,0,false⟩
def sV (i:Nat):Bx:=if i < 60 then ⟨1,i,0,qw jk,Iy,0,i⟩ else ⟨2,0,0,qw jk,Iy,0,60⟩
theorem vL (i:Nat):(sV i).Ok:=by unfold sV; split<;>exact ⟨qG _,rfl,rfl⟩
theorem CM {i:Nat} (h:i < 60):Ng jk (sV i) Ni=sV (i + 1):=by
 have e1:gS (i:Int) 0 9999 + 1=(i:Int) + 1:=by unfold gS; split<;>(try split)<;>omega
 have e2:IntKind.i64.wrap ((i:Int) + 1)=(i:Int) + 1:=aE (by omega) (by omega)
 have e3:sV i=⟨1,i,0,qw jk,Iy,0,i⟩:=if_pos h
 rw [e3]
 show (if decide (gS (i:Int) 0 9999 + 1 ≥ 60) then (⟨2,0,0,qw jk,Iy,0,IntKind.i64.wrap ((i:Int) + 1)⟩:Bx) else ⟨1,gS (i:Int) 0 9999 + 1,0,qw jk,Iy,0,IntKind.i64.wrap ((i:Int) + 1)⟩)=sV (i + 1)
 rw [e1,e2]
 unfold sV
 by_cases h9:i + 1 < 60
 ·have:decide ((i:Int) + 1 ≥ 60)=false:=by simp; omega
  rw [if_pos h9,this]; simp
 ·have:decide ((i:Int) + 1 ≥ 60)=true:=by simp; omega
  have h60:i=59:=by omega
  rw [if_neg h9,this]; subst h60; rfl
def mL.Spec (C:bI) (f:Nat):Prop:=C.c f [] (B true) none
def oL.Spec (C:bI) (f:Nat):Prop:=∀ (t:Tb) (b:Bx) (x:Fm),t.Ok→b.Ok→b.mode=1→mc x=true→C.c f [.agg t.cells,.agg b.cells,.agg x.cells] (.oS [.agg (Ng t b x).cells,.agg vK,Nh t b]) none
theorem LY {t:Tb} (h:t.Ok):t.cells[118]? = some (I t.start):=Tb.tail_at h 2 (by omega)
section
variable {P:Program} (hm:P.follows .mixedOrders=true) {f:Nat}
include hm
theorem oL.ok {fG fC fP fR fM fT f1:Nat} (hc:tF true P f=some (gW fG fC fP fR fM fT f1)) (hG:jg.Spec (Pure P) fG) (hC:gh.Spec (Pure P) fC) (hP:sU.Spec (Pure P) fP) (hR:sP.Spec (Pure P) fR) (hM:sO.Spec (Pure P) fM)
  (h0:sQ.Spec (Pure P) f1) (h1:sR.Spec (Pure P) f1):oL.Spec (Pure P) f:=by
 intro t b x ht hb hmode hx
 obtain ⟨m,ti,fl,st,iz,ln,tk⟩:=b
 simp only at hmode
 subst hmode
 have hl:=Tb.len ht
 have hp:=Tb.whole ht
 have h118:=LY ht
 have cG:=hG x
 rw [hx] at cG
 have cC:=hC x ln
 have hcx:cn x ln=x:=by unfold cn; rw [hx]; rfl
 rw [hcx] at cC
 have cP:=hP t ht
 have cM:=hM ti
 have tR:∀ m ti fl ln tk,(Bx.mk m ti fl st iz ln tk).Ok:=fun _ _ _ _ _=>⟨hb.st,hb.iz⟩
 have c1:∀ m ti fl ln tk,(Bx.mk m ti fl st iz ln tk).cells.length=138:=fun _ _ _ _ _=>Bx.len (tR ..)
 have c2:∀ m ti fl ln tk,aU (Bx.mk m ti fl st iz ln tk).cells 0 (some 138)=some (.agg (Bx.mk m ti fl st iz ln tk).cells):=fun _ _ _ _ _=>Bx.whole (tR ..)
 have c3:∀ m ti fl ln tk,(Bx.mk m ti fl st iz ln tk).cells[0]? = some (I m):=fun _ _ _ _ _=>rfl
 have c4:∀ m ti fl ln tk,(Bx.mk m ti fl st iz ln tk).cells[1]? = some (I ti):=fun _ _ _ _ _=>rfl
 have c5:∀ m ti fl ln tk,(Bx.mk m ti fl st iz ln tk).cells[2]? = some (I fl):=fun _ _ _ _ _=>rfl
 have c6:∀ m ti fl ln tk,(Bx.mk m ti fl st iz ln tk).cells[136]? = some (I ln):=fun m ti fl ln tk=>(Bx.qI (tR m ti fl ln tk)).1
 have c7:∀ m ti fl ln tk,(Bx.mk m ti fl st iz ln tk).cells[137]? = some (I tk):=fun m ti fl ln tk=>(Bx.qI (tR m ti fl ln tk)).2
 have c8:∀ m ti fl ln tk,(Bx.mk m ti fl st iz ln tk).cells[109]? = some (I st.pre.uC):=fun m ti fl ln tk=>Bx.CI (tR m ti fl ln tk)
 have c9:∀ m ti fl ln tk,(Bx.mk m ti fl st iz ln tk).cells[99]? = some (I st.rings.group):=fun m ti fl ln tk=>Bx.CJ (tR m ti fl ln tk)
 have d0:∀ m ti fl ln tk v,setCells (Bx.mk m ti fl st iz ln tk).cells 0 [I v]=(Bx.mk v ti fl st iz ln tk).cells:=fun _ _ _ _ _ _=>rfl
 have d1:∀ m ti fl ln tk v,setCells (Bx.mk m ti fl st iz ln tk).cells 1 [I v]=(Bx.mk m v fl st iz ln tk).cells:=fun _ _ _ _ _ _=>rfl
 have d2:∀ m ti fl ln tk v,setCells (Bx.mk m ti fl st iz ln tk).cells 136 [I v]=(Bx.mk m ti fl st iz v tk).cells:=fun m ti fl ln tk v=>(Bx.lX (tR m ti fl ln tk) v).1
 have d3:∀ m ti fl ln tk v,setCells (Bx.mk m ti fl st iz ln tk).cells 137 [I v]=(Bx.mk m ti fl st iz ln v).cells:=fun m ti fl ln tk v=>(Bx.lX (tR m ti fl ln tk) v).2
 have d4:∀ m ti fl ln tk,setCells bB 0 (Bx.mk m ti fl st iz ln tk).cells=(Bx.mk m ti fl st iz ln tk).cells:=fun _ _ _ _ _=>gA (by rw [c1]; rfl)
 have d5:bB.length=138:=rfl
 have hf6:x.cells.length=6:=rfl
 have hfw:aU x.cells 0 (some 6)=some (.agg x.cells):=rfl
 have hf3:x.cells[3]? = some (I x.lines):=rfl
 have hfs:setCells x.cells 0 x.cells=x.cells:=rfl
 have p1:((AA t).map I).length=8:=by simp [AA,iA]
 have p2:setCells [.int .i64 0,.int .i64 0,.int .i64 0,.int .i64 0,.int .i64 0,.int .i64 0,.int .i64 0,.int .i64 0] 0 ((AA t).map I)=(AA t).map I:=gA (by rw [p1]; rfl)
 have p3:setCells ((AA t).map I) 0 vK=vK:=rfl
 have p4:vK.length=8:=rfl
 have p5:aU vK 0 (some 8)=some (.agg vK):=rfl
 have p6:setCells [.int .i64 0,.int .i64 0,.int .i64 0,.int .i64 0,.int .i64 0,.int .i64 0,.int .i64 0,.int .i64 0] 0 vK=vK:=rfl
 have n1:([.aN]:List AV).length=1:=rfl
 refine aD hm hc (by show 3≤145; decide) (aC (keep:=[]) (i:=0) ?_)
 try simp only [I,B,D,RY,th,tj,tr,↓ KW,↓ tq,seval,gW,Z.H,hl,hp,h118,c1,c2,c3,c4,c5,c6,c7,c8,c9,d0,d1,d2,d3,d4,d5,hf6,hfw,hf3,hfs,p1,p2,p3,p4,p5,p6]
 first | refine aj cG ?_ | refine l9 cG ?_
 try simp only [I,B,D,RY,th,tj,tr,↓ KW,↓ tq,seval,hl,hp,h118,c1,c2,c3,c4,c5,c6,c7,c8,c9,d0,d1,d2,d3,d4,d5,hf6,hfw,hf3,hfs,p1,p2,p3,p4,p5,p6]
 first | refine aj cC ?_ | refine l9 cC ?_
 try simp only [I,B,D,RY,th,tj,tr,↓ KW,↓ tq,seval,hl,hp,h118,c1,c2,c3,c4,c5,c6,c7,c8,c9,d0,d1,d2,d3,d4,d5,hf6,hfw,hf3,hfs,p1,p2,p3,p4,p5,p6]
 first | refine aj cP ?_ | refine l9 cP ?_
 try simp only [I,B,D,RY,th,tj,tr,↓ KW,↓ tq,seval,hl,hp,h118,c1,c2,c3,c4,c5,c6,c7,c8,c9,d0,d1,d2,d3,d4,d5,hf6,hfw,hf3,hfs,p1,p2,p3,p4,p5,p6]
 first | refine aj hR ?_ | refine l9 hR ?_
 try simp only [I,B,D,RY,th,tj,tr,↓ KW,↓ tq,seval,hl,hp,h118,c1,c2,c3,c4,c5,c6,c7,c8,c9,d0,d1,d2,d3,d4,d5,hf6,hfw,hf3,hfs,p1,p2,p3,p4,p5,p6]
 first | refine aj cM ?_ | refine l9 cM ?_
 try simp only [I,B,D,RY,th,tj,tr,↓ KW,↓ tq,seval,hl,hp,h118,c1,c2,c3,c4,c5,c6,c7,c8,c9,d0,d1,d2,d3,d4,d5,hf6,hfw,hf3,hfs,p1,p2,p3,p4,p5,p6]
 have hst:Ng t ⟨1,ti,fl,st,iz,ln,tk⟩ x=if decide (t.start≤gS ti 0 9999 + 1) then ⟨2,0,fl,st,iz,x.lines,IntKind.i64.wrap (tk + 1)⟩ else ⟨1,gS ti 0 9999 + 1,fl,st,iz,x.lines,IntKind.i64.wrap (tk + 1)⟩:=rfl
 have hev:Nh t ⟨1,ti,fl,st,iz,ln,tk⟩=if decide (t.start≤gS ti 0 9999 + 1) then .sl [FV (IntKind.i64.wrap (tk + 1),1,2)] else .aN:=rfl
 rw [hst,hev]
 generalize gS ti 0 9999 + 1=v at *
 rcases bf (decide (t.start≤v)) with h|h
 ·simp only [h,if_false,Bool.false_eq_true]
  try simp only [I,B,D,RY,th,tj,tr,↓ KW,↓ tq,seval,h,hl,hp,h118,c1,c2,c3,c4,c5,c6,c7,c8,c9,d0,d1,d2,d3,d4,d5,hf6,hfw,hf3,hfs,p1,p2,p3,p4,p5,p6]
  refine ⟨rfl,dQ (h0 .aN ⟨1,v,fl,st,iz,x.lines,IntKind.i64.wrap (tk + 1)⟩ 5 0 (tR ..)) ?_⟩
  try simp only [I,B,D,RY,th,tj,tr,↓ KW,↓ tq,seval,hl,hp,h118,c1,c2,c3,c4,c5,c6,c7,c8,c9,d0,d1,d2,d3,d4,d5,hf6,hfw,hf3,hfs,p1,p2,p3,p4,p5,p6]
  refine ⟨rfl,dQ (h0 .aN ⟨1,v,fl,st,iz,x.lines,IntKind.i64.wrap (tk + 1)⟩ 2 fl (tR ..)) ?_⟩
  try simp only [I,B,D,RY,th,tj,tr,↓ KW,↓ tq,seval,hl,hp,h118,c1,c2,c3,c4,c5,c6,c7,c8,c9,d0,d1,d2,d3,d4,d5,hf6,hfw,hf3,hfs,p1,p2,p3,p4,p5,p6]
  refine ⟨rfl,dQ (h0 .aN ⟨1,v,fl,st,iz,x.lines,IntKind.i64.wrap (tk + 1)⟩ 1 1 (tR ..)) ?_⟩
  try simp only [I,B,D,RY,th,tj,tr,↓ KW,↓ tq,seval,hl,hp,h118,c1,c2,c3,c4,c5,c6,c7,c8,c9,d0,d1,d2,d3,d4,d5,hf6,hfw,hf3,hfs,p1,p2,p3,p4,p5,p6]
  refine ⟨rfl,dQ (h0 .aN ⟨1,v,fl,st,iz,x.lines,IntKind.i64.wrap (tk + 1)⟩ 3 st.pre.uC (tR ..)) ?_⟩
  try simp only [I,B,D,RY,th,tj,tr,↓ KW,↓ tq,seval,hl,hp,h118,c1,c2,c3,c4,c5,c6,c7,c8,c9,d0,d1,d2,d3,d4,d5,hf6,hfw,hf3,hfs,p1,p2,p3,p4,p5,p6]
  refine ⟨rfl,dQ (h0 .aN ⟨1,v,fl,st,iz,x.lines,IntKind.i64.wrap (tk + 1)⟩ 4 st.rings.group (tR ..)) ?_⟩
  try simp only [I,B,D,RY,th,tj,tr,↓ KW,↓ tq,seval,hl,hp,h118,c1,c2,c3,c4,c5,c6,c7,c8,c9,d0,d1,d2,d3,d4,d5,hf6,hfw,hf3,hfs,p1,p2,p3,p4,p5,p6]
  refine FE rfl ?_
  try simp only [I,B,D,RY,th,tj,tr,↓ KW,↓ tq,seval,FV,hl,hp,h118,c1,c2,c3,c4,c5,c6,c7,c8,c9,d0,d1,d2,d3,d4,d5,hf6,hfw,hf3,hfs,p1,p2,p3,p4,p5,p6]
 ·simp only [h,if_true]
  try simp only [I,B,D,RY,th,tj,tr,↓ KW,↓ tq,seval,h,hl,hp,h118,c1,c2,c3,c4,c5,c6,c7,c8,c9,d0,d1,d2,d3,d4,d5,hf6,hfw,hf3,hfs,p1,p2,p3,p4,p5,p6]
  refine ⟨rfl,dQ (h0 .aN ⟨2,0,fl,st,iz,x.lines,IntKind.i64.wrap (tk + 1)⟩ 5 0 (tR ..)) ?_⟩
  try simp only [I,B,D,RY,th,tj,tr,↓ KW,↓ tq,seval,hl,hp,h118,c1,c2,c3,c4,c5,c6,c7,c8,c9,d0,d1,d2,d3,d4,d5,hf6,hfw,hf3,hfs,p1,p2,p3,p4,p5,p6]
  refine ⟨rfl,dQ (h0 .aN ⟨2,0,fl,st,iz,x.lines,IntKind.i64.wrap (tk + 1)⟩ 2 fl (tR ..)) ?_⟩
  try simp only [I,B,D,RY,th,tj,tr,↓ KW,↓ tq,seval,hl,hp,h118,c1,c2,c3,c4,c5,c6,c7,c8,c9,d0,d1,d2,d3,d4,d5,hf6,hfw,hf3,hfs,p1,p2,p3,p4,p5,p6]
  refine ⟨rfl,dQ (h1 ⟨2,0,fl,st,iz,x.lines,IntKind.i64.wrap (tk + 1)⟩ 1 2 (tR ..)) ?_⟩
  try simp only [I,B,D,RY,th,tj,tr,↓ KW,↓ tq,seval,hl,hp,h118,c1,c2,c3,c4,c5,c6,c7,c8,c9,d0,d1,d2,d3,d4,d5,hf6,hfw,hf3,hfs,p1,p2,p3,p4,p5,p6]
  refine ⟨rfl,dQ (h0 (.sl [FV (IntKind.i64.wrap (tk + 1),1,2)]) ⟨2,0,fl,st,iz,x.lines,IntKind.i64.wrap (tk + 1)⟩ 3 st.pre.uC (tR ..)) ?_⟩
  try simp only [I,B,D,RY,th,tj,tr,↓ KW,↓ tq,seval,hl,hp,h118,c1,c2,c3,c4,c5,c6,c7,c8,c9,d0,d1,d2,d3,d4,d5,hf6,hfw,hf3,hfs,p1,p2,p3,p4,p5,p6]
  refine ⟨rfl,dQ (h0 (.sl [FV (IntKind.i64.wrap (tk + 1),1,2)]) ⟨2,0,fl,st,iz,x.lines,IntKind.i64.wrap (tk + 1)⟩ 4 st.rings.group (tR ..)) ?_⟩
  try simp only [I,B,D,RY,th,tj,tr,↓ KW,↓ tq,seval,hl,hp,h118,c1,c2,c3,c4,c5,c6,c7,c8,c9,d0,d1,d2,d3,d4,d5,hf6,hfw,hf3,hfs,p1,p2,p3,p4,p5,p6]
  refine FE rfl ?_
  try simp only [I,B,D,RY,th,tj,tr,↓ KW,↓ tq,seval,FV,hl,hp,h118,c1,c2,c3,c4,c5,c6,c7,c8,c9,d0,d1,d2,d3,d4,d5,hf6,hfw,hf3,hfs,p1,p2,p3,p4,p5,p6]
theorem mL.ok {fS fB fT:Nat} (hc:bU P f=some (je fS fB fT)) (hS:me.Spec (Pure P) fS) (hB:oK.Spec (Pure P) fB) (hT:oL.Spec (Pure P) fT):mL.Spec (Pure P) f:=by
 show (Pure P).c f _ _ none
 have hl:=Tb.len qJ
 have hp:=Tb.whole qJ
 have z1:bq.length=131:=rfl
 have z2:setCells bq 0 jk.cells=jk.cells:=gA (by rw [hl]; rfl)
 have z3:bB.length=138:=rfl
 have b1:∀ i,(sV i).cells.length=138:=fun i=>Bx.len (vL i)
 have b2:∀ i,aU (sV i).cells 0 (some 138)=some (.agg (sV i).cells):=fun i=>Bx.whole (vL i)
 have b3:∀ i,setCells bB 0 (sV i).cells=(sV i).cells:=fun i=>gA (by rw [b1]; rfl)
 have b4:∀ i j,setCells (sV i).cells 0 (sV j).cells=(sV j).cells:=fun i j=>gA (by rw [b1,b1])
 have b5:(Az jk)=sV 0:=rfl
 have r1:vK.length=8:=rfl
 have r2:setCells [.int .i64 0,.int .i64 0,.int .i64 0,.int .i64 0,.int .i64 0,.int .i64 0,.int .i64 0,.int .i64 0] 0 vK=vK:=rfl
 have r3:vK[3]? = some (I 1):=rfl
 have hB':=hB jk qJ
 rw [b5] at hB'
 clear hB b5
 refine aD hm hc (by show 0≤37; decide) (aC (keep:=[]) (i:=0) ?_)
 try simp only [I,B,D,RY,↓ KW,seval,je,Z.H,hl,hp,z1,z2,z3,b1,b2,b3,b4,r1,r2,r3]
 refine aj hS ?_
 try simp only [I,B,D,RY,↓ KW,seval,hl,hp,z1,z2,z3,b1,b2,b3,b4,r1,r2,r3]
 refine aj hB' ?_
 try simp only [I,B,D,RY,↓ KW,seval,hl,hp,z1,z2,z3,b1,b2,b3,b4,r1,r2,r3]
 refine aF (fun i:Nat=>(⟨[(3,.dat (I i) none),(2,.ptr 10 0),(1,.ptr 6 0)],[(10,⟨(sV i).cells,[]⟩),(6,⟨jk.cells,[]⟩)],[],400⟩:S)) (fun i=>60 - i) (fun i=>i≤60) ?_ 0 (by omega) ?_
 rotate_left
 ·refine ai (by decide) ?_ ?_ ?_ ?_<;>simp [LX,I,B,D]
 intro i hi A back
 have hwr:=aB (k:=i) (by omega)
 rcases bf (decide ((i:Int) < 60)) with h|h
 ·have:i=60:=by have:=of_decide_eq_false h; omega
  subst this
  have e1:(sV 60).cells[0]? = some (I 2):=rfl
  have e2:(sV 60).cells[137]? = some (I 60):=(Bx.qI (vL 60)).2
  try simp only [I,B,D,RY,↓ KW,seval,h,e1,e2,hl,hp,z1,z2,z3,b1,b2,b3,b4,r1,r2,r3]
 ·have h6:i < 60:=by have:=of_decide_eq_true h; omega
  have e0:sV i=⟨1,i,0,qw jk,Iy,0,i⟩:=if_pos h6
  have e1:(sV i).cells[0]? = some (I 1):=by rw [e0]; rfl
  have cT:=hT jk (sV i) Ni qJ (vL i) (by rw [e0]) rfl
  rw [CM h6] at cT
  have hfc:Ni.cells=[.aN,.int .i64 0,.int .i64 0,.int .i64 0,.int .i64 0,.bool false]:=rfl
  rw [hfc] at cT
  generalize Nh jk (sV i)=ev at *
  try simp only [I,B,D,RY,↓ KW,seval,h,e1,hl,hp,z1,z2,z3,b1,b2,b3,b4,r1,r2,r3]
  refine aj cT ?_
  try simp only [I,B,D,RY,↓ KW,seval,e1,hl,hp,z1,z2,z3,b1,b2,b3,b4,r1,r2,r3]
  refine back (i + 1) _ (by omega) (by omega) ?_
  refine ai (by decide) ?_ ?_ ?_ ?_<;>simp [LX,I,B,D,hwr]
end
end Go.Eng
namespace Go.Eng
open Go
structure Ac where
 start:Int
 fin:Int
 cut:Int
 free:Bool
 back:Bool
 deriving Inhabited,DecidableEq
def Ac.cells (a:Ac):List AV:=[I a.start,I a.fin,I a.cut,B a.free,B a.back]
theorem Ac.flat (a:Ac):kT (.agg a.cells)=true:=rfl
theorem Rl.flat (r:Rl):kT (.agg r.cells)=true:=rfl
theorem Pr.flat {s:Pr} (h:s.held.length=4):kT (.agg s.cells)=true:=by rw [Pr.cells,x7 h]; rfl
structure Oc (t:Tb) (s:Pr) (l:List Rn):Prop where
 t:t.Ok
 s:s.held.length=4
 l:l.length=8
def tgt (r:Rl):Int:=if r.clear=0 then r.mW else r.clear
end Go.Eng
namespace Go.Eng
open Go
section
open Z
def ig (g0:Nat):eV:=⟨21,[.cell 2 (some 117)],r [o 1 (w 0),o 2 (.alloc ef)] (r [o 5 (.build [i 0,i 0] [(0,1,k (i (-1))),(1,1,k (i (-1)))]),o 6 (.build [i 0,i 0,i 0,F] [(1,2,t 5)]),o 7 (.build ef [(96,4,t 6)]),o 3 (.alloc ef),n (s 3 7 117)] (j (r [V 8 (i 0)] (u 0 (.loop (r [o 9 (bb .lss 8 (i 8))] (j (c 9 z (.exit 0)) (j (u 1 (r [M 10 8,M 4 10] (R [M 11 4,M 12 4,o 13 (f 1 0),o 14 (A 13 12 8 13),o 15 (L 14 13),o 16 (.call g0 [t 15]),o 17 (f 3 0),o 18 (A 17 11 8 12),n (s 18 16 12)]))) (R [o 19 (bb .add 8 (i 1)),M 8 19]))))))) (r [o 20 (L 3 117),n (s 2 20 117)] y)))⟩
def jh (g0:Nat):eV:=⟨6,[.cell 2 (some 12)],r [o 1 (w 0),o 2 (.alloc sw)] (r [o 3 (L 1 13),o 4 (.call g0 [t 3]),o 5 (.build sw [(0,1,k (i 0)),(1,1,k (i 9999)),(9,3,t 4)]),n (s 2 5 12)] y)⟩
def kQ:eV:=⟨6,[.cell 2 (some 3)],r [o 1 (w 0),o 2 (.alloc [i 0,i 0,i 0])] (r [o 3 (f 1 3),o 4 (l 3),o 5 (.build [i 0,i 0,i 0] [(0,1,t 4)]),n (s 2 5 3)] y)⟩
end
end Go.Eng
namespace Go.Eng
open Go
structure Cu where
 start:Bool
 fin:Bool
 here:Bool
 push:Bool
 vM:Bool
 hold:Bool
 early:Bool
 cut:Bool
 deriving Inhabited,DecidableEq
def Cu.cells (c:Cu):List AV:=[B c.start,B c.fin,B c.here,B c.push,B c.vM,B c.hold,B c.early,B c.cut]
structure Tr where
 limit:Int
 up:Int
 down:Int
 deriving Inhabited,DecidableEq
def Tr.cells (x:Tr):List AV:=[I x.limit,I x.up,I x.down]
def sW.Spec (C:bI) (f:Nat):Prop:=∀ p:Ph,C.c f [.agg p.cells] (.agg (Tr.cells ⟨p.max,0,0⟩)) none
def oM.Spec (C:bI) (f:Nat):Prop:=∀ p:Ph,C.c f [.agg p.cells] (.agg (w5 p).cells) none
section
variable {P:Program} (hm:P.follows .mixedOrders=true) {f:Nat}
include hm
theorem sW.ok (hc:bU P f=some kQ):sW.Spec (Pure P) f:=by
 intro p
 refine aD hm hc (by show 1≤6; decide) (aC (keep:=[]) (i:=0) ?_)
 try simp only [I,B,D,RX,↓ KW,seval,kQ,Z.H,Ph.cells]
 rfl
theorem oM.ok {fG:Nat} (hc:bU P f=some (jh fG)) (hG:sW.Spec (Pure P) fG):oM.Spec (Pure P) f:=by
 intro p
 have q:aU p.cells 0 (some 13)=some (.agg p.cells):=rfl
 refine aD hm hc (by show 1≤6; decide) (aC (keep:=[]) (i:=0) ?_)
 try simp only [I,B,D,RX,↓ KW,seval,jh,Z.H,q]
 refine aj (hG p) ?_
 try simp only [I,B,D,RX,↓ KW,seval,Tr.cells,sw]
 rfl
omit hm in
theorem bc (b:Bool):b=false∨b=true:=by cases b<;>simp
end
end Go.Eng
namespace Go.Eng
open Go
def EL.put (r:EL) (k x:Int):EL:=if k=0 then { r with a0:=x } else { r with a1:=x }
end Go.Eng
namespace Go.Eng
open Go
section
variable {P:Program} (hm:P.follows .mixedOrders=true) {f:Nat}
include hm
theorem Fc.ok {fB:Nat} (hc:bU P f=some (ig fB)) (hB:oM.Spec (Pure P) fB):vC.Spec (Pure P) f:=by
 intro t ht
 have hl:=ht.len
 have hzl:ef.length=117:=rfl
 have hz0:List.take 96 ef++[I 0,I (-1),I (-1),B false]++List.drop 100 ef=({ iy t 0 with rings:=⟨0,-1,-1,false⟩ }:kX).cells:=rfl
 have hr:∀ k,({ iy t k with rings:=⟨0,-1,-1,false⟩ }:kX).Ok:=fun k=>⟨(Cj t k).runs,rfl,rfl⟩
 have hs0:∀ k,setCells ef 0 ({ iy t k with rings:=⟨0,-1,-1,false⟩ }:kX).cells=({ iy t k with rings:=⟨0,-1,-1,false⟩ }:kX).cells:=fun k=>gA (by rw [kX.len (hr k)]; rfl)
 have hl0:=fun k=>kX.len (hr k)
 have hwo:=fun k=>kX.whole (hr k)
 refine aD hm hc (by show 1≤21; decide) (aC (keep:=[]) (i:=0) ?_)
 try simp only [I,B,D,RY,↓ KW,seval,ig,Z.H,hl,hzl,hz0,hs0,hl0,hwo]
 refine aF (fun k:Nat=>(⟨[(8,.dat (I k) none),(1,.ptr 4 0),(2,.ptr 5 0),(3,.ptr 9 0)],[(4,⟨t.cells,[]⟩),(5,⟨ef,[]⟩),(9,⟨({ iy t k with rings:=⟨0,-1,-1,false⟩ }:kX).cells,[]⟩)],[],400⟩:S)) (fun k=>8 - k) (fun k=>k≤8) ?_ 0 (by omega) ?_
 ·intro k hk A back
  have hw:=aB (k:=k) (by omega)
  try simp only [I,B,D,RY,↓ KW,seval]
  rcases bc (decide ((k:Int) < 8)) with h2|h2
  ·have:k=8:=by have:=of_decide_eq_false h2; omega
   subst this
   try simp only [I,B,D,RY,↓ KW,seval,h2,hl,hzl,hz0,hs0,hl0,hwo]
   rfl
  ·have h8:k < 8:=by have:=of_decide_eq_true h2; omega
   have hx:0≤(k:Int)∧(k:Int) < 8:=by omega
   have hph:=Tb.nw (ht.HQ h8)
   have hs:=kX.Lr (hr k) h8 (w5 (bn t k))
   have hs2:({ iy t k with runs:=(iy t k).runs.set k (w5 (bn t k)),rings:=⟨0,-1,-1,false⟩ }:kX)={ iy t (k + 1) with rings:=⟨0,-1,-1,false⟩ }:=by rw [← x4 t h8]
   simp only at hs
   rw [hs2] at hs
   try simp only [I,B,D,RY,↓ KW,seval,h2,hx,hph,hl,hzl,hz0,hs0,hl0,hwo]
   refine aj (hB _) ?_
   try simp only [I,B,D,RY,↓ KW,seval,hx,hs,Rn.len,hl,hzl,hz0,hs0,hl0,hwo]
   refine ⟨by omega,back (k + 1) _ (by omega) (by omega) ?_⟩
   refine ai (by decide) ?_ ?_ ?_ ?_<;>simp [LX,I,B,D,hw]
 ·refine ai (by decide) ?_ ?_ ?_ ?_<;>simp [LX,I,B,D]
end
end Go.Eng
namespace Go.Eng
open Go
open Ieee
set_option exponentiation.threshold 4000
def fv:Option Nat→AV
 | none=>.cZ
 | some n=>Fl n
end Go.Eng
namespace Go.Eng
open Go
section
open Z
def uH:List AV:=[.float .f64 0,.float .f64 0,.float .f64 0,.float .f64 0,.float .f64 0,.float .f64 0,.float .f64 0,.float .f64 0,.float .f64 0,.float .f64 0,.float .f64 0,.float .f64 0,.float .f64 0,.float .f64 0,.float .f64 0,.float .f64 0]
def ij (g0 g1 g2 g3 g4 g5:Nat):eV:=⟨200,[.tmp 4],r [V 4 .aN] (r [V 5 .aN] (r [o 6 (.alloc uH)] (r [V 7 (i 16)] (r [o 18 (.build [.aN,i 0,i 0,i 0,i 0,F] []),o 8 (.alloc [.aN,i 0,i 0,i 0,i 0,F]),n (s 8 18 6)] (j (r [V 9 (i 0)] (u 0 (.loop (j (r [M 19 9,M 20 0,o 21 (h 20),o 22 (b .lss 19 21),M 23 22,p 24 (m 9) 23,p 25 (bb .lss 24 (i 120)) 23,o 26 (P 23 25),M 27 26,p 28 (m 5) 27,p 29 (h 28) 27,p 30 (bb .lss 29 (i 1500)) 27,o 31 (P 27 30)] (c 31 z (.exit 0))) (j (u 1 (r [M 34 0,M 35 9,o 36 (a 34 35 1),o 37 (l 36),o 38 (.call g0 [t 37,k (i 1099511627776)]),M 10 38] (r [M 39 10,o 40 (bb .quo 39 (i 16)),o 41 (bb .rem 40 (i 64)),M 11 41] (r [M 42 10,o 43 (bb .quo 42 (i 1024)),o 44 (bb .rem 43 (i 30)),o 45 (.bin .add (k (i 1)) (t 44)),M 12 45] (r [o 46 (.build [.aN,i 0,i 0,i 0,i 0,F] []),o 13 (.alloc [.aN,i 0,i 0,i 0,i 0,F]),n (s 13 46 6)] (j (r [M 47 10,o 48 (bb .rem 47 (i 16))] (u 2 (j (r [o 50 (bb .eql 48 (i 0)),M 49 50] (c 49 z (r [o 51 (bb .eql 48 (i 1)),M 49 51] (c 49 z (R [o 52 (bb .eql 48 (i 2)),M 49 52]))))) (c 49 (R [M 53 11,o 54 (bb .rem 53 (i 16)),M 55 11,o 56 (bb .rem 55 (i 16)),o 57 (A 6 56 16 1),o 58 (l 57),o 59 (.bin .sub (k (.float .f64 4626322717216342016)) (t 58)),o 60 (A 6 54 16 1),n (s 60 59 1)]) (r [o 62 (bb .eql 48 (i 3)),M 61 62] (c 61 (R [M 63 11,o 64 (bb .rem 63 (i 16)),o 65 (.call g1 []),o 66 (.call g2 [k (i 1)]),o 67 (.call g3 [k (.float .f64 0),k (.float .f64 13830554455654793216)]),o 68 (.build [.float .f64 0,.float .f64 0,.float .f64 0,.float .f64 0,.float .f64 0,.float .f64 0] [(0,1,t 65),(1,1,t 66),(2,1,t 67),(3,1,k (.float .f64 4613937818241073152)),(4,1,k (.float .f64 4711630319722168320)),(5,1,k (.float .f64 4604930618986332160))]),M 69 11,o 70 (bb .rem 69 (i 6)),o 71 (.C2 (t 68) (t 70) 6 1 none),o 72 (A 6 64 16 1),n (s 72 71 1)]) (j (r [o 74 (bb .eql 48 (i 4)),M 73 74] (c 73 z (R [o 75 (bb .eql 48 (i 5)),M 73 75]))) (c 73 (R [M 76 10,o 77 (bb .quo 76 (i 1024)),o 78 (bb .rem 77 (i 256)),o 79 (f 13 1),n (s 79 78 1)]) (r [o 81 (bb .eql 48 (i 6)),M 80 81] (c 80 (R [o 82 (f 8 2),o 83 (l 82),M 84 11,o 85 (bb .rem 84 (i 4)),o 86 (.kg .u64 (t 85)),o 87 (.bin .shl (k (i 1)) (t 86)),o 88 (b .xor 83 87),o 89 (f 8 2),n (s 89 88 1)]) (r [o 91 (bb .eql 48 (i 7)),M 90 91] (c 90 (R [M 92 11,o 93 (bb .rem 92 (i 4)),o 94 (.kg .u64 (t 93)),o 95 (.bin .shl (k (i 1)) (t 94)),o 96 (f 13 3),n (s 96 95 1)]) (r [o 98 (bb .eql 48 (i 8)),M 97 98] (c 97 (R [o 99 (f 8 3),o 100 (l 99),M 101 11,o 102 (bb .rem 101 (i 4)),o 103 (.kg .u64 (t 102)),o 104 (.bin .shl (k (i 1)) (t 103)),o 105 (b .xor 100 104),o 106 (f 8 3),n (s 106 105 1)]) (r [o 108 (bb .eql 48 (i 9)),M 107 108] (c 107 (R [M 109 12,o 110 (bb .mul 109 (i 6)),M 12 110]) (r [o 112 (bb .eql 48 (i 10)),M 111 112] (c 111 (r [V 14 (i 0)] (u 3 (.loop (j (r [M 113 14,o 114 (bb .lss 113 (i 16))] (c 114 z (.exit 3))) (j (u 4 (R [M 117 14,M 118 11,o 119 (bb .rem 118 (i 2)),o 120 (bb .mul 119 (i 20)),o 121 (.tv .f64 (t 120)),o 122 (A 6 117 16 1),n (s 122 121 1)])) (R [M 115 14,o 116 (bb .add 115 (i 1)),M 14 116])))))) (r [o 124 (bb .eql 48 (i 11)),M 123 124] (c 123 (R [M 125 11,o 126 (bb .rem 125 (i 17)),M 7 126]) (r [o 128 (bb .eql 48 (i 12)),M 127 128] (c 127 (r [o 129 (f 8 3),n (ss 129 (i 0) 1)] (R [V 7 (i 16)])) (r [o 131 (bb .eql 48 (i 13)),M 130 131] (c 130 (j (r [M 132 1,M 133 132,p 134 (m 11) 133,p 135 (bb .rem 134 (i 4)) 133,p 136 (bb .eql 135 (i 0)) 133,o 137 (P 133 136)] (c 137 (R [M 138 11,o 139 (.kg .u64 (t 138)),o 140 (.bin .shl (k (i 256)) (t 139)),o 141 (f 13 1),n (s 141 140 1)]) z)) (j (r [M 142 1,M 143 142,p 144 (m 11) 143,p 145 (bb .rem 144 (i 4)) 143,p 146 (bb .eql 145 (i 1)) 143,o 147 (P 143 146)] (c 147 (R [M 148 10,o 149 (bb .quo 148 (i 1024)),o 150 (bb .rem 149 (i 256)),o 151 (f 13 4),n (s 151 150 1)]) z)) (R [M 152 1,M 153 152,p 154 (m 11) 153,p 155 (bb .rem 154 (i 2)) 153,p 156 (bb .eql 155 (i 0)) 153,o 157 (P 153 156),o 158 (f 13 5),n (s 158 157 1)]))) z)))))))))))))))))))))))) (r [M 159 7,o 160 (.IK (t 6) 16 1 (t 159)),o 161 (.tw g4 1 8 (t 160) (t 6)),M 15 161] (r [V 16 (i 0)] (u 5 (.loop (j (r [M 162 16,M 163 12,o 164 (b .lss 162 163),M 165 164,p 166 (m 5) 165,p 167 (h 166) 165,p 168 (bb .lss 167 (i 1500)) 165,o 169 (P 165 168)] (c 169 z (.exit 5))) (j (u 6 (r [M 172 15,o 173 (f 8 2),o 174 (l 173),o 175 (f 8 3),o 176 (l 175),o 177 (.build [.aN,i 0,i 0,i 0,i 0,F] [(0,1,t 172),(2,1,t 174),(3,1,t 176)]),o 17 (.alloc [.aN,i 0,i 0,i 0,i 0,F]),n (s 17 177 6)] (j (r [M 178 16,o 179 (bb .eql 178 (i 0))] (c 179 (r [o 180 (f 13 1),o 181 (l 180),o 182 (f 17 1),n (s 182 181 1)] (r [o 183 (f 13 4),o 184 (l 183),o 185 (f 17 4),n (s 185 184 1)] (r [o 186 (f 17 3),o 187 (l 186),o 188 (f 13 3),o 189 (l 188),o 190 (b .or 187 189),o 191 (f 17 3),n (s 191 190 1)] (R [o 192 (f 13 5),o 193 (l 192),o 194 (f 17 5),n (s 194 193 1)])))) z)) (R [M 195 5,o 196 (L 17 6),o 197 (.iM g5 6 [t 196]),o 198 (.app g5 6 64 (t 195) (t 197)),M 5 198])))) (R [M 170 16,o 171 (bb .add 170 (i 1)),M 16 171]))))))))))))) (R [M 32 9,o 33 (bb .add 32 (i 1)),M 9 33])))))) (r [M 199 5,M 4 199] y))))))⟩
def mh:eV:=⟨2,[.tmp 0],r [V 0 (.float .f64 0)] (r [o 1 (.xt .ffrom (k (.int .u64 9221120237041090561))),M 0 1] y)⟩
def mj:eV:=⟨8,[.tmp 2],r [V 2 (.float .f64 0)] (r [V 3 (.int .u64 0)] (j (r [M 4 0,o 5 (bb .geq 4 (i 0))] (c 5 (R [V 3 (.int .u64 9218868437227405312)]) (R [V 3 (.int .u64 18442240474082181120)]))) (r [M 6 3,o 7 (.xt .ffrom (t 6)),M 2 7] y)))⟩
def gw:eV:=⟨13,[.tmp 4],r [V 4 (.float .f64 0)] (r [M 5 0,o 6 (.xt .vV (t 5)),o 7 (bb .andNot 6 (.int .u64 9223372036854775808)),M 8 1,o 9 (.xt .vV (t 8)),o 10 (bb .and 9 (.int .u64 9223372036854775808)),o 11 (b .or 7 10),o 12 (.xt .ffrom (t 11)),M 4 12] y)⟩
end
end Go.Eng
namespace Go.Eng
open Go
def c9 (n:Int):Int:=gS n 0 9999
def Nj:Nat:=9221120237041090561
def mq (x:Option Nat):List AV:=[fv x]
def CN.Spec (C:bI) (f:Nat):Prop:=C.c f [] .cZ none
section
variable {P:Program} (hm:P.follows .mixedOrders=true) {f:Nat}
include hm
theorem CN.ok (hc:bU P f=some mh):CN.Spec (Pure P) f:=by
 show (Pure P).c f [] .cZ none
 refine HJ (n:=Nj) (by decide +kernel) ?_
 refine aD hm hc (by show 0≤2; decide) (aC (keep:=[]) (i:=0) ?_)
 try simp only [I,B,D,RX,↓ KW,seval,mh,Z.H]
 all_goals rfl
end
end Go.Eng
namespace Go.Eng
open Go
structure ND where
 samples:Option (List (Option Nat))
 push:Int
 ask:Int
 lines:Int
 deriving Inhabited
def ND.cells (x:ND):List AV:=[az mq x.samples,I x.push,I x.ask,I x.lines]
structure Td where
 start:Int
 fin:Int
 cut:Int
 vM:Int
 hold:Int
 early:Int
def Td.cells (x:Td):List AV:=[I x.start,I x.fin,I x.cut,I x.vM,I x.hold,I x.early]
theorem Nk {G:Prop} {F:S→Prop} {α:Type} (st:α→S) (J:α→Prop) (h:(∀ y s,J y→Le s (st y)→down F s)→G) (hF:∀ y,J y→F (st y)):G :=
 h fun y s hy hle=>⟨st y,.inl ⟨hle,hF y hy⟩⟩
end Go.Eng
namespace Go.Eng
open Go
structure vN (t u:Tb):Prop where
 groups:u.groups=t.groups
 aL:u.aL=t.aL
 on:vl u=vl t
 share:u.share=t.share
 revert:u.revert=t.revert
 extend:u.extend=t.extend
 same:∀ p,(bn u p).min=(bn t p).min∧(bn u p).walk=(bn t p).walk∧(bn u p).dI=(bn t p).dI∧(bn u p).dR=(bn t p).dR
 more:∀ p,(bn t p).top≤(bn u p).top∧(bn t p).red≤(bn u p).red
theorem iL {a b:Int} (h:a≤b):eP a≤eP b:=by simp only [qH]; omega
theorem pM {α:Type} {f g:α→Int}:∀ {l:List α},(∀ x∈l,f x≤g x)→oF (l.map f)≤oF (l.map g)
 | [],_=>Int.le_refl _
 | x :: l,h=>by
  have h1:=iL (h x List.mem_cons_self)
  have ih:=pM (l:=l) fun y hy=>h y (List.mem_cons_of_mem _ hy)
  simp only [oF,List.map_cons,List.sum_cons] at *; omega
theorem sX {α:Type} {f g:α→Int}:∀ {l:List α},(∀ x∈l,f x≤g x)→dB (l.map f)≤dB (l.map g)
 | [],_=>Int.le_refl _
 | x :: l,h=>by
  have h1:=h x List.mem_cons_self
  have ih:=sX (l:=l) fun y hy=>h y (List.mem_cons_of_mem _ hy)
  simp only [List.map_cons,sF]; omega
section
variable {t u:Tb} (h:vN t u)
include h
theorem vN.clear:gT t≤gT u:=by
 rw [gT,gT,h.on]
 refine sX fun p _=>?_
 have h1:=(h.same p).2.2.2
 have h2:=(h.more p).2
 rw [vD,vD,mI,mI,h1]; simp only [qH]; omega
theorem vN.serve (p:Int):gq t p≤gq u p:=by
 obtain ⟨h1,h2,h3,h4⟩:=h.same p
 obtain ⟨h5,h6⟩:=h.more p
 have h7:=h.extend
 have h8:=h.revert
 rw [gq,gq,h.on]
 split
 ·rw [h1,h2,h3,h4,h7,h8,vD (bn t p).walk (bn t p).dI,iJ,iJ]
  have hAB:dB [eP (bn t p).min,vk (bn t p).walk (bn t p).dI,eP (bn t p).top]≤dB [eP (bn t p).min,vk (bn t p).walk (bn t p).dI,eP (bn u p).top]:=by
   have:=iL h5
   simp only [sF,Ar]; omega
  have a1:=iL hAB
  have a2:=iL h6
  simp only [oF,List.map_cons,List.map_nil,List.sum_cons,List.sum_nil]
  omega
 ·exact Int.le_refl _
theorem vN.bJ:Eng.bJ u=Eng.bJ t:=by rw [Eng.bJ,Eng.bJ,h.groups]
theorem vN.Nl (p:Int):cg u p=cg t p:=by rw [cg,cg,h.bJ]
theorem vN.pass (g:Int):ju t g≤ju u g:=by
 rw [ju,ju,h.groups]
 split
 ·exact Int.le_refl _
 ·rw [iJ,iJ,dJ,dJ,h.bJ]
  have:=pM (l:=((Eng.bJ t).take (Eng.bJ t).length).filter fun x=>x.group == g) (f:=fun x=>gq t x.p) (g:=fun x=>gq u x.p) fun x _=>h.serve x.p
  simp only [oF,List.map_cons,List.sum_cons] at *; omega
theorem vN.free (p:Int):jZ t p≤jZ u p:=by
 rw [jZ,jZ,h.Nl,h.on,h.groups]
 split
 ·rw [iJ,iJ]
  have h1:=iL (h.pass (cg t p).1.group)
  have:=pM (l:=List.range (t.groups.getD []).length) (f:=fun (g:Nat)=>ju t g) (g:=fun (g:Nat)=>ju u g) fun g _=>h.pass g
  simp only [oF,List.map_cons,List.sum_cons] at *; omega
 ·exact Int.le_refl _
theorem vN.rl (k:Int):nE u k=nE t k:=by rw [nE,nE,h.aL]
theorem vN.entry (k:Int):kK t k≤kK u k:=by
 have h1:=iL h.clear
 have h2:=h.revert
 rw [kK,kK,h.aL]
 split
 ·exact Int.le_refl _
 ·rw [h.rl,h2,iJ,iJ]
  simp only [oF,List.map_cons,List.map_nil,List.sum_cons,List.sum_nil]
  omega
end
end Go.Eng
namespace Go.Eng
open Go
def Nm:Ph:={ (default:Ph) with on:=true,min:=5,max:=20,top:=20,dR:=10,red:=2 }
def NF:Tb:={ ji with phases:=Nm :: List.replicate 7 default }
end Go.Eng
namespace Go.Eng
open Go
structure Fr where
 samples:Option (List (Option Nat))
 push:Int
 ask:Int
 lines:Int
 cU:Int
 reset:Bool
 deriving Inhabited
def Fr.cells (x:Fr):List AV:=[az mq x.samples,I x.push,I x.ask,I x.lines,I x.cU,B x.reset]
def Mq:Nat:=4626322717216342016
def Nn:Option Nat→Option Nat
 | none=>none
 | some x=>DF.sub Mq x
theorem LZ (x:Option Nat):cK .sub (.float .f64 4626322717216342016) (fv x)=some (fv (Nn x)):=by
 cases x with
 | none=>rfl
 | some x =>
  show AL .f64 (DF.sub Mq x)=some (fv (DF.sub Mq x))
  cases DF.sub Mq x<;>rfl
theorem qj (x:Option Nat) (q:Option Nat):eK (fv x) q=true:=by cases x<;>rfl
theorem gJ (x:Option Nat):(fv x).cells=[fv x]:=by cases x<;>rfl
def Mr:List (Option Nat):=[none,some 9218868437227405312,some 9223372036854775808,some 4613937818241073152,some 4711630319722168320,some 4604930618986332160]
structure Sc where
 xs:List (Option Nat)
 tu:Nat
 ask:Int
 lines:Int
 deriving Inhabited
structure On where
 n:Nat
 push:Int
 lines:Int
 cU:Int
 reset:Bool
 deriving Inhabited
def dr (v:Nat):Nat:=v / 16 % 64
def CP (v:Nat):Nat:=1 + v / 1024 % 30
def jQ (v:Nat):On:=⟨CP v,0,0,0,false⟩
def IE (k:Nat):Int:=IntKind.i64.wrap (256 * 2 ^ min k IntKind.i64.bits)
def dh (wild:Bool) (v:Nat) (c:Sc):Sc × On :=
 if v % 16 < 3 then ({ c with xs:=c.xs.set (dr v % 16) (Nn (c.xs.getD (dr v % 16) none)) },jQ v)
 else if v % 16=3 then ({ c with xs:=c.xs.set (dr v % 16) (Mr.getD (dr v % 6) none) },jQ v)
 else if v % 16 < 6 then (c,{ jQ v with push:=(v / 1024 % 256:Nat) })
 else if v % 16=6 then ({ c with ask:=qp .i64 c.ask (2 ^ (dr v % 4)) },jQ v)
 else if v % 16=7 then (c,{ jQ v with lines:=2 ^ (dr v % 4) })
 else if v % 16=8 then ({ c with lines:=qp .i64 c.lines (2 ^ (dr v % 4)) },jQ v)
 else if v % 16=9 then (c,{ jQ v with n:=CP v * 6 })
 else if v % 16=10 then ({ c with xs:=List.replicate 16 (some (FloatKind.f64.nearest (dr v % 2 * 20:Nat))) },jQ v)
 else if v % 16=11 then ({ c with tu:=dr v % 17 },jQ v)
 else if v % 16=12 then ({ c with tu:=16,lines:=0 },jQ v)
 else if v % 16=13 then (c,{ jQ v with push:=if wild && dr v % 4 == 0 then IE (dr v) else 0,cU:=if wild && dr v % 4 == 1 then (v / 1024 % 256:Nat) else 0,reset:=wild && dr v % 2 == 0 })
 else (c,jQ v)
def jO (c:Sc) (o:On) (j:Nat):Fr :=
 ⟨aX (c.xs.take c.tu),if j=0 then o.push else 0,c.ask,if j=0 then tJ .i64 c.lines o.lines else c.lines,if j=0 then o.cU else 0,if j=0 then o.reset else false⟩
def sY (c:Sc) (o:On) (out:List Fr):List Fr:=out++(List.range (min o.n (1500 - out.length))).map (jO c o)
def zw (wild:Bool) (v:Nat) (x:Sc × List Fr):Sc × List Fr:=((dh wild v x.1).1,sY (dh wild v x.1).1 (dh wild v x.1).2 x.2)
def C4 (l:List Int) (i:Nat):Nat:=(place (l.getD i 0) 1099511627776).toNat
def dV (wild:Bool) (l:List Int):Nat→Sc × List Fr
 | 0=>(⟨List.replicate 16 (some 0),16,0,0⟩,[])
 | i + 1=>if (dV wild l i).2.length < 1500 then zw wild (C4 l i) (dV wild l i) else dV wild l i
def mM (wild:Bool) (l:List Int):List Fr:=(dV wild l (min l.length 120)).2
structure Sc.Ok (c:Sc):Prop where
 xs:c.xs.length=16
 tu:c.tu≤16
theorem vO (v:Nat):v % 16=0∨v % 16=1∨v % 16=2∨v % 16=3∨v % 16=4∨v % 16=5∨v % 16=6∨v % 16=7∨v % 16=8∨v % 16=9∨v % 16=10∨v % 16=11∨v % 16=12∨v % 16=13∨v % 16=14∨v % 16=15:=by omega
theorem vP {wild:Bool} {v:Nat} {c:Sc} (h:c.Ok):(dh wild v c).1.Ok∧(dh wild v c).2.n≤180:=by
 have hn:CP v≤30:=by unfold CP; omega
 have hf:=h.tu
 have hx:=h.xs
 rcases vO v with e|e|e|e|e|e|e|e|e|e|e|e|e|e|e|e <;>
  exact ⟨⟨by simp [dh,e,hx],by simp [dh,e,hf]; try omega⟩,by simp [dh,e,jQ]; omega⟩
theorem yd {c:Sc} {o:On} {out:List Fr} (h:out.length≤1500):(sY c o out).length≤1500:=by simp [sY]; omega
theorem qK (wild:Bool) (l:List Int):∀ i,(dV wild l i).1.Ok∧(dV wild l i).2.length≤1500
 | 0=>⟨⟨by simp [dV],by simp [dV]⟩,by simp [dV]⟩
 | i + 1=>by
  have ih:=qK wild l i
  rw [dV]; split
  ·exact ⟨(vP ih.1).1,yd ih.2⟩
  ·exact ih
theorem uI {wild:Bool} {l:List Int} {i:Nat} (h:¬ (dV wild l i).2.length < 1500):∀ j,dV wild l (i + j)=dV wild l i
 | 0=>rfl
 | j + 1=>by rw [← Nat.add_assoc,dV,uI h j,if_neg h]
theorem ye {wild:Bool} {l:List Int} {i:Nat} (hi:i≤min l.length 120) (h:i=min l.length 120∨¬ (dV wild l i).2.length < 1500):(dV wild l i).2=mM wild l:=by
 rcases h with h|h
 ·rw [h]; rfl
 ·have:=uI h (min l.length 120 - i)
  rw [show i + (min l.length 120 - i)=min l.length 120 by omega] at this
  rw [mM,this]
theorem Fe (l:List Int) (i:Nat):(C4 l i:Int)=place (l.getD i 0) 1099511627776∧C4 l i < 1099511627776:=by
 have h:0≤place (l.getD i 0) 1099511627776∧place (l.getD i 0) 1099511627776 < 1099511627776:=by
  generalize l.getD i 0=v
  have h1:=Int.tmod_lt_of_pos v (b:=1099511627776) (by omega)
  have h2:-1099511627776 < v.tmod 1099511627776:=by
   have:=Int.lt_tmod_of_pos v (b:=1099511627776) (by omega)
   omega
  unfold place; split
  ·have:bH (v.tmod 1099511627776 + 1099511627776)=v.tmod 1099511627776 + 1099511627776:=aE (by omega) (by omega)
   rw [this]; omega
  ·omega
 unfold C4; omega
theorem L0 {xs:List (Option Nat)} {k:Nat} (h:k < xs.length):(xs.map fv)[k]? = some (fv (xs.getD k none)):=by
 simp [List.getD_eq_getElem?_getD,h]
theorem CQ {xs:List (Option Nat)} {k:Nat} {x:Option Nat} (h:k < xs.length):setCells (xs.map fv) k [fv x]=(xs.set k x).map fv:=by
 rw [setCells,List.map_set,List.set_eq_take_append_cons_drop,if_pos (by simpa using h)]
 simp
theorem uJ:∀ (n:Nat) (xs:List (Option Nat)),n≤xs.length→bG 1 n (xs.map fv)=(xs.take n).map mq
 | 0,_,_=>rfl
 | n + 1,x :: xs,h=>by
  have:=uJ n xs (by simpa using h)
  simp [bG,this,mq]
 | n + 1,[],h=>by simp at h
theorem zx {α:Type} (f:α→List AV) (q:List α) (t:Nat):uZ (some (aH f q t))=some (az f (aX q)):=by unfold aH aX; split<;>rfl
theorem zy {α:Type} (f:α→List AV) (q:List α):mZ (az f (aX q))=some (I q.length):=by unfold aX; split<;>simp_all [az,mZ]
theorem Ff {α:Type} (f:α→List AV) (q:List α) (t:Nat):ah (BN (some (aH f q t))) fun p=>p.1=az f (aX q):=by unfold aH aX; split<;>rfl
def xq (xs:List (Option Nat)) (w d:Nat):List (Option Nat):=List.replicate d (some w)++xs.drop d
theorem Fg {xs:List (Option Nat)} (w:Nat) {d:Nat} (h:d < xs.length):(xq xs w d).set d (some w)=xq xs w (d + 1):=by
 rw [xq,List.set_append,if_neg (by simp)]
 simp only [List.length_replicate,Nat.sub_self]
 have e:xs.drop d=xs[d] :: xs.drop (d + 1):=List.drop_eq_getElem_cons h
 rw [e,List.set_cons_zero,xq]
 simp [List.replicate_succ',List.append_assoc]
theorem Fh {xs:List (Option Nat)} (w:Nat) {d:Nat} (h:d≤xs.length):(xq xs w d).length=xs.length:=by simp [xq]; omega
theorem Fi {xs:List (Option Nat)} (w:Nat):xq xs w xs.length=List.replicate xs.length (some w):=by simp [xq]
theorem CR (xs:List (Option Nat)) (w:Nat):xq xs w 0=xs:=by simp [xq]
def oN (c:Sc):List AV:=[.aN,I 0,I c.ask,I c.lines,I 0,B false]
def mY (o:On):List AV:=[.aN,I o.push,I 0,I o.lines,I o.cU,B o.reset]
def sZ.Spec (C:bI) (f:Nat):Prop:=∀ (l:Option (List Int)) (wild:Bool),C.c f [az ak l,B wild] (az Fr.cells (aX (mM wild (l.getD [])))) none
def CS.Spec (C:bI) (f:Nat):Prop:=C.c f [I 1] (Fl 9218868437227405312) none
def CT.Spec (C:bI) (f:Nat):Prop:=C.c f [Fl 0,Fl 13830554455654793216] (Fl 9223372036854775808) none
section
variable {P:Program} (hm:P.follows .mixedOrders=true) {f:Nat}
include hm
theorem CS.ok (hc:bU P f=some mj):CS.Spec (Pure P) f:=by
 show (Pure P).c f _ _ none
 refine aD hm hc (by show 1≤8; decide) (aC (keep:=[]) (i:=0) ?_)
 try simp only [I,B,D,RX,↓ KW,seval,mj,Z.H]
 try rfl
theorem CT.ok (hc:bU P f=some gw):CT.Spec (Pure P) f:=by
 show (Pure P).c f _ _ none
 refine aD hm hc (by show 2≤13; decide) (aC (keep:=[]) (i:=0) ?_)
 try simp only [I,B,D,RX,↓ KW,seval,gw,Z.H]
 try rfl
theorem sZ.ok {fP fN fI fC e e2:Nat} (hc:bU P f=some (ij fP fN fI fC e e2)) (hP:Place.Spec (Pure P) fP) (hN:CN.Spec (Pure P) fN) (hI:CS.Spec (Pure P) fI) (hC:CT.Spec (Pure P) fC):sZ.Spec (Pure P) f:=by
  intro l wild
  refine aD hm hc (by show 2≤200; decide) (aC (keep:=[3]) (i:=0) ?_)
  try simp only [I,B,D,RX,↓ KW,seval,ij,Z.H]
  refine aF (fun i:Nat=>(⟨[(9,.dat (I i) none),(0,.dat (az ak l) none),(1,.dat (B wild) none),(5,aH Fr.cells (dV wild (l.getD []) i).2 0),(6,.ptr 6 0),(7,.dat (I (dV wild (l.getD []) i).1.tu) none),(8,.ptr 9 0)],[(6,⟨(dV wild (l.getD []) i).1.xs.map fv,[]⟩),(9,⟨oN (dV wild (l.getD []) i).1,[]⟩)],aM (dV wild (l.getD []) i).2 0 e2,400⟩:S)) (fun i=>120 - i) (fun i=>i≤min (l.getD []).length 120) ?_ 0 (by omega) ?_
  rotate_left
  · refine ai (by decide) ?_ ?_ ?_ ?_<;>simp [LX,I,B,D,dV,oN,uH,fv,List.replicate]
  intro i hi A back
  have hwr:=aB (k:=i) (by omega)
  have hok:=qK wild (l.getD []) i
  have hend:=ye (wild:=wild) (l:=l.getD []) (i:=i) (by omega)
  have hnx:dV wild (l.getD []) (i + 1)=if (dV wild (l.getD []) i).2.length < 1500 then zw wild (C4 (l.getD []) i) (dV wild (l.getD []) i) else dV wild (l.getD []) i:=rfl
  generalize hx:dV wild (l.getD []) i=x at *
  obtain ⟨c,out⟩:=x
  simp only at hok hend hnx
  have hda:uZ (some (aH Fr.cells out 0))=some (az Fr.cells (aX out)):=zx ..
  have hln:mZ (az Fr.cells (aX out))=some (I out.length):=zy ..
  have hfin:∀ r,out=r→ah (BN (some (aH Fr.cells out 0))) fun p=>p.1=az Fr.cells (aX r):=by
    intro r hr; subst hr; exact Ff ..
  try simp only [I,B,D,RY,↓ KW,seval,hda,hln]
  rcases bc (decide ((i:Int) < ((l.getD []).length:Int))) with h1|h1
  · try simp only [I,B,D,RY,↓ KW,seval,h1,hda,hln]
    exact hfin _ (hend (.inl (by have:=of_decide_eq_false h1; omega)))
  rcases bc (decide ((i:Int) < 120)) with h2|h2
  · try simp only [I,B,D,RY,↓ KW,seval,h1,h2,hda,hln]
    exact hfin _ (hend (.inl (by have:=of_decide_eq_false h2; omega)))
  rcases bc (decide ((out.length:Int) < 1500)) with h3|h3
  · try simp only [I,B,D,RY,↓ KW,seval,h1,h2,h3,hda,hln]
    exact hfin _ (hend (.inr (by have:=of_decide_eq_false h3; omega)))
  have a1:=of_decide_eq_true h1
  have a2:=of_decide_eq_true h2
  have a3:=of_decide_eq_true h3
  rw [if_pos (by omega)] at hnx
  obtain ⟨y,hy⟩:∃ y,(l.getD [])[i]? = some y:=⟨_,List.getElem?_eq_getElem (by omega)⟩
  have hyd:(l.getD []).getD i 0=y:=by rw [List.getD_eq_getElem?_getD,hy]; rfl
  have hv:=Fe (l.getD []) i
  rw [hyd] at hv
  obtain ⟨v,hve⟩:∃ v,C4 (l.getD []) i=v:=⟨_,rfl⟩
  rw [hve] at hv hnx
  have hb:0≤(i:Int)∧(i:Int) < ((l.getD []).length:Int):=by omega
  have cP:=hP y 1099511627776 (by omega)
  rw [← hv.1] at cP
  have n1:IntKind.i64.wrap ((v:Int).tdiv 16)=((v / 16:Nat):Int):=by rw [show (v:Int).tdiv 16=((v / 16:Nat):Int) from rfl,aE (by omega) (by omega)]
  have n2:((v / 16:Nat):Int).tmod 64=((dr v:Nat):Int):=rfl
  have n3:IntKind.i64.wrap ((v:Int).tdiv 1024)=((v / 1024:Nat):Int):=by rw [show (v:Int).tdiv 1024=((v / 1024:Nat):Int) from rfl,aE (by omega) (by omega)]
  have n4:IntKind.i64.wrap (1 + ((v / 1024:Nat):Int).tmod 30)=((CP v:Nat):Int):=by rw [show ((v / 1024:Nat):Int).tmod 30=((v / 1024 % 30:Nat):Int) from rfl,aE (by omega) (by omega)]; rfl
  have n5:(v:Int).tmod 16=((v % 16:Nat):Int):=rfl
  try simp only [I,B,D,RY,↓ KW,seval,h1,h2,h3,hy,hb,ak,hda,hln]
  refine aj cP ?_
  try simp only [I,B,D,RY,↓ KW,seval,n1,n2,n3,n4,n5,hda,hln]
  apply Nk (fun y:Sc × On=>(⟨[(9,.dat (I i) none),(0,.dat (az ak l) none),(1,.dat (B wild) none),(5,aH Fr.cells out 0),(6,.ptr 6 0),(7,.dat (I y.1.tu) none),(8,.ptr 9 0),(12,.dat (I y.2.n) none),(13,.ptr 429 0)],[(6,⟨y.1.xs.map fv,[]⟩),(9,⟨oN y.1,[]⟩),(429,⟨mY y.2,[]⟩)],aM out 0 e2,500⟩:S)) (fun y=>y=dh wild v c)
  · intro back2
    have hxl:=hok.1.xs
    have n3':(v:Int).tdiv 1024=((v / 1024:Nat):Int):=rfl
    have m16:((dr v:Nat):Int).tmod 16=((dr v % 16:Nat):Int):=rfl
    have m6:((dr v:Nat):Int).tmod 6=((dr v % 6:Nat):Int):=rfl
    have m4:((dr v:Nat):Int).tmod 4=((dr v % 4:Nat):Int):=rfl
    have m2:((dr v:Nat):Int).tmod 2=((dr v % 2:Nat):Int):=rfl
    have m17:((dr v:Nat):Int).tmod 17=((dr v % 17:Nat):Int):=rfl
    have m256:((v / 1024:Nat):Int).tmod 256=((v / 1024 % 256:Nat):Int):=rfl
    have x16:c.xs[dr v % 16]? = some (c.xs.getD (dr v % 16) none):=by rw [List.getD_eq_getElem?_getD,List.getElem?_eq_getElem (by omega)]; rfl
    have x6:([.cZ,.float .f64 9218868437227405312,.float .f64 9223372036854775808,.float .f64 4613937818241073152,.float .f64 4711630319722168320,.float .f64 4604930618986332160]:List AV)[dr v % 6]? = some (fv (Mr.getD (dr v % 6) none)):=L0 (xs:=Mr) (by show dr v % 6 < 6; omega)
    have sb:=LZ (c.xs.getD (dr v % 16) none)
    have st:=fun x=>CQ (xs:=c.xs) (k:=dr v % 16) (x:=x) (by omega)
    have b16:0≤((dr v % 16:Nat):Int)∧((dr v % 16:Nat):Int) < 16:=by omega
    have b6:0≤((dr v % 6:Nat):Int)∧((dr v % 6:Nat):Int) < 6:=by omega
    have le16:dr v % 16 + 1≤c.xs.length:=by omega
    have hz6:setCells [.aN,.int .i64 0,.int .i64 0,.int .i64 0,.int .i64 0,.bool false] 0 [.aN,.int .i64 0,.int .i64 0,.int .i64 0,.int .i64 0,.bool false]=mY (jQ v):=rfl
    have sf:∀ (c:Sc) (x:Int),(oN c).length=6∧(oN c)[2]? = some (I c.ask)∧(oN c)[3]? = some (I c.lines)∧setCells (oN c) 2 [I x]=oN { c with ask:=x }∧setCells (oN c) 3 [I x]=oN { c with lines:=x }:=fun _ _=>⟨rfl,rfl,rfl,rfl,rfl⟩
    have sf1:=fun c=>(sf c 0).1
    have sf2:=fun c=>(sf c 0).2.1
    have sf3:=fun c=>(sf c 0).2.2.1
    have so:∀ (o:On) (x:Int),setCells (mY o) 1 [I x]=mY { o with push:=x }∧setCells (mY o) 3 [I x]=mY { o with lines:=x }∧setCells (mY o) 4 [I x]=mY { o with cU:=x }:=fun _ _=>⟨rfl,rfl,rfl⟩
    have so5:∀ (o:On) (x:Bool),setCells (mY o) 5 [B x]=mY { o with reset:=x }:=fun _ _=>rfl
    have so6:∀ o:On,(mY o).length=6:=fun _=>rfl
    have s4:IntKind.i64.wrap (1 * 2 ^ min (IntKind.u64.wrap ((dr v % 4:Nat):Int)).toNat IntKind.i64.bits)=2 ^ (dr v % 4)∧0≤IntKind.u64.wrap ((dr v % 4:Nat):Int):=by
      have:dr v % 4=0∨dr v % 4=1∨dr v % 4=2∨dr v % 4=3:=by omega
      rcases this with h|h|h|h<;>rw [h]<;>decide
    have hk64:dr v < 64:=by unfold dr; omega
    have s5:IntKind.u64.wrap ((dr v:Nat):Int)=((dr v:Nat):Int):=by
      rw [IntKind.wrap]
      simp [IntKind.signed,IntKind.bits]
      omega
    have s6:IntKind.i64.wrap (256 * 2 ^ min (dr v) IntKind.i64.bits)=IE (dr v):=rfl
    have s7:0≤((dr v:Nat):Int):=by omega
    have n6:IntKind.i64.wrap (((CP v:Nat):Int) * 6)=((CP v * 6:Nat):Int):=by
      have:CP v≤30:=by unfold CP; omega
      rw [aE (by omega) (by omega)]; omega
    have tn:((dr v:Nat):Int).toNat=dr v:=rfl
    have pf:∀ ps,yU 0 1 (some .cZ) (some ps)=some ((0,[.cZ]) :: ps):=fun _=>rfl
    rcases vO v with e|e|e|e|e|e|e|e|e|e|e|e|e|e|e|e
    all_goals
      rw [e]
      try simp only [I,B,D,RY,↓ KW,seval,pf,s4.1,s5,s6,s7,tn,n6,n3,m16,m6,m4,m2,m17,m256,x16,x6,sb,st,b16,b6,hxl,le16,qj,gJ,hz6,sf,sf1,sf2,sf3,so,so5,so6,hda,hln]
    iterate 3
      · refine ⟨by omega,?_⟩
        have hs:dh wild v c=({ c with xs:=c.xs.set (dr v % 16) (Nn (c.xs.getD (dr v % 16) none)) },jQ v):=by simp [dh,e]
        refine back2 _ _ hs.symm ?_
        by_cases ho:out=[]
        all_goals refine ai (by decide) ?_ ?_ ?_ ?_<;>simp [LX,I,B,D,jQ,oN,mY,ho,aH,aM]
    · refine aj hN ?_
      try simp only [I,B,D,RY,↓ KW,seval,pf,s4.1,s5,s6,s7,tn,n6,n3,m16,m6,m4,m2,m17,m256,x16,x6,sb,st,b16,b6,hxl,le16,qj,gJ,hz6,sf,sf1,sf2,sf3,so,so5,so6,hda,hln]
      refine aj hI ?_
      try simp only [I,B,D,RY,↓ KW,seval,pf,s4.1,s5,s6,s7,tn,n6,n3,m16,m6,m4,m2,m17,m256,x16,x6,sb,st,b16,b6,hxl,le16,qj,gJ,hz6,sf,sf1,sf2,sf3,so,so5,so6,hda,hln]
      refine aj hC ?_
      try simp only [I,B,D,RY,↓ KW,seval,pf,s4.1,s5,s6,s7,tn,n6,n3,m16,m6,m4,m2,m17,m256,x16,x6,sb,st,b16,b6,hxl,le16,qj,gJ,hz6,sf,sf1,sf2,sf3,so,so5,so6,hda,hln]
      refine ⟨by omega,?_⟩
      have hs:dh wild v c=({ c with xs:=c.xs.set (dr v % 16) (Mr.getD (dr v % 6) none) },jQ v):=by simp [dh,e]
      refine back2 _ _ hs.symm ?_
      by_cases ho:out=[]
      all_goals refine ai (by decide) ?_ ?_ ?_ ?_<;>simp [LX,I,B,D,jQ,oN,mY,ho,aH,aM]
    iterate 2
      · have hs:dh wild v c=(c,{ jQ v with push:=(v / 1024 % 256:Nat) }):=by simp [dh,e]
        refine back2 _ _ hs.symm ?_
        by_cases ho:out=[]
        all_goals refine ai (by decide) ?_ ?_ ?_ ?_<;>simp [LX,I,B,D,jQ,oN,mY,ho,aH,aM]
    · refine ⟨s4.2,?_⟩
      have hs:dh wild v c=({ c with ask:=qp .i64 c.ask (2 ^ (dr v % 4)) },jQ v):=by simp [dh,e]
      refine back2 _ _ hs.symm ?_
      by_cases ho:out=[]
      all_goals refine ai (by decide) ?_ ?_ ?_ ?_<;>simp [LX,I,B,D,jQ,oN,mY,ho,aH,aM]
    · refine ⟨s4.2,?_⟩
      have hs:dh wild v c=(c,{ jQ v with lines:=2 ^ (dr v % 4) }):=by simp [dh,e]
      refine back2 _ _ hs.symm ?_
      by_cases ho:out=[]
      all_goals refine ai (by decide) ?_ ?_ ?_ ?_<;>simp [LX,I,B,D,jQ,oN,mY,ho,aH,aM]
    · refine ⟨s4.2,?_⟩
      have hs:dh wild v c=({ c with lines:=qp .i64 c.lines (2 ^ (dr v % 4)) },jQ v):=by simp [dh,e]
      refine back2 _ _ hs.symm ?_
      by_cases ho:out=[]
      all_goals refine ai (by decide) ?_ ?_ ?_ ?_<;>simp [LX,I,B,D,jQ,oN,mY,ho,aH,aM]
    · have hs:dh wild v c=(c,{ jQ v with n:=CP v * 6 }):=by simp [dh,e]
      refine back2 _ _ hs.symm ?_
      by_cases ho:out=[]
      all_goals refine ai (by decide) ?_ ?_ ?_ ?_<;>simp [LX,I,B,D,jQ,oN,mY,ho,aH,aM]
    · have hs:dh wild v c=({ c with xs:=List.replicate 16 (some (FloatKind.f64.nearest (dr v % 2 * 20:Nat))) },jQ v):=by simp [dh,e]
      have n7:IntKind.i64.wrap (((dr v % 2:Nat):Int) * 20)=((dr v % 2 * 20:Nat):Int):=by rw [aE (by omega) (by omega)]; omega
      obtain ⟨w,hw⟩:∃ w,FloatKind.f64.nearest (dr v % 2 * 20:Nat)=w:=⟨_,rfl⟩
      rw [hw] at hs
      refine aF (fun d:Nat=>(⟨[(14,.dat (I d) none),(9,.dat (I i) none),(0,.dat (az ak l) none),(1,.dat (B wild) none),(5,aH Fr.cells out 0),(6,.ptr 6 0),(7,.dat (I c.tu) none),(8,.ptr 9 0),(11,.dat (I (dr v)) none),(12,.dat (I (CP v)) none),(13,.ptr 429 0)],[(6,⟨(xq c.xs w d).map fv,[]⟩),(9,⟨oN c,[]⟩),(429,⟨mY (jQ v),[]⟩)],aM out 0 e2,460⟩:S)) (fun d=>16 - d) (fun d=>d≤16) ?_ 0 (by omega) ?_
      rotate_left
      · by_cases ho:out=[]
        all_goals refine ai (by decide) ?_ ?_ ?_ ?_<;>simp [LX,I,B,D,CR,jQ,oN,mY,ho,aH,aM]
      intro d hd A3 back3
      have hwd:=aB (k:=d) (by omega)
      rcases bc (decide ((d:Int) < 16)) with g|g
      · have hd16:d=16:=by have:=of_decide_eq_false g; omega
        subst hd16
        have hxs:xq c.xs w 16=List.replicate 16 (some w):=by have:=Fi (xs:=c.xs) w; rw [hxl] at this; exact this
        rw [hxs]
        try simp only [I,B,D,RY,↓ KW,seval,g,pf,s4.1,s5,s6,s7,tn,n6,n3,m16,m6,m4,m2,m17,m256,x16,x6,sb,st,b16,b6,hxl,le16,qj,gJ,hz6,sf,sf1,sf2,sf3,so,so5,so6,hda,hln]
        refine back2 _ _ hs.symm ?_
        by_cases ho:out=[]
        all_goals refine ai (by decide) ?_ ?_ ?_ ?_<;>simp [LX,I,B,D,jQ,oN,mY,ho,aH,aM]
      · have hd2:d < 16:=by have:=of_decide_eq_true g; omega
        have hb2:0≤(d:Int)∧(d:Int) < 16:=by omega
        have hll:(xq c.xs w d).length=16:=by rw [Fh w (by omega)]; exact hxl
        have hst:=CQ (xs:=xq c.xs w d) (k:=d) (x:=some w) (by omega)
        rw [Fg w (by omega)] at hst
        have hst:setCells ((xq c.xs w d).map fv) d [.float .f64 w]=(xq c.xs w (d + 1)).map fv:=hst
        try simp only [I,B,D,RY,↓ KW,seval,g,hb2,hst,hll,n7,hw,pf,s4.1,s5,s6,s7,tn,n6,n3,m16,m6,m4,m2,m17,m256,x16,x6,sb,st,b16,b6,hxl,le16,qj,gJ,hz6,sf,sf1,sf2,sf3,so,so5,so6,hda,hln]
        refine ⟨by omega,back3 (d + 1) _ (by omega) (by omega) ?_⟩
        by_cases ho:out=[]
        all_goals refine ai (by decide) ?_ ?_ ?_ ?_<;>simp [LX,I,B,D,hwd,hst,hw,jQ,oN,mY,ho,aH,aM]
    · have hs:dh wild v c=({ c with tu:=dr v % 17 },jQ v):=by simp [dh,e]
      refine back2 _ _ hs.symm ?_
      by_cases ho:out=[]
      all_goals refine ai (by decide) ?_ ?_ ?_ ?_<;>simp [LX,I,B,D,jQ,oN,mY,ho,aH,aM]
    · have hs:dh wild v c=({ c with tu:=16,lines:=0 },jQ v):=by simp [dh,e]
      refine back2 _ _ hs.symm ?_
      by_cases ho:out=[]
      all_goals refine ai (by decide) ?_ ?_ ?_ ?_<;>simp [LX,I,B,D,jQ,oN,mY,ho,aH,aM]
    · have hs:dh wild v c=(c,{ jQ v with push:=if wild && dr v % 4 == 0 then IE (dr v) else 0,cU:=if wild && dr v % 4 == 1 then (v / 1024 % 256:Nat) else 0,reset:=wild && dr v % 2 == 0 }):=by simp [dh,e]
      have e0:(((dr v % 4:Nat):Int) == 0)=(dr v % 4 == 0):=by rw [Bool.eq_iff_iff]; simp; omega
      have e1:(((dr v % 4:Nat):Int) == 1)=(dr v % 4 == 1):=by rw [Bool.eq_iff_iff]; simp; omega
      have e2:(((dr v % 2:Nat):Int) == 0)=(dr v % 2 == 0):=by rw [Bool.eq_iff_iff]; simp; omega
      obtain ⟨b0,hb0⟩:∃ b,(dr v % 4 == 0)=b:=⟨_,rfl⟩
      obtain ⟨b1,hb1⟩:∃ b,(dr v % 4 == 1)=b:=⟨_,rfl⟩
      obtain ⟨b2,hb2⟩:∃ b,(dr v % 2 == 0)=b:=⟨_,rfl⟩
      rw [hb0] at e0 hs
      rw [hb1] at e1 hs
      rw [hb2] at e2 hs
      rcases bc wild with hw|hw<;>rcases bc b0 with g0|g0<;>rcases bc b1 with g1|g1<;>rcases bc b2 with g2|g2
      all_goals
        subst hw g0 g1 g2
        try simp only [I,B,D,RY,↓ KW,seval,e0,e1,e2,s6,pf,s4.1,s5,s6,s7,tn,n6,n3,m16,m6,m4,m2,m17,m256,x16,x6,sb,st,b16,b6,hxl,le16,qj,gJ,hz6,sf,sf1,sf2,sf3,so,so5,so6,hda,hln]
        try refine ⟨s7,?_⟩
        try try simp only [I,B,D,RY,↓ KW,seval,e0,e1,e2,s6,pf,s4.1,s5,s6,s7,tn,n6,n3,m16,m6,m4,m2,m17,m256,x16,x6,sb,st,b16,b6,hxl,le16,qj,gJ,hz6,sf,sf1,sf2,sf3,so,so5,so6,hda,hln]
        refine back2 _ _ hs.symm ?_
        by_cases ho:out=[]
        all_goals refine ai (by decide) ?_ ?_ ?_ ?_<;>simp [LX,I,B,D,jQ,oN,mY,ho,aH,aM]
    iterate 2
      · have hs:dh wild v c=(c,jQ v):=by simp [dh,e]
        refine back2 _ _ hs.symm ?_
        by_cases ho:out=[]
        all_goals refine ai (by decide) ?_ ?_ ?_ ?_<;>simp [LX,I,B,D,jQ,oN,mY,ho,aH,aM]
  · rintro _ rfl
    obtain ⟨hc2,ho2⟩:=vP (wild:=wild) (v:=v) hok.1
    rw [zw] at hnx
    simp only at hnx
    generalize dh wild v c=y at *
    obtain ⟨c2,o⟩:=y
    simp only at hc2 ho2 hnx
    have hxl:=hc2.xs
    have hfl:=hc2.tu
    have hch:=uJ c2.tu c2.xs (by omega)
    rw [List.map_take] at hch
    have hsf:∀ c:Sc,(oN c).length=6∧(oN c)[2]? = some (I c.ask)∧(oN c)[3]? = some (I c.lines):=fun _=>⟨rfl,rfl,rfl⟩
    have hof:∀ o:On,(mY o).length=6∧(mY o)[1]? = some (I o.push)∧(mY o)[3]? = some (I o.lines)∧(mY o)[4]? = some (I o.cU)∧(mY o)[5]? = some (B o.reset):=fun _=>⟨rfl,rfl,rfl,rfl,rfl⟩
    have hmo:az mq (aX (c2.xs.take c2.tu))=if c2.tu=0 then .aN else .sl ((c2.xs.take c2.tu).map mq):=by
      unfold aX
      by_cases h0:c2.tu=0
      · simp [h0,az]
      · have:¬ (c2.xs.take c2.tu=[]):=by intro h; have:=congrArg List.length h; rw [List.length_take] at this; simp only [List.length_nil] at this; omega
        simp [h0,this,az]
    obtain ⟨IF,hsm⟩:∃ x,az mq (aX (c2.xs.take c2.tu))=x:=⟨_,rfl⟩
    rw [hsm] at hmo
    have hfr:∀ j,(jO c2 o j).cells=[IF,I (if j=0 then o.push else 0),I c2.ask,I (if j=0 then tJ .i64 c2.lines o.lines else c2.lines),I (if j=0 then o.cU else 0),B (if j=0 then o.reset else false)]:=fun j=>by rw [← hsm]; rfl
    have hle:out++(List.range 0).map (jO c2 o)=out:=by simp
    try simp only [I,B,D,RY,↓ KW,seval,hxl,hch,hda,hln]
    refine ⟨⟨by omega,by omega⟩,⟨by omega,by omega⟩,?_⟩
    rcases bc (c2.tu == 0) with h0|h0
    all_goals
      first | rw [if_neg (by simpa using h0)] at hmo | rw [if_pos (by simpa using h0)] at hmo
      try simp only [I,B,D,RY,↓ KW,seval,h0,← hmo,hda,hln]
      refine aF (fun j:Nat=>(⟨[(16,.dat (I j) none),(12,.dat (I o.n) none),(15,.dat (IF) none),(9,.dat (I i) none),(0,.dat (az ak l) none),(1,.dat (B wild) none),(5,aH Fr.cells (out++(List.range j).map (jO c2 o)) 0),(6,.ptr 6 0),(7,.dat (I c2.tu) none),(8,.ptr 9 0),(13,.ptr 429 0)],[(6,⟨c2.xs.map fv,[]⟩),(9,⟨oN c2,[]⟩),(429,⟨mY o,[]⟩)],aM (out++(List.range j).map (jO c2 o)) 0 e2,600⟩:S)) (fun j=>200 - j) (fun j=>j≤min o.n (1500 - out.length)) ?_ 0 (by omega) ?_
      rotate_left
      · rw [hle]
        by_cases ho:out=[]
        all_goals refine ai (by decide) ?_ ?_ ?_ ?_<;>simp [LX,I,B,D,hmo,hch,ho,aH,aM]
      intro j hj A3 back3
      have hwj:=aB (k:=j) (by omega)
      have hfj:=hfr j
      have hnj:(List.range (j + 1)).map (jO c2 o)=(List.range j).map (jO c2 o)++[jO c2 o j]:=by simp [List.range_succ]
      have hol:(out++(List.range j).map (jO c2 o)).length=out.length + j:=by simp
      have hn2:out++(List.range (j + 1)).map (jO c2 o)=(out++(List.range j).map (jO c2 o))++[jO c2 o j]:=by rw [hnj,List.append_assoc]
      have hscm:sY c2 o out=out++(List.range (min o.n (1500 - out.length))).map (jO c2 o):=rfl
      have hdq:uZ (some (aH Fr.cells (out++(List.range j).map (jO c2 o)) 0))=some (az Fr.cells (aX (out++(List.range j).map (jO c2 o)))):=zx ..
      have hlq:mZ (az Fr.cells (aX (out++(List.range j).map (jO c2 o))))=some (I (out++(List.range j).map (jO c2 o)).length):=zy ..
      have hend2:j=min o.n (1500 - out.length)→dV wild (l.getD []) (i + 1)=(c2,out++(List.range j).map (jO c2 o)):=by intro h; rw [hnx,hscm,← h]
      rw [hol] at hlq
      generalize hq:out++(List.range j).map (jO c2 o)=q at *
      generalize jO c2 o j=fr at *
      try simp only [I,B,D,RY,↓ KW,seval,hof,hsf,hwj,hdq,hlq,hda,hln]
      rcases bc (decide ((j:Int) < ((o.n:Nat):Int))) with g1|g1
      · try simp only [I,B,D,RY,↓ KW,seval,g1,hof,hsf,hwj,hdq,hlq,hda,hln]
        refine back (i + 1) _ (by omega) (by omega) ?_
        have he:=hend2 (by have:=of_decide_eq_false g1; omega)
        by_cases ho:q=[]
        all_goals refine ai (by decide) ?_ ?_ ?_ ?_<;>simp [LX,I,B,D,hwr,he,ho,aH,aM]
      rcases bc (decide (((out.length + j:Nat):Int) < 1500)) with g2|g2
      · try simp only [I,B,D,RY,↓ KW,seval,g1,g2,hof,hsf,hwj,hdq,hlq,hda,hln]
        refine back (i + 1) _ (by omega) (by omega) ?_
        have he:=hend2 (by have:=of_decide_eq_false g2; omega)
        by_cases ho:q=[]
        all_goals refine ai (by decide) ?_ ?_ ?_ ?_<;>simp [LX,I,B,D,hwr,he,ho,aH,aM]
      have c1:=of_decide_eq_true g1
      have c3:=of_decide_eq_true g2
      have hb6:∀ a b c d e g a' b' c' d' e' g':AV,setCells [a,b,c,d,e,g] 0 [a',b',c',d',e',g']=[a',b',c',d',e',g']:=fun _ _ _ _ _ _ _ _ _ _ _ _=>rfl
      have hbs:∀ a b c d e g h:AV,setCells [a,b,c,d,e,g] 1 [h]=[a,h,c,d,e,g]∧setCells [a,b,c,d,e,g] 3 [h]=[a,b,c,h,e,g]∧setCells [a,b,c,d,e,g] 4 [h]=[a,b,c,d,h,g]∧setCells [a,b,c,d,e,g] 5 [h]=[a,b,c,d,e,h]:=fun _ _ _ _ _ _ _=>⟨rfl,rfl,rfl,rfl⟩
      have hsc:IF.cells=[IF]∧eK IF none=true:=by rw [hmo]; first | exact ⟨rfl,rfl⟩ | (split<;>exact ⟨rfl,rfl⟩)
      rcases bc ((j:Int) == 0) with z|z
      · have hj0:¬ j=0:=by intro h; rw [h] at z; simp at z
        simp only [if_neg hj0] at hfj
        by_cases ho:q=[]
        all_goals
          try simp only [I,B,D,RY,↓ KW,seval,g1,g2,z,aH,aM,ho,hsc,hb6,hbs,hol,hof,hsf,hwj,hdq,hlq,hda,hln]
          first
            | refine back3 (j + 1) _ (by omega) (by omega) ?_
            | refine ⟨by omega,fun _ _=>rfl,back3 (j + 1) _ (by omega) (by omega) ?_⟩
          refine ai (by decide) ?_ ?_ ?_ ?_<;>simp [LX,I,B,D,hwj,hn2,hfj,ho,aH,aM]
      · have hj0:j=0:=by simpa using z
        simp only [if_pos hj0] at hfj
        by_cases ho:q=[]
        all_goals
          try simp only [I,B,D,RY,↓ KW,seval,g1,g2,z,aH,aM,ho,hsc,hb6,hbs,hol,hof,hsf,hwj,hdq,hlq,hda,hln]
          first
            | refine back3 (j + 1) _ (by omega) (by omega) ?_
            | refine ⟨by omega,fun _ _=>rfl,back3 (j + 1) _ (by omega) (by omega) ?_⟩
          refine ai (by decide) ?_ ?_ ?_ ?_<;>simp [LX,I,B,D,hwj,hn2,hfj,ho,aH,aM]
end
end Go.Eng
