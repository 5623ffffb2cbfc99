/- The engine and the library,part 13 of 18: what the proofs of this seat need of them. -/
import Derived.Test.YtdhlkekmkollhaaGreatPk12
set_option linter.unnecessarySimpa false
set_option linter.unusedSimpArgs false
set_option linter.unusedVariables false
set_option linter.defProp false
set_option maxRecDepth 10000
set_option maxHeartbeats 4000000
namespace Go.Eng
open Go
def nN (f:Nat→Bool):Nat→Int
 | 0=>0
 | k + 1=>if f k then dn (nN f k) k else nN f k
def IQ (f:Nat→Bool):Int:=nN f 8
theorem FT (f:Nat→Bool):∀ k,k≤8→Can (nN f k)
 | 0,_=>by show Can 0; exact ⟨by decide,by decide⟩
 | k + 1,h=>by
  simp only [nN]; split
  ·exact tf (by omega)
  ·exact FT f k (by omega)
theorem IS (f:Nat→Bool) (i:Nat):∀ k,k≤8→tb (nN f k) i=(decide (i < k) && f i)
 | 0,_=>by simp [nN,fc]
 | k + 1,h=>by
  have ih:=IS f i k (by omega)
  simp only [nN]
  split
  ·rename_i hk
   rw [qO (by omega),ih]
   by_cases e:i=k
   ·subst e; simp [hk]
   ·have h1:(i < k + 1)↔i < k:=by omega
    have h2:i < k→i < 8:=by omega
    by_cases h3:i < k
    ·simp [h1,h3,h2 h3,e]
    ·simp [h1,h3,e]
  ·rename_i hk
   rw [ih]
   by_cases e:i=k
   ·subst e; simp at hk; simp [hk]
   ·have h1:(i < k + 1)↔i < k:=by omega
    simp [h1]
theorem IT (f:Nat→Bool):Can (IQ f):=FT f 8 (by omega)
theorem Ei (f:Nat→Bool) (i:Nat):tb (IQ f) i=(decide (i < 8) && f i):=IS f i 8 (by omega)
theorem SM {x:Int} (hx:Can x) {f:Nat→Bool} (h:∀ i,i < 8→tb x i=f i):x=IQ f :=
 zK hx (IT f) fun i hi=>by rw [h i hi,Ei]; simp [hi]
theorem Pe {x y:Int} (hy:Can y):Can (cn .i64 x y):=by
 have e:cn .i64 x y=IntKind.i64.wrap ((bv x &&& bv y).toNat:Int):=rfl
 rw [e]
 refine wO fun i h8 h64=>?_
 have a:=wN hy h8 h64
 simp only [tb] at a
 rw [BitVec.getLsbD_and,a,Bool.and_false]
theorem Pf:Can 255:=⟨by decide,by decide⟩
theorem V0:Can 0:=⟨by decide,by decide⟩
def FU (s:Int) (f:Nat→Bool):Bool:=(List.range 8).all fun p=>!tb s p || f p
theorem th {s:Int} {f:Nat→Bool}:FU s f=true↔∀ p,p < 8→tb s p=true→f p=true:=by
 simp only [FU,List.all_eq_true,List.mem_range,Bool.or_eq_true,Bool.not_eq_true']
 constructor
 ·intro h p hp ht; rcases h p hp with e | e
  ·rw [ht] at e; cases e
  ·exact e
 ·intro h p hp
  cases ht:tb s p
  ·exact .inl rfl
  ·exact .inr (h p hp ht)
theorem Ej (s:Int) (f:Nat→Bool):(IQ (fun p=>tb s p && f p) == cn .i64 s 255)=FU s f:=by
 rw [Bool.eq_iff_iff,th,beq_iff_eq]
 constructor
 ·intro h p hp ht
  have:=congrArg (fun x=>tb x p) h
  simp only [Ei,xY,AR,hp,ht,decide_true,Bool.true_and,Bool.and_true] at this
  exact this
 ·intro h
  refine zK (IT _) (Pe Pf) fun i hi=>?_
  rw [Ei,xY,AR]
  cases ht:tb s i
  ·simp
  ·simp [hi,h i hi ht]
def Bn (is:Nat→Bool) (l:List Nat):Int:=l.foldl (fun n p=>if is p then dn n p else n) 0
theorem Bo (is:Nat→Bool):∀ (l:List Nat) (n:Int),(∀ p∈l,p < 8)→Can n→Can (l.foldl (fun n p=>if is p then dn n p else n) n)∧∀ i,i < 8→tb (l.foldl (fun n p=>if is p then dn n p else n) n) i=(tb n i || (decide (i∈l) && is i))
 | [],n,_,hc=>⟨hc,fun i hi=>by simp⟩
 | q :: l,n,h,hc=>by
  have hq:q < 8:=h q (by simp)
  rw [List.foldl_cons]
  have hc2:Can (if is q then dn n q else n):=by split; exact tf hq; exact hc
  obtain ⟨a,b⟩:=Bo is l _ (fun p hp=>h p (by simp [hp])) hc2
  refine ⟨a,fun i hi=>?_⟩
  rw [b i hi]
  by_cases e:i=q
  ·subst e
   split
   ·rename_i hk; rw [qO hq]; simp [hk]
   ·rename_i hk; simp at hk; simp [hk]
  ·have e2:(i∈q :: l)↔i∈l:=by simp [e]
   simp only [e2]
   split
   ·rw [qO hq]; simp [hi,e]
   ·rfl
theorem Kk (is:Nat→Bool) (s:Int):Bn is (ep s)=IQ fun p=>tb s p && is p:=by
 obtain ⟨a,b⟩:=Bo is (ep s) 0 (fun p hp=>kY hp) V0
 refine SM a fun i hi=>?_
 rw [b i hi,fc,Bool.false_or]
 cases ht:tb s i
 ·have:¬ i∈ep s:=fun h=>by rw [qU h] at ht; cases ht
  simp [this]
 ·simp [Bh hi ht]
def eu (s:Pr) (k:Nat):Int:=s.held.getD k 0
def SN (t:Tb):Option (List Rl):=t.bA.map (·.take 4)
def nR (t:Tb):Nat:=min (t.bA.getD []).length 4
theorem Ek (t:Tb):((SN t).getD []).length=nR t:=by
 unfold SN nR; cases t.bA with
 | none=>rfl
 | some l=>simp [Nat.min_comm]
theorem IU (t:Tb) {k:Nat} (hk:k < nR t):((SN t).getD [])[k]? = some (Mw t k):=by
 unfold nR at hk; unfold SN Mw
 cases h:t.bA with
 | none=>rw [h] at hk; simp at hk
 | some l =>
  rw [h] at hk
  simp only [Option.getD_some] at hk
  simp only [Option.map_some,Option.getD_some]
  have h1:k < l.length:=by omega
  rw [List.getElem?_take,if_pos (by omega)]
  simp [h1]
theorem Pr.len {s:Pr} (h:s.held.length=4):s.cells.length=8:=by simp [Pr.cells,h]
theorem Pr.whole {s:Pr} (h:s.held.length=4):aB s.cells 0 (some 8)=some (.agg s.cells):=by
 have:=Pr.len h
 simp [aB,this]
 rw [← this,List.take_length]
theorem js {s:Pr} (h:s.held.length=4):s.held=[eu s 0,eu s 1,eu s 2,eu s 3]:=by
 match hs:s.held,h with
 | [a,b,c,d],_=>simp [eu,hs]
theorem Pr.IV {s:Pr} (h:s.held.length=4) {k:Nat} (hk:k < 4):s.cells[3 + k]? = some (I (eu s k)):=by
 have e:k=0∨k=1∨k=2∨k=3:=by omega
 rw [Pr.cells,js h]
 rcases e with rfl|rfl|rfl|rfl<;>rfl
theorem Pr.sO {s:Pr} (h:s.held.length=4):s.cells[7]? = some (I s.dK):=by
 rw [Pr.cells,js h]; rfl
def qd (t:Tb) (lines:Int):Nat→Int
 | 0=>0
 | k + 1=>if tb lines k then zD .i64 (qd t lines k) (2 ^ k) else qd t lines k
def MD (s:Pr) (k:Nat):Int:=j8 (eu s k) 0 2147483646 + 1
def ew (t:Tb) (s:Pr) (lines:Int) (n:Nat):List Int:=(List.range 4).map fun k=>if k < n && tb lines k then MD s k else 0
def jX (t:Tb) (s:Pr) (lines:Int):Pr:={ s with held:=ew t s lines (nR t),dK:=cn .i64 s.dK (qd t lines (nR t)) }
theorem tj (t:Tb) (s:Pr) (lines:Int):(jX t s lines).held.length=4:=rfl
def FV (t:Tb) (s:Pr) (k:Nat):Bool:=decide (eu s k > (Mw t k).delay) && !tb s.dK k
def aL (t:Tb) (s:Pr):Int:=match (List.range (nR t)).find? (FV t s) with
 | some k=>k
 | none=>-1
def vt.Spec (C:aZ) (f:Nat):Prop:=∀ t:Tb,t.Ok→C.c f [.agg t.cells] (aG Rl.cells (SN t)) none
def Bp.Spec (C:aZ) (f:Nat):Prop:=∀ (t:Tb) (s:Pr) (lines:Int),t.Ok→s.held.length=4→C.c f [.agg t.cells,.agg s.cells,I lines] (.agg (jX t s lines).cells) none
def yh.Spec (C:aZ) (f:Nat):Prop:=∀ (t:Tb) (s:Pr),t.Ok→s.held.length=4→C.c f [.agg t.cells,.agg s.cells] (I (aL t s)) none
def FX.Spec (C:aZ) (f:Nat):Prop:=∀ n:Int,C.c f [I n] (I (bD n)) none
theorem IW {s:Int} {k:Nat} (hk:k < 4):cn .i64 (s.fdiv (2 ^ k)) 1=if tb s k then 1 else 0:=by
 have h1:tb (s.fdiv (2 ^ k)) 0=tb s k:=by
  rw [u9 _ (by omega),u9 _ (by omega)]
  simp
 rw [AS,h1]
theorem IX {k:Nat} (hk:k < 4):min ((k:Int)).toNat IntKind.i64.bits=k:=by
 have:IntKind.i64.bits=64:=rfl
 rw [this]; omega
theorem FY (t:Tb) (s:Pr) (lines:Int) {k:Nat} (hk:k < 4):(ew t s lines (k + 1)).map I=setCells ((ew t s lines k).map I) k [I (if tb lines k then MD s k else 0)]:=by
 have e:k=0∨k=1∨k=2∨k=3:=by omega
 rcases e with rfl|rfl|rfl|rfl<;>simp [ew,setCells,List.range_succ]
theorem FZ (t:Tb) (s:Pr) (lines:Int) {k:Nat} (h:tb lines k=false):ew t s lines (k + 1)=ew t s lines k:=by
 unfold ew
 apply List.map_congr_left
 intro i hi
 by_cases e:i=k
 ·subst e; simp [h]
 ·have:(i < k + 1)↔i < k:=by omega
  simp [this]
section
variable {P:Program} (hm:P.follows .mixedOrders=true) {f:Nat}
include hm
theorem FX.ok (hc:aE P f=some mb):FX.Spec (Pure P) f:=by
 intro n
 have h1:(if 9999 < (if 0 > n then 0 else n) then 9999 else (if 0 > n then 0 else n))=j8 n 0 9999:=by
  unfold j8; split<;>split<;>(try split)<;>omega
 refine ak hm hc (by show 1≤7; decide) (aj (keep:=[]) (i:=0) ?_)
 try simp only [I,B,D,RX,↓ KW,seval,mb,Z.H]
 rw [h1]; rfl
theorem vt.ok (hc:aE P f=some kM):vt.Spec (Pure P) f:=by
 intro t ht
 have hl:=Tb.len ht
 have hp:=Tb.whole ht
 have hg:=Tb.v7 ht
 refine ak hm hc (by show 1≤10; decide) (aj (keep:=[]) (i:=0) ?_)
 try simp only [I,B,D,RX,↓ KW,seval,kM,Z.H,hp,hl,hg]
 have hmn:(if (4:Int) < ((t.bA.getD []).length:Int) then (4:Int) else ((t.bA.getD []).length:Int))=(nR t:Int):=by unfold nR; split<;>omega
 rw [hmn]
 refine ⟨⟨by omega,by unfold nR; omega⟩,fun r _=>rfl,?_⟩
 unfold SN nR
 cases t.bA with
 | none=>rfl
 | some l =>
  simp only [Option.getD_some,aG,KE,Option.map_some,AV.sl.injEq,Int.toNat_natCast,Int.toNat_zero,List.drop_zero,List.map_take]
  rcases Nat.lt_or_ge l.length 4 with h|h
  ·rw [Nat.min_eq_left (by omega),List.take_of_length_le (by simp),List.take_of_length_le (by simp; omega)]
  ·rw [Nat.min_eq_right h]
theorem Bp.ok {fR:Nat} (hc:aE P f=some (kL fR)) (hR:vt.Spec (Pure P) fR):Bp.Spec (Pure P) f:=by
 intro t s lines ht hs
 have hl:=Tb.len ht
 have hp:=Tb.whole ht
 have hsl:=Pr.len hs
 have hn:=Ek t
 have h1:=Pr.sO hs
 refine ak hm hc (by show 3≤43; decide) (aj (keep:=[]) (i:=0) ?_)
 try simp only [I,B,D,RY,↓ KW,seval,kL,Z.H,hp,hl,hsl]
 refine af (hR t ht) ?_
 try simp only [I,B,D,RY,↓ KW,seval,hn]
 refine aF (fun k:Nat=>(⟨[(13,.dat (I k) none),(12,.dat (I (nR t)) none),(2,.dat (I lines) none),(7,.dat (I (qd t lines k)) none),(4,.ptr 5 0),(8,.ptr 8 0),(6,.ptr 6 0)],[(5,⟨s.cells,[]⟩),(8,⟨(ew t s lines k).map I,[]⟩),(6,⟨[I 0,I 0,I 0,I 0,I 0,I 0,I 0,I 0],[]⟩)],[],400⟩:S)) (fun k=>nR t - k) (fun k=>k≤nR t) ?_ 0 (by omega) ?_
 rotate_left
 ·refine ai (by decide) ?_ ?_ ?_ ?_<;>simp [LX,I,B,D,ew,qd]
  rfl
 ·intro k hk A back
  have hwr:=aD (k:=k) (by unfold nR at *; omega)
  try simp only [I,B,D,RY,↓ KW,seval]
  refine ay (fun h=>?_) (fun h=>?_)<;>try simp only [I,B,D,RY,↓ KW,seval,h]
  ·have h8:k < nR t:=by have:=of_decide_eq_true h; omega
   have h4:k < 4:=by unfold nR at h8; omega
   have hy:0≤(k:Int)∧(k:Int) < 4:=by omega
   have hm:min k IntKind.i64.bits=k:=by have:=IX h4; simpa using this
   have hb:=IW (s:=lines) h4
   have ha:=Pr.IV hs h4
   have hnx:=FY t s lines h4
   have hac:qd t lines (k + 1)=if tb lines k then zD .i64 (qd t lines k) (2 ^ k) else qd t lines k:=rfl
   have hpw:IntKind.i64.wrap (1 * 2 ^ k)=2 ^ k:=by
    have e:k=0∨k=1∨k=2∨k=3:=by omega
    rcases e with rfl|rfl|rfl|rfl<;>rfl
   refine ⟨hy.1,?_⟩
   cases ht:tb lines k
   ·have hkp:=FZ t s lines ht
    rw [ht] at hb hac
    try simp only [I,B,D,RY,↓ KW,seval,hm,hb]
    refine back (k + 1) _ (by omega) (by omega) (ai (by decide) ?_ ?_ ?_ ?_)<;>simp [LX,I,B,D,hwr,hac,hkp]
   ·rw [ht] at hb hac hnx
    have hcu:(if 2147483646 < (if 0 > eu s k then 0 else eu s k) then 2147483646 else (if 0 > eu s k then 0 else eu s k))=j8 (eu s k) 0 2147483646:=by
     unfold j8; split<;>split<;>(try split)<;>omega
    have hr:0≤j8 (eu s k) 0 2147483646∧j8 (eu s k) 0 2147483646≤2147483646:=by unfold j8; split<;>(try split)<;>omega
    have hw2:IntKind.i64.wrap (j8 (eu s k) 0 2147483646 + 1)=MD s k:=by rw [aV (by omega) (by omega)]; rfl
    try simp only [I,B,D,RY,↓ KW,seval,hm,hb,hpw,hy,ha,hcu,hw2]
    refine ⟨by show k + 1≤4; omega,?_⟩
    refine back (k + 1) _ (by omega) (by omega) (ai (by decide) ?_ ?_ ?_ ?_)<;>simp [LX,I,B,D,hwr,hac,hnx]
  ·have hk':k=nR t:=by have:=of_decide_eq_false h; omega
   subst hk'
   have q1:aB ((ew t s lines (nR t)).map I) 0 (some 4)=some (.agg ((ew t s lines (nR t)).map I)):=rfl
   have q2:((ew t s lines (nR t)).map I).length=4:=rfl
   have e1:setCells s.cells 3 ((ew t s lines (nR t)).map I)=({ s with held:=ew t s lines (nR t) }:Pr).cells:=by
    rw [Pr.cells,js hs]; rfl
   have e2:∀ x,setCells ({ s with held:=ew t s lines (nR t) }:Pr).cells 7 [I x]=({ s with held:=ew t s lines (nR t),dK:=x }:Pr).cells:=fun x=>rfl
   have e3:({ s with held:=ew t s lines (nR t) }:Pr).cells.length=8:=rfl
   have e4:=Pr.whole (tj t s lines)
   have e5:=Pr.len (tj t s lines)
   have e6:aB ({ s with held:=ew t s lines (nR t),dK:=cn .i64 s.dK (qd t lines (nR t)) }:Pr).cells 0 (some 8)=some (.agg ({ s with held:=ew t s lines (nR t),dK:=cn .i64 s.dK (qd t lines (nR t)) }:Pr).cells):=rfl
   have e7:({ s with held:=ew t s lines (nR t),dK:=cn .i64 s.dK (qd t lines (nR t)) }:Pr).cells.length=8:=rfl
   have e8:setCells [I 0,I 0,I 0,I 0,I 0,I 0,I 0,I 0] 0 ({ s with held:=ew t s lines (nR t),dK:=cn .i64 s.dK (qd t lines (nR t)) }:Pr).cells=({ s with held:=ew t s lines (nR t),dK:=cn .i64 s.dK (qd t lines (nR t)) }:Pr).cells:=rfl
   try simp only [I,B,D,RY,↓ KW,seval,q1,q2,h1,e1,e2,e3,e6,e7,e8,hsl]
   rfl
theorem yh.ok {fR:Nat} (hc:aE P f=some (kK fR)) (hR:vt.Spec (Pure P) fR):yh.Spec (Pure P) f:=by
 intro t s ht hs
 have hl:=Tb.len ht
 have hp:=Tb.whole ht
 have hsl:=Pr.len hs
 have hn:=Ek t
 have h7:=Pr.sO hs
 refine ak hm hc (by show 2≤32; decide) (aj (keep:=[]) (i:=0) ?_)
 try simp only [I,B,D,RX,↓ KW,seval,kK,Z.H,hp,hl,hsl]
 refine af (hR t ht) ?_
 try simp only [I,B,D,RX,↓ KW,seval,hn]
 refine aF (fun k:Nat=>(⟨[(10,.dat (I k) none),(9,.dat (I (nR t)) none),(8,.dat (aG Rl.cells (SN t)) none),(3,.ptr 5 0)],[(5,⟨s.cells,[]⟩)],[],400⟩:S)) (fun k=>nR t - k) (fun k=>k≤nR t∧∀ q,q < k→FV t s q=false) ?_ 0 ⟨by omega,by omega⟩ ?_
 rotate_left
 ·refine ai (by decide) ?_ ?_ ?_ ?_<;>simp [LX,I,B,D]
 ·rintro k ⟨hk,hno⟩ A back
  have hwr:=aD (k:=k) (by unfold nR at *; omega)
  try simp only [I,B,D,RX,↓ KW,seval]
  refine ay (fun h=>?_) (fun h=>?_)<;>try simp only [I,B,D,RX,↓ KW,seval,h]
  ·have h8:k < nR t:=by have:=of_decide_eq_true h; omega
   have h4:k < 4:=by unfold nR at h8; omega
   have hy:0≤(k:Int)∧(k:Int) < 4:=by omega
   have hm:min k IntKind.i64.bits=k:=by have:=IX h4; simpa using this
   have hb:=IW (s:=s.dK) h4
   have ha:=Pr.IV hs h4
   have hg:=IU t h8
   have hx:FV t s k=(decide (eu s k > (Mw t k).delay) && !tb s.dK k):=rfl
   generalize hq:Mw t k=r at *
   have hrq:aB r.cells 0 (some 11)=some (.agg r.cells):=rfl
   have hr4:r.cells[4]? = some (I r.delay):=rfl
   refine ⟨by omega,?_⟩
   have hz:setCells bL 0 r.cells=r.cells:=rfl
   have hzl:bL.length=11:=rfl
   try simp only [I,B,D,RY,↓ KW,seval,hm,hy,ha,hg,hrq,hr4,h7,hz,hzl,Rl.len]
   cases hd:decide (eu s k > r.delay)
   ·have hx2:FV t s k=false:=by rw [hx,hd]; rfl
    try simp only [I,B,D,RY,↓ KW,seval,hd]
    refine back (k + 1) _ ⟨by omega,fun q hq'=>?_⟩ (by omega) ?_
    ·by_cases e:q=k
     ·rw [e]; exact hx2
     ·exact hno q (by omega)
    ·refine ai (by decide) ?_ ?_ ?_ ?_<;>simp [LX,I,B,D,hwr]
   ·try simp only [I,B,D,RY,↓ KW,seval,hd,hm,hy,h7]
    cases ht2:tb s.dK k
    ·have hx2:FV t s k=true:=by rw [hx,hd,ht2]; rfl
     rw [ht2] at hb
     have hf:(List.range (nR t)).find? (FV t s)=some k:=tY (List.getElem?_range h8) hx2 (fun y hy=>hno y (by rw [List.take_range] at hy; have:=List.mem_range.1 hy; omega))
     try simp only [I,B,D,RY,↓ KW,seval,hb,hm]
     simp [aL,hf]
    ·have hx2:FV t s k=false:=by rw [hx,hd,ht2]; rfl
     rw [ht2] at hb
     try simp only [I,B,D,RY,↓ KW,seval,hb,hm]
     refine back (k + 1) _ ⟨by omega,fun q hq'=>?_⟩ (by omega) ?_
     ·by_cases e:q=k
      ·rw [e]; exact hx2
      ·exact hno q (by omega)
     ·refine ai (by decide) ?_ ?_ ?_ ?_<;>simp [LX,I,B,D,hwr]
  ·have hk':k=nR t:=by have:=of_decide_eq_false h; omega
   subst hk'
   have hf:(List.range (nR t)).find? (FV t s)=none:=qa fun x hx=>hno x (List.mem_range.1 hx)
   simp [aL,hf]
end
end Go.Eng
namespace Go.Eng
open Go
structure Ac where
 start:Int
 fin:Int
 cut:Int
 free:Bool
 back:Bool
 deriving Inhabited,DecidableEq
def Ac.cells (a:Ac):List AV:=[I a.start,I a.fin,I a.cut,B a.free,B a.back]
theorem Ac.flat (a:Ac):mD (.agg a.cells)=true:=rfl
theorem Rl.flat (r:Rl):mD (.agg r.cells)=true:=rfl
theorem Pr.flat {s:Pr} (h:s.held.length=4):mD (.agg s.cells)=true:=by rw [Pr.cells,js h]; rfl
def aU (l:List Rn) (k:Nat):Rn:=l.getD k default
def yj (s:Pr) (l:List Rn):List AV:=s.cells++b9 l
def cm (t:Tb) (s:Pr) (l:List Rn):List AV:=t.cells++yj s l
structure lB (t:Tb) (s:Pr) (l:List Rn):Prop where
 t:t.Ok
 s:s.held.length=4
 l:l.length=8
section
variable {t:Tb} {s:Pr} {l:List Rn} (h:lB t s l)
include h
theorem El:(cm t s l).length=235:=by simp [cm,yj,Tb.len h.t,Pr.len h.s,cG h.l]
theorem qg:(cm t s l).drop 131=yj s l:=by
 rw [cm,List.drop_left' (Tb.len h.t)]
theorem ME:(cm t s l).drop 139=b9 l:=by
 have:(cm t s l).drop 139=((cm t s l).drop 131).drop 8:=by rw [List.drop_drop]
 rw [this,qg h,yj,List.drop_left' (Pr.len h.s)]
theorem IY:aB (cm t s l) 0 (some 131)=some (.agg t.cells):=eE (pre:=[]) rfl (Tb.len h.t)
theorem Hw {j:Nat} (hj:j < 131):(cm t s l)[j]? = t.cells[j]?:=by rw [cm,List.getElem?_append_left (by rw [Tb.len h.t]; exact hj)]
theorem IZ:(yj s l)[0]? = some (I s.aq)∧((yj s l).drop 1)[0]? = some (I s.which)∧((yj s l).drop 2)[0]? = some (I s.time)∧((yj s l).drop 7)[0]? = some (I s.dK):=by
 rw [yj,Pr.cells,js h.s]; exact ⟨rfl,rfl,rfl,rfl⟩
theorem V1 {k:Nat} (hk:k < 4):(((yj s l).drop 3).drop k)[0]? = some (I (eu s k)):=by
 have e:k=0∨k=1∨k=2∨k=3:=by omega
 rw [yj,Pr.cells,js h.s]
 rcases e with rfl|rfl|rfl|rfl<;>rfl
theorem Pg {k:Nat} (hk:k < 8):aB ((b9 l).drop (k * 12)) 0 (some 12)=some (.agg (aU l k).cells):=by
 have hr:=iM h.l hk
 have hl:=cG h.l
 simp only [aB] at hr ⊢
 rw [if_pos (by omega)] at hr
 rw [if_pos (by simp; omega),List.drop_zero]
 exact hr
theorem I0:((cm t s l).drop 119)[0]? = some (I t.revert):=by
 rw [List.getElem?_drop,Hw h (by omega)]
 exact Tb.tail_at h.t 3 (by omega)
theorem Pj {p:Nat} (hp:p < 8):(((cm t s l).drop 105).drop p)[0]? = some (I (dr t p)):=by
 rw [List.drop_drop,List.getElem?_drop,Hw h (by omega)]
 exact h.t.ln.D8 hp
theorem Pk {p:Nat} (hp:p < 8):(((cm t s l).drop (p * 13)).drop 1)[0]? = some (I (aO t p).min):=by
 rw [List.drop_drop,List.getElem?_drop,Hw h (by omega)]
 exact (Tb.xT (sJ h.t hp)).2.1
end
def bz (t:Tb) (s:Pr):Rl:=if 0≤s.which∧s.which < (nR t:Int) then Mw t s.which.toNat else default
def tgt (r:Rl):Int:=if r.clear=0 then r.gX else r.clear
def cq (r:Rn):Bool:=r.ax != 1 && (r.ax != 2 && r.ax != 3)
def eW (r:Rn):Bool:=r.ax == 1
def yl (r:Rn):Bool:=r.fst == 1
def zg (least state time:Int):Bool:=state != 1 && (state != 2 || decide (time ≥ least))
def oE (l:List Rn) (s:Int):Bool:=FU s fun p=>cq (aU l p)
def F0 (l:List Rn) (s:Int):Bool:=FU s fun p=>eW (aU l p)
def vu (s:Int) (f:Nat→Bool):Int:=IQ fun p=>tb s p && f p
def i5 (t:Tb) (l:List Rn) (p:Nat):Bool:=cq (aU l p) && decide ((aU l p).time ≥ t.revert) && oE l (dr t p)
def Bq (t:Tb) (l:List Rn) (s:Int):Int:=vu s (i5 t l)
def Pm (t:Tb) (s:Pr) (least:Int) (r:Rn):Bool:=eW r && decide (r.time ≥ least) && zg (bz t s).dR r.fst r.bw
def I2 (t:Tb) (s:Pr) (l:List Rn) (but least:Int):Ac:=⟨0,vu (cJ .i64 255 but) fun p=>Pm t s least (aU l p),vu (cJ .i64 255 but) fun p=>yl (aU l p),false,false⟩
def mc (t:Tb) (s:Pr) (l:List Rn):Ac:=I2 t s l (tgt (bz t s)) (bz t s).green
def qX (t:Tb) (s:Pr) (l:List Rn):Int:=if oE l (cJ .i64 255 (tgt (bz t s))) then (if (bz t s).clear=0 then 4 else 2) else 1
def oF (t:Tb) (s:Pr):Int:=if s.time ≥ (bz t s).hold then 3 else 2
def MF (t:Tb) (s:Pr) (l:List Rn):Ac:=⟨Bq t l (bz t s).clear,0,0,false,false⟩
def mU (t:Tb) (s:Pr) (l:List Rn):Int:=if oE l (cJ .i64 255 (bz t s).gX) then 4 else 3
def Pn (t:Tb) (s:Pr) (r:Rn):Bool:=eW r && zg (bz t s).dR r.fst r.bw
def F1 (t:Tb) (s:Pr) (l:List Rn):Ac:={ I2 t s l (bz t s).gX 0 with fin:=vu (cJ .i64 255 (bz t s).gX) fun p=>Pn t s (aU l p) }
def zh (s:Pr):Bool:=decide (s.which ≥ 0) && decide (s.which < 4) && decide (eu s s.which.toNat > 0)
def C2 (t:Tb) (s:Pr):Bool:=decide ((bz t s).most > 0) && decide (s.time ≥ (bz t s).most)
def fu (t:Tb) (s:Pr):Pr:=if C2 t s && zh s then { s with dK:=zD .i64 s.dK (IntKind.i64.wrap (2 ^ s.which.toNat)) } else s
def iN (t:Tb) (s:Pr):Int × Pr :=
 if !C2 t s && (zh s || decide (s.time < (bz t s).stay)) then (4,s)
 else if aL t (fu t s) ≥ 0 then (1,{ fu t s with which:=aL t (fu t s) }) else (5,fu t s)
def MG (t:Tb) (s:Pr) (l:List Rn):Ac:=⟨Bq t l (bz t s).gX,0,0,false,false⟩
def vv (t:Tb) (r:Rn):Bool:=eW r || cq r && decide (r.time ≥ t.revert)
def gS (t:Tb) (s:Pr) (l:List Rn):Int:=if oE l (cJ .i64 255 (bz t s).exit) && FU (bz t s).exit (fun p=>vv t (aU l p)) then 0 else 5
def To (t:Tb) (p:Nat) (r:Rn):Bool:=eW r && decide (r.time ≥ (aO t p).min) && !(r.fst == 1 || r.fst == 2)
def MH (t:Tb) (s:Pr) (l:List Rn):Ac:=⟨0,vu (cJ .i64 255 (bz t s).exit) fun p=>To t p (aU l p),0,false,false⟩
def jd (t:Tb) (s:Pr) (l:List Rn):Ac:=⟨vu (bz t s).exit fun p=>cq (aU l p),0,0,false,true⟩
def nO (t:Tb) (s:Pr) (l:List Rn) (turned:Bool):Int :=
 if turned || s.aq == 0 then 0
 else if (s.aq == 2 && !F0 l (bz t s).clear) || (s.aq == 4 && !F0 l (bz t s).gX) then s.time
 else bD s.time
def ki.Spec (C:aZ) (f:Nat):Prop:=∀ (t:Tb) (s:Pr) (l:List Rn),lB t s l→C.c f [.ref (cm t s l)] (.agg (bz t s).cells) none
def Kl.Spec (C:aZ) (f:Nat):Prop:=∀ (t:Tb) (s:Pr) (l:List Rn),lB t s l→C.c f [.ref (cm t s l)] (I (tgt (bz t s))) none
def me.Spec (C:aZ) (f:Nat):Prop:=∀ (t:Tb) (s:Pr) (l:List Rn) (x:Int) (g:Nat) (fs cs:List AV) (is:Nat→Bool),lB t s l→(∀ p:Nat,p < 8→C.c g (fs++[I p,.agg (aU l p).cells]++cs) (B (is p)) none)→C.c f [.ref (cm t s l),I x,.fn (.func g) fs cs] (I (vu x is)) none
def Hx.Spec (C:aZ) (f:Nat):Prop:=∀ r:Rn,C.c f [.agg r.cells] (B (cq r)) none
def ym.Spec (C:aZ) (f:Nat):Prop:=∀ (p:Int) (r:Rn),C.c f [I p,.agg r.cells] (B (cq r)) none
def tq.Spec (C:aZ) (f:Nat):Prop:=∀ (p:Int) (r:Rn),C.c f [I p,.agg r.cells] (B (eW r)) none
def wS.Spec (C:aZ) (f:Nat):Prop:=∀ (p:Int) (r:Rn),C.c f [I p,.agg r.cells] (B (yl r)) none
def zi.Spec (C:aZ) (f:Nat):Prop:=∀ (t:Tb) (s:Pr) (l:List Rn) (x:Int),lB t s l→C.c f [.ref (cm t s l),I x] (B (oE l x)) none
def wT.Spec (C:aZ) (f:Nat):Prop:=∀ (t:Tb) (s:Pr) (l:List Rn) (x:Int),lB t s l→C.c f [.ref (cm t s l),I x] (B (F0 l x)) none
def C3.Spec (C:aZ) (f:Nat):Prop:=∀ (t:Tb) (s:Pr) (l:List Rn) (a b:Int),lB t s l→C.c f [.ref (cm t s l),.agg [I a,I b]] (B (zg (bz t s).dR a b)) none
def wU.Spec (C:aZ) (f:Nat):Prop:=∀ (t:Tb) (s:Pr) (l:List Rn) (p:Nat),lB t s l→p < 8→C.c f [I p,.agg (aU l p).cells,.ref [.ref (cm t s l)]] (B (i5 t l p)) none
def uh.Spec (C:aZ) (f:Nat):Prop:=∀ (t:Tb) (s:Pr) (l:List Rn) (x:Int),lB t s l→C.c f [.ref (cm t s l),I x] (I (Bq t l x)) none
def Br.Spec (C:aZ) (f:Nat):Prop:=∀ (t:Tb) (s:Pr) (l:List Rn) (p:Nat) (least:Int),lB t s l→p < 8→C.c f [I p,.agg (aU l p).cells,.ref [I least],.ref [.ref (cm t s l)]] (B (Pm t s least (aU l p))) none
def C4.Spec (C:aZ) (f:Nat):Prop:=∀ (t:Tb) (s:Pr) (l:List Rn) (but least:Int),lB t s l→C.c f [.ref (cm t s l),I but,I least] (.agg (I2 t s l but least).cells) none
def WI (F:Tb→Pr→List Rn→Int) (C:aZ) (f:Nat):Prop:=∀ (t:Tb) (s:Pr) (l:List Rn),lB t s l→C.c f [.ref (cm t s l)] (I (F t s l)) none
def WA (F:Tb→Pr→List Rn→Ac) (C:aZ) (f:Nat):Prop:=∀ (t:Tb) (s:Pr) (l:List Rn),lB t s l→C.c f [.ref (cm t s l)] (.agg (F t s l).cells) none
def F2.Spec (C:aZ) (f:Nat):Prop:=WI (fun _ _ _=>0) C f
def F3.Spec (C:aZ) (f:Nat):Prop:=WA (fun _ _ _=>⟨0,0,0,true,false⟩) C f
def wV.Spec (C:aZ) (f:Nat):Prop:=WI qX C f
def yo.Spec (C:aZ) (f:Nat):Prop:=WA mc C f
def wW.Spec (C:aZ) (f:Nat):Prop:=WI (fun t s _=>oF t s) C f
def Bt.Spec (C:aZ) (f:Nat):Prop:=WA MF C f
def qh.Spec (C:aZ) (f:Nat):Prop:=WI mU C f
def F4.Spec (C:aZ) (f:Nat):Prop:=∀ (t:Tb) (s:Pr) (l:List Rn) (p:Nat),lB t s l→p < 8→C.c f [I p,.agg (aU l p).cells,.ref [.ref (cm t s l)]] (B (Pn t s (aU l p))) none
def tr.Spec (C:aZ) (f:Nat):Prop:=WA F1 C f
def wX.Spec (C:aZ) (f:Nat):Prop:=∀ (t:Tb) (s:Pr) (l:List Rn),lB t s l→C.p f [cm t s l] [none] (I (iN t s).1) none [cm t (iN t s).2 l]
def Bu.Spec (C:aZ) (f:Nat):Prop:=WA MG C f
def tu.Spec (C:aZ) (f:Nat):Prop:=∀ (t:Tb) (s:Pr) (l:List Rn) (p:Nat),lB t s l→p < 8→C.c f [I p,.agg (aU l p).cells,.ref [.ref (cm t s l)]] (B (vv t (aU l p))) none
def wY.Spec (C:aZ) (f:Nat):Prop:=WI gS C f
def wZ.Spec (C:aZ) (f:Nat):Prop:=∀ (t:Tb) (s:Pr) (l:List Rn) (p:Nat),lB t s l→p < 8→C.c f [I p,.agg (aU l p).cells,.ref [.ref (cm t s l)]] (B (To t p (aU l p))) none
def Bv.Spec (C:aZ) (f:Nat):Prop:=WA MH C f
def F5.Spec (C:aZ) (f:Nat):Prop:=WA jd C f
def F6.Spec (C:aZ) (f:Nat):Prop:=∀ (t:Tb) (s:Pr) (l:List Rn) (turned:Bool),lB t s l→C.c f [.ref (cm t s l),B turned] (I (nO t s l turned)) none
section
variable {P:Program} (hm:P.follows .mixedOrders=true) {f:Nat}
include hm
theorem ki.ok {fR:Nat} (hc:aE P f=some (iZ fR)) (hR:vt.Spec (Pure P) fR):ki.Spec (Pure P) f:=by
 intro t s l h
 have ht:=IY h
 have hd:=qg h
 have hp:=IZ h
 have hn:=Ek t
 refine ak hm hc (by show 1≤34; decide) (aj (keep:=[]) (i:=0) ?_)
 try simp only [I,B,D,RY,↓ KW,seval,iZ,Z.H,ht,hd,hp,hn]
 refine af (hR t h.t) ?_
 try simp only [I,B,D,RY,↓ KW,seval,ht,hd,hp,hn]
 by_cases h0:0≤s.which∧s.which < (nR t:Int)
 ·have hx:bz t s=Mw t s.which.toNat:=if_pos h0
  have h1:decide (s.which ≥ 0)=true:=by simpa using h0.1
  have h1':decide (0≤s.which)=true:=by simpa using h0.1
  have h2:decide (s.which < (nR t:Int))=true:=by simpa using h0.2
  have hg:=IU t (k:=s.which.toNat) (by omega)
  rw [← hx] at hg
  generalize bz t s=r at *
  have hq:aB r.cells 0 (some 11)=some (.agg r.cells):=rfl
  have hz:setCells bL 0 r.cells=r.cells:=rfl
  have hzl:bL.length=11:=rfl
  try simp only [I,B,D,RY,↓ KW,seval,ht,hd,hp,hn,h1,h1',h2]
  refine ⟨⟨h0.1,h0.2⟩,?_⟩
  try simp only [I,B,D,RY,↓ KW,seval,ht,hd,hp,hn,hg,hq,hz,hzl,Rl.len]
 ·have hx:bz t s=default:=if_neg h0
  have hz:setCells bL 0 bL=bL:=rfl
  have hzl:bL.length=11:=rfl
  have hzp:aB bL 0 (some 11)=some (.agg bL):=rfl
  rw [hx]
  cases h1:decide (0≤s.which)
  ·try simp only [I,B,D,RY,↓ KW,seval,ht,hd,hp,hn,h1,hz,hzl,hzp]
   rfl
  ·have h2:decide (s.which < (nR t:Int))=false:=by have:=of_decide_eq_true h1; simp; omega
   try simp only [I,B,D,RY,↓ KW,seval,ht,hd,hp,hn,h1,h2,hz,hzl,hzp]
   rfl
theorem Hx.ok (hc:aE P f=some nM):Hx.Spec (Pure P) f:=by
 intro r
 refine ak hm hc (by show 1≤16; decide) (aj (keep:=[]) (i:=0) ?_)
 try simp only [I,B,D,RX,↓ KW,seval,nM,Z.H,Rn.cells]
 repeat' (((first | refine aR ?_ ?_ | refine ay ?_ ?_ | refine bk ?_ ?_)<;>intro h)<;>try simp only [I,B,D,RX,↓ KW,seval,Rn.cells,h])
 all_goals (try simp only [cq])
 all_goals (cases e1:(r.ax != 1)<;>cases e2:(r.ax != 2)<;>simp_all [B])
theorem ym.ok {fR:Nat} (hc:aE P f=some (kN fR)) (hR:Hx.Spec (Pure P) fR):ym.Spec (Pure P) f:=by
 intro p r
 have hq:aB r.cells 0 (some 12)=some (.agg r.cells):=rfl
 refine ak hm hc (by show 2≤7; decide) (aj (keep:=[]) (i:=0) ?_)
 try simp only [I,B,D,RX,↓ KW,seval,kN,Z.H,hq]
 refine af (hR r) ?_
 try simp only [I,B,D,RX,↓ KW,seval]
theorem tq.ok (hc:aE P f=some jr):tq.Spec (Pure P) f:=by
 intro p r
 refine ak hm hc (by show 2≤8; decide) (aj (keep:=[]) (i:=0) ?_)
 try simp only [I,B,D,RX,↓ KW,seval,jr,Z.H,Rn.cells]
 rfl
theorem wS.ok (hc:aE P f=some jW):wS.Spec (Pure P) f:=by
 intro p r
 refine ak hm hc (by show 2≤9; decide) (aj (keep:=[]) (i:=0) ?_)
 try simp only [I,B,D,RX,↓ KW,seval,jW,Z.H,Rn.cells]
 rfl
theorem me.ok {fE fW:Nat} (hc:aE P f=some (iz fE fW)) (hE:sW.Spec (Pure P) fE) (hW:gP.Spec (Pure P) fW):me.Spec (Pure P) f:=by
 intro t s l x g fs cs is h hg
 have hd:=ME h
 refine ak hm hc (by show 3≤25; decide) (aj (keep:=[]) (i:=0) ?_)
 try simp only [I,B,D,RY,↓ KW,seval,iz,Z.H]
 obtain ⟨k,hk,hi⟩:=hE x
 refine af hk ?_
 try simp only [I,B,D,RY,↓ KW,seval]
 refine ie (fun m:Int=>(⟨[(10,.dat (.fn (.func k) [] [.ref [.int .i64 x]]) none),(7,.ptr 7 0),(5,.ptr 5 0),(3,.ptr 4 0)],[(7,⟨[I m],[]⟩),(5,⟨[.fn (.func g) fs cs],[]⟩),(4,⟨[.ref (cm t s l)],[]⟩)],[],400⟩:S)) (fun i m=>m=Bn is ((ep x).take i)) hi rfl (ic fun _=>rfl) (fun _=>rfl) ?_ ?_ 0 rfl ?_
 ·rintro i y m hx' hmm A back
  obtain ⟨q,hq,rfl⟩:=nF hx'
  have hq:(ep x)[i]? = some q:=hq
  have h8:=kY (List.mem_of_getElem? hq)
  have hy:0≤(q:Int)∧(q:Int) < 8:=by omega
  have hr:=Pg h h8
  have hn2:Bn is ((ep x).take (i + 1))=if is q then dn (Bn is ((ep x).take i)) q else Bn is ((ep x).take i):=by
   rw [List.take_add_one,hq]; simp only [Bn,List.foldl_append,Option.toList_some,List.foldl_cons,List.foldl_nil]
  try simp only [I,B,D,RY,↓ KW,seval,hy,hd,hr]
  refine af (hg q h8) ?_
  cases hiq:is q
  ·try simp only [I,B,D,RY,↓ KW,seval]
   refine back m _ (by rw [hn2,hiq,hmm]; rfl) ?_
   refine ai (by decide) ?_ ?_ ?_ ?_<;>simp [LX,I,B,D]
  ·try simp only [I,B,D,RY,↓ KW,seval]
   refine af (hW _ _) ?_
   try simp only [I,B,D,RY,↓ KW,seval]
   refine back (dn m q) _ (by rw [hn2,hiq,hmm]; rfl) ?_
   refine ai (by decide) ?_ ?_ ?_ ?_<;>simp [LX,I,B,D,setCells]
 ·rintro m hmm
  rw [List.take_of_length_le (by simp [ep])] at hmm
  rw [Kk] at hmm
  try simp only [I,B,D,RY,↓ KW,seval]
  rw [hmm]; rfl
 ·refine ai (by decide) ?_ ?_ ?_ ?_<;>simp [LX,I,B,D,Bn,setCells]
theorem zi.ok {fT fR:Nat} (hc:aE P f=some (i0 fT fR)) (hT:me.Spec (Pure P) fT) (hR:ym.Spec (Pure P) fR):zi.Spec (Pure P) f:=by
 intro t s l x h
 refine ak hm hc (by show 2≤11; decide) (aj (keep:=[]) (i:=0) ?_)
 try simp only [I,B,D,RX,↓ KW,seval,i0,Z.H]
 refine aT (bC (hT t s l x fR [] [] (fun p=>cq (aU l p)) h (fun p hp=>hR p _)) rfl (by decide)) ?_
 try simp only [I,B,D,RX,↓ KW,seval]
 rw [vu,Ej]; rfl
theorem wT.ok {fT fR:Nat} (hc:aE P f=some (gK fT fR)) (hT:me.Spec (Pure P) fT) (hR:tq.Spec (Pure P) fR):wT.Spec (Pure P) f:=by
 intro t s l x h
 refine ak hm hc (by show 2≤11; decide) (aj (keep:=[]) (i:=0) ?_)
 try simp only [I,B,D,RX,↓ KW,seval,gK,Z.H]
 refine aT (bC (hT t s l x fR [] [] (fun p=>eW (aU l p)) h (fun p hp=>hR p _)) rfl (by decide)) ?_
 try simp only [I,B,D,RX,↓ KW,seval]
 rw [vu,Ej]; rfl
theorem Kl.ok {fR:Nat} (hc:aE P f=some (gJ fR)) (hR:ki.Spec (Pure P) fR):Kl.Spec (Pure P) f:=by
 intro t s l h
 refine ak hm hc (by show 1≤13; decide) (aj (keep:=[]) (i:=0) ?_)
 try simp only [I,B,D,RY,↓ KW,seval,gJ,Z.H]
 have hz:∀ r:Rl,setCells bL 0 r.cells=r.cells:=fun _=>rfl
 have hzl:bL.length=11:=rfl
 have h1:∀ r:Rl,r.cells[1]? = some (I r.clear)∧r.cells[2]? = some (I r.gX):=fun _=>⟨rfl,rfl⟩
 refine aT (bC (hR t s l h) rfl (by decide)) ?_
 try simp only [I,B,D,RY,↓ KW,seval,hz,hzl,Rl.len,h1]
 cases hb:((bz t s).clear != 0)
 ·try simp only [I,B,D,RY,↓ KW,seval,hb,h1]
  have:(bz t s).clear=0:=by simpa using hb
  simp [tgt,this]
 ·try simp only [I,B,D,RY,↓ KW,seval,hb,h1]
  have:(bz t s).clear≠0:=by simpa using hb
  simp [tgt,this]
theorem C3.ok {fR:Nat} (hc:aE P f=some (i4 fR)) (hR:ki.Spec (Pure P) fR):C3.Spec (Pure P) f:=by
 intro t s l a b h
 have h6:∀ r:Rl,r.cells[6]? = some (I r.dR):=fun _=>rfl
 refine ak hm hc (by show 2≤21; decide) (aj (keep:=[]) (i:=0) ?_)
 try simp only [I,B,D,RX,↓ KW,seval,i4,Z.H]
 refine jy [11] (by rfl) ?_
 cases h1:(a != 1)
 ·try simp only [I,B,D,RX,↓ KW,seval,h1]
  simp [zg,h1]
 ·try simp only [I,B,D,RX,↓ KW,seval,h1]
  cases h2:(a != 2)
  ·try simp only [I,B,D,RX,↓ KW,seval,h2]
   refine bY (bC (hR t s l h) rfl (by decide)) ?_
   try simp only [I,B,D,RX,↓ KW,seval,h6]
   simp [zg,h1,h2]
  ·try simp only [I,B,D,RX,↓ KW,seval,h2]
   simp [zg,h1,h2]
theorem wU.ok {fR fS:Nat} (hc:aE P f=some (fq fR fS)) (hR:Hx.Spec (Pure P) fR) (hS:zi.Spec (Pure P) fS):wU.Spec (Pure P) f:=by
 intro t s l p h hp
 have hv:=I0 h
 have hcn:=Pj h hp
 have hy:0≤(p:Int)∧(p:Int) < 8:=by omega
 have hq:aB (aU l p).cells 0 (some 12)=some (.agg (aU l p).cells):=rfl
 have hq1:(aU l p).cells[1]? = some (I (aU l p).time):=rfl
 have hb:i5 t l p=(cq (aU l p) && decide ((aU l p).time ≥ t.revert) && oE l (dr t p)):=rfl
 refine ak hm hc (by show 3≤29; decide) (aj (keep:=[]) (i:=0) ?_)
 try simp only [I,B,D,RX,↓ KW,seval,fq,Z.H]
 refine jy [21] (by rfl) ?_
 try simp only [I,B,D,RX,↓ KW,seval,hq]
 refine af (hR _) ?_
 try simp only [I,B,D,RX,↓ KW,seval,hq,hq1,hv]
 cases h1:cq (aU l p)
 ·try simp only [I,B,D,RX,↓ KW,seval,h1]
  simp [hb,h1]
 ·try simp only [I,B,D,RX,↓ KW,seval,h1,hq1,hv]
  cases h2:decide ((aU l p).time ≥ t.revert)
  ·try simp only [I,B,D,RX,↓ KW,seval,h2]
   simp [hb,h1,h2]
  ·try simp only [I,B,D,RX,↓ KW,seval,h2,hcn,hy]
   refine bY (bC (hS t s l (dr t p) h) rfl (by decide)) ?_
   try simp only [I,B,D,RX,↓ KW,seval]
   simp [hb,h1,h2]
theorem uh.ok {fB fT:Nat} (hc:aE P f=some (gL fB fT)) (hB:wU.Spec (Pure P) fB) (hT:me.Spec (Pure P) fT):uh.Spec (Pure P) f:=by
 intro t s l x h
 refine ak hm hc (by show 2≤9; decide) (aj (keep:=[]) (i:=0) ?_)
 try simp only [I,B,D,RX,↓ KW,seval,gL,Z.H]
 refine ⟨rfl,?_⟩
 refine aT (bC (hT t s l x fB [] [.ref [.ref (cm t s l)]] (i5 t l) h (fun p hp=>hB t s l p h hp)) rfl (by decide)) ?_
 try simp only [I,B,D,RX,↓ KW,seval]
 rfl
theorem Br.ok {fO:Nat} (hc:aE P f=some (gM fO)) (hO:C3.Spec (Pure P) fO):Br.Spec (Pure P) f:=by
 intro t s l p least h hp
 generalize aU l p=r
 have hq0:r.cells[0]? = some (I r.ax):=rfl
 have hq1:r.cells[1]? = some (I r.time):=rfl
 have hq2:aB r.cells 2 (some 2)=some (.agg [I r.fst,I r.bw]):=rfl
 have hb:Pm t s least r=(eW r && decide (r.time ≥ least) && zg (bz t s).dR r.fst r.bw):=rfl
 have hg:(r.ax == 1)=eW r:=rfl
 refine ak hm hc (by show 4≤22; decide) (aj (keep:=[]) (i:=0) ?_)
 try simp only [I,B,D,RX,↓ KW,seval,gM,Z.H,hq0,hq1,hq2]
 rw [hg]
 cases h1:eW r
 ·try simp only [I,B,D,RX,↓ KW,seval,h1]
  simp [hb,h1]
 ·try simp only [I,B,D,RX,↓ KW,seval,h1,hq1]
  cases h2:decide (r.time ≥ least)
  ·try simp only [I,B,D,RX,↓ KW,seval,h2]
   simp [hb,h1,h2]
  ·try simp only [I,B,D,RX,↓ KW,seval,h2,hq2]
   refine aT (bC (hO t s l r.fst r.bw h) rfl (by decide)) ?_
   try simp only [I,B,D,RX,↓ KW,seval]
   simp [hb,h1,h2]
theorem F4.ok {fO:Nat} (hc:aE P f=some (eV fO)) (hO:C3.Spec (Pure P) fO):F4.Spec (Pure P) f:=by
 intro t s l p h hp
 generalize aU l p=r
 have hq0:r.cells[0]? = some (I r.ax):=rfl
 have hq2:aB r.cells 2 (some 2)=some (.agg [I r.fst,I r.bw]):=rfl
 have hb:Pn t s r=(eW r && zg (bz t s).dR r.fst r.bw):=rfl
 have hg:(r.ax == 1)=eW r:=rfl
 refine ak hm hc (by show 3≤15; decide) (aj (keep:=[]) (i:=0) ?_)
 try simp only [I,B,D,RX,↓ KW,seval,eV,Z.H,hq0,hq2]
 rw [hg]
 cases h1:eW r
 ·try simp only [I,B,D,RX,↓ KW,seval,h1]
  simp [hb,h1]
 ·try simp only [I,B,D,RX,↓ KW,seval,h1,hq2]
  refine aT (bC (hO t s l r.fst r.bw h) rfl (by decide)) ?_
  try simp only [I,B,D,RX,↓ KW,seval]
  simp [hb,h1]
theorem tu.ok {fR:Nat} (hc:aE P f=some (fm fR)) (hR:Hx.Spec (Pure P) fR):tu.Spec (Pure P) f:=by
 intro t s l p h hp
 have hv:=I0 h
 generalize aU l p=r
 have hq:aB r.cells 0 (some 12)=some (.agg r.cells):=rfl
 have hq0:r.cells[0]? = some (I r.ax):=rfl
 have hq1:r.cells[1]? = some (I r.time):=rfl
 have hb:vv t r=(eW r || cq r && decide (r.time ≥ t.revert)):=rfl
 have hg:(r.ax == 1)=eW r:=rfl
 refine ak hm hc (by show 3≤23; decide) (aj (keep:=[]) (i:=0) ?_)
 try simp only [I,B,D,RX,↓ KW,seval,fm,Z.H,hq0,hq1]
 rw [hg]
 cases h1:eW r
 ·try simp only [I,B,D,RX,↓ KW,seval,h1,hq]
  refine af (hR r) ?_
  try simp only [I,B,D,RX,↓ KW,seval]
  cases h2:cq r
  ·try simp only [I,B,D,RX,↓ KW,seval,h2]
   simp [hb,h1,h2]
  ·try simp only [I,B,D,RX,↓ KW,seval,h2,hq1,hv]
   simp [hb,h1,h2]
 ·try simp only [I,B,D,RX,↓ KW,seval,h1]
  simp [hb,h1]
theorem wZ.ok (hc:aE P f=some gm):wZ.Spec (Pure P) f:=by
 intro t s l p h hp
 have hmn:=Pk h hp
 have hy:0≤(p:Int)∧(p:Int) < 8:=by omega
 generalize aU l p=r
 have hq0:r.cells[0]? = some (I r.ax):=rfl
 have hq1:r.cells[1]? = some (I r.time):=rfl
 have hq2:r.cells[2]? = some (I r.fst):=rfl
 have hb:To t p r=(eW r && decide (r.time ≥ (aO t p).min) && !(r.fst == 1 || r.fst == 2)):=rfl
 have hg:(r.ax == 1)=eW r:=rfl
 refine ak hm hc (by show 3≤37; decide) (aj (keep:=[]) (i:=0) ?_)
 try simp only [I,B,D,RX,↓ KW,seval,gm,Z.H,hq0,hq1,hq2,hmn,hy,hg]
 cases h3:(r.fst == 1)<;>cases h4:(r.fst == 2)<;>cases h1:eW r<;>cases h2:decide (r.time ≥ (aO t p).min) <;>
 (try simp only [I,B,D,RX,↓ KW,seval,h1,h2,h3,h4,hq0,hq1,hq2,hmn,hy,hg]; (try (try simp only [I,B,D,RX,↓ KW,seval,h1,h2,h3,h4,hq0,hq1,hq2,hmn,hy,hg])); simp [hb,h1,h2,h3,h4])
theorem C4.ok {f1 fT fW:Nat} (hc:aE P f=some (iY f1 fT fW)) (h1:Br.Spec (Pure P) f1) (hT:me.Spec (Pure P) fT) (hW:wS.Spec (Pure P) fW):C4.Spec (Pure P) f:=by
 intro t s l but least h
 refine ak hm hc (by show 3≤17; decide) (aj (keep:=[]) (i:=0) ?_)
 try simp only [I,B,D,RX,↓ KW,seval,iY,Z.H]
 refine G9 [5,4] [4,8] rfl rfl rfl ?_
 try simp only [I,B,D,RX,↓ KW,seval]
 refine ⟨rfl,?_⟩
 refine bY (bC (hT t s l _ f1 [] [.ref [I least],.ref [.ref (cm t s l)]] (fun p=>Pm t s least (aU l p)) h (fun p hp=>h1 t s l p least h hp)) rfl (by decide)) ?_
 try simp only [I,B,D,RX,↓ KW,seval]
 refine bY (bC (hT t s l _ fW [] [] (fun p=>yl (aU l p)) h (fun p hp=>hW p _)) rfl (by decide)) ?_
 try simp only [I,B,D,RX,↓ KW,seval]
 rfl
theorem F2.ok (hc:aE P f=some iW):F2.Spec (Pure P) f:=by
 intro t s l h
 refine ak hm hc (by show 1≤3; decide) (aj (keep:=[]) (i:=0) ?_)
 try simp only [I,B,D,RX,↓ KW,seval,iW,Z.H]
theorem F3.ok (hc:aE P f=some iX):F3.Spec (Pure P) f:=by
 intro t s l h
 refine ak hm hc (by show 1≤4; decide) (aj (keep:=[]) (i:=0) ?_)
 try simp only [I,B,D,RX,↓ KW,seval,iX,Z.H]
 rfl
theorem yo.ok {fT fR fE:Nat} (hc:aE P f=some (ir fT fR fE)) (hT:Kl.Spec (Pure P) fT) (hR:ki.Spec (Pure P) fR) (hE:C4.Spec (Pure P) fE):yo.Spec (Pure P) f:=by
 intro t s l h
 have h5:∀ r:Rl,r.cells[5]? = some (I r.green):=fun _=>rfl
 refine ak hm hc (by show 1≤10; decide) (aj (keep:=[]) (i:=0) ?_)
 try simp only [I,B,D,RX,↓ KW,seval,ir,Z.H]
 refine aT (bC (hT t s l h) rfl (by decide)) ?_
 try simp only [I,B,D,RX,↓ KW,seval]
 refine aT (bC (hR t s l h) rfl (by decide)) ?_
 try simp only [I,B,D,RX,↓ KW,seval,h5]
 refine aT (bC (hE t s l _ _ h) rfl (by decide)) ?_
 try simp only [I,B,D,RX,↓ KW,seval]
 exact ⟨rfl,rfl⟩
theorem wV.ok {fT fS fR:Nat} (hc:aE P f=some (gF fT fS fR)) (hT:Kl.Spec (Pure P) fT) (hS:zi.Spec (Pure P) fS) (hR:ki.Spec (Pure P) fR):wV.Spec (Pure P) f:=by
 intro t s l h
 have h5:∀ r:Rl,r.cells[1]? = some (I r.clear):=fun _=>rfl
 refine ak hm hc (by show 1≤15; decide) (aj (keep:=[]) (i:=0) ?_)
 try simp only [I,B,D,RX,↓ KW,seval,gF,Z.H]
 refine aT (bC (hT t s l h) rfl (by decide)) ?_
 try simp only [I,B,D,RX,↓ KW,seval]
 refine aT (bC (hS t s l _ h) rfl (by decide)) ?_
 try simp only [I,B,D,RX,↓ KW,seval]
 cases h1:oE l (cJ .i64 255 (tgt (bz t s)))
 ·try simp only [I,B,D,RX,↓ KW,seval]
  simp [qX,h1]
 ·try simp only [I,B,D,RX,↓ KW,seval]
  refine aT (bC (hR t s l h) rfl (by decide)) ?_
  try simp only [I,B,D,RX,↓ KW,seval,h5]
  cases h2:((bz t s).clear != 0)
  ·try simp only [I,B,D,RX,↓ KW,seval,h2]
   have:(bz t s).clear=0:=by simpa using h2
   simp [qX,h1,this]
  ·try simp only [I,B,D,RX,↓ KW,seval,h2]
   have:(bz t s).clear≠0:=by simpa using h2
   simp [qX,h1,this]
theorem wW.ok {fR:Nat} (hc:aE P f=some (gG fR)) (hR:ki.Spec (Pure P) fR):wW.Spec (Pure P) f:=by
 intro t s l h
 have hd:=qg h
 have hp:=IZ h
 have h5:∀ r:Rl,r.cells[7]? = some (I r.hold):=fun _=>rfl
 refine ak hm hc (by show 1≤12; decide) (aj (keep:=[]) (i:=0) ?_)
 try simp only [I,B,D,RX,↓ KW,seval,gG,Z.H,hd,hp]
 refine jy [6] rfl ?_
 try simp only [I,B,D,RX,↓ KW,seval,hd,hp]
 refine bY (bC (hR t s l h) rfl (by decide)) ?_
 try simp only [I,B,D,RX,↓ KW,seval,h5]
 cases h2:decide (s.time ≥ (bz t s).hold)
 ·try simp only [I,B,D,RX,↓ KW,seval,h2]
  have:=of_decide_eq_false h2
  show I 2=I (oF t s); rw [oF,if_neg this]
 ·try simp only [I,B,D,RX,↓ KW,seval,h2]
  have:=of_decide_eq_true h2
  show I 3=I (oF t s); rw [oF,if_pos this]
theorem Bt.ok {fR fB:Nat} (hc:aE P f=some (iu fR fB)) (hR:ki.Spec (Pure P) fR) (hB:uh.Spec (Pure P) fB):Bt.Spec (Pure P) f:=by
 intro t s l h
 have h5:∀ r:Rl,r.cells[1]? = some (I r.clear):=fun _=>rfl
 refine ak hm hc (by show 1≤9; decide) (aj (keep:=[]) (i:=0) ?_)
 try simp only [I,B,D,RX,↓ KW,seval,iu,Z.H]
 refine aT (bC (hR t s l h) rfl (by decide)) ?_
 try simp only [I,B,D,RX,↓ KW,seval,h5]
 refine aT (bC (hB t s l _ h) rfl (by decide)) ?_
 try simp only [I,B,D,RX,↓ KW,seval]
 rfl
theorem Bu.ok {fR fB:Nat} (hc:aE P f=some (iw fR fB)) (hR:ki.Spec (Pure P) fR) (hB:uh.Spec (Pure P) fB):Bu.Spec (Pure P) f:=by
 intro t s l h
 have h5:∀ r:Rl,r.cells[2]? = some (I r.gX):=fun _=>rfl
 refine ak hm hc (by show 1≤9; decide) (aj (keep:=[]) (i:=0) ?_)
 try simp only [I,B,D,RX,↓ KW,seval,iw,Z.H]
 refine aT (bC (hR t s l h) rfl (by decide)) ?_
 try simp only [I,B,D,RX,↓ KW,seval,h5]
 refine aT (bC (hB t s l _ h) rfl (by decide)) ?_
 try simp only [I,B,D,RX,↓ KW,seval]
 rfl
theorem qh.ok {fR fS:Nat} (hc:aE P f=some (fk fR fS)) (hR:ki.Spec (Pure P) fR) (hS:zi.Spec (Pure P) fS):qh.Spec (Pure P) f:=by
 intro t s l h
 have h5:∀ r:Rl,r.cells[2]? = some (I r.gX):=fun _=>rfl
 refine ak hm hc (by show 1≤9; decide) (aj (keep:=[]) (i:=0) ?_)
 try simp only [I,B,D,RX,↓ KW,seval,fk,Z.H]
 refine aT (bC (hR t s l h) rfl (by decide)) ?_
 try simp only [I,B,D,RX,↓ KW,seval,h5]
 refine aT (bC (hS t s l _ h) rfl (by decide)) ?_
 try simp only [I,B,D,RX,↓ KW,seval]
 cases h1:oE l (cJ .i64 255 (bz t s).gX)
 ·try simp only [I,B,D,RX,↓ KW,seval]
  simp [mU,h1]
 ·try simp only [I,B,D,RX,↓ KW,seval]
  simp [mU,h1]
theorem tr.ok {fR fE f1 fT:Nat} (hc:aE P f=some (gl fR fE f1 fT)) (hR:ki.Spec (Pure P) fR) (hE:C4.Spec (Pure P) fE) (h1:F4.Spec (Pure P) f1) (hT:me.Spec (Pure P) fT):tr.Spec (Pure P) f:=by
 intro t s l h
 have h5:∀ r:Rl,r.cells[2]? = some (I r.gX):=fun _=>rfl
 refine ak hm hc (by show 1≤18; decide) (aj (keep:=[]) (i:=0) ?_)
 try simp only [I,B,D,RX,↓ KW,seval,gl,Z.H]
 refine jy [2,4] rfl ?_
 try simp only [I,B,D,RX,↓ KW,seval]
 refine bY (bC (hR t s l h) rfl (by decide)) ?_
 try simp only [I,B,D,RX,↓ KW,seval,h5]
 refine bY (bC (hE t s l _ _ h) rfl (by decide)) ?_
 try simp only [I,B,D,RX,↓ KW,seval,I2,Ac.cells]
 refine G9 [4] [2,6] rfl rfl rfl ?_
 try simp only [I,B,D,RX,↓ KW,seval]
 refine bY (bC (hR t s l h) rfl (by decide)) ?_
 try simp only [I,B,D,RX,↓ KW,seval,h5]
 refine ⟨rfl,?_⟩
 refine bY (bC (hT t s l _ f1 [] [.ref [.ref (cm t s l)]] (fun p=>Pn t s (aU l p)) h (fun p hp=>h1 t s l p h hp)) rfl (by decide)) ?_
 try simp only [I,B,D,RX,↓ KW,seval]
 rfl
theorem wY.ok {fR f1 fT fS:Nat} (hc:aE P f=some (gI fR f1 fT fS)) (hR:ki.Spec (Pure P) fR) (h1:tu.Spec (Pure P) f1) (hT:me.Spec (Pure P) fT) (hS:zi.Spec (Pure P) fS):wY.Spec (Pure P) f:=by
 intro t s l h
 have h5:∀ r:Rl,r.cells[3]? = some (I r.exit):=fun _=>rfl
 refine ak hm hc (by show 1≤22; decide) (aj (keep:=[]) (i:=0) ?_)
 try simp only [I,B,D,RX,↓ KW,seval,gI,Z.H]
 refine aT (bC (hR t s l h) rfl (by decide)) ?_
 try simp only [I,B,D,RX,↓ KW,seval,h5]
 refine ⟨rfl,?_⟩
 refine aT (bC (hT t s l _ f1 [] [.ref [.ref (cm t s l)]] (fun p=>vv t (aU l p)) h (fun p hp=>h1 t s l p h hp)) rfl (by decide)) ?_
 try simp only [I,B,D,RX,↓ KW,seval]
 refine aT (bC (hS t s l _ h) rfl (by decide)) ?_
 try simp only [I,B,D,RX,↓ KW,seval]
 have hk:(vu (bz t s).exit (fun p=>vv t (aU l p)) == cn .i64 (bz t s).exit 255)=FU (bz t s).exit (fun p=>vv t (aU l p)):=by rw [vu,Ej]
 cases h2:oE l (cJ .i64 255 (bz t s).exit)
 ·try simp only [I,B,D,RX,↓ KW,seval]
  simp [gS,h2]
 ·try simp only [I,B,D,RX,↓ KW,seval,hk]
  cases h3:FU (bz t s).exit (fun p=>vv t (aU l p))
  ·try simp only [I,B,D,RX,↓ KW,seval]
   simp [gS,h2,h3]
  ·try simp only [I,B,D,RX,↓ KW,seval]
   simp [gS,h2,h3]
theorem Bv.ok {fR f1 fT:Nat} (hc:aE P f=some (iy fR f1 fT)) (hR:ki.Spec (Pure P) fR) (h1:wZ.Spec (Pure P) f1) (hT:me.Spec (Pure P) fT):Bv.Spec (Pure P) f:=by
 intro t s l h
 have h5:∀ r:Rl,r.cells[3]? = some (I r.exit):=fun _=>rfl
 refine ak hm hc (by show 1≤11; decide) (aj (keep:=[]) (i:=0) ?_)
 try simp only [I,B,D,RX,↓ KW,seval,iy,Z.H]
 refine G9 [4] [2,6] rfl rfl rfl ?_
 try simp only [I,B,D,RX,↓ KW,seval]
 refine bY (bC (hR t s l h) rfl (by decide)) ?_
 try simp only [I,B,D,RX,↓ KW,seval,h5]
 refine ⟨rfl,?_⟩
 refine bY (bC (hT t s l _ f1 [] [.ref [.ref (cm t s l)]] (fun p=>To t p (aU l p)) h (fun p hp=>h1 t s l p h hp)) rfl (by decide)) ?_
 try simp only [I,B,D,RX,↓ KW,seval]
 rfl
theorem F5.ok {fR fT fD:Nat} (hc:aE P f=some (iU fR fT fD)) (hR:ki.Spec (Pure P) fR) (hT:me.Spec (Pure P) fT) (hD:ym.Spec (Pure P) fD):F5.Spec (Pure P) f:=by
 intro t s l h
 have h5:∀ r:Rl,r.cells[3]? = some (I r.exit):=fun _=>rfl
 refine ak hm hc (by show 1≤9; decide) (aj (keep:=[]) (i:=0) ?_)
 try simp only [I,B,D,RX,↓ KW,seval,iU,Z.H]
 refine aT (bC (hR t s l h) rfl (by decide)) ?_
 try simp only [I,B,D,RX,↓ KW,seval,h5]
 refine aT (bC (hT t s l _ fD [] [] (fun p=>cq (aU l p)) h (fun p hp=>hD p _)) rfl (by decide)) ?_
 try simp only [I,B,D,RX,↓ KW,seval]
 rfl
theorem F6.ok {fR fG fM:Nat} (hc:aE P f=some (iV fR fG fM)) (hR:ki.Spec (Pure P) fR) (hG:wT.Spec (Pure P) fG) (hM:FX.Spec (Pure P) fM):F6.Spec (Pure P) f:=by
 intro t s l turned h
 have hd:=qg h
 have hp:=IZ h
 have h5:∀ r:Rl,r.cells[1]? = some (I r.clear)∧r.cells[2]? = some (I r.gX):=fun _=>⟨rfl,rfl⟩
 refine ak hm hc (by show 2≤53; decide) (aj (keep:=[]) (i:=0) ?_)
 try simp only [I,B,D,RX,↓ KW,seval,iV,Z.H,hd,hp,h5]
 cases h1:turned
 ·try simp only [I,B,D,RX,↓ KW,seval,hd,hp,h5]
  cases h2:(s.aq == 0)
  ·try simp only [I,B,D,RX,↓ KW,seval,hd,hp,h5,h2]
   cases h3:(s.aq == 2)
   ·try simp only [I,B,D,RX,↓ KW,seval,hd,hp,h5,h3]
    cases h4:(s.aq == 4)
    ·try simp only [I,B,D,RX,↓ KW,seval,hd,hp,h5,h4]
     refine af (hM _) ?_
     try simp only [I,B,D,RX,↓ KW,seval,hd,hp,h5]
     simp [nO,h2,h3,h4]
    ·try simp only [I,B,D,RX,↓ KW,seval,hd,hp,h5,h4]
     refine aT (bC (hR t s l h) rfl (by decide)) ?_
     try simp only [I,B,D,RX,↓ KW,seval,hd,hp,h5]
     refine aT (bC (hG t s l _ h) rfl (by decide)) ?_
     try simp only [I,B,D,RX,↓ KW,seval,hd,hp,h5]
     cases h6:F0 l (bz t s).gX
     ·try simp only [I,B,D,RX,↓ KW,seval,hd,hp,h5]
      simp [nO,h2,h3,h4,h6]
     ·try simp only [I,B,D,RX,↓ KW,seval,hd,hp,h5]
      refine af (hM _) ?_
      try simp only [I,B,D,RX,↓ KW,seval,hd,hp,h5]
      simp [nO,h2,h3,h4,h6]
   ·try simp only [I,B,D,RX,↓ KW,seval,hd,hp,h5,h3]
    have h4:(s.aq == 4)=false:=by
     have:s.aq=2:=by simpa using h3
     rw [this]; rfl
    refine aT (bC (hR t s l h) rfl (by decide)) ?_
    try simp only [I,B,D,RX,↓ KW,seval,hd,hp,h5]
    refine aT (bC (hG t s l _ h) rfl (by decide)) ?_
    try simp only [I,B,D,RX,↓ KW,seval,hd,hp,h5]
    cases h6:F0 l (bz t s).clear
    ·try simp only [I,B,D,RX,↓ KW,seval,hd,hp,h5,h4]
     simp [nO,h2,h3,h4,h6]
    ·try simp only [I,B,D,RX,↓ KW,seval,hd,hp,h5,h4]
     refine af (hM _) ?_
     try simp only [I,B,D,RX,↓ KW,seval,hd,hp,h5]
     simp [nO,h2,h3,h4,h6]
  ·try simp only [I,B,D,RX,↓ KW,seval,hd,hp,h5,h2]
   simp [nO,h2]
 ·try simp only [I,B,D,RX,↓ KW,seval,hd,hp,h5]
  simp [nO]
end
end Go.Eng
namespace Go.Eng
open Go
def Cr (s:Pr):Pr:=if s.aq < 0∨6≤s.aq then { s with aq:=0 } else s
def Po (t:Tb) (s:Pr) (lines:Int):Pr:=Cr (jX t s lines)
def fy (t:Tb) (s:Pr):Bool:=decide (aL t s ≥ 0) && (s.aq == 0 || (s.aq == 5 || decide (aL t s < s.which)))
def aA (t:Tb) (s:Pr) (l:List Rn):Int × Pr :=
 if s.aq=0 then (0,s) else if s.aq=1 then (qX t s l,s) else if s.aq=2 then (oF t s,s)
 else if s.aq=3 then (mU t s l,s) else if s.aq=4 then iN t s else (gS t s l,s)
def nP (t:Tb) (s:Pr) (l:List Rn) (to:Int):Ac :=
 if to=0 then ⟨0,0,0,true,false⟩ else if to=1 then mc t s l else if to=2 then MF t s l
 else if to=3 then F1 t s l else if to=4 then MG t s l else MH t s l
def f8 (t:Tb) (s:Pr) (l:List Rn) (to:Int) (was:Int):Pr:={ s with aq:=to,time:=nO t { s with aq:=to } l (to != was) }
def jA (t:Tb) (s:Pr) (l:List Rn):Pr × Ac :=
 if fy t s then ({ s with aq:=1,which:=aL t s,time:=0 },mc t { s with aq:=1,which:=aL t s,time:=0 } l)
 else if s.aq=5∧(aA t s l).1=0 then ({ (aA t s l).2 with aq:=0,which:=0,time:=0 },jd t (aA t s l).2 l)
 else (f8 t (aA t s l).2 l (aA t s l).1 s.aq,nP t (f8 t (aA t s l).2 l (aA t s l).1 s.aq) l (aA t s l).1)
def jB (t:Tb) (s:Pr) (lines:Int) (l:List Rn):Pr × Ac:=jA t (Po t s lines) l
def F7.Spec (C:aZ) (f:Nat):Prop:=∀ (t:Tb) (s:Pr) (lines:Int) (l:List Rn),lB t s l→C.c f [.agg t.cells,.agg s.cells,I lines,.agg (b9 l)] (.cQ [.agg (jB t s lines l).1.cells,.agg (jB t s lines l).2.cells]) none
def xb.Spec (C:aZ) (f:Nat):Prop:=∃ n:List AV,n.length=12∧mD (.agg n)=false∧C.c f [] (.agg n) none ∧
 (∀ k:Nat,k < 6→∃ g,n[k * 2]? = some (.fn (.func g) [] [])∧∀ t s l,lB t s l→s.aq=k→C.p g [cm t s l] [none] (I (aA t s l).1) none [cm t (aA t s l).2 l]) ∧
 (∀ k:Nat,k < 6→∃ g,n[k * 2 + 1]? = some (.fn (.func g) [] [])∧∀ t s l,lB t s l→C.c g [.ref (cm t s l)] (.agg (nP t s l k).cells) none)
theorem C5 {t:Tb} {s:Pr} (h:s.held.length=4):(fu t s).held.length=4:=by unfold fu; split<;>exact h
theorem Hy {t:Tb} {s:Pr} (h:s.held.length=4):(iN t s).2.held.length=4:=by
 unfold iN; split
 ·exact h
 ·split<;>exact C5 h
theorem nQ {t:Tb} {s:Pr} {l:List Rn} (h:s.held.length=4):(aA t s l).2.held.length=4:=by
 unfold aA
 repeat' split
 all_goals first | exact h | exact Hy h
theorem kO (t:Tb) (s:Pr) (l:List Rn):0≤(aA t s l).1∧(aA t s l).1 < 6:=by
 simp only [aA,qX,oF,mU,iN,gS]
 repeat' split
 all_goals (simp only []; omega)
section
variable {t:Tb} {s:Pr} {l:List Rn} (h:lB t s l)
include h
theorem MJ:(cm t s l)[131]? = some (I s.aq)∧(cm t s l)[132]? = some (I s.which)∧(cm t s l)[133]? = some (I s.time)∧(cm t s l)[138]? = some (I s.dK)∧aB (cm t s l) 131 (some 8)=some (.agg s.cells):=by
 have e:∀ j,(cm t s l)[131 + j]? = (yj s l)[j]?:=fun j=>by
  rw [← qg h,List.getElem?_drop]
 obtain ⟨p0,p1,p2,p7⟩:=IZ h
 rw [List.getElem?_drop] at p1 p2 p7
 refine ⟨(e 0).trans p0,(e 1).trans p1,(e 2).trans p2,(e 7).trans p7,?_⟩
 exact eE (Tb.len h.t) (Pr.len h.s)
theorem SO {k:Nat} (hk:k < 4):(cm t s l)[134 + k]? = some (I (eu s k)):=by
 have:=V1 h hk
 rw [← qg h,List.drop_drop,List.drop_drop,List.getElem?_drop,show 131 + (3 + k) + 0=134 + k by omega] at this
 exact this
theorem zM {j:Nat} {ps:List AV} (hj:j + ps.length≤8):setCells (cm t s l) (131 + j) ps=t.cells++(setCells s.cells j ps++b9 l):=by
 have e1:=Tb.len h.t
 have e2:=Pr.len h.s
 rw [cm,bI (by omega),e1,Nat.add_sub_cancel_left,yj,AN (by omega)]
theorem SP (x:Int):setCells (cm t s l) 131 [I x]=cm t { s with aq:=x } l:=zM h (j:=0) (ps:=[I x]) (by simp)
theorem MK (x:Int):setCells (cm t s l) 132 [I x]=cm t { s with which:=x } l:=zM h (j:=1) (ps:=[I x]) (by simp)
theorem SQ (x:Int):setCells (cm t s l) 133 [I x]=cm t { s with time:=x } l:=zM h (j:=2) (ps:=[I x]) (by simp)
theorem SR (x:Int):setCells (cm t s l) 138 [I x]=cm t { s with dK:=x } l:=by
 rw [show (138:Nat)=131 + 7 from rfl,zM h (by simp)]
 have e:setCells s.cells 7 [I x]=({ s with dK:=x }:Pr).cells:=by rw [Pr.cells,Pr.cells,js h.s]; rfl
 rw [e]; rfl
theorem dw {u:Pr} (hu:u.held.length=4):lB t u l:=⟨h.t,hu,h.l⟩
end
theorem ML {t:Tb} {s:Pr} {l:List Rn} (h:lB t s l) {z:List AV} (hz:z.length=235) :
  List.take 139 (List.take 131 (t.cells++List.drop 131 z)++s.cells++List.drop 139 (t.cells++List.drop 131 z))++b9 l++List.drop 235 (List.take 131 (t.cells++List.drop 131 z)++s.cells++List.drop 139 (t.cells++List.drop 131 z))=cm t s l:=by
 have e1:=Tb.len h.t
 have e2:=Pr.len h.s
 have e3:=cG h.l
 have a1:List.take 131 (t.cells++List.drop 131 z)=t.cells:=by rw [List.take_left' e1]
 have a2:List.take 139 (t.cells++s.cells++List.drop 139 (t.cells++List.drop 131 z))=t.cells++s.cells:=by rw [List.take_left' (by simp; omega)]
 rw [a1,a2,List.drop_of_length_le (by simp; omega),List.append_nil,List.append_assoc]; rfl
section
variable {P:Program} (hm:P.follows .mixedOrders=true) {f:Nat}
include hm
theorem xb.ok {a0 b0 a1 b1 a2 b2 a3 b3 a4 b4 a5 b5:Nat} (hc:aE P f=some (jV a0 b0 a1 b1 a2 b2 a3 b3 a4 b4 a5 b5))
  (h0:F2.Spec (Pure P) a0) (k0:F3.Spec (Pure P) b0) (h1:wV.Spec (Pure P) a1) (k1:yo.Spec (Pure P) b1) (h2:wW.Spec (Pure P) a2) (k2:Bt.Spec (Pure P) b2)
  (h3:qh.Spec (Pure P) a3) (k3:tr.Spec (Pure P) b3) (h4:wX.Spec (Pure P) a4) (k4:Bu.Spec (Pure P) b4) (h5:wY.Spec (Pure P) a5) (k5:Bv.Spec (Pure P) b5):xb.Spec (Pure P) f:=by
 refine ⟨[a0,b0,a1,b1,a2,b2,a3,b3,a4,b4,a5,b5].map fun k=>.fn (.func k) [] [],rfl,rfl,?_,?_,?_⟩
 ·refine ak hm hc (by show 0≤8; decide) (aj (keep:=[]) (i:=0) ?_)
  try simp only [I,B,D,RX,↓ KW,seval,jV,Z.H]
  exact ⟨rfl,by decide,rfl⟩
 ·intro k hk
  have e:k=0∨k=1∨k=2∨k=3∨k=4∨k=5:=by omega
  have cv:∀ {g:Nat} {F:Tb→Pr→List Rn→Int} {t s l},WI F (Pure P) g→lB t s l→(aA t s l)=(F t s l,s)→(Pure P).p g [cm t s l] [none] (I (aA t s l).1) none [cm t (aA t s l).2 l]:=fun {g F t s l} hg h he=>by
   rw [he]; exact bC (args:=[none]) (hg t s l h) rfl (by simp)
  rcases e with rfl|rfl|rfl|rfl|rfl|rfl
  ·exact ⟨a0,rfl,fun t s l h hs=>cv h0 h (by simp [aA,hs])⟩
  ·exact ⟨a1,rfl,fun t s l h hs=>cv h1 h (by simp [aA,hs])⟩
  ·exact ⟨a2,rfl,fun t s l h hs=>cv h2 h (by simp [aA,hs])⟩
  ·exact ⟨a3,rfl,fun t s l h hs=>cv h3 h (by simp [aA,hs])⟩
  ·refine ⟨a4,rfl,fun t s l h hs=>?_⟩
   have:aA t s l=iN t s:=by simp [aA,hs]
   rw [this]; exact h4 t s l h
  ·exact ⟨a5,rfl,fun t s l h hs=>cv h5 h (by simp [aA,hs])⟩
 ·intro k hk
  have e:k=0∨k=1∨k=2∨k=3∨k=4∨k=5:=by omega
  rcases e with rfl|rfl|rfl|rfl|rfl|rfl
  ·exact ⟨b0,rfl,k0⟩
  ·exact ⟨b1,rfl,k1⟩
  ·exact ⟨b2,rfl,k2⟩
  ·exact ⟨b3,rfl,k3⟩
  ·exact ⟨b4,rfl,k4⟩
  ·exact ⟨b5,rfl,k5⟩
theorem wX.ok {fR fY:Nat} (hc:aE P f=some (gH fR fY)) (hR:ki.Spec (Pure P) fR) (hY:yh.Spec (Pure P) fY):wX.Spec (Pure P) f:=by
  intro t s l h
  have hq:=MJ h
  have hlen:=El h
  have ht:=IY h
  have hz:∀ r:Rl,setCells bL 0 r.cells=r.cells:=fun _=>rfl
  have hzl:bL.length=11:=rfl
  have hr9:∀ r:Rl,r.cells[9]? = some (I r.most)∧r.cells[8]? = some (I r.stay):=fun _=>⟨rfl,rfl⟩
  refine E1 hm hc (by show 1≤100; decide) rfl (by simp) (aj (keep:=[]) (i:=0) ?_)
  try simp only [I,B,D,RY,↓ KW,seval,gH,Z.H,hq,hlen,ht,hz,hzl,hr9,Rl.len]
  refine jy [1] rfl ?_
  try simp only [I,B,D,RY,↓ KW,seval,hq,hlen,ht,hz,hzl,hr9,Rl.len]
  refine ⟨rfl,bY (bC (hR t s l h) rfl (Nat.le_of_ble_eq_true rfl)) ?_⟩
  try simp only [I,B,D,RY,↓ KW,seval,hq,hlen,ht,hz,hzl,hr9,Rl.len]
  have hz8:∀ u:Pr,u.held.length=4→aB (cm t u l) 131 (some 8)=some (.agg u.cells)∧aB (cm t u l) 0 (some 131)=some (.agg t.cells)∧(cm t u l).length=235:=fun u hu=>⟨(MJ (dw h hu)).2.2.2.2,IY (dw h hu),El (dw h hu)⟩
  have hsp:=C5 (t:=t) h.s
  have hY1:=hY t (fu t s) h.t hsp
  obtain ⟨z1,z2,z3⟩:=hz8 _ hsp
  have z4:=MK (dw h hsp)
  have fin:∀ {v:Bool},zh s=v→(!C2 t s && (v || decide (s.time < (bz t s).stay)))=true→iN t s=(4,s):=fun {v} e1 e2=>by
    rw [iN,e1,if_pos e2]
  have fin2:∀ {v:Bool},zh s=v→(!C2 t s && (v || decide (s.time < (bz t s).stay)))=false→iN t s=if aL t (fu t s) ≥ 0 then (1,{ fu t s with which:=aL t (fu t s) }) else (5,fu t s):=fun {v} e1 e2=>by
    rw [iN,e1,if_neg (by rw [e2]; decide)]
  have hl:C2 t s=(decide ((bz t s).most > 0) && decide (s.time ≥ (bz t s).most)):=rfl
  have tail1:∀ {v:Bool},zh s=v→C2 t s=false∨v=false→fu t s=s:=fun {v} e1 e2=>by
    rw [fu,e1]; rcases e2 with e | e<;>rw [e]<;>simp
  have pw:0≤s.which∧s.which < 4→min s.which.toNat IntKind.i64.bits=s.which.toNat∧(decide (s.which < 0)=false):=fun hx=>by
    have:IntKind.i64.bits=64:=rfl
    exact ⟨by omega,by simp; omega⟩
  have hx4:zh s=true→0≤s.which∧s.which < 4:=fun e=>by
    simp only [zh,Bool.and_eq_true,decide_eq_true_eq] at e; exact ⟨e.1.1,e.1.2⟩
  obtain ⟨v,hv⟩:∃ v,zh s=v:=⟨_,rfl⟩
  have h4:v=(decide (s.which ≥ 0) && decide (s.which < 4) && decide (eu s s.which.toNat > 0)):=by rw [← hv]; rfl
  cases hA1:decide (s.which ≥ 0)
  rotate_left
  cases hA2:decide (s.which < 4)
  rotate_left
  have hx:0≤s.which∧s.which < 4:=⟨of_decide_eq_true hA1,of_decide_eq_true hA2⟩
  have hh:=SO h (k:=s.which.toNat) (by omega)
  try simp only [I,B,D,RY,↓ KW,seval,hA1,hA2,hx,hh,hq,hlen,ht,hz,hzl,hr9,Rl.len]
  cases hA3:decide (eu s s.which.toNat > 0)
  all_goals
    first | rw [hA1,hA2,hA3] at h4 | rw [hA1,hA2] at h4 | rw [hA1] at h4
    simp only [Bool.and_self,Bool.and_false,Bool.false_and,Bool.true_and] at h4
    subst h4
    try try simp only [I,B,D,RY,↓ KW,seval,hA3,hq,hlen,ht,hz,hzl,hr9,Rl.len]
    try try simp only [I,B,D,RY,↓ KW,seval,hA1,hA2,hq,hlen,ht,hz,hzl,hr9,Rl.len]
    try try simp only [I,B,D,RY,↓ KW,seval,hA1,hq,hlen,ht,hz,hzl,hr9,Rl.len]
    cases h5:decide ((bz t s).most > 0)<;>cases h6:decide (s.time ≥ (bz t s).most)<;>cases h7:decide (s.time < (bz t s).stay)
    all_goals
      rw [h5,h6] at hl
      simp only [Bool.and_self,Bool.and_false,Bool.false_and,Bool.true_and] at hl
      try simp only [I,B,D,RY,↓ KW,seval,h5,hq,hlen,ht,hz,hzl,hr9,Rl.len]
      try try simp only [I,B,D,RY,↓ KW,seval,h6,hq,hlen,ht,hz,hzl,hr9,Rl.len]
      try try simp only [I,B,D,RY,↓ KW,seval,h7,hq,hlen,ht,hz,hzl,hr9,Rl.len]
      first
        | (have e:=fin hv (by rw [hl,h7]; rfl); rw [e]; exact ⟨rfl,rfl⟩)
        | skip
  all_goals first
    | (have e:=fin2 hv (by rw [hl,h7]; rfl)
       have es:=tail1 hv (by rw [hl]; first | exact .inl rfl | exact .inr rfl)
       rw [es] at hY1 e z4
       refine af hY1 ?_
       try simp only [I,B,D,RY,↓ KW,seval,hq,hlen,ht,hz,hzl,hr9,Rl.len]
       generalize aL t s=k at *
       cases h8:decide (k ≥ 0)
       · rw [if_neg (of_decide_eq_false h8)] at e
         try simp only [I,B,D,RY,↓ KW,seval,h8,hq,hlen,ht,hz,hzl,hr9,Rl.len]
         rw [e]; exact ⟨rfl,rfl⟩
       · rw [if_pos (of_decide_eq_true h8)] at e
         try simp only [I,B,D,RY,↓ KW,seval,h8,z4,hq,hlen,ht,hz,hzl,hr9,Rl.len]
         first | (refine ⟨by omega,?_⟩; rw [e]; exact ⟨rfl,rfl⟩) | (rw [e]; exact ⟨rfl,rfl⟩))
    | (have e:=fin2 hv (by rw [hl,h7]; rfl)
       have es:fu t s={ s with dK:=zD .i64 s.dK (IntKind.i64.wrap (2 ^ s.which.toNat)) }:=by rw [fu,hl,hv]; rfl
       obtain ⟨p1,p2⟩:=pw (hx4 hv)
       have p3:(1:Int) * 2 ^ s.which.toNat=2 ^ s.which.toNat:=Int.one_mul _
       have s7:=SR h (zD .i64 s.dK (IntKind.i64.wrap (2 ^ s.which.toNat)))
       rw [← es] at s7
       refine ⟨(hx4 hv).1,?_⟩
       try simp only [I,B,D,RY,↓ KW,seval,p1,p3,s7,z1,z2,z3,hq,hlen,ht,hz,hzl,hr9,Rl.len]
       refine af hY1 ?_
       try simp only [I,B,D,RY,↓ KW,seval,p1,p3,s7,z1,z2,z3,hq,hlen,ht,hz,hzl,hr9,Rl.len]
       generalize aL t (fu t s)=k at *
       cases h8:decide (k ≥ 0)
       · rw [if_neg (of_decide_eq_false h8)] at e
         try simp only [I,B,D,RY,↓ KW,seval,p1,p3,s7,z1,z2,z3,h8,hq,hlen,ht,hz,hzl,hr9,Rl.len]
         rw [e]; exact ⟨rfl,rfl⟩
       · rw [if_pos (of_decide_eq_true h8)] at e
         try simp only [I,B,D,RY,↓ KW,seval,p1,p3,s7,z1,z2,z3,h8,z4,hq,hlen,ht,hz,hzl,hr9,Rl.len]
         first | (refine ⟨by omega,?_⟩; rw [e]; exact ⟨rfl,rfl⟩) | (rw [e]; exact ⟨rfl,rfl⟩))
end
end Go.Eng
