/- The engine and the library,part 11 of 18: what the proofs of this seat need of them. -/
import Derived.Test.YthoinfdfenkgnaaGreatPk10
set_option linter.unnecessarySimpa false
set_option linter.unusedSimpArgs false
set_option linter.unusedVariables false
set_option linter.defProp false
set_option maxRecDepth 10000
set_option maxHeartbeats 4000000
namespace Go.Eng
open Go
def nh(f:Nat->Bool):Nat->Int
 |0=>0
 |k+1=>if f k then d9 (nh f k) k else nh f k
def Kw(f:Nat->Bool):Int:=nh f 8
theorem HH(f:Nat->Bool):∀k,k<=8->Can (nh f k)
 |0,_=>by show Can 0;exact⟨by decide,by decide⟩
 |k+1,h=>by
  simp only[nh];split
  ·exact tw (by omega)
  ·exact HH f k (by omega)
theorem Kx(f:Nat->Bool) (i:Nat):∀k,k<=8->tb (nh f k) i=(decide (i<k)&&f i)
 |0,_=>by simp[nh,AQ]
 |k+1,h=>by
  have ih:=Kx f i k (by omega)
  simp only[nh];split
  ·rename_i hk
   rw[ur (by omega),ih]
   by_cases e:i=k
   ·subst e;simp[hk]
   ·have h1:(i<k+1)↔i<k:=by omega
    have h2:i<k->i<8:=by omega
    by_cases h3:i<k
    ·simp[h1,h3,h2 h3,e]
    ·simp[h1,h3,e]
  ·rename_i hk
   rw[ih]
   by_cases e:i=k
   ·subst e;simp at hk;simp[hk]
   ·have h1:(i<k+1)↔i<k:=by omega
    simp[h1]
theorem Ky(f:Nat->Bool):Can (Kw f):=HH f 8 (by omega)
theorem Jk(f:Nat->Bool) (i:Nat):tb (Kw f) i=(decide (i<8)&&f i):=Kx f i 8 (by omega)
theorem Vb{x:Int} (hx:Can x) {f:Nat->Bool} (h:∀i,i<8->tb x i=f i):x=Kw f:=
 AW hx (Ky f) fun i hi=>by rw[h i hi,Jk];simp[hi]
theorem Rc{x y:Int} (hy:Can y):Can (dw .i64 x y):=by
 have e:dw .i64 x y=IntKind.i64.wrap ((bv x&&&bv y).toNat:Int):=rfl
 rw[e]
 refine Cl fun i h8 h64=>?_
 have a:=xE hy h8 h64
 simp only[tb]at a;rw[BitVec.getLsbD_and,a,Bool.and_false]
theorem Re:Can 255:=⟨by decide,by decide⟩
theorem Zj:Can 0:=⟨by decide,by decide⟩
def HI(s:Int) (f:Nat->Bool):Bool:=(List.range 8).all fun p=>!tb s p||f p
theorem Cn{s:Int} {f:Nat->Bool}:HI s f=true↔∀p,p<8->tb s p=true->f p=true:=by
 simp only[HI,List.all_eq_true,List.mem_range,Bool.or_eq_true,Bool.not_eq_true'];constructor
 ·intro h p hp ht;rcases h p hp with e|e
  ·rw[ht]at e;cases e
  ·exact e
 ·intro h p hp
  cases ht:tb s p
  ·exact .inl rfl
  ·exact .inr (h p hp ht)
theorem FT(s:Int) (f:Nat->Bool):(Kw (fun p=>tb s p&&f p)==dw .i64 s 255)=HI s f:=by
 rw[Bool.eq_iff_iff,Cn,beq_iff_eq];constructor
 ·intro h p hp ht
  have:=congrArg (fun x=>tb x p) h
  simp only[Jk,FB,FC,hp,ht,decide_true,Bool.true_and,Bool.and_true]at this;exact this
 ·intro h
  refine AW (Ky _) (Rc Re) fun i hi=>?_
  rw[Jk,FB,FC];cases ht:tb s i
  ·simp
  ·simp[hi,h i hi ht]
def EA(is:Nat->Bool) (l:List Nat):Int:=l.foldl (fun n p=>if is p then d9 n p else n) 0
theorem Co(is:Nat->Bool):∀(l:List Nat) (n:Int),(∀p∈l,p<8)->Can n->Can (l.foldl (fun n p=>if is p then d9 n p else n) n)/\∀i,i<8->tb (l.foldl (fun n p=>if is p then d9 n p else n) n) i=(tb n i||(decide (i∈l)&&is i))
 |[],n,_,hc=>⟨hc,fun i hi=>by simp⟩
 |q::l,n,h,hc=>by
  have hq:q<8:=h q (by simp)
  rw[List.foldl_cons]
  have hc2:Can (if is q then d9 n q else n):=by split;exact tw hq;exact hc
  obtain⟨a,b⟩:=Co is l _ (fun p hp=>h p (by simp[hp])) hc2
  refine⟨a,fun i hi=>?_⟩
  rw[b i hi]
  by_cases e:i=q
  ·subst e
   split
   ·rename_i hk;rw[ur hq];simp[hk]
   ·rename_i hk;simp at hk;simp[hk]
  ·have e2:(i∈q::l)↔i∈l:=by simp[e]
   simp only[e2];split
   ·rw[ur hq];simp[hi,e]
   ·rfl
theorem LY(is:Nat->Bool) (s:Int):EA is (fJ s)=Kw fun p=>tb s p&&is p:=by
 obtain⟨a,b⟩:=Co is (fJ s) 0 (fun p hp=>xF hp) Zj
 refine Vb a fun i hi=>?_
 rw[b i hi,AQ,Bool.false_or];cases ht:tb s i
 ·have:¬i∈fJ s:=fun h=>by rw[Kt h]at ht;cases ht
  simp[this]
 ·simp[HD hi ht]
def ez(s:Pr) (k:Nat):Int:=s.held.getD k 0
def SO(t:Tb):Option (List Rl):=t.bQ.map (·.take 4)
def nR(t:Tb):Nat:=min (t.bQ.getD []).length 4
theorem AY(t:Tb):((SO t).getD []).length=nR t:=by
 unfold SO nR;cases t.bQ with
 |none=>rfl
 |some l=>simp[Nat.min_comm]
theorem FU(t:Tb) {k:Nat} (hk:k<nR t):((SO t).getD [])[k]? =some (Ku t k):=by
 unfold nR at hk;unfold SO Ku
 cases h:t.bQ with
 |none=>rw[h]at hk;simp at hk
 |some l=>
  rw[h]at hk;simp only[Option.getD_some]at hk;simp only[Option.map_some,Option.getD_some]
  have h1:k<l.length:=by omega
  rw[List.getElem?_take,if_pos (by omega)]
  simp[h1]
theorem Pr.len{s:Pr} (h:s.held.length=4):s.cells.length=8:=by simp[Pr.cells,h]
theorem Pr.whole{s:Pr} (h:s.held.length=4):ay s.cells 0 (some 8)=some (.agg s.cells):=by
 have:=Pr.len h
 simp[ay,this];rw[<-this,List.take_length]
theorem jc{s:Pr} (h:s.held.length=4):s.held=[ez s 0,ez s 1,ez s 2,ez s 3]:=by
 match hs:s.held,h with
 |[a,b,c,d],_=>simp[ez,hs]
theorem Pr.FV{s:Pr} (h:s.held.length=4) {k:Nat} (hk:k<4):s.cells[3+k]? =some (I (ez s k)):=by
 have e:k=0\/k=1\/k=2\/k=3:=by omega
 rw[Pr.cells,jc h]
 rcases e with rfl|rfl|rfl|rfl<;>rfl
theorem Pr.tj{s:Pr} (h:s.held.length=4):s.cells[7]? =some (I s.ee):=by
 rw[Pr.cells,jc h];rfl
def pH(t:Tb) (lines:Int):Nat->Int
 |0=>0
 |k+1=>if tb lines k then yE .i64 (pH t lines k) (2^k)else pH t lines k
def N6(s:Pr) (k:Nat):Int:=fj (ez s k) 0 2147483646+1
def e9(t:Tb) (s:Pr) (lines:Int) (n:Nat):List Int:=(List.range 4).map fun k=>if k<n&&tb lines k then N6 s k else 0
def tB(t:Tb) (s:Pr) (lines:Int):Pr:={s with held:=e9 t s lines (nR t),ee:=dw .i64 s.ee (pH t lines (nR t))}
theorem HJ(t:Tb) (s:Pr) (lines:Int):(tB t s lines).held.length=4:=rfl
def HK(t:Tb) (s:Pr) (k:Nat):Bool:=decide (ez s k>(Ku t k).delay)&& !tb s.ee k
def aN(t:Tb) (s:Pr):Int:=match(List.range (nR t)).find? (HK t s)with
 |some k=>k
 |none=>-1
def Cp(t:Tb) (s:Pr) (k:Nat):Bool:=decide (ez s k>(Ku t k).limit)
def vZ(t:Tb) (s:Pr):Bool:=(List.range (nR t)).any (Cp t s)
def tC.Spec(C:aS) (f:Nat):Prop:=∀t:Tb,t.Ok->C.c f [.agg t.cells] (aH Rl.cells (SO t)) none
def Cq.Spec(C:aS) (f:Nat):Prop:=∀(t:Tb) (s:Pr) (lines:Int),t.Ok->s.held.length=4->C.c f [.agg t.cells,.agg s.cells,I lines] (.agg (tB t s lines).cells) none
def y6.Spec(C:aS) (f:Nat):Prop:=∀(t:Tb) (s:Pr),t.Ok->s.held.length=4->C.c f [.agg t.cells,.agg s.cells] (I (aN t s)) none
def Cr.Spec(C:aS) (f:Nat):Prop:=∀(t:Tb) (s:Pr),t.Ok->s.held.length=4->C.c f [.agg t.cells,.agg s.cells] (B (vZ t s)) none
def HL.Spec(C:aS) (f:Nat):Prop:=∀n:Int,C.c f [I n] (I (cV n)) none
theorem Kz{s:Int} {k:Nat} (hk:k<4):dw .i64 (s.fdiv (2^k)) 1=if tb s k then 1 else 0:=by
 have h1:tb (s.fdiv (2^k)) 0=tb s k:=by
  rw[B8 _ (by omega),B8 _ (by omega)]
  simp
 rw[Hh,h1]
theorem KA{k:Nat} (hk:k<4):min ((k:Int)).toNat IntKind.i64.bits=k:=by
 have:IntKind.i64.bits=64:=rfl
 rw[this];omega
theorem HM(t:Tb) (s:Pr) (lines:Int) {k:Nat} (hk:k<4):(e9 t s lines (k+1)).map I=setCells ((e9 t s lines k).map I) k [I (if tb lines k then N6 s k else 0)]:=by
 have e:k=0\/k=1\/k=2\/k=3:=by omega
 rcases e with rfl|rfl|rfl|rfl<;>simp[e9,setCells,List.range_succ]
theorem HN(t:Tb) (s:Pr) (lines:Int) {k:Nat} (h:tb lines k=false):e9 t s lines (k+1)=e9 t s lines k:=by
 unfold e9
 apply List.map_congr_left
 intro i hi
 by_cases e:i=k
 ·subst e;simp[h]
 ·have:(i<k+1)↔i<k:=by omega
  simp[this]
section
variable{P:Program} (hm:P.follows .mixedOrders=true) {f:Nat}
include hm
theorem HL.ok(hc:bF P f=some rz):HL.Spec (Pure P) f:=by
 intro n
 have h1:(if 9999<(if 0>n then 0 else n)then 9999 else(if 0>n then 0 else n))=fj n 0 9999:=by
  unfold fj;split<;>split<;>(try split)<;>omega
 refine ak hm hc (by show 1<=7;decide) (aj (keep:=[]) (i:=0) ?_)
 try simp only[I,RX,↓KW,seval,rz,Z.H]
 rw[h1];rfl
theorem tC.ok(hc:bF P f=some pF):tC.Spec (Pure P) f:=by
 intro t ht
 have hg:=Tb.xq ht
 refine ak hm hc (by show 1<=10;decide) (aj (keep:=[]) (i:=0) ?_)
 try simp only[RX,↓KW,seval,pF,Z.H,hg]
 have hmn:(if(4:Int)<((t.bQ.getD []).length:Int)then(4:Int)else((t.bQ.getD []).length:Int))=(nR t:Int):=by unfold nR;split<;>omega
 rw[hmn]
 refine⟨⟨by omega,by unfold nR;omega⟩,fun r _=>rfl,?_⟩
 unfold SO nR
 cases t.bQ with
 |none=>rfl
 |some l=>
  simp only[Option.getD_some,aH,Mv,Option.map_some,AV.sl.injEq,Int.toNat_natCast,Int.toNat_zero,List.drop_zero,List.map_take]
  rcases Nat.lt_or_ge l.length 4 with h|h
  ·rw[Nat.min_eq_left (by omega),List.take_of_length_le (by simp),List.take_of_length_le (by simp;omega)]
  ·rw[Nat.min_eq_right h]
theorem Cq.ok{fR:Nat} (hc:bF P f=some (pz fR)) (hR:tC.Spec (Pure P) fR):Cq.Spec (Pure P) f:=by
 intro t s lines ht hs
 have hp:=Tb.whole ht
 have hsl:=Pr.len hs
 have hn:=AY t
 have h1:=Pr.tj hs
 refine ak hm hc (by show 3<=43;decide) (aj (keep:=[]) (i:=0) ?_)
 try simp only[I,RY,↓KW,seval,pz,Z.H,hp]
 refine af (hR t ht) ?_;try simp only[RY,↓KW,seval,hn]
 refine aG (fun k:Nat=>(⟨[(13,.dat (I k) none),(12,.dat (I (nR t)) none),(2,.dat (I lines) none),(7,.dat (I (pH t lines k)) none),(4,.ptr 5 0),(8,.ptr 8 0),(6,.ptr 6 0)],[(5,⟨s.cells,[]⟩),(8,⟨(e9 t s lines k).map I,[]⟩),(6,⟨[I 0,I 0,I 0,I 0,I 0,I 0,I 0,I 0],[]⟩)],[],400⟩:S)) (fun k=>nR t-k) (fun k=>k<=nR t) ?_ 0 (by omega) ?_
 rotate_left
 ·refine ai (by decide) ?_ ?_ ?_ ?_<;>simp[LX,I,e9,pH]
  rfl
 ·intro k hk A back
  have hwr:=aB (k:=k) (by unfold nR at*;omega)
  try simp only[I,RY,↓KW,seval]
  refine ax (fun h=>?_) (fun h=>?_)<;>try simp only[RY,↓KW,seval,h]
  ·have h8:k<nR t:=by have:=of_decide_eq_true h;omega
   have h4:k<4:=by unfold nR at h8;omega
   have hy:0<=(k:Int)/\(k:Int)<4:=by omega
   have hm:min k IntKind.i64.bits=k:=by have:=KA h4;simpa using this
   have hb:=Kz (s:=lines) h4
   have ha:=Pr.FV hs h4
   have hnx:=HM t s lines h4
   have hac:pH t lines (k+1)=if tb lines k then yE .i64 (pH t lines k) (2^k)else pH t lines k:=rfl
   have hpw:IntKind.i64.wrap (1*2^k)=2^k:=by
    have e:k=0\/k=1\/k=2\/k=3:=by omega
    rcases e with rfl|rfl|rfl|rfl<;>rfl
   refine⟨hy.1,?_⟩;cases ht:tb lines k
   ·have hkp:=HN t s lines ht
    rw[ht]at hb hac;try simp only[RY,↓KW,seval,hm,hb]
    refine back (k+1) _ (by omega) (by omega) (ai (by decide) ?_ ?_ ?_ ?_)<;>simp[LX,I,hwr,hac,hkp]
   ·rw[ht]at hb hac hnx
    have hcu:(if 2147483646<(if 0>ez s k then 0 else ez s k)then 2147483646 else(if 0>ez s k then 0 else ez s k))=fj (ez s k) 0 2147483646:=by
     unfold fj;split<;>split<;>(try split)<;>omega
    have hr:0<=fj (ez s k) 0 2147483646/\fj (ez s k) 0 2147483646<=2147483646:=by unfold fj;split<;>(try split)<;>omega
    have hw2:IntKind.i64.wrap (fj (ez s k) 0 2147483646+1)=N6 s k:=by rw[aW (by omega) (by omega)];rfl
    try simp only[I,RY,↓KW,seval,hm,hb,hpw,hy,ha,hcu,hw2]
    refine⟨by show k+1<=4;omega,?_⟩
    refine back (k+1) _ (by omega) (by omega) (ai (by decide) ?_ ?_ ?_ ?_)<;>simp[LX,I,hwr,hac,hnx]
  ·have hk':k=nR t:=by have:=of_decide_eq_false h;omega
   subst hk'
   have q1:ay ((e9 t s lines (nR t)).map I) 0 (some 4)=some (.agg ((e9 t s lines (nR t)).map I)):=rfl
   have q2:((e9 t s lines (nR t)).map I).length=4:=rfl
   have e1:setCells s.cells 3 ((e9 t s lines (nR t)).map I)=({s with held:=e9 t s lines (nR t)}:Pr).cells:=by
    rw[Pr.cells,jc hs];rfl
   have e2:∀x,setCells ({s with held:=e9 t s lines (nR t)}:Pr).cells 7 [I x]=({s with held:=e9 t s lines (nR t),ee:=x}:Pr).cells:=fun x=>rfl
   have e3:({s with held:=e9 t s lines (nR t)}:Pr).cells.length=8:=rfl
   have e6:ay ({s with held:=e9 t s lines (nR t),ee:=dw .i64 s.ee (pH t lines (nR t))}:Pr).cells 0 (some 8)=some (.agg ({s with held:=e9 t s lines (nR t),ee:=dw .i64 s.ee (pH t lines (nR t))}:Pr).cells):=rfl
   have e7:({s with held:=e9 t s lines (nR t),ee:=dw .i64 s.ee (pH t lines (nR t))}:Pr).cells.length=8:=rfl
   have e8:setCells [I 0,I 0,I 0,I 0,I 0,I 0,I 0,I 0] 0 ({s with held:=e9 t s lines (nR t),ee:=dw .i64 s.ee (pH t lines (nR t))}:Pr).cells=({s with held:=e9 t s lines (nR t),ee:=dw .i64 s.ee (pH t lines (nR t))}:Pr).cells:=rfl
   try simp only[I,RY,↓KW,seval,q1,q2,h1,e1,e2,e3,e6,e7,e8,hsl]
   rfl
theorem y6.ok{fR:Nat} (hc:bF P f=some (pq fR)) (hR:tC.Spec (Pure P) fR):y6.Spec (Pure P) f:=by
 intro t s ht hs
 have hp:=Tb.whole ht
 have hn:=AY t
 have h7:=Pr.tj hs
 refine ak hm hc (by show 2<=32;decide) (aj (keep:=[]) (i:=0) ?_)
 try simp only[I,RX,↓KW,seval,pq,Z.H,hp]
 refine af (hR t ht) ?_;try simp only[RX,↓KW,seval,hn]
 refine aG (fun k:Nat=>(⟨[(10,.dat (I k) none),(9,.dat (I (nR t)) none),(8,.dat (aH Rl.cells (SO t)) none),(3,.ptr 5 0)],[(5,⟨s.cells,[]⟩)],[],400⟩:S)) (fun k=>nR t-k) (fun k=>k<=nR t/\∀q,q<k->HK t s q=false) ?_ 0 ⟨by omega,by omega⟩ ?_
 rotate_left
 ·refine ai (by decide) ?_ ?_ ?_ ?_<;>simp[LX,I]
 ·rintro k ⟨hk,hno⟩ A back
  have hwr:=aB (k:=k) (by unfold nR at*;omega)
  try simp only[I,RX,↓KW,seval]
  refine ax (fun h=>?_) (fun h=>?_)<;>try simp only[RX,↓KW,seval,h]
  ·have h8:k<nR t:=by have:=of_decide_eq_true h;omega
   have h4:k<4:=by unfold nR at h8;omega
   have hy:0<=(k:Int)/\(k:Int)<4:=by omega
   have hm:min k IntKind.i64.bits=k:=by have:=KA h4;simpa using this
   have hb:=Kz (s:=s.ee) h4
   have ha:=Pr.FV hs h4
   have hg:=FU t h8
   have hx:HK t s k=(decide (ez s k>(Ku t k).delay)&& !tb s.ee k):=rfl
   generalize hq:Ku t k=r at*
   have hrq:ay r.cells 0 (some 11)=some (.agg r.cells):=rfl
   have hr4:r.cells[4]? =some (I r.delay):=rfl
   refine⟨by omega,?_⟩
   have hz:setCells bz 0 r.cells=r.cells:=rfl
   have hzl:bz.length=11:=rfl
   try simp only[I,RY,↓KW,seval,hy,ha,hg,hrq,hr4,hz,hzl,Rl.len]
   cases hd:decide (ez s k>r.delay)
   ·have hx2:HK t s k=false:=by rw[hx,hd];rfl
    try simp only[RY,↓KW,seval]
    refine back (k+1) _ ⟨by omega,fun q hq'=>?_⟩ (by omega) ?_
    ·by_cases e:q=k
     ·rw[e];exact hx2
     ·exact hno q (by omega)
    ·refine ai (by decide) ?_ ?_ ?_ ?_<;>simp[LX,I,hwr]
   ·try simp only[I,RY,↓KW,seval,hm,hy,h7]
    cases ht2:tb s.ee k
    ·have hx2:HK t s k=true:=by rw[hx,hd,ht2];rfl
     rw[ht2]at hb
     have hf:(List.range (nR t)).find? (HK t s)=some k:=uo (List.getElem?_range h8) hx2 (fun y hy=>hno y (by rw[List.take_range]at hy;have:=List.mem_range.1 hy;omega))
     try simp only[RY,↓KW,seval,hb]
     simp[aN,hf]
    ·have hx2:HK t s k=false:=by rw[hx,hd,ht2];rfl
     rw[ht2]at hb;try simp only[RY,↓KW,seval,hb]
     refine back (k+1) _ ⟨by omega,fun q hq'=>?_⟩ (by omega) ?_
     ·by_cases e:q=k
      ·rw[e];exact hx2
      ·exact hno q (by omega)
     ·refine ai (by decide) ?_ ?_ ?_ ?_<;>simp[LX,I,hwr]
  ·have hk':k=nR t:=by have:=of_decide_eq_false h;omega
   subst hk'
   have hf:(List.range (nR t)).find? (HK t s)=none:=pg fun x hx=>hno x (List.mem_range.1 hx)
   simp[aN,hf]
theorem Cr.ok{fR:Nat} (hc:bF P f=some (pE fR)) (hR:tC.Spec (Pure P) fR):Cr.Spec (Pure P) f:=by
 intro t s ht hs
 have hp:=Tb.whole ht
 have hn:=AY t
 refine ak hm hc (by show 2<=23;decide) (aj (keep:=[]) (i:=0) ?_)
 try simp only[B,RX,↓KW,seval,pE,Z.H,hp]
 refine af (hR t ht) ?_;try simp only[RX,↓KW,seval,hn]
 refine aG (fun k:Nat=>(⟨[(10,.dat (I k) none),(9,.dat (I (nR t)) none),(8,.dat (aH Rl.cells (SO t)) none),(3,.ptr 5 0)],[(5,⟨s.cells,[]⟩)],[],400⟩:S)) (fun k=>nR t-k) (fun k=>k<=nR t/\∀q,q<k->Cp t s q=false) ?_ 0 ⟨by omega,by omega⟩ ?_
 rotate_left
 ·refine ai (by decide) ?_ ?_ ?_ ?_<;>simp[LX,I]
 ·rintro k ⟨hk,hno⟩ A back
  have hwr:=aB (k:=k) (by unfold nR at*;omega)
  try simp only[I,RX,↓KW,seval]
  refine ax (fun h=>?_) (fun h=>?_)<;>try simp only[RX,↓KW,seval,h]
  ·have h8:k<nR t:=by have:=of_decide_eq_true h;omega
   have h4:k<4:=by unfold nR at h8;omega
   have hy:0<=(k:Int)/\(k:Int)<4:=by omega
   have ha:=Pr.FV hs h4
   have hg:=FU t h8
   have hx:Cp t s k=decide (ez s k>(Ku t k).limit):=rfl
   generalize hq:Ku t k=r at*
   have hrq:ay r.cells 0 (some 11)=some (.agg r.cells):=rfl
   have hr4:r.cells[10]? =some (I r.limit):=rfl
   refine⟨by omega,?_⟩
   have hz:setCells bz 0 r.cells=r.cells:=rfl
   have hzl:bz.length=11:=rfl
   try simp only[I,RY,↓KW,seval,hy,ha,hg,hrq,hr4,hz,hzl,Rl.len]
   cases hd:decide (ez s k>r.limit)
   ·have hx2:Cp t s k=false:=by rw[hx,hd]
    try simp only[RY,↓KW,seval]
    refine back (k+1) _ ⟨by omega,fun q hq'=>?_⟩ (by omega) ?_
    ·by_cases e:q=k
     ·rw[e];exact hx2
     ·exact hno q (by omega)
    ·refine ai (by decide) ?_ ?_ ?_ ?_<;>simp[LX,I,hwr]
   ·have hx2:Cp t s k=true:=by rw[hx,hd]
    try simp only[RY,↓KW,seval]
    have hs2:vZ t s=true:=List.any_eq_true.2 ⟨k,List.mem_range.2 h8,hx2⟩
    simp[hs2]
  ·have hk':k=nR t:=by have:=of_decide_eq_false h;omega
   subst hk'
   have hs2:vZ t s=false:=by
    rw[vZ,List.any_eq_false];intro x hx;simp[hno x (List.mem_range.1 hx)]
   simp[hs2]
end
open Go.RowKit (Below)
section
variable{C:aS} {Q:Exit->S->Prop} {K:SV->S->Prop} {J:S->Prop} {X:AV->S->Prop}
variable(sl:List (Nat×SV)) (bx:List (Nat×bV)) (lv:List (Nat×Nat)) (nx:Nat)
theorem Vc(b i:Nat):eE C b i [] J X ⟨sl,bx,lv,nx⟩=J ⟨sl,bx,lv,nx⟩:=rfl
theorem Zk(b i:Nat) (d:Option Nat) (o:Mt) (r:List XO):eE C b i (⟨d,o,none⟩::r) J X ⟨sl,bx,lv,nx⟩=cZ C (b+i) o (fun v s'=>eE C b (i+1) r J X (s'.put d v)) X ⟨sl,bx,lv,nx⟩:=rfl
theorem Vd(b i t:Nat) (w:Bool) (d:Option Nat) (o:Mt) (r:List XO):eE C b i (⟨d,o,some (t,w)⟩::r) J X ⟨sl,bx,lv,nx⟩=
  lF w (cZ C (b+i) o (fun v s'=>eE C b (i+1) r J X (s'.put d v)) X ⟨sl,bx,lv,nx⟩) (eE C b (i+1) r J X (S.put ⟨sl,bx,lv,nx⟩ d .undef)) (lk t sl):=by
 simp only[eE,eN,lF]
 cases lk t sl with
 |none=>rfl
 |some v=>cases v with
  |dat a q=>cases a<;>rfl
  |_=>rfl
theorem x_o(id:Nat) (c:bW):cZ C id (.o c) K X ⟨sl,bx,lv,nx⟩=bN C id c K ⟨sl,bx,lv,nx⟩:=rfl
def KB(k:Exit->S->Prop) (n:Nat):AV->S->Prop:=fun p s=>k (.panic (i7 p)) {s with nx:=n}
theorem Zl(ops:List XO):aw C (.ff ops) Q ⟨sl,bx,lv,nx⟩=eE C nx 0 ops (GV (Q .normal) (nx+ops.length)) (KB Q (nx+ops.length)) ⟨sl,bx,lv,nx⟩:=rfl
theorem Ve(k:Exit->S->Prop) (n:Nat) (p:AV):KB k n p ⟨sl,bx,lv,nx⟩=k (.panic (i7 p)) ⟨sl,bx,lv,n⟩:=rfl
class KX where
 run:SV->List (Nat×bV)->List (Nat×Nat)->Prop
 rx:AV->List (Nat×bV)->Prop
def Ct(C:aS) (f:Nat) (as:List AV) (id:Nat) (bx:List (Nat×bV)) (lv:List (Nat×Nat)) (k:SV->List (Nat×bV)->List (Nat×Nat)->Prop) (x:AV->List (Nat×bV)->Prop):Prop:=
 zJ C f as id lv (fun v l=>k v bx l)\/(∃cs,C.n f as cs/\k (.ptr id 0) ((id,⟨cs,[]⟩)::bx) lv)\/∃p,C.q f [] (as.map some) p []/\x p bx
def clx(C:aS) (f:Nat) (as:List AV) (id:Nat) (bx:List (Nat×bV)) (lv:List (Nat×Nat)) [k:KX]:Prop:=Ct C f as id bx lv k.run k.rx
theorem Zm(f:Nat) (as:List AV) (id:Nat) (bx:List (Nat×bV)) (lv:List (Nat×Nat)) (k:SV->List (Nat×bV)->List (Nat×Nat)->Prop) (x:AV->List (Nat×bV)->Prop):Ct C f as id bx lv k x=@clx C f as id bx lv ⟨k,x⟩:=rfl
@[congr] theorem Zn (f:Nat) {as as':List AV} (id:Nat) (bx:List (Nat×bV)) (lv:List (Nat×Nat)) (k:SV->List (Nat×bV)->List (Nat×Nat)->Prop) (x:AV->List (Nat×bV)->Prop) (h:as=as'):Ct C f as id bx lv k x=Ct C f as' id bx lv k x:=by rw[h]
theorem aC{f:Nat} {as:List AV} {id:Nat} {bx:List (Nat×bV)} {lv:List (Nat×Nat)} {k:SV->List (Nat×bV)->List (Nat×Nat)->Prop} {x:AV->List (Nat×bV)->Prop} {r:AV} (h:C.c f as r none) (hk:k (.dat r none) bx lv):@clx C f as id bx lv ⟨k,x⟩:=.inl ⟨r,none,h,hk⟩
theorem Vf(id f:Nat) (args:List bB):cZ C id (.call f args) K X ⟨sl,bx,lv,nx⟩=an (dQ ⟨sl,bx,lv,nx⟩ args) fun as=>Ct C f as id bx lv (fun v b l=>K v ⟨sl,b,l,nx⟩) (fun p b=>X p ⟨sl,b,lv,nx⟩):=by
 simp only[cZ,bN]
 cases dQ ⟨sl,bx,lv,nx⟩ args with
 |none=>simp
 |some as=>rfl
def uz(C:aS) (f:Nat) (css:List (List AV)) (as:List (Option AV)) (ids:List Nat) (id:Nat) (bx:List (Nat×bV)) (lv:List (Nat×Nat)) (k:SV->List (Nat×bV)->List (Nat×Nat)->Prop) (x:AV->List (Nat×bV)->Prop):Prop:=
 BL C f css as ids id bx lv k\/(∃v css',C.q f css as v css'/\x v (d8 ids css' bx))\/JM C f css as ids id bx lv k
def N7(C:aS) (f:Nat) (css:List (List AV)) (as:List (Option AV)) (ids:List Nat) (id:Nat) (bx:List (Nat×bV)) (lv:List (Nat×Nat)) [k:KX]:Prop:=uz C f css as ids id bx lv k.run k.rx
theorem Vg(f:Nat) (css:List (List AV)) (as:List (Option AV)) (ids:List Nat) (id:Nat) (bx:List (Nat×bV)) (lv:List (Nat×Nat)) (k:SV->List (Nat×bV)->List (Nat×Nat)->Prop) (x:AV->List (Nat×bV)->Prop):uz C f css as ids id bx lv k x=@N7 C f css as ids id bx lv ⟨k,x⟩:=rfl
@[congr] theorem Wz (f:Nat) {css css':List (List AV)} {as as':List (Option AV)} {ids ids':List Nat} (id:Nat) (bx:List (Nat×bV)) (lv:List (Nat×Nat)) (k:SV->List (Nat×bV)->List (Nat×Nat)->Prop) (x:AV->List (Nat×bV)->Prop) (h1:css=css') (h2:as=as') (h3:ids=ids'):uz C f css as ids id bx lv k x=uz C f css' as' ids' id bx lv k x:=by rw[h1,h2,h3]
theorem aK{f:Nat} {css:List (List AV)} {as:List (Option AV)} {ids:List Nat} {id:Nat} {bx:List (Nat×bV)} {lv:List (Nat×Nat)} {k:SV->List (Nat×bV)->List (Nat×Nat)->Prop} {x:AV->List (Nat×bV)->Prop} {r:AV} {css':List (List AV)} (h:C.p f css as r none css') (hk:k (.dat r none) (d8 ids css' bx) lv):@N7 C f css as ids id bx lv ⟨k,x⟩:=.inl ⟨r,none,css',h,hk⟩
theorem EC{f:Nat} {css:List (List AV)} {as:List (Option AV)} {ids:List Nat} {id:Nat} {bx:List (Nat×bV)} {lv:List (Nat×Nat)} {k:SV->List (Nat×bV)->List (Nat×Nat)->Prop} {x:AV->List (Nat×bV)->Prop} {r:AV} {css':List (List AV)} {tg tg':Option (Nat×Nat×Nat)} {qo:Option Nat}
  (h:C.t f css tg as r css' tg') (hq:IJ bx lv ids tg=some qo) (hk:k (.dat r none) (qM id ids tg' (d8 ids css' bx)) (yG id tg' (Gv qo lv))):@N7 C f css as ids id bx lv ⟨k,x⟩:=.inr (.inr ⟨tg,r,css',tg',h,by rw[hq];exact hk⟩)
def xH(C:aS) (f id:Nat) (bx:List (Nat×bV)) (lv:List (Nat×Nat)) (as':List (Option AV)) (bs:List Nat) (k:SV->List (Nat×bV)->List (Nat×Nat)->Prop) (x:AV->List (Nat×bV)->Prop) (p:List (Option AV)×List Nat):Prop:=
 er (p.2++bs)=true/\an (bq bx (p.2++bs)) fun css=>uz C f css (p.1++as') (p.2++bs) id bx lv k x
theorem N8(f id:Nat) (as as':List (Option AV)) (ids bs:List Nat) (k:SV->List (Nat×bV)->List (Nat×Nat)->Prop) (x:AV->List (Nat×bV)->Prop):xH C f id bx lv as' bs k x (as,ids)=(er (ids++bs)=true/\an (bq bx (ids++bs)) fun css=>uz C f css (as++as') (ids++bs) id bx lv k x):=rfl
theorem Rf(id f:Nat) (args:List bB):cZ C id (.bI f args) K X ⟨sl,bx,lv,nx⟩=an (ef ⟨sl,bx,lv,nx⟩ args) (xH C f id bx lv [] [] (fun v b l=>K v ⟨sl,b,l,nx⟩) (fun p b=>X p ⟨sl,b,lv,nx⟩)):=by
 simp only[cZ,bN]
 cases ef ⟨sl,bx,lv,nx⟩ args with
 |none=>simp
 |some p=>
  simp only[aE,xH,List.append_nil]
  cases bq bx p.2 with
  |none=>simp
  |some css=>
   exact(propext and_or_left).symm
def uA(C:aS) (id:Nat) (b:Bool) (g:bB) (args:List bB) (K:SV->S->Prop) (X:AV->S->Prop) (s:S):Option SV->Prop
 |some (.oF f as bs)=>an (ef s args) (xH C f id s.boxes s.live as bs (fun v b l=>K v ⟨s.slots,b,l,s.nx⟩) (fun p b=>X p ⟨s.slots,b,s.live,s.nx⟩))
 |_=>bN C id (if b then .fQ g args else .eP g args) K s
theorem Rh(id:Nat) (b:Bool) (g:bB) (args:List bB):cZ C id (.eP b g args) K X ⟨sl,bx,lv,nx⟩=uA C id b g args K X ⟨sl,bx,lv,nx⟩ (dh ⟨sl,bx,lv,nx⟩ g):=by
 simp only[cZ]
 cases dh ⟨sl,bx,lv,nx⟩ g with
 |none=>rfl
 |some v=>cases v<;>rfl
@[congr] theorem WB (id:Nat) (b:Bool) (g:bB) (args:List bB) (K:SV->S->Prop) (X:AV->S->Prop) (s:S) {v v':Option SV} (h:v=v'):uA C id b g args K X s v=uA C id b g args K X s v':=by rw[h]
theorem N9(id:Nat) (b:Bool) (g:bB) (args:List bB) (f:Nat) (as:List (Option AV)) (bs:List Nat):uA C id b g args K X ⟨sl,bx,lv,nx⟩ (some (.oF f as bs))=an (ef ⟨sl,bx,lv,nx⟩ args) (xH C f id bx lv as bs (fun v b l=>K v ⟨sl,b,l,nx⟩) (fun p b=>X p ⟨sl,b,lv,nx⟩)):=rfl
theorem Oa(id:Nat) (g:bB) (args:List bB) (s:S) (a:AV) (q:Option Nat):uA C id true g args K X s (some (.dat a q))=bN C id (.fQ g args) K s:=rfl
theorem Ob(id:Nat) (g:bB) (args:List bB) (s:S) (a:AV) (q:Option Nat):uA C id false g args K X s (some (.dat a q))=bN C id (.eP g args) K s:=rfl
def Ri(f:Nat) (k:SV->Prop) (p:List (Option AV)×List Nat):Prop:=k (.oF f p.1 p.2)
theorem Zo(id f:Nat) (caps:List bB):cZ C id (.Wo f caps) K X ⟨sl,bx,lv,nx⟩=an (ef ⟨sl,bx,lv,nx⟩ caps) (Ri f fun v=>K v ⟨sl,bx,lv,nx⟩):=rfl
theorem Vh(f:Nat) (k:SV->Prop) (as:List (Option AV)) (bs:List Nat):Ri f k (as,bs)=k (.oF f as bs):=rfl
theorem Zp(id:Nat) (x:bB):cZ C id (.WT x) K X ⟨sl,bx,lv,nx⟩=an (aF ⟨sl,bx,lv,nx⟩ x) fun a=>ju a=true/\X a ⟨sl,bx,lv,nx⟩:=rfl
theorem Zq(id t:Nat) (x:bB):cZ C id (.WU t x) K X ⟨sl,bx,lv,nx⟩=an (aF ⟨sl,bx,lv,nx⟩ x) fun a=>ig a none=true/\K (.dat (.iface t a) none) ⟨sl,bx,lv,nx⟩:=rfl
theorem Zr(id t:Nat) (z:AV) (x:bB):cZ C id (.WV t z x) K X ⟨sl,bx,lv,nx⟩=an (aF ⟨sl,bx,lv,nx⟩ x) fun a=>an (II t z a) fun v=>K (.dat v none) ⟨sl,bx,lv,nx⟩:=rfl
theorem Zs(id:Nat) (neg:Bool) (x:bB):cZ C id (.SZ neg x) K X ⟨sl,bx,lv,nx⟩=an (aF ⟨sl,bx,lv,nx⟩ x) fun a=>an (K0 neg a) fun v=>K (.dat (.bool v) none) ⟨sl,bx,lv,nx⟩:=rfl
theorem Zt(id:Nat) (neg:Bool) (x:bB):cZ C id (.Wp neg x) K X ⟨sl,bx,lv,nx⟩=an (dh ⟨sl,bx,lv,nx⟩ x) fun a=>an (DK neg a) fun v=>K (.dat (.bool v) none) ⟨sl,bx,lv,nx⟩:=rfl
theorem Zu(id e bytes:Nat) (l c:bB):cZ C id (.WW e bytes l c) K X ⟨sl,bx,lv,nx⟩=an (aF ⟨sl,bx,lv,nx⟩ l) fun a=>an (idxOf a) fun l=>an (aF ⟨sl,bx,lv,nx⟩ c) fun b=>an (idxOf b) fun c=>(0<=l/\l<=c/\c*bytes<=140737488355328)/\K (.raw id l.toNat) ⟨sl,bx,(id,e)::lv,nx⟩:=rfl
def Rj(e id:Nat) (s:S) (b:Option AV) (k:SV->S->Prop):SV->Prop
 | .raw q n=>an b fun b=>an (rowsOf b) fun ys=>(ys.length=n/\∀r∈ys,r.length=1)/\d7 q s.live=some e/\k (.dat (.int .i64 n) none) {s with slots:=DL q n (.sl ys) id s.slots,live:=(id,e)::jr q s.live}
 |_=>False
theorem Zv(id e:Nat) (x y:bB):cZ C id (.WX e x y) K X ⟨sl,bx,lv,nx⟩=an (dh ⟨sl,bx,lv,nx⟩ x) (Rj e id ⟨sl,bx,lv,nx⟩ (aF ⟨sl,bx,lv,nx⟩ y) K):=by
 show an _ _=an _ _
 cases dh ⟨sl,bx,lv,nx⟩ x with
 |none=>rfl
 |some v=>cases v<;>rfl
theorem Vi(id e q n:Nat) (b:Option AV):Rj e id ⟨sl,bx,lv,nx⟩ b K (.raw q n)=an b fun b=>an (rowsOf b) fun ys=>(ys.length=n/\∀r∈ys,r.length=1)/\d7 q lv=some e/\K (.dat (.int .i64 n) none) ⟨DL q n (.sl ys) id sl,bx,(id,e)::jr q lv,nx⟩:=rfl
@[congr] theorem abh (e id:Nat) (s:S) {b b':Option AV} (k:SV->S->Prop) {v v':SV} (h:b=b') (hv:v=v'):Rj e id s b k v=Rj e id s b' k v':=by rw[h,hv]
theorem Rk(q n:Nat) (a:AV) (id:Nat):DL q n a id []=[]:=rfl
theorem Vj(q n:Nat) (a:AV) (id t:Nat) (v:SV) (r:List (Nat×SV)):DL q n a id ((t,v)::r)=(t,Bf q n a id v)::DL q n a id r:=rfl
theorem Vk(q n:Nat) (a:AV) (id:Nat):Bf q n a id (.raw q n)=.dat a (some id):=by simp[Bf]
theorem Vl(q n:Nat) (a b:AV) (id:Nat) (m:Option Nat):Bf q n a id (.dat b m)=.dat b m:=rfl
theorem Vm(q n:Nat) (a:AV) (id b o:Nat):Bf q n a id (.ptr b o)=.ptr b o:=rfl
theorem Vn(q n:Nat) (a:AV) (id:Nat) (cs:List AV):Bf q n a id (.rp cs)=.rp cs:=rfl
theorem Vo(q n:Nat) (a:AV) (id:Nat):Bf q n a id .undef=.undef:=rfl
theorem Vp(b:Nat) (cs:List AV) (q n:Nat):pV b cs (.raw q n)=.raw q n:=rfl
theorem Vq(t:Nat) (z:AV):II t z .gk=some (.cN [z,.bool false]):=rfl
theorem Vr(t:Nat) (z a:AV):II t z (.iface t a)=some (.cN [a,.bool true]):=by simp[II]
theorem Vs(neg:Bool):K0 neg .gk=some !neg:=rfl
theorem Vt(neg:Bool) (t:Nat) (a:AV):K0 neg (.iface t a)=some neg:=rfl
theorem Vu(neg:Bool) (b o:Nat):DK neg (.ptr b o)=some neg:=rfl
theorem Vv(neg:Bool) (cs:List AV):DK neg (.rp cs)=some neg:=rfl
theorem Vw(neg:Bool) (q:Option Nat):DK neg (.dat .Aw q)=some !neg:=rfl
theorem Zw(b:Nat) (cs:List AV) (f:Nat) (as:List (Option AV)) (bs:List Nat):pV b cs (.oF f as bs)=.oF f as bs:=rfl
theorem abi(t:Nat) (a:AV) (q:Option Nat):ig (.iface t a) q=true:=rfl
theorem Zx(q:Option Nat):ig .gk q=true:=rfl
theorem Rm(t:Nat) (a:AV):AV.cells (.iface t a)=[.iface t a]:=rfl
theorem Zy(t:Nat) (a:AV):iz (.iface t a)=.dat (.iface t a) none:=rfl
theorem Vx:iz .gk=.dat .gk none:=rfl
theorem Vy(k:S->Prop) (s:S) (c:List PanicEntry):jx k Q (.panic c) s=Q (.panic c) s:=rfl
theorem Zz(id:Nat) (s:S) (c:List PanicEntry):gq id Q (.panic c) s=Q (.panic c) s:=rfl
theorem abj(l:Nat) (k:S->Prop) (s:S) (c:List PanicEntry):mJ l k Q (.panic c) s=Q (.panic c) s:=rfl
theorem abk(s:S) (c:List PanicEntry):AB Q (.panic c) s=Q (.panic c) s:=rfl
theorem ZA(t:Nat) (k k':IntKind) (x y:Int):ju (.iface t (.agg [.int k x,.int k' y]))=true:=rfl
@[congr] theorem abl (id:Nat) (o:Mt) (s:S):cZ C id o K X s=cZ C id o K X s:=rfl
@[congr] theorem aao (b i:Nat) (l:List XO) (s:S):eE C b i l J X s=eE C b i l J X s:=rfl
@[congr] theorem aap (n:Nat) (p:AV) (s:S):KB Q n p s=KB Q n p s:=rfl
@[congr] theorem abm (f:Nat) (k:SV->Prop) {p p':List (Option AV)×List Nat} (h:p=p'):Ri f k p=Ri f k p':=by rw[h]
end
def aY:=
 And.intro @Vc (And.intro @Zk (And.intro @Vd (And.intro @x_o (And.intro @Zl (And.intro @Ve (And.intro @Vf (And.intro @N8 (And.intro @Rf (And.intro @Rh (And.intro @N9 (And.intro @Oa (And.intro @Ob (And.intro @Zo (And.intro @Vh (And.intro @Zp (And.intro @Zq (And.intro @Zr (And.intro @Zs (And.intro @Zt (And.intro @Zu (And.intro @Zv (And.intro @Vi (And.intro @Rk (And.intro @Vj (And.intro @Vk (And.intro @Vl (And.intro @Vm (And.intro @Vn (@Vo)))))))))))))))))))))))))))))
def aZ:=
 And.intro @Vp (And.intro @Vq (And.intro @Vr (And.intro @Vs (And.intro @Vt (And.intro @Vu (And.intro @Vv (And.intro @Vw (And.intro @Zw (And.intro @abi (And.intro @Zx (And.intro @Rm (And.intro @Zy (And.intro @Vx (And.intro @Vy (And.intro @Zz (And.intro @abj (And.intro @abk (@ZA))))))))))))))))))
def bg:=And.intro @Zm @Vg
def ZB(p:AV) (css:List (List AV)):Exit->S->Prop
 | .panic c,s=>c=i7 p/\iA s.boxes 0 css
 |_,_=>False
theorem Vz(p:AV) (css:List (List AV)) (s:S):ZB p css (.panic (i7 p)) s=iA s.boxes 0 css:=by simp[ZB]
section
variable{P:Program}
theorem Oc{w:World} {π:Nat->Nat->Prop} {Bs:List Nat} {vs:List Value} {css:List (List AV)} {args:List (Option AV)} {nt:Nat} (hn:args.length<=nt) (h4:css.length<=4)
  (hprot:∀b o,π b o->b<w.heap.size) (hnd:Bs.Nodup) (hbx:cw w π css Bs) (hd:fh w π args Bs vs):
  dI P nt (gb.js w Bs) w π (wZ css args) {tmps:=vs.toArray++Array.replicate (nt-vs.toArray.size) undef,defers:=[]} w:=by
 have hlen:=oQ hd
 obtain⟨hbl,hbget⟩:=hbx.get
 have hβ:∀(j B:Nat),Bs[j]? =some B->(gb.js w Bs).β j=B:=fun j B hj=>by simp[gb.js,hj]
 refine⟨Nat.le_refl 4,(gb.js w Bs).β,fun _=>undef,π,fun n=>n<4,fun _ h=>h,?_⟩
 have hbox:∀b x,b9 b (wZ css args).boxes=some x->∃B cs,b<4/\Bs[b]? =some B/\(gb.js w Bs).β b=B/\x=⟨cs,[]⟩/\p8 (fun _=>undef) w π B ⟨cs,[]⟩:=by
  intro b x hb;obtain⟨cs,_,h2,h3⟩:=qi hb;simp only[Nat.sub_zero]at h2
  have hlt:b<css.length:=(List.getElem?_eq_some_iff.1 h2).1
  have hB:Bs[b]? =some Bs[b]:=List.getElem?_eq_getElem (by omega)
  exact⟨_,cs,by omega,hB,hβ _ _ hB,h3,hbget b cs _ h2 hB⟩
 refine{size:=?_,slots:=?_,boxes:=?_,inj:=?_,live:=fun q e h=>(by cases h),cq:=fun q q' e e' B h=>(by cases h),cH:=fun q e b x h=>(by cases h),below:=.refl _ _,eS:=Nat.le_refl _,eO:=hprot,eF:=fun _ _ h=>h,dc:=fun _ _ h=>.inl h,mj:=fun _ _=>rfl,jf:=fun _ h=>h,kept:=fun _ _ _=>rfl}
 ·simp;omega
 ·intro t v hv
  obtain⟨x,_,hx,hor⟩:=oP hd hv;simp only[Nat.sub_zero]at hx
  have htl:t<vs.length:=(List.getElem?_eq_some_iff.1 hx).1
  have hget:(vs.toArray++Array.replicate (nt-vs.toArray.size) undef)[t]? =some x:=by
   simp[Array.getElem?_append,htl]
   simpa using(List.getElem?_eq_some_iff.1 hx).2
  rcases hor with⟨a,rfl,hda⟩|⟨j,B,rfl,hB,rfl⟩
  ·exact⟨⟨x,hget,(kS (U:=fun n=>n<4) hda).1⟩,(kS (β:=id) (τ:=fun _=>undef) hda).2⟩
  ·refine⟨⟨_,hget,?_⟩,?_⟩
   ·show Value.pointer (some ⟨B,0,none⟩)=.pointer (some ⟨(gb.js w Bs).β (0+j),0,none⟩)
    rw[Nat.zero_add,hβ j B hB]
   ·have:j<Bs.length:=(List.getElem?_eq_some_iff.1 hB).1
    show 0+j<4
    omega
 ·intro b x hb
  obtain⟨B,cs,h1,h2,h3,rfl,h5⟩:=hbox b x hb
  exact⟨h1,.inr ⟨h1,by rw[h3];exact List.mem_of_getElem? h2⟩,by rw[h3];exact h5,fun o q hq=>by cases hq⟩
 ·intro b b' x x' hb hb' e
  obtain⟨B,_,_,h2,h3,_,_⟩:=hbox b x hb;obtain⟨B',_,_,h2',h3',_,_⟩:=hbox b' x' hb';rw[h3,h3']at e;subst e;exact uj hnd b b' B h2 h2'
theorem kJ{nt:Nat} {n0:gb} {w:World} {π:Nat->Nat->Prop} {s:S} {a:Act} {fn:Func} {tm:Array Value} {R:Ending->World->Prop} {u:FrameMode} (hu:u≠.run) {dd:List Deferred}
  (main:∀w',dI P nt n0 w π s a w'->LeavesInM Fence.wide 0 P fn tm R dd u w'):
  ∀(Ds:List Nat) (w':World),Ds.Nodup->(∀D∈Ds,n0.n<=D/\w'.heap[D]? =some (.deferred (some [])))->dI P nt n0 w π s a w'->w.heap.size<=n0.n->LeavesInM Fence.wide 0 P fn tm R (Ds.map MT++dd) u w'
 |[],w',_,_,R',_=>main w' R'
 |D::Ds,w',hnd,hD,R',hn=>by
  obtain⟨h1,h2⟩:=hD D List.mem_cons_self;simp only[List.nodup_cons]at hnd;refine⟨hu,.inl ⟨D,_,rfl,run_takeDeferred h2,?_⟩⟩
  refine kJ hu main Ds _ hnd.2 (fun D' hD'=>?_) ((R'.putObj h2 rfl rfl).SA (R'.below.putObj (Nat.le_trans hn h1) h1 _) R'.eS (fun b o hb=>(jh h2 rfl rfl _).trans (R'.kept b o hb))) hn
  obtain⟨g1,g2⟩:=hD D' (List.mem_cons_of_mem _ hD')
  exact⟨g1,(World.putObj_heap_other (fun e=>hnd.1 (by rw[<-e];exact hD'))).trans g2⟩
end
open Go.RowKit (Below)
def isRec(o:Oper):Option Nat:=
 match o.op,o.dst,o.guard with
 | .call ⟨.builtin .recover,as,_⟩,some d,none=>if as.isEmpty then some d else none
 |_,_,_=>none
def f9:aT->Bool
 | .skip| .KY _| .ff _=>true
 | .seq a b| .join a b| .cond _ a b=>f9 a&&f9 b
 |_=>false
structure Rp where
 nt:Nat
 d:Nat
 ops:List XO
 code:aT
def Rq(P:Program) (f:FuncId):Option Rp:=
 match P.funcs[f]? with
 |some fn=>match fn.body with
  |some (.seq (.region _ ops false) rest)=>match ops.toList with
   |o::os=>match isRec o,si P ops os,bJ true P rest with
    |some d,some xs,some cc=>if mM fn.ntmps xs&&decide (d<fn.ntmps)&&cc.fits fn.ntmps&&f9 cc&&cg P f&&fn.results.isEmpty then some ⟨fn.ntmps,d,xs,cc⟩else none
    |_,_,_=>none
   |[]=>none
  |_=>none
 |none=>none
def LZ(css:List (List AV)):Exit->S->Prop
 | .normal,s| .ret,s=>iA s.boxes 0 css
 |_,_=>False
theorem Rr(css:List (List AV)) (s:S):LZ css .normal s=iA s.boxes 0 css:=rfl
theorem Rs(css:List (List AV)) (s:S):LZ css .ret s=iA s.boxes 0 css:=rfl
def Rt(rv:AV):Bool:=match rv with
 | .gk=>true
 |p=>ju p
def WC(rv:AV):Value:=match rv with
 | .gk=>.nilIface
 |p=>S1 p
section
variable{P:Program} {nt:Nat} {n0:gb} {π0:Nat->Nat->Prop}
theorem VA{w:World} {π:Nat->Nat->Prop} {rv:AV} (h:Rt rv=true):DV w π rv (WC rv):=by
 cases rv<;>try(simp[Rt,ju]at h;done)
 ·rename_i t a
  exact .iface t a _ (.flat h)
 ·exact .gk
theorem Ru{mo:Bool} {x y:Code} {cc:aT} (hc:bJ mo P (.seq x y)=some cc):∃cx cy,bJ mo P x=some cx/\bJ mo P y=some cy/\(cc=.seq cx cy\/cc=.join cx cy):=by
 simp only[bJ]at hc
 split at hc<;>try(cases hc;done)
 rename_i cx cy hcx hcy;cases hc;refine⟨cx,cy,hcx,hcy,?_⟩;split
 ·exact .inl rfl
 ·exact .inr rfl
theorem zV{mo:Bool} (hm:P.follows .mixedOrders=true):∀(c:Code) (cc:aT),bJ mo P c=some cc->f9 cc=true->cc.fits nt=true->∀(n:Nat) (w0:World) (QA:Exit->S->Prop) (s:S) (a:Act) (w:World),
  dI P nt n0 w0 π0 s a w->aw (Pure P) cc QA s->c.wpIn (FW none) n P (fun e a' w'=>∃s',QA e s'/\dI P nt n0 w0 π0 s' a' w'/\a'.defers=a.defers) a w:=by
 intro c
 induction c with
 |skip=>intro cc hc _ _ n w0 QA s a w R h;cases hc;exact wpIn_skip ⟨s,h,R,rfl⟩
 |region id ops kP=>
  intro cc hc hpl hf n w0 QA s a w R h;obtain⟨h4,β,τ,π,U,hU,R0⟩:=R
  have put:∀{s':S} {a':Act} {w':World},dI P nt n0 w π0 s' a' w'->dI P nt n0 w0 π0 s' a' w':=fun RN=>
   RN.SA (R0.below.trans RN.below) R0.eS (fun b o h=>(RN.kept b o h).trans (R0.kept b o h))
  simp only[bJ]at hc;split at hc
  ·rename_i hmo
   simp only[Bool.and_eq_true,Bool.not_eq_true']at hmo;obtain⟨_,rfl⟩:=hmo;simp only[Option.map_eq_some_iff]at hc;obtain⟨cos,hcos,rfl⟩:=hc
   refine uU (w0:=w) hcos hf R0.Th hU h (T:=fun _=>False) (fun d hd ht=>ht) ?_ ?_
   ·intro s' a' w' β' τ' π' U' hU' hK hp R'
    exact⟨_,hK,put ⟨by show 4<=s.nx+_;omega,β',τ',π',U',hU',R'.nx _⟩,hp.1⟩
   ·intro p s' a' w' β' τ' π' U' hU' hK hp R'
    exact⟨_,hK,put ⟨by show 4<=s.nx+_;omega,β',τ',π',U',hU',R'.nx _⟩,hp.1⟩
  split at hc<;>try(cases hc;done)
  rename_i cos hcos
  have fin:(kP=true->pX [] ops.toList cos=true)->aw (Pure P) (.KY cos) QA s->i4 nt cos=true->(Code.region id ops kP).wpIn (FW none) n P (fun e a' w'=>∃s',QA e s'/\dI P nt n0 w0 π0 s' a' w'/\a'.defers=a.defers) a w:=by
   intro hd h hf
   refine wW (w0:=w) hm hcos [] (fun e=>⟨[],[],hd e,rfl,sE,fun _ _ _ _=>rfl⟩) hf R0.Th hU (by rw[tX];exact h) (T:=fun _=>False) (fun d hd ht=>ht) ?_
   intro s' a' w' β' τ' π' U' hU' hK hp R'
   exact⟨_,hK,put ⟨by show 4<=s.nx+_;omega,β',τ',π',U',hU',R'.nx _⟩,hp.1⟩
  split at hc
  ·split at hc
   ·split at hc<;>try(cases hc;done)
    rename_i hok;cases hc
    exact fin (fun _=>hok) h hf
   ·split at hc<;>try(cases hc;done)
    cases hc;simp[f9]at hpl
  ·rename_i hdr
   cases hc
   exact fin (fun e=>absurd e hdr) h hf
 |seq x y ihx ihy=>
  intro cc hc hpl hf n w0 QA s a w R h;obtain⟨cx,cy,hcx,hcy,hor⟩:=Ru hc
  have key:f9 cx=true->f9 cy=true->cx.fits nt=true->cy.fits nt=true->aw (Pure P) cx (jx (down (aw (Pure P) cy QA)) QA) s->(Code.seq x y).wpIn (FW none) n P (fun e a' w'=>∃s',QA e s'/\dI P nt n0 w0 π0 s' a' w'/\a'.defers=a.defers) a w:=by
   intro p1 p2 f1 f2 h;refine wpIn_seq (wpIn_mono (ihx cx hcx p1 f1 n w0 _ s a w R h) ?_)
   rintro e a' w' ⟨s',hq,R',hd⟩
   cases e with
   |normal=>
    obtain⟨s2,hF,R2⟩:=R'.down hq;refine wpIn_mono (ihy cy hcy p2 f2 n w0 QA s2 a' w' R2 hF) ?_
    rintro e a2 w2 ⟨s3,h3,R3,hd3⟩
    exact⟨s3,h3,R3,hd3.trans hd⟩
   |_=>exact⟨s',hq,R',hd⟩
  rcases hor with rfl|rfl
  ·simp only[f9,Bool.and_eq_true]at hpl
   simp only[aT.fits,Bool.and_eq_true]at hf
   exact key hpl.1 hpl.2 hf.1 hf.2 (i5 (fun e s ha=>gU (fun s h=>gi h) (fun _ _ h=>h) ha) h)
  ·simp only[f9,Bool.and_eq_true]at hpl
   simp only[aT.fits,Bool.and_eq_true]at hf;exact key hpl.1 hpl.2 hf.1 hf.2 h
 |cond cd x y ihx ihy=>
  intro cc hc hpl hf n w0 QA s a w R h;simp only[bJ]at hc
  split at hc<;>try(cases hc;done)
  rename_i c' cx cy hcc hcx hcy;cases hc;simp only[f9,Bool.and_eq_true]at hpl;simp only[aT.fits,Bool.and_eq_true]at hf;simp only[aw]at h;obtain⟨v,hv,h⟩:=ah h;obtain⟨_,β,τ,π,U,hU,R0⟩:=id R
  have hd:=R0.aF hcc hv
  cases v<;>try(exact h.elim)
  rename_i t
  exact wpIn_cond_split hd.sn (fun e=>ihx cx hcx hpl.1 hf.1 n w0 QA s a w R (h.1 e)) (fun e=>ihy cy hcy hpl.2 hf.2 n w0 QA s a w R (h.2 e))
 |block id c ih=>intro cc hc hpl;simp only[bJ,Option.map_eq_some_iff]at hc;obtain⟨c',hc',rfl⟩:=hc;simp[f9]at hpl
 |loop c ih=>intro cc hc hpl;simp only[bJ,Option.map_eq_some_iff]at hc;obtain⟨c',hc',rfl⟩:=hc;simp[f9]at hpl
 |exit id=>intro cc hc hpl;cases hc;simp[f9]at hpl
 |ret=>intro cc hc hpl;cases hc;simp[f9]at hpl
 |label l=>intro cc hc hpl;cases hc;simp[f9]at hpl
 |goto l=>intro cc hc hpl;cases hc;simp[f9]at hpl
 |scope c ih=>
  intro cc hc hpl;simp only[bJ]at hc
  split at hc<;>try(cases hc;done)
  split at hc<;>try(cases hc;done)
  simp only[Option.map_eq_some_iff]at hc;obtain⟨r,_,rfl⟩:=hc;simp[f9]at hpl
 |rangeFunc g ps as bd ihA ihB=>
  intro cc hc hpl;simp only[bJ]at hc
  split at hc<;>try(cases hc;done)
  split at hc<;>try(cases hc;done)
  cases hc;simp[f9]at hpl
 |_=>intro cc hc;cases hc
theorem y7{F:Fence} {n id:Nat} {ops:Array Oper} {o:Oper} {d:Nat} {Q:Exit->Act->List Frame->World->Prop} {a:Act} {cs cs':List Frame} {w:World} {v:Value} (hF:∀f,F.fn f) (hro0:F.round=none)
  (h0:ops[0]? =some o) (hrec:isRec o=some d) (hv:recoverD cs=some (v,cs')\/(recoverD cs=none/\v=.nilIface/\cs'=cs))
  (h:wpOpsIn F n P ops (fun e a' w'=>Q e a' cs' w') (List.range' 1 (ops.size-1)) (a.put (some d) v) w):(Code.region id ops false).wpSIn F n P Q a cs w:=by
 intro b k hb hr hFb hroom;unfold isRec at hrec
 split at hrec<;>try(cases hrec;done)
 rename_i as tys d' hop hdst hguard
 split at hrec<;>try(cases hrec;done)
 rename_i has;cases hrec
 have has:as=#[]:=by simpa[Array.isEmpty_iff]using has
 subst has
 have hw:Region.wanted o (yielded ops a.tmps)=true:=by simp[Region.wanted,hguard]
 have hrun:(execOp a.eval o).run P w=.ok .recover w:=by
  simp[execOp,hop,resolve,invoke,go_sem]
 have hsz:0<ops.size:=(Array.getElem?_eq_some_iff.1 h0).1
 have hrange:List.range ops.size=0::List.range' 1 (ops.size-1):=by
  obtain⟨m,hm⟩:∃m,ops.size=m+1:=⟨ops.size-1,by omega⟩
  rw[hm,List.range_eq_range',List.range'_succ,Nat.add_sub_cancel]
 have hlen:cs'.length=cs.length:=by
  rcases hv with hv|⟨_,_,rfl⟩
  ·exact recoverD_length hv
  ·rfl
 obtain⟨e,a',w',hq,harr⟩:=wp_opsIn (P:=P) (F:=F) (n:=n) (ops:=ops) (List.range' 1 (ops.size-1)) _ w h b k cs' (hr.trans hro0.symm) hFb (hlen▸hroom)
 have h1:(lone (b.atR a (.inRegion ops (0::List.range' 1 (ops.size-1))::k)) cs w).fenced P F:=fenced_oper hFb hroom h0 (fun f _=>hF f)
 have hg:=stepGR_op (P:=P) (b:=b) (k:=k) (cs:=cs) (w:=w) (rest:=List.range' 1 (ops.size-1)) h0 hw
 rw[hr,Oper.semAt_none]at hg
 have hfin:∀v,(b.atR a (.inRegion ops (0::List.range' 1 (ops.size-1))::k)).finish v=b.atR (a.put (some d) v) (.inRegion ops (List.range' 1 (ops.size-1))::k):=by
  intro v;rw[Frame.finish_atR,h0];simp only[Option.bind_some,hdst]
 have hk:(b.atR a (.inRegion ops (0::List.range' 1 (ops.size-1))::k)).kind=.deferred:=hb
 have htr:=tryRecover_deferred hk cs
 have hstep:StepsIn (Machine.fenced P F) P (lone (b.atR a (.inRegion ops (0::List.range' 1 (ops.size-1))::k)) cs w) (lone (b.atR (a.put (some d) v) (.inRegion ops (List.range' 1 (ops.size-1))::k)) cs' w):=by
  refine .one h1 (step_lone_go ?_);rw[hg,<-hfin];simp only[Frame.atR,hr]at htr⊢
  rcases hv with hv|⟨hv,rfl,rfl⟩
  ·simp[stepG.apply,hrun,htr,hv]
  ·simp[stepG.apply,hrun,htr,hv]
 rw[<-hrange]at hstep;exact⟨e,a',cs',w',hlen,hq,.of_steps (.head (fenced_calm hFb hroom rfl) stepR_region hstep) harr⟩
theorem L0{f:FuncId} {cf:Rp} (hcf:Rq P f=some cf):∃(fn:Func) (id:Nat) (ops:Array Oper) (rest:Code) (o:Oper) (os:List Oper),P.funcs[f]? =some fn/\fn.body=some (.seq (.region id ops false) rest)/\ops.toList=o::os/\isRec o=some cf.d/\si P ops os=some cf.ops/\
  bJ true P rest=some cf.code/\mM fn.ntmps cf.ops=true/\cf.d<fn.ntmps/\cf.code.fits fn.ntmps=true/\f9 cf.code=true/\cg P f=true/\fn.results=#[]/\cf.nt=fn.ntmps:=by
 unfold Rq at hcf
 split at hcf<;>try(cases hcf;done)
 rename_i fn hfn
 split at hcf<;>try(cases hcf;done)
 rename_i id ops rest hbody
 split at hcf<;>try(cases hcf;done)
 rename_i o os hops
 split at hcf<;>try(cases hcf;done)
 rename_i d xs cc h1 h2 h3
 split at hcf<;>try(cases hcf;done)
 rename_i hok;cases hcf;simp only[Bool.and_eq_true,decide_eq_true_eq]at hok;obtain⟨⟨⟨⟨⟨k1,k2⟩,k3⟩,k4⟩,k5⟩,k6⟩:=hok
 exact⟨fn,id,ops,rest,o,os,hfn,hbody,hops,h1,h2,h3,k1,k2,k3,k4,k5,by simpa[Array.isEmpty_iff]using k6,rfl⟩
theorem Od(hm:P.follows .mixedOrders=true) {f:FuncId} {cf:Rp} (hcf:Rq P f=some cf) {rv:AV} {css css':List (List AV)} {args:List (Option AV)} (hrv:Rt rv=true) (hn:args.length<=cf.nt) (hl:css'.length=css.length) (h4:css.length<=4)
  (h:eE (Pure P) 4 1 cf.ops (GV (aw (Pure P) cf.code (LZ css')) (5+cf.ops.length)) (fun _ _=>False) ((wZ css args).put (some cf.d) (.dat rv none))):MA P f rv css args css':=by
 obtain⟨fn,ri,ops,rest,o,os,hfn,hbody,hops,hrec,hxs,hcc,hfit,hd,hfits,hpl,hcall,hres,hnt⟩:=L0 hcf;rw[hnt]at hn
 refine⟨hcall,hl,h4,fun w π Bs vs hprot hnd hbx harg=>?_⟩
 have hbl:=hbx.get.1
 obtain⟨hxl,hxs⟩:=sF hxs
 have hosz:ops.size=os.length+1:=by rw[<-Array.length_toList,hops];rfl
 have h0:ops[0]? =some o:=by rw[<-Array.getElem?_toList,hops];rfl
 refine callsDIn_of_wpSIn hfn hbody trivial fun c₀ cs hmode=>?_
 -- what is recovered
 obtain⟨u',hv,hset⟩:∃u',(recoverD (c₀::cs)=some (WC rv,{c₀ with mode:=u'}::cs)\/(recoverD (c₀::cs)=none/\WC rv=.nilIface/\{c₀ with mode:=u'}::cs=c₀::cs))/\settle u'=.returning:=by
  cases rv<;>try(simp[Rt,ju]at hrv;done)
  ·rename_i t a
   refine⟨.panicking [{v:=S1 (.iface t a),recovered:=true}],.inl ?_,rfl⟩
   simp only[Bi,i7]at hmode;simp[recoverD,hmode,WC]
  ·refine⟨.returning,.inr ⟨?_,rfl,?_⟩,rfl⟩
   ·simp only[Bi]at hmode;simp[recoverD,hmode]
   ·simp only[Bi]at hmode
    have:({c₀ with mode:=.returning}:Frame)=c₀:=by rw[<-hmode]
    rw[this]
 refine wpSIn_seq ?_
 refine y7 (fun _=>trivial) rfl h0 hrec hv ?_
 obtain⟨_,β,τ,π',U,hU,R⟩:=Oc (P:=P) (nt:=fn.ntmps) hn h4 hprot hnd hbx harg
 have R1:=R.put (some cf.d) (v:=.dat rv none) (x:=WC rv) (fun t ht=>by cases ht;exact hd) ⟨VA hrv,fun t ht=>by cases ht⟩ trivial
 have hpos:(os.length+1)-1=cf.ops.length:=by omega
 have post:∀(s:S) (a':Act) (w':World),LZ css' .ret s->dI P fn.ntmps (gb.js w Bs) w π s a' w'->a'.defers=[]->
   bodyPostS P fn c₀ cs (fun e u' w'=>∃v π',e=.returned v/\settle u'=.returning/\uS (gb.js w Bs) w w'/\(∀b o,π b o->π' b o)/\(∀b o,π' b o->π b o\/w.heap.size<=b)/\(∀b o,π' b o->b<w'.heap.size)/\cw w' π' css' Bs) .ret a' ({c₀ with mode:=u'}::cs) w':=by
  rintro s a' w' hho ⟨_,β,τ,π',U,hU,R'⟩ hdf
  have hB:=R'.MV hbl h4 hl hho
  refine⟨hdf,u',rfl,.tuple #[],?_,.tuple #[],π',rfl,hset,R'.below,R'.eF,fun b o h=>(R'.dc b o h).imp id (fun k=>k.elim id (fun k=>absurd h (mR hB b k o))),R'.eO,hB⟩
  rw[BI,hres];simp
 have hcosl:((⟨some cf.d,.o (.mv (.k .gk)),none⟩:XO)::cf.ops).length=ops.size:=by simp[hosz];omega
 rw[hosz,hpos]
 have:=sG (P:=P) (r:=none) (m:=0) (base:=4) (T:=fun _=>False) (a0:={tmps:=vs.toArray++Array.replicate (fn.ntmps-vs.toArray.size) undef,defers:=[]}) 1 hcosl
  (fun i o' c hi h1 h2=>?_) (fun i c d hi hdd=>?_) (fun _ _ _ _ _ h=>h) (K:=GV (aw (Pure P) cf.code (LZ css')) (5+cf.ops.length)) (X:=fun _ _=>False)
  (Q:=fun e a' w'=>Exit.thenS (rest.wpSIn Fence.wide 0 P (bodyPostS P fn c₀ cs (fun e u' w'=>∃v π',e=.returned v/\settle u'=.returning/\uS (gb.js w Bs) w w'/\(∀b o,π b o->π' b o)/\(∀b o,π' b o->π b o\/w.heap.size<=b)/\(∀b o,π' b o->b<w'.heap.size)/\cw w' π' css' Bs)))
    (bodyPostS P fn c₀ cs (fun e u' w'=>∃v π',e=.returned v/\settle u'=.returning/\uS (gb.js w Bs) w w'/\(∀b o,π b o->π' b o)/\(∀b o,π' b o->π b o\/w.heap.size<=b)/\(∀b o,π' b o->b<w'.heap.size)/\cw w' π' css' Bs)) e a' ({c₀ with mode:=u'}::cs) w')
  (fun s' a' w' β' τ' π' U' hU' hK hp R'=>?_) (fun _ _ _ _ _ _ _ _ _ h=>h.elim) cf.ops 1 _ (({tmps:=vs.toArray++Array.replicate (fn.ntmps-vs.toArray.size) undef,defers:=[]}:Act).put (some cf.d) (WC rv)) w β τ π' U (Nat.le_refl _) rfl (by omega) (fun n hn=>by have:=hU n hn;simp only[wZ]at this;omega)
  (by exact(rR.refl _ _).put (fun _ _ h=>h) _) R1 h
 ·exact this
 ·cases i with
  |zero=>omega
  |succ i=>
   refine hxs i o' c ?_ (by simpa using h2)
   rw[<-Array.getElem?_toList,hops]at h1
   simpa using h1
 ·cases i with
  |zero=>simp at hi;subst hi;cases hdd;exact hd
  |succ i=>exact oo hfit i c d (by simpa using hi) hdd
 ·refine wpSIn_of_wpIn rfl ?_
  have RN:dI P fn.ntmps (gb.js w Bs) w π {s' with nx:=5+cf.ops.length} a' w':=⟨by show 4<=5+_;omega,β',τ',π',U',fun n hn=>by have:=hU' n hn;show n<5+_;omega,R'.nx _⟩
  refine wpIn_mono (uh (zV hm rest cf.code hcc hpl hfits 0 w (LZ css') _ a' w' RN hK)) ?_
  rintro e a2 w2 ⟨s2,hq,R2,hd2⟩
  have hd2:a2.defers=[]:=hd2.trans hp.1
  cases e with
  |normal=>exact post s2 a2 w2 hq R2 hd2
  |ret=>exact post s2 a2 w2 hq R2 hd2
  |_=>exact hq.elim
end
open Go.RowKit (Below)
def Oe:List Oper->Option (Nat×Array Operand×Nat)
 |[m,d]=>match m.op,m.dst,m.guard,d.op,d.dst,d.guard with
  | .makeFunc (.func g) first caps,some t,none,.defer ⟨.value (.tmp t'),as,_⟩,none,none=>if first.isEmpty&&as.isEmpty&&t==t' then some (g,caps,t)else none
  |_,_,_,_,_,_=>none
 |_=>none
structure FX where
 nt:Nat
 res:List gG
 pre:aT
 g:Nat
 caps:List bB
 t:Nat
 code:aT
def Rv(P:Program) (f:FuncId):Option FX:=
 match P.funcs[f]? with
 |some fn=>match fn.body with
  |some (.seq a (.seq (.region _ ops false) rest))=>match Oe ops.toList with
   |some (g,caps,t)=>match bJ true P a,gl caps,bJ true P rest,fn.results.toList.mapM (Gz P)with
    |some ca,some xs,some cc,some rs=>if ca.fits fn.ntmps&&f9 ca&&decide (t<fn.ntmps)&&cc.fits fn.ntmps&& !cc.writes.contains t&&cg P f&&cg P g then some ⟨fn.ntmps,rs,ca,g,xs,t,cc⟩else none
    |_,_,_,_=>none
   |none=>none
  |_=>none
 |none=>none
def L1(C:aS) (res:List gG) (r:AV) (fr:Option Nat) (css:List (List AV)) (t g:Nat) (as:List (Option AV)) (bs:List Nat) (rv:AV) (s:S):Prop:=
 lk t s.slots=some (.oF g as bs)/\er bs=true/\an (bq s.boxes bs) fun cs=>∃cs',C.d g rv cs as cs'/\I1 res r fr css .ret {s with boxes:=d8 bs cs' s.boxes}
def L3(C:aS) (res:List gG) (r:AV) (fr:Option Nat) (css:List (List AV)) (t g:Nat) (as:List (Option AV)) (bs:List Nat):Exit->S->Prop
 | .normal,s| .ret,s=>L1 C res r fr css t g as bs .gk s
 | .panic c,s=>∃p,c=i7 p/\ju p=true/\L1 C res r fr css t g as bs p s
 |_,_=>False
theorem VB(C:aS) (res:List gG) (r:AV) (fr:Option Nat) (css:List (List AV)) (t g:Nat) (as:List (Option AV)) (bs:List Nat) (s:S):L3 C res r fr css t g as bs .normal s=L1 C res r fr css t g as bs .gk s:=rfl
theorem VC(C:aS) (res:List gG) (r:AV) (fr:Option Nat) (css:List (List AV)) (t g:Nat) (as:List (Option AV)) (bs:List Nat) (s:S):L3 C res r fr css t g as bs .ret s=L1 C res r fr css t g as bs .gk s:=rfl
def awD(C:aS) (cf:FX) (r:AV) (fr:Option Nat) (css:List (List AV)) (s:S):Prop:=
 aw C cf.pre (r9 fun s1=>an (ef s1 cf.caps) fun p=>aw C cf.code (L3 C cf.res r fr css cf.t cf.g p.1 p.2) {(s1.put (some cf.t) (.oF cf.g p.1 p.2))with nx:=s1.nx+2}) s
def dK(C:aS) (res:List gG) (r:AV) (fr:Option Nat) (css:List (List AV)) (g:Nat) (caps:List bB) (t:Nat) (code:aT):S->Prop:=fun s1=>an (ef s1 caps) fun p=>aw C code (L3 C res r fr css t g p.1 p.2) {(s1.put (some t) (.oF g p.1 p.2))with nx:=s1.nx+2}
def dKp(C:aS) (res:List gG) (r:AV) (fr:Option Nat) (css:List (List AV)) (g:Nat) (t:Nat) (code:aT) (s:S) (p:List (Option AV)×List Nat):Prop:=aw C code (L3 C res r fr css t g p.1 p.2) {(s.put (some t) (.oF g p.1 p.2))with nx:=s.nx+2}
theorem ZC{C:aS} (nt:Nat) (res:List gG) (pre:aT) (g:Nat) (caps:List bB) (t:Nat) (code:aT) (r:AV) (fr:Option Nat) (css:List (List AV)) (s:S):awD C ⟨nt,res,pre,g,caps,t,code⟩ r fr css s=aw C pre (r9 (dK C res r fr css g caps t code)) s:=rfl
theorem abn{C:aS} (res:List gG) (r:AV) (fr:Option Nat) (css:List (List AV)) (g:Nat) (caps:List bB) (t:Nat) (code:aT) (sl:List (Nat×SV)) (bx:List (Nat×bV)) (lv:List (Nat×Nat)) (nx:Nat):
  dK C res r fr css g caps t code ⟨sl,bx,lv,nx⟩=an (ef ⟨sl,bx,lv,nx⟩ caps) (dKp C res r fr css g t code ⟨sl,bx,lv,nx⟩):=rfl
theorem ZD{C:aS} (res:List gG) (r:AV) (fr:Option Nat) (css:List (List AV)) (g:Nat) (t:Nat) (code:aT) (sl:List (Nat×SV)) (bx:List (Nat×bV)) (lv:List (Nat×Nat)) (nx:Nat) (as:List (Option AV)) (bs:List Nat):
  dKp C res r fr css g t code ⟨sl,bx,lv,nx⟩ (as,bs)=aw C code (L3 C res r fr css t g as bs) ⟨(t,.oF g as bs)::sl,bx,lv,nx+2⟩:=rfl
@[congr] theorem acM {C:aS} (res:List gG) (r:AV) (fr:Option Nat) (css:List (List AV)) (g:Nat) (caps:List bB) (t:Nat) (code:aT) (s:S):dK C res r fr css g caps t code s=dK C res r fr css g caps t code s:=rfl
@[congr] theorem abZ {C:aS} (res:List gG) (r:AV) (fr:Option Nat) (css:List (List AV)) (g:Nat) (t:Nat) (code:aT) (s:S) {p p':List (Option AV)×List Nat} (h:p=p'):dKp C res r fr css g t code s p=dKp C res r fr css g t code s p':=by rw[h]
theorem Of{C:aS} {cf:FX} {keep:List Nat} {r:AV} {fr:Option Nat} {css:List (List AV)} {s:S} (h:awD C {cf with code:=(flat keep 0 cf.code).1} r fr css s):awD C cf r fr css s:=by
 refine i5 ?_ h;intro e s ha
 cases e<;>try exact ha
 obtain⟨p,hp,ha⟩:=ah ha
 show an _ _
 rw[hp]
 exact aj (keep:=keep) (i:=0) ha
theorem Rw(nt:Nat) (res:List gG) (pre:aT) (g:Nat) (caps:List bB) (t:Nat) (code:aT) (keep:List Nat):({(⟨nt,res,pre,g,caps,t,code⟩:FX)with code:=(flat keep 0 (⟨nt,res,pre,g,caps,t,code⟩:FX).code).1}:FX)=⟨nt,res,pre,g,caps,t,(flat keep 0 code).1⟩:=rfl
theorem FY{C:aS} {res:List gG} {r:AV} {fr:Option Nat} {css:List (List AV)} {t g:Nat} {as:List (Option AV)} {bs:List Nat} {rv:AV} {sl:List (Nat×SV)} {bx:List (Nat×bV)} {lv:List (Nat×Nat)} {nx:Nat} {cs cs':List (List AV)}
  (hd:C.d g rv cs as cs') (hl:lk t sl=some (.oF g as bs)) (hn:er bs=true) (hc:bq bx bs=some cs) (hf:I1 res r fr css .ret ⟨sl,d8 bs cs' bx,lv,nx⟩):L1 C res r fr css t g as bs rv ⟨sl,bx,lv,nx⟩:=
 ⟨hl,hn,by show an (bq bx bs) _;rw[hc];exact⟨cs',hd,hf⟩⟩
section
variable{P:Program}
theorem L4{f:FuncId} {cf:FX} (hcf:Rv P f=some cf):∃(fn:Func) (ri:Nat) (ops:Array Oper) (a rest:Code) (caps:Array Operand),P.funcs[f]? =some fn/\fn.body=some (.seq a (.seq (.region ri ops false) rest))/\Oe ops.toList=some (cf.g,caps,cf.t)/\
  bJ true P a=some cf.pre/\gl caps=some cf.caps/\bJ true P rest=some cf.code/\fn.results.toList.mapM (Gz P)=some cf.res/\cf.pre.fits fn.ntmps=true/\f9 cf.pre=true/\cf.t<fn.ntmps/\cf.code.fits fn.ntmps=true/\¬cf.t∈cf.code.writes/\cg P f=true/\cg P cf.g=true/\cf.nt=fn.ntmps:=by
 unfold Rv at hcf
 split at hcf<;>try(cases hcf;done)
 rename_i fn hfn
 split at hcf<;>try(cases hcf;done)
 rename_i a ri ops rest hbody
 split at hcf<;>try(cases hcf;done)
 rename_i g caps t hdef
 split at hcf<;>try(cases hcf;done)
 rename_i ca xs cc rs h1 h2 h3 h4
 split at hcf<;>try(cases hcf;done)
 rename_i hok;cases hcf;simp only[Bool.and_eq_true,decide_eq_true_eq,Bool.not_eq_true']at hok;obtain⟨⟨⟨⟨⟨⟨k1,k2⟩,k3⟩,k4⟩,k5⟩,k6⟩,k7⟩:=hok
 exact⟨fn,ri,ops,a,rest,caps,hfn,hbody,hdef,h1,h2,h3,h4,k1,k2,k3,k4,by simpa using k5,k6,k7,rfl⟩
theorem Og(hm:P.follows .mixedOrders=true) {f:FuncId} {cf:FX} (hcf:Rv P f=some cf) {css css':List (List AV)} {args:List (Option AV)} {r:AV} {fr:Option Nat} (hn:args.length<=cf.nt) (hl:css'.length=css.length) (h4:css.length<=4)
  (h:awD (Pure P) cf r fr css' (wZ css args)):wJ P f css args r fr css':=by
 obtain⟨fn,ri,ops,a,rest,caps,hfn,hbody,hdef,hca,hcaps,hcc,hrs,hfita,hpl,ht,hfit,hwr,hcall,hcg,hnt⟩:=L4 hcf;rw[hnt]at hn
 refine⟨hcall,hl,h4,fun w π Bs vs hprot hnd hbx hd=>?_⟩
 have hbl:=hbx.get.1
 have R:=Oc (P:=P) (nt:=fn.ntmps) hn h4 hprot hnd hbx hd
 refine callsIn_wide.1 (callsIn_of_wp_marks (n:=0) (F:=Fence.wide) hfn hbody trivial (wpIn_seq (wpIn_mono (uh (zV hm a cf.pre hca hpl hfita 0 w _ _ _ _ R h)) ?_)))
 rintro e a1 w1 ⟨s1,hq,R1,hdf⟩
 have hdf:a1.defers=[]:=hdf
 cases e<;>try exact hq.elim
 obtain⟨p,hp,h⟩:=ah hq;clear hq;obtain⟨hx4,β,τ,π1,U,hU,R1⟩:=R1
 -- the closure is made and deferred
 obtain⟨as,bs⟩:=p
 have hsv:=R1.ef (by simpa[gl]using hcaps) hp
 obtain⟨o0,o1,hops,ho0,hd0,hg0,hty,ho1,hd1,hg1⟩:∃o0 o1,ops=#[o0,o1]/\o0.op=.makeFunc (.func cf.g) #[] caps/\o0.dst=some cf.t/\o0.guard=none/\∃tys,o1.op=.defer ⟨.value (.tmp cf.t),#[],tys⟩/\o1.dst=none/\o1.guard=none:=by
  unfold Oe at hdef
  split at hdef<;>try(cases hdef;done)
  rename_i o0 o1 hops
  split at hdef<;>try(cases hdef;done)
  rename_i g' first caps' t t' as' tys m1 m2 m3 m4 m5 m6
  split at hdef<;>try(cases hdef;done)
  rename_i hok;simp only[Bool.and_eq_true,beq_iff_eq]at hok;simp only[Option.some.injEq,Prod.mk.injEq]at hdef;obtain⟨e1,e2,e3⟩:=hdef
  have f1:first=#[]:=by simpa[Array.isEmpty_iff]using hok.1.1
  have f2:as'=#[]:=by simpa[Array.isEmpty_iff]using hok.1.2
  subst e1 e2 f1 f2;rw[<-hok.2,e3]at m4;rw[e3]at m2
  exact⟨o0,o1,Array.toList_inj.1 (by simpa using hops),m1,m2,m3,tys,m4,m5,m6⟩
 subst hops
 obtain⟨us,hus⟩:∃us,us=caps.map a1.eval:=⟨_,rfl⟩
 have hr0:(execOp a1.eval o0).run P w1=.ok (.value (.func (.func cf.g) #[] us)) w1:=by simp[execOp,ho0,Instr.makeFunc,hus]
 have R2:=R1.put (some cf.t) (v:=.oF cf.g as bs) (x:=.func (.func cf.g) #[] us) (fun t' ht'=>by cases ht';exact ht) ⟨us,rfl,by rw[hus];simpa using hsv⟩ (fun b hb=>by
  obtain⟨t',_,off,hl'⟩:=kQ hp b hb
  exact(R1.slots t' _ hl').2)
 have hread:(a1.put (some cf.t) (.func (.func cf.g) #[] us)).tmps[cf.t]? =some (.func (.func cf.g) #[] us):=by
  simp only[Act.put]
  rw[Array.getElem?_setIfInBounds_self_of_lt (by rw[R1.size];exact ht)]
 obtain⟨d,hdd⟩:∃d:Deferred,d={target:=.fn (.func cf.g) us,args:=#[]}:=⟨_,rfl⟩
 have hr1:(execOp (a1.put (some cf.t) (.func (.func cf.g) #[] us)).eval o1).run P w1=.ok (.defer d) w1:=by
  have:(a1.put (some cf.t) (.func (.func cf.g) #[] us)).eval (.tmp cf.t)=.func (.func cf.g) #[] us:=by simp[Act.eval,hread]
  simp only[execOp,ho1,resolve,this,Deferred.ofValue,hdd];simp
 refine wpIn_seq (wpIn_region ?_)
 have w0:Region.wanted o0 (yielded #[o0,o1] a1.tmps)=true:=by simp[Region.wanted,hg0]
 show wpOpsIn _ _ _ _ _ [0,1] _ _
 rw[wpOpsIn_cons];unfold wpOpIn;simp only[List.getElem?_toArray,List.getElem?_cons_zero,w0,if_true]
 refine⟨fun _ _=>trivial,?_⟩
 rw[show Fence.wide.round=none from rfl,Oper.semAt_none,hr0,Oper.uponIn_value,hd0,wpOpsIn_cons]
 unfold wpOpIn
 have w1':Region.wanted o1 (yielded #[o0,o1] (a1.put (some cf.t) (.func (.func cf.g) #[] us)).tmps)=true:=by simp[Region.wanted,hg1]
 simp only[List.getElem?_toArray,List.getElem?_cons_succ,List.getElem?_cons_zero,w1',if_true]
 refine⟨fun _ _=>trivial,?_⟩
 rw[show Fence.wide.round=none from rfl,Oper.semAt_none,hr1,Oper.uponIn_defer,hd1]
 obtain⟨a2,ha2⟩:∃a2:Act,a2={a1.put (some cf.t) (.func (.func cf.g) #[] us)with defers:=[d]}:=⟨_,rfl⟩
 have ha2':({a1.put (some cf.t) (.func (.func cf.g) #[] us)with defers:=d::(a1.put (some cf.t) (.func (.func cf.g) #[] us)).defers}:Act).put none undef=a2:=by
  rw[ha2];show({a1.put (some cf.t) _ with defers:=d::(a1.put (some cf.t) _).defers}:Act)=_
  have:(a1.put (some cf.t) (.func (.func cf.g) #[] us)).defers=[]:=hdf
  rw[this]
 rw[ha2']
 show rest.wpIn _ _ _ _ a2 w1
 have hread2:a2.tmps[cf.t]? =some (.func (.func cf.g) #[] us):=by rw[ha2];exact hread
 have RN2:dI P fn.ntmps (gb.js w Bs) w π {(s1.put (some cf.t) (.oF cf.g as bs))with nx:=s1.nx+2} a2 w1:=by
  refine dI.PR (a:=a1.put (some cf.t) (.func (.func cf.g) #[] us)) ⟨by show 4<=s1.nx+2;omega,β,τ,π1,U,fun n hn=>by have:=hU n hn;show n<s1.nx+2;omega,R2.nx _⟩ (by rw[ha2])
 refine wpIn_mono (uh (wY hm rest cf.code hcc hfit _ (fun t=>t=cf.t) a2 (fun t ht'=>by subst ht';exact hwr) none 0 w _ _ _ _ ⟨RN2,fun l h=>by(cases h),⟨[],by rw[ha2];simp,.nil,by simp⟩,fun _ _=>rfl⟩ h)) ?_
 rintro e a' w' ⟨s,hq,R',_,⟨Ds,hm1,hm2,hm3⟩,hk⟩
 have hk:a'.tmps[cf.t]? =some (.func (.func cf.g) #[] us):=(hk cf.t rfl).trans hread2
 have hm1:a'.defers=Ds.map MT++[d]:=by rw[hm1,ha2]
 -- the closure runs
 have last:∀(rv:AV) (u:FrameMode),u≠.run->Bi rv=u->L1 (Pure P) cf.res r fr css' cf.t cf.g as bs rv s->∀w',dI P fn.ntmps (gb.js w Bs) w π s a' w'->
   LeavesInM Fence.wide 0 P fn a'.tmps (fun e w'=>∃v π',e=.returned v/\uS (gb.js w Bs) w w'/\(∀b o,π b o->π' b o)/\(∀b o,π' b o->π b o\/w.heap.size<=b)/\
    (∀b o,π' b o->b<w'.heap.size)/\cw w' π' css' Bs/\DV w' π' r v/\∀t,fr=some t->E5 P w' π' (fun B=>w.heap.size<=B) t v) [d] u w':=by
  rintro rv u hu hmode ⟨hlk,hnb,hq⟩ w' ⟨hx,β',τ',π',U',hU',R'⟩
  obtain⟨cs,hcs,cs',hD,hfin⟩:=ah hq
  have hD:MA P cf.g rv cs as cs':=hD
  obtain⟨_,hl1,_,hD⟩:=hD;obtain⟨⟨x,hx',us',hxe,hcap⟩,_⟩:=R'.slots cf.t _ hlk;rw[hk]at hx';cases hx';cases hxe
  have hnb':=fq hnb
  refine⟨hu,.inr ⟨fun h=>by simp[Fence.wide]at h,.func cf.g,us,cf.g,us,by rw[hdd],?_,fun _ _=>trivial,?_⟩⟩
  ·rw[hdd];simp[invoke,fu hcg]
  refine CallsDIn.mono (by have:=hD w' π' (bs.map β') us.toList R'.eO (R'.nodup hnb' hcs) (R'.p9 hcs) hcap;rw[hmode]at this;exact this) ?_
  rintro e u' w3 ⟨v,π3,rfl,hset,hbel,hp1,hp2,hp3,hbx3⟩
  obtain⟨τ3,_,R3⟩:=R'.wO (id:=s.nx) (fr:=none) (fun hc=>by have:=hU' _ hc;omega) hnb' hcs hl1 hbel hp1 hp2 hp3 hbx3 DV.gk (fun t ht=>by cases ht)
  show LeavesInM _ _ _ _ _ _ [] (settle u') w3
  rw[hset]
  show LeavesIn _ _ _ _ _ _ [] .returning w3
  obtain⟨⟨av,q⟩,hpq,hav,hfr,hho⟩:=ah hfin;simp only at hav hfr hho;subst hav;obtain⟨v',hv',hdv,htq⟩:=qh R3 hrs hpq
  have hB:=R3.MV hbl h4 hl hho
  refine⟨v',hv',v',π3,rfl,R3.below,R3.eF,fun b o h=>(R3.dc b o h).imp id (fun k=>k.elim id (fun k=>absurd h (mR hB b k o))),R3.eO,hB,hdv,fun t ht=>?_⟩
  subst ht;simp only[ID]at hfr
  cases q with
  |none=>exact hfr.elim
  |some q=>
   rw[htq q rfl];exact R3.BK hbl h4 hl hho hfr
 cases e with
 |normal=>show LeavesInM _ _ _ _ _ _ a'.defers _ _;rw[hm1];exact kJ (by simp) (last .gk .returning (by simp) rfl hq) Ds w' hm2 hm3 R' (Nat.le_refl _)
 |ret=>show LeavesInM _ _ _ _ _ _ a'.defers _ _;rw[hm1];exact kJ (by simp) (last .gk .returning (by simp) rfl hq) Ds w' hm2 hm3 R' (Nat.le_refl _)
 |panic ch=>
  obtain⟨p,rfl,hra,hq⟩:=hq
  show LeavesInM _ _ _ _ _ _ a'.defers _ _;rw[hm1]
  refine kJ (by simp) (last p (.panicking (i7 p)) (by simp) ?_ hq) Ds w' hm2 hm3 R' (Nat.le_refl _)
  cases p<;>first|rfl|(simp[ju]at hra;done)
 |_=>exact hq.elim
def bh:=And.intro @ZC (And.intro @abn (And.intro @ZD (And.intro @Rw (And.intro @VB (And.intro @VC (And.intro @Vz (And.intro @Rr @Rs)))))))
theorem Jl{f:FuncId} {args:List AV} {r:AV} {fr:Option Nat} (h:wJ P f [] (args.map some) r fr []):DZ P f args r fr:=by
 obtain⟨h1,_,_,h⟩:=h
 refine⟨h1,fun w π vs hprot hd=>?_⟩
 refine(h w π [] vs hprot List.nodup_nil trivial (vK hd)).mono ?_
 rintro e w' ⟨v,π',rfl,hb,k1,k2,k3,_,k5,k6⟩
 exact⟨v,π',rfl,hb.below (fun _ h=>by cases h),k1,k2,k3,k5,k6⟩
end
section
open Z
def az:List AV:=[.int .i64 0,.int .i64 0,.int .i64 0,.int .i64 0,.int .i64 0,.int .i64 0,.int .i64 0,.int .i64 0,.int .i64 0,.int .i64 0,.bool false,.bool false,.int .i64 0,.int .i64 0,.int .i64 0,.int .i64 0,.int .i64 0,.int .i64 0,.int .i64 0,.int .i64 0,.int .i64 0,.int .i64 0,.bool false,.bool false,.int .i64 0,.int .i64 0,.int .i64 0,.int .i64 0,.int .i64 0,.int .i64 0,.int .i64 0,.int .i64 0,.int .i64 0,.int .i64 0,.bool false,.bool false,.int .i64 0,.int .i64 0,.int .i64 0,.int .i64 0,.int .i64 0,.int .i64 0,.int .i64 0,.int .i64 0,.int .i64 0,.int .i64 0,.bool false,.bool false,.int .i64 0,.int .i64 0,.int .i64 0,.int .i64 0,.int .i64 0,.int .i64 0,.int .i64 0,.int .i64 0,.int .i64 0,.int .i64 0,.bool false,.bool false,.int .i64 0,.int .i64 0,.int .i64 0,.int .i64 0,.int .i64 0,.int .i64 0,.int .i64 0,.int .i64 0,.int .i64 0,.int .i64 0,.bool false,.bool false,.int .i64 0,.int .i64 0,.int .i64 0,.int .i64 0,.int .i64 0,.int .i64 0,.int .i64 0,.int .i64 0,.int .i64 0,.int .i64 0,.bool false,.bool false,.int .i64 0,.int .i64 0,.int .i64 0,.int .i64 0,.int .i64 0,.int .i64 0,.int .i64 0,.int .i64 0,.int .i64 0,.int .i64 0,.bool false,.bool false,.int .i64 0,.int .i64 0,.int .i64 0,.int .i64 0,.int .i64 0,.int .i64 0,.bool false,.int .i64 0,.int .i64 0,.int .i64 0,.int .i64 0,.int .i64 0,.int .i64 0,.int .i64 0,.int .i64 0,.int .i64 0,.int .i64 0,.int .i64 0,.int .i64 0,.int .i64 0,.int .i64 0,.int .i64 0,.int .i64 0,.aL,.int .i64 0,.int .i64 0,.int .i64 0,.int .i64 0,.int .i64 0,.int .i64 0,.int .i64 0,.int .i64 0,.int .i64 0,.int .i64 0,.int .i64 0,.int .i64 0,.int .i64 0,.int .i64 0,.int .i64 0,.int .i64 0,.int .i64 0,.int .i64 0]
def gM(g0 g1 g2 g3 g4 g5 g6 g7 g8:Nat):bM:=⟨135,[.tmp 6],r [V 6 (F)] (r [M 20 0,o 21 (.call g0 [t 20]),o 7 (.alloc dJ),n (s 7 21 131)] (r [M 22 1,o 23 (.call g1 [t 22,k (F)]),M 8 23] (r [M 24 2,o 25 (.call g2 [t 24,k (i 8)]),M 9 25] (r [o 26 (L 7 131),o 27 (.call g3 [t 26]),o 10 (.alloc az),n (s 10 27 138)] (j (r [V 11 (i 0)] (u 0 (.loop (j (r [M 28 11,M 29 8,o 30 (h 29),o 31 (b .lss 28 30)] (c 31 z (.exit 0))) (j (u 1 (R [o 35 (L 7 131),o 36 (L 10 138),M 37 8,M 38 11,o 39 (a 37 38 6),o 40 (L 39 6),o 41 (.call g4 [t 35,t 36,t 40]),M 34 41,o 42 (e 34 0),o 43 (e 34 1),o 44 (e 34 2),n (s 10 42 138)])) (R [M 32 11,o 33 (bb .add 32 (i 1)),M 11 33])))))) (j (r [o 45 (f 10 0),o 46 (l 45),o 47 (bb .neq 46 (i 2)),M 48 47,q 49 (m 9) 48,q 50 (f 7 0) 48,q 51 (A 50 49 8 13) 48,q 52 (f 51 0) 48,q 53 (l 52) 48,q 54 (.un .not (t 53)) 48,o 55 (Q 48 54)] (c 55 (r [o 56 (.call g5 []),M 6 56] y) z)) (r [M 57 9,o 58 (.mz g6 1 [t 57]),o 59 (.call g7 [t 58]),M 12 59] (r [o 61 (L 7 131),o 62 (L 10 138),M 63 12,o 64 (f 10 136),o 65 (l 64),o 66 (.build [.aL,i 0,i 0,i 0,i 0,F] [(4,1,t 63),(3,1,t 65)]),o 67 (.call g4 [t 61,t 62,t 66]),M 60 67,o 68 (e 60 0),o 69 (e 60 1),o 70 (e 60 2),o 13 (.alloc az),o 14 (.alloc [i 0,i 0,i 0,i 0,i 0,i 0,i 0,i 0]),n (s 13 68 138),n (s 14 69 8),M 15 70] (r [o 72 (L 7 131),o 73 (L 10 138),o 74 (f 10 136),o 75 (l 74),o 76 (.build [.aL,i 0,i 0,i 0,i 0,F] [(3,1,t 75)]),o 77 (.call g4 [t 72,t 73,t 76]),M 71 77,o 78 (e 71 0),o 79 (e 71 1),o 80 (e 71 2),o 16 (.alloc az),o 17 (.alloc [i 0,i 0,i 0,i 0,i 0,i 0,i 0,i 0]),n (s 16 78 138),n (s 17 79 8),M 18 80] (j (r [o 81 (f 16 0),o 82 (l 81),o 83 (bb .neq 82 (i 2)),M 84 83,q 85 (m 9) 84,q 86 (A 17 85 8 1) 84,q 87 (l 86) 84,q 88 (bb .and 87 (i 4)) 84,q 89 (bb .neq 88 (i 0)) 84,o 90 (Q 84 89)] (c 90 (r [o 91 (.call g5 []),M 6 91] y) z)) (r [o 92 (f 13 0),o 93 (l 92),o 94 (bb .eql 93 (i 3)),M 95 94,p 96 (f 13 2) 95,p 97 (l 96) 95,p 98 (bb .neq 97 (i 0)) 95,o 99 (P 95 98),M 100 99,p 101 (L 14 8) 100,p 102 (L 7 131) 100,p 103 (.call g8 [t 102]) 100,p 104 (.eqc [.i,.i,.i,.i,.i,.i,.i,.i] false (t 101) (t 103)) 100,o 105 (P 100 104),M 19 105] (r [M 106 19,M 107 106,p 108 (m 15) 107,p 109 (h 108) 107,p 110 (bb .eql 109 (i 2)) 107,o 111 (P 107 110),M 112 111,p 113 (m 15) 112,p 114 (.Pm (t 113) (k (i 0)) 3) 112,p 115 (L 114 3) 112,p 116 (f 13 137) 112,p 117 (l 116) 112,p 118 (f 13 2) 112,p 119 (l 118) 112,p 120 (.build [i 0,i 0,i 0] [(0,1,t 117),(1,1,k (i 2)),(2,1,t 119)]) 112,p 121 (.eqc [.i,.i,.i] false (t 115) (t 120)) 112,o 122 (P 112 121),M 123 122,p 124 (m 15) 123,p 125 (.Pm (t 124) (k (i 1)) 3) 123,p 126 (L 125 3) 123,p 127 (f 13 137) 123,p 128 (l 127) 123,p 129 (.build [i 0,i 0,i 0] [(0,1,t 128),(1,1,k (i 1)),(2,1,k (i 3))]) 123,p 130 (.eqc [.i,.i,.i] false (t 126) (t 129)) 123,o 131 (P 123 130),M 132 131,p 133 (.call g5 []) 132,o 134 (P 132 133),M 6 134] y))))))))))))⟩
def pI(g0:Nat):bM:=⟨6,[.cell 2 (some 138)],r [o 1 (w 0),o 2 (.alloc az)] (r [o 3 (L 1 131),o 4 (.call g0 [t 3]),o 5 (.build az [(0,1,k (i 1)),(3,117,t 4)]),n (s 2 5 138)] y)⟩
def aO (f_cabinet_Good f_cabinet_counts f_lamp_Pattern f_cabinet_reds f_cabinet_more f_cabinet_tick f_cabinet_Step_1:Nat):bM:=⟨145,[.cell 6 (some 138),.cell 7 (some 8),.tmp 8],
  .seq (.ff [
    ⟨(some 3),.o (.box (.t 0)),none⟩,
    ⟨(some 4),.o (.box (.t 1)),none⟩,
    ⟨(some 5),.o (.box (.t 2)),none⟩,
    ⟨(some 6),.o (.alloc az),none⟩,
    ⟨(some 7),.o (.alloc [(.int .i64 0),(.int .i64 0),(.int .i64 0),(.int .i64 0),(.int .i64 0),(.int .i64 0),(.int .i64 0),(.int .i64 0)]),none⟩,
    ⟨(some 8),.o (.mv (.k .aL)),none⟩])
  (.seq (.KY [
    ⟨(some 15),.ld (.t 4) (some 138),none⟩,
    ⟨(some 16),.ld (.t 5) (some 6),none⟩,
    ⟨(some 17),.call f_cabinet_Good [(.t 16)],none⟩,
    ⟨(some 9),.alloc az,none⟩,
    ⟨none,.st (.t 9) (.t 15) 138,none⟩,
    ⟨(some 10),.mv (.t 17),none⟩])
  (.seq (.ff [
    ⟨(some 18),.o (.ld (.t 5) (some 6)),none⟩,
    ⟨(some 19),.o (.fa (.t 4) 136),none⟩,
    ⟨(some 20),.o (.ld (.t 19) none),none⟩,
    ⟨(some 21),.call f_cabinet_counts [(.t 18),(.t 20)],none⟩,
    ⟨none,.o (.st (.t 5) (.t 21) 6),none⟩])
  (.seq (.ff [
    ⟨(some 22),.o (.fa (.t 4) 137),none⟩,
    ⟨(some 23),.o (.ld (.t 22) none),none⟩,
    ⟨(some 24),.o (.bin .add (.t 23) (.k (.int .i64 1))),none⟩,
    ⟨(some 25),.o (.fa (.t 4) 137),none⟩,
    ⟨none,.o (.st (.t 25) (.t 24) 1),none⟩])
  (.seq (.ff [
    ⟨(some 26),.o (.fa (.t 5) 3),none⟩,
    ⟨(some 27),.o (.ld (.t 26) none),none⟩,
    ⟨(some 28),.o (.fa (.t 4) 136),none⟩,
    ⟨none,.o (.st (.t 28) (.t 27) 1),none⟩])
  (.seq (.ff [
    ⟨(some 29),.o (.ld (.t 3) (some 131)),none⟩,
    ⟨(some 30),.call f_lamp_Pattern [(.t 29)],none⟩,
    ⟨(some 11),.o (.alloc [(.int .i64 0),(.int .i64 0),(.int .i64 0),(.int .i64 0),(.int .i64 0),(.int .i64 0),(.int .i64 0),(.int .i64 0)]),none⟩,
    ⟨none,.o (.st (.t 11) (.t 30) 8),none⟩])
  (.join (.seq (.ff [
     ⟨(some 31),.o (.fa (.t 4) 0),none⟩,
     ⟨(some 32),.o (.ld (.t 31) none),none⟩])
   (.block 0 (.seq (.ff [
      ⟨(some 50),.o (.bin .eql (.t 32) (.k (.int .i64 1))),none⟩,
      ⟨(some 49),.o (.mv (.t 50)),none⟩])
    (.cond (.t 49) (.seq (.ff [
       ⟨(some 51),.call f_cabinet_reds [],none⟩,
       ⟨none,.o (.st (.t 11) (.t 51) 8),none⟩])
     (.seq (.ff [
       ⟨(some 52),.o (.fa (.t 4) 1),none⟩,
       ⟨(some 53),.o (.ld (.t 52) none),none⟩,
       ⟨(some 54),.call f_cabinet_more [(.t 53)],none⟩,
       ⟨(some 55),.o (.fa (.t 4) 1),none⟩,
       ⟨none,.o (.st (.t 55) (.t 54) 1),none⟩])
     (.seq (.ff [
       ⟨(some 56),.o (.fa (.t 4) 1),none⟩,
       ⟨(some 57),.o (.ld (.t 56) none),none⟩,
       ⟨(some 58),.o (.fa (.t 3) 118),none⟩,
       ⟨(some 59),.o (.ld (.t 58) none),none⟩,
       ⟨(some 60),.o (.bin .geq (.t 57) (.t 59)),none⟩])
     (.cond (.t 60) (.ff [
        ⟨(some 61),.o (.fa (.t 4) 0),none⟩,
        ⟨none,.o (.st (.t 61) (.k (.int .i64 2)) 1),none⟩,
        ⟨(some 62),.o (.fa (.t 4) 1),none⟩,
        ⟨none,.o (.st (.t 62) (.k (.int .i64 0)) 1),none⟩])
      (.skip)))))
     (.seq (.ff [
       ⟨(some 64),.o (.bin .eql (.t 32) (.k (.int .i64 2))),none⟩,
       ⟨(some 63),.o (.mv (.t 64)),none⟩])
     (.cond (.t 63) (.ff [
        ⟨(some 66),.o (.ld (.t 3) (some 131)),none⟩,
        ⟨(some 67),.o (.ld (.t 4) (some 138)),none⟩,
        ⟨(some 68),.o (.ld (.t 5) (some 6)),none⟩,
        ⟨(some 69),.call f_cabinet_tick [(.t 66),(.t 67),(.t 68)],none⟩,
        ⟨(some 65),.o (.mv (.t 69)),none⟩,
        ⟨(some 70),.o (.ext (.t 65) 0),none⟩,
        ⟨(some 71),.o (.ext (.t 65) 1),none⟩,
        ⟨none,.o (.st (.t 4) (.t 70) 138),none⟩,
        ⟨none,.o (.st (.t 11) (.t 71) 8),none⟩])
      (.seq (.ff [
        ⟨(some 33),.o (.fa (.t 4) 1),none⟩,
        ⟨(some 34),.o (.ld (.t 33) none),none⟩,
        ⟨(some 35),.call f_cabinet_more [(.t 34)],none⟩,
        ⟨(some 36),.o (.fa (.t 4) 1),none⟩,
        ⟨none,.o (.st (.t 36) (.t 35) 1),none⟩])
      (.seq (.ff [
        ⟨(some 37),.o (.fa (.t 4) 1),none⟩,
        ⟨(some 38),.o (.ld (.t 37) none),none⟩,
        ⟨(some 39),.o (.fa (.t 3) 120),none⟩,
        ⟨(some 40),.o (.ld (.t 39) none),none⟩,
        ⟨(some 41),.o (.bin .geq (.t 38) (.t 40)),none⟩,
        ⟨(some 42),.o (.mv (.t 41)),none⟩,
        ⟨(some 43),.o (.fa (.t 5) 5),(some (42,true))⟩,
        ⟨(some 44),.o (.ld (.t 43) none),(some (42,true))⟩,
        ⟨(some 45),.o (.pick (.t 42) (.t 44) (.k (.bool false))),none⟩])
      (.cond (.t 45) (.ff [
         ⟨(some 46),.o (.fa (.t 4) 0),none⟩,
         ⟨none,.o (.st (.t 46) (.k (.int .i64 1)) 1),none⟩,
         ⟨(some 47),.o (.fa (.t 4) 1),none⟩,
         ⟨none,.o (.st (.t 47) (.k (.int .i64 0)) 1),none⟩,
         ⟨(some 48),.o (.fa (.t 4) 2),none⟩,
         ⟨none,.o (.st (.t 48) (.k (.int .i64 0)) 1),none⟩])
       (.skip))))))))))
  (.seq (.ff [
    ⟨(some 12),.o (.alloc [.aL]),none⟩])
  (.seq (.ff [
    ⟨(some 72),.Wo f_cabinet_Step_1 [(.t 12),(.t 4)],none⟩,
    ⟨(some 13),.o (.mv (.t 72)),none⟩])
  (.seq (.ff [
    ⟨(some 73),.o (.fa (.t 9) 0),none⟩,
    ⟨(some 74),.o (.ld (.t 73) none),none⟩,
    ⟨(some 75),.o (.bin .eql (.t 74) (.k (.int .i64 2))),none⟩,
    ⟨(some 76),.o (.mv (.t 75)),none⟩,
    ⟨(some 77),.o (.fa (.t 4) 0),(some (76,true))⟩,
    ⟨(some 78),.o (.ld (.t 77) none),(some (76,true))⟩,
    ⟨(some 79),.o (.bin .eql (.t 78) (.k (.int .i64 2))),(some (76,true))⟩,
    ⟨(some 80),.o (.pick (.t 76) (.t 79) (.k (.bool false))),none⟩,
    ⟨(some 14),.o (.mv (.t 80)),none⟩])
  (.seq (.ff [
    ⟨(some 81),.o (.mv (.t 13)),none⟩,
    ⟨(some 82),.o (.mv (.t 10)),none⟩,
    ⟨(some 83),.o (.un .not (.t 82)),none⟩,
    ⟨(some 84),.eP false (.t 81) [(.t 83),(.k (.int .i64 5)),(.k (.int .i64 0))],none⟩])
  (.seq (.ff [
    ⟨(some 85),.o (.mv (.t 13)),none⟩,
    ⟨(some 86),.o (.fa (.t 9) 0),none⟩,
    ⟨(some 87),.o (.ld (.t 86) none),none⟩,
    ⟨(some 88),.o (.bin .eql (.t 87) (.k (.int .i64 2))),none⟩,
    ⟨(some 89),.o (.mv (.t 88)),none⟩,
    ⟨(some 90),.o (.fa (.t 4) 0),(some (89,true))⟩,
    ⟨(some 91),.o (.ld (.t 90) none),(some (89,true))⟩,
    ⟨(some 92),.o (.bin .eql (.t 91) (.k (.int .i64 3))),(some (89,true))⟩,
    ⟨(some 93),.o (.pick (.t 89) (.t 92) (.k (.bool false))),none⟩,
    ⟨(some 94),.o (.fa (.t 4) 2),none⟩,
    ⟨(some 95),.o (.ld (.t 94) none),none⟩,
    ⟨(some 96),.eP false (.t 85) [(.t 93),(.k (.int .i64 2)),(.t 95)],none⟩])
  (.seq (.ff [
    ⟨(some 97),.o (.mv (.t 13)),none⟩,
    ⟨(some 98),.o (.fa (.t 4) 0),none⟩,
    ⟨(some 99),.o (.ld (.t 98) none),none⟩,
    ⟨(some 100),.o (.fa (.t 9) 0),none⟩,
    ⟨(some 101),.o (.ld (.t 100) none),none⟩,
    ⟨(some 102),.o (.bin .neq (.t 99) (.t 101)),none⟩,
    ⟨(some 103),.o (.fa (.t 4) 0),none⟩,
    ⟨(some 104),.o (.ld (.t 103) none),none⟩,
    ⟨(some 105),.eP false (.t 97) [(.t 102),(.k (.int .i64 1)),(.t 104)],none⟩])
  (.seq (.ff [
    ⟨(some 106),.o (.mv (.t 13)),none⟩,
    ⟨(some 107),.o (.mv (.t 14)),none⟩,
    ⟨(some 108),.o (.mv (.t 107)),none⟩,
    ⟨(some 109),.o (.fa (.t 4) 3),(some (108,true))⟩,
    ⟨(some 110),.o (.fa (.t 109) 106),(some (108,true))⟩,
    ⟨(some 111),.o (.fa (.t 110) 0),(some (108,true))⟩,
    ⟨(some 112),.o (.ld (.t 111) none),(some (108,true))⟩,
    ⟨(some 113),.o (.fa (.t 9) 3),(some (108,true))⟩,
    ⟨(some 114),.o (.fa (.t 113) 106),(some (108,true))⟩,
    ⟨(some 115),.o (.fa (.t 114) 0),(some (108,true))⟩,
    ⟨(some 116),.o (.ld (.t 115) none),(some (108,true))⟩,
    ⟨(some 117),.o (.bin .neq (.t 112) (.t 116)),(some (108,true))⟩,
    ⟨(some 118),.o (.pick (.t 108) (.t 117) (.k (.bool false))),none⟩,
    ⟨(some 119),.o (.fa (.t 4) 3),none⟩,
    ⟨(some 120),.o (.fa (.t 119) 106),none⟩,
    ⟨(some 121),.o (.fa (.t 120) 0),none⟩,
    ⟨(some 122),.o (.ld (.t 121) none),none⟩,
    ⟨(some 123),.eP false (.t 106) [(.t 118),(.k (.int .i64 3)),(.t 122)],none⟩])
  (.seq (.ff [
    ⟨(some 124),.o (.mv (.t 13)),none⟩,
    ⟨(some 125),.o (.mv (.t 14)),none⟩,
    ⟨(some 126),.o (.mv (.t 125)),none⟩,
    ⟨(some 127),.o (.fa (.t 4) 3),(some (126,true))⟩,
    ⟨(some 128),.o (.fa (.t 127) 96),(some (126,true))⟩,
    ⟨(some 129),.o (.fa (.t 128) 0),(some (126,true))⟩,
    ⟨(some 130),.o (.ld (.t 129) none),(some (126,true))⟩,
    ⟨(some 131),.o (.fa (.t 9) 3),(some (126,true))⟩,
    ⟨(some 132),.o (.fa (.t 131) 96),(some (126,true))⟩,
    ⟨(some 133),.o (.fa (.t 132) 0),(some (126,true))⟩,
    ⟨(some 134),.o (.ld (.t 133) none),(some (126,true))⟩,
    ⟨(some 135),.o (.bin .neq (.t 130) (.t 134)),(some (126,true))⟩,
    ⟨(some 136),.o (.pick (.t 126) (.t 135) (.k (.bool false))),none⟩,
    ⟨(some 137),.o (.fa (.t 4) 3),none⟩,
    ⟨(some 138),.o (.fa (.t 137) 96),none⟩,
    ⟨(some 139),.o (.fa (.t 138) 0),none⟩,
    ⟨(some 140),.o (.ld (.t 139) none),none⟩,
    ⟨(some 141),.eP false (.t 124) [(.t 136),(.k (.int .i64 4)),(.t 140)],none⟩])
  (.seq (.kL [
    ⟨(some 142),.ld (.t 4) (some 138),none⟩,
    ⟨(some 143),.ld (.t 11) (some 8),none⟩,
    ⟨(some 144),.ld (.t 12) none,none⟩,
    ⟨none,.st (.t 6) (.t 142) 138,none⟩,
    ⟨none,.st (.t 7) (.t 143) 8,none⟩,
    ⟨(some 8),.mv (.t 144),none⟩] [(1,3),(2,3),(2,4)])
  (.ret))))))))))))))))⟩
def tD(g0 g1 g2:Nat):bM:=⟨37,[.tmp 0],r [V 0 (F)] (r [o 7 (.call g0 []),o 1 (.alloc dJ),n (s 1 7 131)] (r [o 8 (L 1 131),o 9 (.call g1 [t 8]),o 2 (.alloc az),n (s 2 9 138)] (j (r [V 3 (i 0)] (u 0 (.loop (j (r [M 10 3,o 11 (bb .lss 10 (i 60))] (c 11 z (.exit 0))) (j (u 1 (j (r [o 14 (f 2 0),o 15 (l 14),o 16 (bb .neq 15 (i 1))] (c 16 (r [V 0 (F)] y) z)) (r [o 18 (L 1 131),o 19 (L 2 138),o 20 (.build [.aL,i 0,i 0,i 0,i 0,F] []),o 21 (.call g2 [t 18,t 19,t 20]),M 17 21,o 22 (e 17 0),o 23 (e 17 1),o 24 (e 17 2),o 4 (.alloc az),o 5 (.alloc [i 0,i 0,i 0,i 0,i 0,i 0,i 0,i 0]),n (s 4 22 138),n (s 5 23 8),M 6 24] (j (r [o 25 (.Gj (t 5) (k (i 3)) 8 1),o 26 (l 25),o 27 (bb .neq 26 (i 1))] (c 27 (r [V 0 (F)] y) z)) (R [o 28 (L 4 138),n (s 2 28 138)]))))) (R [M 12 3,o 13 (bb .add 12 (i 1)),M 3 13])))))) (r [o 29 (f 2 0),o 30 (l 29),o 31 (bb .eql 30 (i 2)),M 32 31,p 33 (f 2 137) 32,p 34 (l 33) 32,p 35 (bb .eql 34 (i 60)) 32,o 36 (P 32 35),M 0 36] y))))⟩
def pJ:bM:=⟨24,[.cell 2 (some 8)],r [o 1 (w 0),o 2 (.alloc [i 0,i 0,i 0,i 0,i 0,i 0,i 0,i 0])] (r [o 3 (.alloc [i 0,i 0,i 0,i 0,i 0,i 0,i 0,i 0])] (j (r [V 4 (i 0)] (u 0 (.loop (j (r [M 5 4,o 6 (bb .lss 5 (i 8))] (c 6 z (.exit 0))) (j (u 1 (j (r [M 9 4,o 10 (f 1 121),o 11 (A 10 9 8 1),o 12 (l 11),o 13 (bb .eql 12 (i 1))] (c 13 (R [M 14 4,o 15 (A 3 14 8 1),n (ss 15 (i 33) 1)]) z)) (r [M 16 4,o 17 (f 1 121),o 18 (A 17 16 8 1),o 19 (l 18),o 20 (bb .eql 19 (i 2))] (c 20 (R [M 21 4,o 22 (A 3 21 8 1),n (ss 22 (i 34) 1)]) z)))) (R [M 7 4,o 8 (bb .add 7 (i 1)),M 4 8])))))) (r [o 23 (L 3 8),n (s 2 23 8)] y)))⟩
def rA(g0:Nat):bM:=⟨32,[.tmp 2],r [o 1 (w 0),V 2 (F)] (r [V 3 (.fn (.func g0) [] [])] (r [o 4 (f 1 0),o 5 (l 4),o 6 (h 5),o 7 (bb .leq 6 (i 16)),M 8 7,p 9 (m 3) 8,p 10 (f 1 1) 8,p 11 (l 10) 8,p 12 (.eP (t 9) [t 11,k (i 255)]) 8,o 13 (P 8 12),M 14 13,p 15 (m 3) 14,p 16 (f 1 4) 14,p 17 (l 16) 14,p 18 (.eP (t 15) [t 17,k (i 255)]) 14,o 19 (P 14 18),M 20 19,p 21 (m 3) 20,p 22 (f 1 2) 20,p 23 (l 22) 20,p 24 (.eP (t 21) [t 23,k (i 15)]) 20,o 25 (P 20 24),M 26 25,p 27 (m 3) 26,p 28 (f 1 3) 26,p 29 (l 28) 26,p 30 (.eP (t 27) [t 29,k (i 15)]) 26,o 31 (P 26 30),M 2 31] y))⟩
def n9(g0:Nat):bM:=⟨11,[.cell 4 (some 6)],r [o 2 (w 0),o 4 (.alloc [.aL,i 0,i 0,i 0,i 0,F])] (j (r [o 5 (L 2 6),o 6 (.call g0 [t 5]),o 7 (.un .not (t 6))] (c 7 (r [M 8 1,o 9 (.build [.aL,i 0,i 0,i 0,i 0,F] [(3,1,t 8)]),n (s 4 9 6)] y) z)) (r [o 10 (L 2 6),n (s 4 10 6)] y))⟩
def rB:bM:=⟨23,[.cell 2 (some 8)],r [o 1 (w 0),o 2 (.alloc [i 0,i 0,i 0,i 0,i 0,i 0,i 0,i 0])] (r [o 3 (.alloc [i 0,i 0,i 0,i 0,i 0,i 0,i 0,i 0])] (j (r [o 6 (f 1 121),o 7 (L 6 8),V 8 (i 0)] (u 0 (.loop (r [o 9 (bb .lss 8 (i 8))] (j (c 9 z (.exit 0)) (j (u 1 (r [M 10 8,o 11 (.DU (t 7) (t 8) 8 1 none),M 4 10,M 5 11] (r [M 12 5] (u 2 (r [o 14 (bb .eql 12 (i 1)),M 13 14] (c 13 (R [M 15 4,o 16 (A 3 15 8 1),n (ss 16 (i 33) 1)]) (r [o 18 (bb .eql 12 (i 2)),M 17 18] (c 17 (R [M 19 4,o 20 (A 3 19 8 1),n (ss 20 (i 34) 1)]) z)))))))) (R [o 21 (bb .add 8 (i 1)),M 8 21]))))))) (r [o 22 (L 3 8),n (s 2 22 8)] y)))⟩
def rC:bM:=⟨10,[.cell 0 (some 8)],r [o 0 (.alloc [i 0,i 0,i 0,i 0,i 0,i 0,i 0,i 0])] (r [o 1 (.alloc [i 0,i 0,i 0,i 0,i 0,i 0,i 0,i 0])] (j (r [V 3 (i 0)] (u 0 (.loop (r [o 4 (bb .lss 3 (i 8))] (j (c 4 z (.exit 0)) (j (u 1 (r [M 5 3,M 2 5] (R [M 6 2,o 7 (A 1 6 8 1),n (ss 7 (i 1) 1)]))) (R [o 8 (bb .add 3 (i 1)),M 3 8]))))))) (r [o 9 (L 1 8),n (s 0 9 8)] y)))⟩
def rD:bM:=⟨7,[.tmp 2],r [V 2 (i 0)] (r [M 3 0,o 4 (.mm true [t 3,k (i 0)]),o 5 (.mm false [t 4,k (i 9999)]),o 6 (bb .add 5 (i 1)),M 2 6] y)⟩
def rE(g0 g1 g2 g3:Nat):bM:=⟨43,[.cell 6 (some 138),.cell 7 (some 8)],r [o 3 (w 0),o 4 (w 1),o 5 (w 2),o 6 (.alloc az),o 7 (.alloc [i 0,i 0,i 0,i 0,i 0,i 0,i 0,i 0])] (r [o 13 (L 3 131),o 14 (L 4 138),o 15 (L 5 6),o 16 (.call g0 [t 13,t 14,t 15]),M 12 16,o 17 (e 12 0),o 18 (e 12 1),o 19 (e 12 2),o 20 (e 12 3),o 8 (.alloc bX),o 9 (.alloc dY),o 10 (.alloc [i 0,i 0,i 0,i 0,i 0,i 0,i 0,i 0]),n (s 8 17 117),n (s 9 18 16),n (s 10 19 8),M 11 20] (j (r [M 21 11,o 22 (bb .neq 21 (i 0))] (c 22 (r [M 23 11,o 24 (L 3 131),o 25 (.call g1 [t 24]),o 26 (f 4 136),o 27 (l 26),o 28 (f 4 137),o 29 (l 28),o 30 (.build az [(0,1,k (i 3)),(2,1,t 23),(3,117,t 25),(136,1,t 27),(137,1,t 29)]),o 31 (L 3 131),o 32 (.call g2 [t 31]),n (s 6 30 138),n (s 7 32 8)] y) z)) (.seq (.kL [o 33 (L 8 117),o 34 (L 9 16),o 35 (f 4 1),o 36 (l 35),o 37 (.call g3 [t 36]),o 38 (f 4 3),n (s 38 33 117),o 39 (f 4 120),n (s 39 34 16),o 40 (f 4 1),n (s 40 37 1)] [(1,6)]) (.seq (.kL [o 41 (L 4 138),o 42 (L 10 8),n (s 6 41 138),n (s 7 42 8)] [(1,2)]) y))))⟩
def bS (e_api_Event:Nat):bM:=⟨17,[],
  .seq (.ff [
    ⟨(some 8),.o (.mv (.t 0)),none⟩])
  (.cond (.t 8) (.ff [
     ⟨(some 9),.o (.ld (.t 3) none),none⟩,
     ⟨(some 10),.o (.fa (.t 4) 137),none⟩,
     ⟨(some 11),.o (.ld (.t 10) none),none⟩,
     ⟨(some 12),.o (.mv (.t 1)),none⟩,
     ⟨(some 13),.o (.mv (.t 2)),none⟩,
     ⟨(some 14),.o (.build [(.int .i64 0),(.int .i64 0),(.int .i64 0)] [(0,1,(.t 11)),(1,1,(.t 12)),(2,1,(.t 13))]),none⟩,
     ⟨(some 15),.o (.mz e_api_Event 3 [(.t 14)]),none⟩,
     ⟨(some 16),.o (.app e_api_Event 3 24 (.t 9) (.t 15)),none⟩,
     ⟨none,.o (.st (.t 3) (.t 16) 1),none⟩])
   (.skip))⟩
def lM(g0 g1 g2 g3 g4:Nat):bM:=⟨78,[.cell 0 (some 131)],r [o 0 (.alloc dJ)] (r [o 1 (.alloc dJ)] (j (r [V 2 (i 0)] (u 0 (.loop (j (r [M 3 2,o 4 (bb .lss 3 (i 8))] (c 4 z (.exit 0))) (j (u 1 (r [M 7 2,o 8 (.build cn [(0,1,k (T)),(1,1,k (i 50)),(2,1,k (i 20)),(3,1,k (i 200)),(4,1,k (i 300)),(5,1,k (i 50)),(6,1,k (i 35)),(7,1,k (i 10)),(11,1,k (T))]),o 9 (f 1 0),o 10 (A 9 7 8 13),n (s 10 8 13)] (j (r [M 11 2,o 12 (bb .rem 11 (i 2)),o 13 (bb .eql 12 (i 1))] (c 13 (r [M 14 2,o 15 (f 1 0),o 16 (A 15 14 8 13),o 17 (f 16 8),n (ss 17 (i 70) 1)] (R [M 18 2,o 19 (f 1 0),o 20 (A 19 18 8 13),o 21 (f 20 9),n (ss 21 (i 80) 1)])) z)) (r [M 22 2,o 23 (f 1 121),o 24 (A 23 22 8 1),n (ss 24 (i 1) 1)] (r [o 25 (f 1 113),o 26 (l 25),M 27 2,o 28 (.build [i 0,.float .f64 0,.float .f64 0,.float .f64 0,.float .f64 0,i 0,i 0] [(0,1,t 27),(1,1,k (.float .f64 4621819117588971520)),(2,1,k (.float .f64 4617315517961601024)),(4,1,k (.float .f64 4602678819172646912)),(5,1,k (i 6000))]),o 29 (.mz g0 7 [t 28]),o 30 (.app g0 7 56 (t 26) (t 29)),o 31 (f 1 113),n (s 31 30 1)] (R [M 32 2,M 33 2,o 34 (bb .quo 33 (i 2)),o 35 (bb .mul 34 (i 2)),o 36 (bb .xor 35 (i 4)),o 37 (.oG .u64 (t 36)),o 38 (.bin .shl (k (i 3)) (t 37)),o 39 (.bin .andNot (k (i 255)) (t 38)),M 40 2,o 41 (.oG .u64 (t 40)),o 42 (.bin .shl (k (i 1)) (t 41)),o 43 (b .andNot 39 42),o 44 (f 1 105),o 45 (A 44 32 8 1),n (s 45 43 1)])))))) (R [M 5 2,o 6 (bb .add 5 (i 1)),M 2 6])))))) (r [o 46 (f 1 0),o 47 (.Gj (t 46) (k (i 1)) 8 13),o 48 (f 47 10),n (ss 48 (i 1) 1)] (r [o 49 (f 1 0),o 50 (.Gj (t 49) (k (i 5)) 8 13),o 51 (f 50 10),n (ss 51 (i 1) 1)] (r [o 52 (f 1 121),o 53 (.Gj (t 52) (k (i 1)) 8 1),n (ss 53 (i 2) 1)] (r [o 54 (f 1 121),o 55 (.Gj (t 54) (k (i 5)) 8 1),n (ss 55 (i 2) 1)] (r [o 56 (.mz g1 1 [k (i 0),k (i 1)]),o 57 (.mz g1 1 [k (i 4),k (i 5)]),o 58 (.build [.aL,.aL] [(0,1,t 56),(1,1,t 57)]),o 59 (.mz g1 1 [k (i 2),k (i 3)]),o 60 (.mz g1 1 [k (i 6),k (i 7)]),o 61 (.build [.aL,.aL] [(0,1,t 59),(1,1,t 60)]),o 62 (.mz g2 2 [t 58,t 61]),o 63 (f 1 104),n (s 63 62 1)] (r [o 64 (.build bz [(0,1,k (i 204)),(1,1,k (i 136)),(2,1,k (i 34)),(3,1,k (i 68)),(4,1,k (i 5)),(5,1,k (i 20)),(6,1,k (i 30)),(7,1,k (i 100)),(8,1,k (i 100)),(9,1,k (i 3000)),(10,1,k (i 4000))]),o 65 (.mz g3 11 [t 64]),o 66 (f 1 114),n (s 66 65 1)] (r [o 67 (.build [i 0,i 0] [(0,1,k (i 34)),(1,1,k (i 600))]),o 68 (.mz g4 2 [t 67]),o 69 (f 1 115),n (s 69 68 1)] (r [o 70 (f 1 116),n (ss 70 (i 100) 1)] (r [o 71 (f 1 117),n (ss 71 (i 200) 1)] (r [o 72 (f 1 118),n (ss 72 (i 60) 1)] (r [o 73 (f 1 119),n (ss 73 (i 20) 1)] (r [o 74 (f 1 120),n (ss 74 (i 100) 1)] (r [o 75 (f 1 129),n (ss 75 (i 8640000) 1)] (r [o 76 (f 1 130),n (ss 76 (i 600) 1)] (r [o 77 (L 1 131),n (s 0 77 131)] y)))))))))))))))))⟩
def oa:bM:=⟨12,[.tmp 4],r [V 4 (F)] (r [M 5 0,o 6 (bb .geq 5 (i 0)),M 7 6,p 8 (m 0) 7,p 9 (m 1) 7,p 10 (b .leq 8 9) 7,o 11 (P 7 10),M 4 11] y)⟩
def rF (f_cabinet_runs_1 f_engine_Step f_lamp_All f_set_Each f_monitor_Step f_preempt_Stuck:Nat):FX:=⟨59,[.cell 6 (some 117),.cell 7 (some 16),.cell 8 (some 8),.cell 9 none],
  .ff [
    ⟨(some 3),.o (.box (.t 0)),none⟩,
    ⟨(some 4),.o (.box (.t 1)),none⟩,
    ⟨(some 5),.o (.box (.t 2)),none⟩,
    ⟨(some 6),.o (.alloc bX),none⟩,
    ⟨(some 7),.o (.alloc dY),none⟩,
    ⟨(some 8),.o (.alloc [(.int .i64 0),(.int .i64 0),(.int .i64 0),(.int .i64 0),(.int .i64 0),(.int .i64 0),(.int .i64 0),(.int .i64 0)]),none⟩,
    ⟨(some 9),.o (.alloc [(.int .i64 0)]),none⟩],f_cabinet_runs_1,[(.t 6),(.t 7),(.t 8),(.t 9)],12,
  .seq (.ff [
    ⟨(some 13),.o (.ld (.t 3) (some 131)),none⟩,
    ⟨(some 14),.o (.fa (.t 4) 3),none⟩,
    ⟨(some 15),.o (.ld (.t 14) (some 117)),none⟩,
    ⟨(some 16),.o (.fa (.t 5) 0),none⟩,
    ⟨(some 17),.o (.ld (.t 16) none),none⟩,
    ⟨(some 18),.o (.fa (.t 5) 1),none⟩,
    ⟨(some 19),.o (.ld (.t 18) none),none⟩,
    ⟨(some 20),.o (.fa (.t 5) 2),none⟩,
    ⟨(some 21),.o (.ld (.t 20) none),none⟩,
    ⟨(some 22),.o (.fa (.t 5) 3),none⟩,
    ⟨(some 23),.o (.ld (.t 22) none),none⟩,
    ⟨(some 24),.o (.build [.aL,(.int .i64 0),(.int .i64 0),(.int .i64 0)] [(0,1,(.t 17)),(1,1,(.t 19)),(2,1,(.t 21)),(3,1,(.t 23))]),none⟩,
    ⟨(some 25),.call f_engine_Step [(.t 13),(.t 15),(.t 24)],none⟩,
    ⟨none,.o (.st (.t 6) (.t 25) 117),none⟩])
  (.seq (.ff [
    ⟨(some 26),.o (.fa (.t 6) 0),none⟩,
    ⟨(some 27),.o (.ld (.t 26) (some 96)),none⟩,
    ⟨(some 28),.call f_lamp_All [(.t 27)],none⟩,
    ⟨none,.o (.st (.t 8) (.t 28) 8),none⟩])
  (.seq (.ff [
    ⟨(some 29),.o (.ld (.t 8) (some 8)),none⟩,
    ⟨(some 10),.o (.alloc [(.int .i64 0),(.int .i64 0),(.int .i64 0),(.int .i64 0),(.int .i64 0),(.int .i64 0),(.int .i64 0),(.int .i64 0)]),none⟩,
    ⟨none,.o (.st (.t 10) (.t 29) 8),none⟩])
  (.join (.seq (.ff [
     ⟨(some 30),.o (.fa (.t 5) 4),none⟩,
     ⟨(some 31),.o (.ld (.t 30) none),none⟩,
     ⟨(some 32),.call f_set_Each [(.t 31)],none⟩])
   (.block 0 (.mI (.t 32) [33] [33,11,34,35,36,37,38] (.ff [
       ⟨(some 11),.o (.mv (.t 33)),none⟩])
     (.block 1 (.ff [
        ⟨(some 34),.o (.mv (.t 11)),none⟩,
        ⟨(some 35),.o (.Gj (.t 10) (.t 34) 8 1),none⟩,
        ⟨(some 36),.o (.ld (.t 35) none),none⟩,
        ⟨(some 37),.o (.bin .or (.t 36) (.k (.int .i64 4))),none⟩,
        ⟨(some 38),.o (.Gj (.t 10) (.t 34) 8 1),none⟩,
        ⟨none,.o (.st (.t 38) (.t 37) 1),none⟩])))))
  (.seq (.ff [
    ⟨(some 40),.o (.ld (.t 3) (some 131)),none⟩,
    ⟨(some 41),.o (.fa (.t 4) 120),none⟩,
    ⟨(some 42),.o (.ld (.t 41) (some 16)),none⟩,
    ⟨(some 43),.o (.ld (.t 10) (some 8)),none⟩,
    ⟨(some 44),.call f_monitor_Step [(.t 40),(.t 42),(.t 43)],none⟩,
    ⟨(some 39),.o (.mv (.t 44)),none⟩,
    ⟨(some 45),.o (.ext (.t 39) 0),none⟩,
    ⟨(some 46),.o (.ext (.t 39) 1),none⟩,
    ⟨none,.o (.st (.t 7) (.t 45) 16),none⟩,
    ⟨none,.o (.st (.t 9) (.t 46) 1),none⟩])
  (.join (.seq (.ff [
     ⟨(some 47),.o (.ld (.t 9) none),none⟩,
     ⟨(some 48),.o (.bin .eql (.t 47) (.k (.int .i64 0))),none⟩,
     ⟨(some 49),.o (.mv (.t 48)),none⟩,
     ⟨(some 50),.o (.ld (.t 3) (some 131)),(some (49,true))⟩,
     ⟨(some 51),.o (.fa (.t 6) 106),(some (49,true))⟩,
     ⟨(some 52),.o (.ld (.t 51) (some 8)),(some (49,true))⟩,
     ⟨(some 53),.call f_preempt_Stuck [(.t 50),(.t 52)],(some (49,true))⟩,
     ⟨(some 54),.o (.pick (.t 49) (.t 53) (.k (.bool false))),none⟩])
   (.cond (.t 54) (.ff [
      ⟨none,.o (.st (.t 9) (.k (.int .i64 7)) 1),none⟩])
    (.skip)))
  (.seq (.kL [
    ⟨(some 55),.ld (.t 6) (some 117),none⟩,
    ⟨(some 56),.ld (.t 7) (some 16),none⟩,
    ⟨(some 57),.ld (.t 8) (some 8),none⟩,
    ⟨(some 58),.ld (.t 9) none,none⟩,
    ⟨none,.st (.t 6) (.t 55) 117,none⟩,
    ⟨none,.st (.t 7) (.t 56) 16,none⟩,
    ⟨none,.st (.t 8) (.t 57) 8,none⟩,
    ⟨none,.st (.t 9) (.t 58) 1,none⟩] [(1,4),(2,4),(2,5),(3,4),(3,5),(3,6)])
  (.ret)))))))⟩
def ob:Rp:=⟨11,5,[
    ⟨(some 4),.o (.mv (.t 5)),none⟩],
  .seq (.ff [
    ⟨(some 6),.o (.mv (.t 4)),none⟩,
    ⟨(some 7),.SZ true (.t 6),none⟩])
  (.cond (.t 7) (.ff [
     ⟨(some 8),.o (.build bX []),none⟩,
     ⟨(some 9),.o (.build dY []),none⟩,
     ⟨(some 10),.o (.build [(.int .i64 0),(.int .i64 0),(.int .i64 0),(.int .i64 0),(.int .i64 0),(.int .i64 0),(.int .i64 0),(.int .i64 0)] []),none⟩,
     ⟨none,.o (.st (.t 0) (.t 8) 117),none⟩,
     ⟨none,.o (.st (.t 1) (.t 9) 16),none⟩,
     ⟨none,.o (.st (.t 2) (.t 10) 8),none⟩,
     ⟨none,.o (.st (.t 3) (.k (.int .i64 8)) 1),none⟩])
   (.skip))⟩
end
structure Fm where
 samples:Option (List (List AV))
 push:Int
 ask:Int
 lines:Int
 iU:Int
 reset:Bool
 deriving Inhabited
def smR(r:List AV):List AV:=r
def Fm.cells(x:Fm):List AV:=[aH smR x.samples,I x.push,I x.ask,I x.lines,I x.iU,B x.reset]
def Rx(s all:Int):Bool:=decide (s>=0)&&decide (s<=all)
def oc(x:Fm):Bool:=(((decide (((x.samples.getD []).length:Int)<=16)&&Rx x.push 255)&&Rx x.iU 255)&&Rx x.ask 15)&&Rx x.lines 15
def uB(x:Fm) (lines:Int):Fm:=if oc x then x else⟨none,0,0,lines,0,false⟩
theorem Fm.len(x:Fm):x.cells.length=6:=rfl
theorem bf(b:Bool):b=false\/b=true:=by cases b<;>simp
def xI.Spec(C:aS) (f:Nat):Prop:=∀s all:Int,C.c f [I s,I all] (B (Rx s all)) none
def ni.Spec(C:aS) (f:Nat):Prop:=∀x:Fm,C.c f [.agg x.cells] (B (oc x)) none
def iV.Spec(C:aS) (f:Nat):Prop:=∀(x:Fm) (lines:Int),C.c f [.agg x.cells,I lines] (.agg (uB x lines).cells) none
section
variable{P:Program} (hm:P.follows .mixedOrders=true) {f:Nat}
include hm
theorem xI.ok(hc:bF P f=some oa):xI.Spec (Pure P) f:=by
 intro s all
 refine ak hm hc (by show 2<=12;decide) (aj (keep:=[]) (i:=0) ?_)
 try simp only[I,B,D,RX,↓KW,seval,oa,Z.H]
 unfold Rx
 refine aV (fun h=>?_) (fun h=>?_)<;>try simp only[I,B,D,RX,↓KW,seval,h]
 all_goals simp[h]
theorem ni.ok{f1:Nat} (hc:bF P f=some (rA f1)) (h1:xI.Spec (Pure P) f1):ni.Spec (Pure P) f:=by
 intro x
 refine ak hm hc (by show 1<=32;decide) (aj (keep:=[]) (i:=0) ?_)
 try simp only[I,B,D,RX,↓KW,seval,rA,Z.H,Fm.cells]
 unfold oc;generalize decide (((x.samples.getD []).length:Int)<=16)=b0
 repeat' (first|((first|refine af (h1 x.push 255) ?_|refine af (h1 x.iU 255) ?_|refine af (h1 x.ask 15) ?_|refine af (h1 x.lines 15) ?_);try simp only[I,B,D,RX,↓KW,seval,Bool.true_and,Bool.false_and,Bool.and_true,Bool.and_false])|(((first|refine aV ?_ ?_|refine ax ?_ ?_|refine bC ?_ ?_)<;>intro h)<;>try simp only[I,B,D,RX,↓KW,seval,Bool.true_and,Bool.false_and,Bool.and_true,Bool.and_false,h]))
 all_goals simp[*]
theorem iV.ok{fG:Nat} (hc:bF P f=some (n9 fG)) (hG:ni.Spec (Pure P) fG):iV.Spec (Pure P) f:=by
 intro x lines
 have hw:ay x.cells 0 (some 6)=some (.agg x.cells):=rfl
 have hG':=hG x
 unfold uB;cases hg:oc x
 all_goals
  rw[hg]at hG'
  refine ak hm hc (by show 2<=11;decide) (aj (keep:=[]) (i:=0) ?_)
  try simp only[I,B,D,RX,↓KW,seval,n9,Z.H,hw,Fm.len]
  refine af hG' ?_;try simp only[I,B,D,RX,↓KW,seval,Bool.not_false,Bool.not_true,hw,Fm.len]
  try rfl
end
end Go.Eng
