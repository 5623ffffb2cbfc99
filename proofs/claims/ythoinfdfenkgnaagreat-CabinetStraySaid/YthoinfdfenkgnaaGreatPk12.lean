/- The engine and the library,part 12 of 18: what the proofs of this seat need of them. -/
import Derived.Test.YthoinfdfenkgnaaGreatPk11
set_option linter.unnecessarySimpa false
set_option linter.unusedSimpArgs false
set_option linter.unusedVariables false
set_option linter.defProp false
set_option maxRecDepth 10000
set_option maxHeartbeats 4000000
namespace Go.Eng
open Go
structure Mn where
 last:List Int
 ticks:List Int
 deriving Inhabited,DecidableEq
def Mn.cells(m:Mn):List AV:=m.last.map I++m.ticks.map I
structure Mn.Ok (m:Mn):Prop where
 last:m.last.length=8
 ticks:m.ticks.length=8
def lD(l:List Int) (p:Nat):Int:=l.getD p 0
theorem Oh{l:List Int} (h:l.length=8) {p:Nat} (hp:p<8):(l.map I)[p]? =some (I (lD l p)):=by
 have:p<l.length:=by omega
 simp[lD,this]
theorem Mn.len{m:Mn} (h:m.Ok):m.cells.length=16:=by simp[Mn.cells,h.last,h.ticks]
theorem Mn.whole{m:Mn} (h:m.Ok):ay m.cells 0 (some 16)=some (.agg m.cells):=by
 have:=Mn.len h
 simp[ay,this];rw[<-this,List.take_length]
theorem Mn.at{m:Mn} (h:m.Ok) {p:Nat} (hp:p<8):m.cells[p]? =some (I (lD m.last p))/\m.cells[8+p]? =some (I (lD m.ticks p)):=by
 have h1:=h.last;have h2:=h.ticks
 refine⟨?_,?_⟩
 ·rw[Mn.cells,List.getElem?_append_left (by simp[h1,hp])];exact Oh h1 hp
 ·rw[Mn.cells,List.getElem?_append_right (by simp[h1]),show 8+p-(m.last.map I).length=p by simp[h1]];exact Oh h2 hp
theorem zW{l:List Int} (h:l.length=8):ay (l.map I) 0 (some 8)=some (.agg (l.map I)):=by
 have:(l.map I).length=8:=by simp[h]
 simp[ay,h]
 rw[List.take_of_length_le (by simp[h])]
def rS(t:Tb) (m:Mn) (l:List Int):List AV:=t.cells++(m.cells++l.map I)
structure we (t:Tb) (m:Mn) (l:List Int):Prop where
 t:t.Ln
 m:m.Ok
 l:l.length=8
section
variable{t:Tb} {m:Mn} {l:List Int} (h:we t m l)
include h
theorem VD:(rS t m l).length=155:=by simp[rS,h.t.len,Mn.len h.m,h.l]
theorem jO:ay (rS t m l) 0 (some 155)=some (.agg (rS t m l)):=by
 have:=VD h
 simp[ay,this];rw[<-this,List.take_length]
theorem ZE{j:Nat} (hj:j<131):(rS t m l)[j]? =t.cells[j]?:=by
 have:=h.t.len
 rw[rS,List.getElem?_append_left (by omega)]
theorem ZF{j:Nat} (hj:j<16):(rS t m l)[131+j]? =m.cells[j]?:=by
 have:=h.t.len
 have:=Mn.len h.m
 rw[rS,List.getElem?_append_right (by omega),List.getElem?_append_left (by omega)]
 congr 1;omega
theorem zX{p:Nat} (hp:p<8):(rS t m l)[105+p]? =some (I (gI t p))/\(rS t m l)[131+p]? =some (I (lD m.last p))/\(rS t m l)[139+p]? =some (I (lD m.ticks p))/\(rS t m l)[147+p]? =some (I (lD l p))/\(rS t m l)[p*13+6]? =some (I (aX t p).ei):=by
 have hl:=h.t.len
 have hm:=Mn.len h.m
 obtain⟨m1,m2⟩:=Mn.at h.m hp
 refine⟨by rw[ZE h (by omega)];exact h.t.Jg hp,by rw[ZF h (by omega)];exact m1,?_,?_,?_⟩
 ·rw[show 139+p=131+(8+p)by omega,ZF h (by omega)];exact m2
 ·rw[rS,List.getElem?_append_right (by omega),List.getElem?_append_right (by omega),show 147+p-t.cells.length-m.cells.length=p by omega];exact Oh h.l hp
 ·rw[ZE h (by omega)];exact(Tb.yS (h.t.tc hp)).2.2.2.2.2.2.1
theorem VE:ay (rS t m l) 0 (some 104)=some (.agg (t.phases.flatMap Ph.cells)):=by
 have e:(t.phases.flatMap Ph.cells).length=104:=by rw[aJ Ph.len,h.t.phases]
 have:=eu (pre:=[]) (mid:=t.phases.flatMap Ph.cells) (post:=t.rest++(m.cells++l.map I)) (off:=0) (z:=104) rfl e
 rw[List.nil_append]at this;rw[rS]
 have e2:t.cells=t.phases.flatMap Ph.cells++t.rest:=rfl
 rw[e2,List.append_assoc];exact this
end
theorem VF{t:Tb} (h:t.Ln) {p:Nat} (hp:p<8):ay (t.phases.flatMap Ph.cells) (p*13) (some 13)=some (.agg (aX t p).cells):=by
 rw[ja (h.tc hp)]
 exact eu (by rw[aJ Ph.len,jD (h.tc hp)]) rfl
theorem xJ{cs:List AV} {a j:Nat} {v:AV} (h:cs[a+j]? =some v):((cs.drop a).drop j)[0]? =some v:=by rw[List.drop_drop,List.getElem?_drop];exact h
theorem Oi{cs:List AV} {a b j:Nat} {v:AV} (h:cs[a+b+j]? =some v):(((cs.drop a).drop b).drop j)[0]? =some v:=by rw[List.drop_drop,List.drop_drop,List.getElem?_drop,<-h];congr 1;omega
def Ry(n:Nat):Int:=[0,1,1,2,1,2,2,3].getD n 0
def Cv.Spec(C:aS) (f:Nat):Prop:=∀n:Nat,n<8->C.c f [.int .u64 n] (I (Ry n)) none
def Oj.Spec(C:aS) (f:Nat):Prop:=∀n:Nat,n<8->C.c f [.int .u64 n] (I (Ry n)) none
theorem abo(x:Int):∃n:Nat,n<8/\dw .i64 x 7=n:=by
 have e:dw .i64 x 7=IntKind.i64.wrap ((bv x&&&7#64).toNat:Int):=rfl
 have h:(bv x&&&7#64).toNat<8:=by
  rw[BitVec.toNat_and]
  exact Nat.lt_of_le_of_lt Nat.and_le_right (by decide)
 exact⟨(bv x&&&7#64).toNat,h,by rw[e,aW (by omega) (by omega)]⟩
def Ol(x:Int):Int:=Ry (dw .i64 x 7).toNat
def FZ(x:Int):Bool:=dw .i64 x 6 !=0
def ED.Spec(C:aS) (f:Nat):Prop:=∀(t:Tb) (m:Mn) (l:List Int) (p:Nat),we t m l->p<8->C.c f [.agg (rS t m l),I p] (I (Ol (lD l p))) none
def uC.Spec(C:aS) (f:Nat):Prop:=∀(t:Tb) (m:Mn) (l:List Int) (p:Nat),we t m l->p<8->C.c f [.agg (rS t m l),I p] (B (FZ (lD l p))) none
def kK(m:Mn) (l:List Int) (p:Nat) (x y:Int):Bool:=dw .i64 (lD m.last p) 7==x&&dw .i64 (lD l p) 7==y
def pK.Spec(C:aS) (f:Nat):Prop:=∀(t:Tb) (m:Mn) (l:List Int) (p:Nat) (x y:Int),we t m l->p<8->C.c f [.agg (rS t m l),I p,I x,I y] (B (kK m l p x y)) none
def nj(m:Mn) (l:List Int) (p:Nat):Bool:=kK m l p 4 1||kK m l p 1 2||kK m l p 2 4
def pL.Spec(C:aS) (f:Nat):Prop:=∀(t:Tb) (m:Mn) (l:List Int) (p:Nat),we t m l->p<8->C.c f [.agg (rS t m l),I p] (B (nj m l p)) none
def rT(t:Tb) (is:Nat->Bool):Bool:=(List.range 8).any fun p=>(aX t p).on&&is p
def EE.Spec(C:aS) (f:Nat):Prop:=∀(t:Tb) (m:Mn) (l:List Int) (g:Nat) (fs cs:List AV) (is:Nat->Bool),we t m l->(∀p:Nat,p<8->C.c g (fs++[I p]++cs) (B (is p)) none)->C.c f [.agg (rS t m l),.fn (.func g) fs cs] (B (rT t is)) none
def F0(t:Tb) (p q:Nat):Bool:=ej (gI t p) q||ej (gI t q) p
def wg(t:Tb) (l:List Int) (p q:Nat):Bool:=(((q:Int) !=(p:Int))&&F0 t p q)&&FZ (lD l q)
def HO.Spec(C:aS) (f:Nat):Prop:=∀(t:Tb) (m:Mn) (l:List Int) (p q:Nat),we t m l->p<8->q<8->C.c f [I q,.ref [I p],.ref (rS t m l)] (B (wg t l p q)) none
def Om(t:Tb) (l:List Int) (p:Nat):Bool:=rT t (wg t l p)
def L5.Spec(C:aS) (f:Nat):Prop:=∀(t:Tb) (m:Mn) (l:List Int) (p:Nat),we t m l->p<8->C.c f [.agg (rS t m l),I p] (B (Om t l p)) none
def is1(l:List Int) (p:Nat):Bool:=Ol (lD l p)==0
def VG(l:List Int) (p:Nat):Bool:=decide (1<Ol (lD l p))
def WD(t:Tb) (l:List Int) (p:Nat):Bool:=FZ (lD l p)&&Om t l p
def WE(t:Tb) (l:List Int) (p:Nat):Bool:=(dw .i64 (lD l p) 8 !=0)&&Om t l p
def WG(t:Tb) (m:Mn) (l:List Int) (p:Nat):Bool:=kK m l p 2 1&&decide (lD m.ticks p<(aX t p).ei)
def Oo.Spec(C:aS) (f:Nat):Prop:=∀(t:Tb) (m:Mn) (l:List Int) (p:Nat),we t m l->p<8->C.c f [I p,.ref (rS t m l)] (B (is1 l p)) none
def Oq.Spec(C:aS) (f:Nat):Prop:=∀(t:Tb) (m:Mn) (l:List Int) (p:Nat),we t m l->p<8->C.c f [I p,.ref (rS t m l)] (B (VG l p)) none
def Ot.Spec(C:aS) (f:Nat):Prop:=∀(t:Tb) (m:Mn) (l:List Int) (p:Nat),we t m l->p<8->C.c f [I p,.ref (rS t m l)] (B (WD t l p)) none
def Ou.Spec(C:aS) (f:Nat):Prop:=∀(t:Tb) (m:Mn) (l:List Int) (p:Nat),we t m l->p<8->C.c f [I p,.ref (rS t m l)] (B (WE t l p)) none
def Ov.Spec(C:aS) (f:Nat):Prop:=∀(t:Tb) (m:Mn) (l:List Int) (p:Nat),we t m l->p<8->C.c f [I p,.ref (rS t m l)] (B (WG t m l p)) none
def gC(t:Tb) (m:Mn) (l:List Int):Int:=
 if rT t (is1 l)then 1 else if rT t (VG l)then 2 else if rT t (WD t l)then 3 else if rT t (WE t l)then 4 else if rT t (nj m l)then 5 else if rT t (WG t m l)then 6 else 0
def xK.Spec(C:aS) (f:Nat):Prop:=∀(t:Tb) (m:Mn) (l:List Int),we t m l->C.c f [.agg (rS t m l)] (I (gC t m l)) none
section
variable{P:Program} (hm:P.follows .mixedOrders=true) {f:Nat}
include hm
theorem Cv.ok(hc:bF P f=some iR):Cv.Spec (Pure P) f:=by
 intro n hn
 have:n=0\/n=1\/n=2\/n=3\/n=4\/n=5\/n=6\/n=7:=by omega
 rcases this with rfl|rfl|rfl|rfl|rfl|rfl|rfl|rfl
 all_goals
  refine ak hm hc (by show 1<=35;decide) (aj (keep:=[]) (i:=0) ?_)
  try simp only[I,RX,↓KW,Nat.reduceBEq,Nat.reduceAdd,Int.reduceLE,Int.reduceToNat,iR,Z.H]
  refine congrArg (AV.int .i64) ?_;decide+kernel
theorem Oj.ok{f32 f64:Nat} (hc:bF P f=some (gA f32 f64)) (h64:Cv.Spec (Pure P) f64):Oj.Spec (Pure P) f:=by
 intro n hn
 refine ak hm hc (by show 1<=8;decide) (aj (keep:=[]) (i:=0) ?_)
 try simp only[I,RX,↓KW,Nat.reduceBEq,Nat.reduceAdd,gA,Z.H]
 refine af (h64 n hn) ?_;try simp only[I,RX,↓KW,Nat.reduceBEq,Nat.reduceAdd]
theorem ED.ok{fO:Nat} (hc:bF P f=some (kV fO)) (hO:Oj.Spec (Pure P) fO):ED.Spec (Pure P) f:=by
 intro t m l p h hp;obtain⟨_,_,_,w4,_⟩:=zX h hp
 have hx:0<=(p:Int)/\(p:Int)<(8:Nat):=by omega
 obtain⟨n,hn,e⟩:=abo (lD l p)
 have hw:IntKind.u64.wrap (n:Int)=n:=wrap_u64 (by omega)
 have hl:Ol (lD l p)=Ry n:=by rw[Ol,e];simp
 refine ak hm hc (by show 2<=12;decide) (aj (keep:=[]) (i:=0) ?_)
 try simp only[I,RX,↓KW,Nat.reduceBEq,Nat.reduceAdd,kV,Z.H,hx,w4,e,hw]
 refine af (hO n hn) ?_;try simp only[I,RX,↓KW,Nat.reduceBEq,Nat.reduceAdd]
 rw[hl]
theorem uC.ok(hc:bF P f=some jK):uC.Spec (Pure P) f:=by
 intro t m l p h hp;obtain⟨_,_,_,w4,_⟩:=zX h hp
 have hx:0<=(p:Int)/\(p:Int)<(8:Nat):=by omega
 refine ak hm hc (by show 2<=11;decide) (aj (keep:=[]) (i:=0) ?_)
 try simp only[I,B,RX,↓KW,Nat.reduceBEq,Nat.reduceAdd,jK,Z.H,hx,w4]
 rfl
theorem pK.ok(hc:bF P f=some jl):pK.Spec (Pure P) f:=by
 intro t m l p x y h hp;obtain⟨_,w2,_,w4,_⟩:=zX h hp
 have hx:0<=(p:Int)/\(p:Int)<(8:Nat):=by omega
 refine ak hm hc (by show 4<=26;decide) (aj (keep:=[]) (i:=0) ?_)
 try simp only[I,B,RX,↓KW,Nat.reduceBEq,Nat.reduceAdd,jl,Z.H,hx,w2]
 cases h1:dw .i64 (lD m.last p) 7==x
 ·try simp only[RX,↓KW,Nat.reduceBEq,Nat.reduceAdd]
  simp[kK,h1]
 ·try simp only[I,RX,↓KW,Nat.reduceBEq,Nat.reduceAdd,hx,w4]
  simp[kK,h1]
theorem pL.ok{fT:Nat} (hc:bF P f=some (iP fT)) (hT:pK.Spec (Pure P) fT):pL.Spec (Pure P) f:=by
 intro t m l p h hp
 have hw:=jO h
 refine ak hm hc (by show 2<=18;decide) (aj (keep:=[]) (i:=0) ?_)
 try simp only[I,B,RX,↓KW,Nat.reduceBEq,Nat.reduceAdd,iP,Z.H,hw]
 refine af (hT t m l p 4 1 h hp) ?_;cases h1:kK m l p 4 1
 ·try simp only[B,RX,↓KW,Nat.reduceBEq,Nat.reduceAdd,hw]
  refine af (hT t m l p 1 2 h hp) ?_;cases h2:kK m l p 1 2
  ·try simp only[B,RX,↓KW,Nat.reduceBEq,Nat.reduceAdd,hw]
   refine af (hT t m l p 2 4 h hp) ?_;try simp only[B,RX,↓KW,Nat.reduceBEq,Nat.reduceAdd]
   simp[nj,h1,h2]
  ·try simp only[B,RX,↓KW,Nat.reduceBEq,Nat.reduceAdd]
   simp[nj,h1,h2]
 ·try simp only[B,RX,↓KW,Nat.reduceBEq,Nat.reduceAdd]
  simp[nj,h1]
theorem EE.ok(hc:bF P f=some kU):EE.Spec (Pure P) f:=by
 intro t m l g fs cs is h hg
 have hp104:=VE h
 refine ak hm hc (by show 2<=22;decide) (aj (keep:=[]) (i:=0) ?_)
 try simp only[B,RY,↓KW,Nat.reduceBEq,Nat.reduceAdd,kU,Z.H,hp104]
 refine aG (fun k:Nat=>(⟨[(10,.dat (I k) none),(9,.dat (.agg (t.phases.flatMap Ph.cells)) none),(1,.dat (.fn (.func g) fs cs) none)],[],[],400⟩:S)) (fun k=>8-k) (fun k=>k<=8/\((List.range k).any fun p=>(aX t p).on&&is p)=false) ?_ 0 ⟨by omega,rfl⟩ ?_
 ·rintro k ⟨hk,hall⟩ A back
  have hwr:=aB (k:=k) (by omega)
  try simp only[I,RY,↓KW,Nat.reduceBEq,Nat.reduceAdd]
  refine ax (fun h2=>?_) (fun h2=>?_)<;>try simp only[RY,↓KW,Nat.reduceBEq,Nat.reduceAdd,h2]
  ·have h8:k<8:=by have:=of_decide_eq_true h2;omega
   have hx:0<=(k:Int)/\(k:Int)<(8:Nat):=by omega
   have hat:=VF h.t h8
   have hz:setCells cn 0 (aX t k).cells=(aX t k).cells:=bk rfl
   have hzl:cn.length=13:=rfl
   have p0:(aX t k).cells[0]? =some (AV.bool (aX t k).on):=rfl
   have hgk:=hg k h8
   have hn:((List.range (k+1)).any fun p=>(aX t p).on&&is p)=((aX t k).on&&is k):=by
    rw[List.range_succ,List.any_append,hall];simp
   have hyes:((aX t k).on&&is k)=true->rT t is=true:=fun hh=>List.any_eq_true.2 ⟨k,List.mem_range.2 h8,hh⟩
   try simp only[RY,↓KW,Nat.reduceBEq,Nat.reduceAdd,hx,hat,hz,hzl,Ph.len,p0]
   cases hon:(aX t k).on
   ·try simp only[RY,↓KW,Nat.reduceBEq,Nat.reduceAdd,hz]
    refine back (k+1) _ ⟨by omega,by rw[hn,hon];rfl⟩ (by omega) ?_
    refine ai (by decide) ?_ ?_ ?_ ?_<;>simp[LX,I,hwr]
   ·try simp only[RY,↓KW,Nat.reduceBEq,Nat.reduceAdd,hz]
    refine af hgk ?_;cases his:is k
    ·try simp only[B,RY,↓KW,Nat.reduceBEq,Nat.reduceAdd]
     refine back (k+1) _ ⟨by omega,by rw[hn,hon,his];rfl⟩ (by omega) ?_
     refine ai (by decide) ?_ ?_ ?_ ?_<;>simp[LX,I,hwr]
    ·try simp only[B,RY,↓KW,Nat.reduceBEq,Nat.reduceAdd]
     rw[hyes (by rw[hon,his];rfl)]
  ·have:k=8:=by have:=of_decide_eq_false h2;omega
   subst this
   have:rT t is=false:=hall
   try simp only[this]
 ·refine ai (by decide) ?_ ?_ ?_ ?_<;>simp[LX,I]
theorem HO.ok{fH fM:Nat} (hc:bF P f=some (ic fH fM)) (hH:kn.Spec (Pure P) fH) (hM:uC.Spec (Pure P) fM):HO.Spec (Pure P) f:=by
 intro t m l p q h hp hq
 have hw:=jO h
 have w1:=xJ (zX h hp).1
 have w2:=xJ (zX h hq).1
 have hx:0<=(p:Int)/\(p:Int)<(8:Nat):=by omega
 have hy:0<=(q:Int)/\(q:Int)<(8:Nat):=by omega
 refine ak hm hc (by show 3<=31;decide) (aj (keep:=[]) (i:=0) ?_)
 try simp only[I,B,RX,↓KW,Nat.reduceBEq,Nat.reduceAdd,ic,Z.H]
 cases h1:(q:Int) !=p
 ·try simp only[RX,↓KW,Nat.reduceBEq,Nat.reduceAdd]
  simp[wg,h1]
 ·try simp only[I,RX,↓KW,Nat.reduceBEq,Nat.reduceAdd,w1,hx]
  refine af (hH _ _) ?_;cases h2:ej (gI t p) q
  ·try simp only[I,B,RX,↓KW,Nat.reduceBEq,Nat.reduceAdd,w2,hy]
   refine af (hH _ _) ?_;cases h3:ej (gI t q) p
   ·try simp only[B,RX,↓KW,Nat.reduceBEq,Nat.reduceAdd]
    simp[wg,F0,h1,h2,h3]
   ·try simp only[B,RX,↓KW,Nat.reduceBEq,Nat.reduceAdd,hw]
    refine af (hM t m l q h hq) ?_;try simp only[B,RX,↓KW,Nat.reduceBEq,Nat.reduceAdd]
    simp[wg,F0,h1,h2,h3]
  ·try simp only[B,RX,↓KW,Nat.reduceBEq,Nat.reduceAdd,hw]
   refine af (hM t m l q h hq) ?_;try simp only[B,RX,↓KW,Nat.reduceBEq,Nat.reduceAdd]
   simp[wg,F0,h1,h2]
theorem L5.ok{f1 fA:Nat} (hc:bF P f=some (iN f1 fA)) (h1:HO.Spec (Pure P) f1) (hA:EE.Spec (Pure P) fA):L5.Spec (Pure P) f:=by
 intro t m l p h hp
 have hw:=jO h
 refine ak hm hc (by show 2<=8;decide) (aj (keep:=[]) (i:=0) ?_)
 try simp only[I,B,RX,↓KW,Nat.reduceBEq,Nat.reduceAdd,Nat.reduceLeDiff,iN,Z.H,hw]
 refine⟨rfl,?_⟩
 refine af (hA t m l f1 [] [.ref [I p],.ref (rS t m l)] (wg t l p) h fun q hq=>h1 t m l p q h hp hq) ?_
 try simp only[B,RX,↓KW,Nat.reduceBEq,Nat.reduceAdd]
 rfl
theorem Oo.ok{fL:Nat} (hc:bF P f=some (iK fL)) (hL:ED.Spec (Pure P) fL):Oo.Spec (Pure P) f:=by
 intro t m l p h hp
 have hw:=jO h
 refine ak hm hc (by show 2<=8;decide) (aj (keep:=[]) (i:=0) ?_)
 try simp only[I,B,RX,↓KW,Nat.reduceBEq,Nat.reduceAdd,iK,Z.H,hw]
 refine af (hL t m l p h hp) ?_;try simp only[I,RX,↓KW,Nat.reduceBEq,Nat.reduceAdd]
 rfl
theorem Oq.ok{fL:Nat} (hc:bF P f=some (iL fL)) (hL:ED.Spec (Pure P) fL):Oq.Spec (Pure P) f:=by
 intro t m l p h hp
 have hw:=jO h
 refine ak hm hc (by show 2<=8;decide) (aj (keep:=[]) (i:=0) ?_)
 try simp only[I,B,RX,↓KW,Nat.reduceBEq,Nat.reduceAdd,iL,Z.H,hw]
 refine af (hL t m l p h hp) ?_;try simp only[I,RX,↓KW,Nat.reduceBEq,Nat.reduceAdd]
 rfl
theorem Ot.ok{fM fA:Nat} (hc:bF P f=some (iM fM fA)) (hM:uC.Spec (Pure P) fM) (hA:L5.Spec (Pure P) fA):Ot.Spec (Pure P) f:=by
 intro t m l p h hp
 have hw:=jO h
 refine ak hm hc (by show 2<=12;decide) (aj (keep:=[]) (i:=0) ?_)
 try simp only[I,B,RX,↓KW,Nat.reduceBEq,Nat.reduceAdd,iM,Z.H,hw]
 refine af (hM t m l p h hp) ?_;cases h1:FZ (lD l p)
 ·try simp only[B,RX,↓KW,Nat.reduceBEq,Nat.reduceAdd]
  simp[WD,h1]
 ·try simp only[B,RX,↓KW,Nat.reduceBEq,Nat.reduceAdd,hw]
  refine af (hA t m l p h hp) ?_;try simp only[B,RX,↓KW,Nat.reduceBEq,Nat.reduceAdd]
  simp[WD,h1]
theorem Ou.ok{fA:Nat} (hc:bF P f=some (iO fA)) (hA:L5.Spec (Pure P) fA):Ou.Spec (Pure P) f:=by
 intro t m l p h hp
 have hw:=jO h
 have w4:=(zX h hp).2.2.2.1
 have w4':=xJ w4
 have hx:0<=(p:Int)/\(p:Int)<(8:Nat):=by omega
 refine ak hm hc (by show 2<=15;decide) (aj (keep:=[]) (i:=0) ?_)
 try simp only[I,B,RX,↓KW,Nat.reduceBEq,Nat.reduceAdd,iO,Z.H,hx,w4']
 cases h1:dw .i64 (lD l p) 8 !=0
 ·try simp only[RX,↓KW,Nat.reduceBEq,Nat.reduceAdd]
  simp[WE,h1]
 ·try simp only[RX,↓KW,Nat.reduceBEq,Nat.reduceAdd,hw]
  refine af (hA t m l p h hp) ?_;try simp only[B,RX,↓KW,Nat.reduceBEq,Nat.reduceAdd]
  simp[WE,h1]
theorem Ov.ok{fT:Nat} (hc:bF P f=some (iQ fT)) (hT:pK.Spec (Pure P) fT):Ov.Spec (Pure P) f:=by
 intro t m l p h hp
 have hw:=jO h
 have w3:=Oi (a:=131) (b:=8) (zX h hp).2.2.1
 have w5:=xJ (zX h hp).2.2.2.2
 have hx:0<=(p:Int)/\(p:Int)<(8:Nat):=by omega
 refine ak hm hc (by show 2<=21;decide) (aj (keep:=[]) (i:=0) ?_)
 try simp only[I,B,RX,↓KW,Nat.reduceBEq,Nat.reduceAdd,iQ,Z.H,hw]
 refine af (hT t m l p 2 1 h hp) ?_;cases h1:kK m l p 2 1
 ·try simp only[B,RX,↓KW,Nat.reduceBEq,Nat.reduceAdd]
  simp[WG,h1]
 ·try simp only[I,B,RX,↓KW,Nat.reduceBEq,Nat.reduceAdd,hx,w3,w5]
  simp[WG,h1]
theorem xK.ok {f1 fA f2 f3 f4 fS f5:Nat} (hc:bF P f=some (jJ f1 fA f2 f3 f4 fS f5)) (h1:Oo.Spec (Pure P) f1) (hA:EE.Spec (Pure P) fA) (h2:Oq.Spec (Pure P) f2) (h3:Ot.Spec (Pure P) f3) (h4:Ou.Spec (Pure P) f4) (hS:pL.Spec (Pure P) fS) (h5:Ov.Spec (Pure P) f5):xK.Spec (Pure P) f:=by
  intro t m l h
  have hw:=jO h
  have a1:=hA t m l f1 [] [.ref (rS t m l)] (is1 l) h fun q hq=>h1 t m l q h hq
  have a2:=hA t m l f2 [] [.ref (rS t m l)] (VG l) h fun q hq=>h2 t m l q h hq
  have a3:=hA t m l f3 [] [.ref (rS t m l)] (WD t l) h fun q hq=>h3 t m l q h hq
  have a4:=hA t m l f4 [] [.ref (rS t m l)] (WE t l) h fun q hq=>h4 t m l q h hq
  have a5:=hA t m l fS [.agg (rS t m l)] [] (nj m l) h fun q hq=>hS t m l q h hq
  have a6:=hA t m l f5 [] [.ref (rS t m l)] (WG t m l) h fun q hq=>h5 t m l q h hq
  refine ak hm hc (by show 1≤24; decide) (aj (keep:=[]) (i:=0) ?_)
  try simp only [I,RX,↓ KW,Nat.reduceBEq,Nat.reduceAdd,jJ,Z.H,hw]
  refine ⟨rfl,?_⟩
  refine af a1 ?_
  cases e1:rT t (is1 l)
  · try simp only [B,RX,↓ KW,Nat.reduceBEq,Nat.reduceAdd,hw]
    refine ⟨rfl,?_⟩
    refine af a2 ?_
    cases e2:rT t (VG l)
    · try simp only [B,RX,↓ KW,Nat.reduceBEq,Nat.reduceAdd,hw]
      refine ⟨rfl,?_⟩
      refine af a3 ?_
      cases e3:rT t (WD t l)
      · try simp only [B,RX,↓ KW,Nat.reduceBEq,Nat.reduceAdd,hw]
        refine ⟨rfl,?_⟩
        refine af a4 ?_
        cases e4:rT t (WE t l)
        · try simp only [B,RX,↓ KW,Nat.reduceBEq,Nat.reduceAdd,hw]
          refine ⟨rfl,?_⟩
          refine af a5 ?_
          cases e5:rT t (nj m l)
          · try simp only [B,RX,↓ KW,Nat.reduceBEq,Nat.reduceAdd,hw]
            refine ⟨rfl,?_⟩
            refine af a6 ?_
            cases e6:rT t (WG t m l)
            · try simp only [B,RX,↓ KW,Nat.reduceBEq,Nat.reduceAdd]
              simp [gC,e1,e2,e3,e4,e5,e6]
            · try simp only [B,RX,↓ KW,Nat.reduceBEq,Nat.reduceAdd]
              simp [gC,e1,e2,e3,e4,e5,e6]
          · try simp only [B,RX,↓ KW,Nat.reduceBEq,Nat.reduceAdd]
            simp [gC,e1,e2,e3,e4,e5]
        · try simp only [B,RX,↓ KW,Nat.reduceBEq,Nat.reduceAdd]
          simp [gC,e1,e2,e3,e4]
      · try simp only [B,RX,↓ KW,Nat.reduceBEq,Nat.reduceAdd]
        simp [gC,e1,e2,e3]
    · try simp only [B,RX,↓ KW,Nat.reduceBEq,Nat.reduceAdd]
      simp [gC,e1,e2]
  · try simp only [B,RX,↓ KW,Nat.reduceBEq,Nat.reduceAdd]
    simp [gC,e1]
end
structure Bx where
 mode:Int
 time:Int
 fault:Int
 st:bP
 bt:Mn
 lines:Int
 tick:Int
 deriving Inhabited
def Bx.cells(b:Bx):List AV:=I b.mode::I b.time::I b.fault::(b.st.cells++(b.bt.cells++[I b.lines,I b.tick]))
structure Bx.Ok (b:Bx):Prop where
 st:b.st.Ok
 bt:b.bt.Ok
def lN:Mn:=⟨List.replicate 8 0,List.replicate 8 0⟩
def y8(t:Tb):Bx:=⟨1,0,0,kY t,lN,0,0⟩
theorem AZ(t:Tb):(y8 t).Ok:=⟨nX t,rfl,rfl⟩
section
variable{b:Bx} (h:b.Ok)
include h
theorem Bx.Ow:b.bt.cells.length=16:=by simp[Mn.cells,h.bt.last,h.bt.ticks]
theorem Bx.len:b.cells.length=138:=by
 have:=Bx.Ow h
 have:=bP.len h.st
 simp[Bx.cells, *]
theorem Bx.whole:ay b.cells 0 (some 138)=some (.agg b.cells):=by
 have:=Bx.len h
 simp[ay,this];rw[<-this,List.take_length]
theorem Bx.SP{k:Nat} (hk:k<117):b.cells[3+k]? =b.st.cells[k]?:=by
 have:=bP.len h.st
 rw[Bx.cells,show 3+k=k+1+1+1 by omega,List.getElem?_cons_succ,List.getElem?_cons_succ,List.getElem?_cons_succ,List.getElem?_append_left (by omega)]
theorem Bx.HP:b.cells[109]? =some (I b.st.pre.aq):=by
 rw[show 109=3+106 from rfl,Bx.SP h (by omega),bP.N1 h.st]
theorem Bx.HQ:b.cells[99]? =some (I b.st.rings.group):=by
 rw[show 99=3+96 from rfl,Bx.SP h (by omega)]
 simp[bP.cells,List.getElem?_append,dF h.st.runs,gL.cells]
theorem Bx.jP:b.cells[136]? =some (I b.lines)/\b.cells[137]? =some (I b.tick):=by
 have h1:=Bx.Ow h
 have h2:=bP.len h.st
 constructor<;>simp[Bx.cells,List.getElem?_append,h1,h2]
theorem Bx.mY(v:Int):setCells b.cells 136 [I v]=({b with lines:=v}:Bx).cells/\setCells b.cells 137 [I v]=({b with tick:=v}:Bx).cells:=by
 have h1:=Bx.Ow h
 have h2:=bP.len h.st
 have e1:∀k,3<=k->∀vs,setCells b.cells k vs=I b.mode::I b.time::I b.fault::setCells (b.st.cells++(b.bt.cells++[I b.lines,I b.tick])) (k-3) vs:=by
  intro k hk vs
  obtain⟨m,rfl⟩:∃m,k=m+3:=⟨k-3,by omega⟩
  simp[Bx.cells,setCells,Nat.add_right_comm]
 constructor
 ·rw[e1 136 (by omega)]
  have:setCells (b.st.cells++(b.bt.cells++[I b.lines,I b.tick])) (136-3) [I v]=b.st.cells++(b.bt.cells++[I v,I b.tick]):=by
   simp[setCells,List.take_append,List.drop_append,h1,h2]
   rw[List.take_of_length_le (by omega),List.drop_of_length_le (by omega),List.drop_of_length_le (by omega)]
   rfl
  rw[this];rfl
 ·rw[e1 137 (by omega)]
  have:setCells (b.st.cells++(b.bt.cells++[I b.lines,I b.tick])) (137-3) [I v]=b.st.cells++(b.bt.cells++[I b.lines,I v]):=by
   simp[setCells,List.take_append,List.drop_append,h1,h2]
   rw[List.take_of_length_le (by omega),List.take_of_length_le (by omega),List.drop_of_length_le (by omega),List.drop_of_length_le (by omega)]
   rfl
  rw[this];rfl
end
def uD(x:Int×Int×Int):List AV:=[I x.1,I x.2.1,I x.2.2]
def VH(k:Nat):List AV:=(List.range 8).map fun j=>if j<k then I 1 else I 0
def uE:List AV:=[I 1,I 1,I 1,I 1,I 1,I 1,I 1,I 1]
def qE.Spec(C:aS) (f:Nat):Prop:=∀n:Int,C.c f [I n] (I (fj n 0 9999+1)) none
def wj.Spec(C:aS) (f:Nat):Prop:=C.c f [] (.agg uE) none
def uF.Spec(C:aS) (f:Nat):Prop:=∀t:Tb,t.Ok->C.c f [.agg t.cells] (.agg (y8 t).cells) none
def oB.Spec(C:aS) (f:Nat):Prop:=∀(o:AV) (b:Bx) (kind which:Int),b.Ok->C.p f [[o],b.cells] [some (B false),some (I kind),some (I which),none,none] (.cN []) none [[o],b.cells]
def Cw.Spec(C:aS) (f:Nat):Prop:=∀(b:Bx) (kind which:Int),b.Ok->C.p f [[.aL],b.cells] [some (B true),some (I kind),some (I which),none,none] (.cN []) none [[.sl [uD (b.tick,kind,which)]],b.cells]
section
variable{P:Program} (hm:P.follows .mixedOrders=true) {f:Nat}
include hm
theorem qE.ok(hc:bF P f=some rD):qE.Spec (Pure P) f:=by
 intro n
 have h1:(if 9999<(if 0>n then 0 else n)then 9999 else(if 0>n then 0 else n))=fj n 0 9999:=by
  unfold fj;split<;>split<;>(try split)<;>omega
 have h2:IntKind.i64.wrap (fj n 0 9999+1)=fj n 0 9999+1:=by
  have:0<=fj n 0 9999/\fj n 0 9999<=9999:=by unfold fj;split<;>(try split)<;>omega
  exact aW (by omega) (by omega)
 refine ak hm hc (by show 1<=7;decide) (aj (keep:=[]) (i:=0) ?_)
 try simp only[I,B,D,RX,↓KW,seval,rD,Z.H]
 rw[h1,h2]
theorem wj.ok(hc:bF P f=some rC):wj.Spec (Pure P) f:=by
 show(Pure P).c f _ _ none
 have hz:∀k,k<8->setCells (VH k) k [I 1]=VH (k+1):=by
  intro k hk
  have e:k=0\/k=1\/k=2\/k=3\/k=4\/k=5\/k=6\/k=7:=by omega
  rcases e with rfl|rfl|rfl|rfl|rfl|rfl|rfl|rfl<;>rfl
 have hl:∀k,(VH k).length=8:=fun k=>by simp[VH]
 have h0:VH 0=[I 0,I 0,I 0,I 0,I 0,I 0,I 0,I 0]:=rfl
 have h8:VH 8=uE:=rfl
 refine ak hm hc (by show 0<=10;decide) (aj (keep:=[]) (i:=0) ?_)
 try simp only[I,B,D,RY,↓KW,seval,rC,Z.H]
 refine aG (fun k:Nat=>(⟨[(3,.dat (I k) none),(1,.ptr 5 0),(0,.ptr 4 0)],[(5,⟨VH k,[]⟩),(4,⟨[I 0,I 0,I 0,I 0,I 0,I 0,I 0,I 0],[]⟩)],[],400⟩:S)) (fun k=>8-k) (fun k=>k<=8) ?_ 0 (by omega) ?_
 rotate_left
 ·refine ai (by decide) ?_ ?_ ?_ ?_<;>simp[LX,I,B,D,h0]
 intro k hk A back
 have hwr:=aB (k:=k) (by omega)
 try simp only[I,B,D,RY,↓KW,seval]
 rcases bf (decide ((k:Int)<8))with h|h
 ·have:k=8:=by have:=of_decide_eq_false h;omega
  subst this;rw[h8]
  have h9:ay uE 0 (some 8)=some (.agg uE):=rfl
  have h10:setCells [I 0,I 0,I 0,I 0,I 0,I 0,I 0,I 0] 0 uE=uE:=rfl
  have h11:uE.length=8:=rfl
  try simp only[I,B,D,RY,↓KW,seval,h,h9,h10,h11]
 ·have h8:k<8:=by have:=of_decide_eq_true h;omega
  have hb:0<=(k:Int)/\(k:Int)<8:=by omega
  have hzk:=hz k h8
  try simp only[I,B,D,RY,↓KW,seval,h,hb,hl]
  refine⟨by omega,?_⟩
  refine back (k+1) _ (by omega) (by omega) (ai (by decide) ?_ ?_ ?_ ?_)<;>simp[LX,I,B,D,hzk,hwr]
theorem uF.ok{fB:Nat} (hc:bF P f=some (pI fB)) (hB:AU.Spec (Pure P) fB):uF.Spec (Pure P) f:=by
 intro t ht
 have hl:=Tb.len ht
 have hp:=Tb.whole ht
 have b1:=bP.len (nX t)
 have b2:=bP.whole (nX t)
 refine ak hm hc (by show 1<=6;decide) (aj (keep:=[]) (i:=0) ?_)
 try simp only[I,B,D,RY,↓KW,seval,pI,Z.H,hl,hp]
 refine af (hB t ht.ln) ?_
 have e1:(.int .i64 1::(List.take 2 (List.drop 1 az)++(kY t).cells++List.drop 119 (List.drop 1 az)))=(y8 t).cells:=rfl
 have e2:(List.take 2 (List.drop 1 az)++(kY t).cells++List.drop 119 (List.drop 1 az)).length=137:=by simp[b1,az]
 have e3:=Bx.len (AZ t)
 have e4:=Bx.whole (AZ t)
 have e5:setCells az 0 (y8 t).cells=(y8 t).cells:=bk (by rw[e3];rfl)
 have e6:az.length=138:=rfl
 try simp only[I,B,D,RY,↓KW,seval,hl,hp,b1,b2,e1,e2,e3,e4,e5,e6]
 trace_state
theorem oB.ok{e:Nat} (hc:pZ true P f=some (bS e)):oB.Spec (Pure P) f:=by
 intro o b kind which hb
 refine w9 hm hc (by show 5<=17;decide) rfl (by simp) (aj (keep:=[]) (i:=0) ?_)
 try simp only[I,B,D,RX,aY,aZ,bh,↓KW,↓bg,seval,bS,Z.H]
theorem Cw.ok{e:Nat} (hc:pZ true P f=some (bS e)):Cw.Spec (Pure P) f:=by
 intro b kind which hb
 have h1:=(Bx.jP hb).2
 have h2:∀x,setCells [.aL] 0 [x]=[x]:=fun _=>rfl
 refine w9 hm hc (by show 5<=17;decide) rfl (by simp) (aj (keep:=[]) (i:=0) ?_)
 try simp only[I,B,D,RX,aY,aZ,bh,↓KW,↓bg,seval,bS,Z.H,h1,h2,uD]
end
def nk(t:Tb) (p:Nat):Int:=t.cB.getD p 0
def Cx(t:Tb) (p:Nat):Int:=if nk t p==1 then 33 else if nk t p==2 then 34 else 0
def fc(t:Tb) (k:Nat):List Int:=(List.range 8).map fun p=>if p<k then Cx t p else 0
def fe(t:Tb):List Int:=fc t 8
def nq.Spec(C:aS) (f:Nat):Prop:=∀t:Tb,t.Ok->C.c f [.agg t.cells] (.agg ((fe t).map I)) none
theorem Cy(t:Tb) {k:Nat} (hk:k<8):setCells ((fc t k).map I) k [I (Cx t k)]=(fc t (k+1)).map I:=by
 have e:k=0\/k=1\/k=2\/k=3\/k=4\/k=5\/k=6\/k=7:=by omega
 rcases e with rfl|rfl|rfl|rfl|rfl|rfl|rfl|rfl<;>simp[fc,setCells,List.range_succ]
theorem Cz(t:Tb) {k:Nat} (hk:k<8) (h:Cx t k=0):fc t (k+1)=fc t k:=by
 have e:k=0\/k=1\/k=2\/k=3\/k=4\/k=5\/k=6\/k=7:=by omega
 rcases e with rfl|rfl|rfl|rfl|rfl|rfl|rfl|rfl<;>simp[fc,List.range_succ,h]
def ZG(p:Nat):Ph:=⟨true,50,20,200,300,50,35,10,if p%2=1 then 70 else 0,if p%2=1 then 80 else 0,0,true,false⟩
def ZH:List AV:=[.bool true,.int .i64 50,.int .i64 20,.int .i64 200,.int .i64 300,.int .i64 50,.int .i64 35,.int .i64 10,.int .i64 0,.int .i64 0,.int .i64 0,.bool true,.bool false]
def KC(k:Nat):nL:=⟨k,4621819117588971520,4617315517961601024,0,4602678819172646912,6000,0⟩
def bH(k:Nat):List nL:=(List.range k).map KC
def KD(k:Nat):Int:=[206,205,59,55,236,220,179,115].getD k 0
def abp(k:Nat):Tb:={nD with phases:=(List.range 8).map (fun p=>if p<k then ZG p else default),conflict:=(List.range 8).map (fun p=>if p<k then KD p else 0),cB:=(List.range 8).map (fun p=>if p<k then 1 else 0),aM:=dH (bH k)}
def Rz(k:Nat):List AV:=(abp k).cells
def VI(k:Nat):List AV:=setCells (Rz k) (k*13) ZH
def smB(k:Nat):List AV:=setCells (VI k) (k*13+8) [I 70]
def Ox(k:Nat):List AV:=setCells (smB k) (k*13+9) [I 80]
def Pf(k:Nat):List AV:=setCells (if k%2=1 then Ox k else VI k) (121+k) [I 1]
def smD(k:Nat):List AV:=setCells (Pf k) 113 [.sl ((bH k++[KC k]).map nL.cells)]
theorem VJ(k:Nat) (hk:k<8):(Rz k).length=131/\(VI k).length=131/\(smB k).length=131/\(Ox k).length=131/\(Pf k).length=131/\(smD k).length=131:=by
 have e:k=0\/k=1\/k=2\/k=3\/k=4\/k=5\/k=6\/k=7:=by omega
 rcases e with rfl|rfl|rfl|rfl|rfl|rfl|rfl|rfl<;>exact⟨rfl,rfl,rfl,rfl,rfl,rfl⟩
theorem ZI(k:Nat) (hk:k<8):(Pf k)[113]? =some (aH nL.cells (dH (bH k))):=by
 have e:k=0\/k=1\/k=2\/k=3\/k=4\/k=5\/k=6\/k=7:=by omega
 rcases e with rfl|rfl|rfl|rfl|rfl|rfl|rfl|rfl<;>rfl
theorem RA(k:Nat) (hk:k<8):setCells (smD k) (105+k) [I (KD k)]=Rz (k+1):=by
 have e:k=0\/k=1\/k=2\/k=3\/k=4\/k=5\/k=6\/k=7:=by omega
 rcases e with rfl|rfl|rfl|rfl|rfl|rfl|rfl|rfl<;>rfl
theorem VK(k:Nat) (hk:k<8):ep .i64 (ep .i64 255 (IntKind.i64.wrap (3*2^min (IntKind.u64.wrap (GW .i64 (IntKind.i64.wrap (IntKind.i64.wrap ((k:Int).tdiv 2)*2)) 4)).toNat IntKind.i64.bits))) (IntKind.i64.wrap (1*2^min k IntKind.i64.bits))=KD k/\0<=IntKind.u64.wrap (GW .i64 (IntKind.i64.wrap (IntKind.i64.wrap ((k:Int).tdiv 2)*2)) 4):=by
 have e:k=0\/k=1\/k=2\/k=3\/k=4\/k=5\/k=6\/k=7:=by omega
 rcases e with rfl|rfl|rfl|rfl|rfl|rfl|rfl|rfl<;>decide+kernel
def smG:AV:=.sl [[.sl [[I 0],[I 1]],.sl [[I 4],[I 5]]],[.sl [[I 2],[I 3]],.sl [[I 6],[I 7]]]]
def abq:AV:=.sl [[I 204,I 136,I 34,I 68,I 5,I 20,I 30,I 100,I 100,I 3000,I 4000]]
def smU:AV:=.sl [[I 34,I 600]]
def nE:Tb :=
  { phases:=(List.range 8).map (fun p=>{ ZG p with kj:=if p=1∨p=5 then 1 else 0 }),groups:=some [⟨some [0,1],some [4,5]⟩,⟨some [2,3],some [6,7]⟩],conflict:=(List.range 8).map KD,aM:=some (bH 8),
    bQ:=some [⟨204,136,34,68,5,20,30,100,100,3000,4000⟩],jC:=some [⟨34,600⟩],extend:=100,gx:=200,start:=60,revert:=20,least:=100,cB:=(List.range 8).map (fun p=>if p=1∨p=5 then 2 else 1),mS:=8640000,share:=600 }
theorem A0:nE.Ok:=⟨rfl,rfl,rfl,by simp[nE],by simp[nE],by simp[nE,bH],by simp[nE],by simp[nE]⟩
def tE.Spec(C:aS) (f:Nat):Prop:=C.c f [] (.agg nE.cells) none
def tF(n:Nat):List AV:=([(23,I 1),(75,I 1),(122,I 2),(126,I 2),(104,smG),(114,abq),(115,smU),(116,I 100),(117,I 200),(118,I 60),(119,I 20),(120,I 100),(129,I 8640000),(130,I 600)]:List (Nat×AV)).take n|>.foldl (fun a x=>setCells a x.1 [x.2]) (Rz 8)
theorem gD(n:Nat) (hn:n<=14):(tF n).length=131:=by
 have e:n=0\/n=1\/n=2\/n=3\/n=4\/n=5\/n=6\/n=7\/n=8\/n=9\/n=10\/n=11\/n=12\/n=13\/n=14:=by omega
 rcases e with rfl|rfl|rfl|rfl|rfl|rfl|rfl|rfl|rfl|rfl|rfl|rfl|rfl|rfl|rfl<;>rfl
theorem RB:tF 14=nE.cells:=by rfl
section
variable{P:Program} (hm:P.follows .mixedOrders=true) {f:Nat}
include hm
theorem nq.ok(hc:bF P f=some rB):nq.Spec (Pure P) f:=by
 intro t ht
 have hl:=Tb.len ht
 have hfl:=SN ht.ln
 have h8:∀k,((fc t k).map I).length=8:=fun k=>by simp[fc]
 have hw:ay ((fc t 8).map I) 0 (some 8)=some (.agg ((fc t 8).map I)):=rfl
 have hz:setCells [I 0,I 0,I 0,I 0,I 0,I 0,I 0,I 0] 0 ((fc t 8).map I)=(fc t 8).map I:=rfl
 have h0:(fc t 0).map I=[I 0,I 0,I 0,I 0,I 0,I 0,I 0,I 0]:=rfl
 refine ak hm hc (by show 1<=23;decide) (aj (keep:=[]) (i:=0) ?_)
 try simp only[I,B,D,RY,↓KW,seval,rB,Z.H,hl,hfl,h8,hw,hz]
 refine aG (fun k:Nat=>(⟨[(8,.dat (I k) none),(7,.dat (.agg (t.cB.map I)) none),(3,.ptr 6 0),(2,.ptr 5 0)],[(6,⟨(fc t k).map I,[]⟩),(5,⟨[I 0,I 0,I 0,I 0,I 0,I 0,I 0,I 0],[]⟩)],[],400⟩:S)) (fun k=>8-k) (fun k=>k<=8) ?_ 0 (by omega) ?_
 rotate_left
 ·refine ai (by decide) ?_ ?_ ?_ ?_<;>simp[LX,I,B,D,h0]
 intro k hk A back
 have hwr:=aB (k:=k) (by omega)
 rcases bf (decide ((k:Int)<8))with h|h
 ·have:k=8:=by have:=of_decide_eq_false h;omega
  subst this;try simp only[I,B,D,RY,↓KW,seval,h,hl,hfl,h8,hw,hz]
  try rfl
 ·have h8k:k<8:=by have:=of_decide_eq_true h;omega
  have hb:0<=(k:Int)/\(k:Int)<8:=by omega
  have hk7:k<=7:=by omega
  have hat:(t.cB.map I)[k]? =some (I (nk t k)):=by
   have:=ht.cB
   rw[List.getElem?_map,List.getElem?_eq_getElem (by omega)]
   simp[nk,this,h8k]
  have hfl8:(t.cB.map I).length=8:=by simp[ht.cB]
  have hnx:=Cy t h8k
  have hkp:=Cz t h8k
  have hpa:Cx t k=if nk t k==1 then 33 else if nk t k==2 then 34 else 0:=rfl
  generalize nk t k=v at*;generalize Cx t k=w at*
  rcases bf (v==1)with e1|e1<;>rcases bf (v==2)with e2|e2
  all_goals
   simp only[e1,e2,if_true,if_false,Bool.false_eq_true]at hpa
   (subst hpa)
   try simp only[I,B,D,RY,↓KW,seval,h,hb,hk7,hat,hfl8,e1,e2,hl,hfl,h8,hw,hz]
   first
    |refine back (k+1) _ (by omega) (by omega) ?_
    |refine⟨by omega,back (k+1) _ (by omega) (by omega) ?_⟩
  ·have hkp:=hkp rfl
   refine ai (by decide) ?_ ?_ ?_ ?_<;>simp[LX,I,B,D,hkp,hwr]
  all_goals refine ai (by decide) ?_ ?_ ?_ ?_<;>simp[LX,I,B,D,hnx,hwr]
theorem tE.ok{e1 e2 e3 e4 e5:Nat} (hc:bF P f=some (lM e1 e2 e3 e4 e5)):tE.Spec (Pure P) f:=by
 show(Pure P).c f _ _ none
 have z0:dJ=Rz 0:=rfl
 have zl:dJ.length=131:=rfl
 have x8:(Rz 8).length=131:=rfl
 refine ak hm hc (by show 0<=78;decide) (aj (keep:=[]) (i:=0) ?_)
 try simp only[I,B,D,RY,↓KW,seval,lM,Z.H,zl]
 refine aG (fun k:Nat=>(⟨[(2,.dat (I k) none),(1,.ptr 5 0),(0,.ptr 4 0)],[(5,⟨Rz k,if k=0 then[]else[(113,0)]⟩),(4,⟨dJ,[]⟩)],bK (bH k) 0 e1,400⟩:S)) (fun k=>8-k) (fun k=>k<=8) ?_ 0 (by omega) ?_
 rotate_left
 ·refine ai (by decide) ?_ ?_ ?_ ?_<;>simp[LX,I,B,D,z0,bH]
 intro k hk A back
 have hwr:=aB (k:=k) (by omega)
 rcases bf (decide ((k:Int)<8))with h|h
 ·have:k=8:=by have:=of_decide_eq_false h;omega
  subst this
  have t00:Rz 8=tF 0:=rfl
  have t0:setCells (tF 0) 23 [I 1]=tF 1:=rfl
  have u0:=gD 0 (by omega)
  have t1:setCells (tF 1) 75 [I 1]=tF 2:=rfl
  have u1:=gD 1 (by omega)
  have t2:setCells (tF 2) 122 [I 2]=tF 3:=rfl
  have u2:=gD 2 (by omega)
  have t3:setCells (tF 3) 126 [I 2]=tF 4:=rfl
  have u3:=gD 3 (by omega)
  have t4:setCells (tF 4) 104 [.sl [[.sl [[I 0],[I 1]],.sl [[I 4],[I 5]]],[.sl [[I 2],[I 3]],.sl [[I 6],[I 7]]]]]=tF 5:=rfl
  have u4:=gD 4 (by omega)
  have t5:setCells (tF 5) 114 [.sl [[I 204,I 136,I 34,I 68,I 5,I 20,I 30,I 100,I 100,I 3000,I 4000]]]=tF 6:=rfl
  have u5:=gD 5 (by omega)
  have t6:setCells (tF 6) 115 [.sl [[I 34,I 600]]]=tF 7:=rfl
  have u6:=gD 6 (by omega)
  have t7:setCells (tF 7) 116 [I 100]=tF 8:=rfl
  have u7:=gD 7 (by omega)
  have t8:setCells (tF 8) 117 [I 200]=tF 9:=rfl
  have u8:=gD 8 (by omega)
  have t9:setCells (tF 9) 118 [I 60]=tF 10:=rfl
  have u9:=gD 9 (by omega)
  have t10:setCells (tF 10) 119 [I 20]=tF 11:=rfl
  have u10:=gD 10 (by omega)
  have t11:setCells (tF 11) 120 [I 100]=tF 12:=rfl
  have u11:=gD 11 (by omega)
  have t12:setCells (tF 12) 129 [I 8640000]=tF 13:=rfl
  have u12:=gD 12 (by omega)
  have t13:setCells (tF 13) 130 [I 600]=tF 14:=rfl
  have u13:=gD 13 (by omega)
  have u14:=gD 14 (by omega)
  have hw:ay (tF 14) 0 (some 131)=some (.agg (tF 14)):=rfl
  have hz:setCells dJ 0 (tF 14)=tF 14:=rfl
  rw[<-RB];try simp only[I,B,D,RY,↓KW,seval,h,zl,hw,hz,bz,t00,t0,u0,t1,u1,t2,u2,t3,u3,t4,u4,t5,u5,t6,u6,t7,u7,t8,u8,t9,u9,t10,u10,t11,u11,t12,u12,t13,u13,u14]
 ·have h8k:k<8:=by have:=of_decide_eq_true h;omega
  have hb:0<=(k:Int)/\(k:Int)<8:=by omega
  have hk7:k<=7:=by omega
  obtain⟨l0,l1,l2,l3,l4,l5⟩:=VJ k h8k
  have hat:=ZI k h8k
  have hcon:=VK k h8k
  have hnx:=RA k h8k
  have q1:setCells (Rz k) (k*13) [.bool true,.int .i64 50,.int .i64 20,.int .i64 200,.int .i64 300,.int .i64 50,.int .i64 35,.int .i64 10,.int .i64 0,.int .i64 0,.int .i64 0,.bool true,.bool false]=VI k:=rfl
  have q2:setCells (VI k) (k*13+8) [.int .i64 70]=smB k:=rfl
  have q3:setCells (smB k) (k*13+9) [.int .i64 80]=Ox k:=rfl
  have q4:k%2=1->setCells (Ox k) (121+k) [.int .i64 1]=Pf k:=fun h=>by unfold Pf;rw[if_pos h]
  have q5:¬k%2=1->setCells (VI k) (121+k) [.int .i64 1]=Pf k:=fun h=>by unfold Pf;rw[if_neg h]
  have q6:setCells (Pf k) 113 [.sl ((bH k).map nL.cells++[[.int .i64 k,.float .f64 4621819117588971520,.float .f64 4617315517961601024,.float .f64 0,.float .f64 4602678819172646912,.int .i64 6000,.int .i64 0]])]=smD k:=by unfold smD;rw[List.map_append];rfl
  have hem:bH k=[]↔k=0:=by simp[bH]
  have md:((k:Int).tmod 2==1)=decide (k%2=1):=by rw[show(k:Int).tmod 2=((k%2:Nat):Int)from rfl,Bool.eq_iff_iff];simp;omega
  have hk13:k*13<=118:=by omega
  have hatk:(Pf k)[113]? =some (if k=0 then .aL else .sl ((bH k).map nL.cells)):=by
   rw[hat]
   by_cases hk0:k=0
   ·rw[if_pos hk0,hem.2 hk0];rfl
   ·have:¬bH k=[]:=fun h=>hk0 (hem.1 h)
    rw[if_neg hk0,dH,if_neg this,bA]
  have hsl:(bH k).length=k:=by simp[bH]
  have hsn:bH (k+1)=bH k++[KC k]:=by simp[bH,List.range_succ]
  have hd7:∀j:nL,j.cells.length=7:=fun _=>rfl
  have hsd:(KC k).cells=[.int .i64 k,.float .f64 4621819117588971520,.float .f64 4617315517961601024,.float .f64 0,.float .f64 4602678819172646912,.int .i64 6000,.int .i64 0]:=rfl
  have huk:0<=IntKind.u64.wrap (k:Int)/\IntKind.u64.wrap (k:Int)=(k:Int):=by rw[wrap_u64 (by omega)];omega
  have e:k=0\/k=1\/k=2\/k=3\/k=4\/k=5\/k=6\/k=7:=by omega
  have hq:setCells (if k%2=1 then Ox k else VI k) (121+k) [.int .i64 1]=Pf k:=rfl
  have hol:bK (bH k) 0 e1=if k=0 then[]else[(0,e1)]:=by
   unfold bK;simp only[hem]
  have hd0:bH 0=[]:=rfl
  clear q4 q5 hat
  rcases e with rfl|rfl|rfl|rfl|rfl|rfl|rfl|rfl
  ·(try simp only[I,B,D,RY,↓KW,seval,if_true,if_false,hd0,List.map_nil,List.nil_append]at hq q1 q2 q3 q6 hnx hatk md hcon huk hol)
   try simp only[I,B,D,RY,↓KW,seval,h,hb,l0,l1,l2,l3,l4,l5,hatk,hcon,q1,q2,q3,hq,q6,md,cn,hsl,huk,hol,nL.len,List.filter_cons,List.filter_nil,decide_true,decide_false,Bool.true_or,Bool.or_true,Bool.false_or,if_true,if_false,Bool.false_eq_true]
   have w1:IntKind.i64.wrap 1=1:=rfl
   have n1:¬bH 1=[]:=by rw[bH];decide
   refine back 1 _ (by omega) (by omega) ?_
   refine ai (by decide) ?_ ?_ ?_ ?_<;>simp[LX,I,B,D,hnx,w1,n1,hd0]
  ·(try simp only[I,B,D,RY,↓KW,seval,if_true,if_false,hd0,List.map_nil,List.nil_append]at hq q1 q2 q3 q6 hnx hatk md hcon huk hol)
   try simp only[I,B,D,RY,↓KW,seval,h,hb,l0,l1,l2,l3,l4,l5,hatk,hcon,q1,q2,q3,hq,q6,md,cn,hsl,huk,hol,nL.len,List.filter_cons,List.filter_nil,decide_true,decide_false,Bool.true_or,Bool.or_true,Bool.false_or,if_true,if_false,Bool.false_eq_true]
   have w1:IntKind.i64.wrap 2=2:=rfl
   have n2:¬bH 2=[]:=by rw[bH];decide
   have n1:¬bH 1=[]:=by rw[bH];decide
   refine back 2 _ (by omega) (by omega) ?_
   refine ai (by decide) ?_ ?_ ?_ ?_<;>simp[LX,I,B,D,hnx,w1,n2,n1]
  ·(try simp only[I,B,D,RY,↓KW,seval,if_true,if_false,hd0,List.map_nil,List.nil_append]at hq q1 q2 q3 q6 hnx hatk md hcon huk hol)
   try simp only[I,B,D,RY,↓KW,seval,h,hb,l0,l1,l2,l3,l4,l5,hatk,hcon,q1,q2,q3,hq,q6,md,cn,hsl,huk,hol,nL.len,List.filter_cons,List.filter_nil,decide_true,decide_false,Bool.true_or,Bool.or_true,Bool.false_or,if_true,if_false,Bool.false_eq_true]
   have w1:IntKind.i64.wrap 3=3:=rfl
   have n3:¬bH 3=[]:=by rw[bH];decide
   have n2:¬bH 2=[]:=by rw[bH];decide
   refine back 3 _ (by omega) (by omega) ?_
   refine ai (by decide) ?_ ?_ ?_ ?_<;>simp[LX,I,B,D,hnx,w1,n3,n2]
  ·(try simp only[I,B,D,RY,↓KW,seval,if_true,if_false,hd0,List.map_nil,List.nil_append]at hq q1 q2 q3 q6 hnx hatk md hcon huk hol)
   try simp only[I,B,D,RY,↓KW,seval,h,hb,l0,l1,l2,l3,l4,l5,hatk,hcon,q1,q2,q3,hq,q6,md,cn,hsl,huk,hol,nL.len,List.filter_cons,List.filter_nil,decide_true,decide_false,Bool.true_or,Bool.or_true,Bool.false_or,if_true,if_false,Bool.false_eq_true]
   have w1:IntKind.i64.wrap 4=4:=rfl
   have n4:¬bH 4=[]:=by rw[bH];decide
   have n3:¬bH 3=[]:=by rw[bH];decide
   refine back 4 _ (by omega) (by omega) ?_
   refine ai (by decide) ?_ ?_ ?_ ?_<;>simp[LX,I,B,D,hnx,w1,n4,n3]
  ·(try simp only[I,B,D,RY,↓KW,seval,if_true,if_false,hd0,List.map_nil,List.nil_append]at hq q1 q2 q3 q6 hnx hatk md hcon huk hol)
   try simp only[I,B,D,RY,↓KW,seval,h,hb,l0,l1,l2,l3,l4,l5,hatk,hcon,q1,q2,q3,hq,q6,md,cn,hsl,huk,hol,nL.len,List.filter_cons,List.filter_nil,decide_true,decide_false,Bool.true_or,Bool.or_true,Bool.false_or,if_true,if_false,Bool.false_eq_true]
   have w1:IntKind.i64.wrap 5=5:=rfl
   have n5:¬bH 5=[]:=by rw[bH];decide
   have n4:¬bH 4=[]:=by rw[bH];decide
   refine back 5 _ (by omega) (by omega) ?_
   refine ai (by decide) ?_ ?_ ?_ ?_<;>simp[LX,I,B,D,hnx,w1,n5,n4]
  ·(try simp only[I,B,D,RY,↓KW,seval,if_true,if_false,hd0,List.map_nil,List.nil_append]at hq q1 q2 q3 q6 hnx hatk md hcon huk hol)
   try simp only[I,B,D,RY,↓KW,seval,h,hb,l0,l1,l2,l3,l4,l5,hatk,hcon,q1,q2,q3,hq,q6,md,cn,hsl,huk,hol,nL.len,List.filter_cons,List.filter_nil,decide_true,decide_false,Bool.true_or,Bool.or_true,Bool.false_or,if_true,if_false,Bool.false_eq_true]
   have w1:IntKind.i64.wrap 6=6:=rfl
   have n6:¬bH 6=[]:=by rw[bH];decide
   have n5:¬bH 5=[]:=by rw[bH];decide
   refine back 6 _ (by omega) (by omega) ?_
   refine ai (by decide) ?_ ?_ ?_ ?_<;>simp[LX,I,B,D,hnx,w1,n6,n5]
  ·(try simp only[I,B,D,RY,↓KW,seval,if_true,if_false,hd0,List.map_nil,List.nil_append]at hq q1 q2 q3 q6 hnx hatk md hcon huk hol)
   try simp only[I,B,D,RY,↓KW,seval,h,hb,l0,l1,l2,l3,l4,l5,hatk,hcon,q1,q2,q3,hq,q6,md,cn,hsl,huk,hol,nL.len,List.filter_cons,List.filter_nil,decide_true,decide_false,Bool.true_or,Bool.or_true,Bool.false_or,if_true,if_false,Bool.false_eq_true]
   have w1:IntKind.i64.wrap 7=7:=rfl
   have n7:¬bH 7=[]:=by rw[bH];decide
   have n6:¬bH 6=[]:=by rw[bH];decide
   refine back 7 _ (by omega) (by omega) ?_
   refine ai (by decide) ?_ ?_ ?_ ?_<;>simp[LX,I,B,D,hnx,w1,n7,n6]
  ·(try simp only[I,B,D,RY,↓KW,seval,if_true,if_false,hd0,List.map_nil,List.nil_append]at hq q1 q2 q3 q6 hnx hatk md hcon huk hol)
   try simp only[I,B,D,RY,↓KW,seval,h,hb,l0,l1,l2,l3,l4,l5,hatk,hcon,q1,q2,q3,hq,q6,md,cn,hsl,huk,hol,nL.len,List.filter_cons,List.filter_nil,decide_true,decide_false,Bool.true_or,Bool.or_true,Bool.false_or,if_true,if_false,Bool.false_eq_true]
   have w1:IntKind.i64.wrap 8=8:=rfl
   have n8:¬bH 8=[]:=by rw[bH];decide
   have n7:¬bH 7=[]:=by rw[bH];decide
   refine back 8 _ (by omega) (by omega) ?_
   refine ai (by decide) ?_ ?_ ?_ ?_<;>simp[LX,I,B,D,hnx,w1,n8,n7]
end
def stB(t:Tb) (b:Bx) (x:Fm):Bx:=
 if decide (fj b.time 0 9999+1>=t.start)then⟨2,0,b.fault,b.st,b.bt,x.lines,IntKind.i64.wrap (b.tick+1)⟩else⟨1,fj b.time 0 9999+1,b.fault,b.st,b.bt,x.lines,IntKind.i64.wrap (b.tick+1)⟩
def evB(t:Tb) (b:Bx):AV:=if decide (fj b.time 0 9999+1>=t.start)then .sl [uD (IntKind.i64.wrap (b.tick+1),1,2)]else .aL
def fm0:Fm:=⟨none,0,0,0,0,false⟩
def CA(i:Nat):Bx:=if i<60 then⟨1,i,0,kY nE,lN,0,i⟩else⟨2,0,0,kY nE,lN,0,60⟩
theorem F1(i:Nat):(CA i).Ok:=by unfold CA;split<;>exact⟨nX _,rfl,rfl⟩
theorem Oy{i:Nat} (h:i<60):stB nE (CA i) fm0=CA (i+1):=by
 have e1:fj (i:Int) 0 9999+1=(i:Int)+1:=by unfold fj;split<;>(try split)<;>omega
 have e2:IntKind.i64.wrap ((i:Int)+1)=(i:Int)+1:=aW (by omega) (by omega)
 have e3:CA i=⟨1,i,0,kY nE,lN,0,i⟩:=if_pos h
 rw[e3]
 show(if decide (fj (i:Int) 0 9999+1>=60)then(⟨2,0,0,kY nE,lN,0,IntKind.i64.wrap ((i:Int)+1)⟩:Bx)else⟨1,fj (i:Int) 0 9999+1,0,kY nE,lN,0,IntKind.i64.wrap ((i:Int)+1)⟩)=CA (i+1)
 rw[e1,e2];unfold CA
 by_cases h9:i+1<60
 ·have:decide ((i:Int)+1>=60)=false:=by simp;omega
  rw[if_pos h9,this];simp
 ·have:decide ((i:Int)+1>=60)=true:=by simp;omega
  have h60:i=59:=by omega
  rw[if_neg h9,this];subst h60;rfl
def xL.Spec(C:aS) (f:Nat):Prop:=C.c f [] (B true) none
def xM.Spec(C:aS) (f:Nat):Prop:=∀(t:Tb) (b:Bx) (x:Fm),t.Ok->b.Ok->b.mode=1->oc x=true->C.c f [.agg t.cells,.agg b.cells,.agg x.cells] (.cN [.agg (stB t b x).cells,.agg uE,evB t b]) none
theorem SQ{t:Tb} (h:t.Ok):t.cells[118]? =some (I t.start):=Tb.tail_at h 2 (by omega)
section
variable{P:Program} (hm:P.follows .mixedOrders=true) {f:Nat}
include hm
theorem xM.ok{fG fC fP fR fM fT f1:Nat} (hc:pZ true P f=some (aO fG fC fP fR fM fT f1)) (hG:ni.Spec (Pure P) fG) (hC:iV.Spec (Pure P) fC) (hP:nq.Spec (Pure P) fP) (hR:wj.Spec (Pure P) fR) (hM:qE.Spec (Pure P) fM)
  (h0:oB.Spec (Pure P) f1) (h1:Cw.Spec (Pure P) f1):xM.Spec (Pure P) f:=by
 intro t b x ht hb hmode hx;obtain⟨m,ti,fl,st,bt,ln,tk⟩:=b;simp only at hmode;subst hmode
 have hl:=Tb.len ht
 have hp:=Tb.whole ht
 have h118:=SQ ht
 have cG:=hG x
 rw[hx]at cG
 have cC:=hC x ln
 have hcx:uB x ln=x:=by unfold uB;rw[hx];rfl
 rw[hcx]at cC
 have cP:=hP t ht
 have cM:=hM ti
 have mA:∀m ti fl ln tk,(Bx.mk m ti fl st bt ln tk).Ok:=fun _ _ _ _ _=>⟨hb.st,hb.bt⟩
 have c1:∀m ti fl ln tk,(Bx.mk m ti fl st bt ln tk).cells.length=138:=fun _ _ _ _ _=>Bx.len (mA ..)
 have c2:∀m ti fl ln tk,ay (Bx.mk m ti fl st bt ln tk).cells 0 (some 138)=some (.agg (Bx.mk m ti fl st bt ln tk).cells):=fun _ _ _ _ _=>Bx.whole (mA ..)
 have c3:∀m ti fl ln tk,(Bx.mk m ti fl st bt ln tk).cells[0]? =some (I m):=fun _ _ _ _ _=>rfl
 have c4:∀m ti fl ln tk,(Bx.mk m ti fl st bt ln tk).cells[1]? =some (I ti):=fun _ _ _ _ _=>rfl
 have c5:∀m ti fl ln tk,(Bx.mk m ti fl st bt ln tk).cells[2]? =some (I fl):=fun _ _ _ _ _=>rfl
 have c6:∀m ti fl ln tk,(Bx.mk m ti fl st bt ln tk).cells[136]? =some (I ln):=fun m ti fl ln tk=>(Bx.jP (mA m ti fl ln tk)).1
 have c7:∀m ti fl ln tk,(Bx.mk m ti fl st bt ln tk).cells[137]? =some (I tk):=fun m ti fl ln tk=>(Bx.jP (mA m ti fl ln tk)).2
 have c8:∀m ti fl ln tk,(Bx.mk m ti fl st bt ln tk).cells[109]? =some (I st.pre.aq):=fun m ti fl ln tk=>Bx.HP (mA m ti fl ln tk)
 have c9:∀m ti fl ln tk,(Bx.mk m ti fl st bt ln tk).cells[99]? =some (I st.rings.group):=fun m ti fl ln tk=>Bx.HQ (mA m ti fl ln tk)
 have d0:∀m ti fl ln tk v,setCells (Bx.mk m ti fl st bt ln tk).cells 0 [I v]=(Bx.mk v ti fl st bt ln tk).cells:=fun _ _ _ _ _ _=>rfl
 have d1:∀m ti fl ln tk v,setCells (Bx.mk m ti fl st bt ln tk).cells 1 [I v]=(Bx.mk m v fl st bt ln tk).cells:=fun _ _ _ _ _ _=>rfl
 have d2:∀m ti fl ln tk v,setCells (Bx.mk m ti fl st bt ln tk).cells 136 [I v]=(Bx.mk m ti fl st bt v tk).cells:=fun m ti fl ln tk v=>(Bx.mY (mA m ti fl ln tk) v).1
 have d3:∀m ti fl ln tk v,setCells (Bx.mk m ti fl st bt ln tk).cells 137 [I v]=(Bx.mk m ti fl st bt ln v).cells:=fun m ti fl ln tk v=>(Bx.mY (mA m ti fl ln tk) v).2
 have d4:∀m ti fl ln tk,setCells az 0 (Bx.mk m ti fl st bt ln tk).cells=(Bx.mk m ti fl st bt ln tk).cells:=fun _ _ _ _ _=>bk (by rw[c1];rfl)
 have d5:az.length=138:=rfl
 have hf6:x.cells.length=6:=rfl
 have hfw:ay x.cells 0 (some 6)=some (.agg x.cells):=rfl
 have hf3:x.cells[3]? =some (I x.lines):=rfl
 have hfs:setCells x.cells 0 x.cells=x.cells:=rfl
 have p1:((fe t).map I).length=8:=by simp[fe,fc]
 have p2:setCells [.int .i64 0,.int .i64 0,.int .i64 0,.int .i64 0,.int .i64 0,.int .i64 0,.int .i64 0,.int .i64 0] 0 ((fe t).map I)=(fe t).map I:=bk (by rw[p1];rfl)
 have p3:setCells ((fe t).map I) 0 uE=uE:=rfl
 have p4:uE.length=8:=rfl
 have p5:ay uE 0 (some 8)=some (.agg uE):=rfl
 have p6:setCells [.int .i64 0,.int .i64 0,.int .i64 0,.int .i64 0,.int .i64 0,.int .i64 0,.int .i64 0,.int .i64 0] 0 uE=uE:=rfl
 have n1:([.aL]:List AV).length=1:=rfl
 have faA:=And.intro hl (And.intro hp (And.intro h118 (And.intro c1 (And.intro c2 (And.intro c3 (And.intro c4 (And.intro c5 (And.intro c6 (And.intro c7 (And.intro c8 (And.intro c9 (And.intro d0 (And.intro d1 (And.intro d2 (And.intro d3 (And.intro d4 (And.intro d5 (And.intro hf6 (And.intro hfw (And.intro hf3 (And.intro hfs (And.intro p1 (And.intro p2 (And.intro p3 (And.intro p4 (And.intro p5 (p6)))))))))))))))))))))))))))
 refine ak hm hc (by show 3<=145;decide) (aj (keep:=[]) (i:=0) ?_)
 try simp only[I,B,D,RY,aY,aZ,bh,↓KW,↓bg,seval,aO,Z.H,faA]
 first|refine af cG ?_|refine aC cG ?_
 try simp only[I,B,D,RY,aY,aZ,bh,↓KW,↓bg,seval,faA]
 first|refine af cC ?_|refine aC cC ?_
 try simp only[I,B,D,RY,aY,aZ,bh,↓KW,↓bg,seval,faA]
 first|refine af cP ?_|refine aC cP ?_
 try simp only[I,B,D,RY,aY,aZ,bh,↓KW,↓bg,seval,faA]
 first|refine af hR ?_|refine aC hR ?_
 try simp only[I,B,D,RY,aY,aZ,bh,↓KW,↓bg,seval,faA]
 first|refine af cM ?_|refine aC cM ?_
 try simp only[I,B,D,RY,aY,aZ,bh,↓KW,↓bg,seval,faA]
 have hst:stB t ⟨1,ti,fl,st,bt,ln,tk⟩ x=if decide (t.start<=fj ti 0 9999+1)then⟨2,0,fl,st,bt,x.lines,IntKind.i64.wrap (tk+1)⟩else⟨1,fj ti 0 9999+1,fl,st,bt,x.lines,IntKind.i64.wrap (tk+1)⟩:=rfl
 have hev:evB t ⟨1,ti,fl,st,bt,ln,tk⟩=if decide (t.start<=fj ti 0 9999+1)then .sl [uD (IntKind.i64.wrap (tk+1),1,2)]else .aL:=rfl
 rw[hst,hev];generalize fj ti 0 9999+1=v at*
 rcases bf (decide (t.start<=v))with h|h
 ·simp only[h,if_false,Bool.false_eq_true]
  try simp only[I,B,D,RY,aY,aZ,bh,↓KW,↓bg,seval,h,faA]
  refine⟨rfl,aK (h0 .aL ⟨1,v,fl,st,bt,x.lines,IntKind.i64.wrap (tk+1)⟩ 5 0 (mA ..)) ?_⟩;try simp only[I,B,D,RY,aY,aZ,bh,↓KW,↓bg,seval,faA]
  refine⟨rfl,aK (h0 .aL ⟨1,v,fl,st,bt,x.lines,IntKind.i64.wrap (tk+1)⟩ 2 fl (mA ..)) ?_⟩;try simp only[I,B,D,RY,aY,aZ,bh,↓KW,↓bg,seval,faA]
  refine⟨rfl,aK (h0 .aL ⟨1,v,fl,st,bt,x.lines,IntKind.i64.wrap (tk+1)⟩ 1 1 (mA ..)) ?_⟩;try simp only[I,B,D,RY,aY,aZ,bh,↓KW,↓bg,seval,faA]
  refine⟨rfl,aK (h0 .aL ⟨1,v,fl,st,bt,x.lines,IntKind.i64.wrap (tk+1)⟩ 3 st.pre.aq (mA ..)) ?_⟩;try simp only[I,B,D,RY,aY,aZ,bh,↓KW,↓bg,seval,faA]
  refine⟨rfl,aK (h0 .aL ⟨1,v,fl,st,bt,x.lines,IntKind.i64.wrap (tk+1)⟩ 4 st.rings.group (mA ..)) ?_⟩;try simp only[I,B,D,RY,aY,aZ,bh,↓KW,↓bg,seval,faA]
  refine dG rfl ?_;try simp only[I,B,D,RY,aY,aZ,bh,↓KW,↓bg,seval,uD,faA]
 ·simp only[h,if_true]
  try simp only[I,B,D,RY,aY,aZ,bh,↓KW,↓bg,seval,h,faA]
  refine⟨rfl,aK (h0 .aL ⟨2,0,fl,st,bt,x.lines,IntKind.i64.wrap (tk+1)⟩ 5 0 (mA ..)) ?_⟩;try simp only[I,B,D,RY,aY,aZ,bh,↓KW,↓bg,seval,faA]
  refine⟨rfl,aK (h0 .aL ⟨2,0,fl,st,bt,x.lines,IntKind.i64.wrap (tk+1)⟩ 2 fl (mA ..)) ?_⟩;try simp only[I,B,D,RY,aY,aZ,bh,↓KW,↓bg,seval,faA]
  refine⟨rfl,aK (h1 ⟨2,0,fl,st,bt,x.lines,IntKind.i64.wrap (tk+1)⟩ 1 2 (mA ..)) ?_⟩;try simp only[I,B,D,RY,aY,aZ,bh,↓KW,↓bg,seval,faA]
  refine⟨rfl,aK (h0 (.sl [uD (IntKind.i64.wrap (tk+1),1,2)]) ⟨2,0,fl,st,bt,x.lines,IntKind.i64.wrap (tk+1)⟩ 3 st.pre.aq (mA ..)) ?_⟩;try simp only[I,B,D,RY,aY,aZ,bh,↓KW,↓bg,seval,faA]
  refine⟨rfl,aK (h0 (.sl [uD (IntKind.i64.wrap (tk+1),1,2)]) ⟨2,0,fl,st,bt,x.lines,IntKind.i64.wrap (tk+1)⟩ 4 st.rings.group (mA ..)) ?_⟩;try simp only[I,B,D,RY,aY,aZ,bh,↓KW,↓bg,seval,faA]
  refine dG rfl ?_;try simp only[I,B,D,RY,aY,aZ,bh,↓KW,↓bg,seval,uD,faA]
theorem xL.ok{fS fB fT:Nat} (hc:bF P f=some (tD fS fB fT)) (hS:tE.Spec (Pure P) fS) (hB:uF.Spec (Pure P) fB) (hT:xM.Spec (Pure P) fT):xL.Spec (Pure P) f:=by
 show(Pure P).c f _ _ none
 have hl:=Tb.len A0
 have hp:=Tb.whole A0
 have z1:dJ.length=131:=rfl
 have z2:setCells dJ 0 nE.cells=nE.cells:=bk (by rw[hl];rfl)
 have z3:az.length=138:=rfl
 have b1:∀i,(CA i).cells.length=138:=fun i=>Bx.len (F1 i)
 have b2:∀i,ay (CA i).cells 0 (some 138)=some (.agg (CA i).cells):=fun i=>Bx.whole (F1 i)
 have b3:∀i,setCells az 0 (CA i).cells=(CA i).cells:=fun i=>bk (by rw[b1];rfl)
 have b4:∀i j,setCells (CA i).cells 0 (CA j).cells=(CA j).cells:=fun i j=>bk (by rw[b1,b1])
 have b5:(y8 nE)=CA 0:=rfl
 have r1:uE.length=8:=rfl
 have r2:setCells [.int .i64 0,.int .i64 0,.int .i64 0,.int .i64 0,.int .i64 0,.int .i64 0,.int .i64 0,.int .i64 0] 0 uE=uE:=rfl
 have r3:uE[3]? =some (I 1):=rfl
 have hB':=hB nE A0
 rw[b5]at hB';clear hB b5
 have faA:=And.intro hl (And.intro hp (And.intro z1 (And.intro z2 (And.intro z3 (And.intro b1 (And.intro b2 (And.intro b3 (And.intro b4 (And.intro r1 (And.intro r2 (r3)))))))))))
 refine ak hm hc (by show 0<=37;decide) (aj (keep:=[]) (i:=0) ?_)
 try simp only[I,B,D,RY,↓KW,seval,tD,Z.H,faA]
 refine af hS ?_;try simp only[I,B,D,RY,↓KW,seval,faA]
 refine af hB' ?_;try simp only[I,B,D,RY,↓KW,seval,faA]
 refine aG (fun i:Nat=>(⟨[(3,.dat (I i) none),(2,.ptr 10 0),(1,.ptr 6 0)],[(10,⟨(CA i).cells,[]⟩),(6,⟨nE.cells,[]⟩)],[],400⟩:S)) (fun i=>60-i) (fun i=>i<=60) ?_ 0 (by omega) ?_
 rotate_left
 ·refine ai (by decide) ?_ ?_ ?_ ?_<;>simp[LX,I,B,D]
 intro i hi A back
 have hwr:=aB (k:=i) (by omega)
 rcases bf (decide ((i:Int)<60))with h|h
 ·have:i=60:=by have:=of_decide_eq_false h;omega
  subst this
  have e1:(CA 60).cells[0]? =some (I 2):=rfl
  have e2:(CA 60).cells[137]? =some (I 60):=(Bx.jP (F1 60)).2
  try simp only[I,B,D,RY,↓KW,seval,h,e1,e2,faA]
 ·have h6:i<60:=by have:=of_decide_eq_true h;omega
  have e0:CA i=⟨1,i,0,kY nE,lN,0,i⟩:=if_pos h6
  have e1:(CA i).cells[0]? =some (I 1):=by rw[e0];rfl
  have cT:=hT nE (CA i) fm0 A0 (F1 i) (by rw[e0]) rfl
  rw[Oy h6]at cT
  have hfc:fm0.cells=[.aL,.int .i64 0,.int .i64 0,.int .i64 0,.int .i64 0,.bool false]:=rfl
  rw[hfc]at cT;generalize evB nE (CA i)=ev at*;try simp only[I,B,D,RY,↓KW,seval,h,e1,faA]
  refine af cT ?_;try simp only[I,B,D,RY,↓KW,seval,e1,faA]
  refine back (i+1) _ (by omega) (by omega) ?_
  refine ai (by decide) ?_ ?_ ?_ ?_<;>simp[LX,I,B,D,hwr]
end
structure Ac where
 start:Int
 fin:Int
 cut:Int
 free:Bool
 back:Bool
 deriving Inhabited,DecidableEq
def Ac.cells(a:Ac):List AV:=[I a.start,I a.fin,I a.cut,B a.free,B a.back]
theorem Ac.flat(a:Ac):je (.agg a.cells)=true:=rfl
theorem Rl.flat(r:Rl):je (.agg r.cells)=true:=rfl
theorem Pr.flat{s:Pr} (h:s.held.length=4):je (.agg s.cells)=true:=by rw[Pr.cells,jc h];rfl
def bp(l:List Rn) (k:Nat):Rn:=l.getD k default
def y9(s:Pr) (l:List Rn):List AV:=s.cells++cz l
def cI(t:Tb) (s:Pr) (l:List Rn):List AV:=t.cells++y9 s l
structure lq (t:Tb) (s:Pr) (l:List Rn):Prop where
 t:t.Ok
 s:s.held.length=4
 l:l.length=8
section
variable{t:Tb} {s:Pr} {l:List Rn} (h:lq t s l)
include h
theorem F2:(cI t s l).length=235:=by simp[cI,y9,Tb.len h.t,Pr.len h.s,dF h.l]
theorem pM:(cI t s l).drop 131=y9 s l:=by
 rw[cI,List.drop_left' (Tb.len h.t)]
theorem Oz:(cI t s l).drop 139=cz l:=by
 have:(cI t s l).drop 139=((cI t s l).drop 131).drop 8:=by rw[List.drop_drop]
 rw[this,pM h,y9,List.drop_left' (Pr.len h.s)]
theorem KE:ay (cI t s l) 0 (some 131)=some (.agg t.cells):=eu (pre:=[]) rfl (Tb.len h.t)
theorem Jm{j:Nat} (hj:j<131):(cI t s l)[j]? =t.cells[j]?:=by rw[cI,List.getElem?_append_left (by rw[Tb.len h.t];exact hj)]
theorem KG:(y9 s l)[0]? =some (I s.aq)/\((y9 s l).drop 1)[0]? =some (I s.which)/\((y9 s l).drop 2)[0]? =some (I s.time)/\((y9 s l).drop 7)[0]? =some (I s.ee):=by
 rw[y9,Pr.cells,jc h.s];exact⟨rfl,rfl,rfl,rfl⟩
theorem ZJ{k:Nat} (hk:k<4):(((y9 s l).drop 3).drop k)[0]? =some (I (ez s k)):=by
 have e:k=0\/k=1\/k=2\/k=3:=by omega
 rw[y9,Pr.cells,jc h.s]
 rcases e with rfl|rfl|rfl|rfl<;>rfl
theorem RC{k:Nat} (hk:k<8):ay ((cz l).drop (k*12)) 0 (some 12)=some (.agg (bp l k).cells):=by
 have hr:=i6 h.l hk
 have hl:=dF h.l
 simp only[ay]at hr⊢
 rw[if_pos (by omega)]at hr
 rw[if_pos (by simp;omega),List.drop_zero]
 exact hr
theorem KH:((cI t s l).drop 119)[0]? =some (I t.revert):=by
 rw[List.getElem?_drop,Jm h (by omega)]
 exact Tb.tail_at h.t 3 (by omega)
theorem RD{p:Nat} (hp:p<8):(((cI t s l).drop 105).drop p)[0]? =some (I (gI t p)):=by
 rw[List.drop_drop,List.getElem?_drop,Jm h (by omega)]
 exact h.t.ln.Jg hp
theorem RE{p:Nat} (hp:p<8):(((cI t s l).drop (p*13)).drop 1)[0]? =some (I (aX t p).min):=by
 rw[List.drop_drop,List.getElem?_drop,Jm h (by omega)]
 exact(Tb.yS (sR h.t hp)).2.1
end
def cJ(t:Tb) (s:Pr):Rl:=if 0<=s.which/\s.which<(nR t:Int)then Ku t s.which.toNat else default
def tgt(r:Rl):Int:=if r.clear=0 then r.iB else r.clear
def iu(r:Rn):Bool:=r.aQ !=1&&(r.aQ !=2&&r.aQ !=3)
def ga(r:Rn):Bool:=r.aQ==1
def zb(r:Rn):Bool:=r.fst==1
def zY(least state time:Int):Bool:=state !=1&&(state !=2||decide (time>=least))
def pN(l:List Rn) (s:Int):Bool:=HI s fun p=>iu (bp l p)
def HR(l:List Rn) (s:Int):Bool:=HI s fun p=>ga (bp l p)
def CB(s:Int) (f:Nat->Bool):Int:=Kw fun p=>tb s p&&f p
def nr(t:Tb) (l:List Rn) (p:Nat):Bool:=iu (bp l p)&&decide ((bp l p).time>=t.revert)&&pN l (gI t p)
def Jn(t:Tb) (l:List Rn) (s:Int):Int:=CB s (nr t l)
def RF(t:Tb) (s:Pr) (least:Int) (r:Rn):Bool:=ga r&&decide (r.time>=least)&&zY (cJ t s).gV r.fst r.dR
def KI(t:Tb) (s:Pr) (l:List Rn) (but least:Int):Ac:=⟨0,CB (ep .i64 255 but) fun p=>RF t s least (bp l p),CB (ep .i64 255 but) fun p=>zb (bp l p),false,false⟩
def lO(t:Tb) (s:Pr) (l:List Rn):Ac:=KI t s l (tgt (cJ t s)) (cJ t s).green
def uG(t:Tb) (s:Pr) (l:List Rn):Int:=if pN l (ep .i64 255 (tgt (cJ t s)))then(if(cJ t s).clear=0 then 4 else 2)else 1
def qF(t:Tb) (s:Pr):Int:=if s.time>=(cJ t s).hold then 3 else 2
def OA(t:Tb) (s:Pr) (l:List Rn):Ac:=⟨Jn t l (cJ t s).clear,0,0,false,false⟩
def pO(t:Tb) (s:Pr) (l:List Rn):Int:=if pN l (ep .i64 255 (cJ t s).iB)then 4 else 3
def RG(t:Tb) (s:Pr) (r:Rn):Bool:=ga r&&zY (cJ t s).gV r.fst r.dR
def HS(t:Tb) (s:Pr) (l:List Rn):Ac:={KI t s l (cJ t s).iB 0 with fin:=CB (ep .i64 255 (cJ t s).iB) fun p=>RG t s (bp l p)}
def zZ(s:Pr):Bool:=decide (s.which>=0)&&decide (s.which<4)&&decide (ez s s.which.toNat>0)
def EF(t:Tb) (s:Pr):Bool:=decide ((cJ t s).most>0)&&decide (s.time>=(cJ t s).most)
def iF(t:Tb) (s:Pr):Pr:=if EF t s&&zZ s then{s with ee:=yE .i64 s.ee (IntKind.i64.wrap (2^s.which.toNat))}else s
def jQ(t:Tb) (s:Pr):Int×Pr:=
 if !EF t s&&(zZ s||decide (s.time<(cJ t s).stay))then(4,s)
 else if aN t (iF t s)>=0 then(1,{iF t s with which:=aN t (iF t s)})else(5,iF t s)
def OB(t:Tb) (s:Pr) (l:List Rn):Ac:=⟨Jn t l (cJ t s).iB,0,0,false,false⟩
def wk(t:Tb) (r:Rn):Bool:=ga r||iu r&&decide (r.time>=t.revert)
def uH(t:Tb) (s:Pr) (l:List Rn):Int:=if pN l (ep .i64 255 (cJ t s).exit)&&HI (cJ t s).exit (fun p=>wk t (bp l p))then 0 else 5
def lvP(t:Tb) (p:Nat) (r:Rn):Bool:=ga r&&decide (r.time>=(aX t p).min)&& !(r.fst==1||r.fst==2)
def OC(t:Tb) (s:Pr) (l:List Rn):Ac:=⟨0,CB (ep .i64 255 (cJ t s).exit) fun p=>lvP t p (bp l p),0,false,false⟩
def z9(t:Tb) (s:Pr) (l:List Rn):Ac:=⟨CB (cJ t s).exit fun p=>iu (bp l p),0,0,false,true⟩
def nu(t:Tb) (s:Pr) (l:List Rn) (turned:Bool):Int:=
 if turned||s.aq==0 then 0
 else if(s.aq==2&& !HR l (cJ t s).clear)||(s.aq==4&& !HR l (cJ t s).iB)then s.time
 else cV s.time
def j8.Spec(C:aS) (f:Nat):Prop:=∀(t:Tb) (s:Pr) (l:List Rn),lq t s l->C.c f [.ref (cI t s l)] (.agg (cJ t s).cells) none
def L6.Spec(C:aS) (f:Nat):Prop:=∀(t:Tb) (s:Pr) (l:List Rn),lq t s l->C.c f [.ref (cI t s l)] (I (tgt (cJ t s))) none
def lP.Spec(C:aS) (f:Nat):Prop:=∀(t:Tb) (s:Pr) (l:List Rn) (x:Int) (g:Nat) (fs cs:List AV) (is:Nat->Bool),lq t s l->(∀p:Nat,p<8->C.c g (fs++[I p,.agg (bp l p).cells]++cs) (B (is p)) none)->C.c f [.ref (cI t s l),I x,.fn (.func g) fs cs] (I (CB x is)) none
def Jo.Spec(C:aS) (f:Nat):Prop:=∀r:Rn,C.c f [.agg r.cells] (B (iu r)) none
def zc.Spec(C:aS) (f:Nat):Prop:=∀(p:Int) (r:Rn),C.c f [I p,.agg r.cells] (B (iu r)) none
def tG.Spec(C:aS) (f:Nat):Prop:=∀(p:Int) (r:Rn),C.c f [I p,.agg r.cells] (B (ga r)) none
def xN.Spec(C:aS) (f:Nat):Prop:=∀(p:Int) (r:Rn),C.c f [I p,.agg r.cells] (B (zb r)) none
def Aa.Spec(C:aS) (f:Nat):Prop:=∀(t:Tb) (s:Pr) (l:List Rn) (x:Int),lq t s l->C.c f [.ref (cI t s l),I x] (B (pN l x)) none
def xO.Spec(C:aS) (f:Nat):Prop:=∀(t:Tb) (s:Pr) (l:List Rn) (x:Int),lq t s l->C.c f [.ref (cI t s l),I x] (B (HR l x)) none
def EG.Spec(C:aS) (f:Nat):Prop:=∀(t:Tb) (s:Pr) (l:List Rn) (a b:Int),lq t s l->C.c f [.ref (cI t s l),.agg [I a,I b]] (B (zY (cJ t s).gV a b)) none
def xP.Spec(C:aS) (f:Nat):Prop:=∀(t:Tb) (s:Pr) (l:List Rn) (p:Nat),lq t s l->p<8->C.c f [I p,.agg (bp l p).cells,.ref [.ref (cI t s l)]] (B (nr t l p)) none
def uI.Spec(C:aS) (f:Nat):Prop:=∀(t:Tb) (s:Pr) (l:List Rn) (x:Int),lq t s l->C.c f [.ref (cI t s l),I x] (I (Jn t l x)) none
def CC.Spec(C:aS) (f:Nat):Prop:=∀(t:Tb) (s:Pr) (l:List Rn) (p:Nat) (least:Int),lq t s l->p<8->C.c f [I p,.agg (bp l p).cells,.ref [I least],.ref [.ref (cI t s l)]] (B (RF t s least (bp l p))) none
def EH.Spec(C:aS) (f:Nat):Prop:=∀(t:Tb) (s:Pr) (l:List Rn) (but least:Int),lq t s l->C.c f [.ref (cI t s l),I but,I least] (.agg (KI t s l but least).cells) none
def WI(F:Tb->Pr->List Rn->Int) (C:aS) (f:Nat):Prop:=∀(t:Tb) (s:Pr) (l:List Rn),lq t s l->C.c f [.ref (cI t s l)] (I (F t s l)) none
def WA(F:Tb->Pr->List Rn->Ac) (C:aS) (f:Nat):Prop:=∀(t:Tb) (s:Pr) (l:List Rn),lq t s l->C.c f [.ref (cI t s l)] (.agg (F t s l).cells) none
def HT.Spec(C:aS) (f:Nat):Prop:=WI (fun _ _ _=>0) C f
def HU.Spec(C:aS) (f:Nat):Prop:=WA (fun _ _ _=>⟨0,0,0,true,false⟩) C f
def xQ.Spec(C:aS) (f:Nat):Prop:=WI uG C f
def zf.Spec(C:aS) (f:Nat):Prop:=WA lO C f
def xR.Spec(C:aS) (f:Nat):Prop:=WI (fun t s _=>qF t s) C f
def CD.Spec(C:aS) (f:Nat):Prop:=WA OA C f
def pP.Spec(C:aS) (f:Nat):Prop:=WI pO C f
def HV.Spec(C:aS) (f:Nat):Prop:=∀(t:Tb) (s:Pr) (l:List Rn) (p:Nat),lq t s l->p<8->C.c f [I p,.agg (bp l p).cells,.ref [.ref (cI t s l)]] (B (RG t s (bp l p))) none
def tH.Spec(C:aS) (f:Nat):Prop:=WA HS C f
def xS.Spec(C:aS) (f:Nat):Prop:=∀(t:Tb) (s:Pr) (l:List Rn),lq t s l->C.p f [cI t s l] [none] (I (jQ t s).1) none [cI t (jQ t s).2 l]
def CE.Spec(C:aS) (f:Nat):Prop:=WA OB C f
def tI.Spec(C:aS) (f:Nat):Prop:=∀(t:Tb) (s:Pr) (l:List Rn) (p:Nat),lq t s l->p<8->C.c f [I p,.agg (bp l p).cells,.ref [.ref (cI t s l)]] (B (wk t (bp l p))) none
def xT.Spec(C:aS) (f:Nat):Prop:=WI uH C f
def xU.Spec(C:aS) (f:Nat):Prop:=∀(t:Tb) (s:Pr) (l:List Rn) (p:Nat),lq t s l->p<8->C.c f [I p,.agg (bp l p).cells,.ref [.ref (cI t s l)]] (B (lvP t p (bp l p))) none
def CF.Spec(C:aS) (f:Nat):Prop:=WA OC C f
def HW.Spec(C:aS) (f:Nat):Prop:=WA z9 C f
def HX.Spec(C:aS) (f:Nat):Prop:=∀(t:Tb) (s:Pr) (l:List Rn) (turned:Bool),lq t s l->C.c f [.ref (cI t s l),B turned] (I (nu t s l turned)) none
section
variable{P:Program} (hm:P.follows .mixedOrders=true) {f:Nat}
include hm
theorem j8.ok{fR:Nat} (hc:bF P f=some (l9 fR)) (hR:tC.Spec (Pure P) fR):j8.Spec (Pure P) f:=by
 intro t s l h
 have ht:=KE h
 have hd:=pM h
 have hp:=KG h
 have hn:=AY t
 refine ak hm hc (by show 1<=34;decide) (aj (keep:=[]) (i:=0) ?_)
 try simp only[RY,↓KW,seval,l9,Z.H,ht]
 refine af (hR t h.t) ?_;try simp only[I,RY,↓KW,seval,hd,hp]
 by_cases h0:0<=s.which/\s.which<(nR t:Int)
 ·have hx:cJ t s=Ku t s.which.toNat:=if_pos h0
  have h1:decide (s.which>=0)=true:=by simpa using h0.1
  have h2:decide (s.which<(nR t:Int))=true:=by simpa using h0.2
  have hg:=FU t (k:=s.which.toNat) (by omega)
  rw[<-hx]at hg;generalize cJ t s=r at*
  have hq:ay r.cells 0 (some 11)=some (.agg r.cells):=rfl
  have hz:setCells bz 0 r.cells=r.cells:=rfl
  have hzl:bz.length=11:=rfl
  try simp only[I,RY,↓KW,seval,hd,hp,hn,h1,h2]
  refine⟨⟨h0.1,h0.2⟩,?_⟩;try simp only[RY,↓KW,seval,hd,hg,hq,hz,hzl,Rl.len]
 ·have hx:cJ t s=default:=if_neg h0
  have hz:setCells bz 0 bz=bz:=rfl
  have hzl:bz.length=11:=rfl
  have hzp:ay bz 0 (some 11)=some (.agg bz):=rfl
  rw[hx];cases h1:decide (0<=s.which)
  ·try simp only[RY,↓KW,seval,hz,hzl,hzp]
   rfl
  ·have h2:decide (s.which<(nR t:Int))=false:=by have:=of_decide_eq_true h1;simp;omega
   try simp only[I,RY,↓KW,seval,hd,hp,hn,h2,hz,hzl,hzp]
   rfl
theorem Jo.ok(hc:bF P f=some tA):Jo.Spec (Pure P) f:=by
 intro r
 refine ak hm hc (by show 1<=16;decide) (aj (keep:=[]) (i:=0) ?_)
 try simp only[I,B,RX,↓KW,seval,tA,Z.H,Rn.cells]
 repeat' (((first|refine aV ?_ ?_|refine ax ?_ ?_|refine bC ?_ ?_)<;>intro h)<;>try simp only[RX,↓KW,seval,h])
 all_goals(try simp only[iu])
 all_goals(cases e1:(r.aQ !=1)<;>cases e2:(r.aQ !=2)<;>simp_all [])
theorem zc.ok{fR:Nat} (hc:bF P f=some (pG fR)) (hR:Jo.Spec (Pure P) fR):zc.Spec (Pure P) f:=by
 intro p r
 have hq:ay r.cells 0 (some 12)=some (.agg r.cells):=rfl
 refine ak hm hc (by show 2<=7;decide) (aj (keep:=[]) (i:=0) ?_)
 try simp only[I,B,RX,↓KW,seval,pG,Z.H,hq]
 refine af (hR r) ?_;try simp only[B,RX,↓KW,seval]
theorem tG.ok(hc:bF P f=some ng):tG.Spec (Pure P) f:=by
 intro p r
 refine ak hm hc (by show 2<=8;decide) (aj (keep:=[]) (i:=0) ?_)
 try simp only[I,B,RX,↓KW,seval,ng,Z.H,Rn.cells]
 rfl
theorem xN.ok(hc:bF P f=some nZ):xN.Spec (Pure P) f:=by
 intro p r
 refine ak hm hc (by show 2<=9;decide) (aj (keep:=[]) (i:=0) ?_)
 try simp only[I,B,RX,↓KW,seval,nZ,Z.H,Rn.cells]
 rfl
theorem lP.ok{fE fW:Nat} (hc:bF P f=some (lp fE fW)) (hE:tf.Spec (Pure P) fE) (hW:gO.Spec (Pure P) fW):lP.Spec (Pure P) f:=by
 intro t s l x g fs cs is h hg
 have hd:=Oz h
 refine ak hm hc (by show 3<=25;decide) (aj (keep:=[]) (i:=0) ?_)
 try simp only[I,RY,↓KW,seval,lp,Z.H]
 obtain⟨k,hk,hi⟩:=hE x;refine af hk ?_;try simp only[I,RY,seval]
 refine ia (fun m:Int=>(⟨[(10,.dat (.fn (.func k) [] [.ref [.int .i64 x]]) none),(7,.ptr 7 0),(5,.ptr 5 0),(3,.ptr 4 0)],[(7,⟨[I m],[]⟩),(5,⟨[.fn (.func g) fs cs],[]⟩),(4,⟨[.ref (cI t s l)],[]⟩)],[],400⟩:S)) (fun i m=>m=EA is ((fJ x).take i)) hi rfl (gZ fun _=>rfl) (fun _=>rfl) ?_ ?_ 0 rfl ?_
 ·rintro i y m hx' hmm A back
  obtain⟨q,hq,rfl⟩:=m7 hx'
  have hq:(fJ x)[i]? =some q:=hq
  have h8:=xF (List.mem_of_getElem? hq)
  have hy:0<=(q:Int)/\(q:Int)<8:=by omega
  have hr:=RC h h8
  have hn2:EA is ((fJ x).take (i+1))=if is q then d9 (EA is ((fJ x).take i)) q else EA is ((fJ x).take i):=by
   rw[List.take_add_one,hq];simp only[EA,List.foldl_append,Option.toList_some,List.foldl_cons,List.foldl_nil]
  try simp only[I,RY,↓KW,seval,hy,hd,hr]
  refine af (hg q h8) ?_;cases hiq:is q
  ·try simp only[B,RY,↓KW,seval]
   refine back m _ (by rw[hn2,hiq,hmm];rfl) ?_
   refine ai (by decide) ?_ ?_ ?_ ?_<;>simp[LX,I]
  ·try simp only[B,RY,↓KW,seval]
   refine af (hW _ _) ?_;try simp only[I,RY,↓KW,seval]
   refine back (d9 m q) _ (by rw[hn2,hiq,hmm];rfl) ?_
   refine ai (by decide) ?_ ?_ ?_ ?_<;>simp[LX,I,setCells]
 ·rintro m hmm
  rw[List.take_of_length_le (by simp[fJ])]at hmm
  rw[LY]at hmm;try simp only[I,RY,↓KW,seval]
  rw[hmm];rfl
 ·refine ai (by decide) ?_ ?_ ?_ ?_<;>simp[LX,I,setCells]
theorem Aa.ok{fT fR:Nat} (hc:bF P f=some (mb fT fR)) (hT:lP.Spec (Pure P) fT) (hR:zc.Spec (Pure P) fR):Aa.Spec (Pure P) f:=by
 intro t s l x h
 refine ak hm hc (by show 2<=11;decide) (aj (keep:=[]) (i:=0) ?_)
 try simp only[I,B,RX,↓KW,seval,mb,Z.H]
 refine aU (bL (hT t s l x fR [] [] (fun p=>iu (bp l p)) h (fun p hp=>hR p _)) rfl (by decide)) ?_
 try simp only[I,RX,↓KW,seval]
 rw[CB,FT];rfl
theorem xO.ok{fT fR:Nat} (hc:bF P f=some (j5 fT fR)) (hT:lP.Spec (Pure P) fT) (hR:tG.Spec (Pure P) fR):xO.Spec (Pure P) f:=by
 intro t s l x h
 refine ak hm hc (by show 2<=11;decide) (aj (keep:=[]) (i:=0) ?_)
 try simp only[I,B,RX,↓KW,seval,j5,Z.H]
 refine aU (bL (hT t s l x fR [] [] (fun p=>ga (bp l p)) h (fun p hp=>hR p _)) rfl (by decide)) ?_
 try simp only[I,RX,↓KW,seval]
 rw[CB,FT];rfl
theorem L6.ok{fR:Nat} (hc:bF P f=some (j4 fR)) (hR:j8.Spec (Pure P) fR):L6.Spec (Pure P) f:=by
 intro t s l h
 refine ak hm hc (by show 1<=13;decide) (aj (keep:=[]) (i:=0) ?_)
 try simp only[I,RY,↓KW,seval,j4,Z.H]
 have hz:∀r:Rl,setCells bz 0 r.cells=r.cells:=fun _=>rfl
 have hzl:bz.length=11:=rfl
 have h1:∀r:Rl,r.cells[1]? =some (I r.clear)/\r.cells[2]? =some (I r.iB):=fun _=>⟨rfl,rfl⟩
 refine aU (bL (hR t s l h) rfl (by decide)) ?_
 try simp only[I,RY,↓KW,seval,hz,hzl,Rl.len,h1]
 cases hb:((cJ t s).clear !=0)
 ·try simp only[I,RY,↓KW,seval,h1]
  have:(cJ t s).clear=0:=by simpa using hb
  simp[tgt,this]
 ·try simp only[I,RY,↓KW,seval,h1]
  have:(cJ t s).clear≠0:=by simpa using hb
  simp[tgt,this]
theorem EG.ok{fR:Nat} (hc:bF P f=some (mc fR)) (hR:j8.Spec (Pure P) fR):EG.Spec (Pure P) f:=by
 intro t s l a b h
 have h6:∀r:Rl,r.cells[6]? =some (I r.gV):=fun _=>rfl
 refine ak hm hc (by show 2<=21;decide) (aj (keep:=[]) (i:=0) ?_)
 try simp only[I,B,RX,↓KW,seval,mc,Z.H]
 refine ji [11] (by rfl) ?_
 cases h1:(a !=1)
 ·try simp only[RX,↓KW,seval,h1]
  simp[zY,h1]
 ·try simp only[RX,↓KW,seval,h1]
  cases h2:(a !=2)
  ·try simp only[RX,↓KW,seval]
   refine cm (bL (hR t s l h) rfl (by decide)) ?_
   try simp only[I,RX,↓KW,seval,h6]
   simp[zY,h1,h2]
  ·try simp only[RX,↓KW,seval]
   simp[zY,h1,h2]
theorem xP.ok{fR fS:Nat} (hc:bF P f=some (jo fR fS)) (hR:Jo.Spec (Pure P) fR) (hS:Aa.Spec (Pure P) fS):xP.Spec (Pure P) f:=by
 intro t s l p h hp
 have hv:=KH h
 have hcn:=RD h hp
 have hy:0<=(p:Int)/\(p:Int)<8:=by omega
 have hq:ay (bp l p).cells 0 (some 12)=some (.agg (bp l p).cells):=rfl
 have hq1:(bp l p).cells[1]? =some (I (bp l p).time):=rfl
 have hb:nr t l p=(iu (bp l p)&&decide ((bp l p).time>=t.revert)&&pN l (gI t p)):=rfl
 refine ak hm hc (by show 3<=29;decide) (aj (keep:=[]) (i:=0) ?_)
 try simp only[I,B,RX,↓KW,seval,jo,Z.H]
 refine ji [21] (by rfl) ?_
 try simp only[RX,↓KW,seval,hq]
 refine af (hR _) ?_;try simp only[B,RX,↓KW,seval]
 cases h1:iu (bp l p)
 ·try simp only[RX,↓KW,seval]
  simp[hb,h1]
 ·try simp only[I,RX,↓KW,seval,hq1,hv]
  cases h2:decide ((bp l p).time>=t.revert)
  ·try simp only[RX,↓KW,seval]
   simp[hb,h1,h2]
  ·try simp only[I,RX,↓KW,seval,hcn,hy]
   refine cm (bL (hS t s l (gI t p) h) rfl (by decide)) ?_
   try simp only[B,RX,seval]
   simp[hb,h1,h2]
theorem uI.ok{fB fT:Nat} (hc:bF P f=some (j6 fB fT)) (hB:xP.Spec (Pure P) fB) (hT:lP.Spec (Pure P) fT):uI.Spec (Pure P) f:=by
 intro t s l x h
 refine ak hm hc (by show 2<=9;decide) (aj (keep:=[]) (i:=0) ?_)
 try simp only[I,RX,↓KW,seval,j6,Z.H]
 refine⟨rfl,?_⟩
 refine aU (bL (hT t s l x fB [] [.ref [.ref (cI t s l)]] (nr t l) h (fun p hp=>hB t s l p h hp)) rfl (by decide)) ?_
 try simp only[I,RX,seval]
 rfl
theorem CC.ok{fO:Nat} (hc:bF P f=some (j7 fO)) (hO:EG.Spec (Pure P) fO):CC.Spec (Pure P) f:=by
 intro t s l p least h hp;generalize bp l p=r
 have hq0:r.cells[0]? =some (I r.aQ):=rfl
 have hq1:r.cells[1]? =some (I r.time):=rfl
 have hq2:ay r.cells 2 (some 2)=some (.agg [I r.fst,I r.dR]):=rfl
 have hb:RF t s least r=(ga r&&decide (r.time>=least)&&zY (cJ t s).gV r.fst r.dR):=rfl
 have hg:(r.aQ==1)=ga r:=rfl
 refine ak hm hc (by show 4<=22;decide) (aj (keep:=[]) (i:=0) ?_)
 try simp only[I,B,RX,↓KW,seval,j7,Z.H,hq0]
 rw[hg];cases h1:ga r
 ·try simp only[RX,↓KW,seval]
  simp[hb,h1]
 ·try simp only[I,RX,↓KW,seval,hq1]
  cases h2:decide (r.time>=least)
  ·try simp only[RX,↓KW,seval]
   simp[hb,h1,h2]
  ·try simp only[I,RX,↓KW,seval,hq2]
   refine aU (bL (hO t s l r.fst r.dR h) rfl (by decide)) ?_
   try simp only[B,RX,seval]
   simp[hb,h1,h2]
theorem HV.ok{fO:Nat} (hc:bF P f=some (iT fO)) (hO:EG.Spec (Pure P) fO):HV.Spec (Pure P) f:=by
 intro t s l p h hp;generalize bp l p=r
 have hq0:r.cells[0]? =some (I r.aQ):=rfl
 have hq2:ay r.cells 2 (some 2)=some (.agg [I r.fst,I r.dR]):=rfl
 have hb:RG t s r=(ga r&&zY (cJ t s).gV r.fst r.dR):=rfl
 have hg:(r.aQ==1)=ga r:=rfl
 refine ak hm hc (by show 3<=15;decide) (aj (keep:=[]) (i:=0) ?_)
 try simp only[I,B,RX,↓KW,seval,iT,Z.H,hq0]
 rw[hg];cases h1:ga r
 ·try simp only[RX,↓KW,seval]
  simp[hb,h1]
 ·try simp only[I,RX,↓KW,seval,hq2]
  refine aU (bL (hO t s l r.fst r.dR h) rfl (by decide)) ?_
  try simp only[B,RX,seval]
  simp[hb,h1]
theorem tI.ok{fR:Nat} (hc:bF P f=some (jn fR)) (hR:Jo.Spec (Pure P) fR):tI.Spec (Pure P) f:=by
 intro t s l p h hp
 have hv:=KH h
 generalize bp l p=r
 have hq:ay r.cells 0 (some 12)=some (.agg r.cells):=rfl
 have hq0:r.cells[0]? =some (I r.aQ):=rfl
 have hq1:r.cells[1]? =some (I r.time):=rfl
 have hb:wk t r=(ga r||iu r&&decide (r.time>=t.revert)):=rfl
 have hg:(r.aQ==1)=ga r:=rfl
 refine ak hm hc (by show 3<=23;decide) (aj (keep:=[]) (i:=0) ?_)
 try simp only[I,B,RX,↓KW,seval,jn,Z.H,hq0]
 rw[hg];cases h1:ga r
 ·try simp only[RX,↓KW,seval,hq]
  refine af (hR r) ?_;try simp only[B,RX,↓KW,seval]
  cases h2:iu r
  ·try simp only[RX,↓KW,seval]
   simp[hb,h1,h2]
  ·try simp only[I,RX,↓KW,seval,hq1,hv]
   simp[hb,h1,h2]
 ·try simp only[RX,↓KW,seval]
  simp[hb,h1]
theorem xU.ok(hc:bF P f=some jN):xU.Spec (Pure P) f:=by
 intro t s l p h hp
 have hmn:=RE h hp
 have hy:0<=(p:Int)/\(p:Int)<8:=by omega
 generalize bp l p=r
 have hq0:r.cells[0]? =some (I r.aQ):=rfl
 have hq1:r.cells[1]? =some (I r.time):=rfl
 have hq2:r.cells[2]? =some (I r.fst):=rfl
 have hb:lvP t p r=(ga r&&decide (r.time>=(aX t p).min)&& !(r.fst==1||r.fst==2)):=rfl
 have hg:(r.aQ==1)=ga r:=rfl
 refine ak hm hc (by show 3<=37;decide) (aj (keep:=[]) (i:=0) ?_)
 try simp only[I,B,RX,↓KW,seval,jN,Z.H,hq2]
 cases h3:(r.fst==1)<;>cases h4:(r.fst==2)<;>cases h1:ga r<;>cases h2:decide (r.time>=(aX t p).min)<;>
 (try simp only[I,RX,↓KW,seval,h1,h2,h4,hq0,hq1,hq2,hmn,hy,hg];(try(try simp only[I,B,D,RX,↓KW,seval,h1,h2,h3,h4,hq0,hq1,hq2,hmn,hy,hg]));simp[hb,h1,h2,h3,h4])
theorem EH.ok{f1 fT fW:Nat} (hc:bF P f=some (l7 f1 fT fW)) (h1:CC.Spec (Pure P) f1) (hT:lP.Spec (Pure P) fT) (hW:xN.Spec (Pure P) fW):EH.Spec (Pure P) f:=by
 intro t s l but least h
 refine ak hm hc (by show 3<=17;decide) (aj (keep:=[]) (i:=0) ?_)
 try simp only[I,RX,↓KW,seval,l7,Z.H]
 refine I3 [5,4] [4,8] rfl rfl rfl ?_;try simp only[RX,↓KW,seval]
 refine⟨rfl,?_⟩
 refine cm (bL (hT t s l _ f1 [] [.ref [I least],.ref [.ref (cI t s l)]] (fun p=>RF t s least (bp l p)) h (fun p hp=>h1 t s l p least h hp)) rfl (by decide)) ?_
 try simp only[I,B,D,RX,↓KW,seval]
 refine cm (bL (hT t s l _ fW [] [] (fun p=>zb (bp l p)) h (fun p hp=>hW p _)) rfl (by decide)) ?_
 try simp only[I,RX,↓KW,seval]
 rfl
theorem HT.ok(hc:bF P f=some lZ):HT.Spec (Pure P) f:=by
 intro t s l h
 refine ak hm hc (by show 1<=3;decide) (aj (keep:=[]) (i:=0) ?_)
 try simp only[I,RX,↓KW,seval,lZ,Z.H]
theorem HU.ok(hc:bF P f=some l6):HU.Spec (Pure P) f:=by
 intro t s l h
 refine ak hm hc (by show 1<=4;decide) (aj (keep:=[]) (i:=0) ?_)
 try simp only[RX,↓KW,seval,l6,Z.H]
 rfl
theorem zf.ok{fT fR fE:Nat} (hc:bF P f=some (kZ fT fR fE)) (hT:L6.Spec (Pure P) fT) (hR:j8.Spec (Pure P) fR) (hE:EH.Spec (Pure P) fE):zf.Spec (Pure P) f:=by
 intro t s l h
 have h5:∀r:Rl,r.cells[5]? =some (I r.green):=fun _=>rfl
 refine ak hm hc (by show 1<=10;decide) (aj (keep:=[]) (i:=0) ?_)
 try simp only[RX,↓KW,seval,kZ,Z.H]
 refine aU (bL (hT t s l h) rfl (by decide)) ?_
 try simp only[RX,seval]
 refine aU (bL (hR t s l h) rfl (by decide)) ?_
 try simp only[I,RX,↓KW,seval,h5]
 refine aU (bL (hE t s l _ _ h) rfl (by decide)) ?_
 try simp only[RX,↓KW,seval]
 exact⟨rfl,rfl⟩
theorem xQ.ok{fT fS fR:Nat} (hc:bF P f=some (jX fT fS fR)) (hT:L6.Spec (Pure P) fT) (hS:Aa.Spec (Pure P) fS) (hR:j8.Spec (Pure P) fR):xQ.Spec (Pure P) f:=by
 intro t s l h
 have h5:∀r:Rl,r.cells[1]? =some (I r.clear):=fun _=>rfl
 refine ak hm hc (by show 1<=15;decide) (aj (keep:=[]) (i:=0) ?_)
 try simp only[I,RX,↓KW,seval,jX,Z.H]
 refine aU (bL (hT t s l h) rfl (by decide)) ?_
 try simp only[I,RX,↓KW,seval]
 refine aU (bL (hS t s l _ h) rfl (by decide)) ?_
 try simp only[B,RX,↓KW,seval]
 cases h1:pN l (ep .i64 255 (tgt (cJ t s)))
 ·try simp only[RX,↓KW,seval]
  simp[uG,h1]
 ·try simp only[RX,↓KW,seval]
  refine aU (bL (hR t s l h) rfl (by decide)) ?_
  try simp only[I,RX,↓KW,seval,h5]
  cases h2:((cJ t s).clear !=0)
  ·try simp only[RX,↓KW,seval]
   have:(cJ t s).clear=0:=by simpa using h2
   simp[uG,h1,this]
  ·try simp only[RX,↓KW,seval]
   have:(cJ t s).clear≠0:=by simpa using h2
   simp[uG,h1,this]
theorem xR.ok{fR:Nat} (hc:bF P f=some (jY fR)) (hR:j8.Spec (Pure P) fR):xR.Spec (Pure P) f:=by
 intro t s l h
 have hd:=pM h
 have hp:=KG h
 have h5:∀r:Rl,r.cells[7]? =some (I r.hold):=fun _=>rfl
 refine ak hm hc (by show 1<=12;decide) (aj (keep:=[]) (i:=0) ?_)
 try simp only[I,RX,↓KW,seval,jY,Z.H]
 refine ji [6] rfl ?_;try simp only[I,RX,↓KW,seval,hd,hp]
 refine cm (bL (hR t s l h) rfl (by decide)) ?_
 try simp only[I,RX,↓KW,seval,h5]
 cases h2:decide (s.time>=(cJ t s).hold)
 ·try simp only[RX,↓KW,seval]
  have:=of_decide_eq_false h2
  show I 2=I (qF t s);rw[qF,if_neg this]
 ·try simp only[RX,↓KW,seval]
  have:=of_decide_eq_true h2
  show I 3=I (qF t s);rw[qF,if_pos this]
theorem CD.ok{fR fB:Nat} (hc:bF P f=some (k9 fR fB)) (hR:j8.Spec (Pure P) fR) (hB:uI.Spec (Pure P) fB):CD.Spec (Pure P) f:=by
 intro t s l h
 have h5:∀r:Rl,r.cells[1]? =some (I r.clear):=fun _=>rfl
 refine ak hm hc (by show 1<=9;decide) (aj (keep:=[]) (i:=0) ?_)
 try simp only[RX,↓KW,seval,k9,Z.H]
 refine aU (bL (hR t s l h) rfl (by decide)) ?_
 try simp only[I,RX,↓KW,seval,h5]
 refine aU (bL (hB t s l _ h) rfl (by decide)) ?_
 try simp only[I,RX,↓KW,seval]
 rfl
theorem CE.ok{fR fB:Nat} (hc:bF P f=some (lf fR fB)) (hR:j8.Spec (Pure P) fR) (hB:uI.Spec (Pure P) fB):CE.Spec (Pure P) f:=by
 intro t s l h
 have h5:∀r:Rl,r.cells[2]? =some (I r.iB):=fun _=>rfl
 refine ak hm hc (by show 1<=9;decide) (aj (keep:=[]) (i:=0) ?_)
 try simp only[RX,↓KW,seval,lf,Z.H]
 refine aU (bL (hR t s l h) rfl (by decide)) ?_
 try simp only[I,RX,↓KW,seval,h5]
 refine aU (bL (hB t s l _ h) rfl (by decide)) ?_
 try simp only[I,RX,↓KW,seval]
 rfl
theorem pP.ok{fR fS:Nat} (hc:bF P f=some (jm fR fS)) (hR:j8.Spec (Pure P) fR) (hS:Aa.Spec (Pure P) fS):pP.Spec (Pure P) f:=by
 intro t s l h
 have h5:∀r:Rl,r.cells[2]? =some (I r.iB):=fun _=>rfl
 refine ak hm hc (by show 1<=9;decide) (aj (keep:=[]) (i:=0) ?_)
 try simp only[I,RX,↓KW,seval,jm,Z.H]
 refine aU (bL (hR t s l h) rfl (by decide)) ?_
 try simp only[I,RX,↓KW,seval,h5]
 refine aU (bL (hS t s l _ h) rfl (by decide)) ?_
 try simp only[B,RX,↓KW,seval]
 cases h1:pN l (ep .i64 255 (cJ t s).iB)
 ·try simp only[B,RX,↓KW,seval]
  simp[pO,h1]
 ·try simp only[B,RX,↓KW,seval]
  simp[pO,h1]
theorem tH.ok{fR fE f1 fT:Nat} (hc:bF P f=some (jM fR fE f1 fT)) (hR:j8.Spec (Pure P) fR) (hE:EH.Spec (Pure P) fE) (h1:HV.Spec (Pure P) f1) (hT:lP.Spec (Pure P) fT):tH.Spec (Pure P) f:=by
 intro t s l h
 have h5:∀r:Rl,r.cells[2]? =some (I r.iB):=fun _=>rfl
 refine ak hm hc (by show 1<=18;decide) (aj (keep:=[]) (i:=0) ?_)
 try simp only[RX,↓KW,seval,jM,Z.H]
 refine ji [2,4] rfl ?_;try simp only[RX,↓KW,seval]
 refine cm (bL (hR t s l h) rfl (by decide)) ?_
 try simp only[I,RX,↓KW,seval,h5]
 refine cm (bL (hE t s l _ _ h) rfl (by decide)) ?_
 try simp only[I,B,RX,seval,KI,Ac.cells]
 refine I3 [4] [2,6] rfl rfl rfl ?_;try simp only[RX,↓KW,seval]
 refine cm (bL (hR t s l h) rfl (by decide)) ?_
 try simp only[I,RX,↓KW,seval,h5]
 refine⟨rfl,?_⟩
 refine cm (bL (hT t s l _ f1 [] [.ref [.ref (cI t s l)]] (fun p=>RG t s (bp l p)) h (fun p hp=>h1 t s l p h hp)) rfl (by decide)) ?_
 try simp only[I,RX,↓KW,seval]
 rfl
theorem xT.ok{fR f1 fT fS:Nat} (hc:bF P f=some (j0 fR f1 fT fS)) (hR:j8.Spec (Pure P) fR) (h1:tI.Spec (Pure P) f1) (hT:lP.Spec (Pure P) fT) (hS:Aa.Spec (Pure P) fS):xT.Spec (Pure P) f:=by
 intro t s l h
 have h5:∀r:Rl,r.cells[3]? =some (I r.exit):=fun _=>rfl
 refine ak hm hc (by show 1<=22;decide) (aj (keep:=[]) (i:=0) ?_)
 try simp only[I,RX,↓KW,seval,j0,Z.H]
 refine aU (bL (hR t s l h) rfl (by decide)) ?_
 try simp only[I,RX,↓KW,seval,h5]
 refine⟨rfl,?_⟩
 refine aU (bL (hT t s l _ f1 [] [.ref [.ref (cI t s l)]] (fun p=>wk t (bp l p)) h (fun p hp=>h1 t s l p h hp)) rfl (by decide)) ?_
 try simp only[RX,seval]
 refine aU (bL (hS t s l _ h) rfl (by decide)) ?_
 try simp only[B,seval]
 have hk:(CB (cJ t s).exit (fun p=>wk t (bp l p))==dw .i64 (cJ t s).exit 255)=HI (cJ t s).exit (fun p=>wk t (bp l p)):=by rw[CB,FT]
 cases h2:pN l (ep .i64 255 (cJ t s).exit)
 ·try simp only[I,B,RX,↓KW,seval]
  simp[uH,h2]
 ·try simp only[I,B,RX,↓KW,seval,hk]
  cases h3:HI (cJ t s).exit (fun p=>wk t (bp l p))
  ·try simp only[RX,↓KW,seval]
   simp[uH,h2,h3]
  ·try simp only[RX,↓KW,seval]
   simp[uH,h2,h3]
theorem CF.ok{fR f1 fT:Nat} (hc:bF P f=some (lg fR f1 fT)) (hR:j8.Spec (Pure P) fR) (h1:xU.Spec (Pure P) f1) (hT:lP.Spec (Pure P) fT):CF.Spec (Pure P) f:=by
 intro t s l h
 have h5:∀r:Rl,r.cells[3]? =some (I r.exit):=fun _=>rfl
 refine ak hm hc (by show 1<=11;decide) (aj (keep:=[]) (i:=0) ?_)
 try simp only[RX,↓KW,seval,lg,Z.H]
 refine I3 [4] [2,6] rfl rfl rfl ?_;try simp only[RX,↓KW,seval]
 refine cm (bL (hR t s l h) rfl (by decide)) ?_
 try simp only[I,RX,↓KW,seval,h5]
 refine⟨rfl,?_⟩
 refine cm (bL (hT t s l _ f1 [] [.ref [.ref (cI t s l)]] (fun p=>lvP t p (bp l p)) h (fun p hp=>h1 t s l p h hp)) rfl (by decide)) ?_
 try simp only[I,RX,↓KW,seval]
 rfl
theorem HW.ok{fR fT fD:Nat} (hc:bF P f=some (lV fR fT fD)) (hR:j8.Spec (Pure P) fR) (hT:lP.Spec (Pure P) fT) (hD:zc.Spec (Pure P) fD):HW.Spec (Pure P) f:=by
 intro t s l h
 have h5:∀r:Rl,r.cells[3]? =some (I r.exit):=fun _=>rfl
 refine ak hm hc (by show 1<=9;decide) (aj (keep:=[]) (i:=0) ?_)
 try simp only[RX,↓KW,seval,lV,Z.H]
 refine aU (bL (hR t s l h) rfl (by decide)) ?_
 try simp only[I,RX,↓KW,seval,h5]
 refine aU (bL (hT t s l _ fD [] [] (fun p=>iu (bp l p)) h (fun p hp=>hD p _)) rfl (by decide)) ?_
 try simp only[I,RX,↓KW,seval]
 rfl
theorem HX.ok{fR fG fM:Nat} (hc:bF P f=some (lW fR fG fM)) (hR:j8.Spec (Pure P) fR) (hG:xO.Spec (Pure P) fG) (hM:HL.Spec (Pure P) fM):HX.Spec (Pure P) f:=by
 intro t s l turned h
 have hd:=pM h
 have hp:=KG h
 have h5:∀r:Rl,r.cells[1]? =some (I r.clear)/\r.cells[2]? =some (I r.iB):=fun _=>⟨rfl,rfl⟩
 refine ak hm hc (by show 2<=53;decide) (aj (keep:=[]) (i:=0) ?_)
 try simp only[I,B,RX,↓KW,seval,lW,Z.H]
 cases h1:turned
 ·try simp only[I,RX,↓KW,seval,hd,hp]
  cases h2:(s.aq==0)
  ·try simp only[I,RX,↓KW,seval,hd,hp]
   cases h3:(s.aq==2)
   ·try simp only[I,RX,↓KW,seval,hd,hp]
    cases h4:(s.aq==4)
    ·try simp only[I,RX,↓KW,seval,hd,hp]
     refine af (hM _) ?_;try simp only[I,RX,↓KW,seval,hd]
     simp[nu,h2,h3,h4]
    ·try simp only[RX,↓KW,seval]
     refine aU (bL (hR t s l h) rfl (by decide)) ?_
     try simp only[I,RX,↓KW,seval,h5]
     refine aU (bL (hG t s l _ h) rfl (by decide)) ?_
     try simp only[B,RX,↓KW,seval]
     cases h6:HR l (cJ t s).iB
     ·try simp only[I,RX,↓KW,seval,hd,hp]
      simp[nu,h2,h3,h4,h6]
     ·try simp only[I,RX,↓KW,seval,hd,hp]
      refine af (hM _) ?_;try simp only[I,RX,↓KW,seval,hd]
      simp[nu,h2,h3,h4,h6]
   ·try simp only[RX,↓KW,seval]
    have h4:(s.aq==4)=false:=by
     have:s.aq=2:=by simpa using h3
     rw[this];rfl
    refine aU (bL (hR t s l h) rfl (by decide)) ?_
    try simp only[I,RX,↓KW,seval,h5]
    refine aU (bL (hG t s l _ h) rfl (by decide)) ?_
    try simp only[B,RX,↓KW,seval]
    cases h6:HR l (cJ t s).clear
    ·try simp only[I,RX,↓KW,seval,hd,hp]
     simp[nu,h2,h3,h4,h6]
    ·try simp only[I,RX,↓KW,seval,hd,hp,h4]
     refine af (hM _) ?_;try simp only[I,RX,↓KW,seval,hd]
     simp[nu,h2,h3,h4,h6]
  ·try simp only[RX,↓KW,seval]
   simp[nu,h2]
 ·try simp only[RX,↓KW,seval]
  simp[nu]
end
end Go.Eng
