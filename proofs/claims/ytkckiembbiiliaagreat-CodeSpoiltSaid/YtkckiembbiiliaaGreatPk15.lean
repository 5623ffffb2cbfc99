/- The engine and the library,part 15 of 18: what the proofs of this seat need of them. -/
import Derived.Test.YtkckiembbiiliaaGreatPk14
set_option linter.unnecessarySimpa false
set_option linter.unusedSimpArgs false
set_option linter.unusedVariables false
set_option linter.defProp false
set_option maxRecDepth 10000
set_option maxHeartbeats 4000000
namespace Go.Eng
open Go
theorem tw{α:Type} {g:α->List AV} {z:Nat} (hg:∀x,(g x).length=z):∀(l:List α) (rest:List AV),bP z l.length (l.flatMap g++rest)=l.map g
 |[],rest=>rfl
 |x::l,rest=>by
  simp only[List.length_cons,bP,List.flatMap_cons,List.append_assoc,List.map_cons];rw[List.take_left' (hg x),List.drop_left' (hg x),tw hg l rest]
theorem yw(l:List Int) (rest:List AV):bP 1 l.length (l.map I++rest)=l.map aG:=by
 have e:l.map I=l.flatMap aG:=by
  induction l with
  |nil=>rfl
  |cons a l ih=>rw[List.map_cons,List.flatMap_cons,ih];rfl
 rw[e]
 exact tw (g:=aG) (z:=1) (fun _=>rfl) l rest
section
variable{t:Tb} (h:t.Ln)
include h
theorem P9:bP 13 8 t.cells=t.phases.map Ph.cells:=by
 have:=tw (g:=Ph.cells) (z:=13) Ph.len t.phases
 rw[h.phases]at this;exact this _
theorem yx:t.cells.drop 105=t.conflict.map I++(aJ gQ.cells t.aI::aJ Rl.cells t.aZ::aJ Bs.cells t.bS::
  I t.extend::I t.dB::I t.start::I t.revert::I t.least::(t.bA.map I++[I t.d9,I t.share])):=by
 have e:(t.phases.flatMap Ph.cells).length=104:=by rw[aV Ph.len,h.phases]
 have e2:t.cells.drop 105=(t.cells.drop 104).drop 1:=by rw[List.drop_drop]
 rw[e2,Tb.cells,List.drop_left' e];rfl
theorem IT:bP 1 8 (t.cells.drop 105)=t.conflict.map aG:=by
 have:=yw t.conflict
 rw[h.conflict]at this;rw[yx h];exact this _
theorem IU:bP 1 8 (t.cells.drop 121)=t.bA.map aG:=by
 have:=yw t.bA
 rw[h.bA]at this
 have e:t.cells.drop 121=(t.cells.drop 105).drop 16:=by rw[List.drop_drop]
 have e2:∀l:List AV,l.drop 16=(l.drop 8).drop 8:=fun l=>by rw[List.drop_drop]
 rw[e,yx h,e2,List.drop_left' (by simp[h.conflict])];exact this _
theorem IV:t.cells[104]? =some (aJ Gr.cells t.groups):=by
 simp[Tb.cells,List.getElem?_append,aV Ph.len,h.phases,h.conflict,h.bA,List.getElem?_cons]
theorem EK:t.cells[116]? =some (I t.extend)/\t.cells[117]? =some (I t.dB)/\t.cells[118]? =some (I t.start)/\t.cells[119]? =some (I t.revert)/\t.cells[120]? =some (I t.least)/\t.cells[129]? =some (I t.d9)/\t.cells[130]? =some (I t.share):=by
 refine⟨?_,?_,?_,?_,?_,?_,?_⟩<;>simp[Tb.cells,List.getElem?_append,aV Ph.len,h.phases,h.conflict,h.bA,List.getElem?_cons]
end
theorem dH{cs:List AV} {j:Nat} {v:AV} (h:cs[j]? =some v):(cs.drop j)[0]? =some v:=by rw[List.getElem?_drop];exact h
def qJ(p:Ph):Bool:=[p.min,p.B5,p.max,p.top,p.step,p.d8,p.red,p.walk,p.ep].all (wI 9999)&&[p.gY].all (wI 3)
def kY(l:Option (List Int)):Bool:=decide (((l.getD []).length:Int)<=8)&&(l.getD []).all fun p=>[p].all (wI 7)
def ni(g:Gr):Bool:=kY g.a&&kY g.b
def lvl(x:Nat):Bool:=Ly x 0&&O9 x 4696837146684686336
def Qa(x:Nat):Bool:=decide (IntKind.i64.wrap (x:Int)<0)
def eM(x:Nat):Bool:=JA x&& !Qa x
def gi(d:gQ):Bool:=(((([d.phase].all (wI 7)&&lvl d.on)&&lvl d.off)&&eM d.delay)&&eM d.extend)&&[d.maxOn,d.kS].all (wI 9999)
def sA(r:Rl):Bool:=([r.bars,r.clear,r.jK,r.exit].all (wI 255)&&[r.delay,r.green,r.kT,r.hold,r.stay,r.most].all (wI 9999))&&[r.limit].all (wI 2147483647)
def sB(b:Bs):Bool:=[b.set].all (wI 255)&&[b.lock].all (wI 9999)
def oP(t:Tb):Bool:=
 (((((((t.phases.all qJ&&(decide (((t.groups.getD []).length:Int)<=4)&&(t.groups.getD []).all ni))&&t.conflict.all (wI 255))&&
  (decide (((t.aI.getD []).length:Int)<=16)&&(t.aI.getD []).all gi))&&(decide (((t.aZ.getD []).length:Int)<=4)&&(t.aZ.getD []).all sA))&&
  (decide (((t.bS.getD []).length:Int)<=4)&&(t.bS.getD []).all sB))&&[t.extend,t.dB,t.start,t.revert,t.least].all (wI 9999))&&t.bA.all (wI 2))&&[t.d9,t.share].all (wI 2147483647)
def gQ.Fw(d:gQ):Prop:=d.on<2^64/\d.off<2^64/\d.delay<2^64/\d.extend<2^64
def Tb.Fw(t:Tb):Prop:=∀d∈t.aI.getD [],d.Fw
def Cw.Spec(C:bt) (f:Nat):Prop:=∀m n:Int,C.c f [I n,.ref [I m]] (B (wI m n)) none
def within.Spec(C:bt) (f:Nat):Prop:=∀(m:Int) (l:Option (List Int)),(l.getD []).length<=1000000->C.c f [I m,aJ aG l] (B ((l.getD []).all (wI m))) none
def oQ.Spec(C:bt) (f:Nat):Prop:=∀l:Option (List Int),(l.getD []).length<=1000000->C.c f [aJ aG l] (B ((l.getD []).all (wI 9999))) none
def yy.Spec(C:bt) (f:Nat):Prop:=∀p:Ph,C.c f [.agg p.cells] (B (qJ p)) none
def IW.Spec(C:bt) (f:Nat):Prop:=∀p:Int,C.c f [I p] (B ([p].all (wI 7))) none
def Uu.Spec(C:bt) (f:Nat):Prop:=∀l:Option (List Int),C.c f [aJ aG l] (B (kY l)) none
def yz.Spec(C:bt) (f:Nat):Prop:=∀g:Gr,C.c f [.agg g.cells] (B (ni g)) none
def Uv.Spec(C:bt) (f:Nat):Prop:=∀x:Nat,C.c f [Fl x] (B (Qa x)) none
def Cx.Spec(C:bt) (f:Nat):Prop:=∀x:Nat,x<2^64->C.c f [Fl x] (B (eM x)) none
def Cy.Spec(C:bt) (f:Nat):Prop:=∀x:Nat,C.c f [Fl x] (B (lvl x)) none
def IX.Spec(C:bt) (f:Nat):Prop:=∀d:gQ,d.Fw->C.c f [.agg d.cells] (B (gi d)) none
def Cz.Spec(C:bt) (f:Nat):Prop:=∀r:Rl,C.c f [.agg r.cells] (B (sA r)) none
def IY.Spec(C:bt) (f:Nat):Prop:=∀b:Bs,C.c f [.agg b.cells] (B (sB b)) none
def Ga.Spec(C:bt) (f:Nat):Prop:=∀t:Tb,t.Ln->t.Fw->C.c f [.agg t.cells] (B (oP t)) none
section
variable{P:Program} (hm:P.follows .mixedOrders=true) {f:Nat}
include hm
theorem Cw.ok(hc:dY P f=some nh):Cw.Spec (Pure P) f:=by
 intro m n;rw[wI]
 refine aH hm hc (by show 2<=11;decide) (ay (keep:=[]) (i:=0) ?_)
 try simp only[I,B,D,RX,↓KW,Nat.reduceBEq,Nat.reduceAdd,Nat.reduceLeDiff,Int.reduceNe,Int.reduceBEq,Int.reduceEq,reduceCtorEq,Nat.reduceMul,Int.reduceLT,Int.reduceLE,Int.reduceToNat,nh,Z.H]
 cases h:decide (n>=0)
 ·try simp only[I,B,D,RX,↓KW,Nat.reduceBEq,Nat.reduceAdd,Nat.reduceLeDiff,Int.reduceNe,Int.reduceBEq,Int.reduceEq,reduceCtorEq,Nat.reduceMul,Int.reduceLT,Int.reduceLE,Int.reduceToNat,h]
  rfl
 ·try simp only[I,B,D,RX,↓KW,Nat.reduceBEq,Nat.reduceAdd,Nat.reduceLeDiff,Int.reduceNe,Int.reduceBEq,Int.reduceEq,reduceCtorEq,Nat.reduceMul,Int.reduceLT,Int.reduceLE,Int.reduceToNat,h]
  rfl
theorem within.ok{f1 fE:Nat} (hc:dY P f=some (o4 f1 fE)) (h1:Cw.Spec (Pure P) f1) (hE:QW.Spec (Pure P) fE):within.Spec (Pure P) f:=by
 intro m l hl
 have h2:decide (((l.getD []).length:Int)<=((l.getD []).length:Nat))=true:=by simp
 have he:=hE l ((l.getD []).length:Nat) f1 [] [.ref [I m]] (wI m) (by omega) (fun x _=>h1 m x)
 rw[h2,Bool.true_and]at he
 refine aH hm hc (by show 2<=10;decide) (ay (keep:=[]) (i:=0) ?_)
 try simp only[I,B,D,RX,↓KW,Nat.reduceBEq,Nat.reduceAdd,Nat.reduceLeDiff,Int.reduceNe,Int.reduceBEq,Int.reduceEq,reduceCtorEq,Nat.reduceMul,Int.reduceLT,Int.reduceLE,Int.reduceToNat,o4,Z.H,gC]
 refine⟨rfl,?_⟩;refine aj he ?_;try simp only[I,B,D,RX,↓KW,Nat.reduceBEq,Nat.reduceAdd,Nat.reduceLeDiff,Int.reduceNe,Int.reduceBEq,Int.reduceEq,reduceCtorEq,Nat.reduceMul,Int.reduceLT,Int.reduceLE,Int.reduceToNat]
theorem oQ.ok{fW:Nat} (hc:dY P f=some (qI fW)) (hW:within.Spec (Pure P) fW):oQ.Spec (Pure P) f:=by
 intro l hl
 refine aH hm hc (by show 1<=5;decide) (ay (keep:=[]) (i:=0) ?_)
 try simp only[I,B,D,RX,↓KW,Nat.reduceBEq,Nat.reduceAdd,Nat.reduceLeDiff,Int.reduceNe,Int.reduceBEq,Int.reduceEq,reduceCtorEq,Nat.reduceMul,Int.reduceLT,Int.reduceLE,Int.reduceToNat,qI,Z.H]
 refine aj (hW 9999 l hl) ?_;try simp only[I,B,D,RX,↓KW,Nat.reduceBEq,Nat.reduceAdd,Nat.reduceLeDiff,Int.reduceNe,Int.reduceBEq,Int.reduceEq,reduceCtorEq,Nat.reduceMul,Int.reduceLT,Int.reduceLE,Int.reduceToNat]
theorem yy.ok{e fT fW:Nat} (hc:dY P f=some (mE e fT fW)) (hT:oQ.Spec (Pure P) fT) (hW:within.Spec (Pure P) fW):yy.Spec (Pure P) f:=by
 intro p
 have ht:=hT (some [p.min,p.B5,p.max,p.top,p.step,p.d8,p.red,p.walk,p.ep]) (by simp)
 have hw:=hW 3 (some [p.gY]) (by simp)
 simp only[Option.getD_some]at ht hw;generalize hb1:[p.min,p.B5,p.max,p.top,p.step,p.d8,p.red,p.walk,p.ep].all (wI 9999)=b1 at ht;generalize hb2:[p.gY].all (wI 3)=b2 at hw;rw[qJ,hb1,hb2];clear hb1 hb2
 refine aH hm hc (by show 1<=29;decide) (ay (keep:=[]) (i:=0) ?_)
 try simp only[I,B,D,RX,↓KW,Nat.reduceBEq,Nat.reduceAdd,Nat.reduceLeDiff,Int.reduceNe,Int.reduceBEq,Int.reduceEq,reduceCtorEq,Nat.reduceMul,Int.reduceLT,Int.reduceLE,Int.reduceToNat,mE,Z.H,Ph.cells]
 refine aj ht ?_;cases b1
 ·try simp only[I,B,D,RX,↓KW,Nat.reduceBEq,Nat.reduceAdd,Nat.reduceLeDiff,Int.reduceNe,Int.reduceBEq,Int.reduceEq,reduceCtorEq,Nat.reduceMul,Int.reduceLT,Int.reduceLE,Int.reduceToNat]
  rfl
 ·try simp only[I,B,D,RX,↓KW,Nat.reduceBEq,Nat.reduceAdd,Nat.reduceLeDiff,Int.reduceNe,Int.reduceBEq,Int.reduceEq,reduceCtorEq,Nat.reduceMul,Int.reduceLT,Int.reduceLE,Int.reduceToNat]
  refine aj hw ?_;try simp only[I,B,D,RX,↓KW,Nat.reduceBEq,Nat.reduceAdd,Nat.reduceLeDiff,Int.reduceNe,Int.reduceBEq,Int.reduceEq,reduceCtorEq,Nat.reduceMul,Int.reduceLT,Int.reduceLE,Int.reduceToNat]
  rfl
theorem IW.ok{e fW:Nat} (hc:dY P f=some (js e fW)) (hW:within.Spec (Pure P) fW):IW.Spec (Pure P) f:=by
 intro p
 refine aH hm hc (by show 1<=6;decide) (ay (keep:=[]) (i:=0) ?_)
 try simp only[I,B,D,RX,↓KW,Nat.reduceBEq,Nat.reduceAdd,Nat.reduceLeDiff,Int.reduceNe,Int.reduceBEq,Int.reduceEq,reduceCtorEq,Nat.reduceMul,Int.reduceLT,Int.reduceLE,Int.reduceToNat,js,Z.H]
 refine aj (hW 7 (some [p]) (by simp)) ?_
 try simp only[I,B,D,RX,↓KW,Nat.reduceBEq,Nat.reduceAdd,Nat.reduceLeDiff,Int.reduceNe,Int.reduceBEq,Int.reduceEq,reduceCtorEq,Nat.reduceMul,Int.reduceLT,Int.reduceLE,Int.reduceToNat]
 rfl
theorem Uu.ok{fE f1:Nat} (hc:dY P f=some (n8 fE f1)) (hE:QW.Spec (Pure P) fE) (h1:IW.Spec (Pure P) f1):Uu.Spec (Pure P) f:=by
 intro l
 refine aH hm hc (by show 1<=5;decide) (ay (keep:=[]) (i:=0) ?_)
 try simp only[I,B,D,RX,↓KW,Nat.reduceBEq,Nat.reduceAdd,Nat.reduceLeDiff,Int.reduceNe,Int.reduceBEq,Int.reduceEq,reduceCtorEq,Nat.reduceMul,Int.reduceLT,Int.reduceLE,Int.reduceToNat,n8,Z.H]
 refine aj (hE l 8 f1 [] [] (fun p=>[p].all (wI 7)) (by omega) (fun p _=>h1 p)) ?_
 try simp only[I,B,D,RX,↓KW,Nat.reduceBEq,Nat.reduceAdd,Nat.reduceLeDiff,Int.reduceNe,Int.reduceBEq,Int.reduceEq,reduceCtorEq,Nat.reduceMul,Int.reduceLT,Int.reduceLE,Int.reduceToNat]
 rfl
theorem yz.ok{f1:Nat} (hc:dY P f=some (qH f1)) (h1:Uu.Spec (Pure P) f1):yz.Spec (Pure P) f:=by
 intro g
 have ha:=h1 g.a
 have hb:=h1 g.b
 rw[ni];generalize kY g.a=b1 at*;generalize kY g.b=b2 at*
 refine aH hm hc (by show 1<=14;decide) (ay (keep:=[]) (i:=0) ?_)
 try simp only[I,B,D,RX,↓KW,Nat.reduceBEq,Nat.reduceAdd,Nat.reduceLeDiff,Int.reduceNe,Int.reduceBEq,Int.reduceEq,reduceCtorEq,Nat.reduceMul,Int.reduceLT,Int.reduceLE,Int.reduceToNat,qH,Z.H,Gr.cells]
 refine⟨by omega,?_⟩
 refine aj ha ?_;cases b1
 ·try simp only[I,B,D,RX,↓KW,Nat.reduceBEq,Nat.reduceAdd,Nat.reduceLeDiff,Int.reduceNe,Int.reduceBEq,Int.reduceEq,reduceCtorEq,Nat.reduceMul,Int.reduceLT,Int.reduceLE,Int.reduceToNat]
  rfl
 ·try simp only[I,B,D,RX,↓KW,Nat.reduceBEq,Nat.reduceAdd,Nat.reduceLeDiff,Int.reduceNe,Int.reduceBEq,Int.reduceEq,reduceCtorEq,Nat.reduceMul,Int.reduceLT,Int.reduceLE,Int.reduceToNat]
  refine⟨by omega,?_⟩
  refine aj hb ?_;try simp only[I,B,D,RX,↓KW,Nat.reduceBEq,Nat.reduceAdd,Nat.reduceLeDiff,Int.reduceNe,Int.reduceBEq,Int.reduceEq,reduceCtorEq,Nat.reduceMul,Int.reduceLT,Int.reduceLE,Int.reduceToNat]
  rfl
theorem Uv.ok(hc:dY P f=some o5):Uv.Spec (Pure P) f:=by
 intro x
 refine aH hm hc (by show 1<=7;decide) (ay (keep:=[]) (i:=0) ?_)
 try simp only[I,B,D,RX,↓KW,Nat.reduceBEq,Nat.reduceAdd,Nat.reduceLeDiff,Int.reduceNe,Int.reduceBEq,Int.reduceEq,reduceCtorEq,Nat.reduceMul,Int.reduceLT,Int.reduceLE,Int.reduceToNat,o5,Z.H]
 rfl
theorem Cx.ok{fT fS:Nat} (hc:dY P f=some (n9 fT fS)) (hT:x8.Spec (Pure P) fT) (hS:Uv.Spec (Pure P) fS):Cx.Spec (Pure P) f:=by
 intro x hx
 have ht:=hT x hx
 rw[FV]at ht;rw[eM]
 have hs:=hS x
 generalize JA x=b1 at*;generalize Qa x=b2 at*
 refine aH hm hc (by show 1<=16;decide) (ay (keep:=[]) (i:=0) ?_)
 try simp only[I,B,D,RX,↓KW,Nat.reduceBEq,Nat.reduceAdd,Nat.reduceLeDiff,Int.reduceNe,Int.reduceBEq,Int.reduceEq,reduceCtorEq,Nat.reduceMul,Int.reduceLT,Int.reduceLE,Int.reduceToNat,n9,Z.H]
 refine aj ht ?_;cases b1
 ·try simp only[I,B,D,RX,↓KW,Nat.reduceBEq,Nat.reduceAdd,Nat.reduceLeDiff,Int.reduceNe,Int.reduceBEq,Int.reduceEq,reduceCtorEq,Nat.reduceMul,Int.reduceLT,Int.reduceLE,Int.reduceToNat]
  rfl
 ·try simp only[I,B,D,RX,↓KW,Nat.reduceBEq,Nat.reduceAdd,Nat.reduceLeDiff,Int.reduceNe,Int.reduceBEq,Int.reduceEq,reduceCtorEq,Nat.reduceMul,Int.reduceLT,Int.reduceLE,Int.reduceToNat]
  refine aj hs ?_;try simp only[I,B,D,RX,↓KW,Nat.reduceBEq,Nat.reduceAdd,Nat.reduceLeDiff,Int.reduceNe,Int.reduceBEq,Int.reduceEq,reduceCtorEq,Nat.reduceMul,Int.reduceLT,Int.reduceLE,Int.reduceToNat]
  rfl
theorem Cy.ok(hc:dY P f=some lD):Cy.Spec (Pure P) f:=by
 intro x
 refine aH hm hc (by show 1<=9;decide) (ay (keep:=[]) (i:=0) ?_)
 try simp only[I,B,D,RX,↓KW,Nat.reduceBEq,Nat.reduceAdd,Nat.reduceLeDiff,Int.reduceNe,Int.reduceBEq,Int.reduceEq,reduceCtorEq,Nat.reduceMul,Int.reduceLT,Int.reduceLE,Int.reduceToNat,lD,Z.H,JB]
 rw[lvl];generalize Ly x 0=b1 at*;cases b1
 ·try simp only[I,B,D,RX,↓KW,Nat.reduceBEq,Nat.reduceAdd,Nat.reduceLeDiff,Int.reduceNe,Int.reduceBEq,Int.reduceEq,reduceCtorEq,Nat.reduceMul,Int.reduceLT,Int.reduceLE,Int.reduceToNat]
  rfl
 ·try simp only[I,B,D,RX,↓KW,Nat.reduceBEq,Nat.reduceAdd,Nat.reduceLeDiff,Int.reduceNe,Int.reduceBEq,Int.reduceEq,reduceCtorEq,Nat.reduceMul,Int.reduceLT,Int.reduceLE,Int.reduceToNat,JB]
  rfl
theorem IX.ok{f1 e fW fS fT:Nat} (hc:dY P f=some (jQ f1 e fW fS fT)) (h1:Cy.Spec (Pure P) f1) (hW:within.Spec (Pure P) fW) (hS:Cx.Spec (Pure P) fS) (hT:oQ.Spec (Pure P) fT):IX.Spec (Pure P) f:=by
 intro d hd
 have c1:=hW 7 (some [d.phase]) (by simp)
 have c2:=h1 d.on
 have c3:=h1 d.off
 have c4:=hS d.delay hd.2.2.1
 have c5:=hS d.extend hd.2.2.2
 have c6:=hT (some [d.maxOn,d.kS]) (by simp)
 simp only[Option.getD_some]at c1 c6;rw[gi];generalize[d.phase].all (wI 7)=b1 at*;generalize lvl d.on=b2 at*;generalize lvl d.off=b3 at*;generalize eM d.delay=b4 at*;generalize eM d.extend=b5 at*;generalize[d.maxOn,d.kS].all (wI 9999)=b6 at*
 refine aH hm hc (by show 1<=38;decide) (ay (keep:=[]) (i:=0) ?_)
 try simp only[I,B,D,RX,↓KW,Nat.reduceBEq,Nat.reduceAdd,Nat.reduceLeDiff,Int.reduceNe,Int.reduceBEq,Int.reduceEq,reduceCtorEq,Nat.reduceMul,Int.reduceLT,Int.reduceLE,Int.reduceToNat,jQ,Z.H,gQ.cells]
 refine aj c1 ?_;cases b1
 ·try simp only[I,B,D,RX,↓KW,Nat.reduceBEq,Nat.reduceAdd,Nat.reduceLeDiff,Int.reduceNe,Int.reduceBEq,Int.reduceEq,reduceCtorEq,Nat.reduceMul,Int.reduceLT,Int.reduceLE,Int.reduceToNat]
  rfl
 try simp only[I,B,D,RX,↓KW,Nat.reduceBEq,Nat.reduceAdd,Nat.reduceLeDiff,Int.reduceNe,Int.reduceBEq,Int.reduceEq,reduceCtorEq,Nat.reduceMul,Int.reduceLT,Int.reduceLE,Int.reduceToNat]
 refine aj c2 ?_;cases b2
 ·try simp only[I,B,D,RX,↓KW,Nat.reduceBEq,Nat.reduceAdd,Nat.reduceLeDiff,Int.reduceNe,Int.reduceBEq,Int.reduceEq,reduceCtorEq,Nat.reduceMul,Int.reduceLT,Int.reduceLE,Int.reduceToNat]
  rfl
 try simp only[I,B,D,RX,↓KW,Nat.reduceBEq,Nat.reduceAdd,Nat.reduceLeDiff,Int.reduceNe,Int.reduceBEq,Int.reduceEq,reduceCtorEq,Nat.reduceMul,Int.reduceLT,Int.reduceLE,Int.reduceToNat]
 refine aj c3 ?_;cases b3
 ·try simp only[I,B,D,RX,↓KW,Nat.reduceBEq,Nat.reduceAdd,Nat.reduceLeDiff,Int.reduceNe,Int.reduceBEq,Int.reduceEq,reduceCtorEq,Nat.reduceMul,Int.reduceLT,Int.reduceLE,Int.reduceToNat]
  rfl
 try simp only[I,B,D,RX,↓KW,Nat.reduceBEq,Nat.reduceAdd,Nat.reduceLeDiff,Int.reduceNe,Int.reduceBEq,Int.reduceEq,reduceCtorEq,Nat.reduceMul,Int.reduceLT,Int.reduceLE,Int.reduceToNat]
 refine aj c4 ?_;cases b4
 ·try simp only[I,B,D,RX,↓KW,Nat.reduceBEq,Nat.reduceAdd,Nat.reduceLeDiff,Int.reduceNe,Int.reduceBEq,Int.reduceEq,reduceCtorEq,Nat.reduceMul,Int.reduceLT,Int.reduceLE,Int.reduceToNat]
  rfl
 try simp only[I,B,D,RX,↓KW,Nat.reduceBEq,Nat.reduceAdd,Nat.reduceLeDiff,Int.reduceNe,Int.reduceBEq,Int.reduceEq,reduceCtorEq,Nat.reduceMul,Int.reduceLT,Int.reduceLE,Int.reduceToNat]
 refine aj c5 ?_;cases b5
 ·try simp only[I,B,D,RX,↓KW,Nat.reduceBEq,Nat.reduceAdd,Nat.reduceLeDiff,Int.reduceNe,Int.reduceBEq,Int.reduceEq,reduceCtorEq,Nat.reduceMul,Int.reduceLT,Int.reduceLE,Int.reduceToNat]
  rfl
 try simp only[I,B,D,RX,↓KW,Nat.reduceBEq,Nat.reduceAdd,Nat.reduceLeDiff,Int.reduceNe,Int.reduceBEq,Int.reduceEq,reduceCtorEq,Nat.reduceMul,Int.reduceLT,Int.reduceLE,Int.reduceToNat]
 refine aj c6 ?_;try simp only[I,B,D,RX,↓KW,Nat.reduceBEq,Nat.reduceAdd,Nat.reduceLeDiff,Int.reduceNe,Int.reduceBEq,Int.reduceEq,reduceCtorEq,Nat.reduceMul,Int.reduceLT,Int.reduceLE,Int.reduceToNat]
 rfl
theorem Cz.ok{e fW fT:Nat} (hc:dY P f=some (nD e fW fT)) (hW:within.Spec (Pure P) fW) (hT:oQ.Spec (Pure P) fT):Cz.Spec (Pure P) f:=by
 intro r
 have c1:=hW 255 (some [r.bars,r.clear,r.jK,r.exit]) (by simp)
 have c2:=hT (some [r.delay,r.green,r.kT,r.hold,r.stay,r.most]) (by simp)
 have c3:=hW 2147483647 (some [r.limit]) (by simp)
 simp only[Option.getD_some]at c1 c2 c3;rw[sA];generalize[r.bars,r.clear,r.jK,r.exit].all (wI 255)=b1 at*;generalize[r.delay,r.green,r.kT,r.hold,r.stay,r.most].all (wI 9999)=b2 at*;generalize[r.limit].all (wI 2147483647)=b3 at*
 refine aH hm hc (by show 1<=35;decide) (ay (keep:=[]) (i:=0) ?_)
 try simp only[I,B,D,RX,↓KW,Nat.reduceBEq,Nat.reduceAdd,Nat.reduceLeDiff,Int.reduceNe,Int.reduceBEq,Int.reduceEq,reduceCtorEq,Nat.reduceMul,Int.reduceLT,Int.reduceLE,Int.reduceToNat,nD,Z.H,Rl.cells]
 refine aj c1 ?_;cases b1
 ·try simp only[I,B,D,RX,↓KW,Nat.reduceBEq,Nat.reduceAdd,Nat.reduceLeDiff,Int.reduceNe,Int.reduceBEq,Int.reduceEq,reduceCtorEq,Nat.reduceMul,Int.reduceLT,Int.reduceLE,Int.reduceToNat]
  rfl
 try simp only[I,B,D,RX,↓KW,Nat.reduceBEq,Nat.reduceAdd,Nat.reduceLeDiff,Int.reduceNe,Int.reduceBEq,Int.reduceEq,reduceCtorEq,Nat.reduceMul,Int.reduceLT,Int.reduceLE,Int.reduceToNat]
 refine aj c2 ?_;cases b2
 ·try simp only[I,B,D,RX,↓KW,Nat.reduceBEq,Nat.reduceAdd,Nat.reduceLeDiff,Int.reduceNe,Int.reduceBEq,Int.reduceEq,reduceCtorEq,Nat.reduceMul,Int.reduceLT,Int.reduceLE,Int.reduceToNat]
  rfl
 try simp only[I,B,D,RX,↓KW,Nat.reduceBEq,Nat.reduceAdd,Nat.reduceLeDiff,Int.reduceNe,Int.reduceBEq,Int.reduceEq,reduceCtorEq,Nat.reduceMul,Int.reduceLT,Int.reduceLE,Int.reduceToNat]
 refine aj c3 ?_;try simp only[I,B,D,RX,↓KW,Nat.reduceBEq,Nat.reduceAdd,Nat.reduceLeDiff,Int.reduceNe,Int.reduceBEq,Int.reduceEq,reduceCtorEq,Nat.reduceMul,Int.reduceLT,Int.reduceLE,Int.reduceToNat]
 rfl
theorem IY.ok{e fW fT:Nat} (hc:dY P f=some (oO e fW fT)) (hW:within.Spec (Pure P) fW) (hT:oQ.Spec (Pure P) fT):IY.Spec (Pure P) f:=by
 intro b
 have c1:=hW 255 (some [b.set]) (by simp)
 have c2:=hT (some [b.lock]) (by simp)
 simp only[Option.getD_some]at c1 c2;rw[sB];generalize[b.set].all (wI 255)=b1 at*;generalize[b.lock].all (wI 9999)=b2 at*
 refine aH hm hc (by show 1<=13;decide) (ay (keep:=[]) (i:=0) ?_)
 try simp only[I,B,D,RX,↓KW,Nat.reduceBEq,Nat.reduceAdd,Nat.reduceLeDiff,Int.reduceNe,Int.reduceBEq,Int.reduceEq,reduceCtorEq,Nat.reduceMul,Int.reduceLT,Int.reduceLE,Int.reduceToNat,oO,Z.H,Bs.cells]
 refine aj c1 ?_;cases b1
 ·try simp only[I,B,D,RX,↓KW,Nat.reduceBEq,Nat.reduceAdd,Nat.reduceLeDiff,Int.reduceNe,Int.reduceBEq,Int.reduceEq,reduceCtorEq,Nat.reduceMul,Int.reduceLT,Int.reduceLE,Int.reduceToNat]
  rfl
 try simp only[I,B,D,RX,↓KW,Nat.reduceBEq,Nat.reduceAdd,Nat.reduceLeDiff,Int.reduceNe,Int.reduceBEq,Int.reduceEq,reduceCtorEq,Nat.reduceMul,Int.reduceLT,Int.reduceLE,Int.reduceToNat]
 refine aj c2 ?_;try simp only[I,B,D,RX,↓KW,Nat.reduceBEq,Nat.reduceAdd,Nat.reduceLeDiff,Int.reduceNe,Int.reduceBEq,Int.reduceEq,reduceCtorEq,Nat.reduceMul,Int.reduceLT,Int.reduceLE,Int.reduceToNat]
 rfl
theorem Ga.ok{fEP fP fEG fG fW fED fD fER fR fEB fB e fT:Nat} (hc:dY P f=some (oN fEP fP fEG fG fW fED fD fER fR fEB fB e fT)) (hEP:Up.Spec (Pure P) fEP) (hP:yy.Spec (Pure P) fP) (hEG:Uq.Spec (Pure P) fEG) (hG:yz.Spec (Pure P) fG)
  (hW:within.Spec (Pure P) fW) (hED:Ur.Spec (Pure P) fED) (hD:IX.Spec (Pure P) fD) (hER:Us.Spec (Pure P) fER) (hR:Cz.Spec (Pure P) fR) (hEB:Ut.Spec (Pure P) fEB) (hB:IY.Spec (Pure P) fB) (hT:oQ.Spec (Pure P) fT):Ga.Spec (Pure P) f:=by
 intro t h hfw
 have c1:=hEP (some t.phases) 8 fP [] [] qJ (by decide) (fun p _=>hP p)
 have c2:=hEG t.groups 4 fG [] [] ni (by decide) (fun g _=>hG g)
 have c3:=hW 255 (some t.conflict) (by simp[h.conflict])
 have c4:=hED t.aI 16 fD [] [] gi (by decide) (fun d hd=>hD d (hfw d hd))
 have c5:=hER t.aZ 4 fR [] [] sA (by decide) (fun g _=>hR g)
 have c6:=hEB t.bS 4 fB [] [] sB (by decide) (fun g _=>hB g)
 have c7:=hT (some [t.extend,t.dB,t.start,t.revert,t.least]) (by simp)
 have c8:=hW 2 (some t.bA) (by simp[h.bA])
 have c9:=hW 2147483647 (some [t.d9,t.share]) (by simp)
 simp only[Option.getD_some]at c1 c2 c3 c4 c5 c6 c7 c8 c9
 have h8:decide ((t.phases.length:Int)<=8)=true:=by simp[h.phases]
 rw[h8,Bool.true_and]at c1;rw[oP];generalize t.phases.all qJ=b1 at*;generalize(decide (((t.groups.getD []).length:Int)<=4)&&(t.groups.getD []).all ni)=b2 at*;generalize t.conflict.all (wI 255)=b3 at*;generalize(decide (((t.aI.getD []).length:Int)<=16)&&(t.aI.getD []).all gi)=b4 at*
 generalize(decide (((t.aZ.getD []).length:Int)<=4)&&(t.aZ.getD []).all sA)=b5 at*;generalize(decide (((t.bS.getD []).length:Int)<=4)&&(t.bS.getD []).all sB)=b6 at*;generalize[t.extend,t.dB,t.start,t.revert,t.least].all (wI 9999)=b7 at*;generalize t.bA.all (wI 2)=b8 at*
 generalize[t.d9,t.share].all (wI 2147483647)=b9 at*
 have hw:=h.whole
 have hl:=h.len
 have k1:=P9 h
 have k2:=IT h
 have k3:=IU h
 have g1:=dH (IV h)
 have g2:=dH h.EF
 have g3:=dH h.Ct
 have g4:=dH h.EG
 obtain⟨n1,n2,n3,n4,n5,n6,n7⟩:=EK h
 have m1:=dH n1
 have m2:=dH n2
 have m3:=dH n3
 have m4:=dH n4
 have m5:=dH n5
 have m6:=dH n6
 have m7:=dH n7
 refine aH hm hc (by show 1<=58;decide) (ay (keep:=[]) (i:=0) ?_)
 try simp only[I,B,D,RX,↓KW,Nat.reduceBEq,Nat.reduceAdd,Nat.reduceLeDiff,Int.reduceNe,Int.reduceBEq,Int.reduceEq,reduceCtorEq,Nat.reduceMul,Int.reduceLT,Int.reduceLE,Int.reduceToNat,oN,Z.H,hl,k1,k2,k3,g1,g2,g3,g4,m1,m2,m3,m4,m5,m6,m7,List.drop_zero,List.length_drop]
 refine aj c1 ?_;cases b1
 ·try simp only[I,B,D,RX,↓KW,Nat.reduceBEq,Nat.reduceAdd,Nat.reduceLeDiff,Int.reduceNe,Int.reduceBEq,Int.reduceEq,reduceCtorEq,Nat.reduceMul,Int.reduceLT,Int.reduceLE,Int.reduceToNat,hl,k1,k2,k3,g1,g2,g3,g4,m1,m2,m3,m4,m5,m6,m7,List.drop_zero,List.length_drop]
  rfl
 try simp only[I,B,D,RX,↓KW,Nat.reduceBEq,Nat.reduceAdd,Nat.reduceLeDiff,Int.reduceNe,Int.reduceBEq,Int.reduceEq,reduceCtorEq,Nat.reduceMul,Int.reduceLT,Int.reduceLE,Int.reduceToNat,hl,k1,k2,k3,g1,g2,g3,g4,m1,m2,m3,m4,m5,m6,m7,List.drop_zero,List.length_drop]
 refine aj c2 ?_;cases b2
 ·try simp only[I,B,D,RX,↓KW,Nat.reduceBEq,Nat.reduceAdd,Nat.reduceLeDiff,Int.reduceNe,Int.reduceBEq,Int.reduceEq,reduceCtorEq,Nat.reduceMul,Int.reduceLT,Int.reduceLE,Int.reduceToNat,hl,k1,k2,k3,g1,g2,g3,g4,m1,m2,m3,m4,m5,m6,m7,List.drop_zero,List.length_drop]
  rfl
 try simp only[I,B,D,RX,↓KW,Nat.reduceBEq,Nat.reduceAdd,Nat.reduceLeDiff,Int.reduceNe,Int.reduceBEq,Int.reduceEq,reduceCtorEq,Nat.reduceMul,Int.reduceLT,Int.reduceLE,Int.reduceToNat,hl,k1,k2,k3,g1,g2,g3,g4,m1,m2,m3,m4,m5,m6,m7,List.drop_zero,List.length_drop]
 refine⟨by omega,?_⟩
 refine aj c3 ?_;cases b3
 ·try simp only[I,B,D,RX,↓KW,Nat.reduceBEq,Nat.reduceAdd,Nat.reduceLeDiff,Int.reduceNe,Int.reduceBEq,Int.reduceEq,reduceCtorEq,Nat.reduceMul,Int.reduceLT,Int.reduceLE,Int.reduceToNat,hl,k1,k2,k3,g1,g2,g3,g4,m1,m2,m3,m4,m5,m6,m7,List.drop_zero,List.length_drop]
  rfl
 try simp only[I,B,D,RX,↓KW,Nat.reduceBEq,Nat.reduceAdd,Nat.reduceLeDiff,Int.reduceNe,Int.reduceBEq,Int.reduceEq,reduceCtorEq,Nat.reduceMul,Int.reduceLT,Int.reduceLE,Int.reduceToNat,hl,k1,k2,k3,g1,g2,g3,g4,m1,m2,m3,m4,m5,m6,m7,List.drop_zero,List.length_drop]
 refine aj c4 ?_;cases b4
 ·try simp only[I,B,D,RX,↓KW,Nat.reduceBEq,Nat.reduceAdd,Nat.reduceLeDiff,Int.reduceNe,Int.reduceBEq,Int.reduceEq,reduceCtorEq,Nat.reduceMul,Int.reduceLT,Int.reduceLE,Int.reduceToNat,hl,k1,k2,k3,g1,g2,g3,g4,m1,m2,m3,m4,m5,m6,m7,List.drop_zero,List.length_drop]
  rfl
 try simp only[I,B,D,RX,↓KW,Nat.reduceBEq,Nat.reduceAdd,Nat.reduceLeDiff,Int.reduceNe,Int.reduceBEq,Int.reduceEq,reduceCtorEq,Nat.reduceMul,Int.reduceLT,Int.reduceLE,Int.reduceToNat,hl,k1,k2,k3,g1,g2,g3,g4,m1,m2,m3,m4,m5,m6,m7,List.drop_zero,List.length_drop]
 refine aj c5 ?_;cases b5
 ·try simp only[I,B,D,RX,↓KW,Nat.reduceBEq,Nat.reduceAdd,Nat.reduceLeDiff,Int.reduceNe,Int.reduceBEq,Int.reduceEq,reduceCtorEq,Nat.reduceMul,Int.reduceLT,Int.reduceLE,Int.reduceToNat,hl,k1,k2,k3,g1,g2,g3,g4,m1,m2,m3,m4,m5,m6,m7,List.drop_zero,List.length_drop]
  rfl
 try simp only[I,B,D,RX,↓KW,Nat.reduceBEq,Nat.reduceAdd,Nat.reduceLeDiff,Int.reduceNe,Int.reduceBEq,Int.reduceEq,reduceCtorEq,Nat.reduceMul,Int.reduceLT,Int.reduceLE,Int.reduceToNat,hl,k1,k2,k3,g1,g2,g3,g4,m1,m2,m3,m4,m5,m6,m7,List.drop_zero,List.length_drop]
 refine aj c6 ?_;cases b6
 ·try simp only[I,B,D,RX,↓KW,Nat.reduceBEq,Nat.reduceAdd,Nat.reduceLeDiff,Int.reduceNe,Int.reduceBEq,Int.reduceEq,reduceCtorEq,Nat.reduceMul,Int.reduceLT,Int.reduceLE,Int.reduceToNat,hl,k1,k2,k3,g1,g2,g3,g4,m1,m2,m3,m4,m5,m6,m7,List.drop_zero,List.length_drop]
  rfl
 try simp only[I,B,D,RX,↓KW,Nat.reduceBEq,Nat.reduceAdd,Nat.reduceLeDiff,Int.reduceNe,Int.reduceBEq,Int.reduceEq,reduceCtorEq,Nat.reduceMul,Int.reduceLT,Int.reduceLE,Int.reduceToNat,hl,k1,k2,k3,g1,g2,g3,g4,m1,m2,m3,m4,m5,m6,m7,List.drop_zero,List.length_drop]
 refine aj c7 ?_;cases b7
 ·try simp only[I,B,D,RX,↓KW,Nat.reduceBEq,Nat.reduceAdd,Nat.reduceLeDiff,Int.reduceNe,Int.reduceBEq,Int.reduceEq,reduceCtorEq,Nat.reduceMul,Int.reduceLT,Int.reduceLE,Int.reduceToNat,hl,k1,k2,k3,g1,g2,g3,g4,m1,m2,m3,m4,m5,m6,m7,List.drop_zero,List.length_drop]
  rfl
 try simp only[I,B,D,RX,↓KW,Nat.reduceBEq,Nat.reduceAdd,Nat.reduceLeDiff,Int.reduceNe,Int.reduceBEq,Int.reduceEq,reduceCtorEq,Nat.reduceMul,Int.reduceLT,Int.reduceLE,Int.reduceToNat,hl,k1,k2,k3,g1,g2,g3,g4,m1,m2,m3,m4,m5,m6,m7,List.drop_zero,List.length_drop]
 refine⟨by omega,?_⟩
 refine aj c8 ?_;cases b8
 ·try simp only[I,B,D,RX,↓KW,Nat.reduceBEq,Nat.reduceAdd,Nat.reduceLeDiff,Int.reduceNe,Int.reduceBEq,Int.reduceEq,reduceCtorEq,Nat.reduceMul,Int.reduceLT,Int.reduceLE,Int.reduceToNat,hl,k1,k2,k3,g1,g2,g3,g4,m1,m2,m3,m4,m5,m6,m7,List.drop_zero,List.length_drop]
  rfl
 try simp only[I,B,D,RX,↓KW,Nat.reduceBEq,Nat.reduceAdd,Nat.reduceLeDiff,Int.reduceNe,Int.reduceBEq,Int.reduceEq,reduceCtorEq,Nat.reduceMul,Int.reduceLT,Int.reduceLE,Int.reduceToNat,hl,k1,k2,k3,g1,g2,g3,g4,m1,m2,m3,m4,m5,m6,m7,List.drop_zero,List.length_drop]
 refine aj c9 ?_;try simp only[I,B,D,RX,↓KW,Nat.reduceBEq,Nat.reduceAdd,Nat.reduceLeDiff,Int.reduceNe,Int.reduceBEq,Int.reduceEq,reduceCtorEq,Nat.reduceMul,Int.reduceLT,Int.reduceLE,Int.reduceToNat]
 rfl
end
def aY.rest'(r:aY):List Int:=(r.b.getD []).drop r.fm.toNat
def aY.go(r:aY) (n:Nat):aY:={r with fm:=r.fm+(n:Int)}
def nE(l:List Int):Prop:=∀x∈l,0<=x/\x<256
def aY.nE(r:aY):Prop:=Go.Eng.nE (r.b.getD [])
theorem wK{r:aY} (h:r.Ok) {l tl:List Int} (e:r.rest'=l++tl):(r.go l.length).rest'=tl:=by
 have h0:=h.1
 unfold aY.rest' aY.go at*
 show(r.b.getD []).drop (r.fm+(l.length:Int)).toNat=tl
 rw[show(r.fm+(l.length:Int)).toNat=r.fm.toNat+l.length by omega,<-List.drop_drop,e,List.drop_left]
theorem MS(r:aY) (n m:Nat):(r.go n).go m=r.go (n+m):=by
 unfold aY.go;simp;omega
theorem EL(r:aY):r.go 0=r:=by unfold aY.go;simp
theorem ob{r:aY} (h:r.Ok):((r.rest').length:Int)=r.len-r.fm:=by
 obtain⟨h1,h2,h3⟩:=h;simp only[aY.len]at*;simp[aY.rest'];omega
structure Cd (α:Type) where
 m:aY->α×aY
 e:α->List Int
 v:α->Prop
 ok:∀r,r.Ok->(m r).2.Ok
 keep:∀r,(m r).2.b=r.b
 stay:∀r,r.code≠0->(m r).2=r
 back:∀r x tl,r.Ok->r.code=0->v x->r.rest'=e x++tl->m r=(x,r.go (e x).length)
 wrote:∀r,r.Ok->r.nE->r.code=0->(m r).2.code=0->v (m r).1/\∃tl,r.rest'=e (m r).1++tl/\(m r).2=r.go (e (m r).1).length
 cut:∀r x tl,r.Ok->r.code=0->v x->e x=r.rest'++tl->tl≠[]->(m r).2.code=2/\(m r).2.Ip=r.len
 Mc:∀x,nE (e x)
section
variable{α β:Type}
def Cd.seq(a:Cd α) (b:α->Cd β):Cd (α×β) where
 m r:=(((a.m r).1,((b (a.m r).1).m (a.m r).2).1),((b (a.m r).1).m (a.m r).2).2)
 e x:=a.e x.1++(b x.1).e x.2
 v x:=a.v x.1/\(b x.1).v x.2
 ok r h:=(b _).ok _ (a.ok r h)
 keep r:=((b _).keep _).trans (a.keep r)
 stay r h:=by
  have e:=a.stay r h
  exact((b (a.m r).1).stay (a.m r).2 (by rw[e];exact h)).trans e
 back r x tl hr h0 hv he:=by
  rw[List.append_assoc]at he
  have h1:=a.back r x.1 _ hr h0 hv.1 he
  have hr2:(r.go (a.e x.1).length).Ok:=by have:=a.ok r hr;rw[h1]at this;exact this
  have h2:=(b x.1).back (r.go (a.e x.1).length) x.2 tl hr2 h0 hv.2 (wK hr he)
  simp only[h1,h2,MS,List.length_append]
 wrote r hr hb h0 hc:=by
  by_cases hc1:(a.m r).2.code=0
  ·obtain⟨v1,tl1,e1,g1⟩:=a.wrote r hr hb h0 hc1
   have hr2:=a.ok r hr
   obtain⟨v2,tl2,e2,g2⟩:=(b (a.m r).1).wrote (a.m r).2 hr2 (by unfold aY.nE;rw[a.keep];exact hb) hc1 hc
   refine⟨⟨v1,v2⟩,tl2,?_,?_⟩
   ·rw[List.append_assoc,<-e2,e1,g1,wK hr e1]
   ·show((b (a.m r).1).m (a.m r).2).2=_
    rw[g2,List.length_append,<-MS,<-g1]
  ·exfalso
   have:=(b (a.m r).1).stay (a.m r).2 hc1
   rw[this]at hc;exact hc1 hc
 cut r x tl hr h0 hv he ht:=by
  have up:∀c,a.e x.1=r.rest'++c->c≠[]->((b (a.m r).1).m (a.m r).2).2.code=2/\((b (a.m r).1).m (a.m r).2).2.Ip=r.len:=by
   intro c hc hn;obtain⟨h1,h2⟩:=a.cut r x.1 c hr h0 hv.1 hc hn
   rw[(b (a.m r).1).stay (a.m r).2 (by rw[h1];decide)]
   exact⟨h1,h2⟩
  have dn:∀c,r.rest'=a.e x.1++c->(b x.1).e x.2=c++tl->((b (a.m r).1).m (a.m r).2).2.code=2/\((b (a.m r).1).m (a.m r).2).2.Ip=r.len:=by
   intro c hc h2
   have h1:=a.back r x.1 _ hr h0 hv.1 hc
   have hr2:(r.go (a.e x.1).length).Ok:=by have:=a.ok r hr;rw[h1]at this;exact this
   rw[h1]
   exact(b x.1).cut (r.go (a.e x.1).length) x.2 tl hr2 h0 hv.2 (by rw[wK hr hc];exact h2) ht
  rcases List.append_eq_append_iff.1 he with⟨c,h1,h2⟩|⟨c,h1,h2⟩
  ·exact dn c h1 h2
  ·by_cases hn:c=[]
   ·subst hn;exact dn [] (by simpa using h1.symm) (by simpa using h2.symm)
   ·exact up c h1 hn
 Mc x y hy:=by
  rcases List.mem_append.1 hy with h|h
  ·exact a.Mc _ y h
  ·exact(b _).Mc _ y h
def Cd.map(a:Cd α) (f:α->β) (g:β->α) (h:∀x,a.v x->g (f x)=x):Cd β where
 m r:=(f (a.m r).1,(a.m r).2)
 e y:=a.e (g y)
 v y:=a.v (g y)/\f (g y)=y
 ok:=a.ok
 keep:=a.keep
 stay:=a.stay
 back r y tl hr h0 hv he:=by simp only[a.back r (g y) tl hr h0 hv.1 he,hv.2]
 wrote r hr hb h0 hc:=by
  obtain⟨v1,tl,e1,g1⟩:=a.wrote r hr hb h0 hc
  have e:=h _ v1
  refine⟨⟨by rw[e];exact v1,by rw[e]⟩,tl,by rw[e];exact e1,by rw[e];exact g1⟩
 cut r y tl hr h0 hv he ht:=a.cut r (g y) tl hr h0 hv.1 he ht
 Mc y:=a.Mc (g y)
def Cd.none:Cd (List α) where
 m r:=([],r)
 e _:=[]
 v l:=l=[]
 ok r h:=h
 keep r:=rfl
 stay r h:=rfl
 back r x tl hr h0 hv he:=by subst hv;simp[EL]
 wrote r hr hb h0 hc:=⟨rfl,r.rest',rfl,by simp[EL]⟩
 cut r x tl hr h0 hv he ht:=by
  exfalso
  have:=congrArg List.length he
  simp at this
  exact ht (List.length_eq_zero_iff.1 (by omega))
 Mc x y hy:=by cases hy
def Cd.rep(c:Cd α):Nat->Cd (List α)
 |0=>Cd.none
 |n+1=>(c.seq fun _=>c.rep n).map (fun p=>p.1::p.2) (fun l=>(l.head?.getD (c.m ⟨Option.none,0,1,0⟩).1,l.tail)) (fun x _=>rfl)
theorem CA(c:Cd α):∀(n:Nat) (l:List α),l.length=n->(c.rep n).e l=l.flatMap c.e
 |0,[],_=>rfl
 |n+1,x::l,h=>by
  show c.e x++(c.rep n).e l=_
  rw[CA c n l (by simpa using h)];rfl
theorem EM(c:Cd α):∀(n:Nat) (l:List α),(c.rep n).v l↔l.length=n/\∀x∈l,c.v x
 |0,l=>by
  show l=[]↔_
  constructor
  ·rintro rfl;simp
  ·rintro⟨h,_⟩;simpa using h
 |n+1,[]=>by
  constructor
  ·rintro⟨_,h⟩;cases h
  ·rintro⟨h,_⟩;cases h
 |n+1,x::l=>by
  show((c.v x/\(c.rep n).v l)/\x::l=x::l)↔_
  rw[EM c n l];simp;constructor
  ·rintro⟨h1,h2,h3⟩;exact⟨h2,h1,h3⟩
  ·rintro⟨h2,h1,h3⟩;exact⟨h1,h2,h3⟩
def Cd.many(n:Cd Int) (c:Cd α) (hn:∀x,n.v x->0<=x):Cd (List α):=
 (n.seq fun k=>c.rep k.toNat).map (fun p=>p.2) (fun l=>((l.length:Int),l)) (fun x hx=>by
  obtain⟨k,l⟩:=x;obtain⟨h1,h2⟩:=hx
  have h3:=((EM c _ _).1 h2).1
  have:=hn _ h1
  simp only at h3⊢
  rw[h3,Int.toNat_of_nonneg this])
theorem yA{n:Cd Int} {c:Cd α} {hn:∀x,n.v x->0<=x} (l:List α):(Cd.many n c hn).v l↔n.v (l.length:Int)/\∀x∈l,c.v x:=by
 show((n.v (l.length:Int)/\(c.rep (l.length:Int).toNat).v l)/\l=l)↔_
 rw[EM];simp
theorem yB{n:Cd Int} {c:Cd α} {hn:∀x,n.v x->0<=x} (l:List α):(Cd.many n c hn).e l=n.e (l.length:Int)++l.flatMap c.e:=by
 show n.e (l.length:Int)++(c.rep (l.length:Int).toNat).e l=_
 rw[CA _ _ _ (by simp)]
end
theorem A7{n m:Int}:∀(k:Nat),n%256^k=m%256^k->mJ n k=mJ m k
 |0,_=>rfl
 |k+1,h=>by
  have hp:=tq k
  have e:n%256^k=m%256^k:=by
   have:=congrArg (· %(256:Int)^k) h
   simp only[Int.pow_succ]at this
   rwa[Int.emod_emod_of_dvd _ (Int.dvd_mul_right _ _),Int.emod_emod_of_dvd _ (Int.dvd_mul_right _ _)]at this
  have d:n/256^k%256=m/256^k%256:=by
   have h1:=yf n k
   have h2:=yf m k
   rw[h,<-h2,e]at h1
   have h3:n/256^k%256*256^k=m/256^k%256*256^k:=by omega
   exact Int.eq_of_mul_eq_mul_right (by omega) h3
  show mD n k::mJ n k=mD m k::mJ m k
  rw[jN,jN,d,A7 k e]
theorem wL:∀(l:List Int),nE l->l.length<=8->∀v:Int,0<=v->v*256^l.length+256^l.length<=18446744073709551616->l.foldl je v=v*256^l.length+ff l/\0<=ff l/\ff l<256^l.length
 |[],_,_,v,_,_=>by simp[ff]
 |c::l,hb,hl,v,hv,hx=>by
  have hp:=tq l.length
  have hc:=hb c List.mem_cons_self
  have hb':nE l:=fun x hx=>hb x (List.mem_cons_of_mem _ hx)
  have hl':l.length<=8:=by simp at hl;omega
  simp only[List.length_cons,Int.pow_succ]at hx⊢
  have i0:=wL l hb' hl' c hc.1
  have i1:=wL l hb' hl' (v*256+c)
  have e0:ff (c::l)=l.foldl je c:=by
   show l.foldl je (je 0 c)=_
   rw[uk (by omega) (by omega) hc.1 hc.2];simp
  have e1:(c::l).foldl je v=l.foldl je (je v c):=rfl
  rw[e0,e1];generalize(256:Int)^l.length=b at hp hx i0 i1⊢
  have g1:v*256<=v*(b*256):=Int.mul_le_mul_of_nonneg_left (by omega) hv
  have g2:c*b<=255*b:=Int.mul_le_mul_of_nonneg_right (by omega) (by omega)
  have g3:(v*256+c)*b=v*(b*256)+c*b:=by rw[Int.add_mul,Int.mul_assoc,Int.mul_comm 256 b]
  have g4:0<=v*(b*256):=Int.mul_nonneg hv (by omega)
  have g5:0<=c*b:=Int.mul_nonneg hc.1 (by omega)
  obtain⟨j1,j2,j3⟩:=i0 (by omega)
  obtain⟨k1,_,_⟩:=i1 (by omega) (by omega)
  rw[uk hv (by omega) hc.1 hc.2,k1,j1,g3]
  refine⟨by omega,by omega,by omega⟩
theorem Uw{k:Nat} (h:k<=8):(256:Int)^k<=18446744073709551616:=by
 have:k=0\/k=1\/k=2\/k=3\/k=4\/k=5\/k=6\/k=7\/k=8:=by omega
 rcases this with rfl|rfl|rfl|rfl|rfl|rfl|rfl|rfl|rfl<;>decide
theorem wM{l:List Int} (hb:nE l) (hl:l.length<=8):0<=ff l/\ff l<256^l.length:=(wL l hb hl 0 (by omega) (by have:=Uw hl;omega)).2
theorem qK:∀(l:List Int),nE l->l.length<=8->mJ (ff l) l.length=l
 |[],_,_=>rfl
 |c::l,hb,hl=>by
  have hc:=hb c List.mem_cons_self
  have hb':nE l:=fun x hx=>hb x (List.mem_cons_of_mem _ hx)
  have hl':l.length<=7:=by simp at hl;omega
  have hp:=tq l.length
  have e0:ff (c::l)=c*256^l.length+ff l:=by
   have:ff (c::l)=l.foldl je c:=by
    show l.foldl je (je 0 c)=_
    rw[uk (by omega) (by omega) hc.1 hc.2];simp
   rw[this]
   refine(wL l hb' (by omega) c hc.1 ?_).1
   have h8:=Uw (k:=l.length+1) (by omega)
   rw[Int.pow_succ]at h8
   have:c*256^l.length<=255*256^l.length:=Int.mul_le_mul_of_nonneg_right (by omega) (by omega)
   omega
  have hin:=wM hb' (by omega)
  have d:ff (c::l)/256^l.length=c:=by
   rw[e0,Int.add_comm,Int.add_mul_ediv_right _ _ (by omega),Int.ediv_eq_zero_of_lt hin.1 hin.2];omega
  show mD (ff (c::l)) l.length::mJ (ff (c::l)) l.length=c::l
  rw[jN,d,show c%256=c by omega]
  congr 1
  rw[<-qK l hb' (by omega)]
  rw[eP];refine A7 _ ?_
  rw[qK l hb' (by omega),e0]
  simp
theorem wN(n:Int):∀k,nE (mJ n k)
 |0,x,h=>by cases h
 |k+1,x,h=>by
  rcases List.mem_cons.1 h with e|h
  ·subst e;rw[jN];omega
  ·exact wN n k x h
theorem oc(r:aY) (h:r.Ok) (k:Nat):r.part (k:Int)=(r.rest').take k:=by
 have:=h.1
 unfold aY.part aY.rest'
 rw[List.take_drop,show(r.fm+(k:Int)).toNat=r.fm.toNat+k by omega]
theorem CB{k:Nat} (h:k<=7):kU (k:Int) 0 7=k:=by unfold kU;split<;>(try split)<;>omega
def pz(k:Nat) (hi:Int) (hk:k<=7) (hh:hi<256^k):Cd Int where
 m r:=eW r k 0 hi
 e n:=mJ n k
 v n:=0<=n/\n<=hi
 ok r h:=(wG h _ _ _).1
 keep r:=by
  unfold eW;simp only[];split
  ·unfold aY.fail;split<;>rfl
  ·split
   ·unfold aY.fail;split<;>rfl
   ·rfl
 stay r h:=by simp[eW,h,aY.fail]
 back r n tl hr h0 hv he:=by
  have hl:=ob hr
  rw[he,List.length_append,eP]at hl
  have hpt:r.part (k:Int)=mJ n k:=by rw[oc r hr,he];exact List.take_left' (eP n k)
  have h7:(256:Int)^k<=72057594037927936:=by
   have:k=0\/k=1\/k=2\/k=3\/k=4\/k=5\/k=6\/k=7:=by omega
   rcases this with rfl|rfl|rfl|rfl|rfl|rfl|rfl|rfl<;>decide
  have hn:ff (mJ n k)=n:=by rw[Cq n k (by omega),Int.emod_eq_of_lt hv.1 (by omega)]
  simp only[eW,CB hk,hpt,hn,bq (show -9223372036854775808<=n by omega) (by omega)]
  rw[if_neg (by omega),if_neg (by omega),eP]
  rfl
 wrote r hr hb h0 hc:=by
  have hl:=ob hr
  simp only[eW,CB hk]at hc⊢
  by_cases h1:(k:Int)<=r.len-r.fm
  ·rw[if_neg (by omega)]at hc⊢
   have hpl:((r.rest').take k).length=k:=by rw[List.length_take];omega
   have hbp:nE ((r.rest').take k):=fun x hx=>hb x (List.mem_of_mem_drop (List.mem_of_mem_take hx))
   rw[oc r hr]at hc⊢
   have hin:=wM hbp (by omega)
   have h7:(256:Int)^k<=72057594037927936:=by
    have:k=0\/k=1\/k=2\/k=3\/k=4\/k=5\/k=6\/k=7:=by omega
    rcases this with rfl|rfl|rfl|rfl|rfl|rfl|rfl|rfl<;>decide
   rw[hpl]at hin
   rw[bq (n:=ff _) (by omega) (by omega)]at hc⊢
   by_cases h2:ff ((r.rest').take k)<0\/hi<ff ((r.rest').take k)
   ·rw[if_pos h2]at hc
    simp[aY.fail,h0]at hc
   ·rw[if_neg h2]
    have hbn:=qK _ hbp (by omega)
    rw[hpl]at hbn
    refine⟨by simp only;omega,(r.rest').drop k,?_,?_⟩
    ·simp only[hbn,List.take_append_drop]
    ·simp only[hbn,hpl];rfl
  ·rw[if_pos (by omega)]at hc
   simp[aY.fail,h0]at hc
 cut r n tl hr h0 hv he ht:=by
  have hl:=ob hr
  have:(r.rest').length<k:=by
   have:=congrArg List.length he
   rw[eP,List.length_append]at this
   have:0<tl.length:=List.length_pos_iff.2 ht
   omega
  simp only[eW,CB hk]
  rw[if_pos (by omega)]
  simp[aY.fail,h0]
 Mc n:=wN n k
theorem yC(n:Int):IntKind.i64.wrap n%18446744073709551616=n%18446744073709551616:=by
 simp only[IntKind.wrap,IntKind.bits,IntKind.signed];simp;omega
def DL(b:Bool):Int:=if b then 1 else 0
def CC:Cd Bool:=(pz 1 1 (by decide) (by decide)).map (fun n=>n==1) DL (fun x hx=>by
 have:x=0\/x=1:=by have:=hx.1;have:=hx.2;omega
 rcases this with rfl|rfl<;>rfl)
theorem Qb(b:Bool):CC.v b:=by cases b<;>exact⟨by show _/\_;simp[DL],rfl⟩
def Qc(lv:Bool) (x:Nat):Bool:=if lv then lvl x else eM x
def jZ(lv:Bool) (r:aY):Nat×aY:=
 if(gG r).2.code=0 then
  if Qc lv (gG r).1=true then gG r else(0,{(gG r).2 with code:=4,Ip:=r.fm,fm:=r.fm})
 else(0,(gG r).2)
theorem DM(r:aY):(gG r).2.b=r.b:=by
 unfold gG;split
 ·unfold aY.fail;split<;>rfl
 ·rfl
def wh(lv:Bool):Cd Nat where
 m r:=jZ lv r
 e x:=mJ (IntKind.i64.wrap (x:Int)) 8
 v x:=x<2^64/\Qc lv x=true
 ok r h:=by
  have h2:=(uj h).1
  have h3:=(uj h).2
  unfold jZ;split
  ·split
   ·exact h2
   ·refine⟨h.1,?_,?_⟩
    ·show r.fm<=(gG r).2.len
     unfold aY.len;rw[h3];exact h.2.1
    ·exact h2.2.2
  ·exact h2
 keep r:=by
  unfold jZ;split
  ·split
   ·exact DM r
   ·exact DM r
  ·exact DM r
 stay r h:=by
  have:gG r=(0,r):=by simp[gG,h,aY.fail]
  simp[jZ,this,h]
 back r x tl hr h0 hv he:=by
  have hl:=ob hr
  rw[he,List.length_append,eP]at hl
  have hpt:r.part (8:Int)=mJ (IntKind.i64.wrap (x:Int)) 8:=by
   have:=oc r hr 8
   rw[he]at this
   rw[show(8:Int)=((8:Nat):Int)from rfl,this];exact List.take_left' (eP _ 8)
  have hn:(ff (mJ (IntKind.i64.wrap (x:Int)) 8)).toNat=x:=by
   rw[Cq _ 8 (by omega)]
   have:=yC (x:Int)
   show(IntKind.i64.wrap (x:Int)%18446744073709551616).toNat=x
   rw[this]
   have:=hv.1
   omega
  have hf:gG r=(x,r.go 8):=by
   unfold gG
   rw[if_neg (by omega),hpt,hn];rfl
  have h1:(gG r).2.code=0:=by rw[hf];exact h0
  unfold jZ;rw[if_pos h1,hf];simp only[hv.2,if_true,eP]
 wrote r hr hb h0 hc:=by
  have hl:=ob hr
  by_cases h1:(8:Int)<=r.len-r.fm
  ·have hf:gG r=((ff (r.part 8)).toNat,r.go 8):=by
    unfold gG
    rw[if_neg (by omega)];rfl
   have hcd:(gG r).2.code=0:=by rw[hf];exact h0
   have hpl:((r.rest').take 8).length=8:=by rw[List.length_take];omega
   have hbp:nE ((r.rest').take 8):=fun x hx=>hb x (List.mem_of_mem_drop (List.mem_of_mem_take hx))
   have hpr:r.part (8:Int)=(r.rest').take 8:=oc r hr 8
   have hin:=wM hbp (by omega)
   have hbn:=qK _ hbp (by omega)
   rw[hpl]at hin hbn
   have h256:(256:Int)^8=18446744073709551616:=by decide
   rw[h256]at hin
   have e8:mJ (IntKind.i64.wrap (((ff ((r.rest').take 8)).toNat:Nat):Int)) 8=(r.rest').take 8:=by
    refine Eq.trans (A7 (m:=ff ((r.rest').take 8)) 8 ?_) hbn
    rw[Int.toNat_of_nonneg hin.1,h256];exact yC _
   rw[hpr]at hf
   obtain⟨L,hL⟩:∃L,L=(r.rest').take 8:=⟨_,rfl⟩
   rw[<-hL]at hf hin e8 hbn
   by_cases h2:Qc lv (ff L).toNat=true
   ·have hs:jZ lv r=((ff L).toNat,r.go 8):=by unfold jZ;rw[if_pos hcd,hf];simp only[h2,if_true]
    rw[hs]
    refine⟨⟨by show(ff L).toNat<2^64;omega,h2⟩,(r.rest').drop 8,?_,?_⟩
    ·show r.rest'=mJ _ 8++_
     rw[e8,hL,List.take_append_drop]
    ·show r.go 8=r.go (mJ _ 8).length
     rw[eP]
   ·exfalso
    unfold jZ at hc;rw[if_pos hcd,hf]at hc;simp only[h2,if_false]at hc;simp at hc
  ·exfalso
   have hf:gG r=(0,r.fail 2 r.len):=by
    unfold gG
    rw[if_pos (by omega)]
   unfold jZ at hc;rw[hf]at hc;simp[aY.fail,h0]at hc
 cut r n tl hr h0 hv he ht:=by
  have hl:=ob hr
  have:(r.rest').length<8:=by
   have:=congrArg List.length he
   rw[eP,List.length_append]at this
   have:0<tl.length:=List.length_pos_iff.2 ht
   omega
  have hf:gG r=(0,r.fail 2 r.len):=by
   unfold gG
   rw[if_pos (by omega)]
  unfold jZ;rw[hf];simp[aY.fail,h0]
 Mc n:=wN _ 8
def aQ:Cd Int:=pz 2 9999 (by decide) (by decide)
def kL:Cd Int:=pz 1 255 (by decide) (by decide)
def dO:Cd Int:=pz 4 2147483647 (by decide) (by decide)
def dV(hi:Int) (h:hi<256):Cd Int:=pz 1 hi (by decide) (by simpa using h)
def zS:Cd Ph:=(CC.seq fun _=>aQ.seq fun _=>aQ.seq fun _=>aQ.seq fun _=>aQ.seq fun _=>aQ.seq fun _=>aQ.seq fun _=>aQ.seq fun _=>aQ.seq fun _=>aQ.seq fun _=>
  (dV 3 (by decide)).seq fun _=>CC.seq fun _=>CC).map
 (fun(a,b,c,d,e,f,g,h,i,j,k,l,m)=>⟨a,b,c,d,e,f,g,h,i,j,k,l,m⟩)
 (fun p=>(p.on,p.min,p.B5,p.max,p.top,p.step,p.d8,p.red,p.walk,p.ep,p.gY,p.lock,p.rest)) (fun _ _=>rfl)
def lR:Cd (List Int):=Cd.many (dV 8 (by decide)) (dV 7 (by decide)) (fun _ h=>h.1)
def CD:Cd Gr:=(lR.seq fun _=>lR).map (fun(a,b)=>⟨bw a,bw b⟩) (fun g=>(g.a.getD [],g.b.getD [])) (fun x _=>by simp only[cm])
def qL:Cd gQ:=((dV 7 (by decide)).seq fun _=>(wh true).seq fun _=>(wh true).seq fun _=>(wh false).seq fun _=>(wh false).seq fun _=>aQ.seq fun _=>aQ).map
 (fun(a,b,c,d,e,f,g)=>⟨a,b,c,d,e,f,g⟩) (fun d=>(d.phase,d.on,d.off,d.delay,d.extend,d.maxOn,d.kS)) (fun _ _=>rfl)
def CE:Cd Rl:=(kL.seq fun _=>kL.seq fun _=>kL.seq fun _=>kL.seq fun _=>aQ.seq fun _=>aQ.seq fun _=>aQ.seq fun _=>aQ.seq fun _=>aQ.seq fun _=>aQ.seq fun _=>dO).map
 (fun(a,b,c,d,e,f,g,h,i,j,k)=>⟨a,b,c,d,e,f,g,h,i,j,k⟩) (fun r=>(r.bars,r.clear,r.jK,r.exit,r.delay,r.green,r.kT,r.hold,r.stay,r.most,r.limit)) (fun _ _=>rfl)
def CF:Cd Bs:=(kL.seq fun _=>aQ).map (fun(a,b)=>⟨a,b⟩) (fun b=>(b.set,b.lock)) (fun _ _=>rfl)
def y9:Cd (List Gr):=Cd.many (dV 4 (by decide)) CD (fun _ h=>h.1)
def nj:Cd (List gQ):=Cd.many (dV 16 (by decide)) qL (fun _ h=>h.1)
def rL:Cd (List Rl):=Cd.many (dV 4 (by decide)) CE (fun _ h=>h.1)
def pE:Cd (List Bs):=Cd.many (dV 4 (by decide)) CF (fun _ h=>h.1)
def o6:Cd Tb:=((zS.rep 8).seq fun _=>y9.seq fun _=>(kL.rep 8).seq fun _=>nj.seq fun _=>rL.seq fun _=>pE.seq fun _=>
  aQ.seq fun _=>aQ.seq fun _=>aQ.seq fun _=>aQ.seq fun _=>aQ.seq fun _=>((dV 2 (by decide)).rep 8).seq fun _=>dO.seq fun _=>dO).map
 (fun(a,b,c,d,e,f,g,h,i,j,k,l,m,n)=>⟨a,bw b,c,bw d,bw e,bw f,g,h,i,j,k,l,m,n⟩)
 (fun t=>(t.phases,t.groups.getD [],t.conflict,t.aI.getD [],t.aZ.getD [],t.bS.getD [],t.extend,t.dB,t.start,t.revert,t.least,t.bA,t.d9,t.share))
 (fun x _=>by simp only[cm])
theorem ve{m n:Int}:wI m n=true↔0<=n/\n<=m:=by simp[wI]
theorem Ux(p:Ph):zS.v p↔qJ p=true:=by
 have e:zS.v p↔((CC.v p.on/\aQ.v p.min/\aQ.v p.B5/\aQ.v p.max/\aQ.v p.top/\aQ.v p.step/\aQ.v p.d8/\aQ.v p.red/\aQ.v p.walk/\aQ.v p.ep/\(dV 3 (by decide)).v p.gY/\CC.v p.lock/\CC.v p.rest)/\p=p):=Iff.rfl
 rw[e];simp only[Qb,aQ,dV,pz,qJ];simp[ve,and_assoc]
theorem IZ(l:List Int):lR.v l↔kY (some l)=true:=by
 unfold lR;rw[yA];simp only[dV,pz,kY];simp[ve]
theorem zT(l:Option (List Int)):kY l=kY (some (l.getD [])):=rfl
theorem Qd(d:gQ):qL.v d↔d.Fw/\gi d=true:=by
 have e:qL.v d↔(((dV 7 (by decide)).v d.phase/\(wh true).v d.on/\(wh true).v d.off/\(wh false).v d.delay/\(wh false).v d.extend/\aQ.v d.maxOn/\aQ.v d.kS)/\d=d):=Iff.rfl
 rw[e];simp only[aQ,dV,pz,wh,gi,Qc,gQ.Fw];simp[ve];constructor
 ·rintro⟨h1,⟨h2,h3⟩,⟨h4,h5⟩,⟨h6,h7⟩,⟨h8,h9⟩,h10,h11⟩
  exact⟨⟨h2,h4,h6,h8⟩,⟨⟨⟨⟨⟨h1,h3⟩,h5⟩,h7⟩,h9⟩,h10,h11⟩⟩
 ·rintro⟨⟨h2,h4,h6,h8⟩,⟨⟨⟨⟨⟨h1,h3⟩,h5⟩,h7⟩,h9⟩,h10,h11⟩⟩
  exact⟨h1,⟨h2,h3⟩,⟨h4,h5⟩,⟨h6,h7⟩,⟨h8,h9⟩,h10,h11⟩
theorem Uy(r:Rl):CE.v r↔sA r=true:=by
 have e:CE.v r↔((kL.v r.bars/\kL.v r.clear/\kL.v r.jK/\kL.v r.exit/\aQ.v r.delay/\aQ.v r.green/\aQ.v r.kT/\aQ.v r.hold/\aQ.v r.stay/\aQ.v r.most/\dO.v r.limit)/\r=r):=Iff.rfl
 rw[e];simp only[kL,aQ,dO,pz,sA];simp[ve,and_assoc]
theorem Uz(b:Bs):CF.v b↔sB b=true:=by
 have e:CF.v b↔((kL.v b.set/\aQ.v b.lock)/\b=b):=Iff.rfl
 rw[e];simp only[kL,aQ,pz,sB];simp[ve,and_assoc]
def Qe(g:Gr):Gr:=⟨bw (g.a.getD []),bw (g.b.getD [])⟩
theorem UA(g:Gr):CD.v g↔ni g=true/\Qe g=g:=by
 have e:CD.v g↔((lR.v (g.a.getD [])/\lR.v (g.b.getD []))/\Qe g=g):=Iff.rfl
 rw[e,IZ,IZ,ni,zT g.a,zT g.b,Bool.and_eq_true]
theorem Qf(l:List Gr):y9.v l↔(l.length:Int)<=4/\∀g∈l,ni g=true/\Qe g=g:=by
 unfold y9;rw[yA];simp only[UA,dV,pz];simp
theorem Md(l:List gQ):nj.v l↔(l.length:Int)<=16/\∀g∈l,g.Fw/\gi g=true:=by
 unfold nj;rw[yA];simp only[Qd,dV,pz];simp
theorem Qg(l:List Rl):rL.v l↔(l.length:Int)<=4/\∀g∈l,sA g=true:=by
 unfold rL;rw[yA];simp only[Uy,dV,pz];simp
theorem Qh(l:List Bs):pE.v l↔(l.length:Int)<=4/\∀g∈l,sB g=true:=by
 unfold pE;rw[yA];simp only[Uz,dV,pz];simp
theorem Gb(t:Tb):o6.v t↔(((t.phases.length=8/\∀p∈t.phases,qJ p=true)/\y9.v (t.groups.getD [])/\(t.conflict.length=8/\∀n∈t.conflict,wI 255 n=true)/\
  nj.v (t.aI.getD [])/\rL.v (t.aZ.getD [])/\pE.v (t.bS.getD [])/\wI 9999 t.extend=true/\wI 9999 t.dB=true/\wI 9999 t.start=true/\wI 9999 t.revert=true/\wI 9999 t.least=true/\
  (t.bA.length=8/\∀n∈t.bA,wI 2 n=true)/\wI 2147483647 t.d9=true/\wI 2147483647 t.share=true)/\
  ({t with groups:=bw (t.groups.getD []),aI:=bw (t.aI.getD []),aZ:=bw (t.aZ.getD []),bS:=bw (t.bS.getD [])}:Tb)=t):=by
 have e:o6.v t↔(((zS.rep 8).v t.phases/\y9.v (t.groups.getD [])/\(kL.rep 8).v t.conflict/\nj.v (t.aI.getD [])/\rL.v (t.aZ.getD [])/\pE.v (t.bS.getD [])/\
  aQ.v t.extend/\aQ.v t.dB/\aQ.v t.start/\aQ.v t.revert/\aQ.v t.least/\((dV 2 (by decide)).rep 8).v t.bA/\dO.v t.d9/\dO.v t.share)/\
  ({t with groups:=bw (t.groups.getD []),aI:=bw (t.aI.getD []),aZ:=bw (t.aZ.getD []),bS:=bw (t.bS.getD [])}:Tb)=t):=Iff.rfl
 rw[e];simp only[EM,Ux,ve];rfl
theorem I0{t:Tb} (h:o6.v t):t.Ln/\t.Fw/\oP t=true:=by
 rw[Gb,Qf,Md,Qg,Qh]at h;obtain⟨⟨⟨h1,h2⟩,⟨h3,h4⟩,⟨h5,h6⟩,⟨h7,h8⟩,⟨h9,h10⟩,⟨h11,h12⟩,h13,h14,h15,h16,h17,⟨h18,h19⟩,h20,h21⟩,_⟩:=h
 refine⟨⟨h1,h5,h18⟩,fun d hd=>(h8 d hd).1,?_⟩
 simp only[oP,Bool.and_eq_true,List.all_eq_true,decide_eq_true_eq,List.mem_cons,List.not_mem_nil,or_false,forall_eq_or_imp,forall_eq]
 exact⟨⟨⟨⟨⟨⟨⟨⟨h2,h3,fun g hg=>(h4 g hg).1⟩,h6⟩,h7,fun d hd=>(h8 d hd).2⟩,h9,h10⟩,h11,h12⟩,h13,h14,h15,h16,h17⟩,h19⟩,h20,h21⟩
section
open Z
def lW:List AV:=[.int .u16 0,.int .u16 0,.int .u16 0,.int .u16 0,.int .u16 0,.int .u16 0,.int .u16 0,.int .u16 0,.int .u16 0,.int .u16 0,.int .u16 0,.int .u16 0,.int .u16 0,.int .u16 0,.int .u16 0,.int .u16 0]
def qM(g0 g1:Nat):cU:=⟨37,[.tmp 0],r [V 0 (F)] (r [o 6 (.call g0 [k .bI]),M 5 6,o 7 (e 5 0),o 8 (e 5 1),o 1 (.alloc cq),o 2 (.alloc [i 0,i 0]),n (s 1 7 131),n (s 2 8 2)] (r [o 10 (.build cq []),o 11 (.call g1 [t 10]),M 9 11,o 12 (e 9 0),o 13 (e 9 1),M 3 12,M 4 13] (r [o 14 (f 2 0),o 15 (l 14),o 16 (bb .eql 15 (i 2)),M 17 16,p 18 (f 2 1) 17,p 19 (l 18) 17,p 20 (bb .eql 19 (i 0)) 17,o 21 (P 17 20),M 22 21,p 23 (m 4) 22,p 24 (bb .eql 23 (i 0)) 22,o 25 (P 22 24),M 26 25,p 27 (m 3) 26,p 28 (h 27) 26,p 29 (bb .gtr 28 (i 3)) 26,o 30 (P 26 29),M 31 30,p 32 (m 3) 31,p 33 (.wk (t 32) (k (i 0)) 1) 31,p 34 (l 33) 31,p 35 (bb .eql 34 (.int .u8 88)) 31,o 36 (P 31 35),M 0 36] y)))⟩
def eN(g0 g1 g2 g3 g4 g5 g6 g7:Nat):yc:=⟨47,[.cell 2 (some 131),.cell 3 (some 2)],.aF [⟨(some 2),.o (.alloc cq),none⟩,⟨(some 3),.o (.alloc [(.int .i64 0),(.int .i64 0)]),none⟩],g0,[(.t 2),(.t 3)],6,.join (.seq (.aF [⟨(some 7),.o (.mv (.t 0)),none⟩,⟨(some 8),.o (.jW (.t 7)),none⟩,⟨(some 9),.o (.bin .gtr (.t 8) (.k (.int .i64 2048))),none⟩]) (.cond (.t 9) (.aF [⟨(some 10),.o (.build [(.int .i64 0),(.int .i64 0)] [(0,1,(.k (.int .i64 1)))]),none⟩,⟨(some 11),.Gn g1 (.t 10),none⟩,⟨none,.Gm (.t 11),none⟩]) .skip)) (.seq (.aF [⟨(some 12),.o (.mv (.t 0)),none⟩,⟨(some 13),.call g2 [(.t 12)],none⟩,⟨(some 14),.E4 (.t 13),none⟩,⟨(some 4),.o (.alloc [.lF]),none⟩,⟨none,.QB (.t 4) (.t 14),none⟩]) (.join (.seq (.aF [⟨(some 15),.o (.jC (.t 4) (some 1)),none⟩,⟨(some 16),.aK g3 [(.t 15),(.k (.int .i64 3)),(.k (.int .i64 0)),(.k (.int .i64 16777215))],none⟩,⟨(some 17),.o (.bin .neq (.t 16) (.k (.int .i64 5784065))),none⟩]) (.cond (.t 17) (.aF [⟨(some 18),.o (.build [(.int .i64 0),(.int .i64 0)] [(0,1,(.k (.int .i64 3)))]),none⟩,⟨(some 19),.Gn g1 (.t 18),none⟩,⟨none,.Gm (.t 19),none⟩]) .skip)) (.seq (.aF [⟨(some 20),.o (.jC (.t 4) (some 1)),none⟩,⟨(some 21),.aK g4 [(.t 20)],none⟩,⟨none,.o (.st (.t 2) (.t 21) 131),none⟩]) (.seq (.aF [⟨(some 22),.o (.fa (.t 4) 0),none⟩,⟨(some 23),.o (.jC (.t 22) none),none⟩,⟨(some 24),.aK g5 [(.t 23)],none⟩,⟨(some 5),.o (.mv (.t 24)),none⟩]) (.join (.seq (.vW [⟨(some 25),.jC (.t 4) (some 1),none⟩,⟨(some 26),.aK g3 [(.t 25),(.k (.int .i64 2)),(.k (.int .i64 0)),(.k (.int .i64 65535))],none⟩,⟨(some 27),.mv (.t 0),none⟩,⟨(some 28),.mv (.t 5),none⟩,⟨(some 29),.JD 1 (.t 27) none (some (.t 28)),none⟩,⟨(some 30),.call g6 [(.t 29)],none⟩,⟨(some 31),.nk .i64 (.t 30),none⟩,⟨(some 32),.bin .neq (.t 26) (.t 31),none⟩] [] 1 [5,6,7]) (.cond (.t 32) (.aF [⟨(some 33),.o (.mv (.t 5)),none⟩,⟨(some 34),.o (.build [(.int .i64 0),(.int .i64 0)] [(0,1,(.k (.int .i64 5))),(1,1,(.t 33))]),none⟩,⟨(some 35),.Gn g1 (.t 34),none⟩,⟨none,.Gm (.t 35),none⟩]) .skip)) (.join (.seq (.aF [⟨(some 36),.o (.fa (.t 4) 0),none⟩,⟨(some 37),.o (.jC (.t 36) none),none⟩,⟨(some 38),.aK g7 [(.t 37)],none⟩,⟨(some 39),.o (.bin .gtr (.t 38) (.k (.int .i64 0))),none⟩]) (.cond (.t 39) (.aF [⟨(some 40),.o (.fa (.t 4) 0),none⟩,⟨(some 41),.o (.jC (.t 40) none),none⟩,⟨(some 42),.aK g5 [(.t 41)],none⟩,⟨(some 43),.o (.build [(.int .i64 0),(.int .i64 0)] [(0,1,(.k (.int .i64 6))),(1,1,(.t 42))]),none⟩,⟨(some 44),.Gn g1 (.t 43),none⟩,⟨none,.Gm (.t 44),none⟩]) .skip)) (.seq (.aF [⟨(some 45),.o (.ld (.t 2) (some 131)),none⟩,⟨(some 46),.o (.build [(.int .i64 0),(.int .i64 0)] []),none⟩,⟨none,.o (.st (.t 2) (.t 45) 131),none⟩,⟨none,.o (.st (.t 3) (.t 46) 2),none⟩]) .ret)))))))⟩
def jT(g0 g1 g2 g3 g4 g5 g6 g7 g8:Nat):cU:=⟨236,[.tmp 2,.tmp 3],r [o 1 (w 0),V 2 .bI,V 3 (i 0)] (j (r [o 15 (L 1 131),o 16 (.call g0 [t 15]),o 17 (.un .not (t 16))] (c 17 (r [V 2 .bI,V 3 (i 4)] y) z)) (r [o 18 (.build [.bI] []),o 19 (w 18),M 4 19] (r [M 20 4,o 21 (.gA g1 1 [k (i 5784065)]),o 22 (.aK g2 [t 20,k (i 3),t 21])] (j (r [o 23 (f 1 0),o 24 (L 23 104),V 25 (i 0)] (u 0 (.loop (r [o 26 (bb .lss 25 (i 8))] (j (c 26 z (.exit 0)) (j (u 1 (r [o 27 (.JC (t 24) (t 25) 8 13 (some 13)),o 6 (.alloc eE),n (s 6 27 13)] (r [M 28 4,o 29 (f 6 0),o 30 (l 29),o 31 (.gA g3 1 [t 30]),o 32 (.aK g4 [t 28,t 31])] (r [M 33 4,o 34 (f 6 1),o 35 (l 34),o 36 (f 6 2),o 37 (l 36),o 38 (f 6 3),o 39 (l 38),o 40 (f 6 4),o 41 (l 40),o 42 (f 6 5),o 43 (l 42),o 44 (f 6 6),o 45 (l 44),o 46 (f 6 7),o 47 (l 46),o 48 (f 6 8),o 49 (l 48),o 50 (f 6 9),o 51 (l 50),o 52 (.gA g1 1 [t 35,t 37,t 39,t 41,t 43,t 45,t 47,t 49,t 51]),o 53 (.aK g2 [t 33,k (i 2),t 52])] (r [M 54 4,o 55 (f 6 10),o 56 (l 55),o 57 (.gA g1 1 [t 56]),o 58 (.aK g2 [t 54,k (i 1),t 57])] (R [M 59 4,o 60 (f 6 11),o 61 (l 60),o 62 (f 6 12),o 63 (l 62),o 64 (.gA g3 1 [t 61,t 63]),o 65 (.aK g4 [t 59,t 64])])))))) (R [o 66 (bb .add 25 (i 1)),M 25 66]))))))) (r [M 67 4,o 68 (f 1 104),o 69 (l 68),o 70 (h 69),o 71 (.gA g1 1 [t 70]),o 72 (.aK g2 [t 67,k (i 1),t 71])] (j (r [o 73 (f 1 104),o 74 (l 73),o 75 (h 74),V 76 (i 0)] (u 2 (.loop (r [o 77 (b .lss 76 75)] (j (c 77 z (.exit 2)) (j (u 3 (r [o 78 (a 74 76 2),o 79 (L 78 2),o 8 (.alloc [.bI,.bI]),n (s 8 79 2)] (r [M 80 4,o 81 (.C1 (t 8) (k (i 0)) 2 1),o 82 (l 81),o 83 (.aK g5 [t 80,t 82])] (R [M 84 4,o 85 (.C1 (t 8) (k (i 1)) 2 1),o 86 (l 85),o 87 (.aK g5 [t 84,t 86])])))) (R [o 88 (bb .add 76 (i 1)),M 76 88]))))))) (r [M 89 4,o 90 (f 1 105),o 91 (.E3 (t 90) 8 1),o 92 (.aK g2 [t 89,k (i 1),t 91])] (r [M 93 4,o 94 (f 1 113),o 95 (l 94),o 96 (h 95),o 97 (.gA g1 1 [t 96]),o 98 (.aK g2 [t 93,k (i 1),t 97])] (j (r [o 99 (f 1 113),o 100 (l 99),o 101 (h 100),V 102 (i 0)] (u 4 (.loop (r [o 103 (b .lss 102 101)] (j (c 103 z (.exit 4)) (j (u 5 (r [o 104 (a 100 102 7),o 105 (L 104 7),o 10 (.alloc [i 0,.float .f64 0,.float .f64 0,.float .f64 0,.float .f64 0,i 0,i 0]),n (s 10 105 7)] (r [M 106 4,o 107 (f 10 0),o 108 (l 107),o 109 (.gA g1 1 [t 108]),o 110 (.aK g2 [t 106,k (i 1),t 109])] (r [M 111 4,o 112 (f 10 1),o 113 (l 112),o 114 (f 10 2),o 115 (l 114),o 116 (f 10 3),o 117 (l 116),o 118 (f 10 4),o 119 (l 118),o 120 (.gA g6 1 [t 113,t 115,t 117,t 119]),o 121 (.aK g7 [t 111,t 120])] (R [M 122 4,o 123 (f 10 5),o 124 (l 123),o 125 (f 10 6),o 126 (l 125),o 127 (.gA g1 1 [t 124,t 126]),o 128 (.aK g2 [t 122,k (i 2),t 127])]))))) (R [o 129 (bb .add 102 (i 1)),M 102 129]))))))) (r [M 130 4,o 131 (f 1 114),o 132 (l 131),o 133 (h 132),o 134 (.gA g1 1 [t 133]),o 135 (.aK g2 [t 130,k (i 1),t 134])] (j (r [o 136 (f 1 114),o 137 (l 136),o 138 (h 137),V 139 (i 0)] (u 6 (.loop (r [o 140 (b .lss 139 138)] (j (c 140 z (.exit 6)) (j (u 7 (r [o 141 (a 137 139 11),o 142 (L 141 11),o 12 (.alloc eY),n (s 12 142 11)] (r [M 143 4,o 144 (f 12 0),o 145 (l 144),o 146 (f 12 1),o 147 (l 146),o 148 (f 12 2),o 149 (l 148),o 150 (f 12 3),o 151 (l 150),o 152 (.gA g1 1 [t 145,t 147,t 149,t 151]),o 153 (.aK g2 [t 143,k (i 1),t 152])] (r [M 154 4,o 155 (f 12 4),o 156 (l 155),o 157 (f 12 5),o 158 (l 157),o 159 (f 12 6),o 160 (l 159),o 161 (f 12 7),o 162 (l 161),o 163 (f 12 8),o 164 (l 163),o 165 (f 12 9),o 166 (l 165),o 167 (.gA g1 1 [t 156,t 158,t 160,t 162,t 164,t 166]),o 168 (.aK g2 [t 154,k (i 2),t 167])] (R [M 169 4,o 170 (f 12 10),o 171 (l 170),o 172 (.gA g1 1 [t 171]),o 173 (.aK g2 [t 169,k (i 4),t 172])]))))) (R [o 174 (bb .add 139 (i 1)),M 139 174]))))))) (r [M 175 4,o 176 (f 1 115),o 177 (l 176),o 178 (h 177),o 179 (.gA g1 1 [t 178]),o 180 (.aK g2 [t 175,k (i 1),t 179])] (j (r [o 181 (f 1 115),o 182 (l 181),o 183 (h 182),V 184 (i 0)] (u 8 (.loop (r [o 185 (b .lss 184 183)] (j (c 185 z (.exit 8)) (j (u 9 (r [o 186 (a 182 184 2),o 187 (L 186 2),o 14 (.alloc [i 0,i 0]),n (s 14 187 2)] (r [M 188 4,o 189 (f 14 0),o 190 (l 189),o 191 (.gA g1 1 [t 190]),o 192 (.aK g2 [t 188,k (i 1),t 191])] (R [M 193 4,o 194 (f 14 1),o 195 (l 194),o 196 (.gA g1 1 [t 195]),o 197 (.aK g2 [t 193,k (i 2),t 196])])))) (R [o 198 (bb .add 184 (i 1)),M 184 198]))))))) (r [M 199 4,o 200 (f 1 116),o 201 (l 200),o 202 (f 1 117),o 203 (l 202),o 204 (f 1 118),o 205 (l 204),o 206 (f 1 119),o 207 (l 206),o 208 (f 1 120),o 209 (l 208),o 210 (.gA g1 1 [t 201,t 203,t 205,t 207,t 209]),o 211 (.aK g2 [t 199,k (i 2),t 210])] (r [M 212 4,o 213 (f 1 121),o 214 (.E3 (t 213) 8 1),o 215 (.aK g2 [t 212,k (i 1),t 214])] (r [M 216 4,o 217 (f 1 129),o 218 (l 217),o 219 (f 1 130),o 220 (l 219),o 221 (.gA g1 1 [t 218,t 220]),o 222 (.aK g2 [t 216,k (i 4),t 221])] (r [M 223 4,M 224 4,o 225 (.nc (t 224)),o 226 (f 225 0),o 227 (l 226),o 228 (.call g8 [t 227]),o 229 (.nk .i64 (t 228)),o 230 (.gA g1 1 [t 229]),o 231 (.aK g2 [t 223,k (i 2),t 230])] (r [M 232 4,o 233 (.nc (t 232)),o 234 (f 233 0),o 235 (l 234),M 2 235,V 3 (i 0)] y))))))))))))))))))⟩
def kj(g0:Nat):FZ:=⟨12,5,[⟨(some 6),.Mx g0 (.agg [(.int .i64 0),(.int .i64 0)]) (.t 5),none⟩,⟨(some 4),.o (.mv (.t 6)),none⟩,⟨(some 7),.o (.ext (.t 4) 0),none⟩,⟨(some 8),.o (.ext (.t 4) 1),none⟩,⟨(some 2),.o (.alloc [(.int .i64 0),(.int .i64 0)]),none⟩,⟨none,.o (.st (.t 2) (.t 7) 2),none⟩,⟨(some 3),.o (.mv (.t 8)),none⟩],.seq (.aF [⟨(some 9),.o (.mv (.t 3)),none⟩]) (.cond (.t 9) (.uC [⟨(some 10),.build cq [],none⟩,⟨(some 11),.ld (.t 2) (some 2),none⟩,⟨none,.st (.t 0) (.t 10) 131,none⟩,⟨none,.st (.t 1) (.t 11) 2,none⟩] [(1,2)]) .skip)⟩
def iV(g0 g1:Nat):cU:=⟨19,[.tmp 8],.seq (.aF [⟨(some 4),.rJ (.t 0),none⟩,⟨(some 8),.o (.mv (.k (.int .i64 0))),none⟩]) (.seq (.aF [⟨(some 10),.o (.fa (.t 4) 0),none⟩,⟨(some 11),.o (.jC (.t 10) none),none⟩,⟨(some 12),.o (.mv (.t 1)),none⟩,⟨(some 13),.o (.mv (.t 2)),none⟩,⟨(some 14),.o (.mv (.t 3)),none⟩,⟨(some 15),.aK g0 [(.t 11),(.t 12),(.t 13),(.t 14)],none⟩,⟨(some 9),.o (.mv (.t 15)),none⟩]) (.seq (.aF [⟨(some 16),.o (.jC (.t 4) (some 1)),none⟩,⟨(some 17),.aK g1 [(.t 16)],none⟩]) (.seq (.aF [⟨(some 18),.o (.mv (.t 9)),none⟩,⟨(some 8),.o (.mv (.t 18)),none⟩]) .ret)))⟩
def dP(g0 g1 g2 g3 g4 g5 g6 g7 g8 g9 g10:Nat):cU:=⟨118,[.cell 2 (some 131)],.seq (.aF [⟨(some 1),.rJ (.t 0),none⟩,⟨(some 2),.o (.alloc cq),none⟩]) (.seq (.aF [⟨(some 3),.o (.alloc cq),none⟩]) (.join (.seq (.aF [⟨(some 11),.o (.mv (.k (.int .i64 0))),none⟩]) (.block 0 (.loop (.seq (.aF [⟨(some 12),.o (.bin .lss (.t 11) (.k (.int .i64 8))),none⟩]) (.join (.cond (.t 12) .skip (.exit 0)) (.join (.block 1 (.seq (.aF [⟨(some 13),.o (.mv (.t 11)),none⟩,⟨(some 4),.o (.mv (.t 13)),none⟩]) (.aF [⟨(some 14),.o (.mv (.t 4)),none⟩,⟨(some 15),.o (.jC (.t 1) (some 1)),none⟩,⟨(some 16),.aK g0 [(.t 15)],none⟩,⟨(some 17),.o (.fa (.t 3) 0),none⟩,⟨(some 18),.o (.C1 (.t 17) (.t 14) 8 13),none⟩,⟨none,.o (.st (.t 18) (.t 16) 13),none⟩]))) (.aF [⟨(some 19),.o (.bin .add (.t 11) (.k (.int .i64 1))),none⟩,⟨(some 11),.o (.mv (.t 19)),none⟩]))))))) (.join (.seq (.aF [⟨(some 20),.o (.jC (.t 1) (some 1)),none⟩,⟨(some 21),.aK g1 [(.t 20),(.k (.int .i64 1)),(.k (.int .i64 0)),(.k (.int .i64 4))],none⟩,⟨(some 22),.o (.mv (.k (.int .i64 0))),none⟩]) (.block 2 (.loop (.seq (.aF [⟨(some 23),.o (.bin .lss (.t 22) (.t 21)),none⟩]) (.join (.cond (.t 23) .skip (.exit 2)) (.join (.block 3 (.seq (.aF [⟨(some 24),.o (.jC (.t 1) (some 1)),none⟩,⟨(some 25),.aK g2 [(.t 24)],none⟩,⟨(some 5),.o (.mv (.t 25)),none⟩]) (.vW [⟨(some 26),.fa (.t 3) 104,none⟩,⟨(some 27),.ld (.t 26) none,none⟩,⟨(some 28),.mv (.t 5),none⟩,⟨(some 29),.jC (.t 1) (some 1),none⟩,⟨(some 30),.aK g2 [(.t 29)],none⟩,⟨(some 31),.build [.bI,.bI] [(0,1,(.t 28)),(1,1,(.t 30))],none⟩,⟨(some 32),.gA g3 2 [(.t 31)],none⟩,⟨(some 33),.app g3 2 48 (.t 27) (.t 32),none⟩,⟨(some 34),.fa (.t 3) 104,none⟩,⟨none,.st (.t 34) (.t 33) 1,none⟩] [(1,4)] 4 [5,6,7,8,9]))) (.aF [⟨(some 35),.o (.bin .add (.t 22) (.k (.int .i64 1))),none⟩,⟨(some 22),.o (.mv (.t 35)),none⟩]))))))) (.join (.seq (.aF [⟨(some 36),.o (.mv (.k (.int .i64 0))),none⟩]) (.block 4 (.loop (.seq (.aF [⟨(some 37),.o (.bin .lss (.t 36) (.k (.int .i64 8))),none⟩]) (.join (.cond (.t 37) .skip (.exit 4)) (.join (.block 5 (.seq (.aF [⟨(some 38),.o (.mv (.t 36)),none⟩,⟨(some 6),.o (.mv (.t 38)),none⟩]) (.aF [⟨(some 39),.o (.mv (.t 6)),none⟩,⟨(some 40),.o (.jC (.t 1) (some 1)),none⟩,⟨(some 41),.aK g4 [(.t 40)],none⟩,⟨(some 42),.o (.fa (.t 3) 105),none⟩,⟨(some 43),.o (.C1 (.t 42) (.t 39) 8 1),none⟩,⟨none,.o (.st (.t 43) (.t 41) 1),none⟩]))) (.aF [⟨(some 44),.o (.bin .add (.t 36) (.k (.int .i64 1))),none⟩,⟨(some 36),.o (.mv (.t 44)),none⟩]))))))) (.join (.seq (.aF [⟨(some 45),.o (.jC (.t 1) (some 1)),none⟩,⟨(some 46),.aK g1 [(.t 45),(.k (.int .i64 1)),(.k (.int .i64 0)),(.k (.int .i64 16))],none⟩,⟨(some 47),.o (.mv (.k (.int .i64 0))),none⟩]) (.block 6 (.loop (.seq (.aF [⟨(some 48),.o (.bin .lss (.t 47) (.t 46)),none⟩]) (.join (.cond (.t 48) .skip (.exit 6)) (.join (.block 7 (.vW [⟨(some 49),.fa (.t 3) 113,none⟩,⟨(some 50),.ld (.t 49) none,none⟩,⟨(some 51),.jC (.t 1) (some 1),none⟩,⟨(some 52),.aK g5 [(.t 51)],none⟩,⟨(some 53),.gA g6 7 [(.t 52)],none⟩,⟨(some 54),.app g6 7 56 (.t 50) (.t 53),none⟩,⟨(some 55),.fa (.t 3) 113,none⟩,⟨none,.st (.t 55) (.t 54) 1,none⟩] [(1,3)] 3 [4,5,6,7])) (.aF [⟨(some 56),.o (.bin .add (.t 47) (.k (.int .i64 1))),none⟩,⟨(some 47),.o (.mv (.t 56)),none⟩]))))))) (.join (.seq (.aF [⟨(some 57),.o (.jC (.t 1) (some 1)),none⟩,⟨(some 58),.aK g1 [(.t 57),(.k (.int .i64 1)),(.k (.int .i64 0)),(.k (.int .i64 4))],none⟩,⟨(some 59),.o (.mv (.k (.int .i64 0))),none⟩]) (.block 8 (.loop (.seq (.aF [⟨(some 60),.o (.bin .lss (.t 59) (.t 58)),none⟩]) (.join (.cond (.t 60) .skip (.exit 8)) (.join (.block 9 (.vW [⟨(some 61),.fa (.t 3) 114,none⟩,⟨(some 62),.ld (.t 61) none,none⟩,⟨(some 63),.jC (.t 1) (some 1),none⟩,⟨(some 64),.aK g7 [(.t 63)],none⟩,⟨(some 65),.gA g8 11 [(.t 64)],none⟩,⟨(some 66),.app g8 11 88 (.t 62) (.t 65),none⟩,⟨(some 67),.fa (.t 3) 114,none⟩,⟨none,.st (.t 67) (.t 66) 1,none⟩] [(1,3)] 3 [4,5,6,7])) (.aF [⟨(some 68),.o (.bin .add (.t 59) (.k (.int .i64 1))),none⟩,⟨(some 59),.o (.mv (.t 68)),none⟩]))))))) (.join (.seq (.aF [⟨(some 69),.o (.jC (.t 1) (some 1)),none⟩,⟨(some 70),.aK g1 [(.t 69),(.k (.int .i64 1)),(.k (.int .i64 0)),(.k (.int .i64 4))],none⟩,⟨(some 71),.o (.mv (.k (.int .i64 0))),none⟩]) (.block 10 (.loop (.seq (.aF [⟨(some 72),.o (.bin .lss (.t 71) (.t 70)),none⟩]) (.join (.cond (.t 72) .skip (.exit 10)) (.join (.block 11 (.seq (.aF [⟨(some 73),.o (.jC (.t 1) (some 1)),none⟩,⟨(some 74),.aK g4 [(.t 73)],none⟩,⟨(some 75),.o (.build [(.int .i64 0),(.int .i64 0)] [(0,1,(.t 74))]),none⟩,⟨(some 7),.o (.alloc [(.int .i64 0),(.int .i64 0)]),none⟩,⟨none,.o (.st (.t 7) (.t 75) 2),none⟩]) (.seq (.aF [⟨(some 76),.o (.jC (.t 1) (some 1)),none⟩,⟨(some 77),.aK g9 [(.t 76)],none⟩,⟨(some 78),.o (.fa (.t 7) 1),none⟩,⟨none,.o (.st (.t 78) (.t 77) 1),none⟩]) (.aF [⟨(some 79),.o (.fa (.t 3) 115),none⟩,⟨(some 80),.o (.ld (.t 79) none),none⟩,⟨(some 81),.o (.ld (.t 7) (some 2)),none⟩,⟨(some 82),.o (.gA g10 2 [(.t 81)]),none⟩,⟨(some 83),.o (.app g10 2 16 (.t 80) (.t 82)),none⟩,⟨(some 84),.o (.fa (.t 3) 115),none⟩,⟨none,.o (.st (.t 84) (.t 83) 1),none⟩])))) (.aF [⟨(some 85),.o (.bin .add (.t 71) (.k (.int .i64 1))),none⟩,⟨(some 71),.o (.mv (.t 85)),none⟩]))))))) (.join (.seq (.aF [⟨(some 86),.o (.fa (.t 3) 116),none⟩,⟨(some 87),.o (.fa (.t 3) 117),none⟩,⟨(some 88),.o (.fa (.t 3) 118),none⟩,⟨(some 89),.o (.fa (.t 3) 119),none⟩,⟨(some 90),.o (.fa (.t 3) 120),none⟩,⟨(some 91),.Ak [(.t 86),(.t 87),(.t 88),(.t 89),(.t 90)],none⟩,⟨(some 92),.JG (.t 91),none⟩,⟨(some 93),.o (.mv (.k (.int .i64 0))),none⟩]) (.block 12 (.loop (.seq (.aF [⟨(some 94),.o (.bin .lss (.t 93) (.t 92)),none⟩]) (.join (.cond (.t 94) .skip (.exit 12)) (.join (.block 13 (.seq (.aF [⟨(some 95),.JF (.t 91) (.t 93),none⟩,⟨(some 96),.o (.jC (.t 95) none),none⟩,⟨(some 9),.o (.mv (.t 96)),none⟩]) (.aF [⟨(some 97),.o (.mv (.t 9)),none⟩,⟨(some 98),.o (.jC (.t 1) (some 1)),none⟩,⟨(some 99),.aK g9 [(.t 98)],none⟩,⟨(some 100),.o (.nc (.t 97)),none⟩,⟨none,.o (.st (.t 100) (.t 99) 1),none⟩]))) (.aF [⟨(some 101),.o (.bin .add (.t 93) (.k (.int .i64 1))),none⟩,⟨(some 93),.o (.mv (.t 101)),none⟩]))))))) (.join (.seq (.aF [⟨(some 102),.o (.mv (.k (.int .i64 0))),none⟩]) (.block 14 (.loop (.seq (.aF [⟨(some 103),.o (.bin .lss (.t 102) (.k (.int .i64 8))),none⟩]) (.join (.cond (.t 103) .skip (.exit 14)) (.join (.block 15 (.seq (.aF [⟨(some 104),.o (.mv (.t 102)),none⟩,⟨(some 10),.o (.mv (.t 104)),none⟩]) (.aF [⟨(some 105),.o (.mv (.t 10)),none⟩,⟨(some 106),.o (.jC (.t 1) (some 1)),none⟩,⟨(some 107),.aK g1 [(.t 106),(.k (.int .i64 1)),(.k (.int .i64 0)),(.k (.int .i64 2))],none⟩,⟨(some 108),.o (.fa (.t 3) 121),none⟩,⟨(some 109),.o (.C1 (.t 108) (.t 105) 8 1),none⟩,⟨none,.o (.st (.t 109) (.t 107) 1),none⟩]))) (.aF [⟨(some 110),.o (.bin .add (.t 102) (.k (.int .i64 1))),none⟩,⟨(some 102),.o (.mv (.t 110)),none⟩]))))))) (.seq (.aF [⟨(some 111),.o (.jC (.t 1) (some 1)),none⟩,⟨(some 112),.aK g1 [(.t 111),(.k (.int .i64 4)),(.k (.int .i64 0)),(.k (.int .i64 2147483647))],none⟩,⟨(some 113),.o (.fa (.t 3) 129),none⟩,⟨none,.o (.st (.t 113) (.t 112) 1),none⟩]) (.seq (.aF [⟨(some 114),.o (.jC (.t 1) (some 1)),none⟩,⟨(some 115),.aK g1 [(.t 114),(.k (.int .i64 4)),(.k (.int .i64 0)),(.k (.int .i64 2147483647))],none⟩,⟨(some 116),.o (.fa (.t 3) 130),none⟩,⟨none,.o (.st (.t 116) (.t 115) 1),none⟩]) (.seq (.aF [⟨(some 117),.o (.ld (.t 3) (some 131)),none⟩,⟨none,.o (.st (.t 2) (.t 117) 131),none⟩]) .ret))))))))))))⟩
def zU(g0:Nat):cU:=⟨5,[.tmp 2],r [V 2 (.int .u16 0)] (r [M 3 0,o 4 (.call g0 [k (.int .u16 65535),t 3]),M 2 4] y)⟩
def lE(g0:Nat):cU:=⟨25,[],r [M 8 2,o 9 (h 8),V 10 (i 0)] (u 0 (.loop (r [o 11 (b .lss 10 9)] (j (c 11 z (.exit 0)) (j (u 1 (r [o 12 (a 8 10 1),o 13 (l 12),M 7 13] (R [M 14 0,M 15 0,o 16 (.nc (t 15)),o 17 (f 16 0),o 18 (l 17),M 19 1,M 20 7,o 21 (.call g0 [t 18,t 19,t 20]),o 22 (.nc (t 14)),o 23 (f 22 0),n (s 23 21 1)]))) (R [o 24 (bb .add 10 (i 1)),M 10 24]))))))⟩
def jt(g0 g1:Nat):cU:=⟨19,[],r [M 7 1,o 8 (h 7),V 9 (i 0)] (u 0 (.loop (r [o 10 (b .lss 9 8)] (j (c 10 z (.exit 0)) (j (u 1 (r [o 11 (a 7 9 1),o 12 (l 11),M 5 12] (r [V 6 (i 0)] (j (r [M 13 5] (c 13 (R [V 6 (i 1)]) z)) (R [M 14 0,M 15 6,o 16 (.gA g0 1 [t 15]),o 17 (.aK g1 [t 14,k (i 1),t 16])]))))) (R [o 18 (bb .add 9 (i 1)),M 9 18]))))))⟩
def ju(g0 g1:Nat):cU:=⟨12,[],r [M 4 0,M 5 1,o 6 (h 5),o 7 (.gA g0 1 [t 6]),o 8 (.aK g1 [t 4,k (i 1),t 7])] (R [M 9 0,M 10 1,o 11 (.aK g1 [t 9,k (i 1),t 10])])⟩
def j0(g0:Nat):cU:=⟨22,[],r [M 6 1,o 7 (h 6),V 8 (i 0)] (u 0 (.loop (r [o 9 (b .lss 8 7)] (j (c 9 z (.exit 0)) (j (u 1 (r [o 10 (a 6 8 1),o 11 (l 10),M 5 11] (R [M 12 0,M 13 0,o 14 (.nc (t 13)),o 15 (f 14 0),o 16 (l 15),M 17 5,o 18 (.call g0 [t 16,t 17]),o 19 (.nc (t 12)),o 20 (f 19 0),n (s 20 18 1)]))) (R [o 21 (bb .add 8 (i 1)),M 8 21]))))))⟩
def gH(g0 g1:Nat):cU:=⟨11,[],.seq (.aF [⟨(some 1),.rJ (.t 0),none⟩]) (.seq (.aF [⟨(some 3),.o (.fa (.t 1) 0),none⟩,⟨(some 4),.o (.jC (.t 3) none),none⟩,⟨(some 5),.aK g0 [(.t 4)],none⟩,⟨(some 2),.o (.alloc [(.int .i64 0),(.int .i64 0)]),none⟩,⟨none,.o (.st (.t 2) (.t 5) 2),none⟩]) (.seq (.aF [⟨(some 6),.o (.fa (.t 2) 0),none⟩,⟨(some 7),.o (.ld (.t 6) none),none⟩,⟨(some 8),.o (.bin .neq (.t 7) (.k (.int .i64 0))),none⟩]) (.cond (.t 8) (.aF [⟨(some 9),.o (.ld (.t 2) (some 2)),none⟩,⟨(some 10),.Gn g1 (.t 9),none⟩,⟨none,.Gm (.t 10),none⟩]) .skip)))⟩
def gI(g0 g1 g2:Nat):cU:=⟨39,[.cell 2 (some 13)],.seq (.aF [⟨(some 1),.rJ (.t 0),none⟩,⟨(some 2),.o (.alloc eE),none⟩]) (.seq (.aF [⟨(some 6),.o (.jC (.t 1) (some 1)),none⟩,⟨(some 7),.aK g0 [(.t 6)],none⟩,⟨(some 8),.o (.build eE [(0,1,(.t 7))]),none⟩,⟨(some 3),.o (.alloc eE),none⟩,⟨none,.o (.st (.t 3) (.t 8) 13),none⟩]) (.join (.seq (.aF [⟨(some 9),.o (.fa (.t 3) 1),none⟩,⟨(some 10),.o (.fa (.t 3) 2),none⟩,⟨(some 11),.o (.fa (.t 3) 3),none⟩,⟨(some 12),.o (.fa (.t 3) 4),none⟩,⟨(some 13),.o (.fa (.t 3) 5),none⟩,⟨(some 14),.o (.fa (.t 3) 6),none⟩,⟨(some 15),.o (.fa (.t 3) 7),none⟩,⟨(some 16),.o (.fa (.t 3) 8),none⟩,⟨(some 17),.o (.fa (.t 3) 9),none⟩,⟨(some 18),.Ak [(.t 9),(.t 10),(.t 11),(.t 12),(.t 13),(.t 14),(.t 15),(.t 16),(.t 17)],none⟩,⟨(some 19),.JG (.t 18),none⟩,⟨(some 20),.o (.mv (.k (.int .i64 0))),none⟩]) (.block 0 (.loop (.seq (.aF [⟨(some 21),.o (.bin .lss (.t 20) (.t 19)),none⟩]) (.join (.cond (.t 21) .skip (.exit 0)) (.join (.block 1 (.seq (.aF [⟨(some 22),.JF (.t 18) (.t 20),none⟩,⟨(some 23),.o (.jC (.t 22) none),none⟩,⟨(some 5),.o (.mv (.t 23)),none⟩]) (.aF [⟨(some 24),.o (.mv (.t 5)),none⟩,⟨(some 25),.o (.jC (.t 1) (some 1)),none⟩,⟨(some 26),.aK g1 [(.t 25)],none⟩,⟨(some 27),.o (.nc (.t 24)),none⟩,⟨none,.o (.st (.t 27) (.t 26) 1),none⟩]))) (.aF [⟨(some 28),.o (.bin .add (.t 20) (.k (.int .i64 1))),none⟩,⟨(some 20),.o (.mv (.t 28)),none⟩]))))))) (.seq (.aF [⟨(some 29),.o (.jC (.t 1) (some 1)),none⟩,⟨(some 30),.aK g2 [(.t 29),(.k (.int .i64 1)),(.k (.int .i64 0)),(.k (.int .i64 3))],none⟩,⟨(some 31),.o (.fa (.t 3) 10),none⟩,⟨none,.o (.st (.t 31) (.t 30) 1),none⟩]) (.seq (.aF [⟨(some 32),.o (.jC (.t 1) (some 1)),none⟩,⟨(some 33),.aK g0 [(.t 32)],none⟩,⟨(some 34),.o (.fa (.t 3) 11),none⟩,⟨none,.o (.st (.t 34) (.t 33) 1),none⟩]) (.seq (.aF [⟨(some 35),.o (.jC (.t 1) (some 1)),none⟩,⟨(some 36),.aK g0 [(.t 35)],none⟩,⟨(some 37),.o (.fa (.t 3) 12),none⟩,⟨none,.o (.st (.t 37) (.t 36) 1),none⟩]) (.seq (.aF [⟨(some 38),.o (.ld (.t 3) (some 13)),none⟩,⟨none,.o (.st (.t 2) (.t 38) 13),none⟩]) .ret))))))⟩
def dh(g0 g1:Nat):cU:=⟨15,[.tmp 2],.seq (.aF [⟨(some 1),.rJ (.t 0),none⟩,⟨(some 2),.o (.mv (.k .bI)),none⟩]) (.seq (.aF [⟨(some 3),.o (.mv (.k .bI)),none⟩]) (.join (.seq (.aF [⟨(some 4),.o (.jC (.t 1) (some 1)),none⟩,⟨(some 5),.aK g0 [(.t 4),(.k (.int .i64 1)),(.k (.int .i64 0)),(.k (.int .i64 8))],none⟩,⟨(some 6),.o (.mv (.k (.int .i64 0))),none⟩]) (.block 0 (.loop (.seq (.aF [⟨(some 7),.o (.bin .lss (.t 6) (.t 5)),none⟩]) (.join (.cond (.t 7) .skip (.exit 0)) (.join (.block 1 (.aF [⟨(some 8),.o (.mv (.t 3)),none⟩,⟨(some 9),.o (.jC (.t 1) (some 1)),none⟩,⟨(some 10),.aK g0 [(.t 9),(.k (.int .i64 1)),(.k (.int .i64 0)),(.k (.int .i64 7))],none⟩,⟨(some 11),.o (.gA g1 1 [(.t 10)]),none⟩,⟨(some 12),.o (.app g1 1 8 (.t 8) (.t 11)),none⟩,⟨(some 3),.o (.mv (.t 12)),none⟩])) (.aF [⟨(some 13),.o (.bin .add (.t 6) (.k (.int .i64 1))),none⟩,⟨(some 6),.o (.mv (.t 13)),none⟩]))))))) (.seq (.aF [⟨(some 14),.o (.mv (.t 3)),none⟩,⟨(some 2),.o (.mv (.t 14)),none⟩]) .ret)))⟩
def iW(g0:Nat):cU:=⟨5,[.tmp 2],.seq (.aF [⟨(some 1),.rJ (.t 0),none⟩,⟨(some 2),.o (.mv (.k (.int .i64 0))),none⟩]) (.seq (.aF [⟨(some 3),.o (.jC (.t 1) (some 1)),none⟩,⟨(some 4),.aK g0 [(.t 3),(.k (.int .i64 1)),(.k (.int .i64 0)),(.k (.int .i64 255))],none⟩,⟨(some 2),.o (.mv (.t 4)),none⟩]) .ret)⟩
def fj(g0 g1 g2 g3 g4 g5 g6:Nat):cU:=⟨26,[.cell 2 (some 7)],.seq (.aF [⟨(some 1),.rJ (.t 0),none⟩,⟨(some 2),.o (.alloc [(.int .i64 0),(.float .f64 0),(.float .f64 0),(.float .f64 0),(.float .f64 0),(.int .i64 0),(.int .i64 0)]),none⟩]) (.seq (.aF [⟨(some 4),.o (.jC (.t 1) (some 1)),none⟩,⟨(some 5),.aK g0 [(.t 4),(.k (.int .i64 1)),(.k (.int .i64 0)),(.k (.int .i64 7))],none⟩,⟨(some 6),.o (.build [(.int .i64 0),(.float .f64 0),(.float .f64 0),(.float .f64 0),(.float .f64 0),(.int .i64 0),(.int .i64 0)] [(0,1,(.t 5))]),none⟩,⟨(some 3),.o (.alloc [(.int .i64 0),(.float .f64 0),(.float .f64 0),(.float .f64 0),(.float .f64 0),(.int .i64 0),(.int .i64 0)]),none⟩,⟨none,.o (.st (.t 3) (.t 6) 7),none⟩]) (.seq (.aF [⟨(some 7),.o (.jC (.t 1) (some 1)),none⟩,⟨(some 8),.aK g1 [(.t 7),(.k (.fn (.func g2) [] []))],none⟩,⟨(some 9),.o (.fa (.t 3) 1),none⟩,⟨none,.o (.st (.t 9) (.t 8) 1),none⟩]) (.seq (.aF [⟨(some 10),.o (.jC (.t 1) (some 1)),none⟩,⟨(some 11),.aK g1 [(.t 10),(.k (.fn (.func g3) [] []))],none⟩,⟨(some 12),.o (.fa (.t 3) 2),none⟩,⟨none,.o (.st (.t 12) (.t 11) 1),none⟩]) (.seq (.aF [⟨(some 13),.o (.jC (.t 1) (some 1)),none⟩,⟨(some 14),.aK g1 [(.t 13),(.k (.fn (.func g4) [] []))],none⟩,⟨(some 15),.o (.fa (.t 3) 3),none⟩,⟨none,.o (.st (.t 15) (.t 14) 1),none⟩]) (.seq (.aF [⟨(some 16),.o (.jC (.t 1) (some 1)),none⟩,⟨(some 17),.aK g1 [(.t 16),(.k (.fn (.func g5) [] []))],none⟩,⟨(some 18),.o (.fa (.t 3) 4),none⟩,⟨none,.o (.st (.t 18) (.t 17) 1),none⟩]) (.seq (.aF [⟨(some 19),.o (.jC (.t 1) (some 1)),none⟩,⟨(some 20),.aK g6 [(.t 19)],none⟩,⟨(some 21),.o (.fa (.t 3) 5),none⟩,⟨none,.o (.st (.t 21) (.t 20) 1),none⟩]) (.seq (.aF [⟨(some 22),.o (.jC (.t 1) (some 1)),none⟩,⟨(some 23),.aK g6 [(.t 22)],none⟩,⟨(some 24),.o (.fa (.t 3) 6),none⟩,⟨none,.o (.st (.t 24) (.t 23) 1),none⟩]) (.seq (.aF [⟨(some 25),.o (.ld (.t 3) (some 7)),none⟩,⟨none,.o (.st (.t 2) (.t 25) 7),none⟩]) .ret))))))))⟩
def iz(g0 g1 g2:Nat):cU:=⟨44,[.cell 2 (some 11)],.seq (.aF [⟨(some 1),.rJ (.t 0),none⟩,⟨(some 2),.o (.alloc eY),none⟩]) (.seq (.aF [⟨(some 3),.o (.alloc eY),none⟩]) (.join (.seq (.aF [⟨(some 8),.o (.fa (.t 3) 0),none⟩,⟨(some 9),.o (.fa (.t 3) 1),none⟩,⟨(some 10),.o (.fa (.t 3) 2),none⟩,⟨(some 11),.o (.fa (.t 3) 3),none⟩,⟨(some 12),.Ak [(.t 8),(.t 9),(.t 10),(.t 11)],none⟩,⟨(some 13),.JG (.t 12),none⟩,⟨(some 14),.o (.mv (.k (.int .i64 0))),none⟩]) (.block 0 (.loop (.seq (.aF [⟨(some 15),.o (.bin .lss (.t 14) (.t 13)),none⟩]) (.join (.cond (.t 15) .skip (.exit 0)) (.join (.block 1 (.seq (.aF [⟨(some 16),.JF (.t 12) (.t 14),none⟩,⟨(some 17),.o (.jC (.t 16) none),none⟩,⟨(some 5),.o (.mv (.t 17)),none⟩]) (.aF [⟨(some 18),.o (.mv (.t 5)),none⟩,⟨(some 19),.o (.jC (.t 1) (some 1)),none⟩,⟨(some 20),.aK g0 [(.t 19)],none⟩,⟨(some 21),.o (.nc (.t 18)),none⟩,⟨none,.o (.st (.t 21) (.t 20) 1),none⟩]))) (.aF [⟨(some 22),.o (.bin .add (.t 14) (.k (.int .i64 1))),none⟩,⟨(some 14),.o (.mv (.t 22)),none⟩]))))))) (.join (.seq (.aF [⟨(some 23),.o (.fa (.t 3) 4),none⟩,⟨(some 24),.o (.fa (.t 3) 5),none⟩,⟨(some 25),.o (.fa (.t 3) 6),none⟩,⟨(some 26),.o (.fa (.t 3) 7),none⟩,⟨(some 27),.o (.fa (.t 3) 8),none⟩,⟨(some 28),.o (.fa (.t 3) 9),none⟩,⟨(some 29),.Ak [(.t 23),(.t 24),(.t 25),(.t 26),(.t 27),(.t 28)],none⟩,⟨(some 30),.JG (.t 29),none⟩,⟨(some 31),.o (.mv (.k (.int .i64 0))),none⟩]) (.block 2 (.loop (.seq (.aF [⟨(some 32),.o (.bin .lss (.t 31) (.t 30)),none⟩]) (.join (.cond (.t 32) .skip (.exit 2)) (.join (.block 3 (.seq (.aF [⟨(some 33),.JF (.t 29) (.t 31),none⟩,⟨(some 34),.o (.jC (.t 33) none),none⟩,⟨(some 7),.o (.mv (.t 34)),none⟩]) (.aF [⟨(some 35),.o (.mv (.t 7)),none⟩,⟨(some 36),.o (.jC (.t 1) (some 1)),none⟩,⟨(some 37),.aK g1 [(.t 36)],none⟩,⟨(some 38),.o (.nc (.t 35)),none⟩,⟨none,.o (.st (.t 38) (.t 37) 1),none⟩]))) (.aF [⟨(some 39),.o (.bin .add (.t 31) (.k (.int .i64 1))),none⟩,⟨(some 31),.o (.mv (.t 39)),none⟩]))))))) (.seq (.aF [⟨(some 40),.o (.jC (.t 1) (some 1)),none⟩,⟨(some 41),.aK g2 [(.t 40),(.k (.int .i64 4)),(.k (.int .i64 0)),(.k (.int .i64 2147483647))],none⟩,⟨(some 42),.o (.fa (.t 3) 10),none⟩,⟨none,.o (.st (.t 42) (.t 41) 1),none⟩]) (.seq (.aF [⟨(some 43),.o (.ld (.t 3) (some 11)),none⟩,⟨none,.o (.st (.t 2) (.t 43) 11),none⟩]) .ret)))))⟩
def iA(g0:Nat):cU:=⟨5,[.tmp 2],.seq (.aF [⟨(some 1),.rJ (.t 0),none⟩,⟨(some 2),.o (.mv (.k (.int .i64 0))),none⟩]) (.seq (.aF [⟨(some 3),.o (.jC (.t 1) (some 1)),none⟩,⟨(some 4),.aK g0 [(.t 3),(.k (.int .i64 2)),(.k (.int .i64 0)),(.k (.int .i64 9999))],none⟩,⟨(some 2),.o (.mv (.t 4)),none⟩]) .ret)⟩
def yD(g0:Nat):cU:=⟨36,[.tmp 4],r [V 4 (.int .u16 0)] (r [o 8 (.call g0 []),o 5 (.alloc lW),n (s 5 8 16)] (j (r [M 9 1,o 10 (h 9),V 11 (i 0)] (u 0 (.loop (r [o 12 (b .lss 11 10)] (j (c 12 z (.exit 0)) (j (u 1 (r [o 13 (a 9 11 1),o 14 (l 13),M 7 14] (r [M 15 0,M 16 7,o 17 (.nk .u16 (t 16)),o 18 (bb .shl 17 (.int .u64 8)),o 19 (b .xor 15 18),M 0 19] (r [M 20 0,o 21 (bb .shl 20 (.int .u64 4)),M 22 0,o 23 (bb .shr 22 (.int .u64 12)),o 24 (A 5 23 16 1),o 25 (l 24),o 26 (b .xor 21 25),M 0 26] (R [M 27 0,o 28 (bb .shl 27 (.int .u64 4)),M 29 0,o 30 (bb .shr 29 (.int .u64 12)),o 31 (A 5 30 16 1),o 32 (l 31),o 33 (b .xor 28 32),M 0 33]))))) (R [o 34 (bb .add 11 (i 1)),M 11 34]))))))) (r [M 35 0,M 4 35] y)))⟩
def iX(g0 g1:Nat):cU:=⟨10,[.tmp 2],.seq (.aF [⟨(some 1),.rJ (.t 0),none⟩,⟨(some 2),.o (.mv (.k (.bool false))),none⟩]) (.seq (.aF [⟨(some 4),.o (.fa (.t 1) 0),none⟩,⟨(some 5),.o (.jC (.t 4) none),none⟩,⟨(some 6),.aK g0 [(.t 5)],none⟩,⟨(some 3),.o (.mv (.t 6)),none⟩]) (.seq (.aF [⟨(some 7),.o (.jC (.t 1) (some 1)),none⟩,⟨(some 8),.aK g1 [(.t 7)],none⟩]) (.seq (.aF [⟨(some 9),.o (.mv (.t 3)),none⟩,⟨(some 2),.o (.mv (.t 9)),none⟩]) .ret)))⟩
def eS(g0 g1 g2 g3 g4 g5:Nat):cU:=⟨30,[.tmp 4],.seq (.aF [⟨(some 2),.rJ (.t 0),none⟩,⟨(some 4),.o (.mv (.k (.float .f64 0))),none⟩]) (.seq (.aF [⟨(some 8),.o (.fa (.t 2) 0),none⟩,⟨(some 9),.o (.jC (.t 8) none),none⟩,⟨(some 10),.aK g0 [(.t 9)],none⟩,⟨(some 5),.o (.mv (.t 10)),none⟩]) (.seq (.aF [⟨(some 11),.o (.fa (.t 2) 0),none⟩,⟨(some 12),.o (.jC (.t 11) none),none⟩,⟨(some 13),.aK g1 [(.t 12)],none⟩,⟨(some 6),.o (.mv (.t 13)),none⟩]) (.seq (.aF [⟨(some 14),.o (.jC (.t 2) (some 1)),none⟩,⟨(some 15),.aK g2 [(.t 14)],none⟩]) (.seq (.aF [⟨(some 16),.o (.build [(.int .i64 0),(.float .f64 0),(.float .f64 0),(.float .f64 0),(.float .f64 0),(.int .i64 0),(.int .i64 0)] [(1,1,(.k (.float .f64 4607182418800017408))),(2,1,(.k (.float .f64 4607182418800017408)))]),none⟩,⟨(some 7),.o (.alloc [(.int .i64 0),(.float .f64 0),(.float .f64 0),(.float .f64 0),(.float .f64 0),(.int .i64 0),(.int .i64 0)]),none⟩,⟨none,.o (.st (.t 7) (.t 16) 7),none⟩]) (.seq (.aF [⟨(some 17),.o (.mv (.t 1)),none⟩,⟨(some 18),.zc (.t 17) [(.t 7)],none⟩,⟨(some 19),.o (.mv (.t 6)),none⟩,⟨(some 20),.o (.nc (.t 18)),none⟩,⟨none,.o (.st (.t 20) (.t 19) 1),none⟩]) (.join (.seq (.aF [⟨(some 21),.o (.ld (.t 7) (some 7)),none⟩,⟨(some 22),.o (.gA g3 7 [(.t 21)]),none⟩,⟨(some 23),.o (.build cq [(113,1,(.t 22))]),none⟩,⟨(some 24),.call g4 [(.t 23)],none⟩,⟨(some 25),.o (.un .not (.t 24)),none⟩]) (.cond (.t 25) (.aF [⟨(some 26),.o (.mv (.t 5)),none⟩,⟨(some 27),.o (.build [(.int .i64 0),(.int .i64 0)] [(0,1,(.k (.int .i64 4))),(1,1,(.t 26))]),none⟩,⟨(some 28),.Gn g5 (.t 27),none⟩,⟨none,.Gm (.t 28),none⟩]) .skip)) (.seq (.aF [⟨(some 29),.o (.mv (.t 6)),none⟩,⟨(some 4),.o (.mv (.t 29)),none⟩]) .ret)))))))⟩
def iB:cU:=⟨6,[.tmp 2],.seq (.aF [⟨(some 2),.o (.mv (.k .lF)),none⟩]) (.seq (.aF [⟨(some 3),.o (.mv (.t 0)),none⟩,⟨(some 4),.o (.nc (.t 3)),none⟩,⟨(some 5),.o (.fa (.t 4) 1),none⟩,⟨(some 2),.o (.mv (.t 5)),none⟩]) .ret)⟩
def iC:cU:=⟨6,[.tmp 2],.seq (.aF [⟨(some 2),.o (.mv (.k .lF)),none⟩]) (.seq (.aF [⟨(some 3),.o (.mv (.t 0)),none⟩,⟨(some 4),.o (.nc (.t 3)),none⟩,⟨(some 5),.o (.fa (.t 4) 2),none⟩,⟨(some 2),.o (.mv (.t 5)),none⟩]) .ret)⟩
def iD:cU:=⟨6,[.tmp 2],.seq (.aF [⟨(some 2),.o (.mv (.k .lF)),none⟩]) (.seq (.aF [⟨(some 3),.o (.mv (.t 0)),none⟩,⟨(some 4),.o (.nc (.t 3)),none⟩,⟨(some 5),.o (.fa (.t 4) 3),none⟩,⟨(some 2),.o (.mv (.t 5)),none⟩]) .ret)⟩
def iE:cU:=⟨6,[.tmp 2],.seq (.aF [⟨(some 2),.o (.mv (.k .lF)),none⟩]) (.seq (.aF [⟨(some 3),.o (.mv (.t 0)),none⟩,⟨(some 4),.o (.nc (.t 3)),none⟩,⟨(some 5),.o (.fa (.t 4) 4),none⟩,⟨(some 2),.o (.mv (.t 5)),none⟩]) .ret)⟩
def vR:cU:=⟨26,[.cell 0 (some 16)],r [o 0 (.alloc lW)] (r [o 1 (.alloc lW)] (j (r [V 4 (i 0)] (u 0 (.loop (r [o 5 (bb .lss 4 (i 16))] (j (c 5 z (.exit 0)) (j (u 1 (r [M 6 4,M 2 6] (r [M 7 2,o 8 (.nk .u16 (t 7)),o 9 (bb .shl 8 (.int .u64 12)),M 3 9] (j (r [V 10 (i 0)] (u 2 (.loop (r [o 11 (bb .lss 10 (i 4))] (j (c 11 z (.exit 2)) (j (u 3 (r [M 12 3,o 13 (bb .and 12 (.int .u16 32768)),o 14 (bb .neq 13 (.int .u16 0))] (c 14 (R [M 15 3,o 16 (bb .shl 15 (.int .u64 1)),o 17 (bb .xor 16 (.int .u16 4129)),M 3 17]) (R [M 18 3,o 19 (bb .shl 18 (.int .u64 1)),M 3 19])))) (R [o 20 (bb .add 10 (i 1)),M 10 20]))))))) (R [M 21 2,M 22 3,o 23 (A 1 21 16 1),n (s 23 22 1)]))))) (R [o 24 (bb .add 4 (i 1)),M 4 24]))))))) (r [o 25 (L 1 16),n (s 0 25 16)] y)))⟩
end
abbrev W:=BitVec 16
def vS:W:=0x1021#16
def DN(c:W):W:=if c.msb then c<<<1^^^vS else c<<<1
def yE:Nat->W->W
 |0,c=>c
 |n+1,c=>yE n (DN c)
theorem Me(a b:W):DN (a^^^b)=DN a^^^DN b:=by
 unfold DN;rw[BitVec.msb_xor,BitVec.shiftLeft_xor_distrib]
 cases a.msb<;>cases b.msb<;>simp
 ·rw[BitVec.xor_assoc]
 ·rw[BitVec.xor_assoc,BitVec.xor_assoc,BitVec.xor_comm vS (b<<<1)]
 ·rw[BitVec.xor_assoc (a<<<1),BitVec.xor_comm vS (b<<<1^^^vS),BitVec.xor_assoc (b<<<1),BitVec.xor_self,BitVec.xor_zero]
theorem EN:∀(n:Nat) (a b:W),yE n (a^^^b)=yE n a^^^yE n b
 |0,_,_=>rfl
 |n+1,a,b=>by rw[yE,Me,EN n];rfl
theorem A8:∀(n m:Nat) (c:W),yE (n+m) c=yE m (yE n c)
 |0,m,c=>by rw[Nat.zero_add];rfl
 |n+1,m,c=>by rw[show n+1+m=(n+m)+1 by omega];exact A8 n m (DN c)
theorem EO:∀(n:Nat) (c:W),c.toNat<2^(16-n)->n<=16->yE n c=c<<<n
 |0,c,_,_=>by simp[yE]
 |n+1,c,h,hn=>by
  have h2:2^(16-n)=2*2^(16-(n+1)):=by rw[<-Nat.pow_succ'];congr 1;omega
  have h3:(2:Nat)^(16-n)<=2^16:=Nat.pow_le_pow_right (by omega) (by omega)
  have hm:c.msb=false:=by
   rw[BitVec.msb_eq_decide];simp only[decide_eq_false_iff_not];omega
  have e:DN c=c<<<1:=by unfold DN;rw[hm];rfl
  have ht:(c<<<1).toNat=2*c.toNat:=by rw[BitVec.toNat_shiftLeft,Nat.shiftLeft_eq,Nat.mod_eq_of_lt (by omega)];omega
  rw[yE,e,EO n (c<<<1) (by rw[ht];omega) (by omega),<-BitVec.shiftLeft_add,Nat.add_comm]
def CG(i:Nat):W:=yE 4 (BitVec.ofNat 16 (i*4096))
theorem four(c:W):yE 4 c=c<<<4^^^CG (c>>>12).toNat:=by
 have e:c=(c&&&0x0fff#16)^^^BitVec.ofNat 16 ((c>>>12).toNat*4096):=by
  have h:BitVec.ofNat 16 ((c>>>12).toNat*4096)=(c>>>12)<<<12:=by
   apply BitVec.eq_of_toNat_eq
   rw[BitVec.toNat_ofNat,BitVec.toNat_shiftLeft,Nat.shiftLeft_eq]
  rw[h]
  ext i hi
  have hi16:i=0\/i=1\/i=2\/i=3\/i=4\/i=5\/i=6\/i=7\/i=8\/i=9\/i=10\/i=11\/i=12\/i=13\/i=14\/i=15:=by omega
  rcases hi16 with rfl|rfl|rfl|rfl|rfl|rfl|rfl|rfl|rfl|rfl|rfl|rfl|rfl|rfl|rfl|rfl<;>simp
 have h1:yE 4 (c&&&0x0fff#16)=(c&&&0x0fff#16)<<<4:=by
  refine EO 4 _ ?_ (by omega)
  have:(c&&&0x0fff#16).toNat<=4095:=by rw[BitVec.toNat_and];exact Nat.and_le_right
  omega
 have h2:(c&&&0x0fff#16)<<<4=c<<<4:=by
  ext i hi
  have hi16:i=0\/i=1\/i=2\/i=3\/i=4\/i=5\/i=6\/i=7\/i=8\/i=9\/i=10\/i=11\/i=12\/i=13\/i=14\/i=15:=by omega
  rcases hi16 with rfl|rfl|rfl|rfl|rfl|rfl|rfl|rfl|rfl|rfl|rfl|rfl|rfl|rfl|rfl|rfl<;>simp
 conv=>lhs;rw[e]
 rw[EN,h1,h2];rfl
def Gc(c:W) (x:Nat):W:=yE 8 (c^^^BitVec.ofNat 16 x<<<8)
theorem Gd(c:W) (x:Nat):Gc c x=(let d:=c^^^BitVec.ofNat 16 x<<<8;let e:=d<<<4^^^CG (d>>>12).toNat;e<<<4^^^CG (e>>>12).toNat):=by
 simp only[Gc]
 rw[show 8=4+4 from rfl,A8,four,four]
def kZ(c:W) (l:List Int):W:=l.foldl (fun c x=>Gc c x.toNat) c
def gk(f:Nat->Bool):Nat->Bool
 |0=>false
 |n+1=>f n^^gk f n
theorem CH(f g:Nat->Bool):∀n,gk (fun i=>f i^^g i) n=(gk f n^^gk g n)
 |0=>rfl
 |n+1=>by
  rw[gk,gk,gk,CH f g n]
  cases f n<;>cases g n<;>cases gk f n<;>cases gk g n<;>rfl
def od(c:W):Bool:=gk c.getLsbD 16
theorem CI(a b:W):od (a^^^b)=(od a^^od b):=by
 unfold od;rw[<-CH]
 congr 1
 funext i
 exact BitVec.getLsbD_xor
theorem yF(f g:Nat->Bool) (h0:g 0=false):∀n,(∀i,i<n->g (i+1)=f i)->gk g (n+1)=gk f n
 |0,_=>by simp[gk,h0]
 |n+1,h=>by rw[gk,yF f g h0 n (fun i hi=>h i (by omega)),h n (by omega)];rfl
theorem I1(c:W):od (c<<<1)=(od c^^c.msb):=by
 have e:od (c<<<1)=gk c.getLsbD 15:=by
  refine yF c.getLsbD (c<<<1).getLsbD (by simp) 15 (fun i hi=>?_)
  rw[BitVec.getLsbD_shiftLeft];simp;omega
 rw[e,BitVec.msb_eq_getLsbD_last]
 show _=((c.getLsbD 15^^gk c.getLsbD 15)^^c.getLsbD 15)
 cases c.getLsbD 15<;>cases gk c.getLsbD 15<;>rfl
theorem I2(c:W):od (DN c)=od c:=by
 unfold DN
 have h:=I1 c
 have ht:od vS=true:=by decide
 split
 ·rename_i hm
  rw[CI,h,ht,hm];simp
 ·rename_i hm
  rw[h,show c.msb=false by simpa using hm];simp
theorem CJ:∀(n:Nat) (c:W),od (yE n c)=od c
 |0,_=>rfl
 |n+1,c=>by rw[yE,CJ n,I2]
def U(w:W):AV:=.int .u16 (w.toNat:Int)
theorem qN(n:Int):IntKind.u16.wrap n=n%65536:=rfl
theorem wO(w:W):BitVec.ofInt 16 (w.toNat:Int)=w:=by
 apply BitVec.eq_of_toNat_eq
 rw[BitVec.toNat_ofInt]
 have:=w.isLt
 omega
theorem I3(w:W):IntKind.u16.wrap (w.toNat:Int)=w.toNat:=by rw[qN];have:=w.isLt;omega
theorem I4(a b:W):qi .u16 (a.toNat:Int) (b.toNat:Int)=((a^^^b).toNat:Int):=by
 show IntKind.u16.wrap ((BitVec.ofInt 16 (a.toNat:Int)^^^BitVec.ofInt 16 (b.toNat:Int)).toNat:Int)=_
 rw[wO,wO,I3]
theorem UB(a b:W):oC .u16 (a.toNat:Int) (b.toNat:Int)=((a&&&b).toNat:Int):=by
 show IntKind.u16.wrap ((BitVec.ofInt 16 (a.toNat:Int)&&&BitVec.ofInt 16 (b.toNat:Int)).toNat:Int)=_
 rw[wO,wO,I3]
theorem I5(w:W) (k:Nat):IntKind.u16.wrap ((w.toNat:Int)*2^k)=((w<<<k).toNat:Int):=by
 rw[qN,BitVec.toNat_shiftLeft,Nat.shiftLeft_eq];simp
theorem UC(n:Nat) (h:n<65536):((BitVec.ofNat 16 n:W).toNat:Int)=n:=by rw[BitVec.toNat_ofNat];omega
def iN:List AV:=(List.range 16).map fun i=>U (CG i)
def iN.Spec(C:bt) (f:Nat):Prop:=C.c f [] (.agg Go.Eng.iN) none
def yG.Spec(C:bt) (f:Nat):Prop:=∀(c:W) (b:Option (List Int)),(b.getD []).length<=1000000->nE (b.getD [])->C.c f [U c,aJ gP b] (U (kZ c (b.getD []))) none
def zV.Spec(C:bt) (f:Nat):Prop:=∀b:Option (List Int),(b.getD []).length<=1000000->nE (b.getD [])->C.c f [aJ gP b] (U (kZ 0xffff#16 (b.getD []))) none
theorem Qi(w:W):(((w&&&0x8000#16).toNat:Int) !=0)=w.msb:=by
 have e:w&&&0x8000#16=if w.msb then 0x8000#16 else 0#16:=by
  rw[BitVec.msb_eq_getLsbD_last]
  ext i hi
  rw[BitVec.getElem_and]
  by_cases h:i=15
  ·subst h
   have:w[15]=w.getLsbD (16-1):=(BitVec.getLsbD_eq_getElem (by omega)).symm
   rw[this]
   cases w.getLsbD (16-1)<;>simp
  ·have e2:(0x8000#16:W)[i]=false:=by
    have hi16:i=0\/i=1\/i=2\/i=3\/i=4\/i=5\/i=6\/i=7\/i=8\/i=9\/i=10\/i=11\/i=12\/i=13\/i=14:=by omega
    rcases hi16 with rfl|rfl|rfl|rfl|rfl|rfl|rfl|rfl|rfl|rfl|rfl|rfl|rfl|rfl|rfl<;>simp
   rw[e2]
   cases w.getLsbD (16-1)<;>simp[e2]
 rw[e]
 cases w.msb<;>rfl
theorem I6(n:Nat) (c:W):yE (n+1) c=DN (yE n c):=A8 n 1 c
def de(k:Nat):List AV:=(List.range k).map (fun i=>U (CG i))++List.replicate (16-k) (.int .u16 0)
theorem A9{k:Nat} (h:k<=16):(de k).length=16:=by simp[de];omega
theorem Ba{k:Nat} (h:k<16):setCells (de k) k [U (CG k)]=de (k+1):=by
 have e:List.replicate (16-k) (AV.int .u16 0)=.int .u16 0::List.replicate (16-(k+1)) (.int .u16 0):=by rw[show 16-k=(16-(k+1))+1 by omega];rfl
 unfold de setCells;rw[e]
 have hl:((List.range k).map fun i=>U (CG i)).length=k:=by simp
 rw[List.take_left' hl];rw[List.range_succ,List.map_append];simp[List.drop_append,hl]
theorem Ge{c:W} {l:List Int} {i:Nat} {x:Int} (h:l[i]? =some x):kZ c (l.take (i+1))=Gc (kZ c (l.take i)) x.toNat:=by
 rw[List.take_add_one,h];simp[kZ]
section
variable{P:Program} (hm:P.follows .mixedOrders=true) {f:Nat}
include hm
theorem iN.ok(hc:dY P f=some vR):iN.Spec (Pure P) f:=by
 show(Pure P).c f _ _ none
 have z0:lW=de 0:=rfl
 refine aH hm hc (by show 0<=26;decide) (ay (keep:=[]) (i:=0) ?_)
 try simp only[I,B,D,RY,↓KW,seval,vR,Z.H,z0]
 refine aP (fun k:Nat=>(⟨[(4,.dat (I k) none),(1,.ptr 5 0),(0,.ptr 4 0)],[(5,⟨de k,[]⟩),(4,⟨de 0,[]⟩)],[],400⟩:S)) (fun k=>16-k) (fun k=>k<=16) ?_ 0 (by omega) ?_
 ·intro k hk A back
  have hw:=aN (k:=k) (by omega)
  try simp only[I,B,D,RY,↓KW,seval]
  refine ax (fun h=>?_) (fun h=>?_)<;>try simp only[I,B,D,RY,↓KW,seval,h]
  ·have h3:k<16:=by have:=of_decide_eq_true h;omega
   have hl:=A9 hk
   have e1:IntKind.u16.wrap (k:Int)=k:=by rw[qN];omega
   have e2:IntKind.u16.wrap ((k:Int)*2^min 12 IntKind.u16.bits)=((yE 0 (BitVec.ofNat 16 (k*4096))).toNat:Int):=by
    show IntKind.u16.wrap ((k:Int)*4096)=((BitVec.ofNat 16 (k*4096):W).toNat:Int)
    rw[qN,UC _ (by omega)];omega
   try simp only[I,B,D,RY,↓KW,seval,e1,e2]
   refine aP (fun j:Nat=>(⟨[(10,.dat (I j) none),(3,.dat (U (yE j (BitVec.ofNat 16 (k*4096)))) none),(2,.dat (I k) none),(4,.dat (I k) none),(1,.ptr 5 0),(0,.ptr 4 0)],[(5,⟨de k,[]⟩),(4,⟨de 0,[]⟩)],[],400⟩:S)) (fun j=>4-j) (fun j=>j<=4) ?_ 0 (by omega) ?_
   ·intro j hj A2 back2
    have hw2:=aN (k:=j) (by omega)
    try simp only[I,B,D,RY,↓KW,seval,U]
    refine ax (fun h2=>?_) (fun h2=>?_)<;>try simp only[I,B,D,RY,↓KW,seval,h2]
    ·have h4:j<4:=by have:=of_decide_eq_true h2;omega
     have hn:=I6 j (BitVec.ofNat 16 (k*4096))
     generalize yE j (BitVec.ofNat 16 (k*4096))=w at*
     have f1:oC .u16 (w.toNat:Int) 32768=((w&&&0x8000#16).toNat:Int):=UB w 0x8000#16
     have f2:=Qi w
     have f3:IntKind.u16.wrap ((w.toNat:Int)*2^min 1 IntKind.u16.bits)=((w<<<1).toNat:Int):=I5 w 1
     have f4:qi .u16 ((w<<<1).toNat:Int) 4129=((w<<<1^^^vS).toNat:Int):=I4 (w<<<1) vS
     try simp only[I,B,D,RY,↓KW,seval,f1,f2,U]
     refine ax (fun h5=>?_) (fun h5=>?_)<;>try simp only[I,B,D,RY,↓KW,seval,h5]
     ·have f5:DN w=w<<<1^^^vS:=by unfold DN;rw[h5];rfl
      try simp only[I,B,D,RY,↓KW,seval,f3,f4]
      refine back2 (j+1) _ (by omega) (by omega) (ai (by decide) ?_ ?_ ?_ ?_)<;>simp[LX,I,B,D,hw2,hn,f5,U]
     ·have f5:DN w=w<<<1:=by unfold DN;rw[h5];rfl
      try simp only[I,B,D,RY,↓KW,seval,f3,f4]
      refine back2 (j+1) _ (by omega) (by omega) (ai (by decide) ?_ ?_ ?_ ?_)<;>simp[LX,I,B,D,hw2,hn,f5,U]
    ·have h4:j=4:=by have:=of_decide_eq_false h2;omega
     subst h4
     have hs:setCells (de k) k [AV.int .u16 ((yE 4 (BitVec.ofNat 16 (k*4096))).toNat:Int)]=de (k+1):=Ba h3
     try simp only[I,B,D,RY,↓KW,seval,hl]
     repeat(refine And.intro (by omega) ?_)
     try simp only[I,B,D,RY,↓KW,seval,hl,hs]
     refine back (k+1) _ (by omega) (by omega) (ai (by decide) ?_ ?_ ?_ ?_)<;>simp[LX,I,B,D,hw,hs]
   ·refine ai (by decide) ?_ ?_ ?_ ?_<;>simp[LX,I,B,D,U]
  ·have h3:k=16:=by have:=of_decide_eq_false h;omega
   subst h3
   have w1:bF (de 16) 0 (some 16)=some (.agg (de 16)):=rfl
   have w2:(de 16).length=16:=rfl
   have w3:setCells (de 0) 0 (de 16)=de 16:=gu rfl
   have w4:(de 0).length=16:=rfl
   show _
   try simp only[I,B,D,RY,↓KW,seval,w1,w2,w3,w4]
   rfl
 ·refine ai (by decide) ?_ ?_ ?_ ?_<;>simp[LX,I,B,D]
theorem yG.ok{fR:Nat} (hc:dY P f=some (yD fR)) (hR:iN.Spec (Pure P) fR):yG.Spec (Pure P) f:=by
 intro c b hb hB
 obtain⟨l,hl⟩:∃l,l=b.getD []:=⟨_,rfl⟩
 rw[<-hl]at hb hB⊢
 have z0:lW.length=16:=rfl
 have z1:Go.Eng.iN.length=16:=rfl
 have z2:setCells lW 0 Go.Eng.iN=Go.Eng.iN:=gu rfl
 have fm:∀w:W,Go.Eng.iN[(w>>>12).toNat]? =some (U (CG (w>>>12).toNat)):=by
  intro w
  have:(w>>>12).toNat<16:=by rw[BitVec.toNat_ushiftRight,Nat.shiftRight_eq_div_pow];have:=w.isLt;omega
  rw[Go.Eng.iN,List.getElem?_map,List.getElem?_range this];rfl
 have shr:∀w:W,(w.toNat:Int).fdiv (2^min 12 IntKind.u16.bits)=((w>>>12).toNat:Int):=by
  intro w
  show(w.toNat:Int).fdiv 4096=_
  rw[Int.fdiv_eq_ediv_of_nonneg _ (by decide),BitVec.toNat_ushiftRight,Nat.shiftRight_eq_div_pow];rfl
 have lt16:∀w:W,((w>>>12).toNat:Int)<16:=by
  intro w
  rw[BitVec.toNat_ushiftRight,Nat.shiftRight_eq_div_pow];have:=w.isLt;omega
 have ge0:∀w:W,(0:Int)<=((w>>>12).toNat:Int):=fun w=>by omega
 have s4:∀w:W,IntKind.u16.wrap ((w.toNat:Int)*2^min 4 IntKind.u16.bits)=((w<<<4).toNat:Int):=fun w=>I5 w 4
 refine aH hm hc (by show 2<=36;decide) (ay (keep:=[]) (i:=0) ?_)
 try simp only[I,B,D,RY,↓KW,seval,yD,Z.H,U,z0]
 refine aj hR ?_;try simp only[I,B,D,RY,↓KW,seval,z0,z1,z2,<-hl,U]
 refine aP (fun i:Nat=>(⟨[(11,.dat (I i) none),(10,.dat (I l.length) none),(9,.dat (aJ gP b) none),(5,.ptr 6 0),(0,.dat (U (kZ c (l.take i))) none)],[(6,⟨Go.Eng.iN,[]⟩)],[],400⟩:S)) (fun i=>l.length-i) (fun i=>i<=l.length) ?_ 0 (by omega) ?_
 ·intro i hi A back
  have hw:=aN (k:=i) (by omega)
  try simp only[I,B,D,RY,↓KW,seval,<-hl,U]
  refine ax (fun h=>?_) (fun h=>?_)<;>try simp only[I,B,D,RY,↓KW,seval,h]
  ·have h3:i<l.length:=by have:=of_decide_eq_true h;omega
   obtain⟨x,hx⟩:∃x,l[i]? =some x:=⟨l[i],by simp[h3]⟩
   have hxb:=hB x (List.mem_of_getElem? hx)
   have hn:=Ge (c:=c) hx
   rw[Gd]at hn;generalize kZ c (l.take i)=w at*
   have e1:IntKind.u16.wrap x=x:=by rw[qN];omega
   have e2:IntKind.u16.wrap (x*2^min 8 IntKind.u16.bits)=((BitVec.ofNat 16 x.toNat<<<8:W).toNat:Int):=by
    have:=I5 (BitVec.ofNat 16 x.toNat) 8
    rw[UC _ (by omega),show((x.toNat:Nat):Int)=x by omega]at this
    exact this
   refine⟨⟨by omega,by first|omega|(rw[<-hl];omega)⟩,?_⟩
   try simp only[I,B,D,RY,↓KW,seval,<-hl,hx,gP,e1,e2,I4]
   generalize w^^^BitVec.ofNat 16 x.toNat<<<8=d at*;try simp only[I,B,D,RY,↓KW,seval,s4,shr,lt16,ge0,z1,Int.toNat_natCast,fm,U,I4]
   simp only at hn
   refine back (i+1) _ (by omega) (by omega) (ai (by decide) ?_ ?_ ?_ ?_)<;>simp[LX,I,B,D,hw,hn,U]
  ·have h3:i=l.length:=by have:=of_decide_eq_false h;omega
   subst h3;try simp only[I,B,D,RY,↓KW,seval,List.take_length]
 ·refine ai (by decide) ?_ ?_ ?_ ?_<;>simp[LX,I,B,D,U,kZ]
theorem zV.ok{fA:Nat} (hc:dY P f=some (zU fA)) (hA:yG.Spec (Pure P) fA):zV.Spec (Pure P) f:=by
 intro b hb hB
 refine aH hm hc (by show 1<=5;decide) (ay (keep:=[]) (i:=0) ?_)
 try simp only[I,B,D,RX,↓KW,seval,zU,Z.H]
 refine aj (hA 0xffff#16 b hb hB) ?_;try simp only[I,B,D,RX,↓KW,seval]
end
end Go.Eng
