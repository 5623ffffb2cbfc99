/- The engine and the library,part 17 of 18: what the proofs of this seat need of them. -/
import Derived.Test.YthoinfdfenkgnaaGreatPk16
set_option linter.unnecessarySimpa false
set_option linter.unusedSimpArgs false
set_option linter.unusedVariables false
set_option linter.defProp false
set_option maxRecDepth 10000
set_option maxHeartbeats 4000000
namespace Go.Eng
open Go
def uQ(l:List (Bool×Int×Int×Int)):List (Int×Int×Int):=(l.filter (·.1)).map (·.2)
def Gq(l:List (Int×Int×Int)):AV:=if l=[]then .aL else .sl (l.map uD)
def DG(x:Fr):Bool:=oc x.fm
def iC(x:Fr) (lines:Int):Fr:=if DG x then x else⟨none,0,0,lines,0,false⟩
theorem uM(x:Fr) (lines:Int):(uB x.fm lines).cells=(iC x lines).cells:=by
 unfold uB iC DG;cases oc x.fm
 ·rfl
 ·exact Fr.tW x
def jq(n:Int):Int:=fj n 0 9999+1
structure acT where
 b:Bx
 l:List Int
 ev:List (Int×Int×Int)
def Z5:List Int:=List.replicate 8 1
theorem Gd:Z5.map I=uE:=rfl
def Du(t:Tb) (b:Bx) (ln:Int):Bx:=if decide (t.start<=jq b.time)then⟨2,0,b.fault,b.st,b.bt,ln,IntKind.i64.wrap (b.tick+1)⟩else⟨b.mode,jq b.time,b.fault,b.st,b.bt,ln,IntKind.i64.wrap (b.tick+1)⟩
def Dv(t:Tb) (b:Bx) (ln:Int) (reset:Bool):Bx:=if decide (t.least<=jq b.time)&&reset then⟨1,0,0,b.st,b.bt,ln,IntKind.i64.wrap (b.tick+1)⟩else⟨b.mode,jq b.time,b.fault,b.st,b.bt,ln,IntKind.i64.wrap (b.tick+1)⟩
def eH(good:Bool) (b b':Bx):List (Int×Int×Int):=
 uQ [(!good,b'.tick,5,0),(b.mode==2&&b'.mode==3,b'.tick,2,b'.fault),(b'.mode !=b.mode,b'.tick,1,b'.mode),((b.mode==2&&b'.mode==2)&&b'.st.pre.aq !=b.st.pre.aq,b'.tick,3,b'.st.pre.aq),((b.mode==2&&b'.mode==2)&&b'.st.rings.group !=b.st.rings.group,b'.tick,4,b'.st.rings.group)]
def nA(b':Bx) (l:List Int) (ev:List (Int×Int×Int)):AV:=.cN [.agg b'.cells,.agg (l.map I),Gq ev]
def Ge.Spec(C:aS) (f:Nat):Prop:=∀(t:Tb) (b:Bx) (x:Fr),t.Ok->b.Ok->b.mode=1->C.c f [.agg t.cells,.agg b.cells,.agg x.cells] (nA (Du t b (iC x b.lines).lines) Z5 (eH (DG x) b (Du t b (iC x b.lines).lines))) none
def Gf.Spec(C:aS) (f:Nat):Prop:=∀(t:Tb) (b:Bx) (x:Fr),t.Ok->b.Ok->b.mode=3->C.c f [.agg t.cells,.agg b.cells,.agg x.cells] (nA (Dv t b (iC x b.lines).lines (iC x b.lines).reset) (fe t) (eH (DG x) b (Dv t b (iC x b.lines).lines (iC x b.lines).reset))) none
theorem O3{t:Tb} (h:t.Ok):t.cells[120]? =some (I t.least):=Tb.tail_at h 4 (by omega)
theorem WR{st:bP} {bt:Mn} (h1:st.Ok) (h2:bt.Ok):
  (∀m ti fl ln tk,(Bx.mk m ti fl st bt ln tk).cells.length=138)/\(∀m ti fl ln tk,ay (Bx.mk m ti fl st bt ln tk).cells 0 (some 138)=some (.agg (Bx.mk m ti fl st bt ln tk).cells))/\
  (∀m ti fl ln tk,(Bx.mk m ti fl st bt ln tk).cells[0]? =some (I m))/\(∀m ti fl ln tk,(Bx.mk m ti fl st bt ln tk).cells[1]? =some (I ti))/\(∀m ti fl ln tk,(Bx.mk m ti fl st bt ln tk).cells[2]? =some (I fl))/\
  (∀m ti fl ln tk,(Bx.mk m ti fl st bt ln tk).cells[136]? =some (I ln))/\(∀m ti fl ln tk,(Bx.mk m ti fl st bt ln tk).cells[137]? =some (I tk))/\(∀m ti fl ln tk,(Bx.mk m ti fl st bt ln tk).cells[109]? =some (I st.pre.aq))/\(∀m ti fl ln tk,(Bx.mk m ti fl st bt ln tk).cells[99]? =some (I st.rings.group))/\
  (∀m ti fl ln tk v,setCells (Bx.mk m ti fl st bt ln tk).cells 0 [I v]=(Bx.mk v ti fl st bt ln tk).cells)/\(∀m ti fl ln tk v,setCells (Bx.mk m ti fl st bt ln tk).cells 1 [I v]=(Bx.mk m v fl st bt ln tk).cells)/\(∀m ti fl ln tk v,setCells (Bx.mk m ti fl st bt ln tk).cells 2 [I v]=(Bx.mk m ti v st bt ln tk).cells)/\
  (∀m ti fl ln tk v,setCells (Bx.mk m ti fl st bt ln tk).cells 136 [I v]=(Bx.mk m ti fl st bt v tk).cells)/\(∀m ti fl ln tk v,setCells (Bx.mk m ti fl st bt ln tk).cells 137 [I v]=(Bx.mk m ti fl st bt ln v).cells)/\(∀m ti fl ln tk,setCells az 0 (Bx.mk m ti fl st bt ln tk).cells=(Bx.mk m ti fl st bt ln tk).cells):=by
 have ok:∀m ti fl ln tk,(Bx.mk m ti fl st bt ln tk).Ok:=fun _ _ _ _ _=>⟨h1,h2⟩
 exact⟨fun _ _ _ _ _=>Bx.len (ok ..),fun _ _ _ _ _=>Bx.whole (ok ..),fun _ _ _ _ _=>rfl,fun _ _ _ _ _=>rfl,fun _ _ _ _ _=>rfl,fun m ti fl ln tk=>(Bx.jP (ok m ti fl ln tk)).1,fun m ti fl ln tk=>(Bx.jP (ok m ti fl ln tk)).2,fun m ti fl ln tk=>Bx.HP (ok m ti fl ln tk),fun m ti fl ln tk=>Bx.HQ (ok m ti fl ln tk),
  fun _ _ _ _ _ _=>rfl,fun _ _ _ _ _ _=>rfl,fun _ _ _ _ _ _=>rfl,fun m ti fl ln tk v=>(Bx.mY (ok m ti fl ln tk) v).1,fun m ti fl ln tk v=>(Bx.mY (ok m ti fl ln tk) v).2,fun _ _ _ _ _=>bk (by rw[Bx.len (ok ..)];rfl)⟩
theorem Pk(x:Fr):x.cells.length=6/\ay x.cells 0 (some 6)=some (.agg x.cells)/\x.cells[3]? =some (I x.lines)/\x.cells[5]? =some (B x.reset)/\∀y:Fr,setCells x.cells 0 y.cells=y.cells:=⟨rfl,rfl,rfl,rfl,fun _=>rfl⟩
section
variable{P:Program} (hm:P.follows .mixedOrders=true) {f:Nat}
include hm
theorem Ge.ok{fG fC fP fR fM fT f1 e:Nat} (hc:pZ true P f=some (aO fG fC fP fR fM fT f1)) (hG:ni.Spec (Pure P) fG) (hC:iV.Spec (Pure P) fC) (hP:nq.Spec (Pure P) fP) (hR:wj.Spec (Pure P) fR) (hM:qE.Spec (Pure P) fM)
  (h0:oB.Spec (Pure P) f1) (hN:qJ.Spec (Pure P) e f1) (hF:qK.Spec (Pure P) e f1) (hJ:qL.Spec (Pure P) e f1):Ge.Spec (Pure P) f:=by
 intro t b x ht hb hmode;obtain⟨m,ti,fl,st,bt,ln,tk⟩:=b;simp only at hmode;subst hmode
 have hl:=Tb.len ht
 have hp:=Tb.whole ht
 have h118:=SQ ht
 have cG:=hG x.fm
 have cC:=hC x.fm ln
 rw[uM]at cC;rw[Fr.tW]at cG cC
 have hgo:oc x.fm=DG x:=rfl
 rw[hgo]at cG
 have cP:=hP t ht
 have cM:=hM ti
 have hmo:fj ti 0 9999+1=jq ti:=rfl
 rw[hmo]at cM
 have mA:∀m ti fl ln tk,(Bx.mk m ti fl st bt ln tk).Ok:=fun _ _ _ _ _=>⟨hb.st,hb.bt⟩
 obtain⟨c1,c2,c3,c4,c5,c6,c7,c8,c9,d0,d1,d2,d3,d4,d5⟩:=WR hb.st hb.bt;obtain⟨f1',f2,f3,f4,f5⟩:=Pk x
 obtain⟨g1,g2,g3,g4,g5⟩:=Pk (iC x ln)
 have d6:az.length=138:=rfl
 have p1:((fe t).map I).length=8:=by simp[fe,fc]
 have p2:setCells [.int .i64 0,.int .i64 0,.int .i64 0,.int .i64 0,.int .i64 0,.int .i64 0,.int .i64 0,.int .i64 0] 0 ((fe t).map I)=(fe t).map I:=bk (by rw[p1];rfl)
 have p3:setCells ((fe t).map I) 0 uE=uE:=rfl
 have p4:uE.length=8:=rfl
 have p5:ay uE 0 (some 8)=some (.agg uE):=rfl
 have p6:setCells [.int .i64 0,.int .i64 0,.int .i64 0,.int .i64 0,.int .i64 0,.int .i64 0,.int .i64 0,.int .i64 0] 0 uE=uE:=rfl
 have hbx:Du t ⟨1,ti,fl,st,bt,ln,tk⟩ (iC x ln).lines=if decide (t.start<=jq ti)then⟨2,0,fl,st,bt,(iC x ln).lines,IntKind.i64.wrap (tk+1)⟩else⟨1,jq ti,fl,st,bt,(iC x ln).lines,IntKind.i64.wrap (tk+1)⟩:=rfl
 show(Pure P).c f _ (nA (Du t ⟨1,ti,fl,st,bt,ln,tk⟩ (iC x ln).lines) Z5 (eH (DG x) ⟨1,ti,fl,st,bt,ln,tk⟩ (Du t ⟨1,ti,fl,st,bt,ln,tk⟩ (iC x ln).lines))) none
 rw[hbx];generalize iC x ln=y at*;generalize jq ti=v at*
 have faA:=And.intro hl (And.intro hp (And.intro h118 (And.intro c1 (And.intro c2 (And.intro c3 (And.intro c4 (And.intro c5 (And.intro c6 (And.intro c7 (And.intro c8 (And.intro c9 (And.intro d0 (And.intro d1 (And.intro d2 (And.intro d3 (And.intro d4 (And.intro d5 (And.intro d6 (And.intro f1' (And.intro f2 (And.intro f3 (And.intro f4 (And.intro f5 (And.intro g1 (And.intro g2 (And.intro g3 (And.intro g4 (And.intro g5 (And.intro p1 (And.intro p2 (And.intro p3 (And.intro p4 (And.intro p5 (p6))))))))))))))))))))))))))))))))))
 rcases bf (DG x)with hg|hg<;>rcases bf (decide (t.start<=v))with h|h
 ·rw[hg]at cG
  have hev:eH false ⟨1,ti,fl,st,bt,ln,tk⟩ (Bx.mk 1 v fl st bt y.lines (IntKind.i64.wrap (tk+1)))=[((IntKind.i64.wrap (tk+1)),5,0)]:=by simp[eH,uQ]
  simp only[hg,h,if_true,if_false,Bool.false_eq_true];rw[hev];simp only[nA,Gq,List.map_cons,List.map_nil,reduceCtorEq,if_true,if_false];rw[Gd]
  refine ak hm hc (by show 3<=145;decide) (aj (keep:=[]) (i:=0) ?_)
  try simp only[I,B,D,RY,bD,Option.bind_some,cond_true,cond_false,if_true,aY,aZ,bh,↓KW,↓bg,seval,aO,Z.H,faA]
  first|refine af cG ?_|refine aC cG ?_
  try simp only[I,B,D,RY,bD,Option.bind_some,cond_true,cond_false,if_true,aY,aZ,bh,↓KW,↓bg,seval,faA]
  first|refine af cC ?_|refine aC cC ?_
  try simp only[I,B,D,RY,bD,Option.bind_some,cond_true,cond_false,if_true,aY,aZ,bh,↓KW,↓bg,seval,faA]
  first|refine af cP ?_|refine aC cP ?_
  try simp only[I,B,D,RY,bD,Option.bind_some,cond_true,cond_false,if_true,aY,aZ,bh,↓KW,↓bg,seval,faA]
  first|refine af hR ?_|refine aC hR ?_
  try simp only[I,B,D,RY,bD,Option.bind_some,cond_true,cond_false,if_true,aY,aZ,bh,↓KW,↓bg,seval,faA]
  first|refine af cM ?_|refine aC cM ?_
  try simp only[I,B,D,RY,bD,Option.bind_some,cond_true,cond_false,if_true,aY,aZ,bh,↓KW,↓bg,seval,h,faA]
  refine⟨rfl,dn (hF (Bx.mk 1 v fl st bt y.lines (IntKind.i64.wrap (tk+1))).cells (IntKind.i64.wrap (tk+1)) 5 0 (c7 ..)) ?_⟩;try simp only[I,B,D,RY,bD,Option.bind_some,cond_true,cond_false,if_true,aY,aZ,bh,↓KW,↓bg,seval,faA]
  refine⟨rfl,aA (hN (.sl [eJ (IntKind.i64.wrap (tk+1)) 5 0]) (Bx.mk 1 v fl st bt y.lines (IntKind.i64.wrap (tk+1))).cells 2 fl) rfl rfl rfl rfl ?_⟩;try simp only[I,B,D,RY,bD,Option.bind_some,cond_true,cond_false,if_true,aY,aZ,bh,↓KW,↓bg,seval,faA]
  refine⟨rfl,aA (hN (.sl [eJ (IntKind.i64.wrap (tk+1)) 5 0]) (Bx.mk 1 v fl st bt y.lines (IntKind.i64.wrap (tk+1))).cells 1 1) rfl rfl rfl rfl ?_⟩;try simp only[I,B,D,RY,bD,Option.bind_some,cond_true,cond_false,if_true,aY,aZ,bh,↓KW,↓bg,seval,faA]
  refine⟨rfl,aA (hN (.sl [eJ (IntKind.i64.wrap (tk+1)) 5 0]) (Bx.mk 1 v fl st bt y.lines (IntKind.i64.wrap (tk+1))).cells 3 st.pre.aq) rfl rfl rfl rfl ?_⟩;try simp only[I,B,D,RY,bD,Option.bind_some,cond_true,cond_false,if_true,aY,aZ,bh,↓KW,↓bg,seval,faA]
  refine⟨rfl,aA (hN (.sl [eJ (IntKind.i64.wrap (tk+1)) 5 0]) (Bx.mk 1 v fl st bt y.lines (IntKind.i64.wrap (tk+1))).cells 4 st.rings.group) rfl rfl rfl rfl ?_⟩;try simp only[I,B,D,RY,bD,Option.bind_some,cond_true,cond_false,if_true,aY,aZ,bh,↓KW,↓bg,seval,faA]
  refine dG rfl ?_;try simp only[I,B,D,RY,bD,Option.bind_some,cond_true,cond_false,if_true,aY,aZ,bh,↓KW,↓bg,seval,uD,eJ,faA]
 ·rw[hg]at cG
  have hev:eH false ⟨1,ti,fl,st,bt,ln,tk⟩ (Bx.mk 2 0 fl st bt y.lines (IntKind.i64.wrap (tk+1)))=[((IntKind.i64.wrap (tk+1)),5,0),((IntKind.i64.wrap (tk+1)),1,2)]:=by simp[eH,uQ]
  simp only[hg,h,if_true,if_false,Bool.false_eq_true];rw[hev];simp only[nA,Gq,List.map_cons,List.map_nil,reduceCtorEq,if_true,if_false];rw[Gd]
  refine ak hm hc (by show 3<=145;decide) (aj (keep:=[]) (i:=0) ?_)
  try simp only[I,B,D,RY,bD,Option.bind_some,cond_true,cond_false,if_true,aY,aZ,bh,↓KW,↓bg,seval,aO,Z.H,faA]
  first|refine af cG ?_|refine aC cG ?_
  try simp only[I,B,D,RY,bD,Option.bind_some,cond_true,cond_false,if_true,aY,aZ,bh,↓KW,↓bg,seval,faA]
  first|refine af cC ?_|refine aC cC ?_
  try simp only[I,B,D,RY,bD,Option.bind_some,cond_true,cond_false,if_true,aY,aZ,bh,↓KW,↓bg,seval,faA]
  first|refine af cP ?_|refine aC cP ?_
  try simp only[I,B,D,RY,bD,Option.bind_some,cond_true,cond_false,if_true,aY,aZ,bh,↓KW,↓bg,seval,faA]
  first|refine af hR ?_|refine aC hR ?_
  try simp only[I,B,D,RY,bD,Option.bind_some,cond_true,cond_false,if_true,aY,aZ,bh,↓KW,↓bg,seval,faA]
  first|refine af cM ?_|refine aC cM ?_
  try simp only[I,B,D,RY,bD,Option.bind_some,cond_true,cond_false,if_true,aY,aZ,bh,↓KW,↓bg,seval,h,faA]
  refine⟨rfl,dn (hF (Bx.mk 2 0 fl st bt y.lines (IntKind.i64.wrap (tk+1))).cells (IntKind.i64.wrap (tk+1)) 5 0 (c7 ..)) ?_⟩;try simp only[I,B,D,RY,bD,Option.bind_some,cond_true,cond_false,if_true,aY,aZ,bh,↓KW,↓bg,seval,faA]
  refine⟨rfl,aA (hN (.sl [eJ (IntKind.i64.wrap (tk+1)) 5 0]) (Bx.mk 2 0 fl st bt y.lines (IntKind.i64.wrap (tk+1))).cells 2 fl) rfl rfl rfl rfl ?_⟩;try simp only[I,B,D,RY,bD,Option.bind_some,cond_true,cond_false,if_true,aY,aZ,bh,↓KW,↓bg,seval,faA]
  refine⟨rfl,aA (hJ [eJ (IntKind.i64.wrap (tk+1)) 5 0] (Bx.mk 2 0 fl st bt y.lines (IntKind.i64.wrap (tk+1))).cells (IntKind.i64.wrap (tk+1)) 1 2 (c7 ..) (by simp) (by simp[eJ])) rfl rfl rfl rfl ?_⟩
  try simp only[I,B,D,RY,bD,Option.bind_some,cond_true,cond_false,if_true,aY,aZ,bh,↓KW,↓bg,seval,faA]
  refine⟨rfl,aA (hN (.sl [eJ (IntKind.i64.wrap (tk+1)) 5 0,eJ (IntKind.i64.wrap (tk+1)) 1 2]) (Bx.mk 2 0 fl st bt y.lines (IntKind.i64.wrap (tk+1))).cells 3 st.pre.aq) rfl rfl rfl rfl ?_⟩;try simp only[I,B,D,RY,bD,Option.bind_some,cond_true,cond_false,if_true,aY,aZ,bh,↓KW,↓bg,seval,faA]
  refine⟨rfl,aA (hN (.sl [eJ (IntKind.i64.wrap (tk+1)) 5 0,eJ (IntKind.i64.wrap (tk+1)) 1 2]) (Bx.mk 2 0 fl st bt y.lines (IntKind.i64.wrap (tk+1))).cells 4 st.rings.group) rfl rfl rfl rfl ?_⟩;try simp only[I,B,D,RY,bD,Option.bind_some,cond_true,cond_false,if_true,aY,aZ,bh,↓KW,↓bg,seval,faA]
  refine dG rfl ?_;try simp only[I,B,D,RY,bD,Option.bind_some,cond_true,cond_false,if_true,aY,aZ,bh,↓KW,↓bg,seval,uD,eJ,faA]
 ·rw[hg]at cG
  have hev:eH true ⟨1,ti,fl,st,bt,ln,tk⟩ (Bx.mk 1 v fl st bt y.lines (IntKind.i64.wrap (tk+1)))=[]:=by simp[eH,uQ]
  simp only[hg,h,if_true,if_false,Bool.false_eq_true];rw[hev];simp only[nA,Gq,List.map_cons,List.map_nil,reduceCtorEq,if_true,if_false];rw[Gd]
  refine ak hm hc (by show 3<=145;decide) (aj (keep:=[]) (i:=0) ?_)
  try simp only[I,B,D,RY,bD,Option.bind_some,cond_true,cond_false,if_true,aY,aZ,bh,↓KW,↓bg,seval,aO,Z.H,faA]
  first|refine af cG ?_|refine aC cG ?_
  try simp only[I,B,D,RY,bD,Option.bind_some,cond_true,cond_false,if_true,aY,aZ,bh,↓KW,↓bg,seval,faA]
  first|refine af cC ?_|refine aC cC ?_
  try simp only[I,B,D,RY,bD,Option.bind_some,cond_true,cond_false,if_true,aY,aZ,bh,↓KW,↓bg,seval,faA]
  first|refine af cP ?_|refine aC cP ?_
  try simp only[I,B,D,RY,bD,Option.bind_some,cond_true,cond_false,if_true,aY,aZ,bh,↓KW,↓bg,seval,faA]
  first|refine af hR ?_|refine aC hR ?_
  try simp only[I,B,D,RY,bD,Option.bind_some,cond_true,cond_false,if_true,aY,aZ,bh,↓KW,↓bg,seval,faA]
  first|refine af cM ?_|refine aC cM ?_
  try simp only[I,B,D,RY,bD,Option.bind_some,cond_true,cond_false,if_true,aY,aZ,bh,↓KW,↓bg,seval,h,faA]
  refine⟨rfl,aK (h0 .aL (Bx.mk 1 v fl st bt y.lines (IntKind.i64.wrap (tk+1))) 5 0 (mA ..)) ?_⟩;try simp only[I,B,D,RY,bD,Option.bind_some,cond_true,cond_false,if_true,aY,aZ,bh,↓KW,↓bg,seval,faA]
  refine⟨rfl,aK (h0 .aL (Bx.mk 1 v fl st bt y.lines (IntKind.i64.wrap (tk+1))) 2 fl (mA ..)) ?_⟩;try simp only[I,B,D,RY,bD,Option.bind_some,cond_true,cond_false,if_true,aY,aZ,bh,↓KW,↓bg,seval,faA]
  refine⟨rfl,aK (h0 .aL (Bx.mk 1 v fl st bt y.lines (IntKind.i64.wrap (tk+1))) 1 1 (mA ..)) ?_⟩;try simp only[I,B,D,RY,bD,Option.bind_some,cond_true,cond_false,if_true,aY,aZ,bh,↓KW,↓bg,seval,faA]
  refine⟨rfl,aK (h0 .aL (Bx.mk 1 v fl st bt y.lines (IntKind.i64.wrap (tk+1))) 3 st.pre.aq (mA ..)) ?_⟩;try simp only[I,B,D,RY,bD,Option.bind_some,cond_true,cond_false,if_true,aY,aZ,bh,↓KW,↓bg,seval,faA]
  refine⟨rfl,aK (h0 .aL (Bx.mk 1 v fl st bt y.lines (IntKind.i64.wrap (tk+1))) 4 st.rings.group (mA ..)) ?_⟩;try simp only[I,B,D,RY,bD,Option.bind_some,cond_true,cond_false,if_true,aY,aZ,bh,↓KW,↓bg,seval,faA]
  refine dG rfl ?_;try simp only[I,B,D,RY,bD,Option.bind_some,cond_true,cond_false,if_true,aY,aZ,bh,↓KW,↓bg,seval,uD,eJ,faA]
 ·rw[hg]at cG
  have hev:eH true ⟨1,ti,fl,st,bt,ln,tk⟩ (Bx.mk 2 0 fl st bt y.lines (IntKind.i64.wrap (tk+1)))=[((IntKind.i64.wrap (tk+1)),1,2)]:=by simp[eH,uQ]
  simp only[hg,h,if_true,if_false,Bool.false_eq_true];rw[hev];simp only[nA,Gq,List.map_cons,List.map_nil,reduceCtorEq,if_true,if_false];rw[Gd]
  refine ak hm hc (by show 3<=145;decide) (aj (keep:=[]) (i:=0) ?_)
  try simp only[I,B,D,RY,bD,Option.bind_some,cond_true,cond_false,if_true,aY,aZ,bh,↓KW,↓bg,seval,aO,Z.H,faA]
  first|refine af cG ?_|refine aC cG ?_
  try simp only[I,B,D,RY,bD,Option.bind_some,cond_true,cond_false,if_true,aY,aZ,bh,↓KW,↓bg,seval,faA]
  first|refine af cC ?_|refine aC cC ?_
  try simp only[I,B,D,RY,bD,Option.bind_some,cond_true,cond_false,if_true,aY,aZ,bh,↓KW,↓bg,seval,faA]
  first|refine af cP ?_|refine aC cP ?_
  try simp only[I,B,D,RY,bD,Option.bind_some,cond_true,cond_false,if_true,aY,aZ,bh,↓KW,↓bg,seval,faA]
  first|refine af hR ?_|refine aC hR ?_
  try simp only[I,B,D,RY,bD,Option.bind_some,cond_true,cond_false,if_true,aY,aZ,bh,↓KW,↓bg,seval,faA]
  first|refine af cM ?_|refine aC cM ?_
  try simp only[I,B,D,RY,bD,Option.bind_some,cond_true,cond_false,if_true,aY,aZ,bh,↓KW,↓bg,seval,h,faA]
  refine⟨rfl,aK (h0 .aL (Bx.mk 2 0 fl st bt y.lines (IntKind.i64.wrap (tk+1))) 5 0 (mA ..)) ?_⟩;try simp only[I,B,D,RY,bD,Option.bind_some,cond_true,cond_false,if_true,aY,aZ,bh,↓KW,↓bg,seval,faA]
  refine⟨rfl,aK (h0 .aL (Bx.mk 2 0 fl st bt y.lines (IntKind.i64.wrap (tk+1))) 2 fl (mA ..)) ?_⟩;try simp only[I,B,D,RY,bD,Option.bind_some,cond_true,cond_false,if_true,aY,aZ,bh,↓KW,↓bg,seval,faA]
  refine⟨rfl,dn (hF (Bx.mk 2 0 fl st bt y.lines (IntKind.i64.wrap (tk+1))).cells (IntKind.i64.wrap (tk+1)) 1 2 (c7 ..)) ?_⟩;try simp only[I,B,D,RY,bD,Option.bind_some,cond_true,cond_false,if_true,aY,aZ,bh,↓KW,↓bg,seval,faA]
  refine⟨rfl,aA (hN (.sl [eJ (IntKind.i64.wrap (tk+1)) 1 2]) (Bx.mk 2 0 fl st bt y.lines (IntKind.i64.wrap (tk+1))).cells 3 st.pre.aq) rfl rfl rfl rfl ?_⟩;try simp only[I,B,D,RY,bD,Option.bind_some,cond_true,cond_false,if_true,aY,aZ,bh,↓KW,↓bg,seval,faA]
  refine⟨rfl,aA (hN (.sl [eJ (IntKind.i64.wrap (tk+1)) 1 2]) (Bx.mk 2 0 fl st bt y.lines (IntKind.i64.wrap (tk+1))).cells 4 st.rings.group) rfl rfl rfl rfl ?_⟩;try simp only[I,B,D,RY,bD,Option.bind_some,cond_true,cond_false,if_true,aY,aZ,bh,↓KW,↓bg,seval,faA]
  refine dG rfl ?_;try simp only[I,B,D,RY,bD,Option.bind_some,cond_true,cond_false,if_true,aY,aZ,bh,↓KW,↓bg,seval,uD,eJ,faA]
theorem Gf.ok{fG fC fP fR fM fT f1 e:Nat} (hc:pZ true P f=some (aO fG fC fP fR fM fT f1)) (hG:ni.Spec (Pure P) fG) (hC:iV.Spec (Pure P) fC) (hP:nq.Spec (Pure P) fP) (hM:qE.Spec (Pure P) fM)
  (h0:oB.Spec (Pure P) f1) (hN:qJ.Spec (Pure P) e f1) (hF:qK.Spec (Pure P) e f1) (hJ:qL.Spec (Pure P) e f1):Gf.Spec (Pure P) f:=by
 intro t b x ht hb hmode;obtain⟨m,ti,fl,st,bt,ln,tk⟩:=b;simp only at hmode;subst hmode
 have hl:=Tb.len ht
 have hp:=Tb.whole ht
 have h120:=O3 ht
 have cG:=hG x.fm
 have cC:=hC x.fm ln
 rw[uM]at cC;rw[Fr.tW]at cG cC
 have hgo:oc x.fm=DG x:=rfl
 rw[hgo]at cG
 have cP:=hP t ht
 have cM:=hM ti
 have hmo:fj ti 0 9999+1=jq ti:=rfl
 rw[hmo]at cM
 have mA:∀m ti fl ln tk,(Bx.mk m ti fl st bt ln tk).Ok:=fun _ _ _ _ _=>⟨hb.st,hb.bt⟩
 obtain⟨c1,c2,c3,c4,c5,c6,c7,c8,c9,d0,d1,d2,d3,d4,d5⟩:=WR hb.st hb.bt;obtain⟨f1',f2,f3,f4,f5⟩:=Pk x
 obtain⟨g1,g2,g3,g4,g5⟩:=Pk (iC x ln)
 have d6:az.length=138:=rfl
 have p1:((fe t).map I).length=8:=by simp[fe,fc]
 have p2:setCells [.int .i64 0,.int .i64 0,.int .i64 0,.int .i64 0,.int .i64 0,.int .i64 0,.int .i64 0,.int .i64 0] 0 ((fe t).map I)=(fe t).map I:=bk (by rw[p1];rfl)
 have p3:setCells ((fe t).map I) 0 uE=uE:=rfl
 have p4:uE.length=8:=rfl
 have p5:ay uE 0 (some 8)=some (.agg uE):=rfl
 have p6:setCells [.int .i64 0,.int .i64 0,.int .i64 0,.int .i64 0,.int .i64 0,.int .i64 0,.int .i64 0,.int .i64 0] 0 uE=uE:=rfl
 have p7:ay ((fe t).map I) 0 (some 8)=some (.agg ((fe t).map I)):=rfl
 have hbx:∀y:Fr,Dv t ⟨3,ti,fl,st,bt,ln,tk⟩ y.lines y.reset=if decide (t.least<=jq ti)&&y.reset then⟨1,0,0,st,bt,y.lines,IntKind.i64.wrap (tk+1)⟩else⟨3,jq ti,fl,st,bt,y.lines,IntKind.i64.wrap (tk+1)⟩:=fun _=>rfl
 show(Pure P).c f _ (nA (Dv t ⟨3,ti,fl,st,bt,ln,tk⟩ (iC x ln).lines (iC x ln).reset) (fe t) (eH (DG x) ⟨3,ti,fl,st,bt,ln,tk⟩ (Dv t ⟨3,ti,fl,st,bt,ln,tk⟩ (iC x ln).lines (iC x ln).reset))) none
 rw[hbx];generalize iC x ln=y at*;generalize jq ti=v at*
 obtain⟨rs,hrs⟩:∃r,r=y.reset:=⟨_,rfl⟩
 rw[<-hrs]at g4⊢
 have faA:=And.intro hl (And.intro hp (And.intro h120 (And.intro c1 (And.intro c2 (And.intro c3 (And.intro c4 (And.intro c5 (And.intro c6 (And.intro c7 (And.intro c8 (And.intro c9 (And.intro d0 (And.intro d1 (And.intro d2 (And.intro d3 (And.intro d4 (And.intro d5 (And.intro d6 (And.intro f1' (And.intro f2 (And.intro f3 (And.intro f4 (And.intro f5 (And.intro g1 (And.intro g2 (And.intro g3 (And.intro g4 (And.intro g5 (And.intro p1 (And.intro p2 (p7)))))))))))))))))))))))))))))))
 rcases bf (DG x)with hg|hg<;>rcases bf (decide (t.least<=v))with h|h<;>rcases bf rs with hr|hr
 ·rw[hg]at cG
  rw[hr]at g4
  have hev:eH false ⟨3,ti,fl,st,bt,ln,tk⟩ (Bx.mk 3 v fl st bt y.lines (IntKind.i64.wrap (tk+1)))=[((IntKind.i64.wrap (tk+1)),5,0)]:=by simp[eH,uQ]
  simp only[hg,h,hr,Bool.and_true,Bool.and_false,if_true,if_false,Bool.false_eq_true];rw[hev];simp only[nA,Gq,List.map_cons,List.map_nil,reduceCtorEq,if_true,if_false]
  refine ak hm hc (by show 3<=145;decide) (aj (keep:=[]) (i:=0) ?_)
  try simp only[I,B,D,RY,bD,Option.bind_some,cond_true,cond_false,if_true,aY,aZ,bh,↓KW,↓bg,seval,aO,Z.H,faA]
  first|refine af cG ?_|refine aC cG ?_
  try simp only[I,B,D,RY,bD,Option.bind_some,cond_true,cond_false,if_true,aY,aZ,bh,↓KW,↓bg,seval,faA]
  first|refine af cC ?_|refine aC cC ?_
  try simp only[I,B,D,RY,bD,Option.bind_some,cond_true,cond_false,if_true,aY,aZ,bh,↓KW,↓bg,seval,faA]
  first|refine af cP ?_|refine aC cP ?_
  try simp only[I,B,D,RY,bD,Option.bind_some,cond_true,cond_false,if_true,aY,aZ,bh,↓KW,↓bg,seval,faA]
  first|refine af cM ?_|refine aC cM ?_
  try simp only[I,B,D,RY,bD,Option.bind_some,cond_true,cond_false,if_true,aY,aZ,bh,↓KW,↓bg,seval,h,hr,faA]
  refine⟨rfl,dn (hF (Bx.mk 3 v fl st bt y.lines (IntKind.i64.wrap (tk+1))).cells (IntKind.i64.wrap (tk+1)) 5 0 (c7 ..)) ?_⟩;try simp only[I,B,D,RY,bD,Option.bind_some,cond_true,cond_false,if_true,aY,aZ,bh,↓KW,↓bg,seval,faA]
  refine⟨rfl,aA (hN (.sl [eJ (IntKind.i64.wrap (tk+1)) 5 0]) (Bx.mk 3 v fl st bt y.lines (IntKind.i64.wrap (tk+1))).cells 2 fl) rfl rfl rfl rfl ?_⟩;try simp only[I,B,D,RY,bD,Option.bind_some,cond_true,cond_false,if_true,aY,aZ,bh,↓KW,↓bg,seval,faA]
  refine⟨rfl,aA (hN (.sl [eJ (IntKind.i64.wrap (tk+1)) 5 0]) (Bx.mk 3 v fl st bt y.lines (IntKind.i64.wrap (tk+1))).cells 1 3) rfl rfl rfl rfl ?_⟩;try simp only[I,B,D,RY,bD,Option.bind_some,cond_true,cond_false,if_true,aY,aZ,bh,↓KW,↓bg,seval,faA]
  refine⟨rfl,aA (hN (.sl [eJ (IntKind.i64.wrap (tk+1)) 5 0]) (Bx.mk 3 v fl st bt y.lines (IntKind.i64.wrap (tk+1))).cells 3 st.pre.aq) rfl rfl rfl rfl ?_⟩;try simp only[I,B,D,RY,bD,Option.bind_some,cond_true,cond_false,if_true,aY,aZ,bh,↓KW,↓bg,seval,faA]
  refine⟨rfl,aA (hN (.sl [eJ (IntKind.i64.wrap (tk+1)) 5 0]) (Bx.mk 3 v fl st bt y.lines (IntKind.i64.wrap (tk+1))).cells 4 st.rings.group) rfl rfl rfl rfl ?_⟩;try simp only[I,B,D,RY,bD,Option.bind_some,cond_true,cond_false,if_true,aY,aZ,bh,↓KW,↓bg,seval,faA]
  refine dG rfl ?_;try simp only[I,B,D,RY,bD,Option.bind_some,cond_true,cond_false,if_true,aY,aZ,bh,↓KW,↓bg,seval,uD,eJ,faA]
 ·rw[hg]at cG
  rw[hr]at g4
  have hev:eH false ⟨3,ti,fl,st,bt,ln,tk⟩ (Bx.mk 3 v fl st bt y.lines (IntKind.i64.wrap (tk+1)))=[((IntKind.i64.wrap (tk+1)),5,0)]:=by simp[eH,uQ]
  simp only[hg,h,hr,Bool.and_true,Bool.and_false,if_true,if_false,Bool.false_eq_true];rw[hev];simp only[nA,Gq,List.map_cons,List.map_nil,reduceCtorEq,if_true,if_false]
  refine ak hm hc (by show 3<=145;decide) (aj (keep:=[]) (i:=0) ?_)
  try simp only[I,B,D,RY,bD,Option.bind_some,cond_true,cond_false,if_true,aY,aZ,bh,↓KW,↓bg,seval,aO,Z.H,faA]
  first|refine af cG ?_|refine aC cG ?_
  try simp only[I,B,D,RY,bD,Option.bind_some,cond_true,cond_false,if_true,aY,aZ,bh,↓KW,↓bg,seval,faA]
  first|refine af cC ?_|refine aC cC ?_
  try simp only[I,B,D,RY,bD,Option.bind_some,cond_true,cond_false,if_true,aY,aZ,bh,↓KW,↓bg,seval,faA]
  first|refine af cP ?_|refine aC cP ?_
  try simp only[I,B,D,RY,bD,Option.bind_some,cond_true,cond_false,if_true,aY,aZ,bh,↓KW,↓bg,seval,faA]
  first|refine af cM ?_|refine aC cM ?_
  try simp only[I,B,D,RY,bD,Option.bind_some,cond_true,cond_false,if_true,aY,aZ,bh,↓KW,↓bg,seval,h,hr,faA]
  refine⟨rfl,dn (hF (Bx.mk 3 v fl st bt y.lines (IntKind.i64.wrap (tk+1))).cells (IntKind.i64.wrap (tk+1)) 5 0 (c7 ..)) ?_⟩;try simp only[I,B,D,RY,bD,Option.bind_some,cond_true,cond_false,if_true,aY,aZ,bh,↓KW,↓bg,seval,faA]
  refine⟨rfl,aA (hN (.sl [eJ (IntKind.i64.wrap (tk+1)) 5 0]) (Bx.mk 3 v fl st bt y.lines (IntKind.i64.wrap (tk+1))).cells 2 fl) rfl rfl rfl rfl ?_⟩;try simp only[I,B,D,RY,bD,Option.bind_some,cond_true,cond_false,if_true,aY,aZ,bh,↓KW,↓bg,seval,faA]
  refine⟨rfl,aA (hN (.sl [eJ (IntKind.i64.wrap (tk+1)) 5 0]) (Bx.mk 3 v fl st bt y.lines (IntKind.i64.wrap (tk+1))).cells 1 3) rfl rfl rfl rfl ?_⟩;try simp only[I,B,D,RY,bD,Option.bind_some,cond_true,cond_false,if_true,aY,aZ,bh,↓KW,↓bg,seval,faA]
  refine⟨rfl,aA (hN (.sl [eJ (IntKind.i64.wrap (tk+1)) 5 0]) (Bx.mk 3 v fl st bt y.lines (IntKind.i64.wrap (tk+1))).cells 3 st.pre.aq) rfl rfl rfl rfl ?_⟩;try simp only[I,B,D,RY,bD,Option.bind_some,cond_true,cond_false,if_true,aY,aZ,bh,↓KW,↓bg,seval,faA]
  refine⟨rfl,aA (hN (.sl [eJ (IntKind.i64.wrap (tk+1)) 5 0]) (Bx.mk 3 v fl st bt y.lines (IntKind.i64.wrap (tk+1))).cells 4 st.rings.group) rfl rfl rfl rfl ?_⟩;try simp only[I,B,D,RY,bD,Option.bind_some,cond_true,cond_false,if_true,aY,aZ,bh,↓KW,↓bg,seval,faA]
  refine dG rfl ?_;try simp only[I,B,D,RY,bD,Option.bind_some,cond_true,cond_false,if_true,aY,aZ,bh,↓KW,↓bg,seval,uD,eJ,faA]
 ·rw[hg]at cG
  rw[hr]at g4
  have hev:eH false ⟨3,ti,fl,st,bt,ln,tk⟩ (Bx.mk 3 v fl st bt y.lines (IntKind.i64.wrap (tk+1)))=[((IntKind.i64.wrap (tk+1)),5,0)]:=by simp[eH,uQ]
  simp only[hg,h,hr,Bool.and_true,Bool.and_false,if_true,if_false,Bool.false_eq_true];rw[hev];simp only[nA,Gq,List.map_cons,List.map_nil,reduceCtorEq,if_true,if_false]
  refine ak hm hc (by show 3<=145;decide) (aj (keep:=[]) (i:=0) ?_)
  try simp only[I,B,D,RY,bD,Option.bind_some,cond_true,cond_false,if_true,aY,aZ,bh,↓KW,↓bg,seval,aO,Z.H,faA]
  first|refine af cG ?_|refine aC cG ?_
  try simp only[I,B,D,RY,bD,Option.bind_some,cond_true,cond_false,if_true,aY,aZ,bh,↓KW,↓bg,seval,faA]
  first|refine af cC ?_|refine aC cC ?_
  try simp only[I,B,D,RY,bD,Option.bind_some,cond_true,cond_false,if_true,aY,aZ,bh,↓KW,↓bg,seval,faA]
  first|refine af cP ?_|refine aC cP ?_
  try simp only[I,B,D,RY,bD,Option.bind_some,cond_true,cond_false,if_true,aY,aZ,bh,↓KW,↓bg,seval,faA]
  first|refine af cM ?_|refine aC cM ?_
  try simp only[I,B,D,RY,bD,Option.bind_some,cond_true,cond_false,if_true,aY,aZ,bh,↓KW,↓bg,seval,h,hr,faA]
  refine⟨rfl,dn (hF (Bx.mk 3 v fl st bt y.lines (IntKind.i64.wrap (tk+1))).cells (IntKind.i64.wrap (tk+1)) 5 0 (c7 ..)) ?_⟩;try simp only[I,B,D,RY,bD,Option.bind_some,cond_true,cond_false,if_true,aY,aZ,bh,↓KW,↓bg,seval,faA]
  refine⟨rfl,aA (hN (.sl [eJ (IntKind.i64.wrap (tk+1)) 5 0]) (Bx.mk 3 v fl st bt y.lines (IntKind.i64.wrap (tk+1))).cells 2 fl) rfl rfl rfl rfl ?_⟩;try simp only[I,B,D,RY,bD,Option.bind_some,cond_true,cond_false,if_true,aY,aZ,bh,↓KW,↓bg,seval,faA]
  refine⟨rfl,aA (hN (.sl [eJ (IntKind.i64.wrap (tk+1)) 5 0]) (Bx.mk 3 v fl st bt y.lines (IntKind.i64.wrap (tk+1))).cells 1 3) rfl rfl rfl rfl ?_⟩;try simp only[I,B,D,RY,bD,Option.bind_some,cond_true,cond_false,if_true,aY,aZ,bh,↓KW,↓bg,seval,faA]
  refine⟨rfl,aA (hN (.sl [eJ (IntKind.i64.wrap (tk+1)) 5 0]) (Bx.mk 3 v fl st bt y.lines (IntKind.i64.wrap (tk+1))).cells 3 st.pre.aq) rfl rfl rfl rfl ?_⟩;try simp only[I,B,D,RY,bD,Option.bind_some,cond_true,cond_false,if_true,aY,aZ,bh,↓KW,↓bg,seval,faA]
  refine⟨rfl,aA (hN (.sl [eJ (IntKind.i64.wrap (tk+1)) 5 0]) (Bx.mk 3 v fl st bt y.lines (IntKind.i64.wrap (tk+1))).cells 4 st.rings.group) rfl rfl rfl rfl ?_⟩;try simp only[I,B,D,RY,bD,Option.bind_some,cond_true,cond_false,if_true,aY,aZ,bh,↓KW,↓bg,seval,faA]
  refine dG rfl ?_;try simp only[I,B,D,RY,bD,Option.bind_some,cond_true,cond_false,if_true,aY,aZ,bh,↓KW,↓bg,seval,uD,eJ,faA]
 ·rw[hg]at cG
  rw[hr]at g4
  have hev:eH false ⟨3,ti,fl,st,bt,ln,tk⟩ (Bx.mk 1 0 0 st bt y.lines (IntKind.i64.wrap (tk+1)))=[((IntKind.i64.wrap (tk+1)),5,0),((IntKind.i64.wrap (tk+1)),1,1)]:=by simp[eH,uQ]
  simp only[hg,h,hr,Bool.and_true,Bool.and_false,if_true,if_false,Bool.false_eq_true];rw[hev];simp only[nA,Gq,List.map_cons,List.map_nil,reduceCtorEq,if_true,if_false]
  refine ak hm hc (by show 3<=145;decide) (aj (keep:=[]) (i:=0) ?_)
  try simp only[I,B,D,RY,bD,Option.bind_some,cond_true,cond_false,if_true,aY,aZ,bh,↓KW,↓bg,seval,aO,Z.H,faA]
  first|refine af cG ?_|refine aC cG ?_
  try simp only[I,B,D,RY,bD,Option.bind_some,cond_true,cond_false,if_true,aY,aZ,bh,↓KW,↓bg,seval,faA]
  first|refine af cC ?_|refine aC cC ?_
  try simp only[I,B,D,RY,bD,Option.bind_some,cond_true,cond_false,if_true,aY,aZ,bh,↓KW,↓bg,seval,faA]
  first|refine af cP ?_|refine aC cP ?_
  try simp only[I,B,D,RY,bD,Option.bind_some,cond_true,cond_false,if_true,aY,aZ,bh,↓KW,↓bg,seval,faA]
  first|refine af cM ?_|refine aC cM ?_
  try simp only[I,B,D,RY,bD,Option.bind_some,cond_true,cond_false,if_true,aY,aZ,bh,↓KW,↓bg,seval,h,hr,faA]
  refine⟨rfl,dn (hF (Bx.mk 1 0 0 st bt y.lines (IntKind.i64.wrap (tk+1))).cells (IntKind.i64.wrap (tk+1)) 5 0 (c7 ..)) ?_⟩;try simp only[I,B,D,RY,bD,Option.bind_some,cond_true,cond_false,if_true,aY,aZ,bh,↓KW,↓bg,seval,faA]
  refine⟨rfl,aA (hN (.sl [eJ (IntKind.i64.wrap (tk+1)) 5 0]) (Bx.mk 1 0 0 st bt y.lines (IntKind.i64.wrap (tk+1))).cells 2 0) rfl rfl rfl rfl ?_⟩;try simp only[I,B,D,RY,bD,Option.bind_some,cond_true,cond_false,if_true,aY,aZ,bh,↓KW,↓bg,seval,faA]
  refine⟨rfl,aA (hJ [eJ (IntKind.i64.wrap (tk+1)) 5 0] (Bx.mk 1 0 0 st bt y.lines (IntKind.i64.wrap (tk+1))).cells (IntKind.i64.wrap (tk+1)) 1 1 (c7 ..) (by simp) (by simp[eJ])) rfl rfl rfl rfl ?_⟩
  try simp only[I,B,D,RY,bD,Option.bind_some,cond_true,cond_false,if_true,aY,aZ,bh,↓KW,↓bg,seval,faA]
  refine⟨rfl,aA (hN (.sl [eJ (IntKind.i64.wrap (tk+1)) 5 0,eJ (IntKind.i64.wrap (tk+1)) 1 1]) (Bx.mk 1 0 0 st bt y.lines (IntKind.i64.wrap (tk+1))).cells 3 st.pre.aq) rfl rfl rfl rfl ?_⟩;try simp only[I,B,D,RY,bD,Option.bind_some,cond_true,cond_false,if_true,aY,aZ,bh,↓KW,↓bg,seval,faA]
  refine⟨rfl,aA (hN (.sl [eJ (IntKind.i64.wrap (tk+1)) 5 0,eJ (IntKind.i64.wrap (tk+1)) 1 1]) (Bx.mk 1 0 0 st bt y.lines (IntKind.i64.wrap (tk+1))).cells 4 st.rings.group) rfl rfl rfl rfl ?_⟩;try simp only[I,B,D,RY,bD,Option.bind_some,cond_true,cond_false,if_true,aY,aZ,bh,↓KW,↓bg,seval,faA]
  refine dG rfl ?_;try simp only[I,B,D,RY,bD,Option.bind_some,cond_true,cond_false,if_true,aY,aZ,bh,↓KW,↓bg,seval,uD,eJ,faA]
 ·rw[hg]at cG
  rw[hr]at g4
  have hev:eH true ⟨3,ti,fl,st,bt,ln,tk⟩ (Bx.mk 3 v fl st bt y.lines (IntKind.i64.wrap (tk+1)))=[]:=by simp[eH,uQ]
  simp only[hg,h,hr,Bool.and_true,Bool.and_false,if_true,if_false,Bool.false_eq_true];rw[hev];simp only[nA,Gq,List.map_cons,List.map_nil,reduceCtorEq,if_true,if_false]
  refine ak hm hc (by show 3<=145;decide) (aj (keep:=[]) (i:=0) ?_)
  try simp only[I,B,D,RY,bD,Option.bind_some,cond_true,cond_false,if_true,aY,aZ,bh,↓KW,↓bg,seval,aO,Z.H,faA]
  first|refine af cG ?_|refine aC cG ?_
  try simp only[I,B,D,RY,bD,Option.bind_some,cond_true,cond_false,if_true,aY,aZ,bh,↓KW,↓bg,seval,faA]
  first|refine af cC ?_|refine aC cC ?_
  try simp only[I,B,D,RY,bD,Option.bind_some,cond_true,cond_false,if_true,aY,aZ,bh,↓KW,↓bg,seval,faA]
  first|refine af cP ?_|refine aC cP ?_
  try simp only[I,B,D,RY,bD,Option.bind_some,cond_true,cond_false,if_true,aY,aZ,bh,↓KW,↓bg,seval,faA]
  first|refine af cM ?_|refine aC cM ?_
  try simp only[I,B,D,RY,bD,Option.bind_some,cond_true,cond_false,if_true,aY,aZ,bh,↓KW,↓bg,seval,h,hr,faA]
  refine⟨rfl,aK (h0 .aL (Bx.mk 3 v fl st bt y.lines (IntKind.i64.wrap (tk+1))) 5 0 (mA ..)) ?_⟩;try simp only[I,B,D,RY,bD,Option.bind_some,cond_true,cond_false,if_true,aY,aZ,bh,↓KW,↓bg,seval,faA]
  refine⟨rfl,aK (h0 .aL (Bx.mk 3 v fl st bt y.lines (IntKind.i64.wrap (tk+1))) 2 fl (mA ..)) ?_⟩;try simp only[I,B,D,RY,bD,Option.bind_some,cond_true,cond_false,if_true,aY,aZ,bh,↓KW,↓bg,seval,faA]
  refine⟨rfl,aK (h0 .aL (Bx.mk 3 v fl st bt y.lines (IntKind.i64.wrap (tk+1))) 1 3 (mA ..)) ?_⟩;try simp only[I,B,D,RY,bD,Option.bind_some,cond_true,cond_false,if_true,aY,aZ,bh,↓KW,↓bg,seval,faA]
  refine⟨rfl,aK (h0 .aL (Bx.mk 3 v fl st bt y.lines (IntKind.i64.wrap (tk+1))) 3 st.pre.aq (mA ..)) ?_⟩;try simp only[I,B,D,RY,bD,Option.bind_some,cond_true,cond_false,if_true,aY,aZ,bh,↓KW,↓bg,seval,faA]
  refine⟨rfl,aK (h0 .aL (Bx.mk 3 v fl st bt y.lines (IntKind.i64.wrap (tk+1))) 4 st.rings.group (mA ..)) ?_⟩;try simp only[I,B,D,RY,bD,Option.bind_some,cond_true,cond_false,if_true,aY,aZ,bh,↓KW,↓bg,seval,faA]
  refine dG rfl ?_;try simp only[I,B,D,RY,bD,Option.bind_some,cond_true,cond_false,if_true,aY,aZ,bh,↓KW,↓bg,seval,uD,eJ,faA]
 ·rw[hg]at cG
  rw[hr]at g4
  have hev:eH true ⟨3,ti,fl,st,bt,ln,tk⟩ (Bx.mk 3 v fl st bt y.lines (IntKind.i64.wrap (tk+1)))=[]:=by simp[eH,uQ]
  simp only[hg,h,hr,Bool.and_true,Bool.and_false,if_true,if_false,Bool.false_eq_true];rw[hev];simp only[nA,Gq,List.map_cons,List.map_nil,reduceCtorEq,if_true,if_false]
  refine ak hm hc (by show 3<=145;decide) (aj (keep:=[]) (i:=0) ?_)
  try simp only[I,B,D,RY,bD,Option.bind_some,cond_true,cond_false,if_true,aY,aZ,bh,↓KW,↓bg,seval,aO,Z.H,faA]
  first|refine af cG ?_|refine aC cG ?_
  try simp only[I,B,D,RY,bD,Option.bind_some,cond_true,cond_false,if_true,aY,aZ,bh,↓KW,↓bg,seval,faA]
  first|refine af cC ?_|refine aC cC ?_
  try simp only[I,B,D,RY,bD,Option.bind_some,cond_true,cond_false,if_true,aY,aZ,bh,↓KW,↓bg,seval,faA]
  first|refine af cP ?_|refine aC cP ?_
  try simp only[I,B,D,RY,bD,Option.bind_some,cond_true,cond_false,if_true,aY,aZ,bh,↓KW,↓bg,seval,faA]
  first|refine af cM ?_|refine aC cM ?_
  try simp only[I,B,D,RY,bD,Option.bind_some,cond_true,cond_false,if_true,aY,aZ,bh,↓KW,↓bg,seval,h,hr,faA]
  refine⟨rfl,aK (h0 .aL (Bx.mk 3 v fl st bt y.lines (IntKind.i64.wrap (tk+1))) 5 0 (mA ..)) ?_⟩;try simp only[I,B,D,RY,bD,Option.bind_some,cond_true,cond_false,if_true,aY,aZ,bh,↓KW,↓bg,seval,faA]
  refine⟨rfl,aK (h0 .aL (Bx.mk 3 v fl st bt y.lines (IntKind.i64.wrap (tk+1))) 2 fl (mA ..)) ?_⟩;try simp only[I,B,D,RY,bD,Option.bind_some,cond_true,cond_false,if_true,aY,aZ,bh,↓KW,↓bg,seval,faA]
  refine⟨rfl,aK (h0 .aL (Bx.mk 3 v fl st bt y.lines (IntKind.i64.wrap (tk+1))) 1 3 (mA ..)) ?_⟩;try simp only[I,B,D,RY,bD,Option.bind_some,cond_true,cond_false,if_true,aY,aZ,bh,↓KW,↓bg,seval,faA]
  refine⟨rfl,aK (h0 .aL (Bx.mk 3 v fl st bt y.lines (IntKind.i64.wrap (tk+1))) 3 st.pre.aq (mA ..)) ?_⟩;try simp only[I,B,D,RY,bD,Option.bind_some,cond_true,cond_false,if_true,aY,aZ,bh,↓KW,↓bg,seval,faA]
  refine⟨rfl,aK (h0 .aL (Bx.mk 3 v fl st bt y.lines (IntKind.i64.wrap (tk+1))) 4 st.rings.group (mA ..)) ?_⟩;try simp only[I,B,D,RY,bD,Option.bind_some,cond_true,cond_false,if_true,aY,aZ,bh,↓KW,↓bg,seval,faA]
  refine dG rfl ?_;try simp only[I,B,D,RY,bD,Option.bind_some,cond_true,cond_false,if_true,aY,aZ,bh,↓KW,↓bg,seval,uD,eJ,faA]
 ·rw[hg]at cG
  rw[hr]at g4
  have hev:eH true ⟨3,ti,fl,st,bt,ln,tk⟩ (Bx.mk 3 v fl st bt y.lines (IntKind.i64.wrap (tk+1)))=[]:=by simp[eH,uQ]
  simp only[hg,h,hr,Bool.and_true,Bool.and_false,if_true,if_false,Bool.false_eq_true];rw[hev];simp only[nA,Gq,List.map_cons,List.map_nil,reduceCtorEq,if_true,if_false]
  refine ak hm hc (by show 3<=145;decide) (aj (keep:=[]) (i:=0) ?_)
  try simp only[I,B,D,RY,bD,Option.bind_some,cond_true,cond_false,if_true,aY,aZ,bh,↓KW,↓bg,seval,aO,Z.H,faA]
  first|refine af cG ?_|refine aC cG ?_
  try simp only[I,B,D,RY,bD,Option.bind_some,cond_true,cond_false,if_true,aY,aZ,bh,↓KW,↓bg,seval,faA]
  first|refine af cC ?_|refine aC cC ?_
  try simp only[I,B,D,RY,bD,Option.bind_some,cond_true,cond_false,if_true,aY,aZ,bh,↓KW,↓bg,seval,faA]
  first|refine af cP ?_|refine aC cP ?_
  try simp only[I,B,D,RY,bD,Option.bind_some,cond_true,cond_false,if_true,aY,aZ,bh,↓KW,↓bg,seval,faA]
  first|refine af cM ?_|refine aC cM ?_
  try simp only[I,B,D,RY,bD,Option.bind_some,cond_true,cond_false,if_true,aY,aZ,bh,↓KW,↓bg,seval,h,hr,faA]
  refine⟨rfl,aK (h0 .aL (Bx.mk 3 v fl st bt y.lines (IntKind.i64.wrap (tk+1))) 5 0 (mA ..)) ?_⟩;try simp only[I,B,D,RY,bD,Option.bind_some,cond_true,cond_false,if_true,aY,aZ,bh,↓KW,↓bg,seval,faA]
  refine⟨rfl,aK (h0 .aL (Bx.mk 3 v fl st bt y.lines (IntKind.i64.wrap (tk+1))) 2 fl (mA ..)) ?_⟩;try simp only[I,B,D,RY,bD,Option.bind_some,cond_true,cond_false,if_true,aY,aZ,bh,↓KW,↓bg,seval,faA]
  refine⟨rfl,aK (h0 .aL (Bx.mk 3 v fl st bt y.lines (IntKind.i64.wrap (tk+1))) 1 3 (mA ..)) ?_⟩;try simp only[I,B,D,RY,bD,Option.bind_some,cond_true,cond_false,if_true,aY,aZ,bh,↓KW,↓bg,seval,faA]
  refine⟨rfl,aK (h0 .aL (Bx.mk 3 v fl st bt y.lines (IntKind.i64.wrap (tk+1))) 3 st.pre.aq (mA ..)) ?_⟩;try simp only[I,B,D,RY,bD,Option.bind_some,cond_true,cond_false,if_true,aY,aZ,bh,↓KW,↓bg,seval,faA]
  refine⟨rfl,aK (h0 .aL (Bx.mk 3 v fl st bt y.lines (IntKind.i64.wrap (tk+1))) 4 st.rings.group (mA ..)) ?_⟩;try simp only[I,B,D,RY,bD,Option.bind_some,cond_true,cond_false,if_true,aY,aZ,bh,↓KW,↓bg,seval,faA]
  refine dG rfl ?_;try simp only[I,B,D,RY,bD,Option.bind_some,cond_true,cond_false,if_true,aY,aZ,bh,↓KW,↓bg,seval,uD,eJ,faA]
 ·rw[hg]at cG
  rw[hr]at g4
  have hev:eH true ⟨3,ti,fl,st,bt,ln,tk⟩ (Bx.mk 1 0 0 st bt y.lines (IntKind.i64.wrap (tk+1)))=[((IntKind.i64.wrap (tk+1)),1,1)]:=by simp[eH,uQ]
  simp only[hg,h,hr,Bool.and_true,Bool.and_false,if_true,if_false,Bool.false_eq_true];rw[hev];simp only[nA,Gq,List.map_cons,List.map_nil,reduceCtorEq,if_true,if_false]
  refine ak hm hc (by show 3<=145;decide) (aj (keep:=[]) (i:=0) ?_)
  try simp only[I,B,D,RY,bD,Option.bind_some,cond_true,cond_false,if_true,aY,aZ,bh,↓KW,↓bg,seval,aO,Z.H,faA]
  first|refine af cG ?_|refine aC cG ?_
  try simp only[I,B,D,RY,bD,Option.bind_some,cond_true,cond_false,if_true,aY,aZ,bh,↓KW,↓bg,seval,faA]
  first|refine af cC ?_|refine aC cC ?_
  try simp only[I,B,D,RY,bD,Option.bind_some,cond_true,cond_false,if_true,aY,aZ,bh,↓KW,↓bg,seval,faA]
  first|refine af cP ?_|refine aC cP ?_
  try simp only[I,B,D,RY,bD,Option.bind_some,cond_true,cond_false,if_true,aY,aZ,bh,↓KW,↓bg,seval,faA]
  first|refine af cM ?_|refine aC cM ?_
  try simp only[I,B,D,RY,bD,Option.bind_some,cond_true,cond_false,if_true,aY,aZ,bh,↓KW,↓bg,seval,h,hr,faA]
  refine⟨rfl,aK (h0 .aL (Bx.mk 1 0 0 st bt y.lines (IntKind.i64.wrap (tk+1))) 5 0 (mA ..)) ?_⟩;try simp only[I,B,D,RY,bD,Option.bind_some,cond_true,cond_false,if_true,aY,aZ,bh,↓KW,↓bg,seval,faA]
  refine⟨rfl,aK (h0 .aL (Bx.mk 1 0 0 st bt y.lines (IntKind.i64.wrap (tk+1))) 2 0 (mA ..)) ?_⟩;try simp only[I,B,D,RY,bD,Option.bind_some,cond_true,cond_false,if_true,aY,aZ,bh,↓KW,↓bg,seval,faA]
  refine⟨rfl,dn (hF (Bx.mk 1 0 0 st bt y.lines (IntKind.i64.wrap (tk+1))).cells (IntKind.i64.wrap (tk+1)) 1 1 (c7 ..)) ?_⟩;try simp only[I,B,D,RY,bD,Option.bind_some,cond_true,cond_false,if_true,aY,aZ,bh,↓KW,↓bg,seval,faA]
  refine⟨rfl,aA (hN (.sl [eJ (IntKind.i64.wrap (tk+1)) 1 1]) (Bx.mk 1 0 0 st bt y.lines (IntKind.i64.wrap (tk+1))).cells 3 st.pre.aq) rfl rfl rfl rfl ?_⟩;try simp only[I,B,D,RY,bD,Option.bind_some,cond_true,cond_false,if_true,aY,aZ,bh,↓KW,↓bg,seval,faA]
  refine⟨rfl,aA (hN (.sl [eJ (IntKind.i64.wrap (tk+1)) 1 1]) (Bx.mk 1 0 0 st bt y.lines (IntKind.i64.wrap (tk+1))).cells 4 st.rings.group) rfl rfl rfl rfl ?_⟩;try simp only[I,B,D,RY,bD,Option.bind_some,cond_true,cond_false,if_true,aY,aZ,bh,↓KW,↓bg,seval,faA]
  refine dG rfl ?_;try simp only[I,B,D,RY,bD,Option.bind_some,cond_true,cond_false,if_true,aY,aZ,bh,↓KW,↓bg,seval,uD,eJ,faA]
end
section
variable{P:Program} (hm:P.follows .mixedOrders=true) {f:Nat}
include hm
theorem O4{fG fC fP fR fM fT f1 e:Nat} (hc:pZ true P f=some (aO fG fC fP fR fM fT f1)) (hG:ni.Spec (Pure P) fG) (hC:iV.Spec (Pure P) fC) (hP:nq.Spec (Pure P) fP)
  (h0:oB.Spec (Pure P) f1) (hN:qJ.Spec (Pure P) e f1) (hF:qK.Spec (Pure P) e f1) (hJ:qL.Spec (Pure P) e f1) {t:Tb} {st st':bP} {bt mon':Mn} {x:Fr} {ti fl ln tk F:Int} {la:List Int} (ht:t.Ok) (hst:st.Ok) (hmon:bt.Ok) (hst':st'.Ok) (hmon':mon'.Ok) (hla:la.length=8)
  (cT:(Pure P).c fT [.agg t.cells,.agg (Bx.mk 2 ti fl st bt (iC x ln).lines (IntKind.i64.wrap (tk+1))).cells,.agg (iC x ln).cells] (.cN [.agg (Bx.mk 3 0 F st' mon' (iC x ln).lines (IntKind.i64.wrap (tk+1))).cells,.agg (la.map I)]) none):
  (Pure P).c f [.agg t.cells,.agg (Bx.mk 2 ti fl st bt ln tk).cells,.agg x.cells] (nA (Bx.mk 3 0 F st' mon' (iC x ln).lines (IntKind.i64.wrap (tk+1))) la (eH (DG x) (Bx.mk 2 ti fl st bt ln tk) (Bx.mk 3 0 F st' mon' (iC x ln).lines (IntKind.i64.wrap (tk+1))))) none:=by
 have hl:=Tb.len ht
 have hp:=Tb.whole ht
 have cG:=hG x.fm
 have cC:=hC x.fm ln
 rw[uM]at cC;rw[Fr.tW]at cG cC
 have hgo:oc x.fm=DG x:=rfl
 rw[hgo]at cG
 have cP:=hP t ht
 have mA:∀m ti fl ln tk,(Bx.mk m ti fl st bt ln tk).Ok:=fun _ _ _ _ _=>⟨hst,hmon⟩
 have okb':∀m ti fl ln tk,(Bx.mk m ti fl st' mon' ln tk).Ok:=fun _ _ _ _ _=>⟨hst',hmon'⟩
 obtain⟨c1,c2,c3,c4,c5,c6,c7,c8,c9,d0,d1,d2,d3,d4,d5⟩:=WR hst hmon;obtain⟨C1,C2,C3,C4,C5,C6,C7,C8,C9,D0,D1,D2,D3,D4,D5⟩:=WR hst' hmon'
 have s1:∀m ti fl ln tk m' ti' fl' ln' tk',setCells (Bx.mk m ti fl st bt ln tk).cells 0 (Bx.mk m' ti' fl' st' mon' ln' tk').cells=(Bx.mk m' ti' fl' st' mon' ln' tk').cells:=fun _ _ _ _ _ _ _ _ _ _=>bk (by rw[c1,C1])
 obtain⟨f1',f2,f3,f4,f5⟩:=Pk x
 obtain⟨g1,g2,g3,g4,g5⟩:=Pk (iC x ln)
 have d6:az.length=138:=rfl
 have p1:((fe t).map I).length=8:=by simp[fe,fc]
 have p2:setCells [.int .i64 0,.int .i64 0,.int .i64 0,.int .i64 0,.int .i64 0,.int .i64 0,.int .i64 0,.int .i64 0] 0 ((fe t).map I)=(fe t).map I:=bk (by rw[p1];rfl)
 have p3:(la.map I).length=8:=by simp[hla]
 have p4:setCells ((fe t).map I) 0 (la.map I)=la.map I:=bk (by rw[p1,p3])
 have p5:ay (la.map I) 0 (some 8)=some (.agg (la.map I)):=by have:=lG (la.map I) 0 8 (by rw[p3];decide);rw[this,List.drop_zero,<-p3,List.take_length]
 have p6:setCells [.int .i64 0,.int .i64 0,.int .i64 0,.int .i64 0,.int .i64 0,.int .i64 0,.int .i64 0,.int .i64 0] 0 (la.map I)=la.map I:=bk (by rw[p3];rfl)
 generalize iC x ln=y at*
 have faA:=And.intro hl (And.intro hp (And.intro c1 (And.intro c2 (And.intro c3 (And.intro c4 (And.intro c5 (And.intro c6 (And.intro c7 (And.intro c8 (And.intro c9 (And.intro d0 (And.intro d1 (And.intro d2 (And.intro d3 (And.intro d4 (And.intro d5 (And.intro d6 (And.intro C1 (And.intro C2 (And.intro C3 (And.intro C4 (And.intro C5 (And.intro C6 (And.intro C7 (And.intro C8 (And.intro C9 (And.intro D5 (And.intro s1 (And.intro f1' (And.intro f2 (And.intro f3 (And.intro f4 (And.intro f5 (And.intro g1 (And.intro g2 (And.intro g3 (And.intro g4 (And.intro g5 (And.intro p1 (And.intro p2 (And.intro p3 (And.intro p4 (And.intro p5 (p6))))))))))))))))))))))))))))))))))))))))))))
 rcases bf (DG x)with hg|hg
 all_goals
  rw[hg]at cG;simp only[eH,uQ,hg,Bool.not_true,Bool.not_false,beq_self_eq_true,bne_self_eq_false,Bool.and_self,Bool.and_true,Bool.true_and,Bool.false_and,Int.reduceBEq,Int.reduceBNe,List.filter_cons,List.filter_nil,if_true,if_false,Bool.false_eq_true,List.map_cons,List.map_nil,nA,Gq,reduceCtorEq]
  refine ak hm hc (by show 3<=145;decide) (aj (keep:=[]) (i:=0) ?_)
  try simp only[I,B,D,RY,bD,Option.bind_some,cond_true,cond_false,if_true,aY,aZ,bh,↓KW,↓bg,seval,aO,Z.H,faA]
  first|refine af cG ?_|refine aC cG ?_
  try simp only[I,B,D,RY,bD,Option.bind_some,cond_true,cond_false,if_true,aY,aZ,bh,↓KW,↓bg,seval,faA]
  first|refine af cC ?_|refine aC cC ?_
  try simp only[I,B,D,RY,bD,Option.bind_some,cond_true,cond_false,if_true,aY,aZ,bh,↓KW,↓bg,seval,faA]
  first|refine af cP ?_|refine aC cP ?_
  try simp only[I,B,D,RY,bD,Option.bind_some,cond_true,cond_false,if_true,aY,aZ,bh,↓KW,↓bg,seval,faA]
  first|refine af cT ?_|refine aC cT ?_
  try simp only[I,B,D,RY,bD,Option.bind_some,cond_true,cond_false,if_true,aY,aZ,bh,↓KW,↓bg,seval,faA]
 ·refine⟨rfl,dn (hF (Bx.mk 3 0 F st' mon' y.lines (IntKind.i64.wrap (tk+1))).cells (IntKind.i64.wrap (tk+1)) 5 0 (C7 ..)) ?_⟩
  try simp only[I,B,D,RY,bD,Option.bind_some,cond_true,cond_false,if_true,aY,aZ,bh,↓KW,↓bg,seval,faA]
  refine⟨rfl,aA (hJ [eJ (IntKind.i64.wrap (tk+1)) 5 0] (Bx.mk 3 0 F st' mon' y.lines (IntKind.i64.wrap (tk+1))).cells (IntKind.i64.wrap (tk+1)) 2 F (C7 ..) (by simp) (by simp[eJ])) rfl rfl rfl rfl ?_⟩
  try simp only[I,B,D,RY,bD,Option.bind_some,cond_true,cond_false,if_true,aY,aZ,bh,↓KW,↓bg,seval,faA]
  refine⟨rfl,aA (hJ [eJ (IntKind.i64.wrap (tk+1)) 5 0,eJ (IntKind.i64.wrap (tk+1)) 2 F] (Bx.mk 3 0 F st' mon' y.lines (IntKind.i64.wrap (tk+1))).cells (IntKind.i64.wrap (tk+1)) 1 3 (C7 ..) (by simp) (by simp[eJ])) rfl rfl rfl rfl ?_⟩
  try simp only[I,B,D,RY,bD,Option.bind_some,cond_true,cond_false,if_true,aY,aZ,bh,↓KW,↓bg,seval,faA]
  refine⟨rfl,aA (hN (.sl [eJ (IntKind.i64.wrap (tk+1)) 5 0,eJ (IntKind.i64.wrap (tk+1)) 2 F,eJ (IntKind.i64.wrap (tk+1)) 1 3]) (Bx.mk 3 0 F st' mon' y.lines (IntKind.i64.wrap (tk+1))).cells 3 st'.pre.aq) rfl rfl rfl rfl ?_⟩
  try simp only[I,B,D,RY,bD,Option.bind_some,cond_true,cond_false,if_true,aY,aZ,bh,↓KW,↓bg,seval,faA]
  refine⟨rfl,aA (hN (.sl [eJ (IntKind.i64.wrap (tk+1)) 5 0,eJ (IntKind.i64.wrap (tk+1)) 2 F,eJ (IntKind.i64.wrap (tk+1)) 1 3]) (Bx.mk 3 0 F st' mon' y.lines (IntKind.i64.wrap (tk+1))).cells 4 st'.rings.group) rfl rfl rfl rfl ?_⟩
  try simp only[I,B,D,RY,bD,Option.bind_some,cond_true,cond_false,if_true,aY,aZ,bh,↓KW,↓bg,seval,faA]
  refine dG rfl ?_;try simp only[I,B,D,RY,bD,Option.bind_some,cond_true,cond_false,if_true,aY,aZ,bh,↓KW,↓bg,seval,uD,eJ,faA]
 ·refine⟨rfl,aK (h0 .aL (Bx.mk 3 0 F st' mon' y.lines (IntKind.i64.wrap (tk+1))) 5 0 (okb' ..)) ?_⟩
  try simp only[I,B,D,RY,bD,Option.bind_some,cond_true,cond_false,if_true,aY,aZ,bh,↓KW,↓bg,seval,faA]
  refine⟨rfl,dn (hF (Bx.mk 3 0 F st' mon' y.lines (IntKind.i64.wrap (tk+1))).cells (IntKind.i64.wrap (tk+1)) 2 F (C7 ..)) ?_⟩;try simp only[I,B,D,RY,bD,Option.bind_some,cond_true,cond_false,if_true,aY,aZ,bh,↓KW,↓bg,seval,faA]
  refine⟨rfl,aA (hJ [eJ (IntKind.i64.wrap (tk+1)) 2 F] (Bx.mk 3 0 F st' mon' y.lines (IntKind.i64.wrap (tk+1))).cells (IntKind.i64.wrap (tk+1)) 1 3 (C7 ..) (by simp) (by simp[eJ])) rfl rfl rfl rfl ?_⟩
  try simp only[I,B,D,RY,bD,Option.bind_some,cond_true,cond_false,if_true,aY,aZ,bh,↓KW,↓bg,seval,faA]
  refine⟨rfl,aA (hN (.sl [eJ (IntKind.i64.wrap (tk+1)) 2 F,eJ (IntKind.i64.wrap (tk+1)) 1 3]) (Bx.mk 3 0 F st' mon' y.lines (IntKind.i64.wrap (tk+1))).cells 3 st'.pre.aq) rfl rfl rfl rfl ?_⟩;try simp only[I,B,D,RY,bD,Option.bind_some,cond_true,cond_false,if_true,aY,aZ,bh,↓KW,↓bg,seval,faA]
  refine⟨rfl,aA (hN (.sl [eJ (IntKind.i64.wrap (tk+1)) 2 F,eJ (IntKind.i64.wrap (tk+1)) 1 3]) (Bx.mk 3 0 F st' mon' y.lines (IntKind.i64.wrap (tk+1))).cells 4 st'.rings.group) rfl rfl rfl rfl ?_⟩;try simp only[I,B,D,RY,bD,Option.bind_some,cond_true,cond_false,if_true,aY,aZ,bh,↓KW,↓bg,seval,faA]
  refine dG rfl ?_;try simp only[I,B,D,RY,bD,Option.bind_some,cond_true,cond_false,if_true,aY,aZ,bh,↓KW,↓bg,seval,uD,eJ,faA]
theorem O5{fG fC fP fR fM fT f1 e:Nat} (hc:pZ true P f=some (aO fG fC fP fR fM fT f1)) (hG:ni.Spec (Pure P) fG) (hC:iV.Spec (Pure P) fC) (hP:nq.Spec (Pure P) fP)
  (h0:oB.Spec (Pure P) f1) (hN:qJ.Spec (Pure P) e f1) (hF:qK.Spec (Pure P) e f1) (hJ:qL.Spec (Pure P) e f1) {t:Tb} {st st':bP} {bt mon':Mn} {x:Fr} {ti fl ln tk ti':Int} {la:List Int} (ht:t.Ok) (hst:st.Ok) (hmon:bt.Ok) (hst':st'.Ok) (hmon':mon'.Ok) (hla:la.length=8)
  (cT:(Pure P).c fT [.agg t.cells,.agg (Bx.mk 2 ti fl st bt (iC x ln).lines (IntKind.i64.wrap (tk+1))).cells,.agg (iC x ln).cells] (.cN [.agg (Bx.mk 2 ti' fl st' mon' (iC x ln).lines (IntKind.i64.wrap (tk+1))).cells,.agg (la.map I)]) none):
  (Pure P).c f [.agg t.cells,.agg (Bx.mk 2 ti fl st bt ln tk).cells,.agg x.cells] (nA (Bx.mk 2 ti' fl st' mon' (iC x ln).lines (IntKind.i64.wrap (tk+1))) la (eH (DG x) (Bx.mk 2 ti fl st bt ln tk) (Bx.mk 2 ti' fl st' mon' (iC x ln).lines (IntKind.i64.wrap (tk+1))))) none:=by
 have hl:=Tb.len ht
 have hp:=Tb.whole ht
 have cG:=hG x.fm
 have cC:=hC x.fm ln
 rw[uM]at cC;rw[Fr.tW]at cG cC
 have hgo:oc x.fm=DG x:=rfl
 rw[hgo]at cG
 have cP:=hP t ht
 have mA:∀m ti fl ln tk,(Bx.mk m ti fl st bt ln tk).Ok:=fun _ _ _ _ _=>⟨hst,hmon⟩
 have okb':∀m ti fl ln tk,(Bx.mk m ti fl st' mon' ln tk).Ok:=fun _ _ _ _ _=>⟨hst',hmon'⟩
 obtain⟨c1,c2,c3,c4,c5,c6,c7,c8,c9,d0,d1,d2,d3,d4,d5⟩:=WR hst hmon;obtain⟨C1,C2,C3,C4,C5,C6,C7,C8,C9,D0,D1,D2,D3,D4,D5⟩:=WR hst' hmon'
 have s1:∀m ti fl ln tk m' ti' fl' ln' tk',setCells (Bx.mk m ti fl st bt ln tk).cells 0 (Bx.mk m' ti' fl' st' mon' ln' tk').cells=(Bx.mk m' ti' fl' st' mon' ln' tk').cells:=fun _ _ _ _ _ _ _ _ _ _=>bk (by rw[c1,C1])
 obtain⟨f1',f2,f3,f4,f5⟩:=Pk x
 obtain⟨g1,g2,g3,g4,g5⟩:=Pk (iC x ln)
 have d6:az.length=138:=rfl
 have p1:((fe t).map I).length=8:=by simp[fe,fc]
 have p2:setCells [.int .i64 0,.int .i64 0,.int .i64 0,.int .i64 0,.int .i64 0,.int .i64 0,.int .i64 0,.int .i64 0] 0 ((fe t).map I)=(fe t).map I:=bk (by rw[p1];rfl)
 have p3:(la.map I).length=8:=by simp[hla]
 have p4:setCells ((fe t).map I) 0 (la.map I)=la.map I:=bk (by rw[p1,p3])
 have p5:ay (la.map I) 0 (some 8)=some (.agg (la.map I)):=by have:=lG (la.map I) 0 8 (by rw[p3];decide);rw[this,List.drop_zero,<-p3,List.take_length]
 have p6:setCells [.int .i64 0,.int .i64 0,.int .i64 0,.int .i64 0,.int .i64 0,.int .i64 0,.int .i64 0,.int .i64 0] 0 (la.map I)=la.map I:=bk (by rw[p3];rfl)
 generalize iC x ln=y at*
 have faA:=And.intro hl (And.intro hp (And.intro c1 (And.intro c2 (And.intro c3 (And.intro c4 (And.intro c5 (And.intro c6 (And.intro c7 (And.intro c8 (And.intro c9 (And.intro d0 (And.intro d1 (And.intro d2 (And.intro d3 (And.intro d4 (And.intro d5 (And.intro d6 (And.intro C1 (And.intro C2 (And.intro C3 (And.intro C4 (And.intro C5 (And.intro C6 (And.intro C7 (And.intro C8 (And.intro C9 (And.intro D5 (And.intro s1 (And.intro f1' (And.intro f2 (And.intro f3 (And.intro f4 (And.intro f5 (And.intro g1 (And.intro g2 (And.intro g3 (And.intro g4 (And.intro g5 (And.intro p1 (And.intro p2 (And.intro p3 (And.intro p4 (And.intro p5 (p6))))))))))))))))))))))))))))))))))))))))))))
 rcases bf (DG x)with hg|hg<;>rcases bf (st'.pre.aq !=st.pre.aq)with h3|h3<;>rcases bf (st'.rings.group !=st.rings.group)with h4|h4
 all_goals
  rw[hg]at cG
  simp only[eH,uQ,hg,h3,h4,Bool.not_true,Bool.not_false,beq_self_eq_true,bne_self_eq_false,Bool.and_self,Bool.and_true,Bool.true_and,Bool.false_and,Int.reduceBEq,Int.reduceBNe,List.filter_cons,List.filter_nil,if_true,if_false,Bool.false_eq_true,List.map_cons,List.map_nil,nA,Gq,reduceCtorEq]
  refine ak hm hc (by show 3<=145;decide) (aj (keep:=[]) (i:=0) ?_)
  try simp only[I,B,D,RY,bD,Option.bind_some,cond_true,cond_false,if_true,aY,aZ,bh,↓KW,↓bg,seval,aO,Z.H,faA]
  first|refine af cG ?_|refine aC cG ?_
  try simp only[I,B,D,RY,bD,Option.bind_some,cond_true,cond_false,if_true,aY,aZ,bh,↓KW,↓bg,seval,faA]
  first|refine af cC ?_|refine aC cC ?_
  try simp only[I,B,D,RY,bD,Option.bind_some,cond_true,cond_false,if_true,aY,aZ,bh,↓KW,↓bg,seval,faA]
  first|refine af cP ?_|refine aC cP ?_
  try simp only[I,B,D,RY,bD,Option.bind_some,cond_true,cond_false,if_true,aY,aZ,bh,↓KW,↓bg,seval,faA]
  first|refine af cT ?_|refine aC cT ?_
  try simp only[I,B,D,RY,bD,Option.bind_some,cond_true,cond_false,if_true,aY,aZ,bh,↓KW,↓bg,seval,h3,h4,bne_self_eq_false,faA]
 ·refine⟨rfl,dn (hF (Bx.mk 2 ti' fl st' mon' y.lines (IntKind.i64.wrap (tk+1))).cells (IntKind.i64.wrap (tk+1)) 5 0 (C7 ..)) ?_⟩
  try simp only[I,B,D,RY,bD,Option.bind_some,cond_true,cond_false,if_true,aY,aZ,bh,↓KW,↓bg,seval,h3,h4,bne_self_eq_false,faA]
  refine⟨rfl,aA (hN (.sl [eJ (IntKind.i64.wrap (tk+1)) 5 0]) (Bx.mk 2 ti' fl st' mon' y.lines (IntKind.i64.wrap (tk+1))).cells 2 fl) rfl rfl rfl rfl ?_⟩;try simp only[I,B,D,RY,bD,Option.bind_some,cond_true,cond_false,if_true,aY,aZ,bh,↓KW,↓bg,seval,h3,h4,bne_self_eq_false,faA]
  refine⟨rfl,aA (hN (.sl [eJ (IntKind.i64.wrap (tk+1)) 5 0]) (Bx.mk 2 ti' fl st' mon' y.lines (IntKind.i64.wrap (tk+1))).cells 1 2) rfl rfl rfl rfl ?_⟩;try simp only[I,B,D,RY,bD,Option.bind_some,cond_true,cond_false,if_true,aY,aZ,bh,↓KW,↓bg,seval,h3,h4,bne_self_eq_false,faA]
  refine⟨rfl,aA (hN (.sl [eJ (IntKind.i64.wrap (tk+1)) 5 0]) (Bx.mk 2 ti' fl st' mon' y.lines (IntKind.i64.wrap (tk+1))).cells 3 st'.pre.aq) rfl rfl rfl rfl ?_⟩;try simp only[I,B,D,RY,bD,Option.bind_some,cond_true,cond_false,if_true,aY,aZ,bh,↓KW,↓bg,seval,h3,h4,bne_self_eq_false,faA]
  refine⟨rfl,aA (hN (.sl [eJ (IntKind.i64.wrap (tk+1)) 5 0]) (Bx.mk 2 ti' fl st' mon' y.lines (IntKind.i64.wrap (tk+1))).cells 4 st'.rings.group) rfl rfl rfl rfl ?_⟩;try simp only[I,B,D,RY,bD,Option.bind_some,cond_true,cond_false,if_true,aY,aZ,bh,↓KW,↓bg,seval,h3,h4,bne_self_eq_false,faA]
  refine dG rfl ?_;try simp only[I,B,D,RY,bD,Option.bind_some,cond_true,cond_false,if_true,aY,aZ,bh,↓KW,↓bg,seval,uD,eJ,faA]
 ·refine⟨rfl,dn (hF (Bx.mk 2 ti' fl st' mon' y.lines (IntKind.i64.wrap (tk+1))).cells (IntKind.i64.wrap (tk+1)) 5 0 (C7 ..)) ?_⟩
  try simp only[I,B,D,RY,bD,Option.bind_some,cond_true,cond_false,if_true,aY,aZ,bh,↓KW,↓bg,seval,h3,h4,bne_self_eq_false,faA]
  refine⟨rfl,aA (hN (.sl [eJ (IntKind.i64.wrap (tk+1)) 5 0]) (Bx.mk 2 ti' fl st' mon' y.lines (IntKind.i64.wrap (tk+1))).cells 2 fl) rfl rfl rfl rfl ?_⟩;try simp only[I,B,D,RY,bD,Option.bind_some,cond_true,cond_false,if_true,aY,aZ,bh,↓KW,↓bg,seval,h3,h4,bne_self_eq_false,faA]
  refine⟨rfl,aA (hN (.sl [eJ (IntKind.i64.wrap (tk+1)) 5 0]) (Bx.mk 2 ti' fl st' mon' y.lines (IntKind.i64.wrap (tk+1))).cells 1 2) rfl rfl rfl rfl ?_⟩;try simp only[I,B,D,RY,bD,Option.bind_some,cond_true,cond_false,if_true,aY,aZ,bh,↓KW,↓bg,seval,h3,h4,bne_self_eq_false,faA]
  refine⟨rfl,aA (hN (.sl [eJ (IntKind.i64.wrap (tk+1)) 5 0]) (Bx.mk 2 ti' fl st' mon' y.lines (IntKind.i64.wrap (tk+1))).cells 3 st'.pre.aq) rfl rfl rfl rfl ?_⟩;try simp only[I,B,D,RY,bD,Option.bind_some,cond_true,cond_false,if_true,aY,aZ,bh,↓KW,↓bg,seval,h3,h4,bne_self_eq_false,faA]
  refine⟨rfl,aA (hJ [eJ (IntKind.i64.wrap (tk+1)) 5 0] (Bx.mk 2 ti' fl st' mon' y.lines (IntKind.i64.wrap (tk+1))).cells (IntKind.i64.wrap (tk+1)) 4 st'.rings.group (C7 ..) (by simp) (by simp[eJ])) rfl rfl rfl rfl ?_⟩
  try simp only[I,B,D,RY,bD,Option.bind_some,cond_true,cond_false,if_true,aY,aZ,bh,↓KW,↓bg,seval,h3,h4,bne_self_eq_false,faA]
  refine dG rfl ?_;try simp only[I,B,D,RY,bD,Option.bind_some,cond_true,cond_false,if_true,aY,aZ,bh,↓KW,↓bg,seval,uD,eJ,faA]
 ·refine⟨rfl,dn (hF (Bx.mk 2 ti' fl st' mon' y.lines (IntKind.i64.wrap (tk+1))).cells (IntKind.i64.wrap (tk+1)) 5 0 (C7 ..)) ?_⟩
  try simp only[I,B,D,RY,bD,Option.bind_some,cond_true,cond_false,if_true,aY,aZ,bh,↓KW,↓bg,seval,h3,h4,bne_self_eq_false,faA]
  refine⟨rfl,aA (hN (.sl [eJ (IntKind.i64.wrap (tk+1)) 5 0]) (Bx.mk 2 ti' fl st' mon' y.lines (IntKind.i64.wrap (tk+1))).cells 2 fl) rfl rfl rfl rfl ?_⟩;try simp only[I,B,D,RY,bD,Option.bind_some,cond_true,cond_false,if_true,aY,aZ,bh,↓KW,↓bg,seval,h3,h4,bne_self_eq_false,faA]
  refine⟨rfl,aA (hN (.sl [eJ (IntKind.i64.wrap (tk+1)) 5 0]) (Bx.mk 2 ti' fl st' mon' y.lines (IntKind.i64.wrap (tk+1))).cells 1 2) rfl rfl rfl rfl ?_⟩;try simp only[I,B,D,RY,bD,Option.bind_some,cond_true,cond_false,if_true,aY,aZ,bh,↓KW,↓bg,seval,h3,h4,bne_self_eq_false,faA]
  refine⟨rfl,aA (hJ [eJ (IntKind.i64.wrap (tk+1)) 5 0] (Bx.mk 2 ti' fl st' mon' y.lines (IntKind.i64.wrap (tk+1))).cells (IntKind.i64.wrap (tk+1)) 3 st'.pre.aq (C7 ..) (by simp) (by simp[eJ])) rfl rfl rfl rfl ?_⟩
  try simp only[I,B,D,RY,bD,Option.bind_some,cond_true,cond_false,if_true,aY,aZ,bh,↓KW,↓bg,seval,h3,h4,bne_self_eq_false,faA]
  refine⟨rfl,aA (hN (.sl [eJ (IntKind.i64.wrap (tk+1)) 5 0,eJ (IntKind.i64.wrap (tk+1)) 3 st'.pre.aq]) (Bx.mk 2 ti' fl st' mon' y.lines (IntKind.i64.wrap (tk+1))).cells 4 st'.rings.group) rfl rfl rfl rfl ?_⟩
  try simp only[I,B,D,RY,bD,Option.bind_some,cond_true,cond_false,if_true,aY,aZ,bh,↓KW,↓bg,seval,h3,h4,bne_self_eq_false,faA]
  refine dG rfl ?_;try simp only[I,B,D,RY,bD,Option.bind_some,cond_true,cond_false,if_true,aY,aZ,bh,↓KW,↓bg,seval,uD,eJ,faA]
 ·refine⟨rfl,dn (hF (Bx.mk 2 ti' fl st' mon' y.lines (IntKind.i64.wrap (tk+1))).cells (IntKind.i64.wrap (tk+1)) 5 0 (C7 ..)) ?_⟩
  try simp only[I,B,D,RY,bD,Option.bind_some,cond_true,cond_false,if_true,aY,aZ,bh,↓KW,↓bg,seval,h3,h4,bne_self_eq_false,faA]
  refine⟨rfl,aA (hN (.sl [eJ (IntKind.i64.wrap (tk+1)) 5 0]) (Bx.mk 2 ti' fl st' mon' y.lines (IntKind.i64.wrap (tk+1))).cells 2 fl) rfl rfl rfl rfl ?_⟩;try simp only[I,B,D,RY,bD,Option.bind_some,cond_true,cond_false,if_true,aY,aZ,bh,↓KW,↓bg,seval,h3,h4,bne_self_eq_false,faA]
  refine⟨rfl,aA (hN (.sl [eJ (IntKind.i64.wrap (tk+1)) 5 0]) (Bx.mk 2 ti' fl st' mon' y.lines (IntKind.i64.wrap (tk+1))).cells 1 2) rfl rfl rfl rfl ?_⟩;try simp only[I,B,D,RY,bD,Option.bind_some,cond_true,cond_false,if_true,aY,aZ,bh,↓KW,↓bg,seval,h3,h4,bne_self_eq_false,faA]
  refine⟨rfl,aA (hJ [eJ (IntKind.i64.wrap (tk+1)) 5 0] (Bx.mk 2 ti' fl st' mon' y.lines (IntKind.i64.wrap (tk+1))).cells (IntKind.i64.wrap (tk+1)) 3 st'.pre.aq (C7 ..) (by simp) (by simp[eJ])) rfl rfl rfl rfl ?_⟩
  try simp only[I,B,D,RY,bD,Option.bind_some,cond_true,cond_false,if_true,aY,aZ,bh,↓KW,↓bg,seval,h3,h4,bne_self_eq_false,faA]
  refine⟨rfl,aA (hJ [eJ (IntKind.i64.wrap (tk+1)) 5 0,eJ (IntKind.i64.wrap (tk+1)) 3 st'.pre.aq] (Bx.mk 2 ti' fl st' mon' y.lines (IntKind.i64.wrap (tk+1))).cells (IntKind.i64.wrap (tk+1)) 4 st'.rings.group (C7 ..) (by simp) (by simp[eJ])) rfl rfl rfl rfl ?_⟩
  try simp only[I,B,D,RY,bD,Option.bind_some,cond_true,cond_false,if_true,aY,aZ,bh,↓KW,↓bg,seval,h3,h4,bne_self_eq_false,faA]
  refine dG rfl ?_;try simp only[I,B,D,RY,bD,Option.bind_some,cond_true,cond_false,if_true,aY,aZ,bh,↓KW,↓bg,seval,uD,eJ,faA]
 ·refine⟨rfl,aK (h0 .aL (Bx.mk 2 ti' fl st' mon' y.lines (IntKind.i64.wrap (tk+1))) 5 0 (okb' ..)) ?_⟩
  try simp only[I,B,D,RY,bD,Option.bind_some,cond_true,cond_false,if_true,aY,aZ,bh,↓KW,↓bg,seval,h3,h4,bne_self_eq_false,faA]
  refine⟨rfl,aK (h0 .aL (Bx.mk 2 ti' fl st' mon' y.lines (IntKind.i64.wrap (tk+1))) 2 fl (okb' ..)) ?_⟩;try simp only[I,B,D,RY,bD,Option.bind_some,cond_true,cond_false,if_true,aY,aZ,bh,↓KW,↓bg,seval,h3,h4,bne_self_eq_false,faA]
  refine⟨rfl,aK (h0 .aL (Bx.mk 2 ti' fl st' mon' y.lines (IntKind.i64.wrap (tk+1))) 1 2 (okb' ..)) ?_⟩;try simp only[I,B,D,RY,bD,Option.bind_some,cond_true,cond_false,if_true,aY,aZ,bh,↓KW,↓bg,seval,h3,h4,bne_self_eq_false,faA]
  refine⟨rfl,aK (h0 .aL (Bx.mk 2 ti' fl st' mon' y.lines (IntKind.i64.wrap (tk+1))) 3 st'.pre.aq (okb' ..)) ?_⟩;try simp only[I,B,D,RY,bD,Option.bind_some,cond_true,cond_false,if_true,aY,aZ,bh,↓KW,↓bg,seval,h3,h4,bne_self_eq_false,faA]
  refine⟨rfl,aK (h0 .aL (Bx.mk 2 ti' fl st' mon' y.lines (IntKind.i64.wrap (tk+1))) 4 st'.rings.group (okb' ..)) ?_⟩;try simp only[I,B,D,RY,bD,Option.bind_some,cond_true,cond_false,if_true,aY,aZ,bh,↓KW,↓bg,seval,h3,h4,bne_self_eq_false,faA]
  refine dG rfl ?_;try simp only[I,B,D,RY,bD,Option.bind_some,cond_true,cond_false,if_true,aY,aZ,bh,↓KW,↓bg,seval,uD,eJ,faA]
 ·refine⟨rfl,aK (h0 .aL (Bx.mk 2 ti' fl st' mon' y.lines (IntKind.i64.wrap (tk+1))) 5 0 (okb' ..)) ?_⟩
  try simp only[I,B,D,RY,bD,Option.bind_some,cond_true,cond_false,if_true,aY,aZ,bh,↓KW,↓bg,seval,h3,h4,bne_self_eq_false,faA]
  refine⟨rfl,aK (h0 .aL (Bx.mk 2 ti' fl st' mon' y.lines (IntKind.i64.wrap (tk+1))) 2 fl (okb' ..)) ?_⟩;try simp only[I,B,D,RY,bD,Option.bind_some,cond_true,cond_false,if_true,aY,aZ,bh,↓KW,↓bg,seval,h3,h4,bne_self_eq_false,faA]
  refine⟨rfl,aK (h0 .aL (Bx.mk 2 ti' fl st' mon' y.lines (IntKind.i64.wrap (tk+1))) 1 2 (okb' ..)) ?_⟩;try simp only[I,B,D,RY,bD,Option.bind_some,cond_true,cond_false,if_true,aY,aZ,bh,↓KW,↓bg,seval,h3,h4,bne_self_eq_false,faA]
  refine⟨rfl,aK (h0 .aL (Bx.mk 2 ti' fl st' mon' y.lines (IntKind.i64.wrap (tk+1))) 3 st'.pre.aq (okb' ..)) ?_⟩;try simp only[I,B,D,RY,bD,Option.bind_some,cond_true,cond_false,if_true,aY,aZ,bh,↓KW,↓bg,seval,h3,h4,bne_self_eq_false,faA]
  refine⟨rfl,dn (hF (Bx.mk 2 ti' fl st' mon' y.lines (IntKind.i64.wrap (tk+1))).cells (IntKind.i64.wrap (tk+1)) 4 st'.rings.group (C7 ..)) ?_⟩;try simp only[I,B,D,RY,bD,Option.bind_some,cond_true,cond_false,if_true,aY,aZ,bh,↓KW,↓bg,seval,h3,h4,bne_self_eq_false,faA]
  refine dG rfl ?_;try simp only[I,B,D,RY,bD,Option.bind_some,cond_true,cond_false,if_true,aY,aZ,bh,↓KW,↓bg,seval,uD,eJ,faA]
 ·refine⟨rfl,aK (h0 .aL (Bx.mk 2 ti' fl st' mon' y.lines (IntKind.i64.wrap (tk+1))) 5 0 (okb' ..)) ?_⟩
  try simp only[I,B,D,RY,bD,Option.bind_some,cond_true,cond_false,if_true,aY,aZ,bh,↓KW,↓bg,seval,h3,h4,bne_self_eq_false,faA]
  refine⟨rfl,aK (h0 .aL (Bx.mk 2 ti' fl st' mon' y.lines (IntKind.i64.wrap (tk+1))) 2 fl (okb' ..)) ?_⟩;try simp only[I,B,D,RY,bD,Option.bind_some,cond_true,cond_false,if_true,aY,aZ,bh,↓KW,↓bg,seval,h3,h4,bne_self_eq_false,faA]
  refine⟨rfl,aK (h0 .aL (Bx.mk 2 ti' fl st' mon' y.lines (IntKind.i64.wrap (tk+1))) 1 2 (okb' ..)) ?_⟩;try simp only[I,B,D,RY,bD,Option.bind_some,cond_true,cond_false,if_true,aY,aZ,bh,↓KW,↓bg,seval,h3,h4,bne_self_eq_false,faA]
  refine⟨rfl,dn (hF (Bx.mk 2 ti' fl st' mon' y.lines (IntKind.i64.wrap (tk+1))).cells (IntKind.i64.wrap (tk+1)) 3 st'.pre.aq (C7 ..)) ?_⟩;try simp only[I,B,D,RY,bD,Option.bind_some,cond_true,cond_false,if_true,aY,aZ,bh,↓KW,↓bg,seval,h3,h4,bne_self_eq_false,faA]
  refine⟨rfl,aA (hN (.sl [eJ (IntKind.i64.wrap (tk+1)) 3 st'.pre.aq]) (Bx.mk 2 ti' fl st' mon' y.lines (IntKind.i64.wrap (tk+1))).cells 4 st'.rings.group) rfl rfl rfl rfl ?_⟩;try simp only[I,B,D,RY,bD,Option.bind_some,cond_true,cond_false,if_true,aY,aZ,bh,↓KW,↓bg,seval,h3,h4,bne_self_eq_false,faA]
  refine dG rfl ?_;try simp only[I,B,D,RY,bD,Option.bind_some,cond_true,cond_false,if_true,aY,aZ,bh,↓KW,↓bg,seval,uD,eJ,faA]
 ·refine⟨rfl,aK (h0 .aL (Bx.mk 2 ti' fl st' mon' y.lines (IntKind.i64.wrap (tk+1))) 5 0 (okb' ..)) ?_⟩
  try simp only[I,B,D,RY,bD,Option.bind_some,cond_true,cond_false,if_true,aY,aZ,bh,↓KW,↓bg,seval,h3,h4,bne_self_eq_false,faA]
  refine⟨rfl,aK (h0 .aL (Bx.mk 2 ti' fl st' mon' y.lines (IntKind.i64.wrap (tk+1))) 2 fl (okb' ..)) ?_⟩;try simp only[I,B,D,RY,bD,Option.bind_some,cond_true,cond_false,if_true,aY,aZ,bh,↓KW,↓bg,seval,h3,h4,bne_self_eq_false,faA]
  refine⟨rfl,aK (h0 .aL (Bx.mk 2 ti' fl st' mon' y.lines (IntKind.i64.wrap (tk+1))) 1 2 (okb' ..)) ?_⟩;try simp only[I,B,D,RY,bD,Option.bind_some,cond_true,cond_false,if_true,aY,aZ,bh,↓KW,↓bg,seval,h3,h4,bne_self_eq_false,faA]
  refine⟨rfl,dn (hF (Bx.mk 2 ti' fl st' mon' y.lines (IntKind.i64.wrap (tk+1))).cells (IntKind.i64.wrap (tk+1)) 3 st'.pre.aq (C7 ..)) ?_⟩;try simp only[I,B,D,RY,bD,Option.bind_some,cond_true,cond_false,if_true,aY,aZ,bh,↓KW,↓bg,seval,h3,h4,bne_self_eq_false,faA]
  refine⟨rfl,aA (hJ [eJ (IntKind.i64.wrap (tk+1)) 3 st'.pre.aq] (Bx.mk 2 ti' fl st' mon' y.lines (IntKind.i64.wrap (tk+1))).cells (IntKind.i64.wrap (tk+1)) 4 st'.rings.group (C7 ..) (by simp) (by simp[eJ])) rfl rfl rfl rfl ?_⟩
  try simp only[I,B,D,RY,bD,Option.bind_some,cond_true,cond_false,if_true,aY,aZ,bh,↓KW,↓bg,seval,h3,h4,bne_self_eq_false,faA]
  refine dG rfl ?_;try simp only[I,B,D,RY,bD,Option.bind_some,cond_true,cond_false,if_true,aY,aZ,bh,↓KW,↓bg,seval,uD,eJ,faA]
end
def KS(t:Tb) (b:Bx) (x:Fr):Bx:=if Gp t b x !=0 then⟨3,0,Gp t b x,kY t,lN,b.lines,b.tick⟩else⟨b.mode,jq b.time,b.fault,Gc t b x,Pj t b x,b.lines,b.tick⟩
def Mg(t:Tb) (b:Bx) (x:Fr):List Int:=if Gp t b x !=0 then fe t else Gn t b x
def Dw.Spec(C:aS) (f:Nat):Prop:=∀(t:Tb) (b:Bx) (x:Fr),V4 t b x->C.c f [.agg t.cells,.agg b.cells,.agg x.cells] (.cN [.agg (KS t b x).cells,.agg ((Mg t b x).map I)]) none
theorem Bx.Wh{b:Bx} (h:b.Ok) {s:bP} (hs:s.Ok):setCells b.cells 3 s.cells=({b with st:=s}:Bx).cells:=by
 have h1:=bP.len h.st
 have h2:=bP.len hs
 simp only[Bx.cells,setCells,h2]
 show I b.mode::I b.time::I b.fault::_=_
 simp[h1,h2,List.drop_append]
theorem Bx.Sm{b:Bx} (h:b.Ok) {m:Mn} (hm:m.Ok):setCells b.cells 120 m.cells=({b with bt:=m}:Bx).cells:=by
 have h1:=bP.len h.st
 have h2:=Bx.Ow h
 have h3:m.cells.length=16:=Mn.len hm
 simp only[Bx.cells,setCells,h3]
 show I b.mode::I b.time::I b.fault::_=_
 simp[h1,h2,h3,List.drop_append,List.take_append]
theorem Sn(fo L T:Int) {cs:List AV} (h:cs.length=117):((List.take 136 (List.take 135 (List.take 2 (List.take 1 (List.drop 1 az)++[.int .i64 fo]++List.drop 2 (List.drop 1 az))++cs++List.drop 119 (List.take 1 (List.drop 1 az)++[.int .i64 fo]++List.drop 2 (List.drop 1 az)))++[.int .i64 L]++List.drop 136 (List.take 2 (List.take 1 (List.drop 1 az)++[.int .i64 fo]++List.drop 2 (List.drop 1 az))++cs++List.drop 119 (List.take 1 (List.drop 1 az)++[.int .i64 fo]++List.drop 2 (List.drop 1 az))))++[.int .i64 T]++List.drop 137 (List.take 135 (List.take 2 (List.take 1 (List.drop 1 az)++[.int .i64 fo]++List.drop 2 (List.drop 1 az))++cs++List.drop 119 (List.take 1 (List.drop 1 az)++[.int .i64 fo]++List.drop 2 (List.drop 1 az)))++[.int .i64 L]++List.drop 136 (List.take 2 (List.take 1 (List.drop 1 az)++[.int .i64 fo]++List.drop 2 (List.drop 1 az))++cs++List.drop 119 (List.take 1 (List.drop 1 az)++[.int .i64 fo]++List.drop 2 (List.drop 1 az))))):List AV)=I 0::I fo::(cs++(lN.cells++[I L,I T])):=by
 have hA2:((List.take 2 (List.take 1 (List.drop 1 az)++[.int .i64 fo]++List.drop 2 (List.drop 1 az))++cs++List.drop 119 (List.take 1 (List.drop 1 az)++[.int .i64 fo]++List.drop 2 (List.drop 1 az))):List AV)=I 0::I fo::(cs++(lN.cells++[I 0,I 0])):=rfl
 have hm:lN.cells.length=16:=rfl
 have hA3:(List.take 135 (I 0::I fo::(cs++(lN.cells++[I 0,I 0])))++[.int .i64 L]++List.drop 136 (I 0::I fo::(cs++(lN.cells++[I 0,I 0]))):List AV)=I 0::I fo::(cs++(lN.cells++[I L,I 0])):=by
  simp[List.take_append,List.drop_append,h,hm]
  rw[List.take_of_length_le (by omega),List.drop_of_length_le (by omega),List.drop_of_length_le (by omega)];rfl
 rw[hA2,hA3];simp[List.take_append,List.drop_append,h,hm]
 rw[List.take_of_length_le (by omega),List.take_of_length_le (by omega),List.drop_of_length_le (by omega),List.drop_of_length_le (by omega)];rfl
section
variable{P:Program} (hm:P.follows .mixedOrders=true) {f:Nat}
include hm
theorem Dw.ok{fR fB fP fM:Nat} (hc:bF P f=some (rE fR fB fP fM)) (hR:Dr.Spec (Pure P) fR) (hB:AU.Spec (Pure P) fB) (hP:nq.Spec (Pure P) fP) (hM:qE.Spec (Pure P) fM):Dw.Spec (Pure P) f:=by
 intro t b x hin
 have cR:=hR t b x hin
 obtain⟨ht,hfw,hnd,hb,hch,hsm⟩:=hin;obtain⟨f1',f2,f3,f4,f5⟩:=Pk x
 have hl:=Tb.len ht
 have hp:=Tb.whole ht
 have cP:=hP t ht
 have cM:=hM b.time
 have hmo:fj b.time 0 9999+1=jq b.time:=rfl
 rw[hmo]at cM
 have b1:=Bx.len hb
 have b2:=Bx.whole hb
 have b3:b.cells[1]? =some (I b.time):=rfl
 have b4:=(Bx.jP hb).1
 have b5:=(Bx.jP hb).2
 have sok:(Gc t b x).Ok:=F8 ..
 have l8:(Gn t b x).length=8:=kE _
 have mok:(Pj t b x).Ok:=qI (yB l8 _) 8
 have hB2:KS t b x=if Gp t b x !=0 then⟨3,0,Gp t b x,kY t,lN,b.lines,b.tick⟩else⟨b.mode,jq b.time,b.fault,Gc t b x,Pj t b x,b.lines,b.tick⟩:=rfl
 have hL2:Mg t b x=if Gp t b x !=0 then fe t else Gn t b x:=rfl
 rw[ruR]at cR;generalize KS t b x=B2 at*;generalize Mg t b x=L2 at*;generalize Gp t b x=fo at*;generalize Gc t b x=s at*;generalize Pj t b x=m at*;generalize Gn t b x=la at*
 have s1:=bP.len sok
 have s2:=bP.whole sok
 have s3:setCells bX 0 s.cells=s.cells:=bk (by rw[s1];rfl)
 have s4:bX.length=117:=rfl
 have m1:=Mn.len mok
 have m2:=Mn.whole mok
 have m3:setCells dY 0 m.cells=m.cells:=bk (by rw[m1];rfl)
 have m4:dY.length=16:=rfl
 have n1:(la.map I).length=8:=by simp[l8]
 have n2:setCells [.int .i64 0,.int .i64 0,.int .i64 0,.int .i64 0,.int .i64 0,.int .i64 0,.int .i64 0,.int .i64 0] 0 (la.map I)=la.map I:=bk (by rw[n1];rfl)
 have n3:ay (la.map I) 0 (some 8)=some (.agg (la.map I)):=by have:=lG (la.map I) 0 8 (by rw[n1];decide);rw[this,List.drop_zero,<-n1,List.take_length]
 have z1:az.length=138:=rfl
 have p1:((fe t).map I).length=8:=by simp[fe,fc]
 have p2:setCells [.int .i64 0,.int .i64 0,.int .i64 0,.int .i64 0,.int .i64 0,.int .i64 0,.int .i64 0,.int .i64 0] 0 ((fe t).map I)=(fe t).map I:=bk (by rw[p1];rfl)
 have p3:ay ((fe t).map I) 0 (some 8)=some (.agg ((fe t).map I)):=rfl
 have faA:=And.intro hl (And.intro hp (And.intro f1' (And.intro f2 (And.intro f5 (And.intro b1 (And.intro b2 (And.intro b3 (And.intro b4 (And.intro b5 (And.intro s1 (And.intro s2 (And.intro s3 (And.intro s4 (And.intro m1 (And.intro m2 (And.intro m3 (And.intro m4 (And.intro n1 (And.intro n2 (And.intro n3 (And.intro z1 (And.intro p1 (And.intro p2 (p3))))))))))))))))))))))))
 refine ak hm hc (by show 3<=43;decide) (aj (keep:=[]) (i:=0) ?_)
 try simp only[I,B,D,RY,↓KW,seval,rE,Z.H,faA]
 refine af cR ?_;try simp only[I,B,D,RY,↓KW,seval,faA]
 rcases bf (fo !=0)with h|h
 ·simp only[h,if_false,Bool.false_eq_true]at hB2 hL2
  rw[hB2,hL2]
  have q1:=Bx.Wh hb sok
  have o1:({b with st:=s}:Bx).Ok:=⟨sok,hb.bt⟩
  have q2:=Bx.Sm o1 mok
  have o2:(Bx.mk b.mode b.time b.fault s m b.lines b.tick).Ok:=⟨sok,mok⟩
  have o3:(Bx.mk b.mode (jq b.time) b.fault s m b.lines b.tick).Ok:=⟨sok,mok⟩
  have q3:setCells (Bx.mk b.mode b.time b.fault s m b.lines b.tick).cells 1 [I (jq b.time)]=(Bx.mk b.mode (jq b.time) b.fault s m b.lines b.tick).cells:=rfl
  have q4:=Bx.len o1
  have q5:=Bx.len o2
  have q6:=Bx.len o3
  have q7:=Bx.whole o3
  have q8:setCells az 0 (Bx.mk b.mode (jq b.time) b.fault s m b.lines b.tick).cells=(Bx.mk b.mode (jq b.time) b.fault s m b.lines b.tick).cells:=bk (by rw[q6];rfl)
  try simp only[I,B,D,RY,↓KW,seval,h,faA]
  refine dG rfl ?_;try simp only[I,B,D,RY,↓KW,seval,faA]
  refine af cM ?_;try simp only[I,B,D,RY,↓KW,seval,q1,q2,q3,q4,q5,q6,q7,q8,faA]
  refine dG rfl ?_;try simp only[I,B,D,RY,↓KW,seval,q1,q2,q3,q4,q5,q6,q7,q8,faA]
 ·simp only[h,if_true]at hB2 hL2
  rw[hB2,hL2];try simp only[I,B,D,RY,↓KW,seval,h,faA]
  have e0:=bP.len (nX t)
  have o4:(Bx.mk 3 0 fo (kY t) lN b.lines b.tick).Ok:=⟨nX t,rfl,rfl⟩
  have q6:=Bx.len o4
  have q7:=Bx.whole o4
  have q8:setCells az 0 (Bx.mk 3 0 fo (kY t) lN b.lines b.tick).cells=(Bx.mk 3 0 fo (kY t) lN b.lines b.tick).cells:=bk (by rw[q6];rfl)
  refine af (hB t ht.ln) ?_;try simp only[I,B,D,RY,↓KW,seval,e0,faA]
  refine af cP ?_
  have q9:(.int .i64 3::I 0::I fo::((kY t).cells++(lN.cells++[I b.lines,I b.tick])))=(Bx.mk 3 0 fo (kY t) lN b.lines b.tick).cells:=rfl
  have q10:(I 0::I fo::((kY t).cells++(lN.cells++[I b.lines,I b.tick]))).length=137:=by
   have:=congrArg List.length q9;rw[q6]at this;simpa using this
  have q11:=Sn fo b.lines b.tick e0
  try simp only[I,B,D,RY,↓KW,seval,e0,q11,q9,q10,q6,q7,q8,faA]
end
def AJ(b:Bx) (ln:Int):Bx:=⟨b.mode,b.time,b.fault,b.st,b.bt,ln,IntKind.i64.wrap (b.tick+1)⟩
def yC(t:Tb) (b:Bx) (x:Fr):Bx:=if b.mode=1 then Du t b (iC x b.lines).lines else if b.mode=2 then KS t (AJ b (iC x b.lines).lines) (iC x b.lines)else Dv t b (iC x b.lines).lines (iC x b.lines).reset
def Iv(t:Tb) (b:Bx) (x:Fr):List Int:=if b.mode=1 then Z5 else if b.mode=2 then Mg t (AJ b (iC x b.lines).lines) (iC x b.lines)else fe t
def SW(t:Tb) (b:Bx) (x:Fr):List (Int×Int×Int):=eH (DG x) b (yC t b x)
structure InS (t:Tb) (b:Bx) (x:Fr):Prop where
 tok:t.Ok
 fw:t.Fw
 nd:VV t<=1000000
 IG:b.Ok
 mode:b.mode=1\/b.mode=2\/b.mode=3
 Z6:(b.st.gn.getD []).length<=1000000
 Sl:(x.samples.getD []).length<=1000000
def Dx.Spec(C:aS) (f:Nat):Prop:=∀(t:Tb) (b:Bx) (x:Fr),InS t b x->C.c f [.agg t.cells,.agg b.cells,.agg x.cells] (nA (yC t b x) (Iv t b x) (SW t b x)) none
theorem Wi{x:Fr} (h:(x.samples.getD []).length<=1000000) (ln:Int):((iC x ln).samples.getD []).length<=1000000:=by unfold iC;split;exact h;simp
theorem JG{t:Tb} {b:Bx} {x:Fr} (h:InS t b x):(yC t b x).Ok:=by
 have hb:=h.IG
 unfold yC;split
 ·unfold Du;split<;>exact⟨hb.st,hb.bt⟩
 ·split
  ·unfold KS;split
   ·exact⟨nX _,rfl,rfl⟩
   ·exact⟨F8 ..,qI (yB (kE _) _) 8⟩
  ·unfold Dv;split<;>exact⟨hb.st,hb.bt⟩
theorem O6{t:Tb} {b:Bx} {x:Fr} (h:InS t b x):(yC t b x).mode=1\/(yC t b x).mode=2\/(yC t b x).mode=3:=by
 have hm:=h.mode
 unfold yC;split
 ·rename_i h1;unfold Du;split
  ·exact .inr (.inl rfl)
  ·exact .inl h1
 ·split
  ·rename_i h2;unfold KS;split
   ·exact .inr (.inr rfl)
   ·exact .inr (.inl h2)
  ·unfold Dv;split
   ·exact .inl rfl
   ·exact hm
section
variable{P:Program} (hm:P.follows .mixedOrders=true) {f:Nat}
include hm
theorem Dx.ok{fG fC fP fR fM fT f1 e:Nat} (hc:pZ true P f=some (aO fG fC fP fR fM fT f1)) (hG:ni.Spec (Pure P) fG) (hC:iV.Spec (Pure P) fC) (hP:nq.Spec (Pure P) fP) (hR:wj.Spec (Pure P) fR) (hM:qE.Spec (Pure P) fM) (hT:Dw.Spec (Pure P) fT)
  (h0:oB.Spec (Pure P) f1) (hN:qJ.Spec (Pure P) e f1) (hF:qK.Spec (Pure P) e f1) (hJ:qL.Spec (Pure P) e f1):Dx.Spec (Pure P) f:=by
 intro t b x h
 rcases h.mode with h1|h2|h3
 ·have e1:yC t b x=Du t b (iC x b.lines).lines:=if_pos h1
  have e2:Iv t b x=Z5:=if_pos h1
  have:=Ge.ok hm hc hG hC hP hR hM h0 hN hF hJ t b x h.tok h.IG h1
  rw[SW,e1,e2];exact this
 ·have n1:¬b.mode=1:=by rw[h2];decide
  have e1:yC t b x=KS t (AJ b (iC x b.lines).lines) (iC x b.lines):=by unfold yC;rw[if_neg n1,if_pos h2]
  have e2:Iv t b x=Mg t (AJ b (iC x b.lines).lines) (iC x b.lines):=by unfold Iv;rw[if_neg n1,if_pos h2]
  have hin:V4 t (AJ b (iC x b.lines).lines) (iC x b.lines):=⟨h.tok,h.fw,h.nd,⟨h.IG.st,h.IG.bt⟩,h.Z6,Wi h.Sl _⟩
  have cT:=hT t _ _ hin
  have sok:(Gc t (AJ b (iC x b.lines).lines) (iC x b.lines)).Ok:=F8 ..
  have mok:(Pj t (AJ b (iC x b.lines).lines) (iC x b.lines)).Ok:=qI (yB (kE _) _) 8
  have l8:(Gn t (AJ b (iC x b.lines).lines) (iC x b.lines)).length=8:=kE _
  rw[SW,e1,e2];obtain⟨m,ti,fl,st,bt,ln,tk⟩:=b;simp only at h2;subst h2;unfold KS Mg at cT⊢;simp only[AJ]at cT sok mok l8⊢
  rcases bf (Gp t (Bx.mk 2 ti fl st bt (iC x ln).lines (IntKind.i64.wrap (tk+1))) (iC x ln) !=0)with hf|hf
  ·simp only[hf,if_false,Bool.false_eq_true]at cT⊢
   exact O5 hm hc hG hC hP h0 hN hF hJ h.tok h.IG.st h.IG.bt sok mok l8 cT
  ·simp only[hf,if_true]at cT⊢
   exact O4 hm hc hG hC hP h0 hN hF hJ h.tok h.IG.st h.IG.bt (nX t) ⟨rfl,rfl⟩ (by simp[fe,fc]) cT
 ·have n1:¬b.mode=1:=by rw[h3];decide
  have n2:¬b.mode=2:=by rw[h3];decide
  have e1:yC t b x=Dv t b (iC x b.lines).lines (iC x b.lines).reset:=by unfold yC;rw[if_neg n1,if_neg n2]
  have e2:Iv t b x=fe t:=by unfold Iv;rw[if_neg n1,if_neg n2]
  have:=Gf.ok hm hc hG hC hP hM h0 hN hF hJ t b x h.tok h.IG h3
  rw[SW,e1,e2];exact this
end
structure Inv (t:Tb) (b:Bx):Prop where
 IG:b.Ok
 mode:b.mode=1\/b.mode=2\/b.mode=3
 Z6:(b.st.gn.getD []).length<=1000000
 lns:0<=b.lines/\b.lines<=15
structure Mh (t:Tb):Prop where
 tok:t.Ok
 fw:t.Fw
 nd:VV t<=1000000
theorem Mh.table(l:Option (List Int)):Mh (gh l):=⟨B7 l,N3 l,tnd l⟩
theorem Inv.ins{t:Tb} {b:Bx} (ht:Mh t) (h:Inv t b) {x:Fr} (hx:(x.samples.getD []).length<=1000000):InS t b x:=⟨ht.tok,ht.fw,ht.nd,h.IG,h.mode,h.Z6,hx⟩
theorem Dy(t:Tb):((kY t).gn.getD []).length<=1000000:=by simp[kY,kX]
theorem Inv.beg(t:Tb):Inv t (y8 t):=⟨AZ t,.inl rfl,Dy t,by simp[y8],by simp[y8]⟩
theorem Mi{x:Fr} {ln:Int} (h:0<=ln/\ln<=15):0<=(iC x ln).lines/\(iC x ln).lines<=15:=by
 unfold iC;split
 ·rename_i hg
  unfold DG oc Rx at hg;simp only[Bool.and_eq_true,decide_eq_true_eq]at hg;exact hg.2
 ·exact h
theorem Inv.step{t:Tb} (ht:Mh t) {b:Bx} (h:Inv t b) {x:Fr} (hx:(x.samples.getD []).length<=1000000):Inv t (yC t b x):=by
 have hi:=h.ins ht hx
 have hl:=Mi (x:=x) h.lns
 refine⟨JG hi,O6 hi,?_,?_⟩
 ·unfold yC
  split
  ·unfold Du;split<;>exact h.Z6
  ·split
   ·unfold KS;split
    ·exact Dy t
    ·simp only[Gc,Me];exact ht.nd
   ·unfold Dv;split<;>exact h.Z6
 ·unfold yC
  split
  ·unfold Du;split<;>exact hl
  ·split
   ·unfold KS AJ;split<;>exact hl
   ·unfold Dv;split<;>exact hl
def Wj(t:Tb) (frs:List Fr):Nat->Bx
 |0=>y8 t
 |i+1=>yC t (Wj t frs i) (frs.getD i default)
theorem Inv.run{t:Tb} (ht:Mh t) {frs:List Fr} (hf:Few frs):∀i,i<=frs.length->Inv t (Wj t frs i)
 |0,_=>Inv.beg t
 |i+1,h=>by
  have e:frs.getD i default=frs[i]:=by simp[show i<frs.length by omega]
  exact(Inv.run ht hf i (by omega)).step ht (by rw[e];exact hf _ (List.getElem_mem _))
theorem O7{k:Nat} (hk:k<8):fJ (2^k)=[k]:=by
 have e:k=0\/k=1\/k=2\/k=3\/k=4\/k=5\/k=6\/k=7:=by omega
 rcases e with rfl|rfl|rfl|rfl|rfl|rfl|rfl|rfl<;>decide+kernel
theorem Wk{k:Nat} (hk:k<8):SF [(k:Int)]=2^k:=by
 have e:k=0\/k=1\/k=2\/k=3\/k=4\/k=5\/k=6\/k=7:=by omega
 rcases e with rfl|rfl|rfl|rfl|rfl|rfl|rfl|rfl<;>decide+kernel
theorem Mj{r:Rn} (h:dw .i64 (tU r) 4=0):tU r=1\/tU r=2:=by
 unfold tU at h⊢;split at h
 ·split at h
  ·exact absurd h (by decide+kernel)
  ·split at h<;>exact absurd h (by decide+kernel)
 ·rename_i h1
  rw[if_neg h1];split
  ·exact .inr rfl
  ·exact .inl rfl
theorem Iw{t:Tb} {m:Mn} {l:List Rn} {k:Nat} (hk:k<8) (hon:(aX t k).on=true) (h:dw .i64 (lD (iG l) k) 4=0):(gC t m (zk (iG l) (2^k)) !=0)=true:=by
 have hl:zk (iG l) (2^k)=(iG l).set k (yE .i64 (lD (iG l) k) 4):=by
  rw[zk,O7 hk];rfl
 have ha:lD (zk (iG l) (2^k)) k=yE .i64 (lD (iG l) k) 4:=by
  rw[hl,lD,List.getD_eq_getElem?_getD,List.getElem?_set_self (by rw[kE];exact hk)];rfl
 have h2:VG (zk (iG l) (2^k)) k=true:=by
  unfold VG;rw[ha,Iq l hk];rw[Iq l hk]at h
  rcases Mj h with e|e<;>rw[e]<;>decide+kernel
 have h3:rT t (VG (zk (iG l) (2^k)))=true:=by
  unfold rT;rw[List.any_eq_true]
  exact⟨k,List.mem_range.2 hk,by rw[hon,h2];rfl⟩
 unfold gC;rw[h3];split
 ·rfl
 ·rfl
def A7(k:Nat) (ln:Int):Fr:=⟨none,0,0,ln,2^k,false⟩
def AK(ln:Int):Fr:=⟨none,0,0,ln,0,false⟩
theorem Wl{ln:Int} (h:0<=ln/\ln<=15):DG (AK ln)=true:=by
 unfold DG oc Rx;simp[AK,Fr.fm,h]
theorem O8{k:Nat} (hk:k<8) {ln:Int} (h:0<=ln/\ln<=15):DG (A7 k ln)=true:=by
 unfold DG oc Rx
 have e:k=0\/k=1\/k=2\/k=3\/k=4\/k=5\/k=6\/k=7:=by omega
 rcases e with rfl|rfl|rfl|rfl|rfl|rfl|rfl|rfl<;>simp[A7,Fr.fm,h]
theorem Mk{t:Tb} {b:Bx} (hb:Inv t b) (hm:b.mode=2) {k:Nat} (hk:k<8) (hon:(aX t k).on=true) (hy:(yC t b (AK b.lines)).mode=2) (h4:dw .i64 (lD (Iv t b (AK b.lines)) k) 4=0):
  ∃F:Int,F≠0/\yC t b (A7 k b.lines)=⟨3,0,F,kY t,lN,b.lines,IntKind.i64.wrap (b.tick+1)⟩/\Iv t b (A7 k b.lines)=fe t/\SW t b (A7 k b.lines)=[(IntKind.i64.wrap (b.tick+1),2,F),(IntKind.i64.wrap (b.tick+1),1,3)]:=by
 have n1:¬b.mode=1:=by rw[hm];decide
 have cY:iC (AK b.lines) b.lines=AK b.lines:=by unfold iC;rw[Wl hb.lns];rfl
 have cX:iC (A7 k b.lines) b.lines=A7 k b.lines:=by unfold iC;rw[O8 hk hb.lns];rfl
 have eY:yC t b (AK b.lines)=KS t (AJ b b.lines) (AK b.lines):=by unfold yC;rw[if_neg n1,if_pos hm,cY];rfl
 have lY:Iv t b (AK b.lines)=Mg t (AJ b b.lines) (AK b.lines):=by unfold Iv;rw[if_neg n1,if_pos hm,cY];rfl
 have eX:yC t b (A7 k b.lines)=KS t (AJ b b.lines) (A7 k b.lines):=by unfold yC;rw[if_neg n1,if_pos hm,cX];rfl
 have lX:Iv t b (A7 k b.lines)=Mg t (AJ b b.lines) (A7 k b.lines):=by unfold Iv;rw[if_neg n1,if_pos hm,cX];rfl
 have f0:(Gp t (AJ b b.lines) (AK b.lines) !=0)=false:=by
  cases hf:Gp t (AJ b b.lines) (AK b.lines) !=0 with
  |false=>rfl
  |true=>rw[eY,KS,hf,if_pos rfl]at hy;have:(3:Int)=2:=hy;omega
 have l0:Iv t b (AK b.lines)=Gn t (AJ b b.lines) (AK b.lines):=by rw[lY,Mg,f0];rfl
 rw[l0]at h4
 have hs:Gn t (AJ b b.lines) (A7 k b.lines)=Gn t (AJ b b.lines) (AK b.lines):=rfl
 have hf:=Iw (t:=t) (m:=b.bt) hk hon h4
 have hF:(Gp t (AJ b b.lines) (A7 k b.lines) !=0)=true:=by
  have e:gC t (AJ b b.lines).bt (tV t (AJ b b.lines) (A7 k b.lines))=gC t b.bt (zk (Gn t (AJ b b.lines) (AK b.lines)) (2^k)):=rfl
  unfold Gp;rw[e]
  have hne:(gC t b.bt (zk (Gn t (AJ b b.lines) (AK b.lines)) (2^k))==0)=false:=by
   simpa[Gn]using hf
  rw[hne,Bool.false_and,if_neg (by decide)]
  exact hf
 have eX2:yC t b (A7 k b.lines)=⟨3,0,Gp t (AJ b b.lines) (A7 k b.lines),kY t,lN,b.lines,IntKind.i64.wrap (b.tick+1)⟩:=by rw[eX,KS,hF];rfl
 refine⟨_,by simpa using hF,eX2,by rw[lX,Mg,hF];rfl,?_⟩
 rw[SW,eX2,O8 hk hb.lns];simp[eH,uQ,hm]
theorem JH{l:List Int} (h:l.length=8):bZ [.i,.i,.i,.i,.i,.i,.i,.i] (l.map I) (l.map I)=some true:=by
 have:=Hw l l 8 [] [] [] h h
 simp only[List.append_nil]at this
 rw[show([.i,.i,.i,.i,.i,.i,.i,.i]:List CK)=List.replicate 8 .i from rfl,this]
 simp[bZ]
theorem Dz(t:Tb):(fe t).length=8:=by simp[fe,fc]
theorem KT(t:Tb) (b:Bx) (x:Fr):(Mg t b x).length=8:=by
 rcases bf (Gp t b x !=0)with h|h
 ·rw[Mg,h];exact kE _
 ·rw[Mg,h];exact Dz t
def Iy.Spec(C:aS) (f:Nat):Prop:=∀t:Tb,t.Ok->C.c f [.agg t.cells] (.agg ((fe t).map I)) none
def A8.Spec(C:aS) (f:Nat):Prop:=∀(l sc:Option (List Int)) (p:Int),C.c f [aH aD l,aH aD sc,I p] (B true) none
section
variable{P:Program} (hm:P.follows .mixedOrders=true) {f:Nat}
include hm
theorem Iy.ok(hc:bF P f=some pJ):Iy.Spec (Pure P) f:=by
 intro t ht
 have hl:=Tb.len ht
 have hfl:=SN ht.ln
 have h8:∀k,((fc t k).map I).length=8:=fun k=>by simp[fc]
 have hw:ay ((fc t 8).map I) 0 (some 8)=some (.agg ((fc t 8).map I)):=rfl
 have hz:setCells [I 0,I 0,I 0,I 0,I 0,I 0,I 0,I 0] 0 ((fc t 8).map I)=(fc t 8).map I:=rfl
 have h0:(fc t 0).map I=[I 0,I 0,I 0,I 0,I 0,I 0,I 0,I 0]:=rfl
 refine ak hm hc (by show 1<=24;decide) (aj (keep:=[]) (i:=0) ?_)
 try simp only[I,B,D,RY,↓KW,seval,pJ,Z.H,hl,hfl,h8,hw,hz]
 refine aG (fun k:Nat=>(⟨[(4,.dat (I k) none),(1,.ptr 4 0),(3,.ptr 6 0),(2,.ptr 5 0)],[(4,⟨t.cells,[]⟩),(6,⟨(fc t k).map I,[]⟩),(5,⟨[I 0,I 0,I 0,I 0,I 0,I 0,I 0,I 0],[]⟩)],[],400⟩:S)) (fun k=>8-k) (fun k=>k<=8) ?_ 0 (by omega) ?_
 rotate_left
 ·refine ai (by decide) ?_ ?_ ?_ ?_<;>simp[LX,I,B,D,h0]
 intro k hk A back
 have hwr:=aB (k:=k) (by omega)
 rcases bf (decide ((k:Int)<8))with h|h
 ·have:k=8:=by have:=of_decide_eq_false h;omega
  subst this;try simp only[I,B,D,RY,↓KW,seval,h,hl,hfl,h8,hw,hz]
  try rfl
 ·have h8k:k<8:=by have:=of_decide_eq_true h;omega
  have hb:0<=(k:Int)/\(k:Int)<8:=by omega
  have hk7:k<=7:=by omega
  have hat:t.cells[121+k]? =some (I (nk t k)):=by
   rw[kG hfl h8k]
   have:=ht.cB
   rw[List.getElem?_map,List.getElem?_eq_getElem (by omega)]
   simp[nk,this,h8k]
  have hnx:=Cy t h8k
  have hkp:=Cz t h8k
  have hpa:Cx t k=if nk t k==1 then 33 else if nk t k==2 then 34 else 0:=rfl
  have hex:(nk t k==1)=true->(nk t k==2)=false:=by
   intro h
   have h1:nk t k=1:=by simpa using h
   rw[h1];rfl
  generalize nk t k=v at*;generalize Cx t k=w at*
  rcases bf (v==1)with e1|e1
  ·rcases bf (v==2)with e2|e2
   all_goals
    simp only[e1,e2,if_true,if_false,Bool.false_eq_true]at hpa
    (subst hpa)
    try simp only[I,B,D,RY,↓KW,seval,h,hb,hk7,hat,e1,e2,hl,hfl,h8,hw,hz]
    first
     |refine back (k+1) _ (by omega) (by omega) ?_
     |refine⟨by omega,back (k+1) _ (by omega) (by omega) ?_⟩
   ·have hkp:=hkp rfl
    refine ai (by decide) ?_ ?_ ?_ ?_<;>simp[LX,I,B,D,hkp,hwr]
   ·refine ai (by decide) ?_ ?_ ?_ ?_<;>simp[LX,I,B,D,hnx,hwr]
  ·have e2:=hex e1
   simp only[e1,e2,if_true,if_false,Bool.false_eq_true]at hpa
   (subst hpa)
   try simp only[I,B,D,RY,↓KW,seval,h,hb,hk7,hat,e1,e2,hl,hfl,h8,hw,hz]
   first
    |refine back (k+1) _ (by omega) (by omega) ?_
    |refine⟨by omega,back (k+1) _ (by omega) (by omega) ?_⟩
   refine ai (by decide) ?_ ?_ ?_ ?_<;>simp[LX,I,B,D,hnx,hwr]
theorem A8.ok{fT fC fP fB fS fA e fO fR:Nat} (hc:bF P f=some (gM fT fC fP fB fS fA e fO fR)) (hT:Table.Spec (Pure P) fT) (hC:Dj.Spec (Pure P) fC) (hP:Place.Spec (Pure P) fP) (hB:uF.Spec (Pure P) fB) (hS:Dx.Spec (Pure P) fS) (hA:xL.Spec (Pure P) fA) (hO:zP.Spec (Pure P) fO) (hR:Iy.Spec (Pure P) fR):A8.Spec (Pure P) f:=by
 intro l sc p
 have hti:=Mh.table l
 obtain⟨t,ht0⟩:∃t,gh l=t:=⟨_,rfl⟩
 obtain⟨fo,hf0⟩:∃x,dH (qH false (sc.getD []))=x:=⟨_,rfl⟩
 have hf1:fo.getD []=qH false (sc.getD []):=by rw[<-hf0,dV]
 have hfew:Few (fo.getD []):=by rw[hf1];exact JD _ _
 have hfl:(fo.getD []).length<=1500:=by rw[hf1];exact JE _ _
 have cT:=hT l
 rw[ht0]at cT hti
 have cC:=hC sc false
 rw[hf0]at cC
 have ht:=hti.tok
 have hpr:=Hu (v:=p) (n:=8) (by decide) (by decide)
 have cP:=hP p 8 (by decide)
 obtain⟨k,hk⟩:∃k:Nat,place p 8=k:=⟨(place p 8).toNat,by omega⟩
 rw[hk]at cP hpr
 have hk8:k<8:=by omega
 have htl:=Tb.len ht
 have htw:=Tb.whole ht
 have z1:dJ.length=131:=rfl
 have z2:setCells dJ 0 t.cells=t.cells:=bk (by rw[htl];rfl)
 have hinv:=fun i (h:i<=(fo.getD []).length)=>Inv.run hti hfew i h
 have z3:az.length=138:=rfl
 have bl:∀b:Bx,b.Ok->b.cells.length=138:=fun b h=>Bx.len h
 clear ht0 hf0 hf1
 have faA:=And.intro htl (And.intro htw (And.intro z1 (And.intro z2 (z3))))
 refine ak hm hc (by show 3<=135;decide) (aj (keep:=[]) (i:=0) ?_)
 try simp only[I,B,D,RY,↓KW,seval,gM,Z.H,faA]
 refine af cT ?_;try simp only[I,B,D,RY,↓KW,seval,faA]
 refine af cC ?_;try simp only[I,B,D,RY,↓KW,seval,faA]
 refine af cP ?_;try simp only[I,B,D,RY,↓KW,seval,faA]
 have bok0:(y8 t).Ok:=AZ t
 have b0:=Bx.len bok0
 have b1:=Bx.whole bok0
 have b2:setCells az 0 (y8 t).cells=(y8 t).cells:=bk (by rw[b0];rfl)
 refine af (hB t ht) ?_;try simp only[I,B,D,RY,↓KW,seval,b0,b1,b2,faA]
 refine aG (fun i:Nat=>(⟨[(11,.dat (I i) none),(8,.dat (aH Fr.cells fo) none),(7,.ptr 7 0),(10,.ptr 17 0),(9,.dat (I k) none)],[(7,⟨t.cells,[]⟩),(17,⟨(Wj t (fo.getD []) i).cells,[]⟩)],[],400⟩:S)) (fun i=>1500-i) (fun i=>i<=(fo.getD []).length) ?_ 0 (by omega) ?_
 rotate_left
 ·refine ai (by decide) ?_ ?_ ?_ ?_<;>simp[LX,I,B,D,Wj]
 intro i hi A back
 have hwr:=aB (k:=i) (by omega)
 have hI:=hinv i hi
 have hnx:Wj t (fo.getD []) (i+1)=yC t (Wj t (fo.getD []) i) ((fo.getD []).getD i default):=rfl
 have hI2:=hinv (i+1)
 generalize Wj t (fo.getD []) i=b at*
 have b3:=Bx.len hI.IG
 have b4:=Bx.whole hI.IG
 rcases bf (decide ((i:Int)<((fo.getD []).length:Int)))with h|h
 ·have b5:b.cells[0]? =some (I b.mode):=rfl
  have b6:=(Bx.jP hI.IG).1
  have b7:=(Bx.jP hI.IG).2
  try simp only[I,B,D,RY,↓KW,seval,h,b3,b4,b5,b6,faA]
  rcases bf (b.mode !=2)with hm2|hm2
  rotate_left
  ·try simp only[I,B,D,RY,↓KW,seval,hm2,faA]
   refine af hA ?_;try simp only[I,B,D,RY,↓KW,seval,faA]
  have hmode:b.mode=2:=by simpa using hm2
  have hph:t.phases[k]? =some (aX t k):=by rw[List.getElem?_eq_getElem (by rw[ht.phases];exact hk8)];simp[aX,ht.phases,hk8]
  have hon:=(Tb.yS hph).1
  have hkb:0<=(k:Int)/\(k:Int)<8:=by omega
  have hk13:k*13<=118:=by omega
  have hk7:k<=7:=by omega
  rcases bf (aX t k).on with ho|ho
  ·try simp only[I,B,D,RY,↓KW,seval,hm2,hon,ho,hkb,hk13,hk7,faA]
   refine af hA ?_;try simp only[I,B,D,RY,↓KW,seval,faA]
  have cO:=hO (some [(k:Int)]) (by simp)
  simp only[bA,aD,List.map_cons,List.map_nil,Option.getD_some]at cO;rw[Wk hk8]at cO
  have iX:=hI.ins hti (x:=A7 k b.lines) (by simp[A7])
  have iY:=hI.ins hti (x:=AK b.lines) (by simp[AK])
  have cX:=hS t b (A7 k b.lines) iX
  have cY:=hS t b (AK b.lines) iY
  rw[nA]at cX cY
  have eX:(A7 k b.lines).cells=[.aL,.int .i64 0,.int .i64 0,.int .i64 b.lines,.int .i64 (2^k),.bool false]:=rfl
  have eY:(AK b.lines).cells=[.aL,.int .i64 0,.int .i64 0,.int .i64 b.lines,.int .i64 0,.bool false]:=rfl
  rw[eX]at cX;rw[eY]at cY
  have oX:=JG iX
  have oY:=JG iY
  have hlaw:=fun h1 h2=>Mk hI hmode hk8 ho h1 h2
  have hlen:∀x,(Iv t b x).length=8:=fun x=>by
   unfold Iv;split
   ·rfl
   ·first|exact KT .. |(split<;>first|exact KT .. |exact Dz t)
  have lX:=hlen (A7 k b.lines)
  have lY:=hlen (AK b.lines)
  generalize yC t b (A7 k b.lines)=BX at*;generalize yC t b (AK b.lines)=BY at*;generalize Iv t b (A7 k b.lines)=LX1 at*;generalize Iv t b (AK b.lines)=LY1 at*;generalize SW t b (A7 k b.lines)=EX at*;generalize SW t b (AK b.lines)=EY at*
  have v1:=Bx.len oX
  have v2:setCells az 0 BX.cells=BX.cells:=bk (by rw[v1];rfl)
  have v3:=Bx.len oY
  have v4:setCells az 0 BY.cells=BY.cells:=bk (by rw[v3];rfl)
  have v5:(LX1.map I).length=8:=by simp[lX]
  have v6:setCells [.int .i64 0,.int .i64 0,.int .i64 0,.int .i64 0,.int .i64 0,.int .i64 0,.int .i64 0,.int .i64 0] 0 (LX1.map I)=LX1.map I:=bk (by rw[v5];rfl)
  have v7:(LY1.map I).length=8:=by simp[lY]
  have v8:setCells [.int .i64 0,.int .i64 0,.int .i64 0,.int .i64 0,.int .i64 0,.int .i64 0,.int .i64 0,.int .i64 0] 0 (LY1.map I)=LY1.map I:=bk (by rw[v7];rfl)
  have v9:BY.cells[0]? =some (I BY.mode):=rfl
  have v10:(LY1.map I)[k]? =some (I (lD LY1 k)):=Oh lY hk8
  have faA2:=And.intro hm2 (And.intro hon (And.intro ho (And.intro hkb (And.intro hk13 (And.intro hk7 (And.intro b3 (And.intro b4 (And.intro b5 (And.intro b6 (And.intro v1 (And.intro v2 (And.intro v3 (And.intro v4 (And.intro v5 (And.intro v6 (And.intro v7 (And.intro v8 (And.intro v9 (And.intro v10 (faA))))))))))))))))))))
  try simp only[I,B,D,RY,↓KW,seval,faA2]
  refine af cO ?_;try simp only[I,B,D,RY,↓KW,seval,faA2]
  refine af cX ?_;try simp only[I,B,D,RY,↓KW,seval,faA2]
  refine af cY ?_;try simp only[I,B,D,RY,↓KW,seval,faA2]
  rcases bf (BY.mode !=2)with y1|y1
  rotate_left
  ·try simp only[I,B,D,RY,↓KW,seval,y1,faA2]
   refine af hA ?_;try simp only[I,B,D,RY,↓KW,seval,faA2]
  rcases bf (dw .i64 (lD LY1 k) 4 !=0)with y2|y2
  rotate_left
  ·try simp only[I,B,D,RY,↓KW,seval,y1,y2,faA2]
   refine af hA ?_;try simp only[I,B,D,RY,↓KW,seval,faA2]
  obtain⟨F,hF,rfl,rfl,rfl⟩:=hlaw (by simpa using y1) (by simpa using y2)
  have hF2:(F !=0)=true:=by simpa using hF
  have w1:=(Bx.jP oX).2
  have w2:=JH (Dz t)
  have w3:∀x y z:Int,bZ [.i,.i,.i] [.int .i64 x,.int .i64 y,.int .i64 z] [.int .i64 x,.int .i64 y,.int .i64 z]=some true:=fun _ _ _=>by simp[bZ,pU]
  have w4:(Bx.mk 3 0 F (kY t) lN b.lines (IntKind.i64.wrap (b.tick+1))).cells[0]? =some (I 3):=rfl
  have w5:(Bx.mk 3 0 F (kY t) lN b.lines (IntKind.i64.wrap (b.tick+1))).cells[2]? =some (I F):=rfl
  have w6:ay ((fe t).map I) 0 (some 8)=some (.agg ((fe t).map I)):=rfl
  try simp only[I,B,D,RY,↓KW,seval,y1,y2,w1,w2,w3,w4,w5,w6,hF2,Gq,uD,List.map_cons,List.map_nil,faA2]
  refine af (hR t ht) ?_
  have w7:(true !=false)=true:=rfl
  try simp only[I,B,D,RY,↓KW,seval,y1,y2,w1,w2,w3,w4,w5,w6,w7,hF2,Gq,uD,List.map_cons,List.map_nil,faA2]
  refine af hA ?_;try simp only[I,B,D,RY,↓KW,seval,y1,y2,w1,w2,w3,w4,w5,w6,w7,hF2,Gq,uD,List.map_cons,List.map_nil,faA2]
 ·have h1:i<(fo.getD []).length:=by have:=of_decide_eq_true h;omega
  obtain⟨x,hx⟩:∃x,(fo.getD [])[i]? =some x:=⟨_,List.getElem?_eq_getElem h1⟩
  have hxd:(fo.getD []).getD i default=x:=by rw[List.getD_eq_getElem?_getD,hx];rfl
  have hxs:(x.samples.getD []).length<=1000000:=hfew x (List.mem_of_getElem? hx)
  rw[hxd]at hnx
  have cS:=hS t b x (hI.ins hti hxs)
  rw[nA]at cS
  have hI3:=hI2 (by omega)
  rw[hnx]at hI3
  have c1:=Bx.len hI3.IG
  have c2:setCells b.cells 0 (yC t b x).cells=(yC t b x).cells:=bk (by rw[b3,c1])
  have hb:0<=(i:Int)/\(i:Int)<((fo.getD []).length:Int):=by omega
  obtain⟨g1,g2,g3,g4,g5⟩:=Pk x;try simp only[I,B,D,RY,↓KW,seval,h,hb,hx,b3,b4,g1,g2,faA]
  refine af cS ?_;try simp only[I,B,D,RY,↓KW,seval,c1,c2,b3,faA]
  refine back (i+1) _ (by omega) (by omega) ?_
  refine ai (by decide) ?_ ?_ ?_ ?_<;>simp[LX,I,B,D,hwr,hnx]
end
end Go.Eng
