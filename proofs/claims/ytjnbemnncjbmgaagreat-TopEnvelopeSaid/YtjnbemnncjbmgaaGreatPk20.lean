/- Part 20 of the engine and its library. -/
import Derived.Test.YtjnbemnncjbmgaaGreatPk19
set_option linter.all false
set_option maxRecDepth 10000
set_option maxHeartbeats 4000000
namespace Go.Eng
open Go
section
variable (t:Tb) (C:aT) (b:Bx) (x:Fr) (f:Nat) (lines ln:Int)
def uL(l:List (Bool×Int×Int×Int)):List (Int×Int×Int):=(l.filter (·.1)).map (·.2)
def Pb(l:List (Int×Int×Int)):AV:=if l=[]then .aZ else .sl (l.map Dw)
def Kb:Bool:=xx x.fm
def gE:Fr:=if Kb x then x else⟨none,0,0,lines,0,false⟩
theorem yP:(FA x.fm lines).cells=(gE x lines).cells:=by
 unfold FA gE Kb;cases xx x.fm
 ·rfl
 ·exact Fr.xP x
def jL(n:Int):Int:=gM n 0 9999+1
structure aoV where
 b:Bx
 l:List Int
 ev:List (Int×Int×Int)
def rdL:List Int:=List.replicate 8 1
theorem LP:rdL.map I=I0:=rfl
def yY:Bx:=if decide (t.start<=jL b.time)then⟨2,0,b.fault,b.st,b.cH,ln,IntKind.i64.wrap (b.tick+1)⟩else⟨b.mode,jL b.time,b.fault,b.st,b.cH,ln,IntKind.i64.wrap (b.tick+1)⟩
def yZ(reset:Bool):Bx:=if decide (t.least<=jL b.time)&&reset then⟨1,0,0,b.st,b.cH,ln,IntKind.i64.wrap (b.tick+1)⟩else⟨b.mode,jL b.time,b.fault,b.st,b.cH,ln,IntKind.i64.wrap (b.tick+1)⟩
def gk(L:Bool) (b D:Bx):List (Int×Int×Int):=
 uL [(!L,D.tick,5,0),(b.mode==2&&D.mode==3,D.tick,2,D.fault),(D.mode !=b.mode,D.tick,1,D.mode),((b.mode==2&&D.mode==2)&&D.st.pre.ax !=b.st.pre.ax,D.tick,3,D.st.pre.ax),((b.mode==2&&D.mode==2)&&D.st.rings.group !=b.st.rings.group,D.tick,4,D.st.rings.group)]
def lX(D:Bx) (l:List Int) (ev:List (Int×Int×Int)):AV:=.dP [.agg D.cells,.agg (l.map I),Pb ev]
def LQ.Spec:Prop:=∀(t:Tb) (b:Bx) (x:Fr),t.Ok->b.Ok->b.mode=1->C.c f [.agg t.cells,.agg b.cells,.agg x.cells] (lX (yY t b (gE x b.lines).lines) rdL (gk (Kb x) b (yY t b (gE x b.lines).lines))) none
def LR.Spec:Prop:=∀(t:Tb) (b:Bx) (x:Fr),t.Ok->b.Ok->b.mode=3->C.c f [.agg t.cells,.agg b.cells,.agg x.cells] (lX (yZ t b (gE x b.lines).lines (gE x b.lines).reset) (gS t) (gk (Kb x) b (yZ t b (gE x b.lines).lines (gE x b.lines).reset))) none
theorem Ya{t:Tb} (h:t.Ok):t.cells[120]? =some (I t.least):=Tb.tail_at h 4 ado
theorem bxF{st:bD} {cH:Mn} (M:st.Ok) (O:cH.Ok):
  (∀m D L ln tk,(Bx.mk m D L st cH ln tk).cells.length=138)/\(∀m D L ln tk,aB (Bx.mk m D L st cH ln tk).cells 0 (some 138)=some (.agg (Bx.mk m D L st cH ln tk).cells))/\
  (∀m D L ln tk,(Bx.mk m D L st cH ln tk).cells[0]? =some (I m))/\(∀m D L ln tk,(Bx.mk m D L st cH ln tk).cells[1]? =some (I D))/\(∀m D L ln tk,(Bx.mk m D L st cH ln tk).cells[2]? =some (I L))/\
  (∀m D L ln tk,(Bx.mk m D L st cH ln tk).cells[136]? =some (I ln))/\(∀m D L ln tk,(Bx.mk m D L st cH ln tk).cells[137]? =some (I tk))/\(∀m D L ln tk,(Bx.mk m D L st cH ln tk).cells[109]? =some (I st.pre.ax))/\(∀m D L ln tk,(Bx.mk m D L st cH ln tk).cells[99]? =some (I st.rings.group))/\
  (∀m D L ln tk v,setCells (Bx.mk m D L st cH ln tk).cells 0 [I v]=(Bx.mk v D L st cH ln tk).cells)/\(∀m D L ln tk v,setCells (Bx.mk m D L st cH ln tk).cells 1 [I v]=(Bx.mk m v L st cH ln tk).cells)/\(∀m D L ln tk v,setCells (Bx.mk m D L st cH ln tk).cells 2 [I v]=(Bx.mk m D v st cH ln tk).cells)/\
  (∀m D L ln tk v,setCells (Bx.mk m D L st cH ln tk).cells 136 [I v]=(Bx.mk m D L st cH v tk).cells)/\(∀m D L ln tk v,setCells (Bx.mk m D L st cH ln tk).cells 137 [I v]=(Bx.mk m D L st cH ln v).cells)/\(∀m D L ln tk,setCells aD 0 (Bx.mk m D L st cH ln tk).cells=(Bx.mk m D L st cH ln tk).cells):=by
 have ok:∀m D L ln tk,(Bx.mk m D L st cH ln tk).Ok:=λ_ _ _ _ _=>⟨M,O⟩
 exact⟨λ_ _ _ _ _=>Bx.len (ok ..),λ_ _ _ _ _=>Bx.whole (ok ..),λ_ _ _ _ _=>rfl,λ_ _ _ _ _=>rfl,λ_ _ _ _ _=>rfl,λm D L ln tk=>(Bx.FB (ok m D L ln tk)).1,λm D L ln tk=>(Bx.FB (ok m D L ln tk)).2,λm D L ln tk=>Bx.Xu (ok m D L ln tk),λm D L ln tk=>Bx.Xv (ok m D L ln tk),
  λ_ _ _ _ _ _=>rfl,λ_ _ _ _ _ _=>rfl,λ_ _ _ _ _ _=>rfl,λm D L ln tk v=>(Bx.xd (ok m D L ln tk) v).1,λm D L ln tk v=>(Bx.xd (ok m D L ln tk) v).2,λ_ _ _ _ _=>aM (by rw[Bx.len (ok ..)];rfl)⟩
theorem Pc:x.cells.length=6/\aB x.cells 0 (some 6)=some (.agg x.cells)/\x.cells[3]? =some (I x.lines)/\x.cells[5]? =some (B x.reset)/\∀y:Fr,setCells x.cells 0 y.cells=y.cells:=⟨rfl,rfl,rfl,rfl,λ_=>rfl⟩
end
section
variable{P:Program} (hm:P.follows .mixedOrders=true) {f:Nat}
include hm
section
variable {e f1 fC fG fM fP fR fT:Nat}
theorem LQ.ok(hc:qE true P f=some (br fG fC fP fR fM fT f1)) (hG:rY.Spec (Pure P) fG) (hC:lK.Spec (Pure P) fC) (hP:pZ.Spec (Pure P) fP) (hR:Dx.Spec (Pure P) fR) (hM:xy.Spec (Pure P) fM) (h0:uF.Spec (Pure P) f1) (hN:uI.Spec (Pure P) e f1) (hF:uJ.Spec (Pure P) e f1) (hJ:uK.Spec (Pure P) e f1):LQ.Spec (Pure P) f:=by
 intro t b x ht hb V;obtain⟨m,M,L,st,cH,ln,tk⟩:=b;simp only at V;subst V
 have hl:=Tb.len ht
 have hp:=Tb.whole ht
 have aa:=ak7 ht
 have R:=hG x.fm
 have cC:=hC x.fm ln
 rw[yP]at cC;rw[Fr.xP]at R cC
 have ae:xx x.fm=Kb x:=rfl
 rw[ae]at R
 have cP:=hP t ht
 have cM:=hM M
 have ad:gM M 0 9999+1=jL M:=rfl
 rw[ad]at cM
 have A9:∀m M L ln tk,(Bx.mk m M L st cH ln tk).Ok:=λ_ _ _ _ _=>⟨hb.st,hb.cH⟩
 obtain⟨c1,c2,c3,c4,c5,c6,c7,c8,c9,d0,d1,d2,d3,d4,d5⟩:=bxF hb.st hb.cH;obtain⟨ab,f2,f3,f4,f5⟩:=Pc x
 obtain⟨g1,g2,g3,g4,g5⟩:=Pc (gE x ln)
 have d6:aD.length=138:=rfl
 have p1:((gS t).map I).length=8:=by simp[gS,je]
 have p2:setCells [.int .i64 0,.int .i64 0,.int .i64 0,.int .i64 0,.int .i64 0,.int .i64 0,.int .i64 0,.int .i64 0] 0 ((gS t).map I)=(gS t).map I:=aM (by rw[p1];rfl)
 have p3:setCells ((gS t).map I) 0 I0=I0:=rfl
 have p4:I0.length=8:=rfl
 have p5:aB I0 0 (some 8)=some (.agg I0):=rfl
 have p6:setCells [.int .i64 0,.int .i64 0,.int .i64 0,.int .i64 0,.int .i64 0,.int .i64 0,.int .i64 0,.int .i64 0] 0 I0=I0:=rfl
 have ac:yY t ⟨1,M,L,st,cH,ln,tk⟩ (gE x ln).lines=if decide (t.start<=jL M)then⟨2,0,L,st,cH,(gE x ln).lines,IntKind.i64.wrap (tk+1)⟩else⟨1,jL M,L,st,cH,(gE x ln).lines,IntKind.i64.wrap (tk+1)⟩:=rfl
 show(Pure P).c f _ (lX (yY t ⟨1,M,L,st,cH,ln,tk⟩ (gE x ln).lines) rdL (gk (Kb x) ⟨1,M,L,st,cH,ln,tk⟩ (yY t ⟨1,M,L,st,cH,ln,tk⟩ (gE x ln).lines))) none
 rw[ac];generalize gE x ln=y at*;generalize jL M=v at*
 have D:=dC hl (dC hp (dC aa (dC c1 (dC c2 (dC c3 (dC c4 (dC c5 (dC c6 (dC c7 (dC c8 (dC c9 (dC d0 (dC d1 (dC d2 (dC d3 (dC d4 (dC d5 (dC d6 (dC ab (dC f2 (dC f3 (dC f4 (dC f5 (dC g1 (dC g2 (dC g3 (dC g4 (dC g5 (dC p1 (dC p2 (dC p3 (dC p4 (dC p5 (p6))))))))))))))))))))))))))))))))))
 rcases bf (Kb x)with hg|hg<;>rcases bf (decide (t.start<=v))with h|h
 ·rw[hg]at R
  have O:gk false ⟨1,M,L,st,cH,ln,tk⟩ (Bx.mk 1 v L st cH y.lines (IntKind.i64.wrap (tk+1)))=[((IntKind.i64.wrap (tk+1)),5,0)]:=by simp[gk,uL]
  simp only[hg,h,il,eQ];rw[O];simp only[lX,Pb,kr,mr,reduceCtorEq,il];rw[LP];refine aq hm hc [] rfl ?_;try simp only[RY,dh,↓KW,seval,br,Z.H,D]
  first|refine af R ?_|refine aN R ?_
  try simp only[I,B,RY,dh,↓KW,↓dQ,seval,D]
  first|refine af cC ?_|refine aN cC ?_
  try simp only[I,RY,dh,↓KW,↓dQ,seval,D]
  first|refine af cP ?_|refine aN cP ?_
  try simp only[I,RY,dh,↓KW,↓dQ,seval,D]
  first|refine af hR ?_|refine aN hR ?_
  try simp only[I,RY,dh,↓KW,↓dQ,seval,D]
  first|refine af cM ?_|refine aN cM ?_
  try simp only[I,RY,dh,gm,↓KW,↓dQ,seval,h,D]
  refine⟨rfl,d7 (hF (Bx.mk 1 v L st cH y.lines (IntKind.i64.wrap (tk+1))).cells (IntKind.i64.wrap (tk+1)) 5 0 (c7 ..)) ?_⟩;try simp only[I,RY,jg,dh,gm,↓KW,↓dQ,seval,D]
  refine⟨rfl,aJ (hN (.sl [gI (IntKind.i64.wrap (tk+1)) 5 0]) (Bx.mk 1 v L st cH y.lines (IntKind.i64.wrap (tk+1))).cells 2 L) rfl rfl rfl rfl ?_⟩;try simp only[I,RY,jg,dh,gm,↓KW,↓dQ,seval,D]
  refine⟨rfl,aJ (hN (.sl [gI (IntKind.i64.wrap (tk+1)) 5 0]) (Bx.mk 1 v L st cH y.lines (IntKind.i64.wrap (tk+1))).cells 1 1) rfl rfl rfl rfl ?_⟩;try simp only[I,RY,jg,dh,gm,↓KW,↓dQ,seval,D]
  refine⟨rfl,aJ (hN (.sl [gI (IntKind.i64.wrap (tk+1)) 5 0]) (Bx.mk 1 v L st cH y.lines (IntKind.i64.wrap (tk+1))).cells 3 st.pre.ax) rfl rfl rfl rfl ?_⟩;try simp only[I,RY,jg,dh,gm,↓KW,↓dQ,seval,D]
  refine⟨rfl,aJ (hN (.sl [gI (IntKind.i64.wrap (tk+1)) 5 0]) (Bx.mk 1 v L st cH y.lines (IntKind.i64.wrap (tk+1))).cells 4 st.rings.group) rfl rfl rfl rfl ?_⟩;try simp only[RY,jg,seval]
  refine ep rfl ?_;try simp only[I,RY,↓KW,seval,Dw,gI,D]
 ·rw[hg]at R
  have O:gk false ⟨1,M,L,st,cH,ln,tk⟩ (Bx.mk 2 0 L st cH y.lines (IntKind.i64.wrap (tk+1)))=[((IntKind.i64.wrap (tk+1)),5,0),((IntKind.i64.wrap (tk+1)),1,2)]:=by simp[gk,uL]
  simp only[hg,h,kw];rw[O];simp only[lX,Pb,kr,mr,reduceCtorEq,il];rw[LP];refine aq hm hc [] rfl ?_;try simp only[RY,dh,↓KW,seval,br,Z.H,D]
  first|refine af R ?_|refine aN R ?_
  try simp only[I,B,RY,dh,↓KW,↓dQ,seval,D]
  first|refine af cC ?_|refine aN cC ?_
  try simp only[I,RY,dh,↓KW,↓dQ,seval,D]
  first|refine af cP ?_|refine aN cP ?_
  try simp only[I,RY,dh,↓KW,↓dQ,seval,D]
  first|refine af hR ?_|refine aN hR ?_
  try simp only[I,RY,dh,↓KW,↓dQ,seval,D]
  first|refine af cM ?_|refine aN cM ?_
  try simp only[I,RY,dh,gm,↓KW,↓dQ,seval,h,D]
  refine⟨rfl,d7 (hF (Bx.mk 2 0 L st cH y.lines (IntKind.i64.wrap (tk+1))).cells (IntKind.i64.wrap (tk+1)) 5 0 (c7 ..)) ?_⟩;try simp only[I,RY,jg,dh,gm,↓KW,↓dQ,seval,D]
  refine⟨rfl,aJ (hN (.sl [gI (IntKind.i64.wrap (tk+1)) 5 0]) (Bx.mk 2 0 L st cH y.lines (IntKind.i64.wrap (tk+1))).cells 2 L) rfl rfl rfl rfl ?_⟩;try simp only[I,RY,jg,dh,gm,↓KW,↓dQ,seval,D]
  refine⟨rfl,aJ (hJ [gI (IntKind.i64.wrap (tk+1)) 5 0] (Bx.mk 2 0 L st cH y.lines (IntKind.i64.wrap (tk+1))).cells (IntKind.i64.wrap (tk+1)) 1 2 (c7 ..) adI (by simp[gI])) rfl rfl rfl rfl ?_⟩
  try simp only[I,RY,jg,dh,gm,↓KW,↓dQ,seval,D]
  refine⟨rfl,aJ (hN (.sl [gI (IntKind.i64.wrap (tk+1)) 5 0,gI (IntKind.i64.wrap (tk+1)) 1 2]) (Bx.mk 2 0 L st cH y.lines (IntKind.i64.wrap (tk+1))).cells 3 st.pre.ax) rfl rfl rfl rfl ?_⟩;try simp only[I,RY,jg,dh,gm,↓KW,↓dQ,seval,D]
  refine⟨rfl,aJ (hN (.sl [gI (IntKind.i64.wrap (tk+1)) 5 0,gI (IntKind.i64.wrap (tk+1)) 1 2]) (Bx.mk 2 0 L st cH y.lines (IntKind.i64.wrap (tk+1))).cells 4 st.rings.group) rfl rfl rfl rfl ?_⟩;try simp only[RY,jg,seval]
  refine ep rfl ?_;try simp only[I,RY,↓KW,seval,Dw,gI,D]
 ·rw[hg]at R
  have O:gk true ⟨1,M,L,st,cH,ln,tk⟩ (Bx.mk 1 v L st cH y.lines (IntKind.i64.wrap (tk+1)))=[]:=by simp[gk,uL]
  simp only[hg,h,il,eQ];rw[O];simp only[lX,Pb,mr,kw];rw[LP];refine aq hm hc [] rfl ?_;try simp only[RY,dh,↓KW,seval,br,Z.H,D]
  first|refine af R ?_|refine aN R ?_
  try simp only[I,B,RY,dh,↓KW,↓dQ,seval,D]
  first|refine af cC ?_|refine aN cC ?_
  try simp only[I,RY,dh,↓KW,↓dQ,seval,D]
  first|refine af cP ?_|refine aN cP ?_
  try simp only[I,RY,dh,↓KW,↓dQ,seval,D]
  first|refine af hR ?_|refine aN hR ?_
  try simp only[I,RY,dh,↓KW,↓dQ,seval,D]
  first|refine af cM ?_|refine aN cM ?_
  try simp only[I,RY,dh,gm,↓KW,↓dQ,seval,h,D]
  refine⟨rfl,aX (h0 .aZ (Bx.mk 1 v L st cH y.lines (IntKind.i64.wrap (tk+1))) 5 0 (A9 ..)) ?_⟩;try simp only[I,RY,dh,gm,↓KW,↓dQ,seval,D]
  refine⟨rfl,aX (h0 .aZ (Bx.mk 1 v L st cH y.lines (IntKind.i64.wrap (tk+1))) 2 L (A9 ..)) ?_⟩;try simp only[I,RY,dh,gm,↓KW,↓dQ,seval,D]
  refine⟨rfl,aX (h0 .aZ (Bx.mk 1 v L st cH y.lines (IntKind.i64.wrap (tk+1))) 1 1 (A9 ..)) ?_⟩;try simp only[I,RY,dh,gm,↓KW,↓dQ,seval,D]
  refine⟨rfl,aX (h0 .aZ (Bx.mk 1 v L st cH y.lines (IntKind.i64.wrap (tk+1))) 3 st.pre.ax (A9 ..)) ?_⟩;try simp only[I,RY,dh,gm,↓KW,↓dQ,seval,D]
  refine⟨rfl,aX (h0 .aZ (Bx.mk 1 v L st cH y.lines (IntKind.i64.wrap (tk+1))) 4 st.rings.group (A9 ..)) ?_⟩;try simp only[RY,seval]
  refine ep rfl ?_;try simp only[RY,↓KW,seval,D]
 ·rw[hg]at R
  have O:gk true ⟨1,M,L,st,cH,ln,tk⟩ (Bx.mk 2 0 L st cH y.lines (IntKind.i64.wrap (tk+1)))=[((IntKind.i64.wrap (tk+1)),1,2)]:=by simp[gk,uL]
  simp only[hg,h,kw];rw[O];simp only[lX,Pb,kr,mr,reduceCtorEq,il];rw[LP];refine aq hm hc [] rfl ?_;try simp only[RY,dh,↓KW,seval,br,Z.H,D]
  first|refine af R ?_|refine aN R ?_
  try simp only[I,B,RY,dh,↓KW,↓dQ,seval,D]
  first|refine af cC ?_|refine aN cC ?_
  try simp only[I,RY,dh,↓KW,↓dQ,seval,D]
  first|refine af cP ?_|refine aN cP ?_
  try simp only[I,RY,dh,↓KW,↓dQ,seval,D]
  first|refine af hR ?_|refine aN hR ?_
  try simp only[I,RY,dh,↓KW,↓dQ,seval,D]
  first|refine af cM ?_|refine aN cM ?_
  try simp only[I,RY,dh,gm,↓KW,↓dQ,seval,h,D]
  refine⟨rfl,aX (h0 .aZ (Bx.mk 2 0 L st cH y.lines (IntKind.i64.wrap (tk+1))) 5 0 (A9 ..)) ?_⟩;try simp only[I,RY,dh,gm,↓KW,↓dQ,seval,D]
  refine⟨rfl,aX (h0 .aZ (Bx.mk 2 0 L st cH y.lines (IntKind.i64.wrap (tk+1))) 2 L (A9 ..)) ?_⟩;try simp only[I,RY,dh,gm,↓KW,↓dQ,seval,D]
  refine⟨rfl,d7 (hF (Bx.mk 2 0 L st cH y.lines (IntKind.i64.wrap (tk+1))).cells (IntKind.i64.wrap (tk+1)) 1 2 (c7 ..)) ?_⟩;try simp only[I,RY,jg,dh,gm,↓KW,↓dQ,seval,D]
  refine⟨rfl,aJ (hN (.sl [gI (IntKind.i64.wrap (tk+1)) 1 2]) (Bx.mk 2 0 L st cH y.lines (IntKind.i64.wrap (tk+1))).cells 3 st.pre.ax) rfl rfl rfl rfl ?_⟩;try simp only[I,RY,jg,dh,gm,↓KW,↓dQ,seval,D]
  refine⟨rfl,aJ (hN (.sl [gI (IntKind.i64.wrap (tk+1)) 1 2]) (Bx.mk 2 0 L st cH y.lines (IntKind.i64.wrap (tk+1))).cells 4 st.rings.group) rfl rfl rfl rfl ?_⟩;try simp only[RY,jg,seval]
  refine ep rfl ?_;try simp only[I,RY,↓KW,seval,Dw,gI,D]
theorem LR.ok(hc:qE true P f=some (br fG fC fP fR fM fT f1)) (hG:rY.Spec (Pure P) fG) (hC:lK.Spec (Pure P) fC) (hP:pZ.Spec (Pure P) fP) (hM:xy.Spec (Pure P) fM) (h0:uF.Spec (Pure P) f1) (hN:uI.Spec (Pure P) e f1) (hF:uJ.Spec (Pure P) e f1) (hJ:uK.Spec (Pure P) e f1):LR.Spec (Pure P) f:=by
 intro t b x ht hb aa;obtain⟨m,R,L,st,cH,ln,tk⟩:=b;simp only at aa;subst aa
 have hl:=Tb.len ht
 have hp:=Tb.whole ht
 have ab:=Ya ht
 have O:=hG x.fm
 have V:=hC x.fm ln
 rw[yP]at V;rw[Fr.xP]at O V
 have ak:xx x.fm=Kb x:=rfl
 rw[ak]at O
 have cP:=hP t ht
 have cM:=hM R
 have ag:gM R 0 9999+1=jL R:=rfl
 rw[ag]at cM
 have A9:∀m R L ln tk,(Bx.mk m R L st cH ln tk).Ok:=λ_ _ _ _ _=>⟨hb.st,hb.cH⟩
 obtain⟨c1,c2,c3,c4,c5,c6,c7,c8,c9,d0,d1,d2,d3,d4,d5⟩:=bxF hb.st hb.cH;obtain⟨ac,f2,f3,f4,f5⟩:=Pc x
 obtain⟨g1,g2,g3,g4,g5⟩:=Pc (gE x ln)
 have d6:aD.length=138:=rfl
 have p1:((gS t).map I).length=8:=by simp[gS,je]
 have p2:setCells [.int .i64 0,.int .i64 0,.int .i64 0,.int .i64 0,.int .i64 0,.int .i64 0,.int .i64 0,.int .i64 0] 0 ((gS t).map I)=(gS t).map I:=aM (by rw[p1];rfl)
 have p3:setCells ((gS t).map I) 0 I0=I0:=rfl
 have p4:I0.length=8:=rfl
 have p5:aB I0 0 (some 8)=some (.agg I0):=rfl
 have p6:setCells [.int .i64 0,.int .i64 0,.int .i64 0,.int .i64 0,.int .i64 0,.int .i64 0,.int .i64 0,.int .i64 0] 0 I0=I0:=rfl
 have p7:aB ((gS t).map I) 0 (some 8)=some (.agg ((gS t).map I)):=rfl
 have ad:∀y:Fr,yZ t ⟨3,R,L,st,cH,ln,tk⟩ y.lines y.reset=if decide (t.least<=jL R)&&y.reset then⟨1,0,0,st,cH,y.lines,IntKind.i64.wrap (tk+1)⟩else⟨3,jL R,L,st,cH,y.lines,IntKind.i64.wrap (tk+1)⟩:=λ_=>rfl
 show(Pure P).c f _ (lX (yZ t ⟨3,R,L,st,cH,ln,tk⟩ (gE x ln).lines (gE x ln).reset) (gS t) (gk (Kb x) ⟨3,R,L,st,cH,ln,tk⟩ (yZ t ⟨3,R,L,st,cH,ln,tk⟩ (gE x ln).lines (gE x ln).reset))) none
 rw[ad];generalize gE x ln=y at*;generalize jL R=v at*
 obtain⟨rs,ae⟩:∃r,r=y.reset:=⟨_,rfl⟩
 rw[<-ae]at g4⊢
 have D:=dC hl (dC hp (dC ab (dC c1 (dC c2 (dC c3 (dC c4 (dC c5 (dC c6 (dC c7 (dC c8 (dC c9 (dC d0 (dC d1 (dC d2 (dC d3 (dC d4 (dC d5 (dC d6 (dC ac (dC f2 (dC f3 (dC f4 (dC f5 (dC g1 (dC g2 (dC g3 (dC g4 (dC g5 (dC p1 (dC p2 (p7)))))))))))))))))))))))))))))))
 rcases bf (Kb x)with hg|hg<;>rcases bf (decide (t.least<=v))with h|h<;>rcases bf rs with hr|hr
 ·rw[hg]at O
  rw[hr]at g4
  have M:gk false ⟨3,R,L,st,cH,ln,tk⟩ (Bx.mk 3 v L st cH y.lines (IntKind.i64.wrap (tk+1)))=[((IntKind.i64.wrap (tk+1)),5,0)]:=by simp[gk,uL]
  simp only[hg,h,hr,pm,il,eQ];rw[M];simp only[lX,Pb,kr,mr,reduceCtorEq,il];refine aq hm hc [] rfl ?_;try simp only[RY,dh,↓KW,seval,br,Z.H,D]
  first|refine af O ?_|refine aN O ?_
  try simp only[I,B,RY,dh,↓KW,↓dQ,seval,D]
  first|refine af V ?_|refine aN V ?_
  try simp only[I,RY,dh,↓KW,↓dQ,seval,D]
  first|refine af cP ?_|refine aN cP ?_
  try simp only[I,RY,dh,↓KW,↓dQ,seval,D]
  first|refine af cM ?_|refine aN cM ?_
  try simp only[I,RY,dh,gm,↓KW,↓dQ,seval,h,D]
  refine⟨rfl,d7 (hF (Bx.mk 3 v L st cH y.lines (IntKind.i64.wrap (tk+1))).cells (IntKind.i64.wrap (tk+1)) 5 0 (c7 ..)) ?_⟩;try simp only[I,RY,jg,dh,gm,↓KW,↓dQ,seval,D]
  refine⟨rfl,aJ (hN (.sl [gI (IntKind.i64.wrap (tk+1)) 5 0]) (Bx.mk 3 v L st cH y.lines (IntKind.i64.wrap (tk+1))).cells 2 L) rfl rfl rfl rfl ?_⟩;try simp only[I,RY,jg,dh,gm,↓KW,↓dQ,seval,D]
  refine⟨rfl,aJ (hN (.sl [gI (IntKind.i64.wrap (tk+1)) 5 0]) (Bx.mk 3 v L st cH y.lines (IntKind.i64.wrap (tk+1))).cells 1 3) rfl rfl rfl rfl ?_⟩;try simp only[I,RY,jg,dh,gm,↓KW,↓dQ,seval,D]
  refine⟨rfl,aJ (hN (.sl [gI (IntKind.i64.wrap (tk+1)) 5 0]) (Bx.mk 3 v L st cH y.lines (IntKind.i64.wrap (tk+1))).cells 3 st.pre.ax) rfl rfl rfl rfl ?_⟩;try simp only[I,RY,jg,dh,gm,↓KW,↓dQ,seval,D]
  refine⟨rfl,aJ (hN (.sl [gI (IntKind.i64.wrap (tk+1)) 5 0]) (Bx.mk 3 v L st cH y.lines (IntKind.i64.wrap (tk+1))).cells 4 st.rings.group) rfl rfl rfl rfl ?_⟩;try simp only[RY,jg,seval]
  refine ep rfl ?_;try simp only[I,RY,↓KW,seval,Dw,gI,D]
 ·rw[hg]at O
  rw[hr]at g4
  have M:gk false ⟨3,R,L,st,cH,ln,tk⟩ (Bx.mk 3 v L st cH y.lines (IntKind.i64.wrap (tk+1)))=[((IntKind.i64.wrap (tk+1)),5,0)]:=by simp[gk,uL]
  simp only[hg,h,hr,sh,il,eQ];rw[M];simp only[lX,Pb,kr,mr,reduceCtorEq,il];refine aq hm hc [] rfl ?_;try simp only[RY,dh,↓KW,seval,br,Z.H,D]
  first|refine af O ?_|refine aN O ?_
  try simp only[I,B,RY,dh,↓KW,↓dQ,seval,D]
  first|refine af V ?_|refine aN V ?_
  try simp only[I,RY,dh,↓KW,↓dQ,seval,D]
  first|refine af cP ?_|refine aN cP ?_
  try simp only[I,RY,dh,↓KW,↓dQ,seval,D]
  first|refine af cM ?_|refine aN cM ?_
  try simp only[I,RY,dh,gm,↓KW,↓dQ,seval,h,D]
  refine⟨rfl,d7 (hF (Bx.mk 3 v L st cH y.lines (IntKind.i64.wrap (tk+1))).cells (IntKind.i64.wrap (tk+1)) 5 0 (c7 ..)) ?_⟩;try simp only[I,RY,jg,dh,gm,↓KW,↓dQ,seval,D]
  refine⟨rfl,aJ (hN (.sl [gI (IntKind.i64.wrap (tk+1)) 5 0]) (Bx.mk 3 v L st cH y.lines (IntKind.i64.wrap (tk+1))).cells 2 L) rfl rfl rfl rfl ?_⟩;try simp only[I,RY,jg,dh,gm,↓KW,↓dQ,seval,D]
  refine⟨rfl,aJ (hN (.sl [gI (IntKind.i64.wrap (tk+1)) 5 0]) (Bx.mk 3 v L st cH y.lines (IntKind.i64.wrap (tk+1))).cells 1 3) rfl rfl rfl rfl ?_⟩;try simp only[I,RY,jg,dh,gm,↓KW,↓dQ,seval,D]
  refine⟨rfl,aJ (hN (.sl [gI (IntKind.i64.wrap (tk+1)) 5 0]) (Bx.mk 3 v L st cH y.lines (IntKind.i64.wrap (tk+1))).cells 3 st.pre.ax) rfl rfl rfl rfl ?_⟩;try simp only[I,RY,jg,dh,gm,↓KW,↓dQ,seval,D]
  refine⟨rfl,aJ (hN (.sl [gI (IntKind.i64.wrap (tk+1)) 5 0]) (Bx.mk 3 v L st cH y.lines (IntKind.i64.wrap (tk+1))).cells 4 st.rings.group) rfl rfl rfl rfl ?_⟩;try simp only[RY,jg,seval]
  refine ep rfl ?_;try simp only[I,RY,↓KW,seval,Dw,gI,D]
 ·rw[hg]at O
  rw[hr]at g4
  have M:gk false ⟨3,R,L,st,cH,ln,tk⟩ (Bx.mk 3 v L st cH y.lines (IntKind.i64.wrap (tk+1)))=[((IntKind.i64.wrap (tk+1)),5,0)]:=by simp[gk,uL]
  simp only[hg,h,hr,pm,il,eQ];rw[M];simp only[lX,Pb,kr,mr,reduceCtorEq,il];refine aq hm hc [] rfl ?_;try simp only[RY,dh,↓KW,seval,br,Z.H,D]
  first|refine af O ?_|refine aN O ?_
  try simp only[I,B,RY,dh,↓KW,↓dQ,seval,D]
  first|refine af V ?_|refine aN V ?_
  try simp only[I,RY,dh,↓KW,↓dQ,seval,D]
  first|refine af cP ?_|refine aN cP ?_
  try simp only[I,RY,dh,↓KW,↓dQ,seval,D]
  first|refine af cM ?_|refine aN cM ?_
  try simp only[I,B,RY,dh,gm,↓KW,↓dQ,seval,h,hr,D]
  refine⟨rfl,d7 (hF (Bx.mk 3 v L st cH y.lines (IntKind.i64.wrap (tk+1))).cells (IntKind.i64.wrap (tk+1)) 5 0 (c7 ..)) ?_⟩;try simp only[I,RY,jg,dh,gm,↓KW,↓dQ,seval,D]
  refine⟨rfl,aJ (hN (.sl [gI (IntKind.i64.wrap (tk+1)) 5 0]) (Bx.mk 3 v L st cH y.lines (IntKind.i64.wrap (tk+1))).cells 2 L) rfl rfl rfl rfl ?_⟩;try simp only[I,RY,jg,dh,gm,↓KW,↓dQ,seval,D]
  refine⟨rfl,aJ (hN (.sl [gI (IntKind.i64.wrap (tk+1)) 5 0]) (Bx.mk 3 v L st cH y.lines (IntKind.i64.wrap (tk+1))).cells 1 3) rfl rfl rfl rfl ?_⟩;try simp only[I,RY,jg,dh,gm,↓KW,↓dQ,seval,D]
  refine⟨rfl,aJ (hN (.sl [gI (IntKind.i64.wrap (tk+1)) 5 0]) (Bx.mk 3 v L st cH y.lines (IntKind.i64.wrap (tk+1))).cells 3 st.pre.ax) rfl rfl rfl rfl ?_⟩;try simp only[I,RY,jg,dh,gm,↓KW,↓dQ,seval,D]
  refine⟨rfl,aJ (hN (.sl [gI (IntKind.i64.wrap (tk+1)) 5 0]) (Bx.mk 3 v L st cH y.lines (IntKind.i64.wrap (tk+1))).cells 4 st.rings.group) rfl rfl rfl rfl ?_⟩;try simp only[RY,jg,seval]
  refine ep rfl ?_;try simp only[I,RY,↓KW,seval,Dw,gI,D]
 ·rw[hg]at O
  rw[hr]at g4
  have M:gk false ⟨3,R,L,st,cH,ln,tk⟩ (Bx.mk 1 0 0 st cH y.lines (IntKind.i64.wrap (tk+1)))=[((IntKind.i64.wrap (tk+1)),5,0),((IntKind.i64.wrap (tk+1)),1,1)]:=by simp[gk,uL]
  simp only[hg,h,hr,sh,kw];rw[M];simp only[lX,Pb,kr,mr,reduceCtorEq,il];refine aq hm hc [] rfl ?_;try simp only[RY,dh,↓KW,seval,br,Z.H,D]
  first|refine af O ?_|refine aN O ?_
  try simp only[I,B,RY,dh,↓KW,↓dQ,seval,D]
  first|refine af V ?_|refine aN V ?_
  try simp only[I,RY,dh,↓KW,↓dQ,seval,D]
  first|refine af cP ?_|refine aN cP ?_
  try simp only[I,RY,dh,↓KW,↓dQ,seval,D]
  first|refine af cM ?_|refine aN cM ?_
  try simp only[I,B,RY,dh,gm,↓KW,↓dQ,seval,h,hr,D]
  refine⟨rfl,d7 (hF (Bx.mk 1 0 0 st cH y.lines (IntKind.i64.wrap (tk+1))).cells (IntKind.i64.wrap (tk+1)) 5 0 (c7 ..)) ?_⟩;try simp only[I,RY,jg,dh,gm,↓KW,↓dQ,seval,D]
  refine⟨rfl,aJ (hN (.sl [gI (IntKind.i64.wrap (tk+1)) 5 0]) (Bx.mk 1 0 0 st cH y.lines (IntKind.i64.wrap (tk+1))).cells 2 0) rfl rfl rfl rfl ?_⟩;try simp only[I,RY,jg,dh,gm,↓KW,↓dQ,seval,D]
  refine⟨rfl,aJ (hJ [gI (IntKind.i64.wrap (tk+1)) 5 0] (Bx.mk 1 0 0 st cH y.lines (IntKind.i64.wrap (tk+1))).cells (IntKind.i64.wrap (tk+1)) 1 1 (c7 ..) adI (by simp[gI])) rfl rfl rfl rfl ?_⟩
  try simp only[I,RY,jg,dh,gm,↓KW,↓dQ,seval,D]
  refine⟨rfl,aJ (hN (.sl [gI (IntKind.i64.wrap (tk+1)) 5 0,gI (IntKind.i64.wrap (tk+1)) 1 1]) (Bx.mk 1 0 0 st cH y.lines (IntKind.i64.wrap (tk+1))).cells 3 st.pre.ax) rfl rfl rfl rfl ?_⟩;try simp only[I,RY,jg,dh,gm,↓KW,↓dQ,seval,D]
  refine⟨rfl,aJ (hN (.sl [gI (IntKind.i64.wrap (tk+1)) 5 0,gI (IntKind.i64.wrap (tk+1)) 1 1]) (Bx.mk 1 0 0 st cH y.lines (IntKind.i64.wrap (tk+1))).cells 4 st.rings.group) rfl rfl rfl rfl ?_⟩;try simp only[RY,jg,seval]
  refine ep rfl ?_;try simp only[I,RY,↓KW,seval,Dw,gI,D]
 ·rw[hg]at O
  rw[hr]at g4
  have M:gk true ⟨3,R,L,st,cH,ln,tk⟩ (Bx.mk 3 v L st cH y.lines (IntKind.i64.wrap (tk+1)))=[]:=by simp[gk,uL]
  simp only[hg,h,hr,pm,il,eQ];rw[M];simp only[lX,Pb,mr,kw];refine aq hm hc [] rfl ?_;try simp only[RY,dh,↓KW,seval,br,Z.H,D]
  first|refine af O ?_|refine aN O ?_
  try simp only[I,B,RY,dh,↓KW,↓dQ,seval,D]
  first|refine af V ?_|refine aN V ?_
  try simp only[I,RY,dh,↓KW,↓dQ,seval,D]
  first|refine af cP ?_|refine aN cP ?_
  try simp only[I,RY,dh,↓KW,↓dQ,seval,D]
  first|refine af cM ?_|refine aN cM ?_
  try simp only[I,RY,dh,gm,↓KW,↓dQ,seval,h,D]
  refine⟨rfl,aX (h0 .aZ (Bx.mk 3 v L st cH y.lines (IntKind.i64.wrap (tk+1))) 5 0 (A9 ..)) ?_⟩;try simp only[I,RY,dh,gm,↓KW,↓dQ,seval,D]
  refine⟨rfl,aX (h0 .aZ (Bx.mk 3 v L st cH y.lines (IntKind.i64.wrap (tk+1))) 2 L (A9 ..)) ?_⟩;try simp only[I,RY,dh,gm,↓KW,↓dQ,seval,D]
  refine⟨rfl,aX (h0 .aZ (Bx.mk 3 v L st cH y.lines (IntKind.i64.wrap (tk+1))) 1 3 (A9 ..)) ?_⟩;try simp only[I,RY,dh,gm,↓KW,↓dQ,seval,D]
  refine⟨rfl,aX (h0 .aZ (Bx.mk 3 v L st cH y.lines (IntKind.i64.wrap (tk+1))) 3 st.pre.ax (A9 ..)) ?_⟩;try simp only[I,RY,dh,gm,↓KW,↓dQ,seval,D]
  refine⟨rfl,aX (h0 .aZ (Bx.mk 3 v L st cH y.lines (IntKind.i64.wrap (tk+1))) 4 st.rings.group (A9 ..)) ?_⟩;try simp only[RY,seval]
  refine ep rfl ?_;try simp only[RY,↓KW,seval,D]
 ·rw[hg]at O
  rw[hr]at g4
  have M:gk true ⟨3,R,L,st,cH,ln,tk⟩ (Bx.mk 3 v L st cH y.lines (IntKind.i64.wrap (tk+1)))=[]:=by simp[gk,uL]
  simp only[hg,h,hr,sh,il,eQ];rw[M];simp only[lX,Pb,mr,kw];refine aq hm hc [] rfl ?_;try simp only[RY,dh,↓KW,seval,br,Z.H,D]
  first|refine af O ?_|refine aN O ?_
  try simp only[I,B,RY,dh,↓KW,↓dQ,seval,D]
  first|refine af V ?_|refine aN V ?_
  try simp only[I,RY,dh,↓KW,↓dQ,seval,D]
  first|refine af cP ?_|refine aN cP ?_
  try simp only[I,RY,dh,↓KW,↓dQ,seval,D]
  first|refine af cM ?_|refine aN cM ?_
  try simp only[I,RY,dh,gm,↓KW,↓dQ,seval,h,D]
  refine⟨rfl,aX (h0 .aZ (Bx.mk 3 v L st cH y.lines (IntKind.i64.wrap (tk+1))) 5 0 (A9 ..)) ?_⟩;try simp only[I,RY,dh,gm,↓KW,↓dQ,seval,D]
  refine⟨rfl,aX (h0 .aZ (Bx.mk 3 v L st cH y.lines (IntKind.i64.wrap (tk+1))) 2 L (A9 ..)) ?_⟩;try simp only[I,RY,dh,gm,↓KW,↓dQ,seval,D]
  refine⟨rfl,aX (h0 .aZ (Bx.mk 3 v L st cH y.lines (IntKind.i64.wrap (tk+1))) 1 3 (A9 ..)) ?_⟩;try simp only[I,RY,dh,gm,↓KW,↓dQ,seval,D]
  refine⟨rfl,aX (h0 .aZ (Bx.mk 3 v L st cH y.lines (IntKind.i64.wrap (tk+1))) 3 st.pre.ax (A9 ..)) ?_⟩;try simp only[I,RY,dh,gm,↓KW,↓dQ,seval,D]
  refine⟨rfl,aX (h0 .aZ (Bx.mk 3 v L st cH y.lines (IntKind.i64.wrap (tk+1))) 4 st.rings.group (A9 ..)) ?_⟩;try simp only[RY,seval]
  refine ep rfl ?_;try simp only[RY,↓KW,seval,D]
 ·rw[hg]at O
  rw[hr]at g4
  have M:gk true ⟨3,R,L,st,cH,ln,tk⟩ (Bx.mk 3 v L st cH y.lines (IntKind.i64.wrap (tk+1)))=[]:=by simp[gk,uL]
  simp only[hg,h,hr,pm,il,eQ];rw[M];simp only[lX,Pb,mr,kw];refine aq hm hc [] rfl ?_;try simp only[RY,dh,↓KW,seval,br,Z.H,D]
  first|refine af O ?_|refine aN O ?_
  try simp only[I,B,RY,dh,↓KW,↓dQ,seval,D]
  first|refine af V ?_|refine aN V ?_
  try simp only[I,RY,dh,↓KW,↓dQ,seval,D]
  first|refine af cP ?_|refine aN cP ?_
  try simp only[I,RY,dh,↓KW,↓dQ,seval,D]
  first|refine af cM ?_|refine aN cM ?_
  try simp only[I,B,RY,dh,gm,↓KW,↓dQ,seval,h,hr,D]
  refine⟨rfl,aX (h0 .aZ (Bx.mk 3 v L st cH y.lines (IntKind.i64.wrap (tk+1))) 5 0 (A9 ..)) ?_⟩;try simp only[I,RY,dh,gm,↓KW,↓dQ,seval,D]
  refine⟨rfl,aX (h0 .aZ (Bx.mk 3 v L st cH y.lines (IntKind.i64.wrap (tk+1))) 2 L (A9 ..)) ?_⟩;try simp only[I,RY,dh,gm,↓KW,↓dQ,seval,D]
  refine⟨rfl,aX (h0 .aZ (Bx.mk 3 v L st cH y.lines (IntKind.i64.wrap (tk+1))) 1 3 (A9 ..)) ?_⟩;try simp only[I,RY,dh,gm,↓KW,↓dQ,seval,D]
  refine⟨rfl,aX (h0 .aZ (Bx.mk 3 v L st cH y.lines (IntKind.i64.wrap (tk+1))) 3 st.pre.ax (A9 ..)) ?_⟩;try simp only[I,RY,dh,gm,↓KW,↓dQ,seval,D]
  refine⟨rfl,aX (h0 .aZ (Bx.mk 3 v L st cH y.lines (IntKind.i64.wrap (tk+1))) 4 st.rings.group (A9 ..)) ?_⟩;try simp only[RY,seval]
  refine ep rfl ?_;try simp only[RY,↓KW,seval,D]
 ·rw[hg]at O
  rw[hr]at g4
  have M:gk true ⟨3,R,L,st,cH,ln,tk⟩ (Bx.mk 1 0 0 st cH y.lines (IntKind.i64.wrap (tk+1)))=[((IntKind.i64.wrap (tk+1)),1,1)]:=by simp[gk,uL]
  simp only[hg,h,hr,sh,kw];rw[M];simp only[lX,Pb,kr,mr,reduceCtorEq,il];refine aq hm hc [] rfl ?_;try simp only[RY,dh,↓KW,seval,br,Z.H,D]
  first|refine af O ?_|refine aN O ?_
  try simp only[I,B,RY,dh,↓KW,↓dQ,seval,D]
  first|refine af V ?_|refine aN V ?_
  try simp only[I,RY,dh,↓KW,↓dQ,seval,D]
  first|refine af cP ?_|refine aN cP ?_
  try simp only[I,RY,dh,↓KW,↓dQ,seval,D]
  first|refine af cM ?_|refine aN cM ?_
  try simp only[I,B,RY,dh,gm,↓KW,↓dQ,seval,h,hr,D]
  refine⟨rfl,aX (h0 .aZ (Bx.mk 1 0 0 st cH y.lines (IntKind.i64.wrap (tk+1))) 5 0 (A9 ..)) ?_⟩;try simp only[I,RY,dh,gm,↓KW,↓dQ,seval,D]
  refine⟨rfl,aX (h0 .aZ (Bx.mk 1 0 0 st cH y.lines (IntKind.i64.wrap (tk+1))) 2 0 (A9 ..)) ?_⟩;try simp only[I,RY,dh,gm,↓KW,↓dQ,seval,D]
  refine⟨rfl,d7 (hF (Bx.mk 1 0 0 st cH y.lines (IntKind.i64.wrap (tk+1))).cells (IntKind.i64.wrap (tk+1)) 1 1 (c7 ..)) ?_⟩;try simp only[I,RY,jg,dh,gm,↓KW,↓dQ,seval,D]
  refine⟨rfl,aJ (hN (.sl [gI (IntKind.i64.wrap (tk+1)) 1 1]) (Bx.mk 1 0 0 st cH y.lines (IntKind.i64.wrap (tk+1))).cells 3 st.pre.ax) rfl rfl rfl rfl ?_⟩;try simp only[I,RY,jg,dh,gm,↓KW,↓dQ,seval,D]
  refine⟨rfl,aJ (hN (.sl [gI (IntKind.i64.wrap (tk+1)) 1 1]) (Bx.mk 1 0 0 st cH y.lines (IntKind.i64.wrap (tk+1))).cells 4 st.rings.group) rfl rfl rfl rfl ?_⟩;try simp only[RY,jg,seval]
  refine ep rfl ?_;try simp only[I,RY,↓KW,seval,Dw,gI,D]
end
end
section
variable{P:Program} (hm:P.follows .mixedOrders=true) {f:Nat}
include hm
section
variable {L:bD} {e f1 fC fG fM fP fR fT:Nat} {st:bD} {t:Tb} {x:Fr}
theorem Yb(hc:qE true P f=some (br fG fC fP fR fM fT f1)) (hG:rY.Spec (Pure P) fG) (hC:lK.Spec (Pure P) fC) (hP:pZ.Spec (Pure P) fP) (h0:uF.Spec (Pure P) f1) (hN:uI.Spec (Pure P) e f1) (hF:uJ.Spec (Pure P) e f1) (hJ:uK.Spec (Pure P) e f1) {cH D:Mn} {V fl ln tk F:Int} {O:List Int} (ht:t.Ok) (ac:st.Ok) (aa:cH.Ok) (ab:L.Ok) (R:D.Ok) (an:O.length=8) (cT:(Pure P).c fT [.agg t.cells,.agg (Bx.mk 2 V fl st cH (gE x ln).lines (IntKind.i64.wrap (tk+1))).cells,.agg (gE x ln).cells] (.dP [.agg (Bx.mk 3 0 F L D (gE x ln).lines (IntKind.i64.wrap (tk+1))).cells,.agg (O.map I)]) none):
  (Pure P).c f [.agg t.cells,.agg (Bx.mk 2 V fl st cH ln tk).cells,.agg x.cells] (lX (Bx.mk 3 0 F L D (gE x ln).lines (IntKind.i64.wrap (tk+1))) O (gk (Kb x) (Bx.mk 2 V fl st cH ln tk) (Bx.mk 3 0 F L D (gE x ln).lines (IntKind.i64.wrap (tk+1))))) none:=by
 have hl:=Tb.len ht
 have hp:=Tb.whole ht
 have cG:=hG x.fm
 have cC:=hC x.fm ln
 rw[yP]at cC;rw[Fr.xP]at cG cC
 have am:xx x.fm=Kb x:=rfl
 rw[am]at cG
 have cP:=hP t ht
 have A9:∀m V fl ln tk,(Bx.mk m V fl st cH ln tk).Ok:=λ_ _ _ _ _=>⟨ac,aa⟩
 have al:∀m V fl ln tk,(Bx.mk m V fl L D ln tk).Ok:=λ_ _ _ _ _=>⟨ab,R⟩
 obtain⟨c1,c2,c3,c4,c5,c6,c7,c8,c9,d0,d1,d2,d3,d4,d5⟩:=bxF ac aa;obtain⟨C1,C2,C3,C4,C5,C6,C7,C8,C9,D0,D1,D2,D3,D4,D5⟩:=bxF ab R
 have s1:∀m V fl ln tk m' ak ag ae ad,setCells (Bx.mk m V fl st cH ln tk).cells 0 (Bx.mk m' ak ag L D ae ad).cells=(Bx.mk m' ak ag L D ae ad).cells:=λ_ _ _ _ _ _ _ _ _ _=>aM (by rw[c1,C1])
 obtain⟨ao,f2,f3,f4,f5⟩:=Pc x
 obtain⟨g1,g2,g3,g4,g5⟩:=Pc (gE x ln)
 have d6:aD.length=138:=rfl
 have p1:((gS t).map I).length=8:=by simp[gS,je]
 have p2:setCells [.int .i64 0,.int .i64 0,.int .i64 0,.int .i64 0,.int .i64 0,.int .i64 0,.int .i64 0,.int .i64 0] 0 ((gS t).map I)=(gS t).map I:=aM (by rw[p1];rfl)
 have p3:(O.map I).length=8:=by simp[an]
 have p4:setCells ((gS t).map I) 0 (O.map I)=O.map I:=aM (by rw[p1,p3])
 have p5:aB (O.map I) 0 (some 8)=some (.agg (O.map I)):=by have:=nZ (O.map I) 0 8 (by rw[p3];decide);rw[this,kb,<-p3,io]
 have p6:setCells [.int .i64 0,.int .i64 0,.int .i64 0,.int .i64 0,.int .i64 0,.int .i64 0,.int .i64 0,.int .i64 0] 0 (O.map I)=O.map I:=aM (by rw[p3];rfl)
 generalize gE x ln=y at*
 have M:=dC hl (dC hp (dC c1 (dC c2 (dC c3 (dC c4 (dC c5 (dC c6 (dC c7 (dC c8 (dC c9 (dC d0 (dC d1 (dC d2 (dC d3 (dC d4 (dC d5 (dC d6 (dC C1 (dC C2 (dC C3 (dC C4 (dC C5 (dC C6 (dC C7 (dC C8 (dC C9 (dC D5 (dC s1 (dC ao (dC f2 (dC f3 (dC f4 (dC f5 (dC g1 (dC g2 (dC g3 (dC g4 (dC g5 (dC p1 (dC p2 (dC p3 (dC p4 (dC p5 (p6))))))))))))))))))))))))))))))))))))))))))))
 rcases bf (Kb x)with hg|hg
 all_goals
  rw[hg]at cG;simp only[gk,uL,hg,po,pd,ne,H0,py,px,Int.reduceBEq,Int.reduceBNe,LE,AC,kw,il,eQ,kr,mr,lX,Pb,reduceCtorEq];refine aq hm hc [] rfl ?_
  try simp only[RY,dh,↓KW,seval,br,Z.H,M]
  first|refine af cG ?_|refine aN cG ?_
  try simp only[I,B,RY,dh,↓KW,↓dQ,seval,M]
  first|refine af cC ?_|refine aN cC ?_
  try simp only[I,RY,dh,↓KW,↓dQ,seval,M]
  first|refine af cP ?_|refine aN cP ?_
  try simp only[I,RY,dh,↓KW,↓dQ,seval,M]
  first|refine af cT ?_|refine aN cT ?_
  try simp only[I,RY,dh,gm,↓KW,↓dQ,seval,M]
 ·refine⟨rfl,d7 (hF (Bx.mk 3 0 F L D y.lines (IntKind.i64.wrap (tk+1))).cells (IntKind.i64.wrap (tk+1)) 5 0 (C7 ..)) ?_⟩
  try simp only[I,RY,jg,dh,gm,↓KW,↓dQ,seval,M]
  refine⟨rfl,aJ (hJ [gI (IntKind.i64.wrap (tk+1)) 5 0] (Bx.mk 3 0 F L D y.lines (IntKind.i64.wrap (tk+1))).cells (IntKind.i64.wrap (tk+1)) 2 F (C7 ..) adI (by simp[gI])) rfl rfl rfl rfl ?_⟩
  try simp only[I,RY,jg,dh,gm,↓KW,↓dQ,seval,M]
  refine⟨rfl,aJ (hJ [gI (IntKind.i64.wrap (tk+1)) 5 0,gI (IntKind.i64.wrap (tk+1)) 2 F] (Bx.mk 3 0 F L D y.lines (IntKind.i64.wrap (tk+1))).cells (IntKind.i64.wrap (tk+1)) 1 3 (C7 ..) adI (by simp[gI])) rfl rfl rfl rfl ?_⟩
  try simp only[I,RY,jg,dh,gm,↓KW,↓dQ,seval,M]
  refine⟨rfl,aJ (hN (.sl [gI (IntKind.i64.wrap (tk+1)) 5 0,gI (IntKind.i64.wrap (tk+1)) 2 F,gI (IntKind.i64.wrap (tk+1)) 1 3]) (Bx.mk 3 0 F L D y.lines (IntKind.i64.wrap (tk+1))).cells 3 L.pre.ax) rfl rfl rfl rfl ?_⟩;try simp only[I,RY,jg,dh,gm,↓KW,↓dQ,seval,M]
  refine⟨rfl,aJ (hN (.sl [gI (IntKind.i64.wrap (tk+1)) 5 0,gI (IntKind.i64.wrap (tk+1)) 2 F,gI (IntKind.i64.wrap (tk+1)) 1 3]) (Bx.mk 3 0 F L D y.lines (IntKind.i64.wrap (tk+1))).cells 4 L.rings.group) rfl rfl rfl rfl ?_⟩;try simp only[RY,jg,seval]
  refine ep rfl ?_;try simp only[I,RY,↓KW,seval,Dw,gI,M]
 ·refine⟨rfl,aX (h0 .aZ (Bx.mk 3 0 F L D y.lines (IntKind.i64.wrap (tk+1))) 5 0 (al ..)) ?_⟩
  try simp only[I,RY,dh,gm,↓KW,↓dQ,seval,M]
  refine⟨rfl,d7 (hF (Bx.mk 3 0 F L D y.lines (IntKind.i64.wrap (tk+1))).cells (IntKind.i64.wrap (tk+1)) 2 F (C7 ..)) ?_⟩;try simp only[I,RY,jg,dh,gm,↓KW,↓dQ,seval,M]
  refine⟨rfl,aJ (hJ [gI (IntKind.i64.wrap (tk+1)) 2 F] (Bx.mk 3 0 F L D y.lines (IntKind.i64.wrap (tk+1))).cells (IntKind.i64.wrap (tk+1)) 1 3 (C7 ..) adI (by simp[gI])) rfl rfl rfl rfl ?_⟩
  try simp only[I,RY,jg,dh,gm,↓KW,↓dQ,seval,M]
  refine⟨rfl,aJ (hN (.sl [gI (IntKind.i64.wrap (tk+1)) 2 F,gI (IntKind.i64.wrap (tk+1)) 1 3]) (Bx.mk 3 0 F L D y.lines (IntKind.i64.wrap (tk+1))).cells 3 L.pre.ax) rfl rfl rfl rfl ?_⟩;try simp only[I,RY,jg,dh,gm,↓KW,↓dQ,seval,M]
  refine⟨rfl,aJ (hN (.sl [gI (IntKind.i64.wrap (tk+1)) 2 F,gI (IntKind.i64.wrap (tk+1)) 1 3]) (Bx.mk 3 0 F L D y.lines (IntKind.i64.wrap (tk+1))).cells 4 L.rings.group) rfl rfl rfl rfl ?_⟩;try simp only[RY,jg,seval]
  refine ep rfl ?_;try simp only[I,RY,↓KW,seval,Dw,gI,M]
theorem Yc(hc:qE true P f=some (br fG fC fP fR fM fT f1)) (hG:rY.Spec (Pure P) fG) (hC:lK.Spec (Pure P) fC) (hP:pZ.Spec (Pure P) fP) (h0:uF.Spec (Pure P) f1) (hN:uI.Spec (Pure P) e f1) (hF:uJ.Spec (Pure P) e f1) (hJ:uK.Spec (Pure P) e f1) {cH D:Mn} {ti R ln tk M:Int} {la:List Int} (ht:t.Ok) (ad:st.Ok) (ab:cH.Ok) (ac:L.Ok) (aa:D.Ok) (am:la.length=8) (cT:(Pure P).c fT [.agg t.cells,.agg (Bx.mk 2 ti R st cH (gE x ln).lines (IntKind.i64.wrap (tk+1))).cells,.agg (gE x ln).cells] (.dP [.agg (Bx.mk 2 M R L D (gE x ln).lines (IntKind.i64.wrap (tk+1))).cells,.agg (la.map I)]) none):
  (Pure P).c f [.agg t.cells,.agg (Bx.mk 2 ti R st cH ln tk).cells,.agg x.cells] (lX (Bx.mk 2 M R L D (gE x ln).lines (IntKind.i64.wrap (tk+1))) la (gk (Kb x) (Bx.mk 2 ti R st cH ln tk) (Bx.mk 2 M R L D (gE x ln).lines (IntKind.i64.wrap (tk+1))))) none:=by
 have hl:=Tb.len ht
 have hp:=Tb.whole ht
 have cG:=hG x.fm
 have cC:=hC x.fm ln
 rw[yP]at cC;rw[Fr.xP]at cG cC
 have al:xx x.fm=Kb x:=rfl
 rw[al]at cG
 have cP:=hP t ht
 have A9:∀m ti R ln tk,(Bx.mk m ti R st cH ln tk).Ok:=λ_ _ _ _ _=>⟨ad,ab⟩
 have V:∀m ti R ln tk,(Bx.mk m ti R L D ln tk).Ok:=λ_ _ _ _ _=>⟨ac,aa⟩
 obtain⟨c1,c2,c3,c4,c5,c6,c7,c8,c9,d0,d1,d2,d3,d4,d5⟩:=bxF ad ab;obtain⟨C1,C2,C3,C4,C5,C6,C7,C8,C9,D0,D1,D2,D3,D4,D5⟩:=bxF ac aa
 have s1:∀m ti R ln tk m' M ak ag ae,setCells (Bx.mk m ti R st cH ln tk).cells 0 (Bx.mk m' M ak L D ag ae).cells=(Bx.mk m' M ak L D ag ae).cells:=λ_ _ _ _ _ _ _ _ _ _=>aM (by rw[c1,C1])
 obtain⟨an,f2,f3,f4,f5⟩:=Pc x
 obtain⟨g1,g2,g3,g4,g5⟩:=Pc (gE x ln)
 have d6:aD.length=138:=rfl
 have p1:((gS t).map I).length=8:=by simp[gS,je]
 have p2:setCells [.int .i64 0,.int .i64 0,.int .i64 0,.int .i64 0,.int .i64 0,.int .i64 0,.int .i64 0,.int .i64 0] 0 ((gS t).map I)=(gS t).map I:=aM (by rw[p1];rfl)
 have p3:(la.map I).length=8:=by simp[am]
 have p4:setCells ((gS t).map I) 0 (la.map I)=la.map I:=aM (by rw[p1,p3])
 have p5:aB (la.map I) 0 (some 8)=some (.agg (la.map I)):=by have:=nZ (la.map I) 0 8 (by rw[p3];decide);rw[this,kb,<-p3,io]
 have p6:setCells [.int .i64 0,.int .i64 0,.int .i64 0,.int .i64 0,.int .i64 0,.int .i64 0,.int .i64 0,.int .i64 0] 0 (la.map I)=la.map I:=aM (by rw[p3];rfl)
 generalize gE x ln=y at*
 have O:=dC hl (dC hp (dC c1 (dC c2 (dC c3 (dC c4 (dC c5 (dC c6 (dC c7 (dC c8 (dC c9 (dC d0 (dC d1 (dC d2 (dC d3 (dC d4 (dC d5 (dC d6 (dC C1 (dC C2 (dC C3 (dC C4 (dC C5 (dC C6 (dC C7 (dC C8 (dC C9 (dC D5 (dC s1 (dC an (dC f2 (dC f3 (dC f4 (dC f5 (dC g1 (dC g2 (dC g3 (dC g4 (dC g5 (dC p1 (dC p2 (dC p3 (dC p4 (dC p5 (p6))))))))))))))))))))))))))))))))))))))))))))
 rcases bf (Kb x)with hg|hg<;>rcases bf (L.pre.ax !=st.pre.ax)with h3|h3<;>rcases bf (L.rings.group !=st.rings.group)with h4|h4
 all_goals
  rw[hg]at cG;simp only[gk,uL,hg,h3,h4,po,pd,ne,tz,H0,py,Int.reduceBEq,LE,AC,kw,il,eQ,kr,mr,lX,Pb,reduceCtorEq];refine aq hm hc [] rfl ?_
  try simp only[RY,dh,↓KW,seval,br,Z.H,O]
  first|refine af cG ?_|refine aN cG ?_
  try simp only[I,B,RY,dh,↓KW,↓dQ,seval,O]
  first|refine af cC ?_|refine aN cC ?_
  try simp only[I,RY,dh,↓KW,↓dQ,seval,O]
  first|refine af cP ?_|refine aN cP ?_
  try simp only[I,RY,dh,↓KW,↓dQ,seval,O]
  first|refine af cT ?_|refine aN cT ?_
  try simp only[I,RY,dh,gm,↓KW,↓dQ,seval,O]
 ·refine⟨rfl,d7 (hF (Bx.mk 2 M R L D y.lines (IntKind.i64.wrap (tk+1))).cells (IntKind.i64.wrap (tk+1)) 5 0 (C7 ..)) ?_⟩
  try simp only[I,RY,jg,dh,gm,↓KW,↓dQ,seval,O]
  refine⟨rfl,aJ (hN (.sl [gI (IntKind.i64.wrap (tk+1)) 5 0]) (Bx.mk 2 M R L D y.lines (IntKind.i64.wrap (tk+1))).cells 2 R) rfl rfl rfl rfl ?_⟩;try simp only[I,RY,jg,dh,gm,↓KW,↓dQ,seval,tz,O]
  refine⟨rfl,aJ (hN (.sl [gI (IntKind.i64.wrap (tk+1)) 5 0]) (Bx.mk 2 M R L D y.lines (IntKind.i64.wrap (tk+1))).cells 1 2) rfl rfl rfl rfl ?_⟩;try simp only[I,RY,jg,dh,gm,↓KW,↓dQ,seval,h3,O]
  refine⟨rfl,aJ (hN (.sl [gI (IntKind.i64.wrap (tk+1)) 5 0]) (Bx.mk 2 M R L D y.lines (IntKind.i64.wrap (tk+1))).cells 3 L.pre.ax) rfl rfl rfl rfl ?_⟩;try simp only[I,RY,jg,dh,gm,↓KW,↓dQ,seval,h4,O]
  refine⟨rfl,aJ (hN (.sl [gI (IntKind.i64.wrap (tk+1)) 5 0]) (Bx.mk 2 M R L D y.lines (IntKind.i64.wrap (tk+1))).cells 4 L.rings.group) rfl rfl rfl rfl ?_⟩;try simp only[RY,jg,seval]
  refine ep rfl ?_;try simp only[I,RY,↓KW,seval,Dw,gI,O]
 ·refine⟨rfl,d7 (hF (Bx.mk 2 M R L D y.lines (IntKind.i64.wrap (tk+1))).cells (IntKind.i64.wrap (tk+1)) 5 0 (C7 ..)) ?_⟩
  try simp only[I,RY,jg,dh,gm,↓KW,↓dQ,seval,O]
  refine⟨rfl,aJ (hN (.sl [gI (IntKind.i64.wrap (tk+1)) 5 0]) (Bx.mk 2 M R L D y.lines (IntKind.i64.wrap (tk+1))).cells 2 R) rfl rfl rfl rfl ?_⟩;try simp only[I,RY,jg,dh,gm,↓KW,↓dQ,seval,tz,O]
  refine⟨rfl,aJ (hN (.sl [gI (IntKind.i64.wrap (tk+1)) 5 0]) (Bx.mk 2 M R L D y.lines (IntKind.i64.wrap (tk+1))).cells 1 2) rfl rfl rfl rfl ?_⟩;try simp only[I,RY,jg,dh,gm,↓KW,↓dQ,seval,h3,O]
  refine⟨rfl,aJ (hN (.sl [gI (IntKind.i64.wrap (tk+1)) 5 0]) (Bx.mk 2 M R L D y.lines (IntKind.i64.wrap (tk+1))).cells 3 L.pre.ax) rfl rfl rfl rfl ?_⟩;try simp only[I,RY,jg,dh,gm,↓KW,↓dQ,seval,h4,O]
  refine⟨rfl,aJ (hJ [gI (IntKind.i64.wrap (tk+1)) 5 0] (Bx.mk 2 M R L D y.lines (IntKind.i64.wrap (tk+1))).cells (IntKind.i64.wrap (tk+1)) 4 L.rings.group (C7 ..) adI (by simp[gI])) rfl rfl rfl rfl ?_⟩
  try simp only[RY,jg,seval]
  refine ep rfl ?_;try simp only[I,RY,↓KW,seval,Dw,gI,O]
 ·refine⟨rfl,d7 (hF (Bx.mk 2 M R L D y.lines (IntKind.i64.wrap (tk+1))).cells (IntKind.i64.wrap (tk+1)) 5 0 (C7 ..)) ?_⟩
  try simp only[I,RY,jg,dh,gm,↓KW,↓dQ,seval,O]
  refine⟨rfl,aJ (hN (.sl [gI (IntKind.i64.wrap (tk+1)) 5 0]) (Bx.mk 2 M R L D y.lines (IntKind.i64.wrap (tk+1))).cells 2 R) rfl rfl rfl rfl ?_⟩;try simp only[I,RY,jg,dh,gm,↓KW,↓dQ,seval,tz,O]
  refine⟨rfl,aJ (hN (.sl [gI (IntKind.i64.wrap (tk+1)) 5 0]) (Bx.mk 2 M R L D y.lines (IntKind.i64.wrap (tk+1))).cells 1 2) rfl rfl rfl rfl ?_⟩;try simp only[I,RY,jg,dh,gm,↓KW,↓dQ,seval,h3,O]
  refine⟨rfl,aJ (hJ [gI (IntKind.i64.wrap (tk+1)) 5 0] (Bx.mk 2 M R L D y.lines (IntKind.i64.wrap (tk+1))).cells (IntKind.i64.wrap (tk+1)) 3 L.pre.ax (C7 ..) adI (by simp[gI])) rfl rfl rfl rfl ?_⟩
  try simp only[I,RY,jg,dh,gm,↓KW,↓dQ,seval,h4,O]
  refine⟨rfl,aJ (hN (.sl [gI (IntKind.i64.wrap (tk+1)) 5 0,gI (IntKind.i64.wrap (tk+1)) 3 L.pre.ax]) (Bx.mk 2 M R L D y.lines (IntKind.i64.wrap (tk+1))).cells 4 L.rings.group) rfl rfl rfl rfl ?_⟩;try simp only[RY,jg,seval]
  refine ep rfl ?_;try simp only[I,RY,↓KW,seval,Dw,gI,O]
 ·refine⟨rfl,d7 (hF (Bx.mk 2 M R L D y.lines (IntKind.i64.wrap (tk+1))).cells (IntKind.i64.wrap (tk+1)) 5 0 (C7 ..)) ?_⟩
  try simp only[I,RY,jg,dh,gm,↓KW,↓dQ,seval,O]
  refine⟨rfl,aJ (hN (.sl [gI (IntKind.i64.wrap (tk+1)) 5 0]) (Bx.mk 2 M R L D y.lines (IntKind.i64.wrap (tk+1))).cells 2 R) rfl rfl rfl rfl ?_⟩;try simp only[I,RY,jg,dh,gm,↓KW,↓dQ,seval,tz,O]
  refine⟨rfl,aJ (hN (.sl [gI (IntKind.i64.wrap (tk+1)) 5 0]) (Bx.mk 2 M R L D y.lines (IntKind.i64.wrap (tk+1))).cells 1 2) rfl rfl rfl rfl ?_⟩;try simp only[I,RY,jg,dh,gm,↓KW,↓dQ,seval,h3,O]
  refine⟨rfl,aJ (hJ [gI (IntKind.i64.wrap (tk+1)) 5 0] (Bx.mk 2 M R L D y.lines (IntKind.i64.wrap (tk+1))).cells (IntKind.i64.wrap (tk+1)) 3 L.pre.ax (C7 ..) adI (by simp[gI])) rfl rfl rfl rfl ?_⟩
  try simp only[I,RY,jg,dh,gm,↓KW,↓dQ,seval,h4,O]
  refine⟨rfl,aJ (hJ [gI (IntKind.i64.wrap (tk+1)) 5 0,gI (IntKind.i64.wrap (tk+1)) 3 L.pre.ax] (Bx.mk 2 M R L D y.lines (IntKind.i64.wrap (tk+1))).cells (IntKind.i64.wrap (tk+1)) 4 L.rings.group (C7 ..) adI (by simp[gI])) rfl rfl rfl rfl ?_⟩
  try simp only[RY,jg,seval]
  refine ep rfl ?_;try simp only[I,RY,↓KW,seval,Dw,gI,O]
 ·refine⟨rfl,aX (h0 .aZ (Bx.mk 2 M R L D y.lines (IntKind.i64.wrap (tk+1))) 5 0 (V ..)) ?_⟩
  try simp only[I,RY,dh,gm,↓KW,↓dQ,seval,O]
  refine⟨rfl,aX (h0 .aZ (Bx.mk 2 M R L D y.lines (IntKind.i64.wrap (tk+1))) 2 R (V ..)) ?_⟩;try simp only[I,RY,dh,gm,↓KW,↓dQ,seval,tz,O]
  refine⟨rfl,aX (h0 .aZ (Bx.mk 2 M R L D y.lines (IntKind.i64.wrap (tk+1))) 1 2 (V ..)) ?_⟩;try simp only[I,RY,dh,gm,↓KW,↓dQ,seval,h3,O]
  refine⟨rfl,aX (h0 .aZ (Bx.mk 2 M R L D y.lines (IntKind.i64.wrap (tk+1))) 3 L.pre.ax (V ..)) ?_⟩;try simp only[I,RY,dh,gm,↓KW,↓dQ,seval,h4,O]
  refine⟨rfl,aX (h0 .aZ (Bx.mk 2 M R L D y.lines (IntKind.i64.wrap (tk+1))) 4 L.rings.group (V ..)) ?_⟩;try simp only[RY,seval]
  refine ep rfl ?_;try simp only[RY,↓KW,seval,O]
 ·refine⟨rfl,aX (h0 .aZ (Bx.mk 2 M R L D y.lines (IntKind.i64.wrap (tk+1))) 5 0 (V ..)) ?_⟩
  try simp only[I,RY,dh,gm,↓KW,↓dQ,seval,O]
  refine⟨rfl,aX (h0 .aZ (Bx.mk 2 M R L D y.lines (IntKind.i64.wrap (tk+1))) 2 R (V ..)) ?_⟩;try simp only[I,RY,dh,gm,↓KW,↓dQ,seval,tz,O]
  refine⟨rfl,aX (h0 .aZ (Bx.mk 2 M R L D y.lines (IntKind.i64.wrap (tk+1))) 1 2 (V ..)) ?_⟩;try simp only[I,RY,dh,gm,↓KW,↓dQ,seval,h3,O]
  refine⟨rfl,aX (h0 .aZ (Bx.mk 2 M R L D y.lines (IntKind.i64.wrap (tk+1))) 3 L.pre.ax (V ..)) ?_⟩;try simp only[I,RY,dh,gm,↓KW,↓dQ,seval,h4,O]
  refine⟨rfl,d7 (hF (Bx.mk 2 M R L D y.lines (IntKind.i64.wrap (tk+1))).cells (IntKind.i64.wrap (tk+1)) 4 L.rings.group (C7 ..)) ?_⟩;try simp only[RY,jg,seval]
  refine ep rfl ?_;try simp only[I,RY,↓KW,seval,Dw,gI,O]
 ·refine⟨rfl,aX (h0 .aZ (Bx.mk 2 M R L D y.lines (IntKind.i64.wrap (tk+1))) 5 0 (V ..)) ?_⟩
  try simp only[I,RY,dh,gm,↓KW,↓dQ,seval,O]
  refine⟨rfl,aX (h0 .aZ (Bx.mk 2 M R L D y.lines (IntKind.i64.wrap (tk+1))) 2 R (V ..)) ?_⟩;try simp only[I,RY,dh,gm,↓KW,↓dQ,seval,tz,O]
  refine⟨rfl,aX (h0 .aZ (Bx.mk 2 M R L D y.lines (IntKind.i64.wrap (tk+1))) 1 2 (V ..)) ?_⟩;try simp only[I,RY,dh,gm,↓KW,↓dQ,seval,h3,O]
  refine⟨rfl,d7 (hF (Bx.mk 2 M R L D y.lines (IntKind.i64.wrap (tk+1))).cells (IntKind.i64.wrap (tk+1)) 3 L.pre.ax (C7 ..)) ?_⟩;try simp only[I,RY,jg,dh,gm,↓KW,↓dQ,seval,h4,O]
  refine⟨rfl,aJ (hN (.sl [gI (IntKind.i64.wrap (tk+1)) 3 L.pre.ax]) (Bx.mk 2 M R L D y.lines (IntKind.i64.wrap (tk+1))).cells 4 L.rings.group) rfl rfl rfl rfl ?_⟩;try simp only[RY,jg,seval]
  refine ep rfl ?_;try simp only[I,RY,↓KW,seval,Dw,gI,O]
 ·refine⟨rfl,aX (h0 .aZ (Bx.mk 2 M R L D y.lines (IntKind.i64.wrap (tk+1))) 5 0 (V ..)) ?_⟩
  try simp only[I,RY,dh,gm,↓KW,↓dQ,seval,O]
  refine⟨rfl,aX (h0 .aZ (Bx.mk 2 M R L D y.lines (IntKind.i64.wrap (tk+1))) 2 R (V ..)) ?_⟩;try simp only[I,RY,dh,gm,↓KW,↓dQ,seval,tz,O]
  refine⟨rfl,aX (h0 .aZ (Bx.mk 2 M R L D y.lines (IntKind.i64.wrap (tk+1))) 1 2 (V ..)) ?_⟩;try simp only[I,RY,dh,gm,↓KW,↓dQ,seval,h3,O]
  refine⟨rfl,d7 (hF (Bx.mk 2 M R L D y.lines (IntKind.i64.wrap (tk+1))).cells (IntKind.i64.wrap (tk+1)) 3 L.pre.ax (C7 ..)) ?_⟩;try simp only[I,RY,jg,dh,gm,↓KW,↓dQ,seval,h4,O]
  refine⟨rfl,aJ (hJ [gI (IntKind.i64.wrap (tk+1)) 3 L.pre.ax] (Bx.mk 2 M R L D y.lines (IntKind.i64.wrap (tk+1))).cells (IntKind.i64.wrap (tk+1)) 4 L.rings.group (C7 ..) adI (by simp[gI])) rfl rfl rfl rfl ?_⟩
  try simp only[RY,jg,seval]
  refine ep rfl ?_;try simp only[I,RY,↓KW,seval,Dw,gI,O]
end
end
section
variable (t:Tb) (b:Bx) (x:Fr)
def LS:Bx:=if Uz t b x !=0 then⟨3,0,Uz t b x,pW t,BT,b.lines,b.tick⟩else⟨b.mode,jL b.time,b.fault,LO t b x,Zj t b x,b.lines,b.tick⟩
def U4:List Int:=if Uz t b x !=0 then gS t else U3 t b x
def It.Spec(C:aT) (f:Nat):Prop:=∀(t:Tb) (b:Bx) (x:Fr),ag1 t b x->C.c f [.agg t.cells,.agg b.cells,.agg x.cells] (.dP [.agg (LS t b x).cells,.agg ((U4 t b x).map I)]) none
theorem Bx.ahf{b:Bx} (h:b.Ok) {s:bD} (D:s.Ok):setCells b.cells 3 s.cells=({b with st:=s}:Bx).cells:=by
 have M:=bD.len h.st
 have L:=bD.len D
 simp only[Bx.cells,setCells,L]
 show I b.mode::I b.time::I b.fault::_=_
 simp[M]
theorem Bx.ab8{b:Bx} (h:b.Ok) {m:Mn} (hm:m.Ok):setCells b.cells 120 m.cells=({b with cH:=m}:Bx).cells:=by
 have M:=bD.len h.st
 have L:=Bx.Xr h
 have D:m.cells.length=16:=Mn.len hm
 simp only[Bx.cells,setCells,D]
 show I b.mode::I b.time::I b.fault::_=_
 simp[M,L,xi]
theorem ab9(D L T:Int) {cs:List AV} (h:cs.length=117):((List.take 136 (List.take 135 (List.take 2 (List.take 1 (List.drop 1 aD)++[.int .i64 D]++List.drop 2 (List.drop 1 aD))++cs++List.drop 119 (List.take 1 (List.drop 1 aD)++[.int .i64 D]++List.drop 2 (List.drop 1 aD)))++[.int .i64 L]++List.drop 136 (List.take 2 (List.take 1 (List.drop 1 aD)++[.int .i64 D]++List.drop 2 (List.drop 1 aD))++cs++List.drop 119 (List.take 1 (List.drop 1 aD)++[.int .i64 D]++List.drop 2 (List.drop 1 aD))))++[.int .i64 T]++List.drop 137 (List.take 135 (List.take 2 (List.take 1 (List.drop 1 aD)++[.int .i64 D]++List.drop 2 (List.drop 1 aD))++cs++List.drop 119 (List.take 1 (List.drop 1 aD)++[.int .i64 D]++List.drop 2 (List.drop 1 aD)))++[.int .i64 L]++List.drop 136 (List.take 2 (List.take 1 (List.drop 1 aD)++[.int .i64 D]++List.drop 2 (List.drop 1 aD))++cs++List.drop 119 (List.take 1 (List.drop 1 aD)++[.int .i64 D]++List.drop 2 (List.drop 1 aD))))):List AV)=I 0::I D::(cs++(BT.cells++[I L,I T])):=by
 have M:((List.take 2 (List.take 1 (List.drop 1 aD)++[.int .i64 D]++List.drop 2 (List.drop 1 aD))++cs++List.drop 119 (List.take 1 (List.drop 1 aD)++[.int .i64 D]++List.drop 2 (List.drop 1 aD))):List AV)=I 0::I D::(cs++(BT.cells++[I 0,I 0])):=rfl
 have hm:BT.cells.length=16:=rfl
 have O:(List.take 135 (I 0::I D::(cs++(BT.cells++[I 0,I 0])))++[.int .i64 L]++List.drop 136 (I 0::I D::(cs++(BT.cells++[I 0,I 0]))):List AV)=I 0::I D::(cs++(BT.cells++[I L,I 0])):=by
  simp[abs,xi,h,hm]
  rw[kf ado,ml ado,ml ado];rfl
 rw[M,O];simp[abs,xi,h,hm]
 rw[kf ado,kf ado,ml ado,ml ado];rfl
end
section
variable{P:Program} (hm:P.follows .mixedOrders=true) {f:Nat}
include hm
theorem It.ok{fR fB fP fM:Nat} (hc:bK P f=some (vz fR fB fP fM)) (hR:Iq.Spec (Pure P) fR) (hB:Fv.Spec (Pure P) fB) (hP:pZ.Spec (Pure P) fP) (hM:xy.Spec (Pure P) fM):It.Spec (Pure P) f:=by
 intro t b x aa
 have cR:=hR t b x aa
 obtain⟨ht,ag,ae,V,al,ak⟩:=aa;obtain⟨ab,f2,f3,f4,f5⟩:=Pc x
 have hl:=Tb.len ht
 have hp:=Tb.whole ht
 have cP:=hP t ht
 have cM:=hM b.time
 have ac:gM b.time 0 9999+1=jL b.time:=rfl
 rw[ac]at cM
 have b1:=Bx.len V
 have b2:=Bx.whole V
 have b3:b.cells[1]? =some (I b.time):=rfl
 have b4:=(Bx.FB V).1
 have b5:=(Bx.FB V).2
 have L:(LO t b x).Ok:=Ic ..
 have l8:(U3 t b x).length=8:=oZ _
 have M:(Zj t b x).Ok:=uG (CA l8 _) 8
 have R:LS t b x=if Uz t b x !=0 then⟨3,0,Uz t b x,pW t,BT,b.lines,b.tick⟩else⟨b.mode,jL b.time,b.fault,LO t b x,Zj t b x,b.lines,b.tick⟩:=rfl
 have O:U4 t b x=if Uz t b x !=0 then gS t else U3 t b x:=rfl
 rw[ruR]at cR;generalize LS t b x=B2 at*;generalize U4 t b x=L2 at*;generalize Uz t b x=fo at*;generalize LO t b x=s at*;generalize Zj t b x=m at*;generalize U3 t b x=la at*
 have s1:=bD.len L
 have s2:=bD.whole L
 have s3:setCells b9 0 s.cells=s.cells:=aM (by rw[s1];rfl)
 have s4:b9.length=117:=rfl
 have m1:=Mn.len M
 have m2:=Mn.whole M
 have m3:setCells gp 0 m.cells=m.cells:=aM (by rw[m1];rfl)
 have m4:gp.length=16:=rfl
 have n1:(la.map I).length=8:=by simp[l8]
 have n2:setCells [.int .i64 0,.int .i64 0,.int .i64 0,.int .i64 0,.int .i64 0,.int .i64 0,.int .i64 0,.int .i64 0] 0 (la.map I)=la.map I:=aM (by rw[n1];rfl)
 have n3:aB (la.map I) 0 (some 8)=some (.agg (la.map I)):=by have:=nZ (la.map I) 0 8 (by rw[n1];decide);rw[this,kb,<-n1,io]
 have z1:aD.length=138:=rfl
 have p1:((gS t).map I).length=8:=by simp[gS,je]
 have p2:setCells [.int .i64 0,.int .i64 0,.int .i64 0,.int .i64 0,.int .i64 0,.int .i64 0,.int .i64 0,.int .i64 0] 0 ((gS t).map I)=(gS t).map I:=aM (by rw[p1];rfl)
 have p3:aB ((gS t).map I) 0 (some 8)=some (.agg ((gS t).map I)):=rfl
 have D:=dC hl (dC hp (dC ab (dC f2 (dC f5 (dC b1 (dC b2 (dC b3 (dC b4 (dC b5 (dC s1 (dC s2 (dC s3 (dC s4 (dC m1 (dC m2 (dC m3 (dC m4 (dC n1 (dC n2 (dC n3 (dC z1 (dC p1 (dC p2 (p3))))))))))))))))))))))))
 refine aq hm hc [] rfl ?_;try simp only[RY,↓KW,seval,vz,Z.H,D]
 refine af cR ?_;try simp only[I,RY,↓KW,seval,D]
 rcases bf (fo !=0)with h|h
 ·simp only[h,il,eQ]at R O
  rw[R,O]
  have q1:=Bx.ahf V L
  have o1:({b with st:=s}:Bx).Ok:=⟨L,V.cH⟩
  have q2:=Bx.ab8 o1 M
  have o2:(Bx.mk b.mode b.time b.fault s m b.lines b.tick).Ok:=⟨L,M⟩
  have o3:(Bx.mk b.mode (jL b.time) b.fault s m b.lines b.tick).Ok:=⟨L,M⟩
  have q3:setCells (Bx.mk b.mode b.time b.fault s m b.lines b.tick).cells 1 [I (jL b.time)]=(Bx.mk b.mode (jL b.time) b.fault s m b.lines b.tick).cells:=rfl
  have q4:=Bx.len o1
  have q5:=Bx.len o2
  have q6:=Bx.len o3
  have q7:=Bx.whole o3
  have q8:setCells aD 0 (Bx.mk b.mode (jL b.time) b.fault s m b.lines b.tick).cells=(Bx.mk b.mode (jL b.time) b.fault s m b.lines b.tick).cells:=aM (by rw[q6];rfl)
  try simp only[RY,↓KW,seval,h,D]
  refine ep rfl ?_;try simp only[I,RY,↓KW,seval,D]
  refine af cM ?_;try simp only[I,RY,↓KW,seval,q1,q2,q3,q4,q5,D]
  refine ep rfl ?_;try simp only[RY,↓KW,seval,q6,q7,q8,D]
 ·simp only[h,kw]at R O
  rw[R,O];try simp only[RY,↓KW,seval,h,D]
  have e0:=bD.len (uB t)
  have o4:(Bx.mk 3 0 fo (pW t) BT b.lines b.tick).Ok:=⟨uB t,rfl,rfl⟩
  have q6:=Bx.len o4
  have q7:=Bx.whole o4
  have q8:setCells aD 0 (Bx.mk 3 0 fo (pW t) BT b.lines b.tick).cells=(Bx.mk 3 0 fo (pW t) BT b.lines b.tick).cells:=aM (by rw[q6];rfl)
  refine af (hB t ht.ln) ?_;try simp only[I,RY,↓KW,seval,e0,D]
  refine af cP ?_
  have q9:(.int .i64 3::I 0::I fo::((pW t).cells++(BT.cells++[I b.lines,I b.tick])))=(Bx.mk 3 0 fo (pW t) BT b.lines b.tick).cells:=rfl
  have ad:=ab9 fo b.lines b.tick e0
  try simp only[I,RY,↓KW,seval,ad,q9,q6,q7,q8,D]
end
section
variable (t:Tb) (b:Bx) (x:Fr)
def Mm(ln:Int):Bx:=⟨b.mode,b.time,b.fault,b.st,b.cH,ln,IntKind.i64.wrap (b.tick+1)⟩
def gz:Bx:=if b.mode=1 then yY t b (gE x b.lines).lines else if b.mode=2 then LS t (Mm b (gE x b.lines).lines) (gE x b.lines)else yZ t b (gE x b.lines).lines (gE x b.lines).reset
def vM:List Int:=if b.mode=1 then rdL else if b.mode=2 then U4 t (Mm b (gE x b.lines).lines) (gE x b.lines)else gS t
def Sm:List (Int×Int×Int):=gk (Kb x) b (gz t b x)
end
section
variable {b:Bx} {t:Tb} {x:Fr}
structure InS (t:Tb) (b:Bx) (x:Fr):Prop where
 tok:t.Ok
 fw:t.Fw
 nd:nDt t<=1000000
 mZ:b.Ok
 mode:b.mode=1\/b.mode=2\/b.mode=3
 chs:(b.st.iK.getD []).length<=1000000
 smp:(x.samples.getD []).length<=1000000
def qi.Spec(C:aT) (f:Nat):Prop:=∀(t:Tb) (b:Bx) (x:Fr),InS t b x->C.c f [.agg t.cells,.agg b.cells,.agg x.cells] (lX (gz t b x) (vM t b x) (Sm t b x)) none
theorem ahg(h:(x.samples.getD []).length<=1000000) (ln:Int):((gE x ln).samples.getD []).length<=1000000:=by unfold gE;split;exact h;simp
theorem ahh(h:InS t b x):(gz t b x).Ok:=by
 have D:=h.mZ
 unfold gz;split
 ·unfold yY;split<;>exact⟨D.st,D.cH⟩
 ·split
  ·unfold LS;split
   ·exact⟨uB _,rfl,rfl⟩
   ·exact⟨Ic ..,uG (CA (oZ _) _) 8⟩
  ·unfold yZ;split<;>exact⟨D.st,D.cH⟩
theorem Yd(h:InS t b x):(gz t b x).mode=1\/(gz t b x).mode=2\/(gz t b x).mode=3:=by
 have hm:=h.mode
 unfold gz;split
 ·rename_i L;unfold yY;split
  ·exact .inr (.inl rfl)
  ·exact .inl L
 ·split
  ·rename_i D;unfold LS;split
   ·exact .inr (.inr rfl)
   ·exact .inr (.inl D)
  ·unfold yZ;split
   ·exact .inl rfl
   ·exact hm
end
section
variable{P:Program} (hm:P.follows .mixedOrders=true) {f:Nat}
include hm
theorem qi.ok{fG fC fP fR fM fT O e:Nat} (hc:qE true P f=some (br fG fC fP fR fM fT O)) (hG:rY.Spec (Pure P) fG) (hC:lK.Spec (Pure P) fC) (hP:pZ.Spec (Pure P) fP) (hR:Dx.Spec (Pure P) fR) (hM:xy.Spec (Pure P) fM) (hT:It.Spec (Pure P) fT)
  (h0:uF.Spec (Pure P) O) (hN:uI.Spec (Pure P) e O) (hF:uJ.Spec (Pure P) e O) (hJ:uK.Spec (Pure P) e O):qi.Spec (Pure P) f:=by
 intro t b x h
 rcases h.mode with h1|R|h3
 ·have V:gz t b x=yY t b (gE x b.lines).lines:=fp h1
  have M:vM t b x=rdL:=fp h1
  have:=LQ.ok hm hc hG hC hP hR hM h0 hN hF hJ t b x h.tok h.mZ h1
  rw[Sm,V,M];exact this
 ·have L:¬b.mode=1:=by rw[R];decide
  have V:gz t b x=LS t (Mm b (gE x b.lines).lines) (gE x b.lines):=by unfold gz;rw[fb L,fp R]
  have M:vM t b x=U4 t (Mm b (gE x b.lines).lines) (gE x b.lines):=by unfold vM;rw[fb L,fp R]
  have ab:ag1 t (Mm b (gE x b.lines).lines) (gE x b.lines):=⟨h.tok,h.fw,h.nd,⟨h.mZ.st,h.mZ.cH⟩,h.chs,ahg h.smp _⟩
  have D:=hT t _ _ ab
  have aa:(LO t (Mm b (gE x b.lines).lines) (gE x b.lines)).Ok:=Ic ..
  have Z:(Zj t (Mm b (gE x b.lines).lines) (gE x b.lines)).Ok:=uG (CA (oZ _) _) 8
  have l8:(U3 t (Mm b (gE x b.lines).lines) (gE x b.lines)).length=8:=oZ _
  rw[Sm,V,M];obtain⟨m,ti,fl,st,cH,ln,tk⟩:=b;simp only at R;subst R;unfold LS U4 at D⊢;simp only[Mm]at D aa Z l8⊢
  rcases bf (Uz t (Bx.mk 2 ti fl st cH (gE x ln).lines (IntKind.i64.wrap (tk+1))) (gE x ln) !=0)with hf|hf
  ·simp only[hf,il,eQ]at D⊢
   exact Yc hm hc hG hC hP h0 hN hF hJ h.tok h.mZ.st h.mZ.cH aa Z l8 D
  ·simp only[hf,kw]at D⊢
   exact Yb hm hc hG hC hP h0 hN hF hJ h.tok h.mZ.st h.mZ.cH (uB t) ⟨rfl,rfl⟩ (by simp[gS,je]) D
 ·have L:¬b.mode=1:=by rw[h3];decide
  have n2:¬b.mode=2:=by rw[h3];decide
  have V:gz t b x=yZ t b (gE x b.lines).lines (gE x b.lines).reset:=by unfold gz;rw[fb L,fb n2]
  have M:vM t b x=gS t:=by unfold vM;rw[fb L,fb n2]
  have:=LR.ok hm hc hG hC hP hM h0 hN hF hJ t b x h.tok h.mZ h3
  rw[Sm,V,M];exact this
end
section
variable {b:Bx} {t:Tb} {x:Fr}
structure Inv (t:Tb) (b:Bx):Prop where
 mZ:b.Ok
 mode:b.mode=1\/b.mode=2\/b.mode=3
 chs:(b.st.iK.getD []).length<=1000000
 lns:0<=b.lines/\b.lines<=15
structure vT (t:Tb):Prop where
 tok:t.Ok
 fw:t.Fw
 nd:nDt t<=1000000
theorem vT.table(l:Option (List Int)):vT (bk l):=⟨GW l,WS l,tnd l⟩
theorem Inv.ins(D:vT t) (h:Inv t b) (L:(x.samples.getD []).length<=1000000):InS t b x:=⟨D.tok,D.fw,D.nd,h.mZ,h.mode,h.chs,L⟩
theorem Iu(t:Tb):((pW t).iK.getD []).length<=1000000:=by simp[pW,mb]
theorem Inv.Qq(t:Tb):Inv t (jQ t):=⟨nk t,.inl rfl,Iu t,by simp[jQ],by simp[jQ]⟩
theorem UB{ln:Int} (h:0<=ln/\ln<=15):0<=(gE x ln).lines/\(gE x ln).lines<=15:=by
 unfold gE;split
 ·rename_i D
  unfold Kb xx inE at D;simp only[ed,ii]at D;exact D.2
 ·exact h
theorem Inv.step(L:vT t) (h:Inv t b) (O:(x.samples.getD []).length<=1000000):Inv t (gz t b x):=by
 have M:=h.ins L O
 have D:=UB (x:=x) h.lns
 refine⟨ahh M,Yd M,?_,?_⟩
 ·unfold gz
  split
  ·unfold yY;split<;>exact h.chs
  ·split
   ·unfold LS;split
    ·exact Iu t
    ·simp only[LO,Uy];exact L.nd
   ·unfold yZ;split<;>exact h.chs
 ·unfold gz
  split
  ·unfold yY;split<;>exact D
  ·split
   ·unfold LS Mm;split<;>exact D
   ·unfold yZ;split<;>exact D
def eO(t:Tb) (D:List Fr):Nat->Bx
 |0=>jQ t
 |i+1=>gz t (eO t D i) (D.getD i default)
theorem Inv.run{t:Tb} (L:vT t) {D:List Fr} (M:Qm D):∀i,i<=D.length->Inv t (eO t D i)
 |0,_=>Inv.Qq t
 |i+1,h=>by
  have e:D.getD i default=D[i]:=by simp[show i<D.length by omega]
  exact(Inv.run L M i ado).step L (by rw[e];exact M _ (FS _))
end
section
open Z
def CC(R D M L O:Nat):bJ:=(⟨_,by conv=>lhs;ext y0 y1;cbv⟩:bS λ(y0 y1:List AV)=>cE 47 [.tmp 0] [R,D,M,L,O] [0] 0x2800508386d0095b0040adfc078500d06381122cc18bdb91bfc18bc781bf80d063810547f05a0fc2806821c081a3faf0b0102141f0408302f98c0bc085c5fc0b062f1617f1297419e2cf1f001617bd7c098bc002662282f048090bf84a0059e3e00222f7af8e00091a0c5ebc3f0702de05cce252e893c59e3e018f5f1200113418bc542420c5f1c0a02f00832f9840810 [y1,y0,[.int .i64 0,.int .i64 0]]).1 JM bL
def xQ:bJ:=(⟨_,by conv=>lhs;cbv⟩:bS (cE 20 [.tmp 2] [] [0,8,6,1] 0x14102098bc0401c065f80485e55f216060046181991a709f0a882010c1910518b01857094003885005cc25810c4868c4201c06426810180c100181a20 [] [] [.FT (.t 6) (.t 7) 8 1 none])).1
end
end Go.Eng
