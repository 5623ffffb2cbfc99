/- Part 13 of the engine and its library. -/
import Derived.Test.YtdfplndcbbofjaaGreatPk12
set_option linter.all false
set_option maxRecDepth 10000
set_option maxHeartbeats 4000000
namespace Go.Eng
open Go
section
variable (x:Nat) (C:aY) (op:BinOp) (f y:Nat)
abbrev Fl (x:Nat):AV:=.float .f64 x
theorem ack:eP .geq (.float .f64 x) (.float .f64 y)=some (.bool (JG x y)):=rfl
theorem acm:eP .leq (.float .f64 x) (.float .f64 y)=some (.bool (IG x y)):=rfl
theorem acn:eP .gtr (.float .f64 x) (.float .f64 y)=some (.bool (UY x y)):=rfl
theorem aco:eP .lss (.float .f64 x) (.float .f64 y)=some (.bool (ltF x y)):=rfl
theorem acp:eP .eql (.float .f64 x) (.float .f64 y)=some (.bool (eqF x y)):=rfl
theorem acq:eP .neq (.float .f64 x) (.float .f64 y)=some (.bool (!eqF x y)):=rfl
theorem acr:eP .mul (.float .f64 x) (.float .f64 y)=KQ .f64 (DF.mul x y):=rfl
theorem acs:eP .sub (.float .f64 x) (.float .f64 y)=KQ .f64 (DF.sub x y):=rfl
theorem acu:eP .add (.float .f64 x) (.float .f64 y)=KQ .f64 (DF.add x y):=rfl
theorem acv:eP .quo (.float .f64 x) (.float .f64 y)=KQ .f64 (DF.div x y):=rfl
theorem acw:WL .neg (.float .f64 x)=some (.float .f64 (Op.negFloat .f64 x)):=rfl
theorem Va(r:Nat):KQ .f64 (some r)=some (.float .f64 r):=rfl
theorem n_l:eP op .fm (.float .f64 y)=xS op:=by cases op<;>rfl
theorem n_r:eP op (.float .f64 y) .fm=xS op:=by cases op<;>rfl
theorem n_b:eP op .fm .fm=xS op:=by cases op<;>rfl
theorem acy:xS .neq=some (.bool true):=rfl
theorem acz:xS .eql=some (.bool false):=rfl
theorem acA:xS .sub=some .fm:=rfl
theorem acB:xS .leq=some (.bool false):=rfl
theorem acC:xS .lss=some (.bool false):=rfl
theorem acD:xS .geq=some (.bool false):=rfl
theorem acE:xS .gtr=some (.bool false):=rfl
def NAN:=cB @n_l (cB @n_r (cB @n_b (cB acy (cB acz (cB acA (cB acB (cB acC (cB acD acE))))))))
def F1:=cB @Va (cB @ack (cB @acm (cB @acn (cB @aco (cB @acp (cB @acq (cB @acr (cB @acs (cB @acu (cB @acv @acw))))))))))
def Bv(s:Nat):AV:=.dF [I (if Pj s then(tk s:Int)else 0),B (Pj s)]
def EA.Spec:Prop:=∀s:Nat,s<2^64->C.c f [Fl s] (Bv s) none
def EC.Spec:Prop:=∀s:Nat,s<2^64->C.c f [Fl s] (Bv s) none
end
section
variable{P:Program} (hm:P.follows .mixedOrders=true) {f:Nat}
include hm
theorem EA.ok(hc:bu P f=some wU):EA.Spec (Pure P) f:=by
 intro s R
 have L:Pj s=(JG s 0&&IG s 4652006429231887155):=rfl
 obtain⟨V,A⟩:∃b,JG s 0=b:=⟨_,rfl⟩
 obtain⟨b2,E⟩:∃b,IG s 4652006429231887155=b:=⟨_,rfl⟩
 rw[A,E]at L
 have M:=λh=>OD (s:=s) R h
 clear R;refine aj hm hc [] rfl ?_;try simp only[I,B,D,RX,↓KW,seval,wU,Z.H,F1]
 cases V<;>cases b2
 ·try simp only[I,B,D,RX,↓KW,seval,F1,A,E]
  rw[Bv,L];rfl
 ·try simp only[I,B,D,RX,↓KW,seval,F1,A,E]
  rw[Bv,L];rfl
 ·try simp only[I,B,D,RX,↓KW,seval,F1,A,E]
  rw[Bv,L];rfl
 ·obtain⟨x,y,e1,e2,e3⟩:=M L
  have O:DF.mul 4621819117588971520 s=some x:=e1
  try simp only[I,B,D,RX,↓KW,seval,F1,A,E,O,e2,e3]
  rw[Bv,L];rfl
theorem EC.ok(hc:bu P f=some uw):EC.Spec (Pure P) f:=by
 intro s hs
 have L:Pj s=(JG s 0&&IG s 4652006429231887155):=rfl
 obtain⟨b1,E⟩:∃b,JG s 0=b:=⟨_,rfl⟩
 obtain⟨b2,A⟩:∃b,IG s 4652006429231887155=b:=⟨_,rfl⟩
 rw[E,A]at L
 have aa:=λh=>U8 (s:=s) hs h
 clear hs;refine aj hm hc [] rfl ?_;try simp only[I,B,D,RX,↓KW,seval,uw,Z.H,F1]
 cases b1<;>cases b2
 ·try simp only[I,B,D,RX,↓KW,seval,F1,E,A]
  rw[Bv,L];rfl
 ·try simp only[I,B,D,RX,↓KW,seval,F1,E,A]
  rw[Bv,L];rfl
 ·try simp only[I,B,D,RX,↓KW,seval,F1,E,A]
  rw[Bv,L];rfl
 ·obtain⟨x,n,y,e1,e2,e3,e4,e5⟩:=aa L
  have ad:DF.mul s 4621819117588971520=some x:=e1
  have ac:DF.sub x (FloatKind.f64.nearest (n:Int))=some y:=e3
  obtain⟨b3,R⟩:∃b,UY y 4602678819172646912=b:=⟨_,rfl⟩
  obtain⟨b4,O⟩:∃b,eqF y 4602678819172646912=b:=⟨_,rfl⟩
  have e6:tk s=(if b3||(b4&&n%2==1)then n+1 else n):=by rw[<-R,<-O];exact e5
  have hw:IntKind.i64.wrap ((n:Int)+1)=((n+1:Nat):Int):=aA ST
  have V:(n:Int).tmod 2=((n%2:Nat):Int):=by rw[Int.tmod_eq_emod_of_nonneg ST];rfl
  have M:(((n%2:Nat):Int)==1)=(n%2==1):=by rw[np,kb,kb];omega
  obtain⟨b5,ab⟩:∃b,(n%2==1)=b:=⟨_,rfl⟩
  rw[ab]at M e6
  cases b3<;>cases b4<;>cases b5
  all_goals
   try simp only[I,B,D,RX,↓KW,seval,F1,E,A,ad,e2,ac,hw,V,R,O,M]
   rw[Bv,L,e6];rfl
end
section
open Z
def bI:List AV:=(⟨_,by conv=>lhs;cbv⟩:bE (SS [(0,7),(1,2),(0,10),(1,2),(0,10),(1,2),(0,10),(1,2),(0,10),(1,2),(0,10),(1,2),(0,10),(1,2),(0,10),(1,2),(0,6),(1,1),(0,16),(2,1)])).1
def pQ(A:Nat):bB:=(⟨_,by conv=>lhs;cbv⟩:bE (bH 6 [.tmp 2] [A] [0,9999,1] 0x141008800c481030320a0004810)).1
def uB(A:Nat):bB:=(⟨_,by conv=>lhs;ext y0;cbv⟩:bE λ(y0:List AV)=>bH 21 [.cell 2 (some 117)] [A] [0,8,1,-1] 0x575178172ba8bcfa4809014409805e7c46444c8810888be0be80100440069dc063880b9181103e20103684ec1044078a85482445cc258104868c0480e01c06081874403a1a20 [y0,[.int .i64 0,.int .i64 0]]).1 bI
def uC:bB:=(⟨_,by conv=>lhs;ext y0;cbv⟩:bE λ(y0:List AV)=>bH 7 [.cell 2 (some 12)] [] [0,9999] 0x1702140e4488811030c00808e010c89403a1a20 [y0,[.int .i64 0,.int .i64 0,.int .i64 0]]).1 bw
def CA(A:Nat):bB:=(⟨_,by conv=>lhs;cbv⟩:bE (bH 4 [.tmp 2] [] [] 0xa0800e200d81a20 [] [.jf] [.A5 (.func A) [] [.t 1]])).1
end
structure Sh where
 aH:List Int
 time:List Int
 dZ:List Int
 cn:List Int
 entry:Bool
 deriving Inhabited,DecidableEq
def Sh.cells(s:Sh):List AV:=s.aH.map I++(s.time.map I++(s.dZ.map I++(s.cn.map I++[B s.entry])))
section
variable (s:Sh) (p:Nat)
structure Sh.Ok (s:Sh):Prop where
 aH:s.aH.length=8
 time:s.time.length=8
 dZ:s.dZ.length=8
 cn:s.cn.length=8
def Sh.c:Int:=s.aH.getD p 0
def Sh.t:Int:=s.time.getD p 0
def Sh.f:Int:=s.dZ.getD p 0
def Sh.ft:Int:=s.cn.getD p 0
theorem Sh.len{s:Sh} (h:s.Ok):s.cells.length=33:=by simp[Sh.cells,h.aH,h.time,h.dZ,h.cn]
end
section
variable (C:aY) {p:Nat} {s:Sh} {t:Tb} (f:Nat)
theorem Sh.at(h:s.Ok) (A:p<8):s.cells[p]? =some (I (s.c p))/\s.cells[8+p]? =some (I (s.t p))/\s.cells[16+p]? =some (I (s.f p))/\s.cells[24+p]? =some (I (s.ft p)):=by
 have B:=h.aH;have D:=h.time;have E:=h.dZ;have L:=h.cn
 refine⟨?_,?_,?_,?_⟩
 ·simp[Sh.cells,Sh.c,B,A,rh]
 ·simp[Sh.cells,Sh.t,B,D,rh,A,show ¬(8+p<8)by omega]
 ·simp[Sh.cells,Sh.f,B,D,E,rh,A,show ¬(16+p<8)by omega,show ¬(16+p-8<8)by omega,show 16+p-8-8=p by omega]
 ·simp[Sh.cells,Sh.ft,B,D,E,L,rh,A,show ¬(24+p<8)by omega,show ¬(24+p-8<8)by omega,show ¬(24+p-8-8<8)by omega,show 24+p-8-8-8=p by omega]
theorem Sh.whole(h:s.Ok):aF s.cells 0 (some 33)=some (.agg s.cells):=by
 have:=Sh.len h
 simp[aF,this];rw[<-this,gn]
structure afQ (t:Tb) (a b:Sh):Prop where
 t:t.Ln
 a:a.Ok
 b:b.Ok
theorem Tb.Ln.jL(h:t.Ln) {k:Nat} (hk:k<8):t.phases[k]? =some (aO t k):=by
 have:k<t.phases.length:=by rw[h.phases];exact hk
 simp[aO,this]
def gG(t:Tb) (p:Nat):Int:=t.conflict.getD p 0
theorem Tb.Ln.LI(h:t.Ln) (A:p<8):t.cells[105+p]? =some (I (gG t p)):=by
 refine h.oR ?_
 have:p<t.conflict.length:=by rw[h.conflict];exact A
 simp[gG,this]
def bz(n:Int):Int:=IntKind.i64.wrap (d7 n 0 9999+1)
def yy.Spec:Prop:=∀s:Int,∃g,C.c f [I s] (.fn (.func g) [] [.ref [I s]]) none/\C.i (.fn (.func g) [] [.ref [I s]]) (((List.range 8).filter λp=>tb s p).map λ(p:Nat)=>[I p])
def uD.Spec:Prop:=∀s:Int,C.i (.fn (.func f) [] [.ref [I s]]) (((List.range 8).filter λp=>tb s p).map λ(p:Nat)=>[I p])
def sg.Spec:Prop:=∀n:Int,C.c f [I n] (I (bz n)) none
end
section
variable{P:Program} (hm:P.follows .mixedOrders=true) {f:Nat}
include hm
theorem setEach.ok{A:Nat} (B:bu P f=some (CA A)) (D:uD.Spec (Pure P) A):yy.Spec (Pure P) f:=by
 intro s;refine⟨A,?_,D s⟩;refine aj hm B [] rfl ?_;try simp only[I,RX,↓KW,Nat.reduceBEq,Nat.reduceAdd,CA,Z.H]
 simp
theorem sg.ok{A:Nat} (B:bu P f=some (pQ A)) (hC:Cut.Spec (Pure P) A):sg.Spec (Pure P) f:=by
 intro n;refine aj hm B [] rfl ?_;try simp only[I,RX,↓KW,Nat.reduceBEq,Nat.reduceAdd,pQ,Z.H]
 refine af (hC n 0 9999) ?_;try simp only[I,RX,↓KW,Nat.reduceBEq,Nat.reduceAdd]
 rfl
end
section
open Z
def ED(A:Nat):bB:=⟨19,[.tmp 2],r [o 1 (w 0),V 2 (i 0)] (r [V 3 (i 0)] (j (r [o 6 (f 1 0),o 7 (L 6 104),V 8 (i 0)] (u 0 (.loop (r [o 9 (bb .lss 8 (i 8))] (j (c 9 z (.exit 0)) (j (u 1 (r [M 10 8,o 11 (.KO (t 7) (t 8) 8 13 (some 13)),o 5 (.alloc eN),M 4 10,n (s 5 11 13)] (r [o 12 (f 5 0),o 13 (l 12)] (c 13 (R [M 14 3,M 15 4,o 16 (.call A [t 14,t 15]),M 3 16]) z)))) (R [o 17 (bb .add 8 (i 1)),M 8 17]))))))) (r [M 18 3,M 2 18] y)))⟩
def pR(A B:Nat):bB:=(⟨_,by conv=>lhs;cbv⟩:bE (bH 51 [.tmp 4,.tmp 5,.tmp 6,.tmp 7] [A,B] [0,2,1] 0xa642fe13117f0980bf85a01f85b857853978bc1000545e023805c2f2af9081b17808e0168bcabe420845e022422fe02c17957c858256158bf84a85fc29019c35c31c2e0080541f1e104c2f018128bf8560010522a42a0ae692c08641a3108470181403e2f0180f0bf84d001c42806e652c086243462104e030a78d0be0404322fe9e51717f8004bc824922a42c02e612c08641a31080701814046817d1217cd00d8d4c85fc2622fe13017f0b403f0b70af0a72f1782000a8bc04700b85e55f210362f011c02d17957c84108bc044845fc0582f2af90b04ac2b17f0950bf85203386b86385c0100a83e3c20985e0302517f0ac0020a45485415cd25810c83462108e0302807c5e0301e17f09a00388500dcca5810c4868c4209c0614f1a17c0808645fd3ca2e2ff000979049245485805cc25810c83462100e0302808d02fa242f9a018071b2cc0180300442002010a0f80898044223fb808061b300600c011005b50 [[.bV,.bV]] [] [.KO (.t 26) (.t 27) 2 1 none])).1
def GC(A:Nat):bB:=(⟨_,by conv=>lhs;cbv⟩:bE (bH 18 [.tmp 2] [A] [0,1] 0x5040a222f010080098e01017957c84180118602065e1580510a004126a980b984b0219068c4201c06051b00c0c0608004810)).1
end
section
variable{t:Tb} (h:t.Ln)
include h
theorem Y2:t.cells[104]? =some (aI Gr.cells t.groups):=by
 simp[Tb.cells,rh,aN Ph.len,h.phases,h.conflict,h.ee,List.getElem?_cons]
end
section
variable (x:Nat)
def lvl:Bool:=UY x 0&&IG x 4696837146684686336
def aex:Bool:=decide (IntKind.i64.wrap (x:Int)<0)
def EE:Bool:=Pj x&& !aex x
def A7.Fw(d:A7):Prop:=d.on<2^64/\d.off<2^64/\d.delay<2^64/\d.extend<2^64
def Tb.Fw(t:Tb):Prop:=∀d∈t.aL.getD [],d.Fw
def Y3.Spec(C:aY) (f:Nat):Prop:=∀(t:Tb),t.Ln->C.c f [.agg t.cells] (I (oS t)) none
end
section
variable{P:Program} (hm:P.follows .mixedOrders=true) {f:Nat}
include hm
theorem Y3.ok{e V:Nat} (hc:bu P f=some (l8 e V)) (hO:zA.Spec (Pure P) V):Y3.Spec (Pure P) f:=by
 intro t ht;refine aj hm hc [] rfl ?_;try simp only[I,RX,↓KW,Nat.reduceBEq,Nat.reduceAdd,l8,Z.H]
 refine aD (λk:Nat=>(⟨[(4,.dat (I k) none),(1,.ptr 4 0),(3,aZ aC (ic t k) 0)],[(4,⟨t.cells,[]⟩)],bA (ic t k) 0 e,400⟩:S)) (λk=>8-k) (λk=>k<=8) ?_ 0 ST ?_
 ·intro k hk A back
  have O:=aA (k:=k) ST
  have R:=vY t k
  have aa:(ic t k).length<=k:=by
   have:=pc (λp=>(aO t p).on) ((List.range k).map λ(k:Nat)=>(k:Int))
   simpa[ic]using this
  by_cases L:ic t k=[]
  ·try simp only[I,RX,↓KW,Nat.reduceBEq,Nat.reduceAdd,aZ,bA,L]
   refine aB (λh=>?_) (λh=>?_)<;>try simp only[RX,↓KW,Nat.reduceBEq,Nat.reduceAdd,h]
   ·have h8:=dC h
    have M:=Tb.pN (ht.jL (k:=k) ST)
    refine⟨ST,?_⟩
    try simp only[B,RX,↓KW,M]
    refine aB (λE=>?_) (λE=>?_)<;>try simp only[RX,↓KW,Nat.reduceBEq,Nat.reduceAdd,Nat.reduceLeDiff,reduceCtorEq,Nat.reduceMul,E]
    ·refine back (k+1) _ ST ST (ai Ts ?_ ?_ ?_ ?_)<;>simp[LX,I,R,L,E,O]
    ·refine back (k+1) _ ST ST (ai Ts ?_ ?_ ?_ ?_)<;>simp[LX,I,R,L,E,O]
   ·have:k=8:=by have:=dE h;omega
    subst this;try simp only[I,B,D,RX,↓KW,Nat.reduceBEq,Nat.reduceAdd,Nat.reduceLeDiff,Int.reduceNe,Int.reduceBEq,Int.reduceEq,reduceCtorEq,Nat.reduceMul,Int.reduceLT,Int.reduceLE,Int.reduceToNat]
    refine af (hO none TB) ?_
    try simp only[I,RX,↓KW,Nat.reduceBEq,Nat.reduceAdd]
    simp[oS,L]
  ·try simp only[I,RX,↓KW,Nat.reduceBEq,Nat.reduceAdd,aZ,bA,L]
   refine aB (λh=>?_) (λh=>?_)<;>try simp only[RX,↓KW,Nat.reduceBEq,Nat.reduceAdd,h]
   ·have h8:=dC h
    have M:=Tb.pN (ht.jL (k:=k) ST)
    refine⟨ST,?_⟩
    try simp only[B,RX,↓KW,M]
    refine aB (λE=>?_) (λE=>?_)<;>try simp only[RX,↓KW,Nat.reduceBEq,Nat.reduceAdd,E]
    ·refine⟨ST,?_⟩
     refine back (k+1) _ ST ST (ai Ts ?_ ?_ ?_ ?_)<;>simp[LX,I,R,L,E,O]
    ·refine back (k+1) _ ST ST (ai Ts ?_ ?_ ?_ ?_)<;>simp[LX,I,R,L,E,O]
   ·have:k=8:=by have:=dE h;omega
    subst this;try simp only[I,B,D,RX,↓KW,Nat.reduceBEq,Nat.reduceAdd,Nat.reduceLeDiff,Int.reduceNe,Int.reduceBEq,Int.reduceEq,reduceCtorEq,Nat.reduceMul,Int.reduceLT,Int.reduceLE,Int.reduceToNat]
    refine af (hO (some (ic t 8)) (by simp;omega)) ?_
    try simp only[I,RX,↓KW,Nat.reduceBEq,Nat.reduceAdd]
    simp[oS]
 ·refine ai Ts ?_ ?_ ?_ ?_<;>simp[LX,I,ic]
end
structure Rd where
 lock:List Int
 was:Int
 bF:Int
 deriving Inhabited,DecidableEq
def Rd.cells(s:Rd):List AV:=s.lock.map I++[I s.was,I s.bF]
structure Rn where
 aH:Int
 time:Int
 fst:Int
 cn:Int
 left:Int
 ie:Int
 extra:Int
 done:Bool
 eU:Bool
 limit:Int
 up:Int
 down:Int
 deriving Inhabited,DecidableEq
def Rn.cells(r:Rn):List AV:=[I r.aH,I r.time,I r.fst,I r.cn,I r.left,I r.ie,I r.extra,B r.done,B r.eU,I r.limit,I r.up,I r.down]
theorem Rn.len(r:Rn):r.cells.length=12:=rfl
section
variable (t:Tb) (C:aY) (s:Rd) (l:List Rn) (n ask:Int) (f k:Nat) (r:Rn)
def aQ:List AV:=l.flatMap Rn.cells
theorem c8{l:List Rn} (h:l.length=8):(aQ l).length=96:=by rw[aQ,aN Rn.len,h]
def mM:Int:=s.lock.getD k 0
def gY:Bs:=(t.f9.getD []).getD k default
def eF:Nat:=min (t.f9.getD []).length 4
def iY(s:Int):List Nat:=(List.range (eF t)).filter λk=>tb s k
def pS:List AV:=[I k,.agg (gY t k).cells]
theorem Rd.at{s:Rd} (h:s.lock.length=4) {k:Nat} (hk:k<4):s.cells[k]? =some (I (mM s k)):=by
 have A:k<s.lock.length:=ST
 simp[Rd.cells,rh,A,mM]
theorem Rd.Rf{s:Rd} (h:s.lock.length=4):s.cells[4]? =some (I s.was):=by simp[Rd.cells,h]
theorem Rd.jy{s:Rd} (h:s.lock.length=4):s.cells[5]? =some (I s.bF):=by simp[Rd.cells,h]
theorem Rd.len{s:Rd} (h:s.lock.length=4):s.cells.length=6:=by simp[Rd.cells,h]
theorem Rd.whole{s:Rd} (h:s.lock.length=4):aF s.cells 0 (some 6)=some (.agg s.cells):=by
 have:=Rd.len h
 simp[aF,this];rw[<-this,gn]
theorem bQ{l:List Rn} (h:l.length=8):aF (aQ l) 0 (some 96)=some (.agg (aQ l)):=by
 have:=c8 h
 simp[aF,this];rw[<-this,gn]
theorem gl{l:List Rn} {k:Nat} (h:l.length=8) (hk:k<8):aF (aQ l) (k*12) (some 12)=some (.agg (l.getD k default).cells):=by
 have A:l[k]? =some (l.getD k default):=by
  have:k<l.length:=ST
  simp[this]
 rw[aQ,iS A]
 exact iB (by rw[aN Rn.len,iT A]) rfl
theorem JL{t:Tb} {s:Int} {i k:Nat} (h:(iY t s)[i]? =some k):k<4/\k<(t.f9.getD []).length/\tb s k=true:=by
 have:=em h
 simp only[iY,px,fp,eF]at this
 exact⟨ST,ST,this.2⟩
def EF.Spec:Prop:=∀n:Int,C.c f [I n] (I (bZ ((if 9999<(if 0>n then 0 else n)then 9999 else(if 0>n then 0 else n))+1))) none
def each.Spec:Prop:=∀(t:Tb) (s:Int),t.Ok->∃g,C.c f [.agg t.cells,I s] (.fn (.func g) [] [.ref t.cells,.ref [I s]]) none/\C.i (.fn (.func g) [] [.ref t.cells,.ref [I s]]) ((iY t s).map (pS t))
def CB:Int:=if mM s k<=0 then rP .i64 n (2^k)else n
def kB:Int:=(iY t ask).foldl (CB s) 0
def Live.Spec:Prop:=∀(t:Tb) (s:Rd) (ask:Int),t.Ok->s.lock.length=4->C.c f [.agg t.cells,.agg s.cells,I ask] (I (kB t s ask)) none
def gb(A:Rn->Bool) (l:List Rn):Nat->Int
 |0=>0
 |k+1=>if A (l.getD k default)then bJ (gb A l k) k else gb A l k
def v8.Spec:Prop:=∀(l:List Rn) (g:Nat) (caps:List AV) (A:Rn->Bool),l.length=8->(∀r:Rn,C.c g (.agg r.cells::caps) (B (A r)) none)->C.c f [.agg (aQ l),.fn (.func g) [] caps] (I (gb A l 8)) none
def GD:Int:=rP .i64 n (gY t k).set
def EG:Bool:=r.aH==1&&decide (r.extra<t.extend)
def wV:Int:=if s.bF>=t.gW then 0 else bK .i64 ((iY t (kB t s ask)).foldl (GD t) 0) (gb (EG t) l 8)
def JM.Spec:Prop:=∀(t:Tb) (r:Rn),t.Ok->C.c f [.agg r.cells,.ref t.cells] (B (EG t r)) none
def JN.Spec:Prop:=∀(t:Tb) (s:Rd) (l:List Rn) (ask:Int),t.Ok->s.lock.length=4->l.length=8->C.c f [.agg t.cells,.agg s.cells,.agg (aQ l),I ask] (I (wV t s l ask)) none
def iL:Bool:=r.aH==1
def EH.Spec:Prop:=∀(r:Rn),C.c f [.agg r.cells] (B (iL r)) none
def si(green n:Int) (k:Nat):Int:=if bK .i64 (gY t k).set green==0 then rP .i64 n (aJ .i64 255 (gY t k).set)else n
def yz:Int:=(iY t (kB t s ask)).foldl (si t (gb iL l 8)) 0
def Early.Spec:Prop:=∀(t:Tb) (s:Rd) (l:List Rn) (ask:Int),t.Ok->s.lock.length=4->l.length=8->C.c f [.agg t.cells,.agg s.cells,.agg (aQ l),I ask] (I (yz t s l ask)) none
theorem yA{α:Type} {f:Int->α->Int} {b:Int} {l:List α} {i:Nat} {x:α} (h:l[i]? =some x):(l.take (i+1)).foldl f b=f ((l.take i).foldl f b) x:=jU h
theorem zJ{k:Nat} (hk:k<8):IntKind.i64.wrap (1*2^min k IntKind.i64.bits)=2^k:=by
 have:k=0\/k=1\/k=2\/k=3\/k=4\/k=5\/k=6\/k=7:=ST
 rcases this with rfl|rfl|rfl|rfl|rfl|rfl|rfl|rfl<;>decide
theorem Tb.GF{t:Tb} (A:t.Ok):t.cells[116]? =some (I t.extend):=by
 simp[Tb.cells,rh,aN Ph.len,A.phases,A.conflict]
theorem Tb.GG{t:Tb} (A:t.Ok):t.cells[117]? =some (I t.gW):=by
 simp[Tb.cells,rh,aN Ph.len,A.phases,A.conflict]
end
section
variable{P:Program} (hm:P.follows .mixedOrders=true) {f:Nat}
include hm
theorem EF.ok(A:bu P f=some sQ):EF.Spec (Pure P) f:=by
 intro n;refine aj hm A [] rfl ?_;try simp only[I,RX,↓KW,seval,sQ,Z.H]
 rfl
theorem EH.ok(A:bu P f=some oc):EH.Spec (Pure P) f:=by
 intro r;refine aj hm A [] rfl ?_;try simp only[I,B,RX,↓KW,seval,oc,Z.H,Rn.cells]
 rfl
theorem JM.ok(D:bu P f=some oX):JM.Spec (Pure P) f:=by
 intro t r E
 have A:(t.cells.drop 116)[0]? =some (AV.int .i64 t.extend):=by rw[lh];exact Tb.GF E
 refine aj hm D [] rfl ?_;try simp only[I,B,RX,↓KW,seval,oX,Z.H,Rn.cells]
 repeat' (((first|refine bn ?_ ?_|refine aB ?_ ?_|refine bM ?_ ?_)<;>intro h)<;>try simp only[RX,↓KW,seval,A,h])
 all_goals simp_all [EG]
theorem v8.ok{V:Nat} (hc:bu P f=some (qA V)) (hW:iq.Spec (Pure P) V):v8.Spec (Pure P) f:=by
 intro l g caps D hl hg
 have L:=bQ hl
 refine aj hm hc [] rfl ?_;try simp only[I,RX,↓KW,seval,qA,Z.H,L]
 refine aD (λk:Nat=>(⟨[(9,.dat (I k) none),(5,.dat (I (gb D l k)) none),(8,.dat (.agg (aQ l)) none),(1,.dat (.fn (.func g) [] caps) none)],[],[],400⟩:S)) (λk=>8-k) (λk=>k<=8) ?_ 0 ST ?_
 ·intro k hk A back
  have R:=aA (k:=k) ST
  try simp only[I,RX,↓KW,seval]
  refine aB (λh=>?_) (λh=>?_)<;>try simp only[RX,↓KW,seval,h]
  ·have h8:k<8:=by have:=dC h;omega
   have O:=gl hl h8
   have hn:gb D l (k+1)=if D (l.getD k default)then bJ (gb D l k) k else gb D l k:=rfl
   have M:=hg (l.getD k default)
   generalize l.getD k default=r at*
   have hp:aF r.cells 0 (some 12)=some (.agg r.cells):=rfl
   try simp only[RX,↓KW,seval,O,bw,Rn.len,hp]
   refine⟨ST,?_⟩
   refine af M ?_;try simp only[B,RX,↓KW,seval]
   refine aB (λE=>?_) (λE=>?_)<;>try simp only[B,RX,↓KW,seval,E]
   ·refine af (hW _ _) ?_
    try simp only[I,RX,↓KW,seval]
    refine back (k+1) _ ST ST (ai Ts ?_ ?_ ?_ ?_)<;>simp[LX,I,R,hn,E]
   ·refine back (k+1) _ ST ST (ai Ts ?_ ?_ ?_ ?_)<;>simp[LX,I,R,hn,E]
  ·have:k=8:=by have:=dE h;omega
   subst this;try simp only[seval]
 ·refine ai Ts ?_ ?_ ?_ ?_<;>simp[LX,I,gb]
theorem Live.ok{E:Nat} (R:bu P f=some (sM E)) (hE:each.Spec (Pure P) E):Live.Spec (Pure P) f:=by
 intro t s ask L V
 have M:=Tb.whole L
 refine aj hm R [] rfl ?_;try simp only[I,RX,↓KW,seval,sM,Z.H,M]
 obtain⟨g,hg,hi⟩:=hE t ask L;refine af hg ?_;try simp only[I,RX,seval]
 refine jw (λn:Int=>(⟨[(11,.dat (.fn (.func g) [] [.ref t.cells,.ref [.int .i64 ask]]) none),(4,.ptr 5 0),(7,.ptr 7 0)],[(5,⟨s.cells,[]⟩),(7,⟨[I n],[]⟩)],[],400⟩:S)) (λi n=>n=((iY t ask).take i).foldl (CB s) 0) hi rfl (jv λ_=>rfl) (λ_=>rfl) ?_ ?_ 0 TB ?_
 ·rintro i x n hx rfl F back
  obtain⟨k,hk,rfl⟩:=pP hx;obtain⟨O,aa,hb⟩:=JL hk
  have D:=Rd.at V O
  have B:=yA (f:=CB s) (b:=0) hk
  have A:=zJ (k:=k) ST
  try simp only[I,RX,↓KW,seval,pS,D]
  refine⟨ST,?_⟩
  refine aB (λh=>?_) (λh=>?_)<;>try simp only[RX,↓KW,seval,h]
  ·try simp only[seval,A]
   refine⟨ST,back _ _ rfl ?_⟩
   refine ai Ts ?_ ?_ ?_ ?_<;>simp[LX,I,B,CB,dC h]
  ·refine back _ _ rfl ?_
   refine ai Ts ?_ ?_ ?_ ?_<;>simp[LX,I,B,CB,dE h]
 ·rintro n B
  try simp only[I,RX,↓KW,seval,B]
  simp[kB]
 ·refine ai Ts ?_ ?_ ?_ ?_<;>simp[LX,I]
theorem JN.ok{fL fE L fT:Nat} (hc:bu P f=some (sN fL fE L fT)) (hL:Live.Spec (Pure P) fL) (hE:each.Spec (Pure P) fE) (h1:JM.Spec (Pure P) L) (hT:v8.Spec (Pure P) fT):JN.Spec (Pure P) f:=by
 intro t s l ask B M D
 have hp:=Tb.whole B
 have aa:=Rd.whole M
 have ab:s.cells[5]? =some (AV.int .i64 s.bF):=Rd.jy M
 have V:t.cells[117]? =some (AV.int .i64 t.gW):=Tb.GG B
 have R:=bQ D
 refine aj hm hc [] rfl ?_;try simp only[I,RX,↓KW,seval,sN,Z.H,ab,V]
 refine aB (λA=>?_) (λA=>?_)<;>try simp only[RX,↓KW,seval,hp,aa,A]
 ·have:=dC A
  simp[wV,this]
 ·have E:=dE A
  refine af (hL t s ask B M) ?_;try simp only[I,RX,↓KW,seval]
  obtain⟨g,hg,hi⟩:=hE t (kB t s ask) B
  refine af hg ?_;try simp only[I,RX,seval]
  refine jw (λn:Int=>(⟨[(22,.dat (.fn (.func g) [] [.ref t.cells,.ref [.int .i64 (kB t s ask)]]) none),(4,.ptr 4 0),(6,.ptr 6 0),(9,.ptr 13 0)],[(4,⟨t.cells,[]⟩),(6,⟨aQ l,[]⟩),(13,⟨[I n],[]⟩)],[],400⟩:S)) (λi n=>n=((iY t (kB t s ask)).take i).foldl (GD t) 0) hi rfl (jv λ_=>rfl) (λ_=>rfl) ?_ ?_ 0 TB ?_
  ·rintro i x n hx rfl F back
   obtain⟨k,hk,rfl⟩:=pP hx
   have O:=yA (f:=GD t) (b:=0) hk
   try simp only[I,RX,↓KW,seval,pS,Bs.cells]
   refine back _ _ rfl ?_
   refine ai Ts ?_ ?_ ?_ ?_<;>simp[LX,I,O,GD]
  ·rintro n O
   try simp only[I,RX,↓KW,seval,O]
   refine mT (by rfl) ?_
   try simp only[RX,↓KW,seval,R]
   refine⟨rfl,af (hT l L [.ref t.cells] (EG t) D (λr=>h1 t r B)) ?_⟩
   try simp only[I,RX,↓KW,seval]
   simp[wV,E]
  ·refine ai Ts ?_ ?_ ?_ ?_<;>simp[LX,I]
theorem Early.ok{R D fL O:Nat} (hc:bu P f=some (qy R D fL O)) (hT:v8.Spec (Pure P) R) (h1:EH.Spec (Pure P) D) (hL:Live.Spec (Pure P) fL) (hE:each.Spec (Pure P) O):Early.Spec (Pure P) f:=by
 intro t s l ask E V A
 have hp:=Tb.whole E
 have M:=Rd.whole V
 have L:=bQ A
 refine aj hm hc [] rfl ?_;try simp only[I,RX,↓KW,seval,qy,Z.H,L]
 refine af (hT l D [] iL A h1) ?_;try simp only[I,RX,↓KW,seval,hp,M]
 refine af (hL t s ask E V) ?_;try simp only[I,RX,↓KW,seval]
 obtain⟨g,hg,hi⟩:=hE t (kB t s ask) E
 refine af hg ?_;try simp only[I,RX,seval]
 refine jw (λn:Int=>(⟨[(20,.dat (.fn (.func g) [] [.ref t.cells,.ref [.int .i64 (kB t s ask)]]) none),(9,.ptr 10 0),(10,.ptr 11 0)],[(10,⟨[I (gb iL l 8)],[]⟩),(11,⟨[I n],[]⟩)],[],400⟩:S)) (λi n=>n=((iY t (kB t s ask)).take i).foldl (si t (gb iL l 8)) 0) hi rfl (jv λ_=>rfl) (λ_=>rfl) ?_ ?_ 0 TB ?_
 ·rintro i x n hx rfl F back
  obtain⟨k,hk,rfl⟩:=pP hx
  have B:=yA (f:=si t (gb iL l 8)) (b:=0) hk
  try simp only[I,RX,↓KW,seval,pS,Bs.cells]
  refine aB (λh=>?_) (λh=>?_)<;>try simp only[RX,↓KW,seval,h]
  ·refine back _ _ rfl ?_
   refine ai Ts ?_ ?_ ?_ ?_<;>simp[LX,I,B,si,h]
  ·refine back _ _ rfl ?_
   refine ai Ts ?_ ?_ ?_ ?_<;>simp[LX,I,B,si,h]
 ·rintro n B
  try simp only[I,RX,↓KW,seval,B]
  simp[yz]
 ·refine ai Ts ?_ ?_ ?_ ?_<;>simp[LX,I]
def JO.Spec(C:aY) (f:Nat):Prop:=∀(t:Tb) (s:Int),t.Ok->C.i (.fn (.func f) [] [.ref t.cells,.ref [I s]]) ((iY t s).map (pS t))
theorem each.ok{A:Nat} (B:bu P f=some (sP A)) (E:JO.Spec (Pure P) A):each.Spec (Pure P) f:=by
 intro t s D;refine⟨A,?_,E t s D⟩;refine aj hm B [] rfl ?_;try simp only[I,RX,↓KW,seval,sP,Z.H]
 simp
end
section
variable (t:Tb) (s:Rd) (ask A:Int) (held:Bool) {k:Nat} (i:Nat) (round:Bool)
theorem Dj(x:Int) (hk:k<8):bK .i64 (x.fdiv (2^min k IntKind.i64.bits)) 1=if tb x k then 1 else 0:=by
 have e:min k IntKind.i64.bits=k:=by have:IntKind.i64.bits=64:=rfl;omega
 have A:tb (x.fdiv (2^k)) 0=tb x k:=by
  rw[yu _ ST,yu _ ST]
  simp
 rw[e,Ew,A]
def JP(n:Int):Int:=bZ ((if 9999<(if 0>n then 0 else n)then 9999 else(if 0>n then 0 else n))+1)
def sR(k:Nat):Int:=if mM s k>0 then bZ (mM s k-1)else if tb s.was k&& !tb ask k then(gY t k).lock else 0
def pT:List Int:=(List.range 4).map λk=>if k<i then sR t s ask k else 0
def Bw:Int:=if held then JP (if round then 0 else s.bF)else if round then 0 else s.bF
def kC:Rd:=⟨pT t s ask (eF t),kB t s ask,Bw s held round⟩
def uE.Spec(C:aY) (f:Nat):Prop:=∀(t:Tb) (s:Rd) (ask:Int) (held round:Bool),t.Ok->s.lock.length=4->C.c f [.agg t.cells,.agg s.cells,I ask,B held,B round] (.agg (kC t s ask held round).cells) none
theorem JQ:iY t 15=List.range (eF t):=by
 rw[iY,List.filter_eq_self];intro k hk;simp only[fp,eF]at hk
 have:k=0\/k=1\/k=2\/k=3:=ST
 rcases this with rfl|rfl|rfl|rfl<;>decide
def kD:List AV:=(⟨pT t s ask i,kB t s ask,A⟩:Rd).cells
theorem JR(hk:k<4):setCells (kD t s ask A k) k [AV.int .i64 (sR t s ask k)]=kD t s ask A (k+1):=by
 have:k=0\/k=1\/k=2\/k=3:=ST
 rcases this with rfl|rfl|rfl|rfl<;>simp[kD,Rd.cells,pT,setCells,io]
theorem GH(hk:k<4) (h:sR t s ask k=0):kD t s ask A k=kD t s ask A (k+1):=by
 have:k=0\/k=1\/k=2\/k=3:=ST
 rcases this with rfl|rfl|rfl|rfl<;>simp[kD,Rd.cells,pT,io,h]
theorem aey(a b c d:AV):setCells [a,b] 0 [c,d]=[c,d]:=rfl
theorem uF:(kD t s ask A i).length=6:=by simp[kD,Rd.cells,pT]
end
section
variable{P:Program} (hm:P.follows .mixedOrders=true) {f:Nat}
include hm
theorem uE.ok{fL fM fE:Nat} (hc:bu P f=some (sO fL fM fE)) (hL:Live.Spec (Pure P) fL) (hM:EF.Spec (Pure P) fM) (hE:each.Spec (Pure P) fE):uE.Spec (Pure P) f:=by
 intro t s ask held round ht hs
 have hp:=Tb.whole ht
 have ab:=Rd.whole hs
 have ar:s.cells[5]? =some (AV.int .i64 s.bF):=Rd.jy hs
 have ae:s.cells[4]? =some (AV.int .i64 s.was):=Rd.Rf hs
 obtain⟨A,O⟩:∃A,A=Bw s held round:=⟨_,rfl⟩
 refine aj hm hc [] rfl ?_;try simp only[I,B,RX,↓KW,seval,sO,Z.H,hp,ab]
 refine af (hL t s ask ht hs) ?_
 cases held<;>cases round
 all_goals
  try simp only[I,RX,↓KW,seval,hp,ar]
  repeat' (first|(refine af (hM _) ?_;try simp only[I,RX,↓KW,seval,hp])|(((first|refine bn ?_ ?_|refine aB ?_ ?_|refine bM ?_ ?_)<;>intro h)<;>try simp only[I,B,D,RX,↓KW,seval,hp,ab,h]))
  obtain⟨g,hg,hi⟩:=hE t 15 ht;refine af hg ?_;try simp only[I,RX,seval]
  refine jw (λy:Nat=>(⟨[(29,.dat (.fn (.func g) [] [.ref t.cells,.ref [.int .i64 15]]) none),(6,.ptr 5 0),(11,.ptr 15 0),(7,.ptr 6 0),(10,.ptr 7 0)],[(5,⟨s.cells,[]⟩),(15,⟨kD t s ask A y,[]⟩),(6,⟨[I ask],[]⟩),(7,⟨[I 0,I 0,I 0,I 0,I 0,I 0],[]⟩)],[],400⟩:S)) (λi y=>y=i/\i<=eF t) hi rfl (jv λ_=>rfl) (λ_=>rfl) ?_ ?_ 0 TB ?_
  ·rintro i x y hx ⟨rfl,au⟩ F back
   obtain⟨k,hk,rfl⟩:=pP hx;obtain⟨h4,a2,hb⟩:=JL hk
   have ag:y=k:=by
    rw[JQ]at hk
    have h1:=(er.1 hk).1
    rw[kr (by simpa using h1)]at hk
    simpa using hk
   subst ag
   have ac:=Rd.at hs h4
   have am:=Dj s.was (k:=y) ST
   have an:=Dj ask (k:=y) ST
   have L:=JR t s ask A h4
   have M:=GH t s ask A h4
   have R:y+1<=eF t:=by simp only[eF];omega
   try simp only[I,RY,↓KW,seval,pS,ac,Bs.cells]
   refine⟨ST,?_⟩
   refine aB (λh=>?_) (λh=>?_)<;>try simp only[RY,↓KW,seval,h]
   ·have hN:sR t s ask y=IntKind.i64.wrap (mM s y-1):=by simp[sR,bZ,dC h]
    rw[hN]at L;try simp only[I,RY,↓KW,seval,ac,uF,L]
    refine⟨ST,ST,ST,back (y+1) _ ⟨rfl,R⟩ ?_⟩
    refine ai Ts ?_ ?_ ?_ ?_<;>simp[LX,I]
   ·have h':=dE h
    try simp only[RY,↓KW,seval,ae,am]
    cases ad:tb s.was y<;>cases V:tb ask y
    all_goals
     have hN:sR t s ask y=if tb s.was y&& !tb ask y then(gY t y).lock else 0:=by simp[sR,h']
     rw[hN,ad,V]at L;rw[hN,ad,V]at M;try simp only[RY,↓KW,seval,V,an,aey,uF]
     repeat' (refine cB ST ?_)
     refine back (y+1) _ ⟨rfl,R⟩ ?_
    ·have E:=M TB
     refine ai Ts ?_ ?_ ?_ ?_<;>simp[LX,I,E]
    ·have E:=M TB
     refine ai Ts ?_ ?_ ?_ ?_<;>simp[LX,I,E]
    ·simp only[fx,Fd,kh]at L
     refine ai Ts ?_ ?_ ?_ ?_<;>simp[LX,I,L]
    ·have E:=M TB
     refine ai Ts ?_ ?_ ?_ ?_<;>simp[LX,I,E]
  ·rintro y ⟨rfl,au⟩
   have e:(iY t 15).length=eF t:=by rw[JQ];simp
   have aa:=uF t s ask A (eF t)
   have ak:(kD t s ask A (eF t)).take 6=kD t s ask A (eF t):=by rw[l4];omega
   have ao:setCells [AV.int .i64 0,AV.int .i64 0,AV.int .i64 0,AV.int .i64 0,AV.int .i64 0,AV.int .i64 0] 0 (kD t s ask A (eF t))=kD t s ask A (eF t):=eI (by rw[aa];rfl)
   have al:aF (kD t s ask A (eF t)) 0 (some 6)=some (.agg (kD t s ask A (eF t))):=by simp[aF,aa,ak]
   try simp only[I,RY,↓KW,seval,e,uF,ao,al]
   simp[kD,kC,O]
  ·refine ai Ts ?_ ?_ ?_ ?_<;>simp[LX,I,O,Bw,JP,bZ,kD,Rd.cells,pT,io]
def ez(l:List Rn):Nat->Int
 |0=>0
 |k+1=>if(l.getD k default).aH=1 then gz (ez l k) k else ez l k
def jF.Spec(C:aY) (f:Nat):Prop:=∀(l:List Rn),l.length=8->C.c f [.agg (aQ l)] (I (ez l 8)) none
omit hm in
theorem yB{l:List Rn} {k:Nat} (h:l.length=8) (hk:k<8):(aQ l)[k*12]? =some (AV.int .i64 (l.getD k default).aH):=by
 have A:l[k]? =some (l.getD k default):=by
  have:k<l.length:=ST
  simp[this]
 rw[aQ,iS A,kw (by rw[aN Rn.len,iT A];omega),aN Rn.len,iT A]
 simp[Rn.cells]
theorem jF.ok{M:Nat} (hc:bu P f=some (uv M)) (hW:fJ.Spec (Pure P) M):jF.Spec (Pure P) f:=by
 intro l V;refine aj hm hc [] rfl ?_;try simp only[I,RX,↓KW,seval,uv,Z.H]
 refine aD (λk:Nat=>(⟨[(4,.dat (I k) none),(1,.ptr 4 0),(3,.dat (I (ez l k)) none)],[(4,⟨aQ l,[]⟩)],[],400⟩:S)) (λk=>8-k) (λk=>k<=8) ?_ 0 ST ?_
 ·intro k hk A back
  have L:=aA (k:=k) ST
  try simp only[I,RX,↓KW,seval]
  refine aB (λh=>?_) (λh=>?_)<;>try simp only[RX,↓KW,seval,h]
  ·have R:k<8:=by have:=dC h;omega
   have E:=yB V R
   have O:ez l (k+1)=if(l.getD k default).aH=1 then gz (ez l k) k else ez l k:=rfl
   generalize l.getD k default=r at*
   refine⟨ST,?_⟩
   try simp only[RX,↓KW,seval,E]
   refine aB (λD=>?_) (λD=>?_)<;>try simp only[RX,↓KW,seval,D]
   ·have B:r.aH=1:=by simpa using D
    refine af (hW _ _) ?_;try simp only[I,RX,↓KW,seval]
    refine back (k+1) _ ST ST (ai Ts ?_ ?_ ?_ ?_)<;>simp[LX,I,L,O,B]
   ·have B:¬r.aH=1:=by simpa using D
    refine back (k+1) _ ST ST (ai Ts ?_ ?_ ?_ ?_)<;>simp[LX,I,L,O,B]
  ·have:k=8:=by have:=dE h;omega
   subst this;try simp only[seval]
 ·refine ai Ts ?_ ?_ ?_ ?_<;>simp[LX,I,ez]
end
def Sh.acF(s:Sh) (k:Nat) (x:Int):Sh:={s with time:=s.time.set k x}
section
variable{s:Sh} (h:s.Ok) {k:Nat} (hk:k<8) (x:Int)
include h
theorem Sh.FO:(s.acF k x).Ok:=⟨h.aH,by simp[Sh.acF,h.time],h.dZ,h.cn⟩
include hk
end
structure ff where
 group:Int
 a0:Int
 a1:Int
 iD:Bool
 deriving Inhabited,DecidableEq
def ff.cells(r:ff):List AV:=[I r.group,I r.a0,I r.a1,B r.iD]
structure Pr where
 aq:Int
 which:Int
 time:Int
 held:List Int
 bF:Int
 deriving Inhabited,DecidableEq
def Pr.cells(p:Pr):List AV:=I p.aq::I p.which::I p.time::(p.held.map I++[I p.bF])
structure Ch where
 on:Bool
 dc:Int
 Pk:Int
 C9:Int
 held:Int
 tail:Int
 out:Bool
 deriving Inhabited,DecidableEq
def Ch.cells(c:Ch):List AV:=[B c.on,I c.dc,I c.Pk,I c.C9,I c.held,I c.tail,B c.out]
structure bt where
 runs:List Rn
 rings:ff
 iO:Rd
 pre:Pr
 calls:Cs
 fj:Option (List Ch)
 deriving Inhabited,DecidableEq
def bt.cells(s:bt):List AV:=aQ s.runs++(s.rings.cells++(s.iO.cells++(s.pre.cells++(s.calls.cells++[aI Ch.cells s.fj]))))
structure bt.Ok (s:bt):Prop where
 runs:s.runs.length=8
 lock:s.iO.lock.length=4
 held:s.pre.held.length=4
def bt.rn(s:bt) (k:Nat):Rn:=s.runs.getD k default
section
variable{s:bt} (h:s.Ok)
include h
theorem bt.len:s.cells.length=117:=by
 simp[bt.cells,c8 h.runs,ff.cells,Rd.cells,Pr.cells,Cs.cells,h.lock,h.held]
theorem bt.whole:aF s.cells 0 (some 117)=some (.agg s.cells):=by
 have:=bt.len h
 simp[aF,this];rw[<-this,gn]
theorem bt.v9:aF s.cells 0 (some 96)=some (.agg (aQ s.runs)):=by
 have:=iB (pre:=[]) (mid:=aQ s.runs) (post:=s.rings.cells++(s.iO.cells++(s.pre.cells++(s.calls.cells++[aI Ch.cells s.fj])))) (off:=0) (z:=96) rfl (c8 h.runs)
 exact this
theorem bt.Rh{k j:Nat} (hk:k<8) (A:j<12):s.cells[k*12+j]? =(s.rn k).cells[j]?:=by
 rw[bt.cells,lc (by rw[c8 h.runs];omega)]
 exact jD (gl h.runs hk) A
end
section
variable (C:aY) {k:Nat} {s:bt} (f:Nat) (t:Tb)
theorem bt.M6(h:s.Ok) (hk:k<8) (r:Rn):setCells s.cells (k*12) r.cells={s with runs:=s.runs.set k r}.cells:=by
 have B:=h.runs
 have A:s.runs[k]? =some (s.rn k):=by
  have:k<s.runs.length:=ST
  simp[bt.rn,this]
 unfold bt.cells aQ;simp only;rw[QK A,Ix,wc]
 conv=>lhs;rw[iS A]
 rw[List.append_assoc,List.append_assoc,List.append_assoc,List.append_assoc]
 exact oP (by rw[aN Rn.len,iT A]) rfl
theorem bt.setAt(h:s.Ok) (x y:Int):setCells s.cells 97 [I x,I y]={s with rings:={s.rings with a0:=x,a1:=y}}.cells:=by
 have e:s.cells=(aQ s.runs++[I s.rings.group])++([I s.rings.a0,I s.rings.a1]++([B s.rings.iD]++(s.iO.cells++(s.pre.cells++(s.calls.cells++[aI Ch.cells s.fj]))))):=by
  simp[bt.cells,ff.cells]
 rw[e,oP (mid:=[I s.rings.a0,I s.rings.a1]) (ps:=[I x,I y]) (by simp[c8 h.runs]) rfl]
 simp[bt.cells,ff.cells]
def wW(x:Ph):Rn:=⟨0,9999,0,0,0,0,0,false,false,x.max,0,0⟩
def jX(k:Nat):bt:=⟨(List.range 8).map λp=>if p<k then wW (aO t p)else default,⟨0,0,0,false⟩,⟨[0,0,0,0],0,0⟩,⟨0,0,0,[0,0,0,0],0⟩,⟨0,0⟩,none⟩
def qE:bt:={jX t 8 with rings:=⟨0,-1,-1,false⟩}
theorem uG(k:Nat):(jX t k).Ok:=⟨by simp[jX],rfl,rfl⟩
theorem jc:(qE t).Ok:=⟨by simp[qE,jX],rfl,rfl⟩
theorem EI(hk:k<8):{jX t k with runs:=(jX t k).runs.set k (wW (aO t k))}=jX t (k+1):=by
 have:k=0\/k=1\/k=2\/k=3\/k=4\/k=5\/k=6\/k=7:=ST
 rcases this with rfl|rfl|rfl|rfl|rfl|rfl|rfl|rfl<;>simp[jX,io]
theorem LJ:(jX t 0).cells=bI:=rfl
def zK.Spec:Prop:=∀x:Ph,C.c f [.agg x.cells] (.agg (wW x).cells) none
def nu.Spec:Prop:=∀t:Tb,t.Ln->C.c f [.agg t.cells] (.agg (qE t).cells) none
end
section
variable{P:Program} (hm:P.follows .mixedOrders=true) {f:Nat}
include hm
theorem zK.ok(A:bu P f=some uC):zK.Spec (Pure P) f:=by
 intro x;refine aj hm A [] rfl ?_;try simp only[I,B,RX,↓KW,Nat.reduceBEq,Nat.reduceAdd,uC,Z.H,Ph.cells,bw]
 rfl
theorem nu.ok{fB:Nat} (hc:bu P f=some (uB fB)) (hB:zK.Spec (Pure P) fB):nu.Spec (Pure P) f:=by
 intro t ht
 have V:bI.length=117:=rfl
 refine aj hm hc [] rfl ?_;try simp only[RY,↓KW,Nat.reduceBEq,Nat.reduceAdd,uB,Z.H]
 refine aD (λk:Nat=>(⟨[(4,.dat (I k) none),(1,.ptr 4 0),(2,.ptr 5 0),(3,.ptr 6 0)],[(4,⟨t.cells,[]⟩),(5,⟨bI,[]⟩),(6,⟨(jX t k).cells,[]⟩)],[],400⟩:S)) (λk=>8-k) (λk=>k<=8) ?_ 0 ST ?_
 ·intro k hk A back
  have hw:=aA (k:=k) ST
  try simp only[I,RY,↓KW,Nat.reduceBEq,Nat.reduceAdd]
  refine aB (λE=>?_) (λE=>?_)<;>try simp only[RY,↓KW,Nat.reduceBEq,Nat.reduceAdd,E]
  ·have M:k<8:=by have:=dC E;omega
   have hx:0<=(k:Int)/\(k:Int)<(8:Nat):=ST
   have R:=Tb.ij (ht.jL M)
   have L:=bt.M6 (uG t k) M (wW (aO t k))
   rw[EI t M]at L
   have B:=bt.len (uG t k)
   try simp only[RY,↓KW,hx,R]
   refine af (hB _) ?_;try simp only[RY,↓KW,Nat.reduceBEq,Nat.reduceAdd,Nat.reduceLeDiff,hx,L,Rn.len,B]
   refine⟨ST,back (k+1) _ ST ST ?_⟩
   refine ai Ts ?_ ?_ ?_ ?_<;>simp[LX,I,hw]
  ·have:k=8:=by have:=dE E;omega
   subst this
   have B:=bt.len (uG t 8)
   have L:setCells (jX t 8).cells 97 [I (-1),I (-1)]=(qE t).cells:=bt.setAt (uG t 8) (-1) (-1)
   have D:=bt.len (jc t)
   have O:=bt.whole (jc t)
   have hz:setCells bI 0 (qE t).cells=(qE t).cells:=eI (by rw[D];rfl)
   try simp only[RY,↓KW,Nat.reduceBEq,Nat.reduceAdd,Nat.reduceLeDiff,L,B,D,O,hz,V]
 ·refine ai Ts ?_ ?_ ?_ ?_<;>simp[LX,I,LJ]
end
section
variable {c:List Int} {p q:Nat}
theorem yC(A:Rn->Bool) (l:List Rn):∀k,k<=8->∀i,tb (gb A l k) i=(decide (i<k)&&A (l.getD i default))
 |0,_,i=>by simp[gb,dr]
 |k+1,h,i=>by
  have B:=yC A l k ST i
  simp only[gb];split
  ·rename_i hk
   rw[jE ST,B]
   by_cases e:i=k
   ·subst e;simp only[xr,wi,show i<i+1 from Nat.lt_succ_self i,kt];exact hk.symm
   ·have:(i<k+1)↔i<k:=ST
    simp[e,this];omega
  ·rename_i hk
   rw[B]
   by_cases e:i=k
   ·subst e
    simp only[xi]at hk;rw[hk];simp
   ·have:(i<k+1)↔i<k:=ST
    simp[this]
theorem uH{s:Int} (B:p<8) (i:Nat):tb (gz s p) i=(decide (i<8)&&(tb s i||decide (i=p))):=by
 rw[gz,Gz]
 by_cases h:i<8
 ·have:((i:Int)∈dM s++[(p:Int)])↔(tb s i=true\/i=p):=by
   simp only[dM,il,px,i8,fp,lm];rw[nr h];constructor
   ·rintro(⟨_,A⟩|A)
    ·exact .inl A
    ·exact .inr ST
   ·rintro(A|A)
    ·exact .inl ⟨⟨i,h,rfl⟩,A⟩
    ·exact .inr ST
  simp[h,this]
 ·simp[h]
theorem OG{l:List Rn} {k:Nat} (h:l.length=8) (hk:k<8):(aQ l)[k*12+6]? =some (AV.int .i64 (l.getD k default).extra):=by
 have A:l[k]? =some (l.getD k default):=by
  have:k<l.length:=ST
  simp[this]
 have e:((l.take k).flatMap Rn.cells).length=k*12:=by rw[aN Rn.len,iT A]
 rw[aQ,iS A,kw ST,e]
 rw[show k*12+6-k*12=6 by omega]
 rfl
structure afR (t:Tb) (s:Rd):Prop where
 len:s.lock.length=4
 bF:s.bF=0
 lo:∀k,0<=mM s k/\mM s k<=30
 off:∀k,eF t<=k->mM s k=0
 was:∀k,tb s.was k=true->k<eF t
def Ri(c:List Int):Prop:=∀i j:Nat,i<8->j<8->tb (wT c i) j=tb (wT c j) i
theorem Dk{i:Nat} {v:Int} (A:p<c.length):wT (c.set p v) i=if i=p then v else wT c i:=by
 simp only[wT,eh,List.getElem?_set]
 by_cases h:p=i
 ·subst h;simp[A]
 ·have:¬i=p:=λe=>h e.symm
  simp[h,this]
theorem OH{t:Tb} {l:Option (List Int)} (hc:c.length=8) (M:p<8) (O:q<p) (h:Ri c):Ri (gB t l p q c):=by
 unfold gB;split
 ·intro i j L E
  have A:p<c.length:=ST
  have B:q<(c.set p (gz (wT c p) q)).length:=by simp;omega
  have D:¬q=p:=ST
  simp only[Dk B,Dk A,D,ib]
  have hs:=h i j L E
  by_cases Z:i=q<;>by_cases R:j=q<;>by_cases h3:i=p<;>by_cases V:j=p<;>
   simp_all [uH,show q<8 by omega]<;>omega
 ·exact h
theorem JS{t:Tb} {l:Option (List Int)} {p:Nat} {c:List Int} (B:c.length=8) (A:p<8) (h:Ri c):∀q,q<=p->Ri (jb t l p q c)
 |0,_=>h
 |q+1,D=>OH (by rw[l9,B]) A ST (JS B A h q ST)
theorem M7{t:Tb} {l:Option (List Int)}:∀p,p<=8->Ri (gk t l p)
 |0,_=>by
  intro i j B D
  have:∀i:Nat,wT (gk t l 0) i=0:=by
   intro i
   simp only[wT,gk,eh,PP];split<;>rfl
  rw[this,this,dr,dr]
 |p+1,A=>JS (dU p) ST (M7 p ST) p (ia p)
theorem OI(l:Option (List Int)) (A:p<8) (B:q<8):tb (gG (cJ l) p) q=tb (gG (cJ l) q) p:=
 M7 (d8 l).2 (v7 l) p q A B
end
section
variable{t:Tb} (h:t.Ln)
include h
theorem Y4:aF t.cells 0 (some 104)=some (.agg (t.phases.flatMap Ph.cells)):=by
 have e:(t.phases.flatMap Ph.cells).length=104:=by rw[aN Ph.len,h.phases]
 have l:=h.len
 simp only[aF]
 rw[et ST,lL,Tb.cells,If e]
end
section
variable (C:aY) {i k m n p:Nat} {t:Tb} {x:Int} (f:Nat) (l:List Int) (s:Int)
def Can:Prop:=0<=s/\s<256
theorem mb{s:Int} (h:Can s) (D:8<=i) (A:i<64):tb s i=false:=by
 rw[yu s A]
 have E:(2:Int)^8<=2^i:=by
  have e:(2:Int)^i=2^8*2^(i-8):=by rw[<-Int.pow_add];congr 1;omega
  have:(1:Int)<=2^(i-8):=by have:=Int.pow_pos (n:=(2:Int)) (m:=i-8) Ts;omega
  rw[e];have B:(2:Int)^8=256:=rfl
  rw[B];omega
 have:s.fdiv (2^i)=0:=by
  rw[Kp _ ST]
  exact Int.ediv_eq_zero_of_lt h.1 (by have:=h.2;omega)
 rw[this];rfl
theorem iM{y:Int} (M:Can x) (L:Can y) (h:∀i,i<8->tb x i=tb y i):x=y:=by
 have O:bv x=bv y:=by
  apply xn
  intro i R
  have A:i<64:=R
  rcases kn i 8 with B|B
  ·exact h i B
  ·have a:=mb M B A
   have b:=mb L B A
   simp only[tb]at a b;rw[a,b]
 have:=ne BitVec.toNat O
 simp only[bv,LE]at this
 have D:=M;have E:=L
 unfold Can at D E
 have e:((2^64:Nat):Int)=18446744073709551616:=Ts
 rw[e]at this;omega
theorem Y5(B:0<=x) (L:x<18446744073709551616) (h:∀i,8<=i->i<64->tb x i=false):Can x:=by
 refine⟨B,?_⟩
 have E:(bv x).toNat=x.toNat:=by
  simp only[bv,LE]
  have e:((2^64:Nat):Int)=18446744073709551616:=Ts
  rw[e];omega
 have:x.toNat<2^8:=by
  apply Nat.lt_pow_two_of_testBit
  intro i D
  rcases kn i 64 with A|A
  ·have:=h i D A
   simp only[tb,BitVec.getLsbD]at this;rw[<-E];exact this
  ·apply P0
   have:x.toNat<2^64:=by
    omega
   exact nm this (ml Ts A)
 omega
theorem EJ(b:BitVec 64) (h:b.getLsbD 63=false):IntKind.i64.wrap (b.toNat:Int)=b.toNat/\(b.toNat:Int)<9223372036854775808:=by
 have:b.toNat<2^63:=by
  apply Nat.lt_pow_two_of_testBit
  intro i B
  rcases kn i 64 with A|A
  ·have:i=63:=ST
   subst this;exact h
  ·apply P0
   exact nm b.isLt (ml Ts A)
 refine⟨aU ST ST,ST⟩
theorem qF{b:BitVec 64} (h:∀i,8<=i->i<64->b.getLsbD i=false):Can (IntKind.i64.wrap (b.toNat:Int)):=by
 obtain⟨D,E⟩:=EJ b (h 63 Ts Ts)
 rw[D]
 refine Y5 ST ST λi B A=>?_
 simp only[tb,HP];exact h i B A
theorem jz{s:Int} (A:p<8):Can (bJ s p):=by
 have:bJ s p=IntKind.i64.wrap (((bv (bK .i64 s 255))|||bv (jt p)).toNat:Int):=rfl
 rw[this]
 refine qF λi E D=>?_
 rw[Pi]
 have a:=jK s 255 i
 have b:=Ev A i
 simp only[tb]at a b;rw[a,b]
 have c:=iX i
 simp only[tb]at c;rw[c]
 have:¬i<8:=ST
 have B:¬i=p:=ST
 simp[this,B]
theorem JT(l:List Int):∀k,k<=8->Can (yo l k)
 |0,_=>by show Can 0;exact⟨Ts,Ts⟩
 |k+1,h=>by
  have B:=JT l k ST
  simp only[yo];split
  ·have e:rP .i64 (yo l k) (2^k)=IntKind.i64.wrap ((bv (yo l k)|||bv (2^k)).toNat:Int):=rfl
   rw[e]
   refine qF λi D A=>?_
   rw[Pi]
   have a:=mb B D A
   have b:=LD (p:=k) ST i
   simp only[tb]at a b;rw[a,b]
   have:¬i=k:=ST
   simp[this]
  ·exact B
theorem Dl:Can (SU l):=JT l 8 ST
theorem Bx(p:Int):Can (gz s p):=Dl _
theorem Vb(h:t.Ln) (A:p<8):aF (t.phases.flatMap Ph.cells) (p*13) (some 13)=some (.agg (aO t p).cells):=by
 rw[iS (h.jL A)]
 exact iB (by rw[aN Ph.len,iT (h.jL A)]) rfl
def qG(t:Tb):Nat->Int
 |0=>0
 |k+1=>if(aO t k).on then bJ (qG t k) k else qG t k
theorem GI(t:Tb):∀k,k<=8->Can (qG t k)
 |0,_=>by show Can 0;exact⟨Ts,Ts⟩
 |k+1,h=>by
  simp only[qG];split
  ·exact jz ST
  ·exact GI t k ST
theorem JU(t:Tb) (i:Nat):∀k,k<=8->tb (qG t k) i=(decide (i<k)&&(aO t i).on)
 |0,_=>by simp[qG,dr]
 |k+1,h=>by
  have B:=JU t i k ST
  simp only[qG];split
  ·rename_i hk
   rw[jE ST,B]
   by_cases e:i=k
   ·subst e;simp[hk]
   ·have D:(i<k+1)↔i<k:=ST
    have E:i<k->i<8:=ST
    by_cases A:i<k
    ·simp[D,A,E A,e]
    ·simp[D,A,e]
  ·rename_i hk
   rw[B]
   by_cases e:i=k
   ·subst e;simp[hk]
   ·have:(i<k+1)↔i<k:=ST
    simp[this]
theorem Y6(t:Tb) (i:Nat):tb (oS t) i=(decide (i<8)&&(aO t i).on):=by
 rw[oS,Gz]
 by_cases h:i<8
 ·have:(i:Int)∈ic t 8↔(aO t i).on=true:=by
   simp only[ic,px,i8,fp,Int.natCast_inj];constructor
   ·rintro⟨_,A⟩;exact A
   ·intro A;exact⟨⟨i,h,rfl⟩,A⟩
  simp[h,this]
 ·simp[h]
theorem Y7(t:Tb):qG t 8=oS t:=iM (GI t 8 ST) (Dl _) λi A=>by rw[JU t i 8 ST,Y6]
theorem JV(l:List Gr) (h:n<=m) (hm:m<=l.length):∃r,cm l m=cm l n++r:=by
 induction m with
 |zero=>exact⟨[],by rw[show n=0 by omega];simp⟩
 |succ m D=>
  rcases kn n (m+1)with h1|h1
  ·obtain⟨r,E⟩:=D ST ST
   obtain⟨B,A⟩:∃x,l[m]? =some x:=⟨_,dT ST⟩
   exact⟨r++bP B m 2,by rw[ir A,E,List.append_assoc]⟩
  ·exact⟨[],by rw[show n=m+1 by omega];simp⟩
theorem JW(A:Gr) (g:Nat) (hk:k<2):∃r,bP A g 2=bP A g k++(aW g k ((A.row k).getD [])++r):=by
 have:k=0\/k=1:=ST
 rcases this with rfl|rfl
 ·exact⟨aW g 1 ((A.row 1).getD []),by rw[dI,dI,List.append_assoc]⟩
 ·exact⟨[],by rw[dI];simp⟩
theorem HY(g k:Nat) (row:List Int) (h:n<=m) (hm:m<=row.length):∃r,aW g k (row.take m)=aW g k (row.take n)++r:=by
 induction m with
 |zero=>exact⟨[],by rw[show n=0 by omega];simp⟩
 |succ m E=>
  rcases kn n (m+1)with h1|h1
  ·obtain⟨r,B⟩:=E ST ST
   obtain⟨x,L⟩:∃x,row[m]? =some x:=⟨_,dT ST⟩
   have D:=iG (g:=g) (k:=k) L
   by_cases A:0<=x/\x<8
   ·exact⟨r++[⟨g,k,m,x⟩],by rw[D.1 A,B,List.append_assoc]⟩
   ·exact⟨r,by rw[D.2 A,B]⟩
  ·exact⟨[],by rw[show n=m+1 by omega];simp⟩
theorem JX{p:Int} {g:Nat} {A:Gr} (O:0<=p/\p<8) (E:(t.groups.getD [])[g]? =some A) (hk:k<2) (L:((A.row k).getD [])[i]? =some p) (B:∀x∈cm (t.groups.getD []) g++bP A g k++aW g k (((A.row k).getD []).take i),x.p≠p):az t p=(⟨g,k,i,p⟩,true):=by
 have aa:=(er.1 E).1
 have ab:=(er.1 L).1
 obtain⟨r1,h1⟩:=JV (t.groups.getD []) (n:=g+1) (m:=(t.groups.getD []).length) ST (ia _)
 obtain⟨M,Z⟩:=JW A g hk
 obtain⟨V,D⟩:=HY g k ((A.row k).getD []) (n:=i+1) (m:=((A.row k).getD []).length) ST (ia _)
 rw[gn]at D
 have h4:=(iG (g:=g) (k:=k) L).1 O
 have hs:aS t=(cm (t.groups.getD []) g++bP A g k++aW g k (((A.row k).getD []).take i))++(⟨g,k,i,p⟩::(V++M++r1)):=by
  rw[aS,h1,ir E,Z,D,h4];simp only[List.append_assoc,s9,kx]
 have R:(aS t).find? (λx=>x.p==p)=some ⟨g,k,i,p⟩:=by
  rw[hs,Os]
  have:(cm (t.groups.getD []) g++bP A g k++aW g k (((A.row k).getD []).take i)).find? (λx=>x.p==p)=none:=by
   rw[mf];intro x hx;simpa using B x hx
  rw[this];simp
 simp[az,R]
theorem GJ{p:Int} (h:∀x∈aS t,x.p≠p):az t p=(⟨0,0,0,0⟩,false):=by
 have:(aS t).find? (λx=>x.p==p)=none:=by
  rw[mf];intro x A;simpa using h x A
 simp[az,this]
theorem CC{x:Sp} (h:x∈aS t):0<=x.p/\x.p<8:=by
 simp only[aS,cm,bP,aW,sT,xv]at h;obtain⟨⟨B,g⟩,_,k,_,⟨y,i⟩,_,h⟩:=h;simp only at h;split at h
 ·rename_i A;cases h;exact A
 ·cases h
def SW:Int:=l.foldl (λs p=>rP .i64 s (jt p)) 0
def setOf.Spec:Prop:=∀l:Option (List Int),(l.getD []).length<=1000000000->C.c f [aI aC l] (I (SW (l.getD []))) none
def pOn.Spec:Prop:=∀t:Tb,t.Ln->C.c f [.agg t.cells] (I (oS t)) none
def yD.Spec:Prop:=∀(t:Tb) (p:Int),t.Ok->C.c f [.agg t.cells,I p] (.dF [I (az t p).1.group,I (az t p).1.ring,I (az t p).1.pos,B (az t p).2]) none
theorem HZ(p:Int):(SW [p]==0)=!(decide (0<=p)&&decide (p<8)):=by
 simp only[SW,p7,List.foldl_nil]
 by_cases h:0<=p/\p<8
 ·obtain⟨n,rfl⟩:∃n:Nat,p=n:=⟨p.toNat,ST⟩
  have A:n<8:=ST
  have:n=0\/n=1\/n=2\/n=3\/n=4\/n=5\/n=6\/n=7:=ST
  rcases this with rfl|rfl|rfl|rfl|rfl|rfl|rfl|rfl<;>decide
 ·have e:jt p=0:=by unfold jt;rw[et ST]
  rw[e]
  have:(decide (0<=p)&&decide (p<8))=false:=by
   rw[Bool.and_eq_false_iff];simp only[po];omega
  rw[this];decide
end
section
variable{P:Program} (hm:P.follows .mixedOrders=true) {f:Nat}
include hm
theorem setOf.ok{D:Nat} (O:bu P f=some (GC D)) (hB:bit.Spec (Pure P) D):setOf.Spec (Pure P) f:=by
 intro l V;refine aj hm O [] rfl ?_;try simp only[I,RX,↓KW,Nat.reduceBEq,Nat.reduceAdd,GC,Z.H]
 refine aD (λk:Nat=>(⟨[(8,.dat (I k) none),(7,.dat (I ((l.getD []).length:Nat)) none),(6,.dat (aI aC l) none),(3,.dat (I (((l.getD []).take k).foldl (λs p=>rP .i64 s (jt p)) 0)) none)],[],[],400⟩:S)) (λk=>(l.getD []).length-k) (λk=>k<=(l.getD []).length) ?_ 0 ST ?_
 rotate_left
 ·refine ai Ts ?_ ?_ ?_ ?_<;>simp[LX,I]
 intro k hk A back
 have B:=aA (k:=k) ST
 try simp only[I,RX,↓KW,Nat.reduceBEq,Nat.reduceAdd]
 cases E:decide ((k:Int)<(((l.getD []).length:Nat):Int))
 ·have e:k=(l.getD []).length:=by have:=dE E;omega
  subst e;rw[gn];try simp only[RX,↓KW,Nat.reduceBEq,Nat.reduceAdd]
  rfl
 ·have M:k<(l.getD []).length:=by have:=dC E;omega
  obtain⟨x,L⟩:∃x,(l.getD [])[k]? =some x:=⟨_,dT M⟩
  have R:=jU (f:=λs p=>rP .i64 s (jt p)) (b:=0) L
  try simp only[I,RX,↓KW,Nat.reduceBEq,Nat.reduceAdd,L,aC]
  refine⟨ST,?_⟩
  refine af (hB x) ?_;try simp only[I,RX,↓KW,Nat.reduceBEq,Nat.reduceAdd]
  refine back (k+1) _ ST ST ?_
  simp only[R]
  refine ai Ts ?_ ?_ ?_ ?_<;>simp[LX,I,B]
theorem pOn.ok{R:Nat} (hc:bu P f=some (ED R)) (hW:iq.Spec (Pure P) R):pOn.Spec (Pure P) f:=by
 intro t h
 have hp:=Y4 h
 rw[<-Y7];refine aj hm hc [] rfl ?_;try simp only[I,RY,↓KW,Nat.reduceBEq,Nat.reduceAdd,ED,Z.H,hp]
 refine aD (λk:Nat=>(⟨[(8,.dat (I k) none),(7,.dat (.agg (t.phases.flatMap Ph.cells)) none),(3,.dat (I (qG t k)) none)],[],[],400⟩:S)) (λk=>8-k) (λk=>k<=8) ?_ 0 ST ?_
 rotate_left
 ·refine ai Ts ?_ ?_ ?_ ?_<;>simp[LX,I,qG]
 intro k hk A back
 have E:=aA (k:=k) ST
 try simp only[I,RY,↓KW,Nat.reduceBEq,Nat.reduceAdd]
 cases V:decide ((k:Int)<8)
 ·have e:k=8:=by have:=dE V;omega
  subst e;try simp only[RY,↓KW,Nat.reduceBEq,Nat.reduceAdd]
 ·have h8:k<8:=by have:=dC V;omega
  have hx:0<=(k:Int)/\(k:Int)<(8:Nat):=ST
  have O:=Vb h h8
  have hz:setCells eN 0 (aO t k).cells=(aO t k).cells:=eI rfl
  have M:eN.length=13:=rfl
  have p0:(aO t k).cells[0]? =some (AV.bool (aO t k).on):=rfl
  have L:qG t (k+1)=if(aO t k).on then bJ (qG t k) k else qG t k:=rfl
  have B:=cB hx (cB O (cB hz (cB M (cB Ph.len (p0)))))
  try simp only[RY,↓KW,Nat.reduceBEq,Nat.reduceAdd,B]
  cases D:(aO t k).on
  ·try simp only[RY,↓KW,Nat.reduceBEq,Nat.reduceAdd,B]
   refine back (k+1) _ ST ST ?_
   rw[D]at L;simp only[L]
   refine ai Ts ?_ ?_ ?_ ?_<;>simp[LX,I,E]
  ·try simp only[RY,↓KW,Nat.reduceBEq,Nat.reduceAdd,B]
   refine af (hW _ _) ?_;try simp only[I,RY,↓KW,Nat.reduceBEq,Nat.reduceAdd]
   refine back (k+1) _ ST ST ?_
   rw[D]at L;simp only[L]
   refine ai Ts ?_ ?_ ?_ ?_<;>simp[LX,I,E]
theorem yD.ok{e fO:Nat} (hc:bu P f=some (pR e fO)) (hO:setOf.Spec (Pure P) fO):yD.Spec (Pure P) f:=by
 intro t p ht
 have hg:=Y2 ht.ln
 have c1:=hO (some [p]) TB
 simp only[sm]at c1;refine aj hm hc [] rfl ?_;try simp only[I,B,RY,↓KW,Nat.reduceBEq,Nat.reduceAdd,pR,Z.H]
 refine af c1 ?_;cases M:SW [p]==0;rotate_left
 ·have aa:az t p=(⟨0,0,0,0⟩,false):=by
   rw[HZ]at M
   refine GJ λx hx e=>?_
   have:=CC hx
   rw[e]at this;simp[this]at M
  try simp only[I,RY,↓KW,Nat.reduceBEq,Nat.reduceAdd,M,aa]
 have hp:0<=p/\p<8:=by rw[HZ]at M;simpa using M
 try simp only[I,RY,↓KW,Nat.reduceBEq,Nat.reduceAdd,M,hg]
 refine aD (λg:Nat=>(⟨[(21,.dat (I g) none),(20,.dat (I ((t.groups.getD []).length:Nat)) none),(19,.dat (aI Gr.cells t.groups) none),(1,.dat (I p) none),(4,.dat (I 0) none),(5,.dat (I 0) none),(6,.dat (I 0) none),(7,.dat (B false) none)],[],[],400⟩:S)) (λg=>(t.groups.getD []).length-g) (λg=>g<=(t.groups.getD []).length/\∀x∈cm (t.groups.getD []) g,x.p≠p) ?_ 0 (by simp[cm]) ?_
 rotate_left
 ·refine ai Ts ?_ ?_ ?_ ?_<;>simp[LX,I,B]
 rintro g ⟨a2,ad⟩ A back
 have hb:=ht.groups
 have hw:=aA (k:=g) ST
 try simp only[I,B,RY,↓KW,Nat.reduceBEq,Nat.reduceAdd]
 cases h2:decide ((g:Int)<(((t.groups.getD []).length:Nat):Int))
 ·have e:g=(t.groups.getD []).length:=by have:=dE h2;omega
  subst e
  have aa:=GJ (t:=t) (p:=p) ad
  try simp only[RY,↓KW,Nat.reduceBEq,Nat.reduceAdd,aa]
 have ak:g<(t.groups.getD []).length:=by have:=dC h2;omega
 obtain⟨E,O⟩:∃x,(t.groups.getD [])[g]? =some x:=⟨_,dT ak⟩
 have ae:=ht.rows E (em O)
 have hpart:aF (Gr.cells E) 0 (some 2)=some (.agg (Gr.cells E)):=rfl
 have V:∀c:List AV,c.length=2->setCells c 0 (Gr.cells E)=Gr.cells E:=λc h=>eI (by rw[h];rfl)
 try simp only[RY,↓KW,Nat.reduceBEq,Nat.reduceAdd,O,Gr.len,hpart,V]
 refine⟨ST,?_⟩
 try simp only[I,B,D,RY,↓KW,Nat.reduceBEq,Nat.reduceAdd,Nat.reduceLeDiff,Int.reduceNe,Int.reduceBEq,Int.reduceEq,reduceCtorEq,Nat.reduceMul,Int.reduceLT,Int.reduceLE,Int.reduceToNat,V,Gr.len,hpart]
 refine aD (λk:Nat=>(⟨[(27,.dat (I k) none),(26,.dat (.agg (Gr.cells E)) none),(1,.dat (I p) none),(8,.dat (I g) none),(21,.dat (I g) none),(20,.dat (I ((t.groups.getD []).length:Nat)) none),(19,.dat (aI Gr.cells t.groups) none),(4,.dat (I 0) none),(5,.dat (I 0) none),(6,.dat (I 0) none),(7,.dat (B false) none)],[],[],500⟩:S)) (λk=>2-k) (λk=>k<=2/\∀x∈cm (t.groups.getD []) g++bP E g k,x.p≠p) ?_ 0 ⟨ST,by simpa[bP]using ad⟩ ?_
 rotate_left
 ·refine ai Ts ?_ ?_ ?_ ?_<;>simp[LX,I,B]
 rintro k ⟨hk,R⟩ A1 ac
 have ar:=aA (k:=k) ST
 try simp only[I,B,RY,↓KW,Nat.reduceBEq,Nat.reduceAdd]
 cases h3:decide ((k:Int)<2)
 ·have e:k=2:=by have:=dE h3;omega
  subst e;try simp only[RY,↓KW,Nat.reduceBEq,Nat.reduceAdd]
  refine back (g+1) _ ⟨ST,by rw[ir O];exact R⟩ ST ?_
  refine ai Ts ?_ ?_ ?_ ?_<;>simp[LX,I,B,hw]
 have al:k<2:=by have:=dC h3;omega
 have am:0<=(k:Int)/\(k:Int)<(2:Nat):=ST
 have ag:(Gr.cells E)[k]? =some (aI aC (E.row k)):=by
  have:k=0\/k=1:=ST
  rcases this with rfl|rfl<;>rfl
 have a3:((E.row k).getD []).length<=1048576:=by
  have:k=0\/k=1:=ST
  rcases this with rfl|rfl
  exact ae.1;exact ae.2
 try simp only[RY,↓KW,Nat.reduceBEq,Nat.reduceAdd,am,ag]
 refine aD (λi:Nat=>(⟨[(33,.dat (I i) none),(32,.dat (I (((E.row k).getD []).length:Nat)) none),(31,.dat (aI aC (E.row k)) none),(1,.dat (I p) none),(8,.dat (I g) none),(10,.dat (I k) none),(27,.dat (I k) none),(26,.dat (.agg (Gr.cells E)) none),(21,.dat (I g) none),(20,.dat (I ((t.groups.getD []).length:Nat)) none),(19,.dat (aI Gr.cells t.groups) none),(4,.dat (I 0) none),(5,.dat (I 0) none),(6,.dat (I 0) none),(7,.dat (B false) none)],[],[],600⟩:S)) (λi=>((E.row k).getD []).length-i) (λi=>i<=((E.row k).getD []).length/\∀x∈cm (t.groups.getD []) g++bP E g k++aW g k (((E.row k).getD []).take i),x.p≠p) ?_ 0 ⟨ST,by simpa[aW]using R⟩ ?_
 rotate_left
 ·refine ai Ts ?_ ?_ ?_ ?_<;>simp[LX,I,B]
 rintro i ⟨hi,L⟩ A2 ab
 have an:=aA (k:=i) ST
 try simp only[I,B,RY,↓KW,Nat.reduceBEq,Nat.reduceAdd]
 cases h4:decide ((i:Int)<((((E.row k).getD []).length:Nat):Int))
 ·have e:i=((E.row k).getD []).length:=by have:=dE h4;omega
  subst e;rw[gn]at L;try simp only[RY,↓KW,Nat.reduceBEq,Nat.reduceAdd]
  refine ac (k+1) _ ⟨ST,by rw[dI,<-List.append_assoc];exact L⟩ ST ?_
  refine ai Ts ?_ ?_ ?_ ?_<;>simp[LX,I,B,ar]
 have au:i<((E.row k).getD []).length:=by have:=dC h4;omega
 obtain⟨x,hx⟩:∃x,((E.row k).getD [])[i]? =some x:=⟨_,dT au⟩
 try simp only[I,RY,↓KW,Nat.reduceBEq,Nat.reduceAdd,hx,aC]
 refine⟨ST,?_⟩
 cases h5:x==p
 ·have ao:x≠p:=by simpa using h5
  have hr:=iG (g:=g) (k:=k) hx
  try simp only[RY,↓KW,Nat.reduceBEq,Nat.reduceAdd]
  refine ab (i+1) _ ⟨ST,?_⟩ ST ?_
  ·by_cases h8:0<=x/\x<8
   ·rw[hr.1 h8,<-List.append_assoc]
    intro y hy
    rcases il.1 hy with hy|hy
    ·exact L y hy
    ·rw[lm]at hy;subst hy;exact ao
   ·rw[hr.2 h8];exact L
  ·refine ai Ts ?_ ?_ ?_ ?_<;>simp[LX,I,B,an]
 ·have ex:x=p:=by simpa using h5
  subst ex
  have hfound:=JX hp O al hx L
  try simp only[RY,↓KW,Nat.reduceBEq,Nat.reduceAdd,hfound]
end
section
variable (l:Option (List Int)) (a:Int) (t:Tb) {g n p q:Nat} (b i:Int) (k:Nat) (s:Int)
def d6:List Nat:=(List.range 8).filter λp=>tb s p
theorem jd{s:Int} (h:p∈d6 s):p<8:=by simp only[d6,px,fp]at h;exact h.1
theorem oY{s:Int} (h:p∈d6 s):tb s p=true:=by simp only[d6,px,fp]at h;exact h.2
theorem zL{s:Int} (A:p<8) (h:tb s p=true):p∈d6 s:=by simp only[d6,px,fp];exact⟨A,h⟩
def By:A7:=(t.aL.getD []).getD k default
def LK:Rl:=(t.aV.getD []).getD k default
theorem yE(p q:Int):dP t p q=dP t q p:=by
 simp only[dP];generalize(az t p).2=b1;generalize(az t q).2=b2;generalize(az t p).1=s1;generalize(az t q).1=s2;rw[Bool.and_comm b1 b2]
 congr 1
 ·congr 1
  rw[np];simp only[kb];exact eq_comm
 ·rw[np];simp only[bne_iff_ne];exact ne_comm
theorem LL:(d6 s).Nodup:=List.Pairwise.filter _ List.nodup_range
theorem EK:(d6 s).length<=8:=by
 have:=pc (λp=>tb s p) (List.range 8);simpa[d6]using this
theorem EL{a b:Int} (D:Can a) (E:Can b):Can (rP .i64 a b):=by
 have e:rP .i64 a b=IntKind.i64.wrap ((bv a|||bv b).toNat:Int):=rfl
 rw[e]
 refine qF λi B A=>?_
 rw[Pi]
 have x:=mb D B A
 have y:=mb E B A
 simp only[tb]at x y;rw[x,y];rfl
theorem sj{g k:Nat} {row:List Int} (h:∀x∈row,0<=x/\x<8):∀i,i<=row.length->(aW g k (row.take i)).map Sp.p=row.take i
 |0,_=>by simp[aW]
 |i+1,B=>by
  obtain⟨x,A⟩:∃x,row[i]? =some x:=⟨_,dT ST⟩
  rw[(iG A).1 (h x (em A)),my,sj h i ST,eO A];rfl
theorem JY{A:Gr} (h:∀x∈A.a.getD []++A.b.getD [],0<=x/\x<8):(bP A g 2).map Sp.p=A.a.getD []++A.b.getD []:=by
 have E:=sj (g:=g) (k:=0) (row:=A.a.getD []) (λx B=>h x (List.mem_append_left _ B)) _ (ia _)
 have D:=sj (g:=g) (k:=1) (row:=A.b.getD []) (λx B=>h x (List.mem_append_right _ B)) _ (ia _)
 rw[gn]at E D
 have L:bP A g 0=[]:=rfl
 rw[dI,dI,L,kx,my]
 show(aW g 0 (A.a.getD [])).map Sp.p++(aW g 1 (A.b.getD [])).map Sp.p=_
 rw[E,D]
theorem pU{A:Gr} {k:Nat} {x:Sp} (h:x∈bP A g k):x.group=g:=by
 simp only[bP,aW,sT,xv]at h;obtain⟨k,_,⟨y,i⟩,_,h⟩:=h;simp only at h;split at h
 ·cases h;rfl
 ·cases h
theorem od{l:List Gr} {g:Nat} {E:Gr} (L:l[g]? =some E):∀n,n<=l.length->(cm l n).filter (λx=>x.group==(g:Int))=if g<n then bP E g 2 else[]
 |0,_=>by simp[cm]
 |n+1,M=>by
  obtain⟨D,A⟩:∃x,l[n]? =some x:=⟨_,dT ST⟩
  rw[ir A,rf,od L n ST]
  by_cases e:g=n
  ·subst e
   rw[L]at A;cases A
   rw[ek ST,et ST,kx,List.filter_eq_self]
   intro x B;rw[pU B];simp
  ·have:(bP D n 2).filter (λx=>x.group==(g:Int))=[]:=by
    rw[QP];intro x B;rw[pU B];simp;omega
   rw[this,py]
   by_cases h:g<n
   ·rw[et h,et ST]
   ·rw[ek h,ek ST]
theorem M8{s:Int} (A:p<8):gz s p=bJ s p:=by
 refine iM (Bx _ _) (jz A) λi B=>?_
 rw[uH A,jE A];simp[B]
theorem Dm(n:Int):ju n=min (max n 0) 2147483647:=by
 simp only[ju,d7];split<;>(try split)<;>omega
theorem we:HI a b=min (ju a+ju b) 2147483647:=by
 have A:=gy a
 have B:=gy b
 rw[HI,Dm];omega
def zM(l:List Int):Int:=(l.map ju).sum
theorem M9:∀l,0<=zM l
 |[]=>H4 _
 |x::l=>by
  have:=gy x
  have:=M9 l
  simp only[zM,md,zr]at*;omega
theorem JZ:∀(l:List Int) (a:Int),0<=a->a<=2147483647->l.foldl HI a=min (a+zM l) 2147483647
 |[],a,D,B=>by simp only[List.foldl_nil,zM,se,List.sum_nil];omega
 |x::l,a,D,B=>by
  have E:=gy x
  have L:=M9 l
  have A:ju a=a:=by rw[Dm];omega
  rw[p7,JZ l _ (by rw[we];have:=gy a;omega) (by rw[we];omega),we,A]
  simp only[zM,md,zr]at*;omega
theorem nv(l:List Int):ku l=min (zM l) 2147483647:=by
 rw[ku,JZ l 0 ST ST,Int.zero_add]
theorem H6:ku [a,b]=HI a b:=by
 have A:=gy a
 have B:=gy b
 rw[nv,we];simp only[zM,md,se,zr,List.sum_nil];omega
theorem H7:∀(l:List Int) (a:Int),0<=a->l.foldl (λn x=>if x>n then x else n) a=max a (iK l)
 |[],a,h=>by show a=max a 0;omega
 |x::l,a,h=>by
  have e:iK (x::l)=max (if x>0 then x else 0) (iK l):=H7 l _ (by show 0<=if x>0 then x else 0;split<;>omega)
  rw[p7,H7 l _ (by split<;>omega),e]
  split<;>split<;>omega
theorem EM(x:Int) (l:List Int):iK (x::l)=max (max 0 x) (iK l):=by
 have:iK (x::l)=max (if x>0 then x else 0) (iK l):=H7 l _ (by show 0<=if x>0 then x else 0;split<;>omega)
 rw[this];split<;>omega
theorem OJ:iK []=0:=rfl
def pre(A:Gr) (i:Nat):List Int:=(List.range i).flatMap λk=>(A.row k).getD []
theorem nE{α:Type} {l:List α} {p:α->Bool} (h:∀x∈l,p x=false):l.find? p=none:=by
 rw[mf];intro x A;simp[h x A]
theorem Y8(n:Int):(iV l i n).Fw:=by
 have Z:=aP l (bZ (i+1)) (n:=4) Ts Ts
 have R:=aP l (bZ (i+2)) (n:=3) Ts Ts
 have V:=aP l (bZ (i+3)) (n:=4) Ts Ts
 have O:=aP l (bZ (i+4)) (n:=6) Ts Ts
 obtain⟨a,B⟩:∃m:Nat,cz l (bZ (i+1)) 4=m:=⟨(cz l (bZ (i+1)) 4).toNat,ST⟩
 obtain⟨b,L⟩:∃m:Nat,cz l (bZ (i+2)) 3=m:=⟨(cz l (bZ (i+2)) 3).toNat,ST⟩
 obtain⟨c,M⟩:∃m:Nat,cz l (bZ (i+3)) 4=m:=⟨(cz l (bZ (i+3)) 4).toNat,ST⟩
 obtain⟨d,hd⟩:∃m:Nat,cz l (bZ (i+4)) 6=m:=⟨(cz l (bZ (i+4)) 6).toNat,ST⟩
 have D:∀a:Nat,a<4->wS a<2^64:=Ts
 have E:∀a:Nat,a<4->∀b:Nat,b<3->um a b<2^64:=by decide+kernel
 have A:∀c:Nat,c<6->zC c<2^64:=by decide+kernel
 refine⟨?_,?_,?_,?_⟩
 ·show wS _<_;rw[B];exact D a ST
 ·show um _ _<_;rw[B,L];exact E a ST b ST
 ·show zC _<_;rw[M];exact A c ST
 ·show zC _<_;rw[hd];exact A d ST
theorem Rj:(cJ l).Fw:=by
 intro d hd
 have e:(cJ l).aL=dJ (kP l (d8 l).2 (cz l 175 9) (cz l 175 9).toNat):=rfl
 rw[e,aT,kP,i8]at hd;obtain⟨k,_,rfl⟩:=hd;exact Y8 _ _ _
theorem iZ{n:Int} (A:-9223372036854775808<=n) (B:n<=9223372036854775807):bZ n=n:=aU A B
structure Rk (x:Ph):Prop where
 min:1<=x.min/\x.min<=12
 max:x.min<=x.max/\x.max<=36
 top:x.max<=x.top/\x.top<=50
 Pf:0<=x.Pf/\x.Pf<=8
 step:1<=x.step/\x.step<=6
 eZ:10<=x.eZ/\x.eZ<=13
 red:0<=x.red/\x.red<=4
 walk:(x.walk=0/\x.fc=0)\/(1<=x.walk/\x.walk<=10/\1<=x.fc/\x.fc<=10)
 iR:0<=x.iR/\x.iR<=3/\(x.iR=3->x.walk≠0)
 on:x.on=true
theorem Na:Rk (jC l i):=by
 have r0:=aP l i (n:=12) Ts Ts
 have r1:=aP l (bZ (i+1)) (n:=9) Ts Ts
 have r2:=aP l (bZ (i+2)) (n:=6) Ts Ts
 have r3:=aP l (bZ (i+3)) (n:=4) Ts Ts
 have r4:=aP l (bZ (i+4)) (n:=5) Ts Ts
 have r5:=aP l (bZ (i+5)) (n:=25) Ts Ts
 have Z:=aP l (bZ (i+6)) (n:=15) Ts Ts
 have r8:=aP l (bZ (i+8)) (n:=10) Ts Ts
 have O:=aP l (bZ (i+8)) (n:=97) Ts Ts
 have ra:=aP l (bZ (i+9)) (n:=7) Ts Ts
 have rt:0<=(cz l (bZ (i+8)) 97).tdiv 10/\(cz l (bZ (i+8)) 97).tdiv 10<=9:=by
  rw[Int.tdiv_eq_ediv_of_nonneg O.1];omega
 have A:=iZ (n:=1+cz l i 12) ST ST
 have B:=iZ (n:=1+cz l i 12+cz l (bZ (i+5)) 25) ST ST
 have D:=iZ (n:=1+cz l i 12+cz l (bZ (i+5)) 25+cz l (bZ (i+6)) 15) ST ST
 have M:=iZ (n:=1+cz l (bZ (i+8)) 10) ST ST
 have V:=iZ (n:=(cz l (bZ (i+8)) 97).tdiv 10) ST ST
 have L:=iZ (n:=1+(cz l (bZ (i+8)) 97).tdiv 10) ST ST
 have R:=iZ (n:=1+cz l (bZ (i+2)) 6) ST ST
 have E:=iZ (n:=10+cz l (bZ (i+3)) 4) ST ST
 refine⟨?_,?_,?_,?_,?_,?_,?_,?_,?_,rfl⟩<;>simp only[jC,A,B,D,M,V,L,R,E]
 ·omega
 ·omega
 ·omega
 ·omega
 ·omega
 ·omega
 ·omega
 ·split
  ·right;omega
  ·left;exact⟨rfl,rfl⟩
 ·split<;>split<;>omega
theorem Nb(l:Option (List Int)):∀(k i:Nat),k<=8->i<8->(HL l k).getD i default=if i<k then jC l (10+12*i)else default
 |0,i,_,A=>by rw[HL,eh,PP,et A,ek ST];rfl
 |k+1,i,hk,A=>by
  have D:=Nb l k i ST A
  rw[HL,eh,List.getElem?_set]
  by_cases e:k=i
  ·subst e
   rw[et rfl,et (by rw[fe];omega),et ST];rfl
  ·rw[ek e,<-eh,D]
   by_cases B:i<k
   ·rw[et B,et ST]
   ·rw[ek B,ek ST]
def nT:Nat:=(d8 l).2
theorem oe:1<=nT l/\nT l<=8:=⟨Es l,v7 l⟩
theorem tph{i:Nat} (A:i<8):aO (cJ l) i=if i<nT l then jC l (10+12*i)else default:=by
 rw[<-HQ];exact Nb l (nT l) i (oe l).2 A
theorem EN(l:Option (List Int)) (G:Nat) (hG:G<=8):∀g,g<=G->1<=g->(bl l G g).2<=8-(G-g)
 |0,_,h=>by omega
 |g+1,h,_=>by
  have B:(bl l G g).2<=8-(G-1-g):=by
   rcases rc g with rfl|A
   ·simp[bl]
   ·have:=EN l G hG g ST A;omega
  simp only[bl,bp,b9];omega
theorem EO(G:Nat) (hG:G<=8) (R:g<G):∃(A:Gr) (m:Nat),1<=m/\(bl l G (g+1)).1=(bl l G g).1++[A]/\(bl l G (g+1)).2=(bl l G g).2+m/\A.a.getD []++A.b.getD []=dO (bl l G g).2 m:=by
 have O:(bl l G g).2+1<=b9 G g:=by
  unfold b9
  rcases rc g with rfl|E
  ·simp[bl];omega
  ·have:=EN l G hG g ST E;omega
 refine⟨_,bp (cnt l g 0 0) (bl l G g).2 (b9 G g)+bp (cnt l g 1 (bp (cnt l g 0 0) (bl l G g).2 (b9 G g))) ((bl l G g).2+bp (cnt l g 0 0) (bl l G g).2 (b9 G g)) (b9 G g),?_,rfl,?_,?_⟩
 ·generalize M:bp (cnt l g 0 0) (bl l G g).2 (b9 G g)=m0
  rcases rc m0 with B|B
  ·have L:1<=cnt l g 1 m0:=by
    simp only[cnt]
    by_cases D:(cz l (1+2*(g:Int)+((1:Nat):Int)) 3).toNat=0
    ·rw[et ⟨trivial,D,B⟩];exact ia _
    ·rw[ek (λh=>D h.2.1)];omega
   rw[B]at L⊢;simp only[bp];omega
  ·omega
 ·simp only[bl];omega
 ·simp only[aT]
  generalize bp (cnt l g 0 0) (bl l G g).2 (b9 G g)=m0;generalize bp (cnt l g 1 m0) ((bl l G g).2+m0) (b9 G g)=m1;simp only[dO,List.range_add,my,List.map_map]
  congr 1
  apply sh
  intro j _;simp only[Function.comp];omega
theorem zN{t A:Tb} (h:t.groups=A.groups) (p q:Int):dP t p q=dP A p q:=by
 simp only[dP,az,aS,h]
def Rm(c:List Int):Prop:=∀i j:Nat,i<8->j<8->tb (wT c i) j=true->i≠j/\dP t i j=false
theorem OK{t:Tb} {l:Option (List Int)} {c:List Int} (hc:c.length=8) (hp:p<8) (hq:q<p) (h:Rm t c):Rm t (gB t l p q c):=by
 unfold gB;split
 ·rename_i B
  have hb:dP t p q=false:=by
   simp only[oU,ed,nb]at B;exact B.1
  have M:dP t q p=false:=by rw[yE];exact hb
  intro i j E D
  have L:p<c.length:=ST
  have O:q<(c.set p (gz (wT c p) q)).length:=by simp;omega
  have R:¬q=p:=ST
  simp only[Dk O,Dk L,R,ib];intro A
  by_cases V:i=q
  ·subst V
   rw[et rfl,uH ST]at A
   simp only[ed,mi,gc]at A
   rcases A.2 with A|rfl
   ·exact h i j E D A
   ·exact⟨ST,M⟩
  ·rw[ek V]at A
   by_cases Z:i=p
   ·subst Z
    rw[et rfl,uH ST]at A
    simp only[ed,mi,gc]at A
    rcases A.2 with A|rfl
    ·exact h i j E D A
    ·exact⟨ST,hb⟩
   ·rw[ek Z]at A
    exact h i j E D A
 ·exact h
theorem J0{t:Tb} {l:Option (List Int)} {p:Nat} {c:List Int} (B:c.length=8) (A:p<8) (h:Rm t c):∀q,q<=p->Rm t (jb t l p q c)
 |0,_=>h
 |q+1,D=>OK (by rw[l9,B]) A ST (J0 B A h q ST)
theorem Nc{t:Tb} {l:Option (List Int)}:∀p,p<=8->Rm t (gk t l p)
 |0,_=>by
  intro i j E D A
  have:wT (gk t l 0) i=0:=by
   simp only[wT,gk,eh,PP];split<;>rfl
  rw[this,dr]at A;cases A
 |p+1,B=>J0 (dU p) ST (Nc p ST) p (ia p)
theorem OL(A:p<8) (B:q<8) (h:tb (gG (cJ l) p) q=true):p≠q/\dP (cJ l) p q=false:=by
 have:=Nc (t:={mV with groups:=some (d8 l).1}) (l:=l) (d8 l).2 (v7 l) p q A B h
 refine⟨this.1,?_⟩;rw[<-this.2];exact zN rfl _ _
theorem EP(l:Option (List Int)) (G:Nat) (hG:G<=8):∀g,g<=G->∀A∈(bl l G g).1,∀x∈A.a.getD []++A.b.getD [],0<=x/\x<8
 |0,_,A,h=>by simp[bl]at h
 |g+1,V,A,h=>by
  obtain⟨M,m,O,E,R,L⟩:=EO l G hG (g:=g) ST
  rw[E]at h
  rcases il.1 h with h|h
  ·exact EP l G hG g ST A h
  ·rw[lm]at h;subst h
   intro x B;rw[L,dO,i8]at B;obtain⟨j,D,rfl⟩:=B
   have:=vZ l G (g+1)
   have:=fp.1 D
   omega
structure Rp (n:Nat) (d:A7):Prop where
 phase:0<=d.phase/\d.phase<n
 may:lvl d.on=true/\lvl d.off=true/\EE d.delay=true/\EE d.extend=true
 most:0<=d.maxOn/\d.maxOn<=80/\0<=d.nV/\d.nV<=360
 order:UY d.off d.on=false
theorem Vc(hn:1<=n) (h8:n<=8):Rp n (iV l i n):=by
 have O:=aP l i (n:=(n:Int)) ST ST
 have r1:=aP l (bZ (i+1)) (n:=4) Ts Ts
 have r2:=aP l (bZ (i+2)) (n:=3) Ts Ts
 have r3:=aP l (bZ (i+3)) (n:=4) Ts Ts
 have r4:=aP l (bZ (i+4)) (n:=6) Ts Ts
 have Z:=aP l (bZ (i+6)) (n:=60) Ts Ts
 have r7:=aP l (bZ (i+7)) (n:=300) Ts Ts
 obtain⟨a,A⟩:∃m:Nat,cz l (bZ (i+1)) 4=m:=⟨(cz l (bZ (i+1)) 4).toNat,ST⟩
 obtain⟨b,E⟩:∃m:Nat,cz l (bZ (i+2)) 3=m:=⟨(cz l (bZ (i+2)) 3).toNat,ST⟩
 obtain⟨c,V⟩:∃m:Nat,cz l (bZ (i+3)) 4=m:=⟨(cz l (bZ (i+3)) 4).toNat,ST⟩
 obtain⟨d,hd⟩:∃m:Nat,cz l (bZ (i+4)) 6=m:=⟨(cz l (bZ (i+4)) 6).toNat,ST⟩
 have L:∀a:Nat,a<4->lvl (wS a)=true:=by decide+kernel
 have B:∀a:Nat,a<4->∀b:Nat,b<3->lvl (um a b)=true/\UY (um a b) (wS a)=false:=by decide+kernel
 have D:∀c:Nat,c<6->EE (zC c)=true:=by decide+kernel
 have M:=iZ (n:=20+cz l (bZ (i+6)) 60) ST ST
 have R:=iZ (n:=60+cz l (bZ (i+7)) 300) ST ST
 refine⟨O,⟨?_,?_,?_,?_⟩,?_,?_⟩
 ·show lvl (wS _)=true;rw[A];exact L a ST
 ·show lvl (um _ _)=true;rw[A,E];exact(B a ST b ST).1
 ·show EE (zC _)=true;rw[V];exact D c ST
 ·show EE (zC _)=true;rw[hd];exact D d ST
 ·simp only[iV,M,R]
  split<;>split<;>omega
 ·show UY (um _ _) (wS _)=false;rw[A,E];exact(B a ST b ST).2
theorem acH:((cJ l).aL.getD []).length<=8/\∀d∈(cJ l).aL.getD [],Rp (nT l) d:=by
 have e:(cJ l).aL=dJ (kP l (d8 l).2 (cz l 175 9) (cz l 175 9).toNat):=rfl
 have r:=aP l 175 (n:=9) Ts Ts
 rw[e,aT]
 refine⟨by rw[Br];omega,λd hd=>?_⟩
 rw[kP,i8]at hd;obtain⟨k,_,rfl⟩:=hd;exact Vc _ _ (oe l).1 (oe l).2
theorem Rq(A:p<8) (i:Nat):tb (SU [(p:Int)]) i=decide (i=p):=by
 rw[Gz]
 by_cases h:i=p
 ·subst h;simp[A]
 ·have:¬(i:Int)=(p:Int):=ST
  simp[h,this]
theorem ER(A:p<8) (D:q<8) (i:Nat):tb (n9 t p q) i=(decide (i=p)||(dP t p q&&decide (i=q))):=by
 unfold n9;cases dP t p q
 ·rw[ek TB,Rq A];simp
 ·rw[et rfl,uH D,Rq A]
  by_cases B:i<8
  ·simp[B]
  ·have L:¬i=p:=ST
   have E:¬i=q:=ST
   simp[B,L,E]
theorem OM(p q:Int):Can (n9 t p q):=by
 unfold n9;split
 ·exact Bx _ _
 ·exact Dl _
theorem Nd:∀n:Nat,n<9->1<=n->∀i:Nat,i<64->tb (bZ (bZ (1*2^min (IntKind.u64.wrap (n:Int)).toNat 64)-1)) i=decide (i<n):=by decide+kernel
def Ww(n:Nat) (s:Int):Prop:=Can s/\(∀i,i<8->tb s i=true->i<n)/\∀i j,i<8->j<8->tb s i=true->tb s j=true->i≠j->dP t i j=true
theorem zO{t A:Tb} (O:t.groups=A.groups) (h8:n<=8) (Z:p<n) (hq:q<n):Ww t n (n9 A p q)/\n9 A p q≠0:=by
 have R:=zN O
 refine⟨⟨OM _ _ _,λi V h=>?_,λi j V hj L E B=>?_⟩,λe=>?_⟩
 ·rw[ER A ST ST]at h
  simp only[mi,ed,gc]at h;omega
 ·rw[ER A ST ST]at L E
  simp only[mi,ed,gc]at L E;rw[R]
  rcases L with rfl|⟨M,rfl⟩
  ·rcases E with rfl|⟨D,rfl⟩
   ·exact absurd rfl B
   ·exact D
  ·rcases E with rfl|⟨D,rfl⟩
   ·rw[yE];exact M
   ·exact absurd rfl B
 ·have:=ER A (p:=p) (q:=q) ST ST p
  rw[e,dr]at this;simp at this
theorem Rr(n:Nat):Ww t n 0:=⟨⟨Ts,Ts⟩,(λi _ h=>by rw[dr]at h;cases h),(λi j _ _ h=>by rw[dr]at h;cases h)⟩
structure H8 (t:Tb) (n:Nat) (r:Rl):Prop where
 bars:Can r.bars/\∀i,i<64->tb r.bars i=true->i<n/\tb r.ep i=false
 clear:Ww t n r.clear
 ep:Ww t n r.ep/\r.ep≠0
 exit:Ww t n r.exit/\r.exit≠0
 hold:(1<=r.hold/\r.hold<=10/\r.clear≠0)\/(r.hold=0/\r.clear=0)
 afS:0<=r.delay/\r.delay<=3/\1<=r.green/\r.green<=6/\0<=r.dZ/\r.dZ<=5/\1<=r.stay/\r.stay<=15
 most:r.most=0\/(r.stay<=r.most/\r.most<=44)
 limit:r.delay<r.limit/\r.limit<=10004
theorem Vd{t E:Tb} (M:t.groups=E.groups) (l:Option (List Int)) (i:Int) (hn:1<=n) (O:n<=8):H8 t n (pO E l i n):=by
 have A:∀j:Int,∃m:Nat,cz l j (n:Int)=m/\m<n:=λj=>by
  have:=aP l j (n:=(n:Int)) ST ST
  exact⟨(cz l j n).toNat,ST,ST⟩
 obtain⟨a0,e0,k0⟩:=A i
 obtain⟨a1,e1,k1⟩:=A (bZ (i+1))
 obtain⟨a2,e2,k2⟩:=A (bZ (i+2))
 obtain⟨a3,e3,k3⟩:=A (bZ (i+3))
 obtain⟨a5,e5,Z⟩:=A (bZ (i+5))
 have en:bZ ((n:Int)+1)=(n:Int)+1:=iZ ST ST
 have r4:=aP l (bZ (i+4)) (n:=(n:Int)+1) ST ST
 have r6:=aP l (bZ (i+6)) (n:=10) Ts Ts
 have r8:=aP l (bZ (i+8)) (n:=4) Ts Ts
 have r9:=aP l (bZ (i+9)) (n:=6) Ts Ts
 have ra:=aP l (bZ (i+10)) (n:=6) Ts Ts
 have rb:=aP l (bZ (i+11)) (n:=15) Ts Ts
 have rd:=aP l (bZ (i+13)) (n:=30) Ts Ts
 have re:=aP l (bZ (i+14)) (n:=3) Ts Ts
 have w6:=iZ (n:=1+cz l (bZ (i+6)) 10) ST ST
 have w9:=iZ (n:=1+cz l (bZ (i+9)) 6) ST ST
 have wb:=iZ (n:=1+cz l (bZ (i+11)) 15) ST ST
 have wd:=iZ (n:=1+cz l (bZ (i+11)) 15+cz l (bZ (i+13)) 30) ST ST
 have w8:=iZ (n:=cz l (bZ (i+8)) 4+1) ST ST
 have L:∃v:Int,[10000,400,20].getD (cz l (bZ (i+14)) 3).toNat 0=v/\20<=v/\v<=10000:=by
  have:(cz l (bZ (i+14)) 3).toNat=0\/(cz l (bZ (i+14)) 3).toNat=1\/(cz l (bZ (i+14)) 3).toNat=2:=ST
  rcases this with h|h|h<;>rw[h]
  ·exact⟨10000,rfl,Ts,Ts⟩
  ·exact⟨400,rfl,Ts,Ts⟩
  ·exact⟨20,rfl,Ts,Ts⟩
 obtain⟨v,hv,v1,v2⟩:=L
 have wl:=iZ (n:=cz l (bZ (i+8)) 4+1+v) ST ST
 have td:=zO M O k0 k1
 have te:=zO M O k2 k3
 refine⟨?_,?_,?_,?_,?_,?_,?_,?_⟩<;>simp only[pO,e0,e1,e2,e3,e5,en,w6,w9,wb,wd,w8,hv,wl]
 ·have D:∀j,j<64->tb (aJ .i64 (bK .i64 (cz l (bZ (i+7)) 256) (bZ (bZ (1*2^min (IntKind.u64.wrap (n:Int)).toNat 64)-1))) (n9 E a0 a1)) j=true->j<n/\tb (n9 E a0 a1) j=false:=by
   intro j hj h
   rw[gX _ _ _ hj,jK,Nd n ST hn j hj]at h
   simp only[ed,nb,gc]at h;exact⟨h.1.2,h.2⟩
  refine⟨?_,D⟩
  have e:aJ .i64 (bK .i64 (cz l (bZ (i+7)) 256) (bZ (bZ (1*2^min (IntKind.u64.wrap (n:Int)).toNat 64)-1))) (n9 E a0 a1)=IntKind.i64.wrap ((bv (bK .i64 (cz l (bZ (i+7)) 256) (bZ (bZ (1*2^min (IntKind.u64.wrap (n:Int)).toNat 64)-1)))&&& ~~~bv (n9 E a0 a1)).toNat:Int):=rfl
  rw[e]
  refine qF λj h1 h2=>?_
  have h4:=Nd n ST hn j h2
  have h5:¬j<n:=ST
  have R:=jK (cz l (bZ (i+7)) 256) (bZ (bZ (1*2^min (IntKind.u64.wrap (n:Int)).toNat 64)-1)) j
  rw[h4]at R;simp only[h5,decide_false,nd]at R;simp only[tb]at R;rw[GE,R];rfl
 ·split
  ·rename_i V
   obtain⟨p,B⟩:∃p:Nat,cz l (bZ (i+4)) ((n:Int)+1)=p:=⟨(cz l (bZ (i+4)) ((n:Int)+1)).toNat,ST⟩
   rw[B]at V⊢
   exact(zO M O ST Z).1
  ·exact Rr _ _
 ·exact td
 ·exact te
 ·split
  ·rename_i V
   obtain⟨p,B⟩:∃p:Nat,cz l (bZ (i+4)) ((n:Int)+1)=p:=⟨(cz l (bZ (i+4)) ((n:Int)+1)).toNat,ST⟩
   rw[B]at V⊢
   exact .inl ⟨ST,ST,(zO M O ST Z).2⟩
  ·exact .inr ⟨rfl,rfl⟩
 ·omega
 ·split
  ·right;omega
  ·left;rfl
 ·omega
theorem Y9:((cJ l).aV.getD []).length<=2/\∀r∈(cJ l).aV.getD [],H8 (cJ l) (nT l) r:=by
 have e:(cJ l).aV=dJ (gC {mV with groups:=some (d8 l).1} l (d8 l).2 ((cz l 176 4).tmod 3) ((cz l 176 4).tmod 3).toNat):=rfl
 have h:=FS (cz l 176 4) (b:=3) Ts
 rw[e,aT]
 refine⟨by rw[yq];omega,λd hd=>?_⟩
 rw[gC,i8]at hd;obtain⟨k,_,rfl⟩:=hd;exact Vd rfl _ _ (oe l).1 (oe l).2
theorem Rs(a b:Nat):dO 0 (a+b)=dO 0 a++dO a b:=by
 simp only[dO,List.range_add,my,List.map_map]
 congr 1
 apply sh
 intro j _;simp only[Function.comp];omega
theorem GK(l:Option (List Int)) (G:Nat) (hG:G<=8):∀g,g<=G->∀L:List Gr,(∀(j:Nat) (A:Gr),(bl l G g).1[j]? =some A->L[j]? =some A)->(cm L g).map Sp.p=dO 0 (bl l G g).2
 |0,_,L,_=>by simp[cm,bl,dO]
 |g+1,hg,L,hL=>by
  obtain⟨A,m,h1,D,h3,V⟩:=EO l G hG (g:=g) ST
  have B:=oa l G g
  have O:L[g]? =some A:=hL g A (by rw[D,kw ST,B];simp)
  have Z:=GK l G hG g ST L λj E R=>hL j E (by rw[D,lc (er.1 R).1,R])
  have M:=EP l G hG (g+1) hg A (by rw[D];simp)
  rw[ir O,my,Z,JY M,V,h3,Rs]
theorem H9:(aS (cJ l)).map Sp.p=dO 0 (nT l):=by
 have hG:=rX l
 have e:(cJ l).groups.getD []=(bl l (gL l) (gL l)).1:=rfl
 rw[aS,e,oa]
 exact GK l _ ST _ (ia _) _ λ_ _ h=>h
end
end Go.Eng
