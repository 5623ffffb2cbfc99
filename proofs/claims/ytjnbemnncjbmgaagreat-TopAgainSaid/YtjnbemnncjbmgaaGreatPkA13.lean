/- Part 13 of the engine and its library. -/
import Derived.Test.YtjnbemnncjbmgaaGreatPkA12
set_option linter.all false
set_option maxRecDepth 10000
set_option maxHeartbeats 4000000
namespace Go.Eng
open Go
section
open Z
def lJ:List AV:=(⟨_,by conv=>lhs;cbv⟩:bT (Oz [(1,1),(0,10),(1,3),(0,10),(1,3),(0,10),(1,3),(0,10),(1,3),(0,10),(1,3),(0,10),(1,3),(0,10),(1,3),(0,10),(1,2),(2,1),(0,8),(2,3),(0,39)])).1
def fh:List AV:=(⟨_,by conv=>lhs;cbv⟩:bT (Oz [(0,16)])).1
def tC(D L:Nat):bE:=(⟨_,by conv=>lhs;ext y0 y1;cbv⟩:bT λ(y0 y1:List AV)=>cH 43 [.cell 6 (some 16),.tmp 7] [D,L] [0,8,1,7] 0x2b1b1309870080be9b94044c11262f21017c18bd20c5e063885e91017a74c18bcfa4405f0945f08b2180239c03216140518c08c47100818106082309c53c33c322081541f320a3041820882714f099051820c02f467868048828c10462388787c08024042402e612c086243462100e062040c405f7c0a10f08010c42a82000c0ea693407b50 [y1,y0]).1 lJ fh
def tD:bE:=(⟨_,by conv=>lhs;cbv⟩:bT (cH 7 [.tmp 2] [] [0,1] 0xa080240062e0720a8004810 [] [] [.mm true [.t 3,.k (.int .i64 0)],.mm false [.t 4,.k (.int .i64 9999)]])).1
def kB(V R L Z D O M:Nat):bE:=(⟨_,by conv=>lhs;cbv⟩:bT (cH 24 [.tmp 2] [R] [0,1,2,3,4,5,6] 0x50403e2e2f01031a820017178080038c034083087020110195d362f4282f8181b06810610e040420323a6c5e3d3362f4202f8201a86810610e04022031ba6c5eb6060681a0418438100880c4e9b17aa8181986810610e04022030ba6c5e9e060641a0418438100880c0e9b17a498188c100d0181a20 [] [] [.uh (.func V) [] [.t 1],.uh (.func L) [] [.t 1],.uh (.func Z) [] [.t 1],.uh (.func D) [] [.t 1],.uh (.func O) [.t 17] [],.uh (.func M) [] [.t 1]])).1
def mg:bE:=⟨22,[.tmp 4],r [o 2 (w 0),V 4 (F)] (j (r [o 7 (f 2 0),o 8 (f 7 0),o 9 (L 8 104),V 10 (i 0)] (u 0 (.loop (r [o 11 (bb .lss 10 (i 8))] (j (c 11 z (.exit 0)) (j (u 1 (r [M 12 10,o 13 (.GC (t 9) (t 10) 8 13 (some 13)),o 6 (.alloc gz),M 5 12,n (s 6 13 13)] (r [o 14 (f 6 0),o 15 (l 14),M 16 15,p 17 (m 1) 16,p 18 (m 5) 16,p 19 (.fu (t 17) [t 18]) 16,o 20 (P 16 19)] (c 20 (r [V 4 (T)] y) z)))) (R [o 21 (bb .add 10 (i 1)),M 10 21]))))))) (r [V 4 (F)] y))⟩
def jq(D:Nat):bE:=(⟨_,by conv=>lhs;cbv⟩:bT (cH 8 [.tmp 3] [D] [0] 0xa0c004283e04406819b17a4a846810)).1
def mh(D:Nat):bE:=(⟨_,by conv=>lhs;cbv⟩:bT (cH 12 [.tmp 4] [D] [0,7] 0x508001030384828c1060823262f626180011005b20 [] [] [.qi .u64 (.t 9)])).1
def jr(D:Nat):bE:=(⟨_,by conv=>lhs;cbv⟩:bT (cH 8 [.tmp 3] [D] [1] 0x1418008787c604406819b17a4a846810)).1
def js(D L:Nat):bE:=(⟨_,by conv=>lhs;cbv⟩:bT (cH 12 [.tmp 3] [D,L] [] 0x5060a0c70221590e57362fc06fe0204406819b17a4c846810)).1
def kC:bE:=(⟨_,by conv=>lhs;cbv⟩:bT (cH 11 [.tmp 4] [] [6,0] 0x142004860c0828c1060823262f62617091005b20)).1
def jt(D L:Nat):bE:=(⟨_,by conv=>lhs;cbv⟩:bT (cH 8 [.tmp 4] [L] [] 0x50800220303a6c5e928130b405b30 [] [] [.uh (.func D) [] [.t 3,.t 2]])).1
def ju(D:Nat):bE:=(⟨_,by conv=>lhs;cbv⟩:bT (cH 15 [.tmp 3] [D] [8,0] 0x5060a0c70220590e57362f1e06fe02243060414608304119317b130e046810)).1
def jv(D:Nat):bE:=(⟨_,by conv=>lhs;cbv⟩:bT (cH 18 [.tmp 4] [D] [4,1,2] 0x142001b1c0910240469f1e6f362f2e073e020d8e4448120234f8f379b17e039f0112040900d03362f49e091005b20)).1
def jw(D:Nat):bE:=(⟨_,by conv=>lhs;cbv⟩:bT (cH 21 [.tmp 3] [D] [2,1] 0x5060a0fc70cd7f20fdac1fab6101fadfc03f500fca0f562346101adfe025418bc795070b0112040900d03362f491217846810)).1
def jX:bE:=(⟨_,by conv=>lhs;cbv⟩:bT (cH 26 [.tmp 8] [] [7] 0xa20140445fc702d47f3f56041648368c1025bfc98bd3950f0b0102a0f97081051820c204400a0c5f443c2242f0a1009b20)).1
def gY(D L:Nat):bE:=(⟨_,by conv=>lhs;cbv⟩:bT (cH 8 [.tmp 2] [D,L] [0] 0xa08002264c0306504001030390502a1804810 [] [] [.qi .u32 (.t 3)])).1
def iX(D L:Nat):bE:=(⟨_,by conv=>lhs;cbv⟩:bT (cH 31 [.tmp 4] [D,L] [] 0x284050638110ac872b9b1797037f01a11c706202fe8e87f0220c69f1f782706101ae7da45e1580b9b071711d60441b21eac468c2035bfb48bc250172a1e1a02058384811b17848810)).1
def jx:bE:=(⟨_,by conv=>lhs;cbv⟩:bT (cH 35 [.tmp 2] [] [0,127] 0x282009051838100bc08000008038e1430e10382f0280000200df850c3840c0bc0a000008036e1430e10282f0280002f0518100c3853850c787c0c000008033e0a30e13e0a32e1431207000004018f051d08f051870a1a0b8004810 [] [.int .u64 1,.int .u64 6148914691236517205,.int .u64 2,.int .u64 3689348814741910323,.int .u64 4,.int .u64 1085102592571150095,.int .u64 8,.int .u64 16,.int .u64 32] [.qi .i64 (.t 32)])).1
end
section
open Z
def Ew(D:Nat):bE:=⟨19,[.tmp 2],r [o 1 (w 0),V 2 (i 0)] (r [V 3 (i 0)] (j (r [o 6 (f 1 0),o 7 (L 6 104),V 8 (i 0)] (u 0 (.loop (r [o 9 (bb .lss 8 (i 8))] (j (c 9 z (.exit 0)) (j (u 1 (r [M 10 8,o 11 (.GC (t 7) (t 8) 8 13 (some 13)),o 5 (.alloc gz),M 4 10,n (s 5 11 13)] (r [o 12 (f 5 0),o 13 (l 12)] (c 13 (R [M 14 3,M 15 4,o 16 (.call D [t 14,t 15]),M 3 16]) z)))) (R [o 17 (bb .add 8 (i 1)),M 8 17]))))))) (r [M 18 3,M 2 18] y)))⟩
def pZ(D L:Nat):bE:=(⟨_,by conv=>lhs;cbv⟩:bT (cH 51 [.tmp 4,.tmp 5,.tmp 6,.tmp 7] [D,L] [0,2,1] 0xa642fe13117f0980bf85a01f85b857853978bc1000545e023805c2f2af9081b17808e0168bcabe420845e022422fe02c17957c858256158bf84a85fc29019c35c31c2e0080541f1e104c2f018128bf8560010522a42a0ae692c08641a3108470181403e2f0180f0bf84d001c42806e652c086243462104e030a78d0be0404322fe9e51717f8004bc824922a42c02e612c08641a31080701814046817d1217cd00d8d4c85fc2622fe13017f0b403f0b70af0a72f1782000a8bc04700b85e55f210362f011c02d17957c84108bc044845fc0582f2af90b04ac2b17f0950bf85203386b86385c0100a83e3c20985e0302517f0ac0020a45485415cd25810c83462108e0302807c5e0301e17f09a00388500dcca5810c4868c4209c0614f1a17c0808645fd3ca2e2ff000979049245485805cc25810c83462100e0302808d02fa242f9a018071b2cc0180300442002010a0f80898044223fb808061b300600c011005b50 [[.aU,.aU]] [] [.GC (.t 26) (.t 27) 2 1 none])).1
def G7(D:Nat):bE:=(⟨_,by conv=>lhs;cbv⟩:bT (cH 18 [.tmp 2] [D] [0,1] 0x5040a222f010080098e01017957c84180118602065e1580510a004126a980b984b0219068c4201c06051b00c0c0608004810)).1
end
section
variable{t:Tb} (h:t.Ln)
include h
theorem Nb:t.cells.drop 105=t.conflict.map I++(aJ zh.cells t.aR::aJ Rl.cells t.bQ::aJ Bs.cells t.kR::
  I t.extend::I t.iz::I t.start::I t.revert::I t.least::(t.dz.map I++[I t.pR,I t.share])):=by
 have e:(t.phases.flatMap Ph.cells).length=104:=by rw[aL Ph.len,h.phases]
 have D:t.cells.drop 105=(t.cells.drop 104).drop 1:=by rw[te]
 rw[D,Tb.cells,List.drop_left' e];rfl
theorem ac2:t.cells[104]? =some (aJ Gr.cells t.groups):=by
 simp[Tb.cells,ut,aL Ph.len,h.phases,h.conflict,h.dz,List.getElem?_cons]
end
section
variable (x:Nat)
def lvl:Bool:=gtF x 0&&QM x 4696837146684686336
def akc:Bool:=decide (IntKind.i64.wrap (x:Int)<0)
def Ey:Bool:=V9 x&& !akc x
def zh.Fw(d:zh):Prop:=d.on<2^64/\d.off<2^64/\d.delay<2^64/\d.extend<2^64
def Tb.Fw(t:Tb):Prop:=∀d∈t.aR.getD [],d.Fw
structure Rd where
 lock:List Int
 was:Int
 eH:Int
 deriving Inhabited,DecidableEq
def Rd.cells(s:Rd):List AV:=s.lock.map I++[I s.was,I s.eH]
structure Rn where
 aA:Int
 time:Int
 fst:Int
 dH:Int
 left:Int
 kD:Int
 extra:Int
 done:Bool
 kT:Bool
 limit:Int
 up:Int
 down:Int
 deriving Inhabited,DecidableEq
def Rn.cells(r:Rn):List AV:=[I r.aA,I r.time,I r.fst,I r.dH,I r.left,I r.kD,I r.extra,B r.done,B r.kT,I r.limit,I r.up,I r.down]
theorem Rn.len(r:Rn):r.cells.length=12:=rfl
def bU(l:List Rn):List AV:=l.flatMap Rn.cells
end
section
variable (t:Tb) {l:List Rn} {s:Rd} (k:Nat)
theorem dw(h:l.length=8):(bU l).length=96:=by rw[bU,aL Rn.len,h]
def sD(s:Rd) (k:Nat):Int:=s.lock.getD k 0
def tE:Bs:=(t.kR.getD []).getD k default
def ou:Nat:=min (t.kR.getD []).length 4
def jy(s:Int):List Nat:=(List.range (ou t)).filter λk=>tb s k
def p8:List AV:=[I k,.agg (tE t k).cells]
theorem Rd.at(h:s.lock.length=4) {k:Nat} (hk:k<4):s.cells[k]? =some (I (sD s k)):=by
 have D:k<s.lock.length:=aaN
 simp[Rd.cells,ut,D,sD]
theorem Rd.ac3(h:s.lock.length=4):s.cells[4]? =some (I s.was):=by simp[Rd.cells,h]
theorem Rd.vl(h:s.lock.length=4):s.cells[5]? =some (I s.eH):=by simp[Rd.cells,h]
theorem Rd.len(h:s.lock.length=4):s.cells.length=6:=by simp[Rd.cells,h]
theorem Rd.whole(h:s.lock.length=4):aB s.cells 0 (some 6)=some (.agg s.cells):=by
 have:=Rd.len h
 simp[aB,this];rw[<-this,kf]
theorem gD(h:l.length=8):aB (bU l) 0 (some 96)=some (.agg (bU l)):=by
 have:=dw h
 simp[aB,this];rw[<-this,kf]
theorem jH{k:Nat} (h:l.length=8) (hk:k<8):aB (bU l) (k*12) (some 12)=some (.agg (l.getD k default).cells):=by
 have D:l[k]? =some (l.getD k default):=by
  have:k<l.length:=aaN
  simp[this]
 rw[bU,iP D]
 exact eS (by rw[aL Rn.len,iQ D]) rfl
end
section
variable (t:Tb) (C:aQ) (s:Rd) (l:List Rn) (n ask:Int) (f k:Nat) (r:Rn)
theorem KO{t:Tb} {s:Int} {i k:Nat} (h:(jy t s)[i]? =some k):k<4/\k<(t.kR.getD []).length/\tb s k=true:=by
 have:=et h
 simp only[jy,GT,j9,ou]at this
 exact⟨aaN,aaN,this.2⟩
def Ez.Spec:Prop:=∀n:Int,C.c f [I n] (I (eo ((if 9999<(if 0>n then 0 else n)then 9999 else(if 0>n then 0 else n))+1))) none
def each.Spec:Prop:=∀(t:Tb) (s:Int),t.Ok->∃g,C.c f [.agg t.cells,I s] (.fn (.func g) [] [.ref t.cells,.ref [I s]]) none/\C.i (.fn (.func g) [] [.ref t.cells,.ref [I s]]) ((jy t s).map (p8 t))
def KQ:Int:=if sD s k<=0 then AQ .i64 n (2^k)else n
def tF:Int:=(jy t ask).foldl (KQ s) 0
def Live.Spec:Prop:=∀(t:Tb) (s:Rd) (ask:Int),t.Ok->s.lock.length=4->C.c f [.agg t.cells,.agg s.cells,I ask] (I (tF t s ask)) none
def lK(D:Rn->Bool) (l:List Rn):Nat->Int
 |0=>0
 |k+1=>if D (l.getD k default)then dZ (lK D l k) k else lK D l k
def wA.Spec:Prop:=∀(l:List Rn) (g:Nat) (caps:List AV) (D:Rn->Bool),l.length=8->(∀r:Rn,C.c g (.agg r.cells::caps) (B (D r)) none)->C.c f [.agg (bU l),.fn (.func g) [] caps] (I (lK D l 8)) none
def OO:Int:=AQ .i64 n (tE t k).set
def IX:Bool:=r.aA==1&&decide (r.extra<t.extend)
def G8:Int:=if s.eH>=t.iz then 0 else dL .i64 ((jy t (tF t s ask)).foldl (OO t) 0) (lK (IX t) l 8)
def KR.Spec:Prop:=∀(t:Tb) (r:Rn),t.Ok->C.c f [.agg r.cells,.ref t.cells] (B (IX t r)) none
def TP.Spec:Prop:=∀(t:Tb) (s:Rd) (l:List Rn) (ask:Int),t.Ok->s.lock.length=4->l.length=8->C.c f [.agg t.cells,.agg s.cells,.agg (bU l),I ask] (I (G8 t s l ask)) none
def wC:Bool:=r.aA==1
def EA.Spec:Prop:=∀(r:Rn),C.c f [.agg r.cells] (B (wC r)) none
def EC(green n:Int) (k:Nat):Int:=if dL .i64 (tE t k).set green==0 then AQ .i64 n (dW .i64 255 (tE t k).set)else n
def ED:Int:=(jy t (tF t s ask)).foldl (EC t (lK wC l 8)) 0
def Early.Spec:Prop:=∀(t:Tb) (s:Rd) (l:List Rn) (ask:Int),t.Ok->s.lock.length=4->l.length=8->C.c f [.agg t.cells,.agg s.cells,.agg (bU l),I ask] (I (ED t s l ask)) none
theorem yj{α:Type} {f:Int->α->Int} {b:Int} {l:List α} {i:Nat} {x:α} (h:l[i]? =some x):(l.take (i+1)).foldl f b=f ((l.take i).foldl f b) x:=lF h
theorem TQ{k:Nat} (hk:k<8):IntKind.i64.wrap (1*2^min k IntKind.i64.bits)=2^k:=by
 have:k=0\/k=1\/k=2\/k=3\/k=4\/k=5\/k=6\/k=7:=aaN
 rcases this with rfl|rfl|rfl|rfl|rfl|rfl|rfl|rfl<;>decide
theorem Tb.QT{t:Tb} (D:t.Ok):t.cells[116]? =some (I t.extend):=by
 simp[Tb.cells,ut,aL Ph.len,D.phases,D.conflict]
theorem Tb.QU{t:Tb} (D:t.Ok):t.cells[117]? =some (I t.iz):=by
 simp[Tb.cells,ut,aL Ph.len,D.phases,D.conflict]
end
section
variable{P:Program} (hm:P.follows .mixedOrders=true) {f:Nat}
include hm
theorem Ez.ok(D:bF P f=some tB):Ez.Spec (Pure P) f:=by
 intro n;refine aq hm D [] rfl ?_;try simp only[I,RX,↓KW,seval,tB,Z.H]
 rfl
theorem EA.ok(D:bF P f=some ot):EA.Spec (Pure P) f:=by
 intro r;refine aq hm D [] rfl ?_;try simp only[I,B,RX,↓KW,seval,ot,Z.H,Rn.cells]
 rfl
theorem KR.ok(L:bF P f=some o6):KR.Spec (Pure P) f:=by
 intro t r M
 have D:(t.cells.drop 116)[0]? =some (AV.int .i64 t.extend):=by rw[lw];exact Tb.QT M
 refine aq hm L [] rfl ?_;try simp only[I,B,RX,↓KW,seval,o6,Z.H,Rn.cells]
 repeat' (((first|refine bg ?_ ?_|refine az ?_ ?_|refine bz ?_ ?_)<;>intro h)<;>try simp only[RX,↓KW,seval,D,h])
 all_goals simp_all [IX]
theorem wA.ok{fW:Nat} (hc:bF P f=some (qK fW)) (hW:iD.Spec (Pure P) fW):wA.Spec (Pure P) f:=by
 intro l g caps D hl hg
 have M:=gD hl
 refine aq hm hc [] rfl ?_;try simp only[I,RX,↓KW,seval,qK,Z.H,M]
 refine aK (λk:Nat=>(⟨[(9,.dat (I k) none),(5,.dat (I (lK D l k)) none),(8,.dat (.agg (bU l)) none),(1,.dat (.fn (.func g) [] caps) none)],[],[],400⟩:S)) (λk=>8-k) (λk=>k<=8) ?_ 0 aaN ?_
 ·intro k hk A back
  have V:=aD (k:=k) aaN
  try simp only[I,RX,↓KW,seval]
  refine az (λh=>?_) (λh=>?_)<;>try simp only[RX,↓KW,seval,h]
  ·have h8:k<8:=by have:=dT h;omega
   have R:=jH hl h8
   have hn:lK D l (k+1)=if D (l.getD k default)then dZ (lK D l k) k else lK D l k:=rfl
   have O:=hg (l.getD k default)
   generalize l.getD k default=r at*
   have hp:aB r.cells 0 (some 12)=some (.agg r.cells):=rfl
   try simp only[RX,↓KW,seval,R,bC,Rn.len,hp]
   refine⟨aaN,?_⟩
   refine af O ?_;try simp only[B,RX,↓KW,seval]
   refine az (λL=>?_) (λL=>?_)<;>try simp only[B,RX,↓KW,seval,L]
   ·refine af (hW _ _) ?_
    try simp only[I,RX,↓KW,seval]
    refine back (k+1) _ aaN aaN (ai aaO ?_ ?_ ?_ ?_)<;>simp[LX,I,V,hn,L]
   ·refine back (k+1) _ aaN aaN (ai aaO ?_ ?_ ?_ ?_)<;>simp[LX,I,V,hn,L]
  ·have:k=8:=by have:=dE h;omega
   subst this;try simp only[seval]
 ·refine ai aaO ?_ ?_ ?_ ?_<;>simp[LX,I,lK]
theorem Live.ok{O:Nat} (hc:bF P f=some (tr O)) (hE:each.Spec (Pure P) O):Live.Spec (Pure P) f:=by
 intro t s ask R hs
 have V:=Tb.whole R
 refine aq hm hc [] rfl ?_;try simp only[I,RX,↓KW,seval,tr,Z.H,V]
 obtain⟨g,hg,hi⟩:=hE t ask R;refine af hg ?_;try simp only[I,RX,seval]
 refine iW (λn:Int=>(⟨[(11,.dat (.fn (.func g) [] [.ref t.cells,.ref [.int .i64 ask]]) none),(4,.ptr 5 0),(7,.ptr 7 0)],[(5,⟨s.cells,[]⟩),(7,⟨[I n],[]⟩)],[],400⟩:S)) (λi n=>n=((jy t ask).take i).foldl (KQ s) 0) hi rfl (iV λ_=>rfl) (λ_=>rfl) ?_ ?_ 0 aaP ?_
 ·rintro i x n hx rfl F back
  obtain⟨k,hk,rfl⟩:=oq hx;obtain⟨h4,aa,hb⟩:=KO hk
  have M:=Rd.at hs h4
  have L:=yj (f:=KQ s) (b:=0) hk
  have D:=TQ (k:=k) aaN
  try simp only[I,RX,↓KW,seval,p8,M]
  refine⟨aaN,?_⟩
  refine az (λh=>?_) (λh=>?_)<;>try simp only[RX,↓KW,seval,h]
  ·try simp only[seval,D]
   refine⟨aaN,back _ _ rfl ?_⟩
   refine ai aaO ?_ ?_ ?_ ?_<;>simp[LX,I,L,KQ,dT h]
  ·refine back _ _ rfl ?_
   refine ai aaO ?_ ?_ ?_ ?_<;>simp[LX,I,L,KQ,dE h]
 ·rintro n L
  try simp only[I,RX,↓KW,seval,L]
  simp[tF]
 ·refine ai aaO ?_ ?_ ?_ ?_<;>simp[LX,I]
theorem TP.ok{fL fE R fT:Nat} (hc:bF P f=some (tu fL fE R fT)) (hL:Live.Spec (Pure P) fL) (hE:each.Spec (Pure P) fE) (h1:KR.Spec (Pure P) R) (hT:wA.Spec (Pure P) fT):TP.Spec (Pure P) f:=by
 intro t s l ask L V M
 have hp:=Tb.whole L
 have ac:=Rd.whole V
 have ad:s.cells[5]? =some (AV.int .i64 s.eH):=Rd.vl V
 have ab:t.cells[117]? =some (AV.int .i64 t.iz):=Tb.QU L
 have aa:=gD M
 refine aq hm hc [] rfl ?_;try simp only[I,RX,↓KW,seval,tu,Z.H,ad,ab]
 refine az (λD=>?_) (λD=>?_)<;>try simp only[RX,↓KW,seval,hp,ac,D]
 ·have:=dT D
  simp[G8,this]
 ·have O:=dE D
  refine af (hL t s ask L V) ?_;try simp only[I,RX,↓KW,seval]
  obtain⟨g,hg,hi⟩:=hE t (tF t s ask) L
  refine af hg ?_;try simp only[I,RX,seval]
  refine iW (λn:Int=>(⟨[(22,.dat (.fn (.func g) [] [.ref t.cells,.ref [.int .i64 (tF t s ask)]]) none),(4,.ptr 4 0),(6,.ptr 6 0),(9,.ptr 13 0)],[(4,⟨t.cells,[]⟩),(6,⟨bU l,[]⟩),(13,⟨[I n],[]⟩)],[],400⟩:S)) (λi n=>n=((jy t (tF t s ask)).take i).foldl (OO t) 0) hi rfl (iV λ_=>rfl) (λ_=>rfl) ?_ ?_ 0 aaP ?_
  ·rintro i x n hx rfl F back
   obtain⟨k,hk,rfl⟩:=oq hx
   have hn:=yj (f:=OO t) (b:=0) hk
   try simp only[I,RX,↓KW,seval,p8,Bs.cells]
   refine back _ _ rfl ?_
   refine ai aaO ?_ ?_ ?_ ?_<;>simp[LX,I,hn,OO]
  ·rintro n hn
   try simp only[I,RX,↓KW,seval,hn]
   refine ej (by rfl) ?_
   try simp only[RX,↓KW,seval,aa]
   refine⟨rfl,af (hT l R [.ref t.cells] (IX t) M (λr=>h1 t r L)) ?_⟩
   try simp only[I,RX,↓KW,seval]
   simp[G8,O]
  ·refine ai aaO ?_ ?_ ?_ ?_<;>simp[LX,I]
theorem Early.ok{fT M fL fE:Nat} (hc:bF P f=some (qJ fT M fL fE)) (hT:wA.Spec (Pure P) fT) (h1:EA.Spec (Pure P) M) (hL:Live.Spec (Pure P) fL) (hE:each.Spec (Pure P) fE):Early.Spec (Pure P) f:=by
 intro t s l ask O hs D
 have hp:=Tb.whole O
 have V:=Rd.whole hs
 have R:=gD D
 refine aq hm hc [] rfl ?_;try simp only[I,RX,↓KW,seval,qJ,Z.H,R]
 refine af (hT l M [] wC D h1) ?_;try simp only[I,RX,↓KW,seval,hp,V]
 refine af (hL t s ask O hs) ?_;try simp only[I,RX,↓KW,seval]
 obtain⟨g,hg,hi⟩:=hE t (tF t s ask) O
 refine af hg ?_;try simp only[I,RX,seval]
 refine iW (λn:Int=>(⟨[(20,.dat (.fn (.func g) [] [.ref t.cells,.ref [.int .i64 (tF t s ask)]]) none),(9,.ptr 10 0),(10,.ptr 11 0)],[(10,⟨[I (lK wC l 8)],[]⟩),(11,⟨[I n],[]⟩)],[],400⟩:S)) (λi n=>n=((jy t (tF t s ask)).take i).foldl (EC t (lK wC l 8)) 0) hi rfl (iV λ_=>rfl) (λ_=>rfl) ?_ ?_ 0 aaP ?_
 ·rintro i x n hx rfl F back
  obtain⟨k,hk,rfl⟩:=oq hx
  have L:=yj (f:=EC t (lK wC l 8)) (b:=0) hk
  try simp only[I,RX,↓KW,seval,p8,Bs.cells]
  refine az (λh=>?_) (λh=>?_)<;>try simp only[RX,↓KW,seval,h]
  ·refine back _ _ rfl ?_
   refine ai aaO ?_ ?_ ?_ ?_<;>simp[LX,I,L,EC,h]
  ·refine back _ _ rfl ?_
   refine ai aaO ?_ ?_ ?_ ?_<;>simp[LX,I,L,EC,h]
 ·rintro n L
  try simp only[I,RX,↓KW,seval,L]
  simp[ED]
 ·refine ai aaO ?_ ?_ ?_ ?_<;>simp[LX,I]
def KS.Spec(C:aQ) (f:Nat):Prop:=∀(t:Tb) (s:Int),t.Ok->C.i (.fn (.func f) [] [.ref t.cells,.ref [I s]]) ((jy t s).map (p8 t))
theorem each.ok{D:Nat} (L:bF P f=some (tA D)) (O:KS.Spec (Pure P) D):each.Spec (Pure P) f:=by
 intro t s M;refine⟨D,?_,O t s M⟩;refine aq hm L [] rfl ?_;try simp only[I,RX,↓KW,seval,tA,Z.H]
 simp
end
section
variable (t:Tb) (s:Rd) (ask:Int) (held:Bool) {k:Nat} (round:Bool)
theorem IY(x:Int) (hk:k<8):dL .i64 (x.fdiv (2^min k IntKind.i64.bits)) 1=if tb x k then 1 else 0:=by
 have e:min k IntKind.i64.bits=k:=by have:IntKind.i64.bits=64:=rfl;omega
 have D:tb (x.fdiv (2^k)) 0=tb x k:=by
  rw[sB _ aaN,sB _ aaN]
  simp
 rw[e,zB,D]
def aad(n:Int):Int:=eo ((if 9999<(if 0>n then 0 else n)then 9999 else(if 0>n then 0 else n))+1)
def EE(k:Nat):Int:=if sD s k>0 then eo (sD s k-1)else if tb s.was k&& !tb ask k then(tE t k).lock else 0
def vm(i:Nat):List Int:=(List.range 4).map λk=>if k<i then EE t s ask k else 0
def Nc:Int:=if held then aad (if round then 0 else s.eH)else if round then 0 else s.eH
def vn:Rd:=⟨vm t s ask (ou t),tF t s ask,Nc s held round⟩
def EF.Spec(C:aQ) (f:Nat):Prop:=∀(t:Tb) (s:Rd) (ask:Int) (held round:Bool),t.Ok->s.lock.length=4->C.c f [.agg t.cells,.agg s.cells,I ask,B held,B round] (.agg (vn t s ask held round).cells) none
theorem KT:jy t 15=List.range (ou t):=by
 rw[jy,List.filter_eq_self];intro k hk;simp only[j9,ou]at hk
 have:k=0\/k=1\/k=2\/k=3:=aaN
 rcases this with rfl|rfl|rfl|rfl<;>decide
def vo(D:Int) (i:Nat):List AV:=(⟨vm t s ask i,tF t s ask,D⟩:Rd).cells
theorem TR(D:Int) (hk:k<4):setCells (vo t s ask D k) k [AV.int .i64 (EE t s ask k)]=vo t s ask D (k+1):=by
 have:k=0\/k=1\/k=2\/k=3:=aaN
 rcases this with rfl|rfl|rfl|rfl<;>simp[vo,Rd.cells,vm,setCells,lL]
theorem QV(D:Int) (hk:k<4) (h:EE t s ask k=0):vo t s ask D k=vo t s ask D (k+1):=by
 have:k=0\/k=1\/k=2\/k=3:=aaN
 rcases this with rfl|rfl|rfl|rfl<;>simp[vo,Rd.cells,vm,lL,h]
theorem akd(a b c d:AV):setCells [a,b] 0 [c,d]=[c,d]:=rfl
theorem zE(D:Int) (i:Nat):(vo t s ask D i).length=6:=by simp[vo,Rd.cells,vm]
end
section
variable{P:Program} (hm:P.follows .mixedOrders=true) {f:Nat}
include hm
theorem EF.ok{fL fM fE:Nat} (hc:bF P f=some (tw fL fM fE)) (hL:Live.Spec (Pure P) fL) (hM:Ez.Spec (Pure P) fM) (hE:each.Spec (Pure P) fE):EF.Spec (Pure P) f:=by
 intro t s ask held round ht hs
 have hp:=Tb.whole ht
 have ad:=Rd.whole hs
 have a2:s.cells[5]? =some (AV.int .i64 s.eH):=Rd.vl hs
 have ak:s.cells[4]? =some (AV.int .i64 s.was):=Rd.ac3 hs
 obtain⟨L,V⟩:∃L,L=Nc s held round:=⟨_,rfl⟩
 refine aq hm hc [] rfl ?_;try simp only[I,B,RX,↓KW,seval,tw,Z.H,hp,ad]
 refine af (hL t s ask ht hs) ?_
 cases held<;>cases round
 all_goals
  try simp only[I,RX,↓KW,seval,hp,a2]
  repeat' (first|(refine af (hM _) ?_;try simp only[I,RX,↓KW,seval,hp])|(((first|refine bg ?_ ?_|refine az ?_ ?_|refine bz ?_ ?_)<;>intro h)<;>try simp only[I,B,D,RX,↓KW,seval,hp,ad,h]))
  obtain⟨g,hg,hi⟩:=hE t 15 ht;refine af hg ?_;try simp only[I,RX,seval]
  refine iW (λy:Nat=>(⟨[(29,.dat (.fn (.func g) [] [.ref t.cells,.ref [.int .i64 15]]) none),(6,.ptr 5 0),(11,.ptr 15 0),(7,.ptr 6 0),(10,.ptr 7 0)],[(5,⟨s.cells,[]⟩),(15,⟨vo t s ask L y,[]⟩),(6,⟨[I ask],[]⟩),(7,⟨[I 0,I 0,I 0,I 0,I 0,I 0],[]⟩)],[],400⟩:S)) (λi y=>y=i/\i<=ou t) hi rfl (iV λ_=>rfl) (λ_=>rfl) ?_ ?_ 0 aaP ?_
  ·rintro i x y hx ⟨rfl,a3⟩ F back
   obtain⟨k,hk,rfl⟩:=oq hx;obtain⟨h4,a4,hb⟩:=KO hk
   have al:y=k:=by
    rw[KT]at hk
    have h1:=(em.1 hk).1
    rw[mr (by simpa using h1)]at hk
    simpa using hk
   subst al
   have ae:=Rd.at hs h4
   have ao:=IY s.was (k:=y) aaN
   have ar:=IY ask (k:=y) aaN
   have O:=TR t s ask L h4
   have R:=QV t s ask L h4
   have aa:y+1<=ou t:=by simp only[ou];omega
   try simp only[I,RY,↓KW,seval,p8,ae,Bs.cells]
   refine⟨aaN,?_⟩
   refine az (λh=>?_) (λh=>?_)<;>try simp only[RY,↓KW,seval,h]
   ·have hN:EE t s ask y=IntKind.i64.wrap (sD s y-1):=by simp[EE,eo,dT h]
    rw[hN]at O;try simp only[I,RY,↓KW,seval,ae,zE,O]
    refine⟨aaN,aaN,aaN,back (y+1) _ ⟨rfl,aa⟩ ?_⟩
    refine ai aaO ?_ ?_ ?_ ?_<;>simp[LX,I]
   ·have h':=dE h
    try simp only[RY,↓KW,seval,ak,ao]
    cases ag:tb s.was y<;>cases ab:tb ask y
    all_goals
     have hN:EE t s ask y=if tb s.was y&& !tb ask y then(tE t y).lock else 0:=by simp[EE,h']
     rw[hN,ag,ab]at O;rw[hN,ag,ab]at R;try simp only[RY,↓KW,seval,ab,ar,akd,zE]
     repeat' (refine dC aaN ?_)
     refine back (y+1) _ ⟨rfl,aa⟩ ?_
    ·have M:=R aaP
     refine ai aaO ?_ ?_ ?_ ?_<;>simp[LX,I,M]
    ·have M:=R aaP
     refine ai aaO ?_ ?_ ?_ ?_<;>simp[LX,I,M]
    ·simp only[nm,zr,kv]at O
     refine ai aaO ?_ ?_ ?_ ?_<;>simp[LX,I,O]
    ·have M:=R aaP
     refine ai aaO ?_ ?_ ?_ ?_<;>simp[LX,I,M]
  ·rintro y ⟨rfl,a3⟩
   have e:(jy t 15).length=ou t:=by rw[KT];simp
   have ac:=zE t s ask L (ou t)
   have am:(vo t s ask L (ou t)).take 6=vo t s ask L (ou t):=by rw[jp];omega
   have au:setCells [AV.int .i64 0,AV.int .i64 0,AV.int .i64 0,AV.int .i64 0,AV.int .i64 0,AV.int .i64 0] 0 (vo t s ask L (ou t))=vo t s ask L (ou t):=bp (by rw[ac];rfl)
   have an:aB (vo t s ask L (ou t)) 0 (some 6)=some (.agg (vo t s ask L (ou t))):=by simp[aB,ac,am]
   try simp only[I,RY,↓KW,seval,e,zE,au,an]
   simp[vo,vn,V]
  ·refine ai aaO ?_ ?_ ?_ ?_<;>simp[LX,I,V,Nc,aad,eo,vo,Rd.cells,vm,lL]
def lW(l:List Rn):Nat->Int
 |0=>0
 |k+1=>if(l.getD k default).aA=1 then ig (lW l k) k else lW l k
def zF.Spec(C:aQ) (f:Nat):Prop:=∀(l:List Rn),l.length=8->C.c f [.agg (bU l)] (I (lW l 8)) none
omit hm in
theorem Nd{l:List Rn} {k:Nat} (h:l.length=8) (hk:k<8):(bU l)[k*12]? =some (AV.int .i64 (l.getD k default).aA):=by
 have D:l[k]? =some (l.getD k default):=by
  have:k<l.length:=aaN
  simp[this]
 rw[bU,iP D,kt (by rw[aL Rn.len,iQ D];omega),aL Rn.len,iQ D]
 simp[Rn.cells]
theorem zF.ok{R:Nat} (hc:bF P f=some (ve R)) (hW:sj.Spec (Pure P) R):zF.Spec (Pure P) f:=by
 intro l hl;refine aq hm hc [] rfl ?_;try simp only[I,RX,↓KW,seval,ve,Z.H]
 refine aK (λk:Nat=>(⟨[(4,.dat (I k) none),(1,.ptr 4 0),(3,.dat (I (lW l k)) none)],[(4,⟨bU l,[]⟩)],[],400⟩:S)) (λk=>8-k) (λk=>k<=8) ?_ 0 aaN ?_
 ·intro k hk A back
  have O:=aD (k:=k) aaN
  try simp only[I,RX,↓KW,seval]
  refine az (λh=>?_) (λh=>?_)<;>try simp only[RX,↓KW,seval,h]
  ·have h8:k<8:=by have:=dT h;omega
   have M:=Nd hl h8
   have V:lW l (k+1)=if(l.getD k default).aA=1 then ig (lW l k) k else lW l k:=rfl
   generalize l.getD k default=r at*
   refine⟨aaN,?_⟩
   try simp only[RX,↓KW,seval,M]
   refine az (λL=>?_) (λL=>?_)<;>try simp only[RX,↓KW,seval,L]
   ·have D:r.aA=1:=by simpa using L
    refine af (hW _ _) ?_;try simp only[I,RX,↓KW,seval]
    refine back (k+1) _ aaN aaN (ai aaO ?_ ?_ ?_ ?_)<;>simp[LX,I,O,V,D]
   ·have D:¬r.aA=1:=by simpa using L
    refine back (k+1) _ aaN aaN (ai aaO ?_ ?_ ?_ ?_)<;>simp[LX,I,O,V,D]
  ·have:k=8:=by have:=dE h;omega
   subst this;try simp only[seval]
 ·refine ai aaO ?_ ?_ ?_ ?_<;>simp[LX,I,lW]
end
section
variable (f g:Nat->Int) (k:Nat)
theorem Yt{A B:List AV} {l:List Int} {o k:Nat} {x:Int} (hA:A.length=o) (hk:k<l.length):setCells (A++(l.map I++B)) (o+k) [I x]=A++((l.set k x).map I++B):=by
 obtain⟨U,y,V,rfl,rfl⟩:∃U y V,l=U++y::V/\k=U.length:=⟨l.take k,l[k],l.drop (k+1),aaP,by simp;omega⟩
 have e:A++((U++y::V).map I++B)=(A++U.map I)++([I y]++(V.map I++B)):=aaP
 rw[e,oT (mid:=[I y]) (ps:=[I x]) (by simp[hA]) rfl]
 simp
def G9:List Int:=(List.range 8).map λp=>if p<k then f p else g p
theorem QW:(G9 f g k).length=8:=by simp[G9]
theorem He{k:Nat} (hk:k<8):(G9 f g k).set k (f k)=G9 f g (k+1):=by
 have:k=0\/k=1\/k=2\/k=3\/k=4\/k=5\/k=6\/k=7:=aaN
 rcases this with rfl|rfl|rfl|rfl|rfl|rfl|rfl|rfl<;>simp[G9,lL]
def Sh.CG(s:Sh) (k:Nat) (x:Int):Sh:={s with time:=s.time.set k x}
end
section
variable{s:Sh} (h:s.Ok) {k:Nat} (hk:k<8) (x:Int)
include h
theorem Sh.AT:(s.CG k x).Ok:=⟨h.aA,by simp[Sh.CG,h.time],h.iy,h.dH⟩
include hk
end
structure gx where
 group:Int
 a0:Int
 a1:Int
 mX:Bool
 deriving Inhabited,DecidableEq
def gx.cells(r:gx):List AV:=[I r.group,I r.a0,I r.a1,B r.mX]
structure Pr where
 ay:Int
 which:Int
 time:Int
 held:List Int
 eH:Int
 deriving Inhabited,DecidableEq
def Pr.cells(p:Pr):List AV:=I p.ay::I p.which::I p.time::(p.held.map I++[I p.eH])
structure Ch where
 on:Bool
 cJ:Int
 Wa:Int
 Gs:Int
 held:Int
 tail:Int
 out:Bool
 deriving Inhabited,DecidableEq
def Ch.cells(c:Ch):List AV:=[B c.on,I c.cJ,I c.Wa,I c.Gs,I c.held,I c.tail,B c.out]
structure bB where
 runs:List Rn
 rings:gx
 mj:Rd
 pre:Pr
 calls:Cs
 gH:Option (List Ch)
 deriving Inhabited,DecidableEq
def bB.cells(s:bB):List AV:=bU s.runs++(s.rings.cells++(s.mj.cells++(s.pre.cells++(s.calls.cells++[aJ Ch.cells s.gH]))))
structure bB.Ok (s:bB):Prop where
 runs:s.runs.length=8
 lock:s.mj.lock.length=4
 held:s.pre.held.length=4
def bB.rn(s:bB) (k:Nat):Rn:=s.runs.getD k default
section
variable{s:bB} (h:s.Ok)
include h
theorem bB.len:s.cells.length=117:=by
 simp[bB.cells,dw h.runs,gx.cells,Rd.cells,Pr.cells,Cs.cells,h.lock,h.held]
theorem bB.whole:aB s.cells 0 (some 117)=some (.agg s.cells):=by
 have:=bB.len h
 simp[aB,this];rw[<-this,kf]
theorem bB.wD:aB s.cells 0 (some 96)=some (.agg (bU s.runs)):=by
 have:=eS (pre:=[]) (mid:=bU s.runs) (post:=s.rings.cells++(s.mj.cells++(s.pre.cells++(s.calls.cells++[aJ Ch.cells s.gH])))) (off:=0) (z:=96) rfl (dw h.runs)
 exact this
theorem bB.TS{k j:Nat} (hk:k<8) (D:j<12):s.cells[k*12+j]? =(s.rn k).cells[j]?:=by
 rw[bB.cells,kp (by rw[dw h.runs];omega)]
 exact nB (jH h.runs hk) D
theorem bB.TT:s.cells[106]? =some (I s.pre.ay):=by
 simp[bB.cells,dw h.runs,gx.cells,Rd.cells,Pr.cells,Cs.cells,h.lock,h.held]
end
section
variable {k:Nat} (t:Tb)
theorem KU{v n:Int} (D:0<n) (L:n<1000):0<=place v n/\place v n<n:=by
 have h:=Ix v D
 have M:-n<v.tmod n:=by have:=Int.lt_tmod_of_pos v D;omega
 simp only[place];split
 ·rw[eo,aY aaN aaN];omega
 ·omega
theorem bB.aae{s:bB} (h:s.Ok) (hk:k<8) (r:Rn):setCells s.cells (k*12) r.cells={s with runs:=s.runs.set k r}.cells:=by
 have L:=h.runs
 have D:s.runs[k]? =some (s.rn k):=by
  have:k<s.runs.length:=aaN
  simp[bB.rn,this]
 unfold bB.cells bU;simp only;rw[Tg D,Ps,yr]
 conv=>lhs;rw[iP D]
 rw[List.append_assoc,List.append_assoc,List.append_assoc,List.append_assoc]
 exact oT (by rw[aL Rn.len,iQ D]) rfl
def EG(x:Ph):Rn:=⟨0,9999,0,0,0,0,0,false,false,x.max,0,0⟩
def mq(k:Nat):bB:=⟨(List.range 8).map λp=>if p<k then EG (aV t p)else default,⟨0,0,0,false⟩,⟨[0,0,0,0],0,0⟩,⟨0,0,0,[0,0,0,0],0⟩,⟨0,0⟩,none⟩
def fQ:bB:={mq t 8 with rings:=⟨0,-1,-1,false⟩}
theorem TU(k:Nat):(mq t k).Ok:=⟨by simp[mq],rfl,rfl⟩
theorem sE:(fQ t).Ok:=⟨by simp[fQ,mq],rfl,rfl⟩
theorem Nf(hk:k<8):{mq t k with runs:=(mq t k).runs.set k (EG (aV t k))}=mq t (k+1):=by
 have:k=0\/k=1\/k=2\/k=3\/k=4\/k=5\/k=6\/k=7:=aaN
 rcases this with rfl|rfl|rfl|rfl|rfl|rfl|rfl|rfl<;>simp[mq,lL]
def CW.Spec(C:aQ) (f:Nat):Prop:=∀t:Tb,t.Ln->C.c f [.agg t.cells] (.agg (fQ t).cells) none
theorem TV{s:Int} {p:Nat} (L:p<8) (i:Nat):tb (ig s p) i=(decide (i<8)&&(tb s i||decide (i=p))):=by
 rw[ig,Z8]
 by_cases h:i<8
 ·have:((i:Int)∈jo s++[(p:Int)])↔(tb s i=true\/i=p):=by
   simp only[jo,lh,GT,ne,j9,rf];rw[Yc h];constructor
   ·rintro(⟨_,D⟩|D)
    ·exact .inl D
    ·exact .inr aaN
   ·rintro(D|D)
    ·exact .inl ⟨⟨i,h,rfl⟩,D⟩
    ·exact .inr aaN
  simp[h,this]
 ·simp[h]
structure alR (t:Tb) (s:Rd):Prop where
 len:s.lock.length=4
 eH:s.eH=0
 lo:∀k,0<=sD s k/\sD s k<=30
 off:∀k,ou t<=k->sD s k=0
 was:∀k,tb s.was k=true->k<ou t
end
section
variable{t:Tb} (h:t.Ln)
include h
theorem ac4:aB t.cells 0 (some 104)=some (.agg (t.phases.flatMap Ph.cells)):=by
 have e:(t.phases.flatMap Ph.cells).length=104:=by rw[aL Ph.len,h.phases]
 have l:=h.len
 simp only[aB]
 rw[ib aaN,kh,Tb.cells,yk e]
theorem ahN:aB t.cells 121 (some 8)=some (.agg (t.dz.map I)):=by
 have l:=h.len
 have e:t.cells.drop 121=(t.cells.drop 105).drop 16:=by rw[te]
 have D:∀l:List AV,l.drop 16=(l.drop 8).drop 8:=λl=>by rw[te]
 simp only[aB]
 rw[ib aaN,e,Nb h,D,List.drop_left' (by simp[h.conflict])]
 simp only[mf,kh]
 rw[yk (by simp[h.dz])]
end
section
variable (C:aQ) {i k m n p:Nat} {t:Tb} {x:Int} (f:Nat) (l:List Int) (s:Int)
def Can:Prop:=0<=s/\s<256
theorem zG{s:Int} (h:Can s) (M:8<=i) (D:i<64):tb s i=false:=by
 rw[sB s D]
 have O:(2:Int)^8<=2^i:=by
  have e:(2:Int)^i=2^8*2^(i-8):=by rw[<-Int.pow_add];congr 1;omega
  have:(1:Int)<=2^(i-8):=by have:=Int.pow_pos (n:=(2:Int)) (m:=i-8) aaO;omega
  rw[e];have L:(2:Int)^8=256:=rfl
  rw[L];omega
 have:s.fdiv (2^i)=0:=by
  rw[UV _ aaN]
  exact Int.ediv_eq_zero_of_lt h.1 (by have:=h.2;omega)
 rw[this];rfl
theorem zH{y:Int} (V:Can x) (R:Can y) (h:∀i,i<8->tb x i=tb y i):x=y:=by
 have Z:bv x=bv y:=by
  apply aao
  intro i hi
  have D:i<64:=hi
  rcases lj i 8 with L|L
  ·exact h i L
  ·have a:=zG V L D
   have b:=zG R L D
   simp only[tb]at a b;rw[a,b]
 have:=rh BitVec.toNat Z
 simp only[bv,WF]at this
 have M:=V;have O:=R
 unfold Can at M O
 have e:((2^64:Nat):Int)=18446744073709551616:=aaO
 rw[e]at this;omega
theorem ac5(L:0<=x) (R:x<18446744073709551616) (h:∀i,8<=i->i<64->tb x i=false):Can x:=by
 refine⟨L,?_⟩
 have O:(bv x).toNat=x.toNat:=by
  simp only[bv,WF]
  have e:((2^64:Nat):Int)=18446744073709551616:=aaO
  rw[e];omega
 have:x.toNat<2^8:=by
  apply Nat.lt_pow_two_of_testBit
  intro i M
  rcases lj i 64 with D|D
  ·have:=h i M D
   simp only[tb,BitVec.getLsbD]at this;rw[<-O];exact this
  ·apply aaH
   have:x.toNat<2^64:=by
    omega
   exact re this (nl aaO D)
 omega
theorem EH(b:BitVec 64) (h:b.getLsbD 63=false):IntKind.i64.wrap (b.toNat:Int)=b.toNat/\(b.toNat:Int)<9223372036854775808:=by
 have:b.toNat<2^63:=by
  apply Nat.lt_pow_two_of_testBit
  intro i L
  rcases lj i 64 with D|D
  ·have:i=63:=aaN
   subst this;exact h
  ·apply aaH
   exact re b.isLt (nl aaO D)
 refine⟨aY aaN aaN,aaN⟩
theorem EI{b:BitVec 64} (h:∀i,8<=i->i<64->b.getLsbD i=false):Can (IntKind.i64.wrap (b.toNat:Int)):=by
 obtain⟨M,O⟩:=EH b (h 63 aaO aaO)
 rw[M]
 refine ac5 aaN aaN λi L D=>?_
 simp only[tb,IK];exact h i L D
theorem qN{s:Int} (D:p<8):Can (dZ s p):=by
 have:dZ s p=IntKind.i64.wrap (((bv (dL .i64 s 255))|||bv (qE p)).toNat:Int):=rfl
 rw[this]
 refine EI λi O M=>?_
 rw[BitVec.getLsbD_or]
 have a:=IL s 255 i
 have b:=IM D i
 simp only[tb]at a b;rw[a,b]
 have c:=Et i
 simp only[tb]at c;rw[c]
 have:¬i<8:=aaN
 have L:¬i=p:=aaN
 simp[this,L]
theorem KV(l:List Int):∀k,k<=8->Can (yc l k)
 |0,_=>by show Can 0;exact⟨aaO,aaO⟩
 |k+1,h=>by
  have L:=KV l k aaN
  simp only[yc];split
  ·have e:AQ .i64 (yc l k) (2^k)=IntKind.i64.wrap ((bv (yc l k)|||bv (2^k)).toNat:Int):=rfl
   rw[e]
   refine EI λi M D=>?_
   rw[BitVec.getLsbD_or]
   have a:=zG L M D
   have b:=M8 (p:=k) aaN i
   simp only[tb]at a b;rw[a,b]
   have:¬i=k:=aaN
   simp[this]
  ·exact L
theorem OP:Can (ofI l):=KV l 8 aaN
theorem QX(p:Int):Can (ig s p):=OP _
theorem Yu(h:t.Ln) (D:p<8):aB (t.phases.flatMap Ph.cells) (p*13) (some 13)=some (.agg (aV t p).cells):=by
 rw[iP (h.vh D)]
 exact eS (by rw[aL Ph.len,iQ (h.vh D)]) rfl
def qO(t:Tb):Nat->Int
 |0=>0
 |k+1=>if(aV t k).on then dZ (qO t k) k else qO t k
theorem Hf(t:Tb):∀k,k<=8->Can (qO t k)
 |0,_=>by show Can 0;exact⟨aaO,aaO⟩
 |k+1,h=>by
  simp only[qO];split
  ·exact qN aaN
  ·exact Hf t k aaN
theorem KY(t:Tb) (i:Nat):∀k,k<=8->tb (qO t k) i=(decide (i<k)&&(aV t i).on)
 |0,_=>by simp[qO,lU]
 |k+1,h=>by
  have L:=KY t i k aaN
  simp only[qO];split
  ·rename_i hk
   rw[o5 aaN,L]
   by_cases e:i=k
   ·subst e;simp[hk]
   ·have M:(i<k+1)↔i<k:=aaN
    have O:i<k->i<8:=aaN
    by_cases D:i<k
    ·simp[M,D,O D,e]
    ·simp[M,D,e]
  ·rename_i hk
   rw[L]
   by_cases e:i=k
   ·subst e;simp[hk]
   ·have:(i<k+1)↔i<k:=aaN
    simp[this]
theorem ac6(t:Tb) (i:Nat):tb (yG t) i=(decide (i<8)&&(aV t i).on):=by
 rw[yG,Z8]
 by_cases h:i<8
 ·have:(i:Int)∈zw t 8↔(aV t i).on=true:=by
   simp only[zw,GT,ne,j9,Int.natCast_inj];constructor
   ·rintro⟨_,D⟩;exact D
   ·intro D;exact⟨⟨i,h,rfl⟩,D⟩
  simp[h,this]
 ·simp[h]
theorem ac7(t:Tb):qO t 8=yG t:=zH (Hf t 8 aaN) (OP _) λi D=>by rw[KY t i 8 aaN,ac6]
theorem KZ(l:List Gr) (h:n<=m) (hm:m<=l.length):∃r,dB l m=dB l n++r:=by
 induction m with
 |zero=>exact⟨[],by rw[show n=0 by omega];simp⟩
 |succ m M=>
  rcases lj n (m+1)with h1|h1
  ·obtain⟨r,O⟩:=M aaN aaN
   obtain⟨L,D⟩:∃x,l[m]? =some x:=⟨_,eh aaN⟩
   exact⟨r++dG L m 2,by rw[kq D,O,List.append_assoc]⟩
  ·exact⟨[],by rw[show n=m+1 by omega];simp⟩
theorem K0(D:Gr) (g:Nat) (hk:k<2):∃r,dG D g 2=dG D g k++(bZ g k ((D.row k).getD [])++r):=by
 have:k=0\/k=1:=aaN
 rcases this with rfl|rfl
 ·exact⟨bZ g 1 ((D.row 1).getD []),by rw[gB,gB,List.append_assoc]⟩
 ·exact⟨[],by rw[gB];simp⟩
theorem IZ(g k:Nat) (row:List Int) (h:n<=m) (hm:m<=row.length):∃r,bZ g k (row.take m)=bZ g k (row.take n)++r:=by
 induction m with
 |zero=>exact⟨[],by rw[show n=0 by omega];simp⟩
 |succ m O=>
  rcases lj n (m+1)with h1|h1
  ·obtain⟨r,L⟩:=O aaN aaN
   obtain⟨x,R⟩:∃x,row[m]? =some x:=⟨_,eh aaN⟩
   have M:=lT (g:=g) (k:=k) R
   by_cases D:0<=x/\x<8
   ·exact⟨r++[⟨g,k,m,x⟩],by rw[M.1 D,L,List.append_assoc]⟩
   ·exact⟨r,by rw[M.2 D,L]⟩
  ·exact⟨[],by rw[show n=m+1 by omega];simp⟩
theorem K1{p:Int} {g:Nat} {D:Gr} (Z:0<=p/\p<8) (O:(t.groups.getD [])[g]? =some D) (hk:k<2) (R:((D.row k).getD [])[i]? =some p) (L:∀x∈dB (t.groups.getD []) g++dG D g k++bZ g k (((D.row k).getD []).take i),x.p≠p):aC t p=(⟨g,k,i,p⟩,true):=by
 have aa:=(em.1 O).1
 have ab:=(em.1 R).1
 obtain⟨r1,h1⟩:=KZ (t.groups.getD []) (n:=g+1) (m:=(t.groups.getD []).length) aaN (ik _)
 obtain⟨V,h2⟩:=K0 D g hk
 obtain⟨r3,M⟩:=IZ g k ((D.row k).getD []) (n:=i+1) (m:=((D.row k).getD []).length) aaN (ik _)
 rw[kf]at M
 have h4:=(lT (g:=g) (k:=k) R).1 Z
 have hs:cQ t=(dB (t.groups.getD []) g++dG D g k++bZ g k (((D.row k).getD []).take i))++(⟨g,k,i,p⟩::(r3++V++r1)):=by
  rw[cQ,h1,kq O,h2,M,h4];simp only[List.append_assoc,sa,ml]
 have hf:(cQ t).find? (λx=>x.p==p)=some ⟨g,k,i,p⟩:=by
  rw[hs,List.find?_append]
  have:(dB (t.groups.getD []) g++dG D g k++bZ g k (((D.row k).getD []).take i)).find? (λx=>x.p==p)=none:=by
   rw[If];intro x hx;simpa using L x hx
  rw[this];simp
 simp[aC,hf]
theorem Hg{p:Int} (h:∀x∈cQ t,x.p≠p):aC t p=(⟨0,0,0,0⟩,false):=by
 have:(cQ t).find? (λx=>x.p==p)=none:=by
  rw[If];intro x D;simpa using h x D
 simp[aC,this]
theorem K2{x:Sp} (h:x∈cQ t):0<=x.p/\x.p<8:=by
 simp only[cQ,dB,dG,bZ,Os,List.mem_filterMap]at h;obtain⟨⟨L,g⟩,_,k,_,⟨y,i⟩,_,h⟩:=h;simp only at h;split at h
 ·rename_i D;cases h;exact D
 ·cases h
def ofS:Int:=l.foldl (λs p=>AQ .i64 s (qE p)) 0
def setOf.Spec:Prop:=∀l:Option (List Int),(l.getD []).length<=1000000000->C.c f [aJ aH l] (I (ofS (l.getD []))) none
def pOn.Spec:Prop:=∀t:Tb,t.Ln->C.c f [.agg t.cells] (I (yG t)) none
def yl.Spec:Prop:=∀(t:Tb) (p:Int),t.Ok->C.c f [.agg t.cells,I p] (.de [I (aC t p).1.group,I (aC t p).1.ring,I (aC t p).1.pos,B (aC t p).2]) none
theorem I0(p:Int):(ofS [p]==0)=!(decide (0<=p)&&decide (p<8)):=by
 simp only[ofS,ui,List.foldl_nil]
 by_cases h:0<=p/\p<8
 ·obtain⟨n,rfl⟩:∃n:Nat,p=n:=⟨p.toNat,aaN⟩
  have D:n<8:=aaN
  have:n=0\/n=1\/n=2\/n=3\/n=4\/n=5\/n=6\/n=7:=aaN
  rcases this with rfl|rfl|rfl|rfl|rfl|rfl|rfl|rfl<;>decide
 ·have e:qE p=0:=by unfold qE;rw[ib aaN]
  rw[e]
  have:(decide (0<=p)&&decide (p<8))=false:=by
   rw[Bool.and_eq_false_iff];simp only[po];omega
  rw[this];decide
end
section
variable{P:Program} (hm:P.follows .mixedOrders=true) {f:Nat}
include hm
theorem setOf.ok{L:Nat} (V:bF P f=some (G7 L)) (hB:bit.Spec (Pure P) L):setOf.Spec (Pure P) f:=by
 intro l hl;refine aq hm V [] rfl ?_;try simp only[I,RX,↓KW,Nat.reduceBEq,Nat.reduceAdd,G7,Z.H]
 refine aK (λk:Nat=>(⟨[(8,.dat (I k) none),(7,.dat (I ((l.getD []).length:Nat)) none),(6,.dat (aJ aH l) none),(3,.dat (I (((l.getD []).take k).foldl (λs p=>AQ .i64 s (qE p)) 0)) none)],[],[],400⟩:S)) (λk=>(l.getD []).length-k) (λk=>k<=(l.getD []).length) ?_ 0 aaN ?_
 rotate_left
 ·refine ai aaO ?_ ?_ ?_ ?_<;>simp[LX,I]
 intro k hk A back
 have D:=aD (k:=k) aaN
 try simp only[I,RX,↓KW,Nat.reduceBEq,Nat.reduceAdd]
 cases M:decide ((k:Int)<(((l.getD []).length:Nat):Int))
 ·have e:k=(l.getD []).length:=by have:=dE M;omega
  subst e;rw[kf];try simp only[RX,↓KW,Nat.reduceBEq,Nat.reduceAdd]
  rfl
 ·have R:k<(l.getD []).length:=by have:=dT M;omega
  obtain⟨x,O⟩:∃x,(l.getD [])[k]? =some x:=⟨_,eh R⟩
  have hn:=lF (f:=λs p=>AQ .i64 s (qE p)) (b:=0) O
  try simp only[I,RX,↓KW,Nat.reduceBEq,Nat.reduceAdd,O,aH]
  refine⟨aaN,?_⟩
  refine af (hB x) ?_;try simp only[I,RX,↓KW,Nat.reduceBEq,Nat.reduceAdd]
  refine back (k+1) _ aaN aaN ?_
  simp only[hn]
  refine ai aaO ?_ ?_ ?_ ?_<;>simp[LX,I,D]
theorem pOn.ok{fW:Nat} (hc:bF P f=some (Ew fW)) (hW:iD.Spec (Pure P) fW):pOn.Spec (Pure P) f:=by
 intro t h
 have hp:=ac4 h
 rw[<-ac7];refine aq hm hc [] rfl ?_;try simp only[I,RY,↓KW,Nat.reduceBEq,Nat.reduceAdd,Ew,Z.H,hp]
 refine aK (λk:Nat=>(⟨[(8,.dat (I k) none),(7,.dat (.agg (t.phases.flatMap Ph.cells)) none),(3,.dat (I (qO t k)) none)],[],[],400⟩:S)) (λk=>8-k) (λk=>k<=8) ?_ 0 aaN ?_
 rotate_left
 ·refine ai aaO ?_ ?_ ?_ ?_<;>simp[LX,I,qO]
 intro k hk A back
 have M:=aD (k:=k) aaN
 try simp only[I,RY,↓KW,Nat.reduceBEq,Nat.reduceAdd]
 cases h2:decide ((k:Int)<8)
 ·have e:k=8:=by have:=dE h2;omega
  subst e;try simp only[RY,↓KW,Nat.reduceBEq,Nat.reduceAdd]
 ·have h8:k<8:=by have:=dT h2;omega
  have hx:0<=(k:Int)/\(k:Int)<(8:Nat):=aaN
  have V:=Yu h h8
  have hz:setCells gz 0 (aV t k).cells=(aV t k).cells:=bp rfl
  have R:gz.length=13:=rfl
  have p0:(aV t k).cells[0]? =some (AV.bool (aV t k).on):=rfl
  have O:qO t (k+1)=if(aV t k).on then dZ (qO t k) k else qO t k:=rfl
  have D:=dC hx (dC V (dC hz (dC R (dC Ph.len (p0)))))
  try simp only[RY,↓KW,Nat.reduceBEq,Nat.reduceAdd,D]
  cases L:(aV t k).on
  ·try simp only[RY,↓KW,Nat.reduceBEq,Nat.reduceAdd,D]
   refine back (k+1) _ aaN aaN ?_
   rw[L]at O;simp only[O]
   refine ai aaO ?_ ?_ ?_ ?_<;>simp[LX,I,M]
  ·try simp only[RY,↓KW,Nat.reduceBEq,Nat.reduceAdd,D]
   refine af (hW _ _) ?_;try simp only[I,RY,↓KW,Nat.reduceBEq,Nat.reduceAdd]
   refine back (k+1) _ aaN aaN ?_
   rw[L]at O;simp only[O]
   refine ai aaO ?_ ?_ ?_ ?_<;>simp[LX,I,M]
theorem yl.ok{e fO:Nat} (hc:bF P f=some (pZ e fO)) (hO:setOf.Spec (Pure P) fO):yl.Spec (Pure P) f:=by
 intro t p ht
 have hg:=ac2 ht.ln
 have c1:=hO (some [p]) aaP
 simp only[wi]at c1;refine aq hm hc [] rfl ?_;try simp only[I,B,RY,↓KW,Nat.reduceBEq,Nat.reduceAdd,pZ,Z.H]
 refine af c1 ?_;cases O:ofS [p]==0;rotate_left
 ·have ab:aC t p=(⟨0,0,0,0⟩,false):=by
   rw[I0]at O
   refine Hg λx hx e=>?_
   have:=K2 hx
   rw[e]at this;simp[this]at O
  try simp only[I,RY,↓KW,Nat.reduceBEq,Nat.reduceAdd,O,ab]
 have hp:0<=p/\p<8:=by rw[I0]at O;simpa using O
 try simp only[I,RY,↓KW,Nat.reduceBEq,Nat.reduceAdd,O,hg]
 refine aK (λg:Nat=>(⟨[(21,.dat (I g) none),(20,.dat (I ((t.groups.getD []).length:Nat)) none),(19,.dat (aJ Gr.cells t.groups) none),(1,.dat (I p) none),(4,.dat (I 0) none),(5,.dat (I 0) none),(6,.dat (I 0) none),(7,.dat (B false) none)],[],[],400⟩:S)) (λg=>(t.groups.getD []).length-g) (λg=>g<=(t.groups.getD []).length/\∀x∈dB (t.groups.getD []) g,x.p≠p) ?_ 0 (by simp[dB]) ?_
 rotate_left
 ·refine ai aaO ?_ ?_ ?_ ?_<;>simp[LX,I,B]
 rintro g ⟨a3,ae⟩ A back
 have hb:=ht.groups
 have hw:=aD (k:=g) aaN
 try simp only[I,B,RY,↓KW,Nat.reduceBEq,Nat.reduceAdd]
 cases h2:decide ((g:Int)<(((t.groups.getD []).length:Nat):Int))
 ·have e:g=(t.groups.getD []).length:=by have:=dE h2;omega
  subst e
  have ab:=Hg (t:=t) (p:=p) ae
  try simp only[RY,↓KW,Nat.reduceBEq,Nat.reduceAdd,ab]
 have al:g<(t.groups.getD []).length:=by have:=dT h2;omega
 obtain⟨L,R⟩:∃x,(t.groups.getD [])[g]? =some x:=⟨_,eh al⟩
 have ag:=ht.rows L (et R)
 have hpart:aB (Gr.cells L) 0 (some 2)=some (.agg (Gr.cells L)):=rfl
 have aa:∀c:List AV,c.length=2->setCells c 0 (Gr.cells L)=Gr.cells L:=λc h=>bp (by rw[h];rfl)
 try simp only[RY,↓KW,Nat.reduceBEq,Nat.reduceAdd,R,Gr.len,hpart,aa]
 refine⟨aaN,?_⟩
 try simp only[I,B,D,RY,↓KW,Nat.reduceBEq,Nat.reduceAdd,Nat.reduceLeDiff,Int.reduceNe,Int.reduceBEq,Int.reduceEq,reduceCtorEq,Nat.reduceMul,Int.reduceLT,Int.reduceLE,Int.reduceToNat,aa,Gr.len,hpart]
 refine aK (λk:Nat=>(⟨[(27,.dat (I k) none),(26,.dat (.agg (Gr.cells L)) none),(1,.dat (I p) none),(8,.dat (I g) none),(21,.dat (I g) none),(20,.dat (I ((t.groups.getD []).length:Nat)) none),(19,.dat (aJ Gr.cells t.groups) none),(4,.dat (I 0) none),(5,.dat (I 0) none),(6,.dat (I 0) none),(7,.dat (B false) none)],[],[],500⟩:S)) (λk=>2-k) (λk=>k<=2/\∀x∈dB (t.groups.getD []) g++dG L g k,x.p≠p) ?_ 0 ⟨aaN,by simpa[dG]using ae⟩ ?_
 rotate_left
 ·refine ai aaO ?_ ?_ ?_ ?_<;>simp[LX,I,B]
 rintro k ⟨hk,V⟩ A1 ad
 have au:=aD (k:=k) aaN
 try simp only[I,B,RY,↓KW,Nat.reduceBEq,Nat.reduceAdd]
 cases h3:decide ((k:Int)<2)
 ·have e:k=2:=by have:=dE h3;omega
  subst e;try simp only[RY,↓KW,Nat.reduceBEq,Nat.reduceAdd]
  refine back (g+1) _ ⟨aaN,by rw[kq R];exact V⟩ aaN ?_
  refine ai aaO ?_ ?_ ?_ ?_<;>simp[LX,I,B,hw]
 have am:k<2:=by have:=dT h3;omega
 have an:0<=(k:Int)/\(k:Int)<(2:Nat):=aaN
 have ak:(Gr.cells L)[k]? =some (aJ aH (L.row k)):=by
  have:k=0\/k=1:=aaN
  rcases this with rfl|rfl<;>rfl
 have a4:((L.row k).getD []).length<=1048576:=by
  have:k=0\/k=1:=aaN
  rcases this with rfl|rfl
  exact ag.1;exact ag.2
 try simp only[RY,↓KW,Nat.reduceBEq,Nat.reduceAdd,an,ak]
 refine aK (λi:Nat=>(⟨[(33,.dat (I i) none),(32,.dat (I (((L.row k).getD []).length:Nat)) none),(31,.dat (aJ aH (L.row k)) none),(1,.dat (I p) none),(8,.dat (I g) none),(10,.dat (I k) none),(27,.dat (I k) none),(26,.dat (.agg (Gr.cells L)) none),(21,.dat (I g) none),(20,.dat (I ((t.groups.getD []).length:Nat)) none),(19,.dat (aJ Gr.cells t.groups) none),(4,.dat (I 0) none),(5,.dat (I 0) none),(6,.dat (I 0) none),(7,.dat (B false) none)],[],[],600⟩:S)) (λi=>((L.row k).getD []).length-i) (λi=>i<=((L.row k).getD []).length/\∀x∈dB (t.groups.getD []) g++dG L g k++bZ g k (((L.row k).getD []).take i),x.p≠p) ?_ 0 ⟨aaN,by simpa[bZ]using V⟩ ?_
 rotate_left
 ·refine ai aaO ?_ ?_ ?_ ?_<;>simp[LX,I,B]
 rintro i ⟨hi,M⟩ A2 ac
 have ao:=aD (k:=i) aaN
 try simp only[I,B,RY,↓KW,Nat.reduceBEq,Nat.reduceAdd]
 cases h4:decide ((i:Int)<((((L.row k).getD []).length:Nat):Int))
 ·have e:i=((L.row k).getD []).length:=by have:=dE h4;omega
  subst e;rw[kf]at M;try simp only[RY,↓KW,Nat.reduceBEq,Nat.reduceAdd]
  refine ad (k+1) _ ⟨aaN,by rw[gB,<-List.append_assoc];exact M⟩ aaN ?_
  refine ai aaO ?_ ?_ ?_ ?_<;>simp[LX,I,B,au]
 have a2:i<((L.row k).getD []).length:=by have:=dT h4;omega
 obtain⟨x,hx⟩:∃x,((L.row k).getD [])[i]? =some x:=⟨_,eh a2⟩
 try simp only[I,RY,↓KW,Nat.reduceBEq,Nat.reduceAdd,hx,aH]
 refine⟨aaN,?_⟩
 cases h5:x==p
 ·have ar:x≠p:=by simpa using h5
  have hr:=lT (g:=g) (k:=k) hx
  try simp only[RY,↓KW,Nat.reduceBEq,Nat.reduceAdd]
  refine ac (i+1) _ ⟨aaN,?_⟩ aaN ?_
  ·by_cases h8:0<=x/\x<8
   ·rw[hr.1 h8,<-List.append_assoc]
    intro y hy
    rcases lh.1 hy with hy|hy
    ·exact M y hy
    ·rw[rf]at hy;subst hy;exact ar
   ·rw[hr.2 h8];exact M
  ·refine ai aaO ?_ ?_ ?_ ?_<;>simp[LX,I,B,ao]
 ·have ex:x=p:=by simpa using h5
  subst ex
  have hfound:=K1 hp R am hx M
  try simp only[RY,↓KW,Nat.reduceBEq,Nat.reduceAdd,hfound]
end
section
variable (t:Tb) {p:Nat} {s:Int} (k:Nat)
def fe(s:Int):List Nat:=(List.range 8).filter λp=>tb s p
theorem lX(h:p∈fe s):p<8:=by simp only[fe,GT,j9]at h;exact h.1
theorem sF(h:p∈fe s):tb s p=true:=by simp only[fe,GT,j9]at h;exact h.2
theorem EJ(D:p<8) (h:tb s p=true):p∈fe s:=by simp only[fe,GT,j9];exact⟨D,h⟩
def K3:zh:=(t.aR.getD []).getD k default
def Ng:Rl:=(t.bQ.getD []).getD k default
theorem Nh(p q:Int):gq t p q=gq t q p:=by
 simp only[gq];generalize(aC t p).2=b1;generalize(aC t q).2=b2;generalize(aC t p).1=s1;generalize(aC t q).1=s2;rw[Bool.and_comm b1 b2]
 congr 1
 ·congr 1
  rw[Id];simp only[md];exact eq_comm
 ·rw[Id];simp only[bne_iff_ne];exact ne_comm
theorem Ni(s:Int):(fe s).Nodup:=List.Pairwise.filter _ List.nodup_range
theorem Yv(D:p<8):ig s p=dZ s p:=by
 refine zH (QX _ _) (qN D) λi L=>?_
 rw[TV D,o5 D];simp[L]
end
section
open Z
def Hh:List AV:=(⟨_,by conv=>lhs;cbv⟩:bT (Oz [(0,12)])).1
end
section
variable (l:Option (List Int)) (a i b n:Int)
theorem CX:jn n=min (max n 0) 2147483647:=by
 simp only[jn,gN];split<;>(try split)<;>omega
theorem wE:ID a b=min (jn a+jn b) 2147483647:=by
 have D:=gk a
 have L:=gk b
 rw[ID,CX];omega
def zI(l:List Int):Int:=(l.map jn).sum
theorem OQ:∀l,0<=zI l
 |[]=>yv _
 |x::l=>by
  have:=gk x
  have:=OQ l
  simp only[zI,ka,Hc]at*;omega
theorem K4:∀(l:List Int) (a:Int),0<=a->a<=2147483647->l.foldl ID a=min (a+zI l) 2147483647
 |[],a,M,L=>by simp only[List.foldl_nil,zI,mi,List.sum_nil];omega
 |x::l,a,M,L=>by
  have O:=gk x
  have R:=OQ l
  have D:jn a=a:=by rw[CX];omega
  rw[ui,K4 l _ (by rw[wE];have:=gk a;omega) (by rw[wE];omega),wE,D]
  simp only[zI,ka,Hc]at*;omega
theorem nC(l:List Int):ku l=min (zI l) 2147483647:=by
 rw[ku,K4 l 0 aaN aaN,Int.zero_add]
theorem I1:ku [a,b]=ID a b:=by
 have D:=gk a
 have L:=gk b
 rw[nC,wE];simp only[zI,ka,mi,Hc,List.sum_nil];omega
theorem I2:∀(l:List Int) (a:Int),0<=a->l.foldl (λn x=>if x>n then x else n) a=max a (iF l)
 |[],a,h=>by show a=max a 0;omega
 |x::l,a,h=>by
  have e:iF (x::l)=max (if x>0 then x else 0) (iF l):=I2 l _ (by show 0<=if x>0 then x else 0;split<;>omega)
  rw[ui,I2 l _ (by split<;>omega),e]
  split<;>split<;>omega
theorem EK(x:Int) (l:List Int):iF (x::l)=max (max 0 x) (iF l):=by
 have:iF (x::l)=max (if x>0 then x else 0) (iF l):=I2 l _ (by show 0<=if x>0 then x else 0;split<;>omega)
 rw[this];split<;>omega
theorem QY:iF []=0:=rfl
def pre(D:Gr) (i:Nat):List Int:=(List.range i).flatMap λk=>(D.row k).getD []
theorem qP{α:Type} {l:List α} {p:α->Bool} (h:∀x∈l,p x=false):l.find? p=none:=by
 rw[If];intro x D;simp[h x D]
theorem ac9:(iS l i n).Fw:=by
 have r1:=bt l (eo (i+1)) (n:=4) aaO aaO
 have r2:=bt l (eo (i+2)) (n:=3) aaO aaO
 have r3:=bt l (eo (i+3)) (n:=4) aaO aaO
 have Z:=bt l (eo (i+4)) (n:=6) aaO aaO
 obtain⟨a,L⟩:∃m:Nat,dN l (eo (i+1)) 4=m:=⟨(dN l (eo (i+1)) 4).toNat,aaN⟩
 obtain⟨b,R⟩:∃m:Nat,dN l (eo (i+2)) 3=m:=⟨(dN l (eo (i+2)) 3).toNat,aaN⟩
 obtain⟨c,V⟩:∃m:Nat,dN l (eo (i+3)) 4=m:=⟨(dN l (eo (i+3)) 4).toNat,aaN⟩
 obtain⟨d,hd⟩:∃m:Nat,dN l (eo (i+4)) 6=m:=⟨(dN l (eo (i+4)) 6).toNat,aaN⟩
 have M:∀a:Nat,a<4->xl a<2^64:=aaO
 have O:∀a:Nat,a<4->∀b:Nat,b<3->uY a b<2^64:=by decide+kernel
 have D:∀c:Nat,c<6->zx c<2^64:=by decide+kernel
 refine⟨?_,?_,?_,?_⟩
 ·show xl _<_;rw[L];exact M a aaN
 ·show uY _ _<_;rw[L,R];exact O a aaN b aaN
 ·show zx _<_;rw[V];exact D c aaN
 ·show zx _<_;rw[hd];exact D d aaN
theorem TW:(eJ l).Fw:=by
 intro d hd
 have e:(eJ l).aR=d9 (kS l (ff l).2 (dN l 175 9) (dN l 175 9).toNat):=rfl
 rw[e,ez,kS,ne]at hd;obtain⟨k,_,rfl⟩:=hd;exact ac9 _ _ _
theorem TX{n:Int} (D:-9223372036854775808<=n) (L:n<=9223372036854775807):eo n=n:=aY D L
structure ada (x:Ph):Prop where
 min:1<=x.min/\x.min<=12
 max:x.min<=x.max/\x.max<=36
 top:x.max<=x.top/\x.top<=50
 V7:0<=x.V7/\x.V7<=8
 step:1<=x.step/\x.step<=6
 dQ:10<=x.dQ/\x.dQ<=13
 red:0<=x.red/\x.red<=4
 walk:(x.walk=0/\x.eP=0)\/(1<=x.walk/\x.walk<=10/\1<=x.eP/\x.eP<=10)
 mO:0<=x.mO/\x.mO<=3/\(x.mO=3->x.walk≠0)
 on:x.on=true
def nT:Nat:=(ff l).2
theorem K5:1<=nT l/\nT l<=8:=⟨Eo l,G5 l⟩
structure TY (n:Nat) (d:zh):Prop where
 phase:0<=d.phase/\d.phase<n
 may:lvl d.on=true/\lvl d.off=true/\Ey d.delay=true/\Ey d.extend=true
 most:0<=d.maxOn/\d.maxOn<=80/\0<=d.uO/\d.uO<=360
 order:gtF d.off d.on=false
theorem Yw{n:Nat} (hn:1<=n) (h8:n<=8):TY n (iS l i n):=by
 have Z:=bt l i (n:=(n:Int)) aaN aaN
 have r1:=bt l (eo (i+1)) (n:=4) aaO aaO
 have r2:=bt l (eo (i+2)) (n:=3) aaO aaO
 have r3:=bt l (eo (i+3)) (n:=4) aaO aaO
 have r4:=bt l (eo (i+4)) (n:=6) aaO aaO
 have r6:=bt l (eo (i+6)) (n:=60) aaO aaO
 have r7:=bt l (eo (i+7)) (n:=300) aaO aaO
 obtain⟨a,D⟩:∃m:Nat,dN l (eo (i+1)) 4=m:=⟨(dN l (eo (i+1)) 4).toNat,aaN⟩
 obtain⟨b,O⟩:∃m:Nat,dN l (eo (i+2)) 3=m:=⟨(dN l (eo (i+2)) 3).toNat,aaN⟩
 obtain⟨c,hc⟩:∃m:Nat,dN l (eo (i+3)) 4=m:=⟨(dN l (eo (i+3)) 4).toNat,aaN⟩
 obtain⟨d,hd⟩:∃m:Nat,dN l (eo (i+4)) 6=m:=⟨(dN l (eo (i+4)) 6).toNat,aaN⟩
 have R:∀a:Nat,a<4->lvl (xl a)=true:=by decide+kernel
 have L:∀a:Nat,a<4->∀b:Nat,b<3->lvl (uY a b)=true/\gtF (uY a b) (xl a)=false:=by decide+kernel
 have M:∀c:Nat,c<6->Ey (zx c)=true:=by decide+kernel
 have V:=TX (n:=20+dN l (eo (i+6)) 60) aaN aaN
 have e7:=TX (n:=60+dN l (eo (i+7)) 300) aaN aaN
 refine⟨Z,⟨?_,?_,?_,?_⟩,?_,?_⟩
 ·show lvl (xl _)=true;rw[D];exact R a aaN
 ·show lvl (uY _ _)=true;rw[D,O];exact(L a aaN b aaN).1
 ·show Ey (zx _)=true;rw[hc];exact M c aaN
 ·show Ey (zx _)=true;rw[hd];exact M d aaN
 ·simp only[iS,V,e7]
  split<;>split<;>omega
 ·show gtF (uY _ _) (xl _)=false;rw[D,O];exact(L a aaN b aaN).2
theorem ahP:((eJ l).aR.getD []).length<=8/\∀d∈(eJ l).aR.getD [],TY (nT l) d:=by
 have e:(eJ l).aR=d9 (kS l (ff l).2 (dN l 175 9) (dN l 175 9).toNat):=rfl
 have r:=bt l 175 (n:=9) aaO aaO
 rw[e,ez]
 refine⟨by rw[Bc];omega,λd hd=>?_⟩
 rw[kS,ne]at hd;obtain⟨k,_,rfl⟩:=hd;exact Yw _ _ (K5 l).1 (K5 l).2
def Tog(t:Tb) (n:Nat) (s:Int):Prop:=Can s/\(∀i,i<8->tb s i=true->i<n)/\∀i j,i<8->j<8->tb s i=true->tb s j=true->i≠j->gq t i j=true
structure TZ (t:Tb) (n:Nat) (r:Rl):Prop where
 bars:Can r.bars/\∀i,i<64->tb r.bars i=true->i<n/\tb r.iO i=false
 clear:Tog t n r.clear
 iO:Tog t n r.iO/\r.iO≠0
 exit:Tog t n r.exit/\r.exit≠0
 hold:(1<=r.hold/\r.hold<=10/\r.clear≠0)\/(r.hold=0/\r.clear=0)
 alS:0<=r.delay/\r.delay<=3/\1<=r.green/\r.green<=6/\0<=r.iy/\r.iy<=5/\1<=r.stay/\r.stay<=15
 most:r.most=0\/(r.stay<=r.most/\r.most<=44)
 limit:r.delay<r.limit/\r.limit<=10004
end
section
open Z
def qQ:List AV:=(⟨_,by conv=>lhs;cbv⟩:bT (Oz [(3,12)])).1
def sG:List AV:=(⟨_,by conv=>lhs;cbv⟩:bT (Oz [(1,1),(0,10),(1,3),(0,10),(1,3),(0,10),(1,3),(0,10),(1,3),(0,10),(1,3),(0,10),(1,3),(0,10),(1,3),(0,10),(1,2),(2,1),(0,8),(2,3),(0,30),(1,2),(0,10),(1,2),(0,10),(1,2),(0,10),(1,2),(0,10),(1,2),(0,10),(1,2),(0,10),(1,2),(0,10),(1,2),(0,3)])).1
def tG(g0 Z O g3 D V:Nat):bE:=⟨147,[.cell 8 (some 8),.cell 9 (some 5)],r [o 4 (w 0),o 5 (w 1),o 7 (w 3),o 8 (.alloc [i 0,i 0,i 0,i 0,i 0,i 0,i 0,i 0]),o 9 (.alloc [i 0,i 0,i 0,F,F])] (r [o 16 (L 4 131),o 17 (L 4 131),o 18 (L 5 8),M 19 2,o 20 (.call g0 [t 17,t 18,t 19]),o 21 (L 7 96),o 22 (.build sG [(0,131,t 16),(131,8,t 20),(139,96,t 21)]),o 23 (w 22),M 10 23] (r [o 24 (.call Z []),o 11 (.alloc qQ),n (s 11 24 12)] (j (r [M 25 10,o 26 (.nc (t 25)),o 27 (f 26 131),o 28 (f 27 0),o 29 (l 28),o 30 (bb .lss 29 (i 0)),M 31 30,q 32 (m 10) 31,q 33 (.nc (t 32)) 31,q 34 (f 33 131) 31,q 35 (f 34 0) 31,q 36 (l 35) 31,q 37 (bb .geq 36 (i 6)) 31,o 38 (Q 31 37)] (c 38 (R [M 39 10,o 40 (.nc (t 39)),o 41 (f 40 131),o 42 (f 41 0),n (ss 42 (i 0) 1)]) z)) (r [M 43 10,o 44 (.nc (t 43)),o 45 (f 44 131),o 46 (f 45 0),o 47 (l 46),M 12 47] (j (r [o 48 (L 4 131),M 49 10,o 50 (.nc (t 49)),o 51 (f 50 131),o 52 (L 51 8),o 53 (.call O [t 48,t 52]),M 13 53] (r [M 54 13,o 55 (bb .geq 54 (i 0)),M 56 55,p 57 (m 12) 56,p 58 (bb .eql 57 (i 0)) 56,p 59 (m 58) 56,q 60 (m 12) 59,q 61 (bb .eql 60 (i 5)) 59,p 62 (Q 59 61) 56,p 63 (m 62) 56,q 64 (m 13) 63,q 65 (m 10) 63,q 66 (.nc (t 65)) 63,q 67 (f 66 131) 63,q 68 (f 67 1) 63,q 69 (l 68) 63,q 70 (b .lss 64 69) 63,p 71 (Q 63 70) 56,o 72 (P 56 71)] (c 72 (r [M 73 10,M 74 10,M 75 10,M 76 13,o 77 (.nc (t 73)),o 78 (f 77 131),o 79 (f 78 0),n (ss 79 (i 1) 1),o 80 (.nc (t 74)),o 81 (f 80 131),o 82 (f 81 1),n (s 82 76 1),o 83 (.nc (t 75)),o 84 (f 83 131),o 85 (f 84 2),n (ss 85 (i 0) 1)] (.seq (.uo [M 86 10,o 87 (.nc (t 86)),o 88 (f 87 131),o 89 (L 88 8),M 90 10,o 91 (.dR g3 [t 90]),n (s 8 89 8),n (s 9 91 5)] [(3,5)]) y)) z))) (r [M 92 12,o 93 (A 11 92 6 2),o 94 (f 93 0),o 95 (l 94),M 96 10,o 97 (.gi (t 95) [t 96]),M 14 97] (j (r [M 98 12,o 99 (bb .eql 98 (i 5)),M 100 99,p 101 (m 14) 100,p 102 (bb .eql 101 (i 0)) 100,o 103 (P 100 102)] (c 103 (r [M 104 10,o 105 (.dR D [t 104]),o 15 (.alloc [i 0,i 0,i 0,F,F]),n (s 15 105 5)] (r [M 106 10,M 107 10,M 108 10,o 109 (.nc (t 106)),o 110 (f 109 131),o 111 (f 110 0),n (ss 111 (i 0) 1),o 112 (.nc (t 107)),o 113 (f 112 131),o 114 (f 113 1),n (ss 114 (i 0) 1),o 115 (.nc (t 108)),o 116 (f 115 131),o 117 (f 116 2),n (ss 117 (i 0) 1)] (.seq (.uo [M 118 10,o 119 (.nc (t 118)),o 120 (f 119 131),o 121 (L 120 8),o 122 (L 15 5),n (s 8 121 8),n (s 9 122 5)] [(4,5)]) y))) z)) (r [M 123 10,M 124 14,o 125 (.nc (t 123)),o 126 (f 125 131),o 127 (f 126 0),n (s 127 124 1)] (r [M 128 10,M 129 10,M 130 14,M 131 12,o 132 (b .neq 130 131),o 133 (.dR V [t 129,t 132]),o 134 (.nc (t 128)),o 135 (f 134 131),o 136 (f 135 2),n (s 136 133 1)] (.seq (.uo [M 137 10,o 138 (.nc (t 137)),o 139 (f 138 131),o 140 (L 139 8),M 141 14,o 142 (A 11 141 6 2),o 143 (f 142 1),o 144 (l 143),M 145 10,o 146 (.gi (t 144) [t 145]),n (s 8 140 8),n (s 9 146 5)] [(3,9)]) y))))))))))⟩
def qS(D:Nat):bE:=(⟨_,by conv=>lhs;ext y0;cbv⟩:bT λ(y0:List AV)=>cH 32 [.tmp 4] [D] [0,1,-1] 0x14844080a009ae01f17957c85942017848012861c085a3f89059202a725e960b5cf850082787c6088dc4082841133e21e1f0787c2fb9b973a8019f6136915216017309604320d18840380c0a0081a0c5e9e0806030b405b30 [y0]).1 bW
def qT(D:Nat):bE:=(⟨_,by conv=>lhs;cbv⟩:bT (cH 43 [.cell 6 (some 8)] [D] [0,1] 0xb00dcb09d240280ae9c4940a69c404a37e10474e24a462f8480d009de0190b09028a0c8bfa3a2240062e07020a1044d38a78678c8bc1421c008c3013239e17e1500412141f120a302a1cf0971017814048084805cc25810c83462100e0302802068317da82018f4400608033d3407b30 [[.int .i64 0,.int .i64 0,.int .i64 0,.int .i64 0,.int .i64 0,.int .i64 0,.int .i64 0,.int .i64 0],[.int .i64 0,.int .i64 0,.int .i64 0,.int .i64 0]] [] [.mm true [.t 29,.k (.int .i64 0)],.mm false [.t 30,.k (.int .i64 2147483646)]])).1
def qU(D:Nat):bE:=(⟨_,by conv=>lhs;ext y0;cbv⟩:bT λ(y0:List AV)=>cH 23 [.tmp 4] [D] [0,1] 0xb220405004d700b0bcabe42caa20401013c3e304a6e2041420899f10f0f81c2fb9b973a8019f6136915216017309604320d18840380c0a0081a0c5e9e080730b405b30 [y0]).1 bW
def o9(g0 Z O g3 M V R g7 g8 g9 L D:Nat):bE:=⟨8,[.cell 0 (some 12)],r [o 0 (.alloc qQ)] (r [o 1 (.build [.ja,.ja] [(0,1,k (.fn (.func g0) [] [])),(1,1,k (.fn (.func Z) [] []))]),o 2 (.build [.ja,.ja] [(0,1,k (.fn (.func O) [] [])),(1,1,k (.fn (.func g3) [] []))]),o 3 (.build [.ja,.ja] [(0,1,k (.fn (.func M) [] [])),(1,1,k (.fn (.func V) [] []))]),o 4 (.build [.ja,.ja] [(0,1,k (.fn (.func R) [] [])),(1,1,k (.fn (.func g7) [] []))]),o 5 (.build [.ja,.ja] [(0,1,k (.fn (.func g8) [] [])),(1,1,k (.fn (.func g9) [] []))]),o 6 (.build [.ja,.ja] [(0,1,k (.fn (.func L) [] [])),(1,1,k (.fn (.func D) [] []))]),o 7 (.build qQ [(0,2,t 1),(2,2,t 2),(4,2,t 3),(6,2,t 4),(8,2,t 5),(10,2,t 6)]),n (s 0 7 12)] y)⟩
def mu(L M D:Nat):bE:=(⟨_,by conv=>lhs;cbv⟩:bT (cH 10 [.cell 2 (some 5)] [L,M,D] [] 0xaa05ca0d464e1f07008b87e84041c3ec2830004f10 [[.int .i64 0,.int .i64 0,.int .i64 0,.bool false,.bool false]] [] [.GB (.t 7) 5 none])).1
def mY(L M D:Nat):bE:=(⟨_,by conv=>lhs;cbv⟩:bT (cH 9 [.cell 2 (some 5)] [L,M] [] 0x2a86280831420c07063170f838041c3ec282e004f10 [[.int .i64 0,.int .i64 0,.int .i64 0,.bool false,.bool false]] [.fn (.func D) [] []] [.GB (.t 5) 3 none])).1
def mZ(D L O:Nat):bE:=⟨53,[.tmp 4],r [V 4 (i 0)] (j (u 0 (j (r [M 6 1,M 5 6] (c 5 z (R [M 7 0,o 8 (.nc (t 7)),o 9 (f 8 131),o 10 (f 9 0),o 11 (l 10),o 12 (bb .eql 11 (i 0)),M 5 12]))) (c 5 (r [V 4 (i 0)] y) (j (r [M 14 0,o 15 (.nc (t 14)),o 16 (f 15 131),o 17 (f 16 0),o 18 (l 17),o 19 (bb .eql 18 (i 2)),M 20 19,p 21 (m 0) 20,p 22 (m 0) 20,p 23 (.dR D [t 22]) 20,p 24 (.GB (t 23) 1 none) 20,p 25 (.dR L [t 21,t 24]) 20,p 26 (.un .not (t 25)) 20,o 27 (P 20 26),M 13 27] (c 13 z (R [M 28 0,o 29 (.nc (t 28)),o 30 (f 29 131),o 31 (f 30 0),o 32 (l 31),o 33 (bb .eql 32 (i 4)),M 34 33,p 35 (m 0) 34,p 36 (m 0) 34,p 37 (.dR D [t 36]) 34,p 38 (.GB (t 37) 2 none) 34,p 39 (.dR L [t 35,t 38]) 34,p 40 (.un .not (t 39)) 34,o 41 (P 34 40),M 13 41]))) (c 13 (r [M 42 0,o 43 (.nc (t 42)),o 44 (f 43 131),o 45 (f 44 2),o 46 (l 45),M 4 46] y) z))))) (r [M 47 0,o 48 (.nc (t 47)),o 49 (f 48 131),o 50 (f 49 2),o 51 (l 50),o 52 (.call O [t 51]),M 4 52] y))⟩
def qV:bE:=(⟨_,by conv=>lhs;cbv⟩:bT (cH 10 [.tmp 2] [] [] 0xa0802e0705011c85ec408e42f22800d81a20 [] [.aU] [.mm false [.t 7,.k (.int .i64 4)],.V4 11 (.t 4) none (some (.t 8))])).1
def m7:bE:=(⟨_,by conv=>lhs;cbv⟩:bT (cH 3 [.tmp 2] [] [0] 0x1402408004810)).1
def m8:bE:=(⟨_,by conv=>lhs;cbv⟩:bT (cH 4 [.cell 2 (some 5)] [] [] 0xaa04ac4c4304004f10 [[.int .i64 0,.int .i64 0,.int .i64 0,.bool false,.bool false]])).1
def kU(L M D:Nat):bE:=(⟨_,by conv=>lhs;cbv⟩:bT (cH 15 [.tmp 2] [L,M,D] [0,255,1,2,4] 0xa81204194c2408020a0010c1838049c3eac0a0a41204010180243e0c42e1f0130301070fc0a4038039804810 [] [] [.GB (.t 12) 1 none])).1
def kV(D:Nat):bE:=(⟨_,by conv=>lhs;cbv⟩:bT (cH 12 [.tmp 2] [D] [0,3,2] 0x29048106510902008c820c202f1838041c3e1c208405062f02098fa0cd91804810 [] [] [.GB (.t 9) 7 none])).1
def mw(D L:Nat):bE:=(⟨_,by conv=>lhs;cbv⟩:bT (cH 9 [.cell 2 (some 5)] [D,L] [] 0xaa18a020218062170f838041c3ec282e004f10 [[.int .i64 0,.int .i64 0,.int .i64 0,.bool false,.bool false]] [] [.GB (.t 5) 1 none])).1
def jY(D L:Nat):bE:=(⟨_,by conv=>lhs;cbv⟩:bT (cH 9 [.tmp 2] [D,L] [0,255,4,3] 0x5309020ca412040102085c3e026060e01070fb0a0b01804810 [] [] [.GB (.t 5) 2 none])).1
def kE(L O D M:Nat):bE:=(⟨_,by conv=>lhs;cbv⟩:bT (cH 18 [.cell 2 (some 5)] [L,O,M] [0,255] 0xaa05caa7d240a8a6a4a2a040c240a27c405464e1f27009818b8041c3e3c8a44bf364402b1c0a06f020c62e1f07008387d90a097dec83a1a20 [[.int .i64 0,.int .i64 0,.int .i64 0,.bool false,.bool false]] [] [.GB (.t 6) 2 none,.GB (.t 11) 2 none,.uh (.func D) [] [.t 1]])).1
def kW(D L:Nat):bE:=(⟨_,by conv=>lhs;ext y0;cbv⟩:bT λ(y0:List AV)=>cH 100 [.tmp 2] [D,L] [0,4,1,5] 0x5309020ca412040581440a0c5e04531f6e10e16004020202f185d1780803002084d013062f02098f870c18bc24008263e1c3406c2c0ae05062f024517f4c7c31860464608205062f02098f87082381418bc08263e1c2202f104a0474e1602bd045e0403651090200940d05fc7066c2fe3417f43f8269b0bff86e41fb613841da0c5e1580ce7c38b82b4e1602121f0642f0787c0c2828140bf8e08202f2817f90cd93f54234835418bc25019bf870b01021e1f182492517cf807c5e362f1f178b0bc7c5fa3e2f61b1788b0bc585c905fc371c0a06fa02e2fe3810f0f8b8bfc80b8bfb451805c5fd6fe605c5fd5062f02e2feaad37f15a222a0c5e1a814dfc395870b01a187121b64234435418bc25019bf870b01020202f182081418bc08263e1c2020e1f4e02117d9004810 [y0]).1 bW
def mz(D L:Nat):bE:=(⟨_,by conv=>lhs;cbv⟩:bT (cH 9 [.cell 2 (some 5)] [D,L] [] 0xaa18a020218062170f838041c3ec282e004f10 [[.int .i64 0,.int .i64 0,.int .i64 0,.bool false,.bool false]] [] [.GB (.t 5) 2 none])).1
def kX(L O D M:Nat):bE:=(⟨_,by conv=>lhs;cbv⟩:bT (cH 22 [.tmp 2] [L,D,M] [0,255,5] 0x5209020ca01204012841c11d1fc482a91f2b4e16020844e1f013033e17825fa030800243170f8ba854097d401801c020e1f2a25f400181a20 [] [] [.GB (.t 6) 3 none,.uh (.func O) [] [.t 1]])).1
def mA(L M D:Nat):bE:=(⟨_,by conv=>lhs;cbv⟩:bT (cH 11 [.cell 2 (some 5)] [L,D] [255] 0x2aa29a928a81032817280888600a8c5c3e2e0030307008387d10926c83a1a20 [[.int .i64 0,.int .i64 0,.int .i64 0,.bool false,.bool false]] [] [.GB (.t 5) 3 none,.uh (.func M) [] [.t 1]])).1
def m9(L M D:Nat):bE:=(⟨_,by conv=>lhs;cbv⟩:bT (cH 17 [.cell 6 (some 5)] [M] [255] 0x1551cd8d4cc8c4c1d41b9404a0448301c10c1c3e006063c27c804c60e1f0700181e0b25d907497607b30 [[.int .i64 0,.int .i64 0,.int .i64 0,.bool false,.bool false]] [.fn (.func D) [] []] [.uh (.func L) [] [.t 5,.t 3]])).1
def kY(D:Nat):bE:=(⟨_,by conv=>lhs;ext y0;cbv⟩:bT λ(y0:List AV)=>cH 13 [.tmp 2] [D] [0] 0xa0800847ee660ca080083446008043060821a66076bc0a06f01070fa4020004810 [y0]).1 bW
def ng(D:Nat):bE:=(⟨_,by conv=>lhs;ext y0;cbv⟩:bT λ(y0:List AV)=>cH 34 [.cell 2 (some 11)] [D] [0] 0x16c0b9403040cb605cb61361550410283178104c7c384f8640128787f8e09be1ff20cc7f3f56234435418bc25019bf870b01020202f182081418bc08263ee40202f00600103418bc24008263e900c0604f10 [y0]).1 bW
def mB(D L:Nat):bE:=(⟨_,by conv=>lhs;cbv⟩:bT (cH 25 [.tmp 6] [D,L] [0] 0x50c07e4206107e502213470bf2208203b02721023162f02298fe09f240bc12fc80bdf80088b8bc585e2a2f1417898bc485e222f1017f87fb722fac4301c040da40406204143a4003097607b30 [[.int .i64 0]] [] [.fu (.t 12) [.t 13,.t 19]])).1
def qW(D:Nat):bE:=(⟨_,by conv=>lhs;cbv⟩:bT (cH 7 [.tmp 4] [D] [] 0xa1000206c2930983c7b20)).1
def kZ(D L:Nat):bE:=(⟨_,by conv=>lhs;cbv⟩:bT (cH 11 [.tmp 4] [D] [255] 0x508004a0f81051e087023070fc0c0b848810 [] [.fn (.func L) [] []])).1
def tH:bE:=(⟨_,by conv=>lhs;cbv⟩:bT (cH 7 [.tmp 2] [] [0,1] 0xa080240062e0720a8004810 [] [] [.mm true [.t 3,.k (.int .i64 0)],.mm false [.t 4,.k (.int .i64 9999)]])).1
def nh(D L:Nat):bE:=(⟨_,by conv=>lhs;cbv⟩:bT (cH 11 [.tmp 4] [D] [255] 0x508004a0f81051e087023070fc0c0b848810 [] [.fn (.func L) [] []])).1
def k9(D L:Nat):bE:=(⟨_,by conv=>lhs;cbv⟩:bT (cH 9 [.tmp 4] [L] [0] 0x14200090c1c3e0e814450011005b20 [] [] [.uh (.func D) [] [.t 2]])).1
def jz(D:Nat):bE:=(⟨_,by conv=>lhs;cbv⟩:bT (cH 15 [.tmp 5] [D] [1] 0xa141420e0840dcfe410dfcb15170d0102141f04022a0983c9b20)).1
def ni(D:Nat):bE:=(⟨_,by conv=>lhs;cbv⟩:bT (cH 21 [.tmp 4] [D] [1,2] 0x16e6d6c4c2028471c1e4743f83080bef825a7c041ba7c3ab83c13e2c1ac4862902d0a14020430608044222fb2983c7b20 [] [] [.GB (.t 16) 6 none])).1
def jZ(D:Nat):bE:=(⟨_,by conv=>lhs;cbv⟩:bT (cH 23 [.tmp 5] [D] [1] 0x142801cf1e8674f44f85080bf3c866bb8bc55008a0737f2e9a0b45385057010269fca073e0204283e08044242f0983c9b20)).1
def vp:bE:=(⟨_,by conv=>lhs;cbv⟩:bT (cH 16 [.tmp 2] [] [1,2,3] 0x14102831c8862902d01e1403418e24314816850a010218304022e0981a20)).1
def kF:bE:=(⟨_,by conv=>lhs;cbv⟩:bT (cH 37 [.tmp 5] [] [1,2] 0x50a0a0870327f6e160340505fc701617f080bc505fe40505fda20505fd5b0c0282feb7f019402a8a4dfc3b5974d05a29c280408507c101088be62a2f00c00707120e93e17001b127160102141f0400222f3b0983c9b20)).1
def lf(D:Nat):bE:=(⟨_,by conv=>lhs;cbv⟩:bT (cH 22 [.tmp 6] [D] [1] 0x50c0a10704206e7f2086fe4bca8f8680d08381080bdc8ba682d1a140204283e08044202f0983cbb20)).1
def pn:bE:=(⟨_,by conv=>lhs;cbv⟩:bT (cH 9 [.tmp 4] [] [1] 0x508002141f0400222250983c7b20)).1
def ov:bE:=(⟨_,by conv=>lhs;cbv⟩:bT (cH 8 [.tmp 4] [] [1] 0x508002141f0402240983c7b20)).1
def j0(D L:Nat):bE:=(⟨_,by conv=>lhs;cbv⟩:bT (cH 29 [.tmp 5] [D,L] [] 0x14545fc2a2f91517a8a8bd0545e0a14140485fc701317f10890bfb9fc090bfb461832dfda45e2a8045139bf874b2e5a5c34068471c28405f1e4335dc5e2a8045039bf974d05a302804040d852302fb2983c9b20)).1
end
section
variable (s:Int) {x:Int} (f:Nat->Bool)
def mC(f:Nat->Bool):Nat->Int
 |0=>0
 |k+1=>if f k then dZ (mC f k) k else mC f k
def OR:Int:=mC f 8
theorem K6(f:Nat->Bool):∀k,k<=8->Can (mC f k)
 |0,_=>by show Can 0;exact⟨aaO,aaO⟩
 |k+1,h=>by
  simp only[mC];split
  ·exact qN aaN
  ·exact K6 f k aaN
theorem OS(f:Nat->Bool) (i:Nat):∀k,k<=8->tb (mC f k) i=(decide (i<k)&&f i)
 |0,_=>by simp[mC,lU]
 |k+1,h=>by
  have M:=OS f i k aaN
  simp only[mC];split
  ·rename_i hk
   rw[o5 aaN,M]
   by_cases e:i=k
   ·subst e;simp[hk]
   ·have D:(i<k+1)↔i<k:=aaN
    have O:i<k->i<8:=aaN
    by_cases L:i<k
    ·simp[D,L,O L,e]
    ·simp[D,L,e]
  ·rename_i hk
   rw[M]
   by_cases e:i=k
   ·subst e;simp at hk;simp[hk]
   ·have D:(i<k+1)↔i<k:=aaN
    simp[D]
theorem OT:Can (OR f):=K6 f 8 aaN
theorem EL(i:Nat):tb (OR f) i=(decide (i<8)&&f i):=OS f i 8 aaN
theorem adb(L:Can x) {f:Nat->Bool} (h:∀i,i<8->tb x i=f i):x=OR f:=
 zH L (OT f) λi D=>by rw[h i D,EL];simp[D]
theorem Yx{y:Int} (M:Can y):Can (dL .i64 x y):=by
 have e:dL .i64 x y=IntKind.i64.wrap ((bv x&&&bv y).toNat:Int):=rfl
 rw[e]
 refine EI λi L D=>?_
 have a:=zG M L D
 simp only[tb]at a;rw[BitVec.getLsbD_and,a,pd]
theorem Yy:Can 255:=⟨aaO,aaO⟩
theorem ahQ:Can 0:=⟨aaO,aaO⟩
def K7:Bool:=(List.range 8).all λp=>!tb s p||f p
theorem vq{s:Int} {f:Nat->Bool}:K7 s f=true↔∀p,p<8->tb s p=true->f p=true:=by
 simp only[K7,np,j9,px,sm];constructor
 ·intro h p D L;rcases h p D with e|e
  ·rw[L]at e;cases e
  ·exact e
 ·intro h p D
  cases L:tb s p
  ·exact .inl rfl
  ·exact .inr (h p D L)
theorem I3:(OR (λp=>tb s p&&f p)==dL .i64 s 255)=K7 s f:=by
 rw[Id,vq,md];constructor
 ·intro h p M D
  have:=rh (λx=>tb x p) h
  simp only[EL,IL,Et,M,D,decide_true,pA,pB]at this;exact this
 ·intro h
  refine zH (OT _) (Yx Yy) λi L=>?_
  rw[EL,IL,Et];cases D:tb s i
  ·simp
  ·simp[L,h i L D]
def Hi(D:Nat->Bool) (l:List Nat):Int:=l.foldl (λn p=>if D p then dZ n p else n) 0
theorem EM(D:Nat->Bool):∀(l:List Nat) (n:Int),(∀p∈l,p<8)->Can n->Can (l.foldl (λn p=>if D p then dZ n p else n) n)/\∀i,i<8->tb (l.foldl (λn p=>if D p then dZ n p else n) n) i=(tb n i||(decide (i∈l)&&D i))
 |[],n,_,O=>⟨O,λi M=>aaP⟩
 |q::l,n,h,O=>by
  have L:q<8:=h q aaP
  rw[ui]
  have R:Can (if D q then dZ n q else n):=by split;exact qN L;exact O
  obtain⟨a,b⟩:=EM D l _ (λp V=>h p (by simp[V])) R
  refine⟨a,λi M=>?_⟩
  rw[b i M]
  by_cases e:i=q
  ·subst e
   split
   ·rename_i hk;rw[o5 L];simp[hk]
   ·rename_i hk;simp at hk;simp[hk]
  ·have Z:(i∈q::l)↔i∈l:=by simp[e]
   simp only[Z];split
   ·rw[o5 L];simp[M,e]
   ·rfl
theorem QZ(L:Nat->Bool) (s:Int):Hi L (fe s)=OR λp=>tb s p&&L p:=by
 obtain⟨a,b⟩:=EM L (fe s) 0 (λp O=>lX O) ahQ
 refine adb a λi M=>?_
 rw[b i M,lU,w5];cases D:tb s i
 ·have:¬i∈fe s:=λh=>by rw[sF h]at D;cases D
  simp[this]
 ·simp[EJ M D]
end
section
variable (t:Tb) (C:aQ) (s:Pr) {k:Nat} (f:Nat) (lines:Int)
def eV(k:Nat):Int:=s.held.getD k 0
def tr4:Option (List Rl):=t.bQ.map (·.take 4)
def nR:Nat:=min (t.bQ.getD []).length 4
theorem CY:((tr4 t).getD []).length=nR t:=by
 unfold tr4 nR;cases t.bQ with
 |none=>rfl
 |some l=>simp[Nat.min_comm]
theorem I4(hk:k<nR t):((tr4 t).getD [])[k]? =some (Ng t k):=by
 unfold nR at hk;unfold tr4 Ng
 cases h:t.bQ with
 |none=>rw[h]at hk;simp at hk
 |some l=>
  rw[h]at hk;simp only[wi]at hk;simp only[mt,wi]
  have D:k<l.length:=aaN
  rw[ws,ib aaN]
  simp[D]
theorem Pr.len{s:Pr} (h:s.held.length=4):s.cells.length=8:=by simp[Pr.cells,h]
theorem Pr.whole{s:Pr} (h:s.held.length=4):aB s.cells 0 (some 8)=some (.agg s.cells):=by
 have:=Pr.len h
 simp[aB,this];rw[<-this,kf]
theorem jM{s:Pr} (h:s.held.length=4):s.held=[eV s 0,eV s 1,eV s 2,eV s 3]:=by
 match D:s.held,h with
 |[a,b,c,d],_=>simp[eV,D]
theorem Pr.I5{s:Pr} (h:s.held.length=4) (hk:k<4):s.cells[3+k]? =some (I (eV s k)):=by
 have e:k=0\/k=1\/k=2\/k=3:=aaN
 rw[Pr.cells,jM h]
 rcases e with rfl|rfl|rfl|rfl<;>rfl
theorem Pr.vl{s:Pr} (h:s.held.length=4):s.cells[7]? =some (I s.eH):=by
 rw[Pr.cells,jM h];rfl
def qX(t:Tb) (lines:Int):Nat->Int
 |0=>0
 |k+1=>if tb lines k then AQ .i64 (qX t lines k) (2^k)else qX t lines k
def T6(k:Nat):Int:=gN (eV s k) 0 2147483646+1
def gn(t:Tb) (s:Pr) (lines:Int) (n:Nat):List Int:=(List.range 4).map λk=>if k<n&&tb lines k then T6 s k else 0
def kG:Pr:={s with held:=gn t s lines (nR t),eH:=dL .i64 s.eH (qX t lines (nR t))}
theorem K8:(kG t s lines).held.length=4:=rfl
def K9(k:Nat):Bool:=decide (eV s k>(Ng t k).delay)&& !tb s.eH k
def aN:Int:=match(List.range (nR t)).find? (K9 t s)with
 |some k=>k
 |none=>-1
def EN(k:Nat):Bool:=decide (eV s k>(Ng t k).limit)
def ym:Bool:=(List.range (nR t)).any (EN t s)
def vr.Spec:Prop:=∀t:Tb,t.Ok->C.c f [.agg t.cells] (aJ Rl.cells (tr4 t)) none
def EO.Spec:Prop:=∀(t:Tb) (s:Pr) (lines:Int),t.Ok->s.held.length=4->C.c f [.agg t.cells,.agg s.cells,I lines] (.agg (kG t s lines).cells) none
def Bh.Spec:Prop:=∀(t:Tb) (s:Pr),t.Ok->s.held.length=4->C.c f [.agg t.cells,.agg s.cells] (I (aN t s)) none
def EP.Spec:Prop:=∀(t:Tb) (s:Pr),t.Ok->s.held.length=4->C.c f [.agg t.cells,.agg s.cells] (B (ym t s)) none
def La.Spec:Prop:=∀n:Int,C.c f [I n] (I (bM n)) none
theorem OU{s:Int} (hk:k<4):dL .i64 (s.fdiv (2^k)) 1=if tb s k then 1 else 0:=by
 have D:tb (s.fdiv (2^k)) 0=tb s k:=by
  rw[sB _ aaN,sB _ aaN]
  simp
 rw[zB,D]
theorem OV(hk:k<4):min ((k:Int)).toNat IntKind.i64.bits=k:=by
 have:IntKind.i64.bits=64:=rfl
 rw[this];omega
theorem Lb(hk:k<4):(gn t s lines (k+1)).map I=setCells ((gn t s lines k).map I) k [I (if tb lines k then T6 s k else 0)]:=by
 have e:k=0\/k=1\/k=2\/k=3:=aaN
 rcases e with rfl|rfl|rfl|rfl<;>simp[gn,setCells,lL]
theorem Lc(h:tb lines k=false):gn t s lines (k+1)=gn t s lines k:=by
 unfold gn
 apply H4
 intro i D
 by_cases e:i=k
 ·subst e;simp[h]
 ·have:(i<k+1)↔i<k:=aaN
  simp[this]
end
section
variable{P:Program} (hm:P.follows .mixedOrders=true) {f:Nat}
include hm
section
variable {fR:Nat}
theorem La.ok(L:bF P f=some tH):La.Spec (Pure P) f:=by
 intro n
 have D:(if 9999<(if 0>n then 0 else n)then 9999 else(if 0>n then 0 else n))=gN n 0 9999:=by
  unfold gN;split<;>split<;>(try split)<;>omega
 refine aq hm L [] rfl ?_;try simp only[I,RX,↓KW,seval,tH,Z.H]
 rw[D];rfl
theorem vr.ok(O:bF P f=some qV):vr.Spec (Pure P) f:=by
 intro t M
 have L:=Tb.zq M
 refine aq hm O [] rfl ?_;try simp only[RX,↓KW,seval,qV,Z.H,L]
 have D:(if(4:Int)<((t.bQ.getD []).length:Int)then(4:Int)else((t.bQ.getD []).length:Int))=(nR t:Int):=by unfold nR;split<;>omega
 rw[D]
 refine⟨⟨aaN,by unfold nR;omega⟩,λr _=>rfl,?_⟩
 unfold tr4 nR
 cases t.bQ with
 |none=>rfl
 |some l=>
  simp only[wi,aJ,H6,mt,AV.sl.injEq,pu,Int.toNat_zero,kh,List.map_take]
  rcases lj l.length 4 with h|h
  ·rw[Nat.min_eq_left aaN,jp aaP,jp (by simp;omega)]
  ·rw[Nat.min_eq_right h]
theorem EO.ok(hc:bF P f=some (qT fR)) (hR:vr.Spec (Pure P) fR):EO.Spec (Pure P) f:=by
 intro t s lines L V
 have hp:=Tb.whole L
 have ad:=Pr.len V
 have hn:=CY t
 have h1:=Pr.vl V
 refine aq hm hc [] rfl ?_;try simp only[I,RY,↓KW,seval,qT,Z.H,hp]
 refine af (hR t L) ?_;try simp only[RY,↓KW,seval,hn]
 refine aK (λk:Nat=>(⟨[(13,.dat (I k) none),(12,.dat (I (nR t)) none),(2,.dat (I lines) none),(7,.dat (I (qX t lines k)) none),(4,.ptr 5 0),(8,.ptr 8 0),(6,.ptr 6 0)],[(5,⟨s.cells,[]⟩),(8,⟨(gn t s lines k).map I,[]⟩),(6,⟨[I 0,I 0,I 0,I 0,I 0,I 0,I 0,I 0],[]⟩)],[],400⟩:S)) (λk=>nR t-k) (λk=>k<=nR t) ?_ 0 aaN ?_
 rotate_left
 ·refine ai aaO ?_ ?_ ?_ ?_<;>simp[LX,I,gn,qX]
  rfl
 ·intro k hk A back
  have O:=aD (k:=k) (by unfold nR at*;omega)
  try simp only[I,RY,↓KW,seval]
  refine az (λh=>?_) (λh=>?_)<;>try simp only[RY,↓KW,seval,h]
  ·have h8:k<nR t:=by have:=dT h;omega
   have h4:k<4:=by unfold nR at h8;omega
   have hy:0<=(k:Int)/\(k:Int)<4:=aaN
   have hm:min k IntKind.i64.bits=k:=by have:=OV h4;simpa using this
   have R:=OU (s:=lines) h4
   have ha:=Pr.I5 V h4
   have M:=Lb t s lines h4
   have D:qX t lines (k+1)=if tb lines k then AQ .i64 (qX t lines k) (2^k)else qX t lines k:=rfl
   have aa:IntKind.i64.wrap (1*2^k)=2^k:=by
    have e:k=0\/k=1\/k=2\/k=3:=aaN
    rcases e with rfl|rfl|rfl|rfl<;>rfl
   refine⟨hy.1,?_⟩;cases L:tb lines k
   ·have ag:=Lc t s lines L
    rw[L]at R D;try simp only[RY,↓KW,seval,hm,R]
    refine back (k+1) _ aaN aaN (ai aaO ?_ ?_ ?_ ?_)<;>simp[LX,I,O,D,ag]
   ·rw[L]at R D M
    have ae:(if 2147483646<(if 0>eV s k then 0 else eV s k)then 2147483646 else(if 0>eV s k then 0 else eV s k))=gN (eV s k) 0 2147483646:=by
     unfold gN;split<;>split<;>(try split)<;>omega
    have hr:0<=gN (eV s k) 0 2147483646/\gN (eV s k) 0 2147483646<=2147483646:=by unfold gN;split<;>(try split)<;>omega
    have ab:IntKind.i64.wrap (gN (eV s k) 0 2147483646+1)=T6 s k:=by rw[aY aaN aaN];rfl
    try simp only[I,RY,↓KW,seval,hm,R,aa,hy,ha,ae,ab]
    refine⟨by show k+1<=4;omega,?_⟩
    refine back (k+1) _ aaN aaN (ai aaO ?_ ?_ ?_ ?_)<;>simp[LX,I,O,D,M]
  ·have ac:k=nR t:=by have:=dE h;omega
   subst ac
   have q1:aB ((gn t s lines (nR t)).map I) 0 (some 4)=some (.agg ((gn t s lines (nR t)).map I)):=rfl
   have q2:((gn t s lines (nR t)).map I).length=4:=rfl
   have e1:setCells s.cells 3 ((gn t s lines (nR t)).map I)=({s with held:=gn t s lines (nR t)}:Pr).cells:=by
    rw[Pr.cells,jM V];rfl
   have e2:∀x,setCells ({s with held:=gn t s lines (nR t)}:Pr).cells 7 [I x]=({s with held:=gn t s lines (nR t),eH:=x}:Pr).cells:=λx=>rfl
   have e3:({s with held:=gn t s lines (nR t)}:Pr).cells.length=8:=rfl
   have e6:aB ({s with held:=gn t s lines (nR t),eH:=dL .i64 s.eH (qX t lines (nR t))}:Pr).cells 0 (some 8)=some (.agg ({s with held:=gn t s lines (nR t),eH:=dL .i64 s.eH (qX t lines (nR t))}:Pr).cells):=rfl
   have e7:({s with held:=gn t s lines (nR t),eH:=dL .i64 s.eH (qX t lines (nR t))}:Pr).cells.length=8:=rfl
   have e8:setCells [I 0,I 0,I 0,I 0,I 0,I 0,I 0,I 0] 0 ({s with held:=gn t s lines (nR t),eH:=dL .i64 s.eH (qX t lines (nR t))}:Pr).cells=({s with held:=gn t s lines (nR t),eH:=dL .i64 s.eH (qX t lines (nR t))}:Pr).cells:=rfl
   try simp only[I,RY,↓KW,seval,q1,q2,h1,e1,e2,e3,e6,e7,e8,ad]
   rfl
theorem Bh.ok(hc:bF P f=some (qS fR)) (hR:vr.Spec (Pure P) fR):Bh.Spec (Pure P) f:=by
 intro t s ht hs
 have hp:=Tb.whole ht
 have hn:=CY t
 have h7:=Pr.vl hs
 refine aq hm hc [] rfl ?_;try simp only[I,RX,↓KW,seval,qS,Z.H,hp]
 refine af (hR t ht) ?_;try simp only[RX,↓KW,seval,hn]
 refine aK (λk:Nat=>(⟨[(10,.dat (I k) none),(9,.dat (I (nR t)) none),(8,.dat (aJ Rl.cells (tr4 t)) none),(3,.ptr 5 0)],[(5,⟨s.cells,[]⟩)],[],400⟩:S)) (λk=>nR t-k) (λk=>k<=nR t/\∀q,q<k->K9 t s q=false) ?_ 0 ⟨aaN,aaN⟩ ?_
 rotate_left
 ·refine ai aaO ?_ ?_ ?_ ?_<;>simp[LX,I]
 ·rintro k ⟨hk,L⟩ A back
  have V:=aD (k:=k) (by unfold nR at*;omega)
  try simp only[I,RX,↓KW,seval]
  refine az (λh=>?_) (λh=>?_)<;>try simp only[RX,↓KW,seval,h]
  ·have h8:k<nR t:=by have:=dT h;omega
   have h4:k<4:=by unfold nR at h8;omega
   have O:0<=(k:Int)/\(k:Int)<4:=aaN
   have hm:min k IntKind.i64.bits=k:=by have:=OV h4;simpa using this
   have hb:=OU (s:=s.eH) h4
   have ha:=Pr.I5 hs h4
   have hg:=I4 t h8
   have R:K9 t s k=(decide (eV s k>(Ng t k).delay)&& !tb s.eH k):=rfl
   generalize hq:Ng t k=r at*
   have aa:aB r.cells 0 (some 11)=some (.agg r.cells):=rfl
   have ab:r.cells[4]? =some (I r.delay):=rfl
   refine⟨aaN,?_⟩
   have hz:setCells bW 0 r.cells=r.cells:=rfl
   have ad:bW.length=11:=rfl
   try simp only[I,RY,↓KW,seval,O,ha,hg,aa,ab,hz,ad,Rl.len]
   cases hd:decide (eV s k>r.delay)
   ·have D:K9 t s k=false:=by rw[R,hd];rfl
    try simp only[RY,↓KW,seval]
    refine back (k+1) _ ⟨aaN,λq ae=>?_⟩ aaN ?_
    ·by_cases e:q=k
     ·rw[e];exact D
     ·exact L q aaN
    ·refine ai aaO ?_ ?_ ?_ ?_<;>simp[LX,I,V]
   ·try simp only[I,RY,↓KW,seval,hm,O,h7]
    cases M:tb s.eH k
    ·have D:K9 t s k=true:=by rw[R,hd,M];rfl
     rw[M]at hb
     have hf:(List.range (nR t)).find? (K9 t s)=some k:=wk (mr h8) D (λy O=>L y (by rw[OF]at O;have:=j9.1 O;omega))
     try simp only[RY,↓KW,seval,hb]
     simp[aN,hf]
    ·have D:K9 t s k=false:=by rw[R,hd,M];rfl
     rw[M]at hb;try simp only[RY,↓KW,seval,hb]
     refine back (k+1) _ ⟨aaN,λq ae=>?_⟩ aaN ?_
     ·by_cases e:q=k
      ·rw[e];exact D
      ·exact L q aaN
     ·refine ai aaO ?_ ?_ ?_ ?_<;>simp[LX,I,V]
  ·have ac:k=nR t:=by have:=dE h;omega
   subst ac
   have hf:(List.range (nR t)).find? (K9 t s)=none:=qP λx R=>L x (j9.1 R)
   simp[aN,hf]
theorem EP.ok(hc:bF P f=some (qU fR)) (hR:vr.Spec (Pure P) fR):EP.Spec (Pure P) f:=by
 intro t s ht hs
 have hp:=Tb.whole ht
 have hn:=CY t
 refine aq hm hc [] rfl ?_;try simp only[B,RX,↓KW,seval,qU,Z.H,hp]
 refine af (hR t ht) ?_;try simp only[RX,↓KW,seval,hn]
 refine aK (λk:Nat=>(⟨[(10,.dat (I k) none),(9,.dat (I (nR t)) none),(8,.dat (aJ Rl.cells (tr4 t)) none),(3,.ptr 5 0)],[(5,⟨s.cells,[]⟩)],[],400⟩:S)) (λk=>nR t-k) (λk=>k<=nR t/\∀q,q<k->EN t s q=false) ?_ 0 ⟨aaN,aaN⟩ ?_
 rotate_left
 ·refine ai aaO ?_ ?_ ?_ ?_<;>simp[LX,I]
 ·rintro k ⟨hk,M⟩ A back
  have ad:=aD (k:=k) (by unfold nR at*;omega)
  try simp only[I,RX,↓KW,seval]
  refine az (λh=>?_) (λh=>?_)<;>try simp only[RX,↓KW,seval,h]
  ·have R:k<nR t:=by have:=dT h;omega
   have h4:k<4:=by unfold nR at R;omega
   have hy:0<=(k:Int)/\(k:Int)<4:=aaN
   have ha:=Pr.I5 hs h4
   have hg:=I4 t R
   have O:EN t s k=decide (eV s k>(Ng t k).limit):=rfl
   generalize hq:Ng t k=r at*
   have V:aB r.cells 0 (some 11)=some (.agg r.cells):=rfl
   have aa:r.cells[10]? =some (I r.limit):=rfl
   refine⟨aaN,?_⟩
   have hz:setCells bW 0 r.cells=r.cells:=rfl
   have ac:bW.length=11:=rfl
   try simp only[I,RY,↓KW,seval,hy,ha,hg,V,aa,hz,ac,Rl.len]
   cases hd:decide (eV s k>r.limit)
   ·have D:EN t s k=false:=by rw[O,hd]
    try simp only[RY,↓KW,seval]
    refine back (k+1) _ ⟨aaN,λq ae=>?_⟩ aaN ?_
    ·by_cases e:q=k
     ·rw[e];exact D
     ·exact M q aaN
    ·refine ai aaO ?_ ?_ ?_ ?_<;>simp[LX,I,ad]
   ·have D:EN t s k=true:=by rw[O,hd]
    try simp only[RY,↓KW,seval]
    have L:ym t s=true:=List.any_eq_true.2 ⟨k,j9.2 R,D⟩
    simp[L]
  ·have ab:k=nR t:=by have:=dE h;omega
   subst ab
   have L:ym t s=false:=by
    rw[ym,List.any_eq_false];intro x O;simp[M x (j9.1 O)]
   simp[L]
end
end
end Go.Eng
