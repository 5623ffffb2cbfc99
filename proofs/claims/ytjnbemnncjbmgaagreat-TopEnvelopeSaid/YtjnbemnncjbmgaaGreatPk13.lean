/- Part 13 of the engine and its library. -/
import Derived.Test.YtjnbemnncjbmgaaGreatPk12
set_option linter.all false
set_option maxRecDepth 10000
set_option maxHeartbeats 4000000
namespace Go.Eng
open Go
section
open Z
def mU:List AV:=(⟨_,by conv=>lhs;cbv⟩:bS (O9 [(1,1),(0,10),(1,3),(0,10),(1,3),(0,10),(1,3),(0,10),(1,3),(0,10),(1,3),(0,10),(1,3),(0,10),(1,3),(0,10),(1,2),(2,1),(0,8),(2,3),(0,39)])).1
def gp:List AV:=(⟨_,by conv=>lhs;cbv⟩:bS (O9 [(0,16)])).1
def vl(D L:Nat):bJ:=(⟨_,by conv=>lhs;ext y0 y1;cbv⟩:bS λ(y0 y1:List AV)=>cE 43 [.cell 6 (some 16),.tmp 7] [D,L] [0,8,1,7] 0x2b1b1309870080be9b94044c11262f21017c18bd20c5e063885e91017a74c18bcfa4405f0945f08b2180239c03216140518c08c47100818106082309c53c33c322081541f320a3041820882714f099051820c02f467868048828c10462388787c08024042402e612c086243462100e062040c405f7c0a10f08010c42a82000c0ea693407b50 [y1,y0]).1 mU gp
def vm:bJ:=(⟨_,by conv=>lhs;cbv⟩:bS (cE 7 [.tmp 2] [] [0,1] 0xa080240062e0720a8004810 [] [] [.mm true [.t 3,.k (.int .i64 0)],.mm false [.t 4,.k (.int .i64 9999)]])).1
def lG(M Z R O V L D:Nat):bJ:=(⟨_,by conv=>lhs;cbv⟩:bS (cE 24 [.tmp 2] [Z] [0,1,2,3,4,5,6] 0x50403e2e2f01031a820017178080038c034083087020110195d362f4282f8181b06810610e040420323a6c5e3d3362f4202f8201a86810610e04022031ba6c5eb6060681a0418438100880c4e9b17aa8181986810610e04022030ba6c5e9e060641a0418438100880c0e9b17a498188c100d0181a20 [] [] [.vV (.func M) [] [.t 1],.vV (.func R) [] [.t 1],.vV (.func O) [] [.t 1],.vV (.func V) [] [.t 1],.vV (.func L) [.t 17] [],.vV (.func D) [] [.t 1]])).1
def nE:bJ:=⟨22,[.tmp 4],r [o 2 (w 0),V 4 (F)] (j (r [o 7 (f 2 0),o 8 (f 7 0),o 9 (L 8 104),V 10 (i 0)] (u 0 (.loop (r [o 11 (bb .lss 10 (i 8))] (j (c 11 z (.exit 0)) (j (u 1 (r [M 12 10,o 13 (.FT (t 9) (t 10) 8 13 (some 13)),o 6 (.alloc dV),M 5 12,n (s 6 13 13)] (r [o 14 (f 6 0),o 15 (l 14),M 16 15,p 17 (m 1) 16,p 18 (m 5) 16,p 19 (.gy (t 17) [t 18]) 16,o 20 (P 16 19)] (c 20 (r [V 4 (T)] y) z)))) (R [o 21 (bb .add 10 (i 1)),M 10 21]))))))) (r [V 4 (F)] y))⟩
def j0(D:Nat):bJ:=(⟨_,by conv=>lhs;cbv⟩:bS (cE 8 [.tmp 3] [D] [0] 0xa0c004283e04406819b17a4a846810)).1
def nF(D:Nat):bJ:=(⟨_,by conv=>lhs;cbv⟩:bS (cE 12 [.tmp 4] [D] [0,7] 0x508001030384828c1060823262f626180011005b20 [] [] [.vQ .u64 (.t 9)])).1
def j4(D:Nat):bJ:=(⟨_,by conv=>lhs;cbv⟩:bS (cE 8 [.tmp 3] [D] [1] 0x1418008787c604406819b17a4a846810)).1
def j5(D L:Nat):bJ:=(⟨_,by conv=>lhs;cbv⟩:bS (cE 12 [.tmp 3] [D,L] [] 0x5060a0c70221590e57362fc06fe0204406819b17a4c846810)).1
def lH:bJ:=(⟨_,by conv=>lhs;cbv⟩:bS (cE 11 [.tmp 4] [] [6,0] 0x142004860c0828c1060823262f62617091005b20)).1
def j6(D L:Nat):bJ:=(⟨_,by conv=>lhs;cbv⟩:bS (cE 8 [.tmp 4] [L] [] 0x50800220303a6c5e928130b405b30 [] [] [.vV (.func D) [] [.t 3,.t 2]])).1
def j7(D:Nat):bJ:=(⟨_,by conv=>lhs;cbv⟩:bS (cE 15 [.tmp 3] [D] [8,0] 0x5060a0c70220590e57362f1e06fe02243060414608304119317b130e046810)).1
def j8(D:Nat):bJ:=(⟨_,by conv=>lhs;cbv⟩:bS (cE 18 [.tmp 4] [D] [4,1,2] 0x142001b1c0910240469f1e6f362f2e073e020d8e4448120234f8f379b17e039f0112040900d03362f49e091005b20)).1
def j9(D:Nat):bJ:=(⟨_,by conv=>lhs;cbv⟩:bS (cE 21 [.tmp 3] [D] [2,1] 0x5060a0fc70cd7f20fdac1fab6101fadfc03f500fca0f562346101adfe025418bc795070b0112040900d03362f491217846810)).1
def kV:bJ:=(⟨_,by conv=>lhs;cbv⟩:bS (cE 26 [.tmp 8] [] [7] 0xa20140445fc702d47f3f56041648368c1025bfc98bd3950f0b0102a0f97081051820c204400a0c5f443c2242f0a1009b20)).1
def iQ(D L:Nat):bJ:=(⟨_,by conv=>lhs;cbv⟩:bS (cE 8 [.tmp 2] [D,L] [0] 0xa08002264c0306504001030390502a1804810 [] [] [.vQ .u32 (.t 3)])).1
def js(D L:Nat):bJ:=(⟨_,by conv=>lhs;cbv⟩:bS (cE 31 [.tmp 4] [D,L] [] 0x284050638110ac872b9b1797037f01a11c706202fe8e87f0220c69f1f782706101ae7da45e1580b9b071711d60441b21eac468c2035bfb48bc250172a1e1a02058384811b17848810)).1
def kg:bJ:=(⟨_,by conv=>lhs;cbv⟩:bS (cE 35 [.tmp 2] [] [0,127] 0x282009051838100bc08000008038e1430e10382f0280000200df850c3840c0bc0a000008036e1430e10282f0280002f0518100c3853850c787c0c000008033e0a30e13e0a32e1431207000004018f051d08f051870a1a0b8004810 [] [.int .u64 1,.int .u64 6148914691236517205,.int .u64 2,.int .u64 3689348814741910323,.int .u64 4,.int .u64 1085102592571150095,.int .u64 8,.int .u64 16,.int .u64 32] [.vQ .i64 (.t 32)])).1
end
section
open Z
def G0(D:Nat):bJ:=⟨19,[.tmp 2],r [o 1 (w 0),V 2 (i 0)] (r [V 3 (i 0)] (j (r [o 6 (f 1 0),o 7 (L 6 104),V 8 (i 0)] (u 0 (.loop (r [o 9 (bb .lss 8 (i 8))] (j (c 9 z (.exit 0)) (j (u 1 (r [M 10 8,o 11 (.FT (t 7) (t 8) 8 13 (some 13)),o 5 (.alloc dV),M 4 10,n (s 5 11 13)] (r [o 12 (f 5 0),o 13 (l 12)] (c 13 (R [M 14 3,M 15 4,o 16 (.call D [t 14,t 15]),M 3 16]) z)))) (R [o 17 (bb .add 8 (i 1)),M 8 17]))))))) (r [M 18 3,M 2 18] y)))⟩
def rW(D L:Nat):bJ:=(⟨_,by conv=>lhs;cbv⟩:bS (cE 51 [.tmp 4,.tmp 5,.tmp 6,.tmp 7] [D,L] [0,2,1] 0xa642fe13117f0980bf85a01f85b857853978bc1000545e023805c2f2af9081b17808e0168bcabe420845e022422fe02c17957c858256158bf84a85fc29019c35c31c2e0080541f1e104c2f018128bf8560010522a42a0ae692c08641a3108470181403e2f0180f0bf84d001c42806e652c086243462104e030a78d0be0404322fe9e51717f8004bc824922a42c02e612c08641a31080701814046817d1217cd00d8d4c85fc2622fe13017f0b403f0b70af0a72f1782000a8bc04700b85e55f210362f011c02d17957c84108bc044845fc0582f2af90b04ac2b17f0950bf85203386b86385c0100a83e3c20985e0302517f0ac0020a45485415cd25810c83462108e0302807c5e0301e17f09a00388500dcca5810c4868c4209c0614f1a17c0808645fd3ca2e2ff000979049245485805cc25810c83462100e0302808d02fa242f9a018071b2cc0180300442002010a0f80898044223fb808061b300600c011005b50 [[.aZ,.aZ]] [] [.FT (.t 26) (.t 27) 2 1 none])).1
def JI(D:Nat):bJ:=(⟨_,by conv=>lhs;cbv⟩:bS (cE 18 [.tmp 2] [D] [0,1] 0x5040a222f010080098e01017957c84180118602065e1580510a004126a980b984b0219068c4201c06051b00c0c0608004810)).1
end
section
variable{t:Tb} (h:t.Ln)
include h
theorem PS:t.cells.drop 105=t.conflict.map I++(aI Bo.cells t.aV::aI Rl.cells t.bE::aI Bs.cells t.l6::
  I t.extend::I t.i7::I t.start::I t.revert::I t.least::(t.dO.map I++[I t.rL,I t.share])):=by
 have e:(t.phases.flatMap Ph.cells).length=104:=by rw[aO Ph.len,h.phases]
 have D:t.cells.drop 105=(t.cells.drop 104).drop 1:=by rw[ul]
 rw[D,Tb.cells,List.drop_left' e];rfl
theorem afY:t.cells[104]? =some (aI Gr.cells t.groups):=by
 simp[Tb.cells,xf,aO Ph.len,h.phases,h.conflict,h.dO,List.getElem?_cons]
end
section
variable (x:Nat)
def lvl:Bool:=gtF x 0&&T6 x 4696837146684686336
def am7:Bool:=decide (IntKind.i64.wrap (x:Int)<0)
def G1:Bool:=Zf x&& !am7 x
def Bo.Fw(d:Bo):Prop:=d.on<2^64/\d.off<2^64/\d.delay<2^64/\d.extend<2^64
def Tb.Fw(t:Tb):Prop:=∀d∈t.aV.getD [],d.Fw
structure Rd where
 lock:List Int
 was:Int
 ff:Int
 deriving Inhabited,DecidableEq
def Rd.cells(s:Rd):List AV:=s.lock.map I++[I s.was,I s.ff]
structure Rn where
 az:Int
 time:Int
 fst:Int
 bI:Int
 left:Int
 dX:Int
 extra:Int
 done:Bool
 l9:Bool
 limit:Int
 up:Int
 down:Int
 deriving Inhabited,DecidableEq
def Rn.cells(r:Rn):List AV:=[I r.az,I r.time,I r.fst,I r.bI,I r.left,I r.dX,I r.extra,B r.done,B r.l9,I r.limit,I r.up,I r.down]
theorem Rn.len(r:Rn):r.cells.length=12:=rfl
def de(l:List Rn):List AV:=l.flatMap Rn.cells
end
section
variable (t:Tb) {l:List Rn} {s:Rd} (k:Nat)
theorem dW(h:l.length=8):(de l).length=96:=by rw[de,aO Rn.len,h]
def uA(s:Rd) (k:Nat):Int:=s.lock.getD k 0
def vn:Bs:=(t.l6.getD []).getD k default
def pU:Nat:=min (t.l6.getD []).length 4
def jJ(s:Int):List Nat:=(List.range (pU t)).filter λk=>tb s k
def rX:List AV:=[I k,.agg (vn t k).cells]
theorem Rd.at(h:s.lock.length=4) {k:Nat} (hk:k<4):s.cells[k]? =some (I (uA s k)):=by
 have D:k<s.lock.length:=ado
 simp[Rd.cells,xf,D,uA]
theorem Rd.afZ(h:s.lock.length=4):s.cells[4]? =some (I s.was):=by simp[Rd.cells,h]
theorem Rd.xk(h:s.lock.length=4):s.cells[5]? =some (I s.ff):=by simp[Rd.cells,h]
theorem Rd.len(h:s.lock.length=4):s.cells.length=6:=by simp[Rd.cells,h]
theorem Rd.whole(h:s.lock.length=4):aB s.cells 0 (some 6)=some (.agg s.cells):=by
 have:=Rd.len h
 simp[aB,this];rw[<-this,io]
theorem ir(h:l.length=8):aB (de l) 0 (some 96)=some (.agg (de l)):=by
 have:=dW h
 simp[aB,this];rw[<-this,io]
theorem jE{k:Nat} (h:l.length=8) (hk:k<8):aB (de l) (k*12) (some 12)=some (.agg (l.getD k default).cells):=by
 have D:l[k]? =some (l.getD k default):=by
  have:k<l.length:=ado
  simp[this]
 rw[de,jn D]
 exact gh (by rw[aO Rn.len,jo D]) rfl
end
section
variable (t:Tb) (C:aT) (s:Rd) (l:List Rn) (n ask:Int) (f k:Nat) (r:Rn)
theorem Nm{t:Tb} {s:Int} {i k:Nat} (h:(jJ t s)[i]? =some k):k<4/\k<(t.l6.getD []).length/\tb s k=true:=by
 have:=er h
 simp only[jJ,yk,ip,pU]at this
 exact⟨ado,ado,this.2⟩
def G2.Spec:Prop:=∀n:Int,C.c f [I n] (I (cU ((if 9999<(if 0>n then 0 else n)then 9999 else(if 0>n then 0 else n))+1))) none
def each.Spec:Prop:=∀(t:Tb) (s:Int),t.Ok->∃g,C.c f [.agg t.cells,I s] (.fn (.func g) [] [.ref t.cells,.ref [I s]]) none/\C.i (.fn (.func g) [] [.ref t.cells,.ref [I s]]) ((jJ t s).map (rX t))
def Nn:Int:=if uA s k<=0 then AW .i64 n (2^k)else n
def sV:Int:=(jJ t ask).foldl (Nn s) 0
def Live.Spec:Prop:=∀(t:Tb) (s:Rd) (ask:Int),t.Ok->s.lock.length=4->C.c f [.agg t.cells,.agg s.cells,I ask] (I (sV t s ask)) none
def jP(D:Rn->Bool) (l:List Rn):Nat->Int
 |0=>0
 |k+1=>if D (l.getD k default)then eJ (jP D l k) k else jP D l k
def yD.Spec:Prop:=∀(l:List Rn) (g:Nat) (caps:List AV) (D:Rn->Bool),l.length=8->(∀r:Rn,C.c g (.agg r.cells::caps) (B (D r)) none)->C.c f [.agg (de l),.fn (.func g) [] caps] (I (jP D l 8)) none
def No:Int:=AW .i64 n (vn t k).set
def G3:Bool:=r.az==1&&decide (r.extra<t.extend)
def Ez:Int:=if s.ff>=t.i7 then 0 else bT .i64 ((jJ t (sV t s ask)).foldl (No t) 0) (jP (G3 t) l 8)
def Np.Spec:Prop:=∀(t:Tb) (r:Rn),t.Ok->C.c f [.agg r.cells,.ref t.cells] (B (G3 t r)) none
def WM.Spec:Prop:=∀(t:Tb) (s:Rd) (l:List Rn) (ask:Int),t.Ok->s.lock.length=4->l.length=8->C.c f [.agg t.cells,.agg s.cells,.agg (de l),I ask] (I (Ez t s l ask)) none
def yE:Bool:=r.az==1
def G4.Spec:Prop:=∀(r:Rn),C.c f [.agg r.cells] (B (yE r)) none
def G5(green n:Int) (k:Nat):Int:=if bT .i64 (vn t k).set green==0 then AW .i64 n (bC .i64 255 (vn t k).set)else n
def G6:Int:=(jJ t (sV t s ask)).foldl (G5 t (jP yE l 8)) 0
def Early.Spec:Prop:=∀(t:Tb) (s:Rd) (l:List Rn) (ask:Int),t.Ok->s.lock.length=4->l.length=8->C.c f [.agg t.cells,.agg s.cells,.agg (de l),I ask] (I (G6 t s l ask)) none
theorem Aq{α:Type} {f:Int->α->Int} {b:Int} {l:List α} {i:Nat} {x:α} (h:l[i]? =some x):(l.take (i+1)).foldl f b=f ((l.take i).foldl f b) x:=mP h
theorem WN{k:Nat} (hk:k<8):IntKind.i64.wrap (1*2^min k IntKind.i64.bits)=2^k:=by
 have:k=0\/k=1\/k=2\/k=3\/k=4\/k=5\/k=6\/k=7:=ado
 rcases this with rfl|rfl|rfl|rfl|rfl|rfl|rfl|rfl<;>decide
theorem Tb.Ua{t:Tb} (D:t.Ok):t.cells[116]? =some (I t.extend):=by
 simp[Tb.cells,xf,aO Ph.len,D.phases,D.conflict]
theorem Tb.Ub{t:Tb} (D:t.Ok):t.cells[117]? =some (I t.i7):=by
 simp[Tb.cells,xf,aO Ph.len,D.phases,D.conflict]
end
section
variable{P:Program} (hm:P.follows .mixedOrders=true) {f:Nat}
include hm
section
variable {R fE fL fT:Nat}
theorem G2.ok(D:bK P f=some vk):G2.Spec (Pure P) f:=by
 intro n;refine aq hm D [] rfl ?_;try simp only[I,RX,↓KW,seval,vk,Z.H]
 rfl
theorem G4.ok(D:bK P f=some pT):G4.Spec (Pure P) f:=by
 intro r;refine aq hm D [] rfl ?_;try simp only[I,B,RX,↓KW,seval,pT,Z.H,Rn.cells]
 rfl
theorem Np.ok(D:bK P f=some qW):Np.Spec (Pure P) f:=by
 intro t r L
 have M:(t.cells.drop 116)[0]? =some (AV.int .i64 t.extend):=by rw[lL];exact Tb.Ua L
 refine aq hm D [] rfl ?_;try simp only[I,B,RX,↓KW,seval,qW,Z.H,Rn.cells]
 repeat' (((first|refine aY ?_ ?_|refine aA ?_ ?_|refine bH ?_ ?_)<;>intro h)<;>try simp only[RX,↓KW,seval,M,h])
 all_goals simp_all [G3]
theorem yD.ok{fW:Nat} (hc:bK P f=some (sR fW)) (hW:jb.Spec (Pure P) fW):yD.Spec (Pure P) f:=by
 intro l g caps D V hg
 have O:=ir V
 refine aq hm hc [] rfl ?_;try simp only[I,RX,↓KW,seval,sR,Z.H,O]
 refine aG (λk:Nat=>(⟨[(9,.dat (I k) none),(5,.dat (I (jP D l k)) none),(8,.dat (.agg (de l)) none),(1,.dat (.fn (.func g) [] caps) none)],[],[],400⟩:S)) (λk=>8-k) (λk=>k<=8) ?_ 0 ado ?_
 ·intro k hk A back
  have hw:=aC (k:=k) ado
  try simp only[I,RX,↓KW,seval]
  refine aA (λh=>?_) (λh=>?_)<;>try simp only[RX,↓KW,seval,h]
  ·have h8:k<8:=by have:=dE h;omega
   have R:=jE V h8
   have hn:jP D l (k+1)=if D (l.getD k default)then eJ (jP D l k) k else jP D l k:=rfl
   have M:=hg (l.getD k default)
   generalize l.getD k default=r at*
   have hp:aB r.cells 0 (some 12)=some (.agg r.cells):=rfl
   try simp only[RX,↓KW,seval,R,bB,Rn.len,hp]
   refine⟨ado,?_⟩
   refine af M ?_;try simp only[B,RX,↓KW,seval]
   refine aA (λL=>?_) (λL=>?_)<;>try simp only[B,RX,↓KW,seval,L]
   ·refine af (hW _ _) ?_
    try simp only[I,RX,↓KW,seval]
    refine back (k+1) _ ado ado (ai adp ?_ ?_ ?_ ?_)<;>simp[LX,I,hw,hn,L]
   ·refine back (k+1) _ ado ado (ai adp ?_ ?_ ?_ ?_)<;>simp[LX,I,hw,hn,L]
  ·have:k=8:=by have:=dT h;omega
   subst this;try simp only[seval]
 ·refine ai adp ?_ ?_ ?_ ?_<;>simp[LX,I,jP]
theorem Live.ok(V:bK P f=some (ve R)) (hE:each.Spec (Pure P) R):Live.Spec (Pure P) f:=by
 intro t s ask O hs
 have hp:=Tb.whole O
 refine aq hm V [] rfl ?_;try simp only[I,RX,↓KW,seval,ve,Z.H,hp]
 obtain⟨g,hg,hi⟩:=hE t ask O;refine af hg ?_;try simp only[I,RX,seval]
 refine iW (λn:Int=>(⟨[(11,.dat (.fn (.func g) [] [.ref t.cells,.ref [.int .i64 ask]]) none),(4,.ptr 5 0),(7,.ptr 7 0)],[(5,⟨s.cells,[]⟩),(7,⟨[I n],[]⟩)],[],400⟩:S)) (λi n=>n=((jJ t ask).take i).foldl (Nn s) 0) hi rfl (iV λ_=>rfl) (λ_=>rfl) ?_ ?_ 0 adI ?_
 ·rintro i x n hx rfl F back
  obtain⟨k,hk,rfl⟩:=od hx;obtain⟨h4,aa,hb⟩:=Nm hk
  have M:=Rd.at hs h4
  have L:=Aq (f:=Nn s) (b:=0) hk
  have D:=WN (k:=k) ado
  try simp only[I,RX,↓KW,seval,rX,M]
  refine⟨ado,?_⟩
  refine aA (λh=>?_) (λh=>?_)<;>try simp only[RX,↓KW,seval,h]
  ·try simp only[seval,D]
   refine⟨ado,back _ _ rfl ?_⟩
   refine ai adp ?_ ?_ ?_ ?_<;>simp[LX,I,L,Nn,dE h]
  ·refine back _ _ rfl ?_
   refine ai adp ?_ ?_ ?_ ?_<;>simp[LX,I,L,Nn,dT h]
 ·rintro n L
  try simp only[I,RX,↓KW,seval,L]
  simp[sV]
 ·refine ai adp ?_ ?_ ?_ ?_<;>simp[LX,I]
theorem WM.ok(hc:bK P f=some (vf fL fE R fT)) (hL:Live.Spec (Pure P) fL) (hE:each.Spec (Pure P) fE) (h1:Np.Spec (Pure P) R) (hT:yD.Spec (Pure P) fT):WM.Spec (Pure P) f:=by
 intro t s l ask L V M
 have hp:=Tb.whole L
 have aa:=Rd.whole V
 have ab:s.cells[5]? =some (AV.int .i64 s.ff):=Rd.xk V
 have ac:t.cells[117]? =some (AV.int .i64 t.i7):=Tb.Ub L
 have ad:=ir M
 refine aq hm hc [] rfl ?_;try simp only[I,RX,↓KW,seval,vf,Z.H,ab,ac]
 refine aA (λD=>?_) (λD=>?_)<;>try simp only[RX,↓KW,seval,hp,aa,D]
 ·have:=dE D
  simp[Ez,this]
 ·have O:=dT D
  refine af (hL t s ask L V) ?_;try simp only[I,RX,↓KW,seval]
  obtain⟨g,hg,hi⟩:=hE t (sV t s ask) L
  refine af hg ?_;try simp only[I,RX,seval]
  refine iW (λn:Int=>(⟨[(22,.dat (.fn (.func g) [] [.ref t.cells,.ref [.int .i64 (sV t s ask)]]) none),(4,.ptr 4 0),(6,.ptr 6 0),(9,.ptr 13 0)],[(4,⟨t.cells,[]⟩),(6,⟨de l,[]⟩),(13,⟨[I n],[]⟩)],[],400⟩:S)) (λi n=>n=((jJ t (sV t s ask)).take i).foldl (No t) 0) hi rfl (iV λ_=>rfl) (λ_=>rfl) ?_ ?_ 0 adI ?_
  ·rintro i x n hx rfl F back
   obtain⟨k,hk,rfl⟩:=od hx
   have hn:=Aq (f:=No t) (b:=0) hk
   try simp only[I,RX,↓KW,seval,rX,Bs.cells]
   refine back _ _ rfl ?_
   refine ai adp ?_ ?_ ?_ ?_<;>simp[LX,I,hn,No]
  ·rintro n hn
   try simp only[I,RX,↓KW,seval,hn]
   refine ep (by rfl) ?_
   try simp only[RX,↓KW,seval,ad]
   refine⟨rfl,af (hT l R [.ref t.cells] (G3 t) M (λr=>h1 t r L)) ?_⟩
   try simp only[I,RX,↓KW,seval]
   simp[Ez,O]
  ·refine ai adp ?_ ?_ ?_ ?_<;>simp[LX,I]
theorem Early.ok{O:Nat} (hc:bK P f=some (sQ fT O fL fE)) (hT:yD.Spec (Pure P) fT) (h1:G4.Spec (Pure P) O) (hL:Live.Spec (Pure P) fL) (hE:each.Spec (Pure P) fE):Early.Spec (Pure P) f:=by
 intro t s l ask M hs D
 have hp:=Tb.whole M
 have R:=Rd.whole hs
 have V:=ir D
 refine aq hm hc [] rfl ?_;try simp only[I,RX,↓KW,seval,sQ,Z.H,V]
 refine af (hT l O [] yE D h1) ?_;try simp only[I,RX,↓KW,seval,hp,R]
 refine af (hL t s ask M hs) ?_;try simp only[I,RX,↓KW,seval]
 obtain⟨g,hg,hi⟩:=hE t (sV t s ask) M
 refine af hg ?_;try simp only[I,RX,seval]
 refine iW (λn:Int=>(⟨[(20,.dat (.fn (.func g) [] [.ref t.cells,.ref [.int .i64 (sV t s ask)]]) none),(9,.ptr 10 0),(10,.ptr 11 0)],[(10,⟨[I (jP yE l 8)],[]⟩),(11,⟨[I n],[]⟩)],[],400⟩:S)) (λi n=>n=((jJ t (sV t s ask)).take i).foldl (G5 t (jP yE l 8)) 0) hi rfl (iV λ_=>rfl) (λ_=>rfl) ?_ ?_ 0 adI ?_
 ·rintro i x n hx rfl F back
  obtain⟨k,hk,rfl⟩:=od hx
  have L:=Aq (f:=G5 t (jP yE l 8)) (b:=0) hk
  try simp only[I,RX,↓KW,seval,rX,Bs.cells]
  refine aA (λh=>?_) (λh=>?_)<;>try simp only[RX,↓KW,seval,h]
  ·refine back _ _ rfl ?_
   refine ai adp ?_ ?_ ?_ ?_<;>simp[LX,I,L,G5,h]
  ·refine back _ _ rfl ?_
   refine ai adp ?_ ?_ ?_ ?_<;>simp[LX,I,L,G5,h]
 ·rintro n L
  try simp only[I,RX,↓KW,seval,L]
  simp[G6]
 ·refine ai adp ?_ ?_ ?_ ?_<;>simp[LX,I]
def Nq.Spec(C:aT) (f:Nat):Prop:=∀(t:Tb) (s:Int),t.Ok->C.i (.fn (.func f) [] [.ref t.cells,.ref [I s]]) ((jJ t s).map (rX t))
theorem each.ok{D:Nat} (L:bK P f=some (vh D)) (M:Nq.Spec (Pure P) D):each.Spec (Pure P) f:=by
 intro t s O;refine⟨D,?_,M t s O⟩;refine aq hm L [] rfl ?_;try simp only[I,RX,↓KW,seval,vh,Z.H]
 simp
end
end
section
variable (t:Tb) (s:Rd) (ask:Int) (held:Bool) {k:Nat} (round:Bool)
theorem Ll(x:Int) (hk:k<8):bT .i64 (x.fdiv (2^min k IntKind.i64.bits)) 1=if tb x k then 1 else 0:=by
 have e:min k IntKind.i64.bits=k:=by have:IntKind.i64.bits=64:=rfl;omega
 have D:tb (x.fdiv (2^k)) 0=tb x k:=by
  rw[Am _ ado,Am _ ado]
  simp
 rw[e,GX,D]
def adb(n:Int):Int:=cU ((if 9999<(if 0>n then 0 else n)then 9999 else(if 0>n then 0 else n))+1)
def G7(k:Nat):Int:=if uA s k>0 then cU (uA s k-1)else if tb s.was k&& !tb ask k then(vn t k).lock else 0
def xl(i:Nat):List Int:=(List.range 4).map λk=>if k<i then G7 t s ask k else 0
def PT:Int:=if held then adb (if round then 0 else s.ff)else if round then 0 else s.ff
def xm:Rd:=⟨xl t s ask (pU t),sV t s ask,PT s held round⟩
def G8.Spec(C:aT) (f:Nat):Prop:=∀(t:Tb) (s:Rd) (ask:Int) (held round:Bool),t.Ok->s.lock.length=4->C.c f [.agg t.cells,.agg s.cells,I ask,B held,B round] (.agg (xm t s ask held round).cells) none
theorem Nr:jJ t 15=List.range (pU t):=by
 rw[jJ,List.filter_eq_self];intro k hk;simp only[ip,pU]at hk
 have:k=0\/k=1\/k=2\/k=3:=ado
 rcases this with rfl|rfl|rfl|rfl<;>decide
def xp(D:Int) (i:Nat):List AV:=(⟨xl t s ask i,sV t s ask,D⟩:Rd).cells
theorem WO(D:Int) (hk:k<4):setCells (xp t s ask D k) k [AV.int .i64 (G7 t s ask k)]=xp t s ask D (k+1):=by
 have:k=0\/k=1\/k=2\/k=3:=ado
 rcases this with rfl|rfl|rfl|rfl<;>simp[xp,Rd.cells,xl,setCells,lj]
theorem Uc(D:Int) (hk:k<4) (h:G7 t s ask k=0):xp t s ask D k=xp t s ask D (k+1):=by
 have:k=0\/k=1\/k=2\/k=3:=ado
 rcases this with rfl|rfl|rfl|rfl<;>simp[xp,Rd.cells,xl,lj,h]
theorem am8(a b c d:AV):setCells [a,b] 0 [c,d]=[c,d]:=rfl
theorem BG(D:Int) (i:Nat):(xp t s ask D i).length=6:=by simp[xp,Rd.cells,xl]
end
section
variable{P:Program} (hm:P.follows .mixedOrders=true) {f:Nat}
include hm
theorem G8.ok{fL fM fE:Nat} (hc:bK P f=some (vg fL fM fE)) (hL:Live.Spec (Pure P) fL) (hM:G2.Spec (Pure P) fM) (hE:each.Spec (Pure P) fE):G8.Spec (Pure P) f:=by
 intro t s ask held round ht hs
 have hp:=Tb.whole ht
 have ac:=Rd.whole hs
 have an:s.cells[5]? =some (AV.int .i64 s.ff):=Rd.xk hs
 have ak:s.cells[4]? =some (AV.int .i64 s.was):=Rd.afZ hs
 obtain⟨L,aa⟩:∃L,L=PT s held round:=⟨_,rfl⟩
 refine aq hm hc [] rfl ?_;try simp only[I,B,RX,↓KW,seval,vg,Z.H,hp,ac]
 refine af (hL t s ask ht hs) ?_
 cases held<;>cases round
 all_goals
  try simp only[I,RX,↓KW,seval,hp,an]
  repeat' (first|(refine af (hM _) ?_;try simp only[I,RX,↓KW,seval,hp])|(((first|refine aY ?_ ?_|refine aA ?_ ?_|refine bH ?_ ?_)<;>intro h)<;>try simp only[I,B,D,RX,↓KW,seval,hp,ac,h]))
  obtain⟨g,hg,hi⟩:=hE t 15 ht;refine af hg ?_;try simp only[I,RX,seval]
  refine iW (λy:Nat=>(⟨[(29,.dat (.fn (.func g) [] [.ref t.cells,.ref [.int .i64 15]]) none),(6,.ptr 5 0),(11,.ptr 15 0),(7,.ptr 6 0),(10,.ptr 7 0)],[(5,⟨s.cells,[]⟩),(15,⟨xp t s ask L y,[]⟩),(6,⟨[I ask],[]⟩),(7,⟨[I 0,I 0,I 0,I 0,I 0,I 0],[]⟩)],[],400⟩:S)) (λi y=>y=i/\i<=pU t) hi rfl (iV λ_=>rfl) (λ_=>rfl) ?_ ?_ 0 adI ?_
  ·rintro i x y hx ⟨rfl,a3⟩ F back
   obtain⟨k,hk,rfl⟩:=od hx;obtain⟨h4,a4,hb⟩:=Nm hk
   have am:y=k:=by
    rw[Nr]at hk
    have h1:=(eo.1 hk).1
    rw[kv (by simpa using h1)]at hk
    simpa using hk
   subst am
   have ag:=Rd.at hs h4
   have a2:=Ll s.was (k:=y) ado
   have ao:=Ll ask (k:=y) ado
   have O:=WO t s ask L h4
   have R:=Uc t s ask L h4
   have V:y+1<=pU t:=by simp only[pU];omega
   try simp only[I,RY,↓KW,seval,rX,ag,Bs.cells]
   refine⟨ado,?_⟩
   refine aA (λh=>?_) (λh=>?_)<;>try simp only[RY,↓KW,seval,h]
   ·have hN:G7 t s ask y=IntKind.i64.wrap (uA s y-1):=by simp[G7,cU,dE h]
    rw[hN]at O;try simp only[I,RY,↓KW,seval,ag,BG,O]
    refine⟨ado,ado,ado,back (y+1) _ ⟨rfl,V⟩ ?_⟩
    refine ai adp ?_ ?_ ?_ ?_<;>simp[LX,I]
   ·have h':=dT h
    try simp only[RY,↓KW,seval,ak,a2]
    cases ae:tb s.was y<;>cases ab:tb ask y
    all_goals
     have hN:G7 t s ask y=if tb s.was y&& !tb ask y then(vn t y).lock else 0:=by simp[G7,h']
     rw[hN,ae,ab]at O;rw[hN,ae,ab]at R;try simp only[RY,↓KW,seval,ab,ao,am8,BG]
     repeat' (refine dC ado ?_)
     refine back (y+1) _ ⟨rfl,V⟩ ?_
    ·have M:=R adI
     refine ai adp ?_ ?_ ?_ ?_<;>simp[LX,I,M]
    ·have M:=R adI
     refine ai adp ?_ ?_ ?_ ?_<;>simp[LX,I,M]
    ·simp only[pd,H0,kw]at O
     refine ai adp ?_ ?_ ?_ ?_<;>simp[LX,I,O]
    ·have M:=R adI
     refine ai adp ?_ ?_ ?_ ?_<;>simp[LX,I,M]
  ·rintro y ⟨rfl,a3⟩
   have e:(jJ t 15).length=pU t:=by rw[Nr];simp
   have ad:=BG t s ask L (pU t)
   have au:(xp t s ask L (pU t)).take 6=xp t s ask L (pU t):=by rw[kf];omega
   have ar:setCells [AV.int .i64 0,AV.int .i64 0,AV.int .i64 0,AV.int .i64 0,AV.int .i64 0,AV.int .i64 0] 0 (xp t s ask L (pU t))=xp t s ask L (pU t):=aM (by rw[ad];rfl)
   have al:aB (xp t s ask L (pU t)) 0 (some 6)=some (.agg (xp t s ask L (pU t))):=by simp[aB,ad,au]
   try simp only[I,RY,↓KW,seval,e,BG,ar,al]
   simp[xp,xm,aa]
  ·refine ai adp ?_ ?_ ?_ ?_<;>simp[LX,I,aa,PT,adb,cU,xp,Rd.cells,xl,lj]
def iR(l:List Rn):Nat->Int
 |0=>0
 |k+1=>if(l.getD k default).az=1 then iD (iR l k) k else iR l k
end
section
variable (f g:Nat->Int) (k:Nat)
theorem BH{A B:List AV} {l:List Int} {o k:Nat} {x:Int} (hA:A.length=o) (hk:k<l.length):setCells (A++(l.map I++B)) (o+k) [I x]=A++((l.set k x).map I++B):=by
 obtain⟨U,y,V,rfl,rfl⟩:∃U y V,l=U++y::V/\k=U.length:=⟨l.take k,l[k],l.drop (k+1),adI,by simp;omega⟩
 have e:A++((U++y::V).map I++B)=(A++U.map I)++([I y]++(V.map I++B)):=adI
 rw[e,oN (mid:=[I y]) (ps:=[I x]) (by simp[hA]) rfl]
 simp
def vo:List Int:=(List.range 8).map λp=>if p<k then f p else g p
theorem sW:(vo f g k).length=8:=by simp[vo]
theorem oX{k:Nat} (hk:k<8):(vo f g k).set k (f k)=vo f g (k+1):=by
 have:k=0\/k=1\/k=2\/k=3\/k=4\/k=5\/k=6\/k=7:=ado
 rcases this with rfl|rfl|rfl|rfl|rfl|rfl|rfl|rfl<;>simp[vo,lj]
def Sh.Ar(s:Sh) (k:Nat) (x:Int):Sh:={s with time:=s.time.set k x}
end
section
variable{s:Sh} (h:s.Ok) {k:Nat} (hk:k<8) (x:Int)
include h
theorem Sh.CX:(s.Ar k x).Ok:=⟨h.az,by simp[Sh.Ar,h.time],h.dm,h.bI⟩
include hk
end
structure gW where
 group:Int
 a0:Int
 a1:Int
 ou:Bool
 deriving Inhabited,DecidableEq
def gW.cells(r:gW):List AV:=[I r.group,I r.a0,I r.a1,B r.ou]
structure Pr where
 ax:Int
 which:Int
 time:Int
 held:List Int
 ff:Int
 deriving Inhabited,DecidableEq
def Pr.cells(p:Pr):List AV:=I p.ax::I p.which::I p.time::(p.held.map I++[I p.ff])
structure Ch where
 on:Bool
 dG:Int
 Zg:Int
 I8:Int
 held:Int
 tail:Int
 out:Bool
 deriving Inhabited,DecidableEq
def Ch.cells(c:Ch):List AV:=[B c.on,I c.dG,I c.Zg,I c.I8,I c.held,I c.tail,B c.out]
structure bD where
 runs:List Rn
 rings:gW
 nG:Rd
 pre:Pr
 calls:Cs
 iK:Option (List Ch)
 deriving Inhabited,DecidableEq
def bD.cells(s:bD):List AV:=de s.runs++(s.rings.cells++(s.nG.cells++(s.pre.cells++(s.calls.cells++[aI Ch.cells s.iK]))))
structure bD.Ok (s:bD):Prop where
 runs:s.runs.length=8
 lock:s.nG.lock.length=4
 held:s.pre.held.length=4
def bD.rn(s:bD) (k:Nat):Rn:=s.runs.getD k default
section
variable{s:bD} (h:s.Ok)
include h
theorem bD.len:s.cells.length=117:=by
 simp[bD.cells,dW h.runs,gW.cells,Rd.cells,Pr.cells,Cs.cells,h.lock,h.held]
theorem bD.whole:aB s.cells 0 (some 117)=some (.agg s.cells):=by
 have:=bD.len h
 simp[aB,this];rw[<-this,io]
theorem bD.sX:aB s.cells 0 (some 96)=some (.agg (de s.runs)):=by
 have:=gh (pre:=[]) (mid:=de s.runs) (post:=s.rings.cells++(s.nG.cells++(s.pre.cells++(s.calls.cells++[aI Ch.cells s.iK])))) (off:=0) (z:=96) rfl (dW h.runs)
 exact this
theorem bD.Du{k j:Nat} (hk:k<8) (D:j<12):s.cells[k*12+j]? =(s.rn k).cells[j]?:=by
 rw[bD.cells,iv (by rw[dW h.runs];omega)]
 exact kF (jE h.runs hk) D
theorem bD.pV:s.cells[106]? =some (I s.pre.ax):=by
 simp[bD.cells,dW h.runs,gW.cells,Rd.cells,Pr.cells,Cs.cells,h.lock,h.held]
end
section
variable {c:List Int} {k p q:Nat} (t:Tb)
theorem bD.ade{s:bD} (h:s.Ok) (hk:k<8) (r:Rn):setCells s.cells (k*12) r.cells={s with runs:=s.runs.set k r}.cells:=by
 have L:=h.runs
 have D:s.runs[k]? =some (s.rn k):=by
  have:k<s.runs.length:=ado
  simp[bD.rn,this]
 unfold bD.cells de;simp only;rw[Wi D,acb,Hm]
 conv=>lhs;rw[jn D]
 rw[List.append_assoc,List.append_assoc,List.append_assoc,List.append_assoc]
 exact oN (by rw[aO Rn.len,jo D]) rfl
def zy(x:Ph):Rn:=⟨0,9999,0,0,0,0,0,false,false,x.max,0,0⟩
def mb(k:Nat):bD:=⟨(List.range 8).map λp=>if p<k then zy (aK t p)else default,⟨0,0,0,false⟩,⟨[0,0,0,0],0,0⟩,⟨0,0,0,[0,0,0,0],0⟩,⟨0,0⟩,none⟩
def pW:bD:={mb t 8 with rings:=⟨0,-1,-1,false⟩}
theorem WQ(k:Nat):(mb t k).Ok:=⟨by simp[mb],rfl,rfl⟩
theorem uB:(pW t).Ok:=⟨by simp[pW,mb],rfl,rfl⟩
theorem PU(hk:k<8):{mb t k with runs:=(mb t k).runs.set k (zy (aK t k))}=mb t (k+1):=by
 have:k=0\/k=1\/k=2\/k=3\/k=4\/k=5\/k=6\/k=7:=ado
 rcases this with rfl|rfl|rfl|rfl|rfl|rfl|rfl|rfl<;>simp[mb,lj]
def Fv.Spec(C:aT) (f:Nat):Prop:=∀t:Tb,t.Ln->C.c f [.agg t.cells] (.agg (pW t).cells) none
theorem sY{s:Int} (L:p<8) (i:Nat):tb (iD s p) i=(decide (i<8)&&(tb s i||decide (i=p))):=by
 rw[iD,Rm]
 by_cases h:i<8
 ·have:((i:Int)∈jY s++[(p:Int)])↔(tb s i=true\/i=p):=by
   simp only[jY,lr,yk,mi,ip,rf];rw[yA h];constructor
   ·rintro(⟨_,D⟩|D)
    ·exact .inl D
    ·exact .inr ado
   ·rintro(D|D)
    ·exact .inl ⟨⟨i,h,rfl⟩,D⟩
    ·exact .inr ado
  simp[h,this]
 ·simp[h]
structure aoM (t:Tb) (s:Rd):Prop where
 len:s.lock.length=4
 ff:s.ff=0
 lo:∀k,0<=uA s k/\uA s k<=30
 off:∀k,pU t<=k->uA s k=0
 was:∀k,tb s.was k=true->k<pU t
def WR(c:List Int):Prop:=∀i j:Nat,i<8->j<8->tb (zw c i) j=tb (zw c j) i
theorem Fx{i:Nat} {v:Int} (D:p<c.length):zw (c.set p v) i=if i=p then v else zw c i:=by
 simp only[zw,em,ac8]
 by_cases h:p=i
 ·subst h;simp[D]
 ·have:¬i=p:=λe=>h e.symm
  simp[h,this]
theorem Ud{t:Tb} {l:Option (List Int)} (V:c.length=8) (hp:p<8) (Z:q<p) (h:WR c):WR (gP t l p q c):=by
 unfold gP;split
 ·intro i j R O
  have L:p<c.length:=ado
  have M:q<(c.set p (iD (zw c p) q)).length:=by simp;omega
  have D:¬q=p:=ado
  simp only[Fx M,Fx L,D,il]
  have hs:=h i j R O
  by_cases h1:i=q<;>by_cases h2:j=q<;>by_cases h3:i=p<;>by_cases h4:j=p<;>
   simp_all [sY,show q<8 by omega]<;>omega
 ·exact h
theorem Ns{t:Tb} {l:Option (List Int)} {p:Nat} {c:List Int} (D:c.length=8) (L:p<8) (h:WR c):∀q,q<=p->WR (jD t l p q c)
 |0,_=>h
 |q+1,M=>Ud (by rw[nC,D]) L ado (Ns D L h q ado)
theorem RA{t:Tb} {l:Option (List Int)}:∀p,p<=8->WR (gB t l p)
 |0,_=>by
  intro i j L M
  have:∀i:Nat,zw (gB t l 0) i=0:=by
   intro i
   simp only[zw,gB,em,PP];split<;>rfl
  rw[this,this,ef,ef]
 |p+1,D=>Ns (eu p) ado (RA p ado) p (ik p)
theorem Ue(l:Option (List Int)) (D:p<8) (L:q<8):tb (eA (bk l) p) q=tb (eA (bk l) q) p:=
 RA (dA l).2 (sP l) p q D L
end
section
variable{t:Tb} (h:t.Ln)
include h
theorem af0:aB t.cells 0 (some 104)=some (.agg (t.phases.flatMap Ph.cells)):=by
 have e:(t.phases.flatMap Ph.cells).length=104:=by rw[aO Ph.len,h.phases]
 have l:=h.len
 simp only[aB]
 rw[fp ado,kb,Tb.cells,xv e]
theorem akC:aB t.cells 121 (some 8)=some (.agg (t.dO.map I)):=by
 have l:=h.len
 have e:t.cells.drop 121=(t.cells.drop 105).drop 16:=by rw[ul]
 have D:∀l:List AV,l.drop 16=(l.drop 8).drop 8:=λl=>by rw[ul]
 simp only[aB]
 rw[fp ado,e,PS h,D,List.drop_left' (by simp[h.conflict])]
 simp only[mp,kb]
 rw[xv (by simp[h.dO])]
end
section
variable (C:aT) {i k m n p:Nat} {t:Tb} {x:Int} (f:Nat) (l:List Int) (s:Int)
def Can:Prop:=0<=s/\s<256
theorem BJ{s:Int} (h:Can s) (O:8<=i) (D:i<64):tb s i=false:=by
 rw[Am s D]
 have M:(2:Int)^8<=2^i:=by
  have e:(2:Int)^i=2^8*2^(i-8):=by rw[<-Int.pow_add];congr 1;omega
  have:(1:Int)<=2^(i-8):=by have:=Int.pow_pos (n:=(2:Int)) (m:=i-8) adp;omega
  rw[e];have L:(2:Int)^8=256:=rfl
  rw[L];omega
 have:s.fdiv (2^i)=0:=by
  rw[acR _ ado]
  exact Int.ediv_eq_zero_of_lt h.1 (by have:=h.2;omega)
 rw[this];rfl
theorem BK{y:Int} (R:Can x) (V:Can y) (h:∀i,i<8->tb x i=tb y i):x=y:=by
 have Z:bv x=bv y:=by
  apply PQ
  intro i hi
  have D:i<64:=hi
  rcases ma i 8 with L|L
  ·exact h i L
  ·have a:=BJ R L D
   have b:=BJ V L D
   simp only[tb]at a b;rw[a,b]
 have:=sd BitVec.toNat Z
 simp only[bv,acS]at this
 have M:=R;have O:=V
 unfold Can at M O
 have e:((2^64:Nat):Int)=18446744073709551616:=adp
 rw[e]at this;omega
theorem af1(L:0<=x) (R:x<18446744073709551616) (h:∀i,8<=i->i<64->tb x i=false):Can x:=by
 refine⟨L,?_⟩
 have O:(bv x).toNat=x.toNat:=by
  simp only[bv,acS]
  have e:((2^64:Nat):Int)=18446744073709551616:=adp
  rw[e];omega
 have:x.toNat<2^8:=by
  apply Nat.lt_pow_two_of_testBit
  intro i M
  rcases ma i 64 with D|D
  ·have:=h i M D
   simp only[tb,BitVec.getLsbD]at this;rw[<-O];exact this
  ·apply adj
   have:x.toNat<2^64:=by
    omega
   exact s9 this (pc adp D)
 omega
theorem G9(b:BitVec 64) (h:b.getLsbD 63=false):IntKind.i64.wrap (b.toNat:Int)=b.toNat/\(b.toNat:Int)<9223372036854775808:=by
 have:b.toNat<2^63:=by
  apply Nat.lt_pow_two_of_testBit
  intro i L
  rcases ma i 64 with D|D
  ·have:i=63:=ado
   subst this;exact h
  ·apply adj
   exact s9 b.isLt (pc adp D)
 refine⟨aU ado ado,ado⟩
theorem BL{b:BitVec 64} (h:∀i,8<=i->i<64->b.getLsbD i=false):Can (IntKind.i64.wrap (b.toNat:Int)):=by
 obtain⟨M,O⟩:=G9 b (h 63 adp adp)
 rw[M]
 refine af1 ado ado λi L D=>?_
 simp only[tb,K8];exact h i L D
theorem sZ{s:Int} (D:p<8):Can (eJ s p):=by
 have:eJ s p=IntKind.i64.wrap (((bv (bT .i64 s 255))|||bv (sJ p)).toNat:Int):=rfl
 rw[this]
 refine BL λi O M=>?_
 rw[BitVec.getLsbD_or]
 have a:=xg s 255 i
 have b:=La D i
 simp only[tb]at a b;rw[a,b]
 have c:=ux i
 simp only[tb]at c;rw[c]
 have:¬i<8:=ado
 have L:¬i=p:=ado
 simp[this,L]
theorem Nt(l:List Int):∀k,k<=8->Can (Ah l k)
 |0,_=>by show Can 0;exact⟨adp,adp⟩
 |k+1,h=>by
  have L:=Nt l k ado
  simp only[Ah];split
  ·have e:AW .i64 (Ah l k) (2^k)=IntKind.i64.wrap ((bv (Ah l k)|||bv (2^k)).toNat:Int):=rfl
   rw[e]
   refine BL λi M D=>?_
   rw[BitVec.getLsbD_or]
   have a:=BJ L M D
   have b:=K9 (p:=k) ado i
   simp only[tb]at a b;rw[a,b]
   have:¬i=k:=ado
   simp[this]
  ·exact L
theorem Lm:Can (ofI l):=Nt l 8 ado
theorem JJ(p:Int):Can (iD s p):=Lm _
theorem abg(h:t.Ln) (D:p<8):aB (t.phases.flatMap Ph.cells) (p*13) (some 13)=some (.agg (aK t p).cells):=by
 rw[jn (h.mT D)]
 exact gh (by rw[aO Ph.len,jo (h.mT D)]) rfl
def s8(t:Tb):Nat->Int
 |0=>0
 |k+1=>if(aK t k).on then eJ (s8 t k) k else s8 t k
theorem JK(t:Tb):∀k,k<=8->Can (s8 t k)
 |0,_=>by show Can 0;exact⟨adp,adp⟩
 |k+1,h=>by
  simp only[s8];split
  ·exact sZ ado
  ·exact JK t k ado
theorem Nu(t:Tb) (i:Nat):∀k,k<=8->tb (s8 t k) i=(decide (i<k)&&(aK t i).on)
 |0,_=>by simp[s8,ef]
 |k+1,h=>by
  have L:=Nu t i k ado
  simp only[s8];split
  ·rename_i hk
   rw[ng ado,L]
   by_cases e:i=k
   ·subst e;simp[hk]
   ·have M:(i<k+1)↔i<k:=ado
    have O:i<k->i<8:=ado
    by_cases D:i<k
    ·simp[M,D,O D,e]
    ·simp[M,D,e]
  ·rename_i hk
   rw[L]
   by_cases e:i=k
   ·subst e;simp[hk]
   ·have:(i<k+1)↔i<k:=ado
    simp[this]
theorem af2(t:Tb) (i:Nat):tb (yx t) i=(decide (i<8)&&(aK t i).on):=by
 rw[yx,Rm]
 by_cases h:i<8
 ·have:(i:Int)∈yW t 8↔(aK t i).on=true:=by
   simp only[yW,yk,mi,ip,Int.natCast_inj];constructor
   ·rintro⟨_,D⟩;exact D
   ·intro D;exact⟨⟨i,h,rfl⟩,D⟩
  simp[h,this]
 ·simp[h]
theorem af3(t:Tb):s8 t 8=yx t:=BK (JK t 8 ado) (Lm _) λi D=>by rw[Nu t i 8 ado,af2]
theorem Nv(l:List Gr) (h:n<=m) (hm:m<=l.length):∃r,dL l m=dL l n++r:=by
 induction m with
 |zero=>exact⟨[],by rw[show n=0 by omega];simp⟩
 |succ m L=>
  rcases ma n (m+1)with h1|h1
  ·obtain⟨r,O⟩:=L ado ado
   obtain⟨M,D⟩:∃x,l[m]? =some x:=⟨_,eh ado⟩
   exact⟨r++dU M m 2,by rw[jC D,O,List.append_assoc]⟩
  ·exact⟨[],by rw[show n=m+1 by omega];simp⟩
theorem Nw(D:Gr) (g:Nat) (hk:k<2):∃r,dU D g 2=dU D g k++(bP g k ((D.row k).getD [])++r):=by
 have:k=0\/k=1:=ado
 rcases this with rfl|rfl
 ·exact⟨bP g 1 ((D.row 1).getD []),by rw[ga,ga,List.append_assoc]⟩
 ·exact⟨[],by rw[ga];simp⟩
theorem Lo(g k:Nat) (row:List Int) (h:n<=m) (hm:m<=row.length):∃r,bP g k (row.take m)=bP g k (row.take n)++r:=by
 induction m with
 |zero=>exact⟨[],by rw[show n=0 by omega];simp⟩
 |succ m O=>
  rcases ma n (m+1)with h1|h1
  ·obtain⟨r,D⟩:=O ado ado
   obtain⟨x,R⟩:∃x,row[m]? =some x:=⟨_,eh ado⟩
   have M:=jZ (g:=g) (k:=k) R
   by_cases L:0<=x/\x<8
   ·exact⟨r++[⟨g,k,m,x⟩],by rw[M.1 L,D,List.append_assoc]⟩
   ·exact⟨r,by rw[M.2 L,D]⟩
  ·exact⟨[],by rw[show n=m+1 by omega];simp⟩
theorem Nx{p:Int} {g:Nat} {D:Gr} (V:0<=p/\p<8) (O:(t.groups.getD [])[g]? =some D) (hk:k<2) (R:((D.row k).getD [])[i]? =some p) (L:∀x∈dL (t.groups.getD []) g++dU D g k++bP g k (((D.row k).getD []).take i),x.p≠p):aE t p=(⟨g,k,i,p⟩,true):=by
 have ab:=(eo.1 O).1
 have aa:=(eo.1 R).1
 obtain⟨r1,h1⟩:=Nv (t.groups.getD []) (n:=g+1) (m:=(t.groups.getD []).length) ado (ik _)
 obtain⟨r2,h2⟩:=Nw D g hk
 obtain⟨Z,M⟩:=Lo g k ((D.row k).getD []) (n:=i+1) (m:=((D.row k).getD []).length) ado (ik _)
 rw[io]at M
 have h4:=(jZ (g:=g) (k:=k) R).1 V
 have hs:bQ t=(dL (t.groups.getD []) g++dU D g k++bP g k (((D.row k).getD []).take i))++(⟨g,k,i,p⟩::(Z++r2++r1)):=by
  rw[bQ,h1,jC O,h2,M,h4];simp only[List.append_assoc,ts,my]
 have hf:(bQ t).find? (λx=>x.p==p)=some ⟨g,k,i,p⟩:=by
  rw[hs,List.find?_append]
  have:(dL (t.groups.getD []) g++dU D g k++bP g k (((D.row k).getD []).take i)).find? (λx=>x.p==p)=none:=by
   rw[Ha];intro x hx;simpa using L x hx
  rw[this];simp
 simp[aE,hf]
theorem JL{p:Int} (h:∀x∈bQ t,x.p≠p):aE t p=(⟨0,0,0,0⟩,false):=by
 have:(bQ t).find? (λx=>x.p==p)=none:=by
  rw[Ha];intro x D;simpa using h x D
 simp[aE,this]
theorem Ny{x:Sp} (h:x∈bQ t):0<=x.p/\x.p<8:=by
 simp only[bQ,dL,dU,bP,abJ,List.mem_filterMap]at h;obtain⟨⟨L,g⟩,_,k,_,⟨y,i⟩,_,h⟩:=h;simp only at h;split at h
 ·rename_i D;cases h;exact D
 ·cases h
def ofS:Int:=l.foldl (λs p=>AW .i64 s (sJ p)) 0
def setOf.Spec:Prop:=∀l:Option (List Int),(l.getD []).length<=1000000000->C.c f [aI aH l] (I (ofS (l.getD []))) none
def pOn.Spec:Prop:=∀t:Tb,t.Ln->C.c f [.agg t.cells] (I (yx t)) none
def As.Spec:Prop:=∀(t:Tb) (p:Int),t.Ok->C.c f [.agg t.cells,I p] (.dP [I (aE t p).1.group,I (aE t p).1.ring,I (aE t p).1.pos,B (aE t p).2]) none
theorem Lp(p:Int):(ofS [p]==0)=!(decide (0<=p)&&decide (p<8)):=by
 simp only[ofS,xa,List.foldl_nil]
 by_cases h:0<=p/\p<8
 ·obtain⟨n,rfl⟩:∃n:Nat,p=n:=⟨p.toNat,ado⟩
  have D:n<8:=ado
  have:n=0\/n=1\/n=2\/n=3\/n=4\/n=5\/n=6\/n=7:=ado
  rcases this with rfl|rfl|rfl|rfl|rfl|rfl|rfl|rfl<;>decide
 ·have e:sJ p=0:=by unfold sJ;rw[fp ado]
  rw[e]
  have:(decide (0<=p)&&decide (p<8))=false:=by
   rw[Bool.and_eq_false_iff];simp only[pC];omega
  rw[this];decide
end
section
variable{P:Program} (hm:P.follows .mixedOrders=true) {f:Nat}
include hm
theorem setOf.ok{M:Nat} (R:bK P f=some (JI M)) (hB:bit.Spec (Pure P) M):setOf.Spec (Pure P) f:=by
 intro l hl;refine aq hm R [] rfl ?_;try simp only[I,RX,↓KW,Nat.reduceBEq,Nat.reduceAdd,JI,Z.H]
 refine aG (λk:Nat=>(⟨[(8,.dat (I k) none),(7,.dat (I ((l.getD []).length:Nat)) none),(6,.dat (aI aH l) none),(3,.dat (I (((l.getD []).take k).foldl (λs p=>AW .i64 s (sJ p)) 0)) none)],[],[],400⟩:S)) (λk=>(l.getD []).length-k) (λk=>k<=(l.getD []).length) ?_ 0 ado ?_
 rotate_left
 ·refine ai adp ?_ ?_ ?_ ?_<;>simp[LX,I]
 intro k hk A back
 have D:=aC (k:=k) ado
 try simp only[I,RX,↓KW,Nat.reduceBEq,Nat.reduceAdd]
 cases O:decide ((k:Int)<(((l.getD []).length:Nat):Int))
 ·have e:k=(l.getD []).length:=by have:=dT O;omega
  subst e;rw[io];try simp only[RX,↓KW,Nat.reduceBEq,Nat.reduceAdd]
  rfl
 ·have V:k<(l.getD []).length:=by have:=dE O;omega
  obtain⟨x,L⟩:∃x,(l.getD [])[k]? =some x:=⟨_,eh V⟩
  have hn:=mP (f:=λs p=>AW .i64 s (sJ p)) (b:=0) L
  try simp only[I,RX,↓KW,Nat.reduceBEq,Nat.reduceAdd,L,aH]
  refine⟨ado,?_⟩
  refine af (hB x) ?_;try simp only[I,RX,↓KW,Nat.reduceBEq,Nat.reduceAdd]
  refine back (k+1) _ ado ado ?_
  simp only[hn]
  refine ai adp ?_ ?_ ?_ ?_<;>simp[LX,I,D]
theorem pOn.ok{fW:Nat} (hc:bK P f=some (G0 fW)) (hW:jb.Spec (Pure P) fW):pOn.Spec (Pure P) f:=by
 intro t h
 have hp:=af0 h
 rw[<-af3];refine aq hm hc [] rfl ?_;try simp only[I,RY,↓KW,Nat.reduceBEq,Nat.reduceAdd,G0,Z.H,hp]
 refine aG (λk:Nat=>(⟨[(8,.dat (I k) none),(7,.dat (.agg (t.phases.flatMap Ph.cells)) none),(3,.dat (I (s8 t k)) none)],[],[],400⟩:S)) (λk=>8-k) (λk=>k<=8) ?_ 0 ado ?_
 rotate_left
 ·refine ai adp ?_ ?_ ?_ ?_<;>simp[LX,I,s8]
 intro k hk A back
 have M:=aC (k:=k) ado
 try simp only[I,RY,↓KW,Nat.reduceBEq,Nat.reduceAdd]
 cases h2:decide ((k:Int)<8)
 ·have e:k=8:=by have:=dT h2;omega
  subst e;try simp only[RY,↓KW,Nat.reduceBEq,Nat.reduceAdd]
 ·have h8:k<8:=by have:=dE h2;omega
  have hx:0<=(k:Int)/\(k:Int)<(8:Nat):=ado
  have V:=abg h h8
  have hz:setCells dV 0 (aK t k).cells=(aK t k).cells:=aM rfl
  have R:dV.length=13:=rfl
  have p0:(aK t k).cells[0]? =some (AV.bool (aK t k).on):=rfl
  have O:s8 t (k+1)=if(aK t k).on then eJ (s8 t k) k else s8 t k:=rfl
  have D:=dC hx (dC V (dC hz (dC R (dC Ph.len (p0)))))
  try simp only[RY,↓KW,Nat.reduceBEq,Nat.reduceAdd,D]
  cases L:(aK t k).on
  ·try simp only[RY,↓KW,Nat.reduceBEq,Nat.reduceAdd,D]
   refine back (k+1) _ ado ado ?_
   rw[L]at O;simp only[O]
   refine ai adp ?_ ?_ ?_ ?_<;>simp[LX,I,M]
  ·try simp only[RY,↓KW,Nat.reduceBEq,Nat.reduceAdd,D]
   refine af (hW _ _) ?_;try simp only[I,RY,↓KW,Nat.reduceBEq,Nat.reduceAdd]
   refine back (k+1) _ ado ado ?_
   rw[L]at O;simp only[O]
   refine ai adp ?_ ?_ ?_ ?_<;>simp[LX,I,M]
theorem As.ok{e fO:Nat} (hc:bK P f=some (rW e fO)) (hO:setOf.Spec (Pure P) fO):As.Spec (Pure P) f:=by
 intro t p ht
 have hg:=afY ht.ln
 have c1:=hO (some [p]) adI
 simp only[yn]at c1;refine aq hm hc [] rfl ?_;try simp only[I,B,RY,↓KW,Nat.reduceBEq,Nat.reduceAdd,rW,Z.H]
 refine af c1 ?_;cases O:ofS [p]==0;rotate_left
 ·have ab:aE t p=(⟨0,0,0,0⟩,false):=by
   rw[Lp]at O
   refine JL λx hx e=>?_
   have:=Ny hx
   rw[e]at this;simp[this]at O
  try simp only[I,RY,↓KW,Nat.reduceBEq,Nat.reduceAdd,O,ab]
 have hp:0<=p/\p<8:=by rw[Lp]at O;simpa using O
 try simp only[I,RY,↓KW,Nat.reduceBEq,Nat.reduceAdd,O,hg]
 refine aG (λg:Nat=>(⟨[(21,.dat (I g) none),(20,.dat (I ((t.groups.getD []).length:Nat)) none),(19,.dat (aI Gr.cells t.groups) none),(1,.dat (I p) none),(4,.dat (I 0) none),(5,.dat (I 0) none),(6,.dat (I 0) none),(7,.dat (B false) none)],[],[],400⟩:S)) (λg=>(t.groups.getD []).length-g) (λg=>g<=(t.groups.getD []).length/\∀x∈dL (t.groups.getD []) g,x.p≠p) ?_ 0 (by simp[dL]) ?_
 rotate_left
 ·refine ai adp ?_ ?_ ?_ ?_<;>simp[LX,I,B]
 rintro g ⟨a3,ae⟩ A back
 have hb:=ht.groups
 have hw:=aC (k:=g) ado
 try simp only[I,B,RY,↓KW,Nat.reduceBEq,Nat.reduceAdd]
 cases h2:decide ((g:Int)<(((t.groups.getD []).length:Nat):Int))
 ·have e:g=(t.groups.getD []).length:=by have:=dT h2;omega
  subst e
  have ab:=JL (t:=t) (p:=p) ae
  try simp only[RY,↓KW,Nat.reduceBEq,Nat.reduceAdd,ab]
 have am:g<(t.groups.getD []).length:=by have:=dE h2;omega
 obtain⟨L,R⟩:∃x,(t.groups.getD [])[g]? =some x:=⟨_,eh am⟩
 have ag:=ht.rows L (er R)
 have hpart:aB (Gr.cells L) 0 (some 2)=some (.agg (Gr.cells L)):=rfl
 have aa:∀c:List AV,c.length=2->setCells c 0 (Gr.cells L)=Gr.cells L:=λc h=>aM (by rw[h];rfl)
 try simp only[RY,↓KW,Nat.reduceBEq,Nat.reduceAdd,R,Gr.len,hpart,aa]
 refine⟨ado,?_⟩
 try simp only[I,B,D,RY,↓KW,Nat.reduceBEq,Nat.reduceAdd,Nat.reduceLeDiff,Int.reduceNe,Int.reduceBEq,Int.reduceEq,reduceCtorEq,Nat.reduceMul,Int.reduceLT,Int.reduceLE,Int.reduceToNat,aa,Gr.len,hpart]
 refine aG (λk:Nat=>(⟨[(27,.dat (I k) none),(26,.dat (.agg (Gr.cells L)) none),(1,.dat (I p) none),(8,.dat (I g) none),(21,.dat (I g) none),(20,.dat (I ((t.groups.getD []).length:Nat)) none),(19,.dat (aI Gr.cells t.groups) none),(4,.dat (I 0) none),(5,.dat (I 0) none),(6,.dat (I 0) none),(7,.dat (B false) none)],[],[],500⟩:S)) (λk=>2-k) (λk=>k<=2/\∀x∈dL (t.groups.getD []) g++dU L g k,x.p≠p) ?_ 0 ⟨ado,by simpa[dU]using ae⟩ ?_
 rotate_left
 ·refine ai adp ?_ ?_ ?_ ?_<;>simp[LX,I,B]
 rintro k ⟨hk,V⟩ A1 ac
 have ar:=aC (k:=k) ado
 try simp only[I,B,RY,↓KW,Nat.reduceBEq,Nat.reduceAdd]
 cases h3:decide ((k:Int)<2)
 ·have e:k=2:=by have:=dT h3;omega
  subst e;try simp only[RY,↓KW,Nat.reduceBEq,Nat.reduceAdd]
  refine back (g+1) _ ⟨ado,by rw[jC R];exact V⟩ ado ?_
  refine ai adp ?_ ?_ ?_ ?_<;>simp[LX,I,B,hw]
 have al:k<2:=by have:=dE h3;omega
 have au:0<=(k:Int)/\(k:Int)<(2:Nat):=ado
 have ak:(Gr.cells L)[k]? =some (aI aH (L.row k)):=by
  have:k=0\/k=1:=ado
  rcases this with rfl|rfl<;>rfl
 have a4:((L.row k).getD []).length<=1048576:=by
  have:k=0\/k=1:=ado
  rcases this with rfl|rfl
  exact ag.1;exact ag.2
 try simp only[RY,↓KW,Nat.reduceBEq,Nat.reduceAdd,au,ak]
 refine aG (λi:Nat=>(⟨[(33,.dat (I i) none),(32,.dat (I (((L.row k).getD []).length:Nat)) none),(31,.dat (aI aH (L.row k)) none),(1,.dat (I p) none),(8,.dat (I g) none),(10,.dat (I k) none),(27,.dat (I k) none),(26,.dat (.agg (Gr.cells L)) none),(21,.dat (I g) none),(20,.dat (I ((t.groups.getD []).length:Nat)) none),(19,.dat (aI Gr.cells t.groups) none),(4,.dat (I 0) none),(5,.dat (I 0) none),(6,.dat (I 0) none),(7,.dat (B false) none)],[],[],600⟩:S)) (λi=>((L.row k).getD []).length-i) (λi=>i<=((L.row k).getD []).length/\∀x∈dL (t.groups.getD []) g++dU L g k++bP g k (((L.row k).getD []).take i),x.p≠p) ?_ 0 ⟨ado,by simpa[bP]using V⟩ ?_
 rotate_left
 ·refine ai adp ?_ ?_ ?_ ?_<;>simp[LX,I,B]
 rintro i ⟨hi,M⟩ A2 ad
 have an:=aC (k:=i) ado
 try simp only[I,B,RY,↓KW,Nat.reduceBEq,Nat.reduceAdd]
 cases h4:decide ((i:Int)<((((L.row k).getD []).length:Nat):Int))
 ·have e:i=((L.row k).getD []).length:=by have:=dT h4;omega
  subst e;rw[io]at M;try simp only[RY,↓KW,Nat.reduceBEq,Nat.reduceAdd]
  refine ac (k+1) _ ⟨ado,by rw[ga,<-List.append_assoc];exact M⟩ ado ?_
  refine ai adp ?_ ?_ ?_ ?_<;>simp[LX,I,B,ar]
 have a2:i<((L.row k).getD []).length:=by have:=dE h4;omega
 obtain⟨x,hx⟩:∃x,((L.row k).getD [])[i]? =some x:=⟨_,eh a2⟩
 try simp only[I,RY,↓KW,Nat.reduceBEq,Nat.reduceAdd,hx,aH]
 refine⟨ado,?_⟩
 cases h5:x==p
 ·have ao:x≠p:=by simpa using h5
  have hr:=jZ (g:=g) (k:=k) hx
  try simp only[RY,↓KW,Nat.reduceBEq,Nat.reduceAdd]
  refine ad (i+1) _ ⟨ado,?_⟩ ado ?_
  ·by_cases h8:0<=x/\x<8
   ·rw[hr.1 h8,<-List.append_assoc]
    intro y hy
    rcases lr.1 hy with hy|hy
    ·exact M y hy
    ·rw[rf]at hy;subst hy;exact ao
   ·rw[hr.2 h8];exact M
  ·refine ai adp ?_ ?_ ?_ ?_<;>simp[LX,I,B,an]
 ·have ex:x=p:=by simpa using h5
  subst ex
  have hfound:=Nx hp R al hx M
  try simp only[RY,↓KW,Nat.reduceBEq,Nat.reduceAdd,hfound]
end
section
variable (t:Tb) {p:Nat} {s:Int} (k:Nat)
def gw(s:Int):List Nat:=(List.range 8).filter λp=>tb s p
theorem ni(h:p∈gw s):p<8:=by simp only[gw,yk,ip]at h;exact h.1
theorem uC(h:p∈gw s):tb s p=true:=by simp only[gw,yk,ip]at h;exact h.2
theorem He(D:p<8) (h:tb s p=true):p∈gw s:=by simp only[gw,yk,ip];exact⟨D,h⟩
def akE(p:Nat):Int:=t.dO.getD p 0
def Nz:Bo:=(t.aV.getD []).getD k default
def NA:Rl:=(t.bE.getD []).getD k default
theorem Au(p q:Int):ee t p q=ee t q p:=by
 simp only[ee];generalize(aE t p).2=b1;generalize(aE t q).2=b2;generalize(aE t p).1=s1;generalize(aE t q).1=s2;rw[Bool.and_comm b1 b2]
 congr 1
 ·congr 1
  rw[Pi];simp only[l4];exact eq_comm
 ·rw[Pi];simp only[bne_iff_ne];exact ne_comm
theorem PV(s:Int):(gw s).Nodup:=List.Pairwise.filter _ List.nodup_range
theorem uD{g k:Nat} {row:List Int} (h:∀x∈row,0<=x/\x<8):∀i,i<=row.length->(bP g k (row.take i)).map Sp.p=row.take i
 |0,_=>by simp[bP]
 |i+1,L=>by
  obtain⟨x,D⟩:∃x,row[i]? =some x:=⟨_,eh ado⟩
  rw[(jZ D).1 (h x (er D)),ta,uD h i ado,jB D];rfl
theorem NB{g:Nat} {D:Gr} (h:∀x∈D.a.getD []++D.b.getD [],0<=x/\x<8):(dU D g 2).map Sp.p=D.a.getD []++D.b.getD []:=by
 have M:=uD (g:=g) (k:=0) (row:=D.a.getD []) (λx L=>h x (List.mem_append_left _ L)) _ (ik _)
 have O:=uD (g:=g) (k:=1) (row:=D.b.getD []) (λx L=>h x (List.mem_append_right _ L)) _ (ik _)
 rw[io]at M O
 have R:dU D g 0=[]:=rfl
 rw[ga,ga,R,my,ta]
 show(bP g 0 (D.a.getD [])).map Sp.p++(bP g 1 (D.b.getD [])).map Sp.p=_
 rw[M,O]
end
section
open Z
def JM:List AV:=(⟨_,by conv=>lhs;cbv⟩:bS (O9 [(0,12)])).1
end
section
variable (l:Option (List Int)) (a:Int) {n p q:Nat} (b i:Int) (t:Tb)
theorem Fy(n:Int):jX n=min (max n 0) 2147483647:=by
 simp only[jX,gM];split<;>(try split)<;>omega
theorem yF:K1 a b=min (jX a+jX b) 2147483647:=by
 have D:=gN a
 have L:=gN b
 rw[K1,Fy];omega
def BM(l:List Int):Int:=(l.map jX).sum
theorem RB:∀l,0<=BM l
 |[]=>pu _
 |x::l=>by
  have:=gN x
  have:=RB l
  simp only[BM,kr,IN]at*;omega
theorem NC:∀(l:List Int) (a:Int),0<=a->a<=2147483647->l.foldl K1 a=min (a+BM l) 2147483647
 |[],a,M,L=>by simp only[List.foldl_nil,BM,mr,List.sum_nil];omega
 |x::l,a,M,L=>by
  have O:=gN x
  have R:=RB l
  have D:jX a=a:=by rw[Fy];omega
  rw[xa,NC l _ (by rw[yF];have:=gN a;omega) (by rw[yF];omega),yF,D]
  simp only[BM,kr,IN]at*;omega
theorem oO(l:List Int):lE l=min (BM l) 2147483647:=by
 rw[lE,NC l 0 ado ado,Int.zero_add]
theorem Lq:lE [a,b]=K1 a b:=by
 have D:=gN a
 have L:=gN b
 rw[oO,yF];simp only[BM,kr,mr,IN,List.sum_nil];omega
theorem Lr:∀(l:List Int) (a:Int),0<=a->l.foldl (λn x=>if x>n then x else n) a=max a (jc l)
 |[],a,h=>by show a=max a 0;omega
 |x::l,a,h=>by
  have e:jc (x::l)=max (if x>0 then x else 0) (jc l):=Lr l _ (by show 0<=if x>0 then x else 0;split<;>omega)
  rw[xa,Lr l _ (by split<;>omega),e]
  split<;>split<;>omega
theorem Hf(x:Int) (l:List Int):jc (x::l)=max (max 0 x) (jc l):=by
 have:jc (x::l)=max (if x>0 then x else 0) (jc l):=Lr l _ (by show 0<=if x>0 then x else 0;split<;>omega)
 rw[this];split<;>omega
theorem Uf:jc []=0:=rfl
def pre(D:Gr) (i:Nat):List Int:=(List.range i).flatMap λk=>(D.row k).getD []
theorem tc{α:Type} {l:List α} {p:α->Bool} (h:∀x∈l,p x=false):l.find? p=none:=by
 rw[Ha];intro x D;simp[h x D]
theorem af5(n:Int):(jq l i n).Fw:=by
 have r1:=aP l (cU (i+1)) (n:=4) adp adp
 have r2:=aP l (cU (i+2)) (n:=3) adp adp
 have Z:=aP l (cU (i+3)) (n:=4) adp adp
 have r4:=aP l (cU (i+4)) (n:=6) adp adp
 obtain⟨a,D⟩:∃m:Nat,cJ l (cU (i+1)) 4=m:=⟨(cJ l (cU (i+1)) 4).toNat,ado⟩
 obtain⟨b,R⟩:∃m:Nat,cJ l (cU (i+2)) 3=m:=⟨(cJ l (cU (i+2)) 3).toNat,ado⟩
 obtain⟨c,M⟩:∃m:Nat,cJ l (cU (i+3)) 4=m:=⟨(cJ l (cU (i+3)) 4).toNat,ado⟩
 obtain⟨d,hd⟩:∃m:Nat,cJ l (cU (i+4)) 6=m:=⟨(cJ l (cU (i+4)) 6).toNat,ado⟩
 have V:∀a:Nat,a<4->zu a<2^64:=adp
 have O:∀a:Nat,a<4->∀b:Nat,b<3->wY a b<2^64:=by decide+kernel
 have L:∀c:Nat,c<6->Bz c<2^64:=by decide+kernel
 refine⟨?_,?_,?_,?_⟩
 ·show zu _<_;rw[D];exact V a ado
 ·show wY _ _<_;rw[D,R];exact O a ado b ado
 ·show Bz _<_;rw[M];exact L c ado
 ·show Bz _<_;rw[hd];exact L d ado
theorem WS:(bk l).Fw:=by
 intro d hd
 have e:(bk l).aV=ez (l7 l (dA l).2 (cJ l 175 9) (cJ l 175 9).toNat):=rfl
 rw[e,dB,l7,mi]at hd;obtain⟨k,_,rfl⟩:=hd;exact af5 _ _ _
theorem jt{n:Int} (L:-9223372036854775808<=n) (D:n<=9223372036854775807):cU n=n:=aU L D
structure WT (x:Ph):Prop where
 min:1<=x.min/\x.min<=12
 max:x.min<=x.max/\x.max<=36
 top:x.max<=x.top/\x.top<=50
 Zd:0<=x.Zd/\x.Zd<=8
 step:1<=x.step/\x.step<=6
 dD:10<=x.dD/\x.dD<=13
 red:0<=x.red/\x.red<=4
 walk:(x.walk=0/\x.cz=0)\/(1<=x.walk/\x.walk<=10/\1<=x.cz/\x.cz<=10)
 n9:0<=x.n9/\x.n9<=3/\(x.n9=3->x.walk≠0)
 on:x.on=true
theorem RC:WT (kE l i):=by
 have r0:=aP l i (n:=12) adp adp
 have r1:=aP l (cU (i+1)) (n:=9) adp adp
 have r2:=aP l (cU (i+2)) (n:=6) adp adp
 have r3:=aP l (cU (i+3)) (n:=4) adp adp
 have r4:=aP l (cU (i+4)) (n:=5) adp adp
 have r5:=aP l (cU (i+5)) (n:=25) adp adp
 have r6:=aP l (cU (i+6)) (n:=15) adp adp
 have r8:=aP l (cU (i+8)) (n:=10) adp adp
 have r9:=aP l (cU (i+8)) (n:=97) adp adp
 have ra:=aP l (cU (i+9)) (n:=7) adp adp
 have rt:0<=(cJ l (cU (i+8)) 97).tdiv 10/\(cJ l (cU (i+8)) 97).tdiv 10<=9:=by
  rw[Int.tdiv_eq_ediv_of_nonneg r9.1];omega
 have D:=jt (n:=1+cJ l i 12) ado ado
 have V:=jt (n:=1+cJ l i 12+cJ l (cU (i+5)) 25) ado ado
 have L:=jt (n:=1+cJ l i 12+cJ l (cU (i+5)) 25+cJ l (cU (i+6)) 15) ado ado
 have R:=jt (n:=1+cJ l (cU (i+8)) 10) ado ado
 have e9:=jt (n:=(cJ l (cU (i+8)) 97).tdiv 10) ado ado
 have O:=jt (n:=1+(cJ l (cU (i+8)) 97).tdiv 10) ado ado
 have M:=jt (n:=1+cJ l (cU (i+2)) 6) ado ado
 have Z:=jt (n:=10+cJ l (cU (i+3)) 4) ado ado
 refine⟨?_,?_,?_,?_,?_,?_,?_,?_,?_,rfl⟩<;>simp only[kE,D,V,L,R,e9,O,M,Z]
 ·omega
 ·omega
 ·omega
 ·omega
 ·omega
 ·omega
 ·omega
 ·split
  ·right;omega
  ·left;exact⟨rfl,rfl⟩
 ·split<;>split<;>omega
theorem RD(l:Option (List Int)):∀(k i:Nat),k<=8->i<8->(K4 l k).getD i default=if i<k then kE l (10+12*i)else default
 |0,i,_,D=>by rw[K4,em,PP,fp D,fb ado];rfl
 |k+1,i,hk,D=>by
  have M:=RD l k i ado D
  rw[K4,em,ac8]
  by_cases e:k=i
  ·subst e
   rw[fp rfl,fp (by rw[fy];omega),fp ado];rfl
  ·rw[fb e,<-em,M]
   by_cases L:i<k
   ·rw[fp L,fp ado]
   ·rw[fb L,fb ado]
def nT:Nat:=(dA l).2
theorem nH:1<=nT l/\nT l<=8:=⟨GU l,sP l⟩
theorem tph{i:Nat} (D:i<8):aK (bk l) i=if i<nT l then kE l (10+12*i)else default:=by
 rw[<-Lb];exact RD l (nT l) i (nH l).2 D
theorem Hg(l:Option (List Int)) (G:Nat) (L:G<=8):∀g,g<=G->1<=g->(bu l G g).2<=8-(G-g)
 |0,_,h=>by omega
 |g+1,h,_=>by
  have M:(bu l G g).2<=8-(G-1-g):=by
   rcases xc g with rfl|D
   ·simp[bu]
   ·have:=Hg l G L g ado D;omega
  simp only[bu,bz,cN];omega
theorem Hh(G:Nat) (V:G<=8) {g:Nat} (hg:g<G):∃(D:Gr) (m:Nat),1<=m/\(bu l G (g+1)).1=(bu l G g).1++[D]/\(bu l G (g+1)).2=(bu l G g).2+m/\D.a.getD []++D.b.getD []=d8 (bu l G g).2 m:=by
 have hp:(bu l G g).2+1<=cN G g:=by
  unfold cN
  rcases xc g with rfl|R
  ·simp[bu];omega
  ·have:=Hg l G V g ado R;omega
 refine⟨_,bz (cnt l g 0 0) (bu l G g).2 (cN G g)+bz (cnt l g 1 (bz (cnt l g 0 0) (bu l G g).2 (cN G g))) ((bu l G g).2+bz (cnt l g 0 0) (bu l G g).2 (cN G g)) (cN G g),?_,rfl,?_,?_⟩
 ·generalize Z:bz (cnt l g 0 0) (bu l G g).2 (cN G g)=m0
  rcases xc m0 with L|L
  ·have O:1<=cnt l g 1 m0:=by
    simp only[cnt]
    by_cases M:(cJ l (1+2*(g:Int)+((1:Nat):Int)) 3).toNat=0
    ·rw[fp ⟨trivial,M,L⟩];exact ik _
    ·rw[fb (λh=>M h.2.1)];omega
   rw[L]at O⊢;simp only[bz];omega
  ·omega
 ·simp only[bu];omega
 ·simp only[dB]
  generalize bz (cnt l g 0 0) (bu l G g).2 (cN G g)=m0;generalize bz (cnt l g 1 m0) ((bu l G g).2+m0) (cN G g)=m1;simp only[d8,List.range_add,ta,acl]
  congr 1
  apply B0
  intro j _;simp only[Function.comp];omega
theorem BN{t D:Tb} (h:t.groups=D.groups) (p q:Int):ee t p q=ee D p q:=by
 simp only[ee,aE,bQ,h]
def WU(c:List Int):Prop:=∀i j:Nat,i<8->j<8->tb (zw c i) j=true->i≠j/\ee t i j=false
theorem Ug{t:Tb} {l:Option (List Int)} {c:List Int} (hc:c.length=8) (hp:p<8) (hq:q<p) (h:WU t c):WU t (gP t l p q c):=by
 unfold gP;split
 ·rename_i L
  have hb:ee t p q=false:=by
   simp only[qT,ed,pA]at L;exact L.1
  have R:ee t q p=false:=by rw[Au];exact hb
  intro i j O M
  have Z:p<c.length:=ado
  have aa:q<(c.set p (iD (zw c p) q)).length:=by simp;omega
  have V:¬q=p:=ado
  simp only[Fx aa,Fx Z,V,il];intro D
  by_cases h1:i=q
  ·subst h1
   rw[fp rfl,sY ado]at D
   simp only[ed,na,ii]at D
   rcases D.2 with D|rfl
   ·exact h i j O M D
   ·exact⟨ado,R⟩
  ·rw[fb h1]at D
   by_cases h3:i=p
   ·subst h3
    rw[fp rfl,sY ado]at D
    simp only[ed,na,ii]at D
    rcases D.2 with D|rfl
    ·exact h i j O M D
    ·exact⟨ado,hb⟩
   ·rw[fb h3]at D
    exact h i j O M D
 ·exact h
theorem ND{t:Tb} {l:Option (List Int)} {p:Nat} {c:List Int} (D:c.length=8) (L:p<8) (h:WU t c):∀q,q<=p->WU t (jD t l p q c)
 |0,_=>h
 |q+1,M=>Ug (by rw[nC,D]) L ado (ND D L h q ado)
theorem RE{t:Tb} {l:Option (List Int)}:∀p,p<=8->WU t (gB t l p)
 |0,_=>by
  intro i j M L D
  have:zw (gB t l 0) i=0:=by
   simp only[zw,gB,em,PP];split<;>rfl
  rw[this,ef]at D;cases D
 |p+1,O=>ND (eu p) ado (RE p ado) p (ik p)
theorem Uh(D:p<8) (L:q<8) (h:tb (eA (bk l) p) q=true):p≠q/\ee (bk l) p q=false:=by
 have:=RE (t:={qF with groups:=some (dA l).1}) (l:=l) (dA l).2 (sP l) p q D L h
 refine⟨this.1,?_⟩;rw[<-this.2];exact BN rfl _ _
theorem Hi(l:Option (List Int)) (G:Nat) (M:G<=8):∀g,g<=G->∀D∈(bu l G g).1,∀x∈D.a.getD []++D.b.getD [],0<=x/\x<8
 |0,_,D,h=>by simp[bu]at h
 |g+1,hg,D,h=>by
  obtain⟨V,m,h1,R,Z,h4⟩:=Hh l G M (g:=g) ado
  rw[R]at h
  rcases lr.1 h with h|h
  ·exact Hi l G M g ado D h
  ·rw[rf]at h;subst h
   intro x L;rw[h4,d8,mi]at L;obtain⟨j,O,rfl⟩:=L
   have:=yz l G (g+1)
   have:=ip.1 O
   omega
theorem Ls:∀(k i:Nat),k<=8->i<8->(Aj k).getD i 0=if i<k then 1 else 0
 |0,i,_,D=>by rw[Aj,em,PP,fp D,fb ado];rfl
 |k+1,i,hk,D=>by
  have M:=Ls k i ado D
  rw[Aj,em,ac8]
  by_cases e:k=i
  ·subst e
   rw[fp rfl,fp (by rw[lF];omega),fp ado];rfl
  ·rw[fb e,<-em,M]
   by_cases L:i<k
   ·rw[fp L,fp ado]
   ·rw[fb L,fb ado]
theorem am9:∃q:Nat,∀p,p<8->akE (bk l) p=if q<nT l/\p=q then 2 else if p<nT l then 1 else 0:=by
 have r:=aP l 174 (n:=((dA l).2:Int)+1) ado (by have:=sP l;omega)
 refine⟨(cJ l 174 (((dA l).2:Int)+1)).toNat,λp O=>?_⟩
 have M:=(nH l).2
 have e:(bk l).dO=if cJ l 174 (((dA l).2:Int)+1)<((dA l).2:Int)then(Aj (dA l).2).set (cJ l 174 (((dA l).2:Int)+1)).toNat 2 else Aj (dA l).2:=rfl
 have D:nT l=(dA l).2:=rfl
 rw[akE,e,D];rw[D]at M;generalize(dA l).2=n at*;generalize cJ l 174 ((n:Int)+1)=q at*;split
 ·rename_i R
  rw[em,ac8]
  by_cases L:q.toNat=p
  ·rw[fp L,fp (by rw[lF];omega),fp ⟨ado,L.symm⟩];rfl
  ·have:¬(q.toNat<n/\p=q.toNat):=λh=>L h.2.symm
   rw[fb L,<-em,Ls _ _ M O];simp only[this,il]
 ·rename_i R
  have:¬(q.toNat<n/\p=q.toNat):=ado
  rw[Ls _ _ M O];simp only[this,il]
structure WV (n:Nat) (d:Bo):Prop where
 phase:0<=d.phase/\d.phase<n
 may:lvl d.on=true/\lvl d.off=true/\G1 d.delay=true/\G1 d.extend=true
 most:0<=d.maxOn/\d.maxOn<=80/\0<=d.wN/\d.wN<=360
 order:gtF d.off d.on=false
theorem abh(hn:1<=n) (h8:n<=8):WV n (jq l i n):=by
 have V:=aP l i (n:=(n:Int)) ado ado
 have r1:=aP l (cU (i+1)) (n:=4) adp adp
 have r2:=aP l (cU (i+2)) (n:=3) adp adp
 have r3:=aP l (cU (i+3)) (n:=4) adp adp
 have r4:=aP l (cU (i+4)) (n:=6) adp adp
 have r6:=aP l (cU (i+6)) (n:=60) adp adp
 have r7:=aP l (cU (i+7)) (n:=300) adp adp
 obtain⟨a,D⟩:∃m:Nat,cJ l (cU (i+1)) 4=m:=⟨(cJ l (cU (i+1)) 4).toNat,ado⟩
 obtain⟨b,M⟩:∃m:Nat,cJ l (cU (i+2)) 3=m:=⟨(cJ l (cU (i+2)) 3).toNat,ado⟩
 obtain⟨c,R⟩:∃m:Nat,cJ l (cU (i+3)) 4=m:=⟨(cJ l (cU (i+3)) 4).toNat,ado⟩
 obtain⟨d,hd⟩:∃m:Nat,cJ l (cU (i+4)) 6=m:=⟨(cJ l (cU (i+4)) 6).toNat,ado⟩
 have k1:∀a:Nat,a<4->lvl (zu a)=true:=by decide+kernel
 have L:∀a:Nat,a<4->∀b:Nat,b<3->lvl (wY a b)=true/\gtF (wY a b) (zu a)=false:=by decide+kernel
 have O:∀c:Nat,c<6->G1 (Bz c)=true:=by decide+kernel
 have Z:=jt (n:=20+cJ l (cU (i+6)) 60) ado ado
 have e7:=jt (n:=60+cJ l (cU (i+7)) 300) ado ado
 refine⟨V,⟨?_,?_,?_,?_⟩,?_,?_⟩
 ·show lvl (zu _)=true;rw[D];exact k1 a ado
 ·show lvl (wY _ _)=true;rw[D,M];exact(L a ado b ado).1
 ·show G1 (Bz _)=true;rw[R];exact O c ado
 ·show G1 (Bz _)=true;rw[hd];exact O d ado
 ·simp only[jq,Z,e7]
  split<;>split<;>omega
 ·show gtF (wY _ _) (zu _)=false;rw[D,M];exact(L a ado b ado).2
theorem akF:((bk l).aV.getD []).length<=8/\∀d∈(bk l).aV.getD [],WV (nT l) d:=by
 have e:(bk l).aV=ez (l7 l (dA l).2 (cJ l 175 9) (cJ l 175 9).toNat):=rfl
 have r:=aP l 175 (n:=9) adp adp
 rw[e,dB]
 refine⟨by rw[Dm];omega,λd hd=>?_⟩
 rw[l7,mi]at hd;obtain⟨k,_,rfl⟩:=hd;exact abh _ _ (nH l).1 (nH l).2
theorem WW(D:p<8) (i:Nat):tb (ofI [(p:Int)]) i=decide (i=p):=by
 rw[Rm]
 by_cases h:i=p
 ·subst h;simp[D]
 ·have:¬(i:Int)=(p:Int):=ado
  simp[h,this]
theorem Hj(D:p<8) (M:q<8) (i:Nat):tb (pR t p q) i=(decide (i=p)||(ee t p q&&decide (i=q))):=by
 unfold pR;cases ee t p q
 ·rw[fb adI,WW D];simp
 ·rw[fp rfl,sY M,WW D]
  by_cases L:i<8
  ·simp[L]
  ·have O:¬i=p:=ado
   have R:¬i=q:=ado
   simp[L,O,R]
theorem Ui(p q:Int):Can (pR t p q):=by
 unfold pR;split
 ·exact JJ _ _
 ·exact Lm _
theorem RF:∀n:Nat,n<9->1<=n->∀i:Nat,i<64->tb (cU (cU (1*2^min (IntKind.u64.wrap (n:Int)).toNat 64)-1)) i=decide (i<n):=by decide+kernel
def Tog(n:Nat) (s:Int):Prop:=Can s/\(∀i,i<8->tb s i=true->i<n)/\∀i j,i<8->j<8->tb s i=true->tb s j=true->i≠j->ee t i j=true
theorem BO{t D:Tb} (hg:t.groups=D.groups) (h8:n<=8) (hp:p<n) (hq:q<n):Tog t n (pR D p q)/\pR D p q≠0:=by
 have Z:=BN hg
 refine⟨⟨Ui _ _ _,λi hi h=>?_,λi j hi hj R O M=>?_⟩,λe=>?_⟩
 ·rw[Hj D ado ado]at h
  simp only[na,ed,ii]at h;omega
 ·rw[Hj D ado ado]at R O
  simp only[na,ed,ii]at R O;rw[Z]
  rcases R with rfl|⟨V,rfl⟩
  ·rcases O with rfl|⟨L,rfl⟩
   ·exact absurd rfl M
   ·exact L
  ·rcases O with rfl|⟨L,rfl⟩
   ·rw[Au];exact V
   ·exact absurd rfl M
 ·have:=Hj D (p:=p) (q:=q) ado ado p
  rw[e,ef]at this;simp at this
theorem WX(n:Nat):Tog t n 0:=⟨⟨adp,adp⟩,(λi _ h=>by rw[ef]at h;cases h),(λi j _ _ h=>by rw[ef]at h;cases h)⟩
structure Lt (t:Tb) (n:Nat) (r:Rl):Prop where
 bars:Can r.bars/\∀i,i<64->tb r.bars i=true->i<n/\tb r.fe i=false
 clear:Tog t n r.clear
 fe:Tog t n r.fe/\r.fe≠0
 exit:Tog t n r.exit/\r.exit≠0
 hold:(1<=r.hold/\r.hold<=10/\r.clear≠0)\/(r.hold=0/\r.clear=0)
 aoN:0<=r.delay/\r.delay<=3/\1<=r.green/\r.green<=6/\0<=r.dm/\r.dm<=5/\1<=r.stay/\r.stay<=15
 most:r.most=0\/(r.stay<=r.most/\r.most<=44)
 limit:r.delay<r.limit/\r.limit<=10004
theorem abi{t O:Tb} (Z:t.groups=O.groups) (l:Option (List Int)) (i:Int) (hn:1<=n) (V:n<=8):Lt t n (rU O l i n):=by
 have D:∀j:Int,∃m:Nat,cJ l j (n:Int)=m/\m<n:=λj=>by
  have:=aP l j (n:=(n:Int)) ado ado
  exact⟨(cJ l j n).toNat,ado,ado⟩
 obtain⟨a0,e0,k0⟩:=D i
 obtain⟨a1,e1,k1⟩:=D (cU (i+1))
 obtain⟨a2,e2,k2⟩:=D (cU (i+2))
 obtain⟨a3,e3,k3⟩:=D (cU (i+3))
 obtain⟨a5,e5,k5⟩:=D (cU (i+5))
 have en:cU ((n:Int)+1)=(n:Int)+1:=jt ado ado
 have r4:=aP l (cU (i+4)) (n:=(n:Int)+1) ado ado
 have r6:=aP l (cU (i+6)) (n:=10) adp adp
 have r8:=aP l (cU (i+8)) (n:=4) adp adp
 have r9:=aP l (cU (i+9)) (n:=6) adp adp
 have ra:=aP l (cU (i+10)) (n:=6) adp adp
 have rb:=aP l (cU (i+11)) (n:=15) adp adp
 have rd:=aP l (cU (i+13)) (n:=30) adp adp
 have re:=aP l (cU (i+14)) (n:=3) adp adp
 have w6:=jt (n:=1+cJ l (cU (i+6)) 10) ado ado
 have w9:=jt (n:=1+cJ l (cU (i+9)) 6) ado ado
 have wb:=jt (n:=1+cJ l (cU (i+11)) 15) ado ado
 have wd:=jt (n:=1+cJ l (cU (i+11)) 15+cJ l (cU (i+13)) 30) ado ado
 have w8:=jt (n:=cJ l (cU (i+8)) 4+1) ado ado
 have R:∃v:Int,[10000,400,20].getD (cJ l (cU (i+14)) 3).toNat 0=v/\20<=v/\v<=10000:=by
  have:(cJ l (cU (i+14)) 3).toNat=0\/(cJ l (cU (i+14)) 3).toNat=1\/(cJ l (cU (i+14)) 3).toNat=2:=ado
  rcases this with h|h|h<;>rw[h]
  ·exact⟨10000,rfl,adp,adp⟩
  ·exact⟨400,rfl,adp,adp⟩
  ·exact⟨20,rfl,adp,adp⟩
 obtain⟨v,hv,v1,v2⟩:=R
 have wl:=jt (n:=cJ l (cU (i+8)) 4+1+v) ado ado
 have td:=BO Z V k0 k1
 have te:=BO Z V k2 k3
 refine⟨?_,?_,?_,?_,?_,?_,?_,?_⟩<;>simp only[rU,e0,e1,e2,e3,e5,en,w6,w9,wb,wd,w8,hv,wl]
 ·have M:∀j,j<64->tb (bC .i64 (bT .i64 (cJ l (cU (i+7)) 256) (cU (cU (1*2^min (IntKind.u64.wrap (n:Int)).toNat 64)-1))) (pR O a0 a1)) j=true->j<n/\tb (pR O a0 a1) j=false:=by
   intro j hj h
   rw[i4 _ _ _ hj,xg,RF n ado hn j hj]at h
   simp only[ed,pA,ii]at h;exact⟨h.1.2,h.2⟩
  refine⟨?_,M⟩
  have e:bC .i64 (bT .i64 (cJ l (cU (i+7)) 256) (cU (cU (1*2^min (IntKind.u64.wrap (n:Int)).toNat 64)-1))) (pR O a0 a1)=IntKind.i64.wrap ((bv (bT .i64 (cJ l (cU (i+7)) 256) (cU (cU (1*2^min (IntKind.u64.wrap (n:Int)).toNat 64)-1)))&&& ~~~bv (pR O a0 a1)).toNat:Int):=rfl
  rw[e]
  refine BL λj h1 h2=>?_
  have h4:=RF n ado hn j h2
  have h5:¬j<n:=ado
  have h6:=xg (cJ l (cU (i+7)) 256) (cU (cU (1*2^min (IntKind.u64.wrap (n:Int)).toNat 64)-1)) j
  rw[h4]at h6;simp only[h5,decide_false,pm]at h6;simp only[tb]at h6;rw[BitVec.getLsbD_and,h6];rfl
 ·split
  ·rename_i hp
   obtain⟨p,L⟩:∃p:Nat,cJ l (cU (i+4)) ((n:Int)+1)=p:=⟨(cJ l (cU (i+4)) ((n:Int)+1)).toNat,ado⟩
   rw[L]at hp⊢
   exact(BO Z V ado k5).1
  ·exact WX _ _
 ·exact td
 ·exact te
 ·split
  ·rename_i hp
   obtain⟨p,L⟩:∃p:Nat,cJ l (cU (i+4)) ((n:Int)+1)=p:=⟨(cJ l (cU (i+4)) ((n:Int)+1)).toNat,ado⟩
   rw[L]at hp⊢
   exact .inl ⟨ado,ado,(BO Z V ado k5).2⟩
  ·exact .inr ⟨rfl,rfl⟩
 ·omega
 ·split
  ·right;omega
  ·left;rfl
 ·omega
theorem af7:((bk l).bE.getD []).length<=2/\∀r∈(bk l).bE.getD [],Lt (bk l) (nT l) r:=by
 have e:(bk l).bE=ez (gQ {qF with groups:=some (dA l).1} l (dA l).2 ((cJ l 176 4).tmod 3) ((cJ l 176 4).tmod 3).toNat):=rfl
 have h:=Ps (cJ l 176 4) (b:=3) adp
 rw[e,dB]
 refine⟨by rw[Ak];omega,λd hd=>?_⟩
 rw[gQ,mi]at hd;obtain⟨k,_,rfl⟩:=hd;exact abi rfl _ _ (nH l).1 (nH l).2
theorem WY(a b:Nat):d8 0 (a+b)=d8 0 a++d8 a b:=by
 simp only[d8,List.range_add,ta,acl]
 congr 1
 apply B0
 intro j _;simp only[Function.comp];omega
theorem JN(l:Option (List Int)) (G:Nat) (R:G<=8):∀g,g<=G->∀L:List Gr,(∀(j:Nat) (D:Gr),(bu l G g).1[j]? =some D->L[j]? =some D)->(dL L g).map Sp.p=d8 0 (bu l G g).2
 |0,_,L,_=>by simp[dL,bu,d8]
 |g+1,hg,L,hL=>by
  obtain⟨D,m,h1,O,h3,h4⟩:=Hh l G R (g:=g) ado
  have M:=pS l G g
  have V:L[g]? =some D:=hL g D (by rw[O,im ado,M];simp)
  have ih:=JN l G R g ado L λj aa hj=>hL j aa (by rw[O,iv (eo.1 hj).1,hj])
  have Z:=Hi l G R (g+1) hg D (by rw[O];simp)
  rw[jC V,ta,ih,NB Z,h4,h3,WY]
theorem Lu:(bQ (bk l)).map Sp.p=d8 0 (nT l):=by
 have D:=uv l
 have e:(bk l).groups.getD []=(bu l (ic l) (ic l)).1:=rfl
 rw[bQ,e,pS]
 exact JN l _ ado _ (ik _) _ λ_ _ h=>h
end
section
open Z
def tf:List AV:=(⟨_,by conv=>lhs;cbv⟩:bS (O9 [(3,12)])).1
def uE:List AV:=(⟨_,by conv=>lhs;cbv⟩:bS (O9 [(1,1),(0,10),(1,3),(0,10),(1,3),(0,10),(1,3),(0,10),(1,3),(0,10),(1,3),(0,10),(1,3),(0,10),(1,3),(0,10),(1,2),(2,1),(0,8),(2,3),(0,30),(1,2),(0,10),(1,2),(0,10),(1,2),(0,10),(1,2),(0,10),(1,2),(0,10),(1,2),(0,10),(1,2),(0,10),(1,2),(0,3)])).1
def vp(g0 D Z V g4 O:Nat):bJ:=⟨147,[.cell 8 (some 8),.cell 9 (some 5)],r [o 4 (w 0),o 5 (w 1),o 7 (w 3),o 8 (.alloc [i 0,i 0,i 0,i 0,i 0,i 0,i 0,i 0]),o 9 (.alloc [i 0,i 0,i 0,F,F])] (r [o 16 (L 4 131),o 17 (L 4 131),o 18 (L 5 8),M 19 2,o 20 (.call g0 [t 17,t 18,t 19]),o 21 (L 7 96),o 22 (.build uE [(0,131,t 16),(131,8,t 20),(139,96,t 21)]),o 23 (w 22),M 10 23] (r [o 24 (.call D []),o 11 (.alloc tf),n (s 11 24 12)] (j (r [M 25 10,o 26 (.nc (t 25)),o 27 (f 26 131),o 28 (f 27 0),o 29 (l 28),o 30 (bb .lss 29 (i 0)),M 31 30,q 32 (m 10) 31,q 33 (.nc (t 32)) 31,q 34 (f 33 131) 31,q 35 (f 34 0) 31,q 36 (l 35) 31,q 37 (bb .geq 36 (i 6)) 31,o 38 (Q 31 37)] (c 38 (R [M 39 10,o 40 (.nc (t 39)),o 41 (f 40 131),o 42 (f 41 0),n (ss 42 (i 0) 1)]) z)) (r [M 43 10,o 44 (.nc (t 43)),o 45 (f 44 131),o 46 (f 45 0),o 47 (l 46),M 12 47] (j (r [o 48 (L 4 131),M 49 10,o 50 (.nc (t 49)),o 51 (f 50 131),o 52 (L 51 8),o 53 (.call Z [t 48,t 52]),M 13 53] (r [M 54 13,o 55 (bb .geq 54 (i 0)),M 56 55,p 57 (m 12) 56,p 58 (bb .eql 57 (i 0)) 56,p 59 (m 58) 56,q 60 (m 12) 59,q 61 (bb .eql 60 (i 5)) 59,p 62 (Q 59 61) 56,p 63 (m 62) 56,q 64 (m 13) 63,q 65 (m 10) 63,q 66 (.nc (t 65)) 63,q 67 (f 66 131) 63,q 68 (f 67 1) 63,q 69 (l 68) 63,q 70 (b .lss 64 69) 63,p 71 (Q 63 70) 56,o 72 (P 56 71)] (c 72 (r [M 73 10,M 74 10,M 75 10,M 76 13,o 77 (.nc (t 73)),o 78 (f 77 131),o 79 (f 78 0),n (ss 79 (i 1) 1),o 80 (.nc (t 74)),o 81 (f 80 131),o 82 (f 81 1),n (s 82 76 1),o 83 (.nc (t 75)),o 84 (f 83 131),o 85 (f 84 2),n (ss 85 (i 0) 1)] (.seq (.sq [M 86 10,o 87 (.nc (t 86)),o 88 (f 87 131),o 89 (L 88 8),M 90 10,o 91 (.ew V [t 90]),n (s 8 89 8),n (s 9 91 5)] [(3,5)]) y)) z))) (r [M 92 12,o 93 (A 11 92 6 2),o 94 (f 93 0),o 95 (l 94),M 96 10,o 97 (.gK (t 95) [t 96]),M 14 97] (j (r [M 98 12,o 99 (bb .eql 98 (i 5)),M 100 99,p 101 (m 14) 100,p 102 (bb .eql 101 (i 0)) 100,o 103 (P 100 102)] (c 103 (r [M 104 10,o 105 (.ew g4 [t 104]),o 15 (.alloc [i 0,i 0,i 0,F,F]),n (s 15 105 5)] (r [M 106 10,M 107 10,M 108 10,o 109 (.nc (t 106)),o 110 (f 109 131),o 111 (f 110 0),n (ss 111 (i 0) 1),o 112 (.nc (t 107)),o 113 (f 112 131),o 114 (f 113 1),n (ss 114 (i 0) 1),o 115 (.nc (t 108)),o 116 (f 115 131),o 117 (f 116 2),n (ss 117 (i 0) 1)] (.seq (.sq [M 118 10,o 119 (.nc (t 118)),o 120 (f 119 131),o 121 (L 120 8),o 122 (L 15 5),n (s 8 121 8),n (s 9 122 5)] [(4,5)]) y))) z)) (r [M 123 10,M 124 14,o 125 (.nc (t 123)),o 126 (f 125 131),o 127 (f 126 0),n (s 127 124 1)] (r [M 128 10,M 129 10,M 130 14,M 131 12,o 132 (b .neq 130 131),o 133 (.ew O [t 129,t 132]),o 134 (.nc (t 128)),o 135 (f 134 131),o 136 (f 135 2),n (s 136 133 1)] (.seq (.sq [M 137 10,o 138 (.nc (t 137)),o 139 (f 138 131),o 140 (L 139 8),M 141 14,o 142 (A 11 141 6 2),o 143 (f 142 1),o 144 (l 143),M 145 10,o 146 (.gK (t 144) [t 145]),n (s 8 140 8),n (s 9 146 5)] [(3,9)]) y))))))))))⟩
def th(D:Nat):bJ:=(⟨_,by conv=>lhs;ext y0;cbv⟩:bS λ(y0:List AV)=>cE 32 [.tmp 4] [D] [0,1,-1] 0x14844080a009ae01f17957c85942017848012861c085a3f89059202a725e960b5cf850082787c6088dc4082841133e21e1f0787c2fb9b973a8019f6136915216017309604320d18840380c0a0081a0c5e9e0806030b405b30 [y0]).1 cI
def tj(D:Nat):bJ:=(⟨_,by conv=>lhs;cbv⟩:bS (cE 43 [.cell 6 (some 8)] [D] [0,1] 0xb00dcb09d240280ae9c4940a69c404a37e10474e24a462f8480d009de0190b09028a0c8bfa3a2240062e07020a1044d38a78678c8bc1421c008c3013239e17e1500412141f120a302a1cf0971017814048084805cc25810c83462100e0302802068317da82018f4400608033d3407b30 [[.int .i64 0,.int .i64 0,.int .i64 0,.int .i64 0,.int .i64 0,.int .i64 0,.int .i64 0,.int .i64 0],[.int .i64 0,.int .i64 0,.int .i64 0,.int .i64 0]] [] [.mm true [.t 29,.k (.int .i64 0)],.mm false [.t 30,.k (.int .i64 2147483646)]])).1
def tq(D:Nat):bJ:=(⟨_,by conv=>lhs;ext y0;cbv⟩:bS λ(y0:List AV)=>cE 23 [.tmp 4] [D] [0,1] 0xb220405004d700b0bcabe42caa20401013c3e304a6e2041420899f10f0f81c2fb9b973a8019f6136915216017309604320d18840380c0a0081a0c5e9e080730b405b30 [y0]).1 cI
def qY(V g1 g2 g3 g4 O M R g8 Z D L:Nat):bJ:=⟨8,[.cell 0 (some 12)],r [o 0 (.alloc tf)] (r [o 1 (.build [.jG,.jG] [(0,1,k (.fn (.func V) [] [])),(1,1,k (.fn (.func g1) [] []))]),o 2 (.build [.jG,.jG] [(0,1,k (.fn (.func g2) [] [])),(1,1,k (.fn (.func g3) [] []))]),o 3 (.build [.jG,.jG] [(0,1,k (.fn (.func g4) [] [])),(1,1,k (.fn (.func O) [] []))]),o 4 (.build [.jG,.jG] [(0,1,k (.fn (.func M) [] [])),(1,1,k (.fn (.func R) [] []))]),o 5 (.build [.jG,.jG] [(0,1,k (.fn (.func g8) [] [])),(1,1,k (.fn (.func Z) [] []))]),o 6 (.build [.jG,.jG] [(0,1,k (.fn (.func D) [] [])),(1,1,k (.fn (.func L) [] []))]),o 7 (.build tf [(0,2,t 1),(2,2,t 2),(4,2,t 3),(6,2,t 4),(8,2,t 5),(10,2,t 6)]),n (s 0 7 12)] y)⟩
def nI(L M D:Nat):bJ:=(⟨_,by conv=>lhs;cbv⟩:bS (cE 10 [.cell 2 (some 5)] [L,M,D] [] 0xaa05ca0d464e1f07008b87e84041c3ec2830004f10 [[.int .i64 0,.int .i64 0,.int .i64 0,.bool false,.bool false]] [] [.Jg (.t 7) 5 none])).1
def ov(L M D:Nat):bJ:=(⟨_,by conv=>lhs;cbv⟩:bS (cE 9 [.cell 2 (some 5)] [L,M] [] 0x2a86280831420c07063170f838041c3ec282e004f10 [[.int .i64 0,.int .i64 0,.int .i64 0,.bool false,.bool false]] [.fn (.func D) [] []] [.Jg (.t 5) 3 none])).1
def ox(D L O:Nat):bJ:=⟨53,[.tmp 4],r [V 4 (i 0)] (j (u 0 (j (r [M 6 1,M 5 6] (c 5 z (R [M 7 0,o 8 (.nc (t 7)),o 9 (f 8 131),o 10 (f 9 0),o 11 (l 10),o 12 (bb .eql 11 (i 0)),M 5 12]))) (c 5 (r [V 4 (i 0)] y) (j (r [M 14 0,o 15 (.nc (t 14)),o 16 (f 15 131),o 17 (f 16 0),o 18 (l 17),o 19 (bb .eql 18 (i 2)),M 20 19,p 21 (m 0) 20,p 22 (m 0) 20,p 23 (.ew D [t 22]) 20,p 24 (.Jg (t 23) 1 none) 20,p 25 (.ew L [t 21,t 24]) 20,p 26 (.un .not (t 25)) 20,o 27 (P 20 26),M 13 27] (c 13 z (R [M 28 0,o 29 (.nc (t 28)),o 30 (f 29 131),o 31 (f 30 0),o 32 (l 31),o 33 (bb .eql 32 (i 4)),M 34 33,p 35 (m 0) 34,p 36 (m 0) 34,p 37 (.ew D [t 36]) 34,p 38 (.Jg (t 37) 2 none) 34,p 39 (.ew L [t 35,t 38]) 34,p 40 (.un .not (t 39)) 34,o 41 (P 34 40),M 13 41]))) (c 13 (r [M 42 0,o 43 (.nc (t 42)),o 44 (f 43 131),o 45 (f 44 2),o 46 (l 45),M 4 46] y) z))))) (r [M 47 0,o 48 (.nc (t 47)),o 49 (f 48 131),o 50 (f 49 2),o 51 (l 50),o 52 (.call O [t 51]),M 4 52] y))⟩
def tu:bJ:=(⟨_,by conv=>lhs;cbv⟩:bS (cE 10 [.tmp 2] [] [] 0xa0802e0705011c85ec408e42f22800d81a20 [] [.aZ] [.mm false [.t 7,.k (.int .i64 4)],.Zk 11 (.t 4) none (some (.t 8))])).1
def oy:bJ:=(⟨_,by conv=>lhs;cbv⟩:bS (cE 3 [.tmp 2] [] [0] 0x1402408004810)).1
def oz:bJ:=(⟨_,by conv=>lhs;cbv⟩:bS (cE 4 [.cell 2 (some 5)] [] [] 0xaa04ac4c4304004f10 [[.int .i64 0,.int .i64 0,.int .i64 0,.bool false,.bool false]])).1
def mc(L M D:Nat):bJ:=(⟨_,by conv=>lhs;cbv⟩:bS (cE 15 [.tmp 2] [L,M,D] [0,255,1,2,4] 0xa81204194c2408020a0010c1838049c3eac0a0a41204010180243e0c42e1f0130301070fc0a4038039804810 [] [] [.Jg (.t 12) 1 none])).1
def me(D:Nat):bJ:=(⟨_,by conv=>lhs;cbv⟩:bS (cE 12 [.tmp 2] [D] [0,3,2] 0x29048106510902008c820c202f1838041c3e1c208405062f02098fa0cd91804810 [] [] [.Jg (.t 9) 7 none])).1
def nJ(D L:Nat):bJ:=(⟨_,by conv=>lhs;cbv⟩:bS (cE 9 [.cell 2 (some 5)] [D,L] [] 0xaa18a020218062170f838041c3ec282e004f10 [[.int .i64 0,.int .i64 0,.int .i64 0,.bool false,.bool false]] [] [.Jg (.t 5) 1 none])).1
def kW(D L:Nat):bJ:=(⟨_,by conv=>lhs;cbv⟩:bS (cE 9 [.tmp 2] [D,L] [0,255,4,3] 0x5309020ca412040102085c3e026060e01070fb0a0b01804810 [] [] [.Jg (.t 5) 2 none])).1
def lI(L M D O:Nat):bJ:=(⟨_,by conv=>lhs;cbv⟩:bS (cE 18 [.cell 2 (some 5)] [L,M,O] [0,255] 0xaa05caa7d240a8a6a4a2a040c240a27c405464e1f27009818b8041c3e3c8a44bf364402b1c0a06f020c62e1f07008387d90a097dec83a1a20 [[.int .i64 0,.int .i64 0,.int .i64 0,.bool false,.bool false]] [] [.Jg (.t 6) 2 none,.Jg (.t 11) 2 none,.vV (.func D) [] [.t 1]])).1
def mg(D L:Nat):bJ:=(⟨_,by conv=>lhs;ext y0;cbv⟩:bS λ(y0:List AV)=>cE 100 [.tmp 2] [D,L] [0,4,1,5] 0x5309020ca412040581440a0c5e04531f6e10e16004020202f185d1780803002084d013062f02098f870c18bc24008263e1c3406c2c0ae05062f024517f4c7c31860464608205062f02098f87082381418bc08263e1c2202f104a0474e1602bd045e0403651090200940d05fc7066c2fe3417f43f8269b0bff86e41fb613841da0c5e1580ce7c38b82b4e1602121f0642f0787c0c2828140bf8e08202f2817f90cd93f54234835418bc25019bf870b01021e1f182492517cf807c5e362f1f178b0bc7c5fa3e2f61b1788b0bc585c905fc371c0a06fa02e2fe3810f0f8b8bfc80b8bfb451805c5fd6fe605c5fd5062f02e2feaad37f15a222a0c5e1a814dfc395870b01a187121b64234435418bc25019bf870b01020202f182081418bc08263e1c2020e1f4e02117d9004810 [y0]).1 cI
def nK(D L:Nat):bJ:=(⟨_,by conv=>lhs;cbv⟩:bS (cE 9 [.cell 2 (some 5)] [D,L] [] 0xaa18a020218062170f838041c3ec282e004f10 [[.int .i64 0,.int .i64 0,.int .i64 0,.bool false,.bool false]] [] [.Jg (.t 5) 2 none])).1
def mh(L M D O:Nat):bJ:=(⟨_,by conv=>lhs;cbv⟩:bS (cE 22 [.tmp 2] [L,D,O] [0,255,5] 0x5209020ca01204012841c11d1fc482a91f2b4e16020844e1f013033e17825fa030800243170f8ba854097d401801c020e1f2a25f400181a20 [] [] [.Jg (.t 6) 3 none,.vV (.func M) [] [.t 1]])).1
def nL(L M D:Nat):bJ:=(⟨_,by conv=>lhs;cbv⟩:bS (cE 11 [.cell 2 (some 5)] [L,D] [255] 0x2aa29a928a81032817280888600a8c5c3e2e0030307008387d10926c83a1a20 [[.int .i64 0,.int .i64 0,.int .i64 0,.bool false,.bool false]] [] [.Jg (.t 5) 3 none,.vV (.func M) [] [.t 1]])).1
def oA(L M D:Nat):bJ:=(⟨_,by conv=>lhs;cbv⟩:bS (cE 17 [.cell 6 (some 5)] [M] [255] 0x1551cd8d4cc8c4c1d41b9404a0448301c10c1c3e006063c27c804c60e1f0700181e0b25d907497607b30 [[.int .i64 0,.int .i64 0,.int .i64 0,.bool false,.bool false]] [.fn (.func D) [] []] [.vV (.func L) [] [.t 5,.t 3]])).1
def mj(D:Nat):bJ:=(⟨_,by conv=>lhs;ext y0;cbv⟩:bS λ(y0:List AV)=>cE 13 [.tmp 2] [D] [0] 0xa0800847ee660ca080083446008043060821a66076bc0a06f01070fa4020004810 [y0]).1 cI
def oB(D:Nat):bJ:=(⟨_,by conv=>lhs;ext y0;cbv⟩:bS λ(y0:List AV)=>cE 34 [.cell 2 (some 11)] [D] [0] 0x16c0b9403040cb605cb61361550410283178104c7c384f8640128787f8e09be1ff20cc7f3f56234435418bc25019bf870b01020202f182081418bc08263ee40202f00600103418bc24008263e900c0604f10 [y0]).1 cI
def nM(D L:Nat):bJ:=(⟨_,by conv=>lhs;cbv⟩:bS (cE 25 [.tmp 6] [D,L] [0] 0x50c07e4206107e502213470bf2208203b02721023162f02298fe09f240bc12fc80bdf80088b8bc585e2a2f1417898bc485e222f1017f87fb722fac4301c040da40406204143a4003097607b30 [[.int .i64 0]] [] [.gy (.t 12) [.t 13,.t 19]])).1
def tw(D:Nat):bJ:=(⟨_,by conv=>lhs;cbv⟩:bS (cE 7 [.tmp 4] [D] [] 0xa1000206c2930983c7b20)).1
def mq(D L:Nat):bJ:=(⟨_,by conv=>lhs;cbv⟩:bS (cE 11 [.tmp 4] [D] [255] 0x508004a0f81051e087023070fc0c0b848810 [] [.fn (.func L) [] []])).1
def vq:bJ:=(⟨_,by conv=>lhs;cbv⟩:bS (cE 7 [.tmp 2] [] [0,1] 0xa080240062e0720a8004810 [] [] [.mm true [.t 3,.k (.int .i64 0)],.mm false [.t 4,.k (.int .i64 9999)]])).1
def oC(D L:Nat):bJ:=(⟨_,by conv=>lhs;cbv⟩:bS (cE 11 [.tmp 4] [D] [255] 0x508004a0f81051e087023070fc0c0b848810 [] [.fn (.func L) [] []])).1
def mu(D L:Nat):bJ:=(⟨_,by conv=>lhs;cbv⟩:bS (cE 9 [.tmp 4] [L] [0] 0x14200090c1c3e0e814450011005b20 [] [] [.vV (.func D) [] [.t 2]])).1
def ki(D:Nat):bJ:=(⟨_,by conv=>lhs;cbv⟩:bS (cE 15 [.tmp 5] [D] [1] 0xa141420e0840dcfe410dfcb15170d0102141f04022a0983c9b20)).1
def oD(D:Nat):bJ:=(⟨_,by conv=>lhs;cbv⟩:bS (cE 21 [.tmp 4] [D] [1,2] 0x16e6d6c4c2028471c1e4743f83080bef825a7c041ba7c3ab83c13e2c1ac4862902d0a14020430608044222fb2983c7b20 [] [] [.Jg (.t 16) 6 none])).1
def kX(D:Nat):bJ:=(⟨_,by conv=>lhs;cbv⟩:bS (cE 23 [.tmp 5] [D] [1] 0x142801cf1e8674f44f85080bf3c866bb8bc55008a0737f2e9a0b45385057010269fca073e0204283e08044242f0983c9b20)).1
def xq:bJ:=(⟨_,by conv=>lhs;cbv⟩:bS (cE 16 [.tmp 2] [] [1,2,3] 0x14102831c8862902d01e1403418e24314816850a010218304022e0981a20)).1
def lJ:bJ:=(⟨_,by conv=>lhs;cbv⟩:bS (cE 37 [.tmp 5] [] [1,2] 0x50a0a0870327f6e160340505fc701617f080bc505fe40505fda20505fd5b0c0282feb7f019402a8a4dfc3b5974d05a29c280408507c101088be62a2f00c00707120e93e17001b127160102141f0400222f3b0983c9b20)).1
def mw(D:Nat):bJ:=(⟨_,by conv=>lhs;cbv⟩:bS (cE 22 [.tmp 6] [D] [1] 0x50c0a10704206e7f2086fe4bca8f8680d08381080bdc8ba682d1a140204283e08044202f0983cbb20)).1
def qZ:bJ:=(⟨_,by conv=>lhs;cbv⟩:bS (cE 9 [.tmp 4] [] [1] 0x508002141f0400222250983c7b20)).1
def pX:bJ:=(⟨_,by conv=>lhs;cbv⟩:bS (cE 8 [.tmp 4] [] [1] 0x508002141f0402240983c7b20)).1
def kY(D L:Nat):bJ:=(⟨_,by conv=>lhs;cbv⟩:bS (cE 29 [.tmp 5] [D,L] [] 0x14545fc2a2f91517a8a8bd0545e0a14140485fc701317f10890bfb9fc090bfb461832dfda45e2a8045139bf874b2e5a5c34068471c28405f1e4335dc5e2a8045039bf974d05a302804040d852302fb2983c9b20)).1
end
end Go.Eng
