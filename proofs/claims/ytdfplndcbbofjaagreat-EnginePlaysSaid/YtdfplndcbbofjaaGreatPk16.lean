/- Part 16 of the engine and its library. -/
import Derived.Test.YtdfplndcbbofjaaGreatPk15
set_option linter.all false
set_option maxRecDepth 10000
set_option maxHeartbeats 4000000
namespace Go.Eng
open Go
section
open Z
def GQ:List AV:=(⟨_,by conv=>lhs;cbv⟩:bE (SS [(4,16)])).1
def mD(O M D g3 B L E V Z R A:Nat):bB:=(⟨_,by conv=>lhs;ext y0 y1;cbv⟩:bE λ(y0 y1:List AV)=>bH 57 [.tmp 4] [O,M,D,g3,B,L,E,V,Z,R,A] [0,1] 0xa10014702f32f9009009001cf1a1780c59644080203c38365f00cc34fb00bc31cf84756018269f7517bf039f01090f811219d45f1d2ea2f7e9c0751784728561b98054cc12c0559e16e17517c74c18bd7a641d45e0fca1586c60153304b0156785b85d45efd3062f5e382f8480b984b020268c28dc20585e04038070250206cb2204010243e044867517c74ba8bc890be0806ea2f1117f028c3c04cd062f4202f8203a8bfc3fc0a2ef0123418bcf41003028109a600c20c5f7c0a0af01034a02048810 [y1,y0]).1 bI iU
def mQ(Z O E g3 D B:Nat):bB:=⟨200,[.tmp 4],r [V 4 .bV] (r [V 5 .bV] (r [o 6 (.alloc GQ)] (r [V 7 (i 16)] (r [o 18 (.build [.bV,i 0,i 0,i 0,i 0,F] []),o 8 (.alloc [.bV,i 0,i 0,i 0,i 0,F]),n (s 8 18 6)] (j (r [V 9 (i 0)] (u 0 (.loop (j (r [M 19 9,M 20 0,o 21 (h 20),o 22 (b .lss 19 21),M 23 22,p 24 (m 9) 23,p 25 (bb .lss 24 (i 120)) 23,o 26 (P 23 25),M 27 26,p 28 (m 5) 27,p 29 (h 28) 27,p 30 (bb .lss 29 (i 1500)) 27,o 31 (P 27 30)] (c 31 z (.exit 0))) (j (u 1 (r [M 34 0,M 35 9,o 36 (a 34 35 1),o 37 (l 36),o 38 (.call Z [t 37,k (i 1099511627776)]),M 10 38] (r [M 39 10,o 40 (bb .quo 39 (i 16)),o 41 (bb .rem 40 (i 64)),M 11 41] (r [M 42 10,o 43 (bb .quo 42 (i 1024)),o 44 (bb .rem 43 (i 30)),o 45 (.bin .add (k (i 1)) (t 44)),M 12 45] (r [o 46 (.build [.bV,i 0,i 0,i 0,i 0,F] []),o 13 (.alloc [.bV,i 0,i 0,i 0,i 0,F]),n (s 13 46 6)] (j (r [M 47 10,o 48 (bb .rem 47 (i 16))] (u 2 (j (r [o 50 (bb .eql 48 (i 0)),M 49 50] (c 49 z (r [o 51 (bb .eql 48 (i 1)),M 49 51] (c 49 z (R [o 52 (bb .eql 48 (i 2)),M 49 52]))))) (c 49 (R [M 53 11,o 54 (bb .rem 53 (i 16)),M 55 11,o 56 (bb .rem 55 (i 16)),o 57 (A 6 56 16 1),o 58 (l 57),o 59 (.bin .sub (k (.float .f64 4626322717216342016)) (t 58)),o 60 (A 6 54 16 1),n (s 60 59 1)]) (r [o 62 (bb .eql 48 (i 3)),M 61 62] (c 61 (R [M 63 11,o 64 (bb .rem 63 (i 16)),o 65 (.call O []),o 66 (.call E [k (i 1)]),o 67 (.call g3 [k (.float .f64 0),k (.float .f64 13830554455654793216)]),o 68 (.build [.float .f64 0,.float .f64 0,.float .f64 0,.float .f64 0,.float .f64 0,.float .f64 0] [(0,1,t 65),(1,1,t 66),(2,1,t 67),(3,1,k (.float .f64 4613937818241073152)),(4,1,k (.float .f64 4711630319722168320)),(5,1,k (.float .f64 4604930618986332160))]),M 69 11,o 70 (bb .rem 69 (i 6)),o 71 (.KO (t 68) (t 70) 6 1 none),o 72 (A 6 64 16 1),n (s 72 71 1)]) (j (r [o 74 (bb .eql 48 (i 4)),M 73 74] (c 73 z (R [o 75 (bb .eql 48 (i 5)),M 73 75]))) (c 73 (R [M 76 10,o 77 (bb .quo 76 (i 1024)),o 78 (bb .rem 77 (i 256)),o 79 (f 13 1),n (s 79 78 1)]) (r [o 81 (bb .eql 48 (i 6)),M 80 81] (c 80 (R [o 82 (f 8 2),o 83 (l 82),M 84 11,o 85 (bb .rem 84 (i 4)),o 86 (.rm .u64 (t 85)),o 87 (.bin .shl (k (i 1)) (t 86)),o 88 (b .xor 83 87),o 89 (f 8 2),n (s 89 88 1)]) (r [o 91 (bb .eql 48 (i 7)),M 90 91] (c 90 (R [M 92 11,o 93 (bb .rem 92 (i 4)),o 94 (.rm .u64 (t 93)),o 95 (.bin .shl (k (i 1)) (t 94)),o 96 (f 13 3),n (s 96 95 1)]) (r [o 98 (bb .eql 48 (i 8)),M 97 98] (c 97 (R [o 99 (f 8 3),o 100 (l 99),M 101 11,o 102 (bb .rem 101 (i 4)),o 103 (.rm .u64 (t 102)),o 104 (.bin .shl (k (i 1)) (t 103)),o 105 (b .xor 100 104),o 106 (f 8 3),n (s 106 105 1)]) (r [o 108 (bb .eql 48 (i 9)),M 107 108] (c 107 (R [M 109 12,o 110 (bb .mul 109 (i 6)),M 12 110]) (r [o 112 (bb .eql 48 (i 10)),M 111 112] (c 111 (r [V 14 (i 0)] (u 3 (.loop (j (r [M 113 14,o 114 (bb .lss 113 (i 16))] (c 114 z (.exit 3))) (j (u 4 (R [M 117 14,M 118 11,o 119 (bb .rem 118 (i 2)),o 120 (bb .mul 119 (i 20)),o 121 (.Dw .f64 (t 120)),o 122 (A 6 117 16 1),n (s 122 121 1)])) (R [M 115 14,o 116 (bb .add 115 (i 1)),M 14 116])))))) (r [o 124 (bb .eql 48 (i 11)),M 123 124] (c 123 (R [M 125 11,o 126 (bb .rem 125 (i 17)),M 7 126]) (r [o 128 (bb .eql 48 (i 12)),M 127 128] (c 127 (r [o 129 (f 8 3),n (ss 129 (i 0) 1)] (R [V 7 (i 16)])) (r [o 131 (bb .eql 48 (i 13)),M 130 131] (c 130 (j (r [M 132 1,M 133 132,p 134 (m 11) 133,p 135 (bb .rem 134 (i 4)) 133,p 136 (bb .eql 135 (i 0)) 133,o 137 (P 133 136)] (c 137 (R [M 138 11,o 139 (.rm .u64 (t 138)),o 140 (.bin .shl (k (i 256)) (t 139)),o 141 (f 13 1),n (s 141 140 1)]) z)) (j (r [M 142 1,M 143 142,p 144 (m 11) 143,p 145 (bb .rem 144 (i 4)) 143,p 146 (bb .eql 145 (i 1)) 143,o 147 (P 143 146)] (c 147 (R [M 148 10,o 149 (bb .quo 148 (i 1024)),o 150 (bb .rem 149 (i 256)),o 151 (f 13 4),n (s 151 150 1)]) z)) (R [M 152 1,M 153 152,p 154 (m 11) 153,p 155 (bb .rem 154 (i 2)) 153,p 156 (bb .eql 155 (i 0)) 153,o 157 (P 153 156),o 158 (f 13 5),n (s 158 157 1)]))) z)))))))))))))))))))))))) (r [M 159 7,o 160 (.WG (t 6) 16 1 (t 159)),o 161 (.FQ D 1 8 (t 160) (t 6)),M 15 161] (r [V 16 (i 0)] (u 5 (.loop (j (r [M 162 16,M 163 12,o 164 (b .lss 162 163),M 165 164,p 166 (m 5) 165,p 167 (h 166) 165,p 168 (bb .lss 167 (i 1500)) 165,o 169 (P 165 168)] (c 169 z (.exit 5))) (j (u 6 (r [M 172 15,o 173 (f 8 2),o 174 (l 173),o 175 (f 8 3),o 176 (l 175),o 177 (.build [.bV,i 0,i 0,i 0,i 0,F] [(0,1,t 172),(2,1,t 174),(3,1,t 176)]),o 17 (.alloc [.bV,i 0,i 0,i 0,i 0,F]),n (s 17 177 6)] (j (r [M 178 16,o 179 (bb .eql 178 (i 0))] (c 179 (r [o 180 (f 13 1),o 181 (l 180),o 182 (f 17 1),n (s 182 181 1)] (r [o 183 (f 13 4),o 184 (l 183),o 185 (f 17 4),n (s 185 184 1)] (r [o 186 (f 17 3),o 187 (l 186),o 188 (f 13 3),o 189 (l 188),o 190 (b .or 187 189),o 191 (f 17 3),n (s 191 190 1)] (R [o 192 (f 13 5),o 193 (l 192),o 194 (f 17 5),n (s 194 193 1)])))) z)) (R [M 195 5,o 196 (L 17 6),o 197 (.SP B 6 [t 196]),o 198 (.app B 6 64 (t 195) (t 197)),M 5 198])))) (R [M 170 16,o 171 (bb .add 170 (i 1)),M 16 171]))))))))))))) (R [M 32 9,o 33 (bb .add 32 (i 1)),M 9 33])))))) (r [M 199 5,M 4 199] y))))))⟩
def ot(A:Nat):bB:=(⟨_,by conv=>lhs;cbv⟩:bE (bH 45 [.tmp 4] [A] [] 0x284050a382104c86d74179f4a05ae82f2e1403428e92cfe418dfdc85e7d28811bfb90bcb8500d0a39cb3fc0637f6a179f4a8046fed42f2e1403428e52cfec18dfd905e7d29811bfb20bcb8500d0a38cb3fa0637f60179f4a4046fec02f2e14020e601784831300bc24108a45e130b405b30 [] [] [.eqc [.i,.i,.i,.i,.i,.i,.i,.b,.b,.i,.i,.i,.i,.i,.i,.i,.i,.i,.i,.b,.b,.i,.i,.i,.i,.i,.i,.i,.i,.i,.i,.b,.b,.i,.i,.i,.i,.i,.i,.i,.i,.i,.i,.b,.b,.i,.i,.i,.i,.i,.i,.i,.i,.i,.i,.b,.b,.i,.i,.i,.i,.i,.i,.i,.i,.i,.i,.b,.b,.i,.i,.i,.i,.i,.i,.i,.i,.i,.i,.b,.b,.i,.i,.i,.i,.i,.i,.i,.i,.i,.i,.b,.b,.i,.i,.i] false (.t 6) (.t 8),.eqc [.i,.i,.i,.b] false (.t 12) (.t 14),.eqc [.i,.i,.i,.i,.i,.i] false (.t 19) (.t 21),.eqc [.i,.i,.i,.i,.i,.i,.i,.i] false (.t 26) (.t 28),.eqc [.i,.i] false (.t 33) (.t 35)])).1
def u6:bB:=(⟨_,by conv=>lhs;cbv⟩:bE (bH 12 [.cell 2 (some 4)] [] [] 0x2a0172809a09408e08206010c78810a88105881008a803a1a20 [[.bV,.int .i64 0,.int .i64 0,.int .i64 0]])).1
def ou(E D B L A:Nat):bB:=(⟨_,by conv=>lhs;ext y0 y1 y2;cbv⟩:bE λ(y0 y1 y2:List AV)=>bH 25 [.tmp 0] [E,D,B,L,A] [1,10,0] 0x14002861c085a3f809cc8121a3c82283fba8bcb91bfc18bc781bf80910a0f80999d45e3a180ea2fde053278091a0c5e3d280240ad02f1e2012188f871101022c1111088fa8081051822117917c1186a02ec1108821011a122c04500898111620c2705f400e8840810 [y1,y2,[.bV,.bV],y0,[.bV,.int .i64 0,.int .i64 0,.int .i64 0]] [.bV]).1 bI iU eN
def CY:bB:=(⟨_,by conv=>lhs;cbv⟩:bE (bH 2 [.tmp 0] [] [] 0x50000710060810 [] [.float .f64 0] [.xt .ffrom (.k (.int .u64 9221120237041090561))])).1
def CZ:bB:=(⟨_,by conv=>lhs;cbv⟩:bE (bH 8 [.tmp 2] [] [0] 0x141001c1806079a044b34088201010178d8480c7608064810 [] [.float .f64 0,.int .u64 0,.int .u64 9218868437227405312,.int .u64 18442240474082181120] [.xt .ffrom (.t 6)])).1
def qV:bB:=(⟨_,by conv=>lhs;cbv⟩:bE (bH 13 [.tmp 4] [] [] 0x284013819863c1462ec11e1030740c8068810 [] [.float .f64 0,.int .u64 9223372036854775808] [.xt .IJ (.t 5),.xt .IJ (.t 8),.xt .ffrom (.t 11)])).1
def lp:bB:=(⟨_,by conv=>lhs;cbv⟩:bE (bH 26 [.tmp 4] [] [0,1] 0xaa20402804800d7f87c062cb22040101ce12e0555e11e1709702aaf087111782405cc258101346140e1160403807018206cb2204010130614c10a460281c8810 [] [] [.eqc [.b,.i,.i,.i,.i,.i,.b] true (.t 20) (.t 24)])).1
end
section
variable (C:aY) (d:A7) (c:Ch) (f:Nat) (x:Option Nat)
def OW(x:Nat):Bool:=JG x 13920209183539462144&&IG x 4696837146684686336
def lvN(on:Bool) (dc:Int) (x:Nat):Bool×Int:=
 if OW x then(if JG x d.on then(true,0)else if IG x d.off then(false,0)else(on,0))else(on,bz dc)
def GR(on:Bool) (dc:Int):Option Nat->Bool×Int
 |some x=>lvN d on dc x
 |none=>(on,bz dc)
def xk(on:Bool) (dc:Int):Bool:=on||decide (dc>=3)
def dgE(Pk C9:Int) (b:Bool):Int×Int:=if b then(bz Pk,0)else(0,bz C9)
def OX(a b Pk C9:Int):Bool:=(decide (a>0)&&decide (Pk>=a))||(decide (b>0)&&decide (C9>=b))
def c9(n:Int):Int:=d7 n 0 9999
def RA(delay extend held tail:Int) (out b:Bool):Int×Int×Bool:=
 if !b&&(held==0&&(tail==0&&out==false))then(held,tail,out)
 else if(if b then bz held else 0)>c9 delay then((if b then bz held else 0),c9 extend,true)
 else if out&&decide (c9 tail>0)then((if b then bz held else 0),c9 tail-1,true)
 else((if b then bz held else 0),0,false)
def Kj(x:Nat):Int:=if Pj x then(tk x:Int)else 0
def Ff:Ch :=
  ⟨(GR d c.on c.dc x).1,(GR d c.on c.dc x).2,(dgE c.Pk c.C9 (xk (GR d c.on c.dc x).1 (GR d c.on c.dc x).2)).1,(dgE c.Pk c.C9 (xk (GR d c.on c.dc x).1 (GR d c.on c.dc x).2)).2,
   (RA (Kj d.delay) (Kj d.extend) c.held c.tail c.out (xk (GR d c.on c.dc x).1 (GR d c.on c.dc x).2)).1,(RA (Kj d.delay) (Kj d.extend) c.held c.tail c.out (xk (GR d c.on c.dc x).1 (GR d c.on c.dc x).2)).2.1,(RA (Kj d.delay) (Kj d.extend) c.held c.tail c.out (xk (GR d c.on c.dc x).1 (GR d c.on c.dc x).2)).2.2⟩
def aeA:Nat:=9221120237041090561
def tG(l:List Ch) (k:Nat):Ch:=l.getD k default
def BF(l:List (Option Nat)) (k:Nat):Option Nat:=l.getD k none
def iE(t:Tb) (l:List Ch) (x:List (Option Nat)) (n:Nat):List Ch:=(List.range n).map λk=>Ff (By t k) (tG l k) (BF x k)
def j4:List AV:=[fv x]
def u7:Bool:=c.out||(decide (c.dc>=3)||OX d.maxOn d.nV c.Pk c.C9)
def ga(t:Tb) (l:List Ch):Nat->Int
 |0=>0
 |k+1=>if u7 (By t k) (tG l k)then bJ (ga t l k) (By t k).phase else ga t l k
def iy.Spec:Prop:=∀n:Int,C.c f [I n] (I (bz n)) none
def u9.Spec:Prop:=∀(d:A7) (on:Bool) (dc:Int) (x:Option Nat),C.c f [.agg d.cells,.agg [B on,I dc],fv x] (.agg [B (GR d on dc x).1,I (GR d on dc x).2]) none
def pX.Spec:Prop:=∀(on:Bool) (dc:Int),C.c f [.agg [B on,I dc]] (B (decide (dc>=3))) none
def vc.Spec:Prop:=∀(on:Bool) (dc:Int),C.c f [.agg [B on,I dc]] (B (xk on dc)) none
def ve.Spec:Prop:=∀(a b:Int) (x:Bool),C.c f [.agg [I a,I b],B x] (.agg [I (dgE a b x).1,I (dgE a b x).2]) none
def o8.Spec:Prop:=∀(a b x y:Int),C.c f [I a,I b,.agg [I x,I y]] (B (OX a b x y)) none
def Kk.Spec:Prop:=∀n:Int,C.c f [I n] (I (c9 n)) none
def vf.Spec:Prop:=∀(a b held tail:Int) (out x:Bool),C.c f [I a,I b,.agg [I held,I tail,B out],B x] (.agg [I (RA a b held tail out x).1,I (RA a b held tail out x).2.1,B (RA a b held tail out x).2.2]) none
def Kl.Spec:Prop:=∀(l:Option (List Ch)) (k:Nat),(l.getD []).length<=1000000->C.c f [aI Ch.cells l,I k,.agg (Ch.cells default)] (.agg (tG (l.getD []) k).cells) none
def Km.Spec:Prop:=∀(l:Option (List (Option Nat))) (k:Nat),(l.getD []).length<=1000000->C.c f [aI j4 l,I k,.fm] (fv (BF (l.getD []) k)) none
def Ar.Spec:Prop:=∀x:Nat,x<2^64->C.c f [Fl x] (I (Kj x)) none
def LW.Spec:Prop:=C.c f [] .fm none
end
section
variable{P:Program} (hm:P.follows .mixedOrders=true) {f:Nat}
include hm
theorem iy.ok(B:bu P f=some xh):iy.Spec (Pure P) f:=by
 intro n
 have A:=Ry n
 refine aj hm B [] rfl ?_;try simp only[I,RX,↓KW,seval,xh,Z.H]
 rw[A];rfl
theorem Ze.ok(B:bu P f=some Ab):iy.Spec (Pure P) f:=by
 intro n
 have A:=Ry n
 refine aj hm B [] rfl ?_;try simp only[I,RX,↓KW,seval,Ab,Z.H]
 rw[A];rfl
theorem Kk.ok(B:bu P f=some Ad):Kk.Spec (Pure P) f:=by
 intro n
 have A:=Ry n
 refine aj hm B [] rfl ?_;try simp only[I,RX,↓KW,seval,Ad,Z.H]
 rw[A];rfl
theorem LW.ok(A:bu P f=some CY):LW.Spec (Pure P) f:=by
 show(Pure P).c f [] .fm none
 refine YS (n:=aeA) (by decide+kernel) ?_
 refine aj hm A [] rfl ?_;try simp only[RX,↓KW,seval,CY,Z.H]
 all_goals rfl
theorem Ar.ok{A:Nat} (D:bu P f=some (sZ A)) (hS:EA.Spec (Pure P) A):Ar.Spec (Pure P) f:=by
 intro x E;refine aj hm D [] rfl ?_;try simp only[I,RX,↓KW,seval,sZ,Z.H]
 refine af (hS x E) ?_;try simp only[I,B,RX,↓KW,seval,Bv]
 rfl
theorem pX.ok(A:bu P f=some ta):pX.Spec (Pure P) f:=by
 intro on dc;refine aj hm A [] rfl ?_;try simp only[I,B,RX,↓KW,seval,ta,Z.H]
 try rfl
theorem vc.ok{A:Nat} (D:bu P f=some (w7 A)) (hF:pX.Spec (Pure P) A):vc.Spec (Pure P) f:=by
 intro on dc;refine aj hm D [] rfl ?_;try simp only[I,B,RX,↓KW,seval,w7,Z.H]
 cases on
 ·try simp only[RX,↓KW,seval]
  refine af (hF false dc) ?_;try simp only[B,RX,↓KW,seval]
  simp[xk]
 ·try simp only[RX,↓KW,seval]
  simp[xk]
theorem u9.ok{M:Nat} (hc:bu P f=some (pW M)) (R:iy.Spec (Pure P) M):u9.Spec (Pure P) f:=by
 intro d on dc x
 have O:d.cells[1]? =some (Fl d.on)/\d.cells[2]? =some (Fl d.off):=⟨rfl,rfl⟩
 cases x with
 |none=>
  have hE:GR d on dc none=(on,bz dc):=rfl
  rw[hE]
  show(Pure P).c f [.agg d.cells,.agg [B on,I dc],.fm] _ none
  refine aj hm hc [] rfl ?_;try simp only[I,B,RX,↓KW,seval,pW,Z.H,NAN,Ik]
  refine af (R _) ?_;try simp only[I,RX,↓KW,seval]
 |some x=>
  show(Pure P).c f [.agg d.cells,.agg [B on,I dc],Fl x] _ none
  have hE:GR d on dc (some x)=if JG x 13920209183539462144&&IG x 4696837146684686336 then(if JG x d.on then(true,0)else if IG x d.off then(false,0)else(on,0))else(on,bz dc):=rfl
  generalize GR d on dc (some x)=res at*;refine aj hm hc [] rfl ?_;try simp only[I,B,RX,↓KW,seval,pW,Z.H,F1]
  cases V:JG x 13920209183539462144<;>cases A:IG x 4696837146684686336<;>cases L:JG x d.on<;>cases E:IG x d.off<;>rw[V,A,L,E]at hE
  all_goals try simp only[RX,↓KW,seval,A,L,E,F1,O]
  all_goals try simp only[I,B,D,RX,↓KW,seval,V,A,L,E,F1,O]
  all_goals(try(refine af (R _) ?_))
  all_goals try simp only[I,RX,↓KW,seval]
  all_goals(rw[hE];rfl)
theorem ve.ok{D:Nat} (E:bu P f=some (z8 D)) (A:iy.Spec (Pure P) D):ve.Spec (Pure P) f:=by
 intro a b x;refine aj hm E [] rfl ?_;try simp only[I,B,RX,↓KW,seval,z8,Z.H]
 cases x
 ·try simp only[RX,↓KW,seval]
  refine af (A _) ?_;try simp only[I,RX,↓KW,seval]
  rfl
 ·try simp only[RX,↓KW,seval]
  refine af (A _) ?_;try simp only[I,RX,↓KW,seval]
  rfl
theorem o8.ok(O:bu P f=some xd):o8.Spec (Pure P) f:=by
 intro a b x y;refine aj hm O [] rfl ?_;try simp only[I,B,RX,↓KW,seval,xd,Z.H]
 cases M:decide (a>0)<;>cases A:decide (x>=a)<;>cases L:decide (b>0)<;>cases E:decide (y>=b)<;>
 (try simp only[RX,↓KW,seval,A,L,E];try(try simp only[I,B,D,RX,↓KW,seval,M,A,L,E]);simp[OX,M,A,L,E])
end
section
variable{P:Program} (hm:P.follows .mixedOrders=true) {f:Nat}
include hm
theorem vf.ok{fC:Nat} (hc:bu P f=some (xb fC)) (hC:Kk.Spec (Pure P) fC):vf.Spec (Pure P) f:=by
 intro a b held tail out x
 have hE:RA a b held tail out x=if(!x&&(held==0&&(tail==0&&out==false)))=true then(held,tail,out)
  else if decide ((if x then bz held else 0)>c9 a)=true then((if x then bz held else 0),c9 b,true)
  else if(out&&decide (c9 tail>0))=true then((if x then bz held else 0),c9 tail-1,true)
  else((if x then bz held else 0),0,false):=by simp only[RA,gc]
 have V:IntKind.i64.wrap (c9 held+1)=bz held:=by
  have:0<=c9 held/\c9 held<=9999:=by unfold c9 d7;split<;>(try split)<;>omega
  rfl
 have R:IntKind.i64.wrap (c9 tail-1)=c9 tail-1:=by
  have:0<=c9 tail/\c9 tail<=9999:=by unfold c9 d7;split<;>(try split)<;>omega
  rw[aU ST ST]
 generalize RA a b held tail out x=res at*;refine aj hm hc [] rfl ?_;try simp only[I,B,D,RX,↓KW,seval,xb,Z.H]
 have qe:cU [.i,.i,.b] [.int .i64 held,.int .i64 tail,.bool out] [.int .i64 0,.int .i64 0,.bool false]=some (held==0&&(tail==0&&out==false)):=by
  simp[cU,ru]
 have qf:(false !=false)=false:=rfl
 have qt:(true !=false)=true:=rfl
 rcases bc x with L|L
 ·try simp only[I,B,D,RX,↓KW,seval,L,qe]
  rcases bc (held==0&&(tail==0&&out==false))with O|O
  ·try simp only[I,B,D,RX,↓KW,seval,O,qf]
   refine af (hC _) ?_;try simp only[I,B,D,RX,↓KW,seval]
   refine af (hC _) ?_;try simp only[I,B,D,RX,↓KW,seval]
   rcases bc (decide (0>c9 a))with A|A
   ·try simp only[I,B,D,RX,↓KW,seval,A]
    rcases bc out with E|E
    ·try simp only[I,B,D,RX,↓KW,seval,E]
     rw[hE,L,O];simp only[A,E,fx,gs,kt,mn,pA,nd,ev,kh,ib]
    ·try simp only[I,B,D,RX,↓KW,seval,E]
     rcases bc (decide (c9 tail>0))with M|M
     ·try simp only[I,B,D,RX,↓KW,seval,M]
      rw[hE,L,O];simp only[A,E,M,fx,gs,kt,mn,pA,nd,ev,kh,ib]
     ·try simp only[I,B,D,RX,↓KW,seval,M,R]
      rw[hE,L,O];simp only[A,E,M,fx,gs,kt,mn,pA,nd,ev,kh,ib]
   ·try simp only[I,B,D,RX,↓KW,seval,A]
    refine af (hC b) ?_;try simp only[I,B,D,RX,↓KW,seval]
    rw[hE,L,O];simp only[A,fx,gs,kt,mn,pA,nd,ev,kh,ib]
  ·try simp only[I,B,D,RX,↓KW,seval,O,qt]
   rw[hE,L,O];rfl
 ·try simp only[I,B,D,RX,↓KW,seval,L]
  refine af (hC _) ?_;try simp only[I,B,D,RX,↓KW,seval,V]
  refine af (hC _) ?_;try simp only[I,B,D,RX,↓KW,seval,V]
  refine af (hC _) ?_;try simp only[I,B,D,RX,↓KW,seval,V]
  rcases bc (decide (bz held>c9 a))with A|A
  ·try simp only[I,B,D,RX,↓KW,seval,A]
   rcases bc out with E|E
   ·try simp only[I,B,D,RX,↓KW,seval,E]
    rw[hE,L];simp only[A,E,fx,gs,kt,mn,pA,nd,ev,kh,ib]
   ·try simp only[I,B,D,RX,↓KW,seval,E]
    rcases bc (decide (c9 tail>0))with M|M
    ·try simp only[I,B,D,RX,↓KW,seval,M]
     rw[hE,L];simp only[A,E,M,fx,gs,kt,mn,pA,nd,ev,kh,ib]
    ·try simp only[I,B,D,RX,↓KW,seval,M,R]
     rw[hE,L];simp only[A,E,M,fx,gs,kt,mn,pA,nd,ev,kh,ib]
  ·try simp only[I,B,D,RX,↓KW,seval,A]
   refine af (hC b) ?_;try simp only[I,B,D,RX,↓KW,seval]
   rw[hE,L];simp only[A,fx,gs,kt,mn,pA,nd,ev,kh,ib]
theorem Km.ok(R:bu P f=some mu):Km.Spec (Pure P) f:=by
 intro l k V
 have O:∀x,j4 x=[fv x]:=λ_=>rfl
 refine aj hm R [] rfl ?_;try simp only[I,B,D,RX,↓KW,seval,mu,Z.H,Ik]
 rcases bc (decide ((k:Int)<((l.getD []).length:Int)))with h|h
 ·have E:(l.getD []).length<=k:=by have:=dE h;omega
  have A:BF (l.getD []) k=none:=by simp[BF,E]
  try simp only[I,B,D,RX,↓KW,seval,h]
  rw[A];rfl
 ·have E:k<(l.getD []).length:=by have:=dC h;omega
  obtain⟨x,L⟩:∃x,(l.getD [])[k]? =some x:=⟨_,dT E⟩
  have A:BF (l.getD []) k=x:=by rw[BF,eh,L];rfl
  have M:0<=(k:Int)/\(k:Int)<((l.getD []).length:Int):=ST
  try simp only[I,B,D,RX,↓KW,seval,h,L,M,O]
  rw[A]
end
def vg.Spec(C:aY) (f:Nat):Prop:=∀(t:Tb) (l:Option (List Ch)) (x:Option (List (Option Nat))),t.Ok->t.Fw->(l.getD []).length<=1000000->(x.getD []).length<=1000000->C.c f [.agg t.cells,aI Ch.cells l,aI j4 x] (aI Ch.cells (dJ (iE t (l.getD []) (x.getD []) (t.aL.getD []).length))) none
section
variable{P:Program} (hm:P.follows .mixedOrders=true) {f:Nat}
include hm
theorem Kl.ok(hc:bu P f=some jB):Kl.Spec (Pure P) f:=by
 intro l k hl
 have O:(Ch.cells default).length=7:=rfl
 have A:aF (Ch.cells default) 0 (some 7)=some (.agg (Ch.cells default)):=rfl
 have R:∀x:Ch,x.cells.length=7/\aF x.cells 0 (some 7)=some (.agg x.cells)/\x.cells.take 7=x.cells:=λ_=>⟨rfl,rfl,rfl⟩
 refine aj hm hc [] rfl ?_;try simp only[I,B,D,RX,↓KW,seval,jB,Z.H,O,A]
 rcases bc (decide ((k:Int)<((l.getD []).length:Int)))with h|h
 ·have L:(l.getD []).length<=k:=by have:=dE h;omega
  have E:tG (l.getD []) k=default:=by simp[tG,L]
  try simp only[I,B,D,RX,↓KW,seval,h,O,A]
  rw[E]
 ·have L:k<(l.getD []).length:=by have:=dC h;omega
  obtain⟨x,M⟩:∃x,(l.getD [])[k]? =some x:=⟨_,dT L⟩
  have E:tG (l.getD []) k=x:=by rw[tG,eh,M];rfl
  have V:0<=(k:Int)/\(k:Int)<((l.getD []).length:Int):=ST
  try simp only[I,B,D,RX,↓KW,seval,h,M,V,R]
  rw[E]
theorem vg.ok{fA fN fF fL fS fG fT fY e:Nat} (hc:bu P f=some (oh fA fN fF fL fS fG fT fY e)) (hA:Kl.Spec (Pure P) fA) (hN:LW.Spec (Pure P) fN) (hF:Km.Spec (Pure P) fF) (hL:u9.Spec (Pure P) fL) (hS:vc.Spec (Pure P) fS) (hG:ve.Spec (Pure P) fG) (hT:Ar.Spec (Pure P) fT) (hY:vf.Spec (Pure P) fY):vg.Spec (Pure P) f:=by
 intro t l x V ae ac ab
 have hl:=Tb.len V
 have hd:=V.ln.JA
 have al:=V.UP
 refine aj hm hc [] rfl ?_;try simp only[I,B,D,RX,↓KW,seval,oh,Z.H,hl,hd]
 refine aD (λk:Nat=>(⟨[(16,.dat (I k) none),(15,.dat (I (t.aL.getD []).length) none),(14,.dat (aI A7.cells t.aL) none),(1,.dat (aI Ch.cells l) none),(2,.dat (aI j4 x) none),(7,aZ Ch.cells (iE t (l.getD []) (x.getD []) k) 0)],[],bA (iE t (l.getD []) (x.getD []) k) 0 e,400⟩:S)) (λk=>(t.aL.getD []).length-k) (λk=>k<=(t.aL.getD []).length) ?_ 0 ST ?_
 ·intro k hk A back
  have ak:=aA (k:=k) ST
  have O:iE t (l.getD []) (x.getD []) (k+1)=iE t (l.getD []) (x.getD []) k++[Ff (By t k) (tG (l.getD []) k) (BF (x.getD []) k)]:=by simp[iE,io]
  try simp only[I,B,D,RX,↓KW,seval]
  rcases bc (decide ((k:Int)<((t.aL.getD []).length:Int)))with h|h
  ·have ad:k=(t.aL.getD []).length:=by have:=dE h;omega
   subst ad
   by_cases E:iE t (l.getD []) (x.getD []) (t.aL.getD []).length=[]
   ·try simp only[I,B,D,RX,↓KW,seval,h,aZ,bA,E]
    rfl
   ·try simp only[I,B,D,RX,↓KW,seval,h,aZ,bA,E]
    simp[aI,dJ,E]
  ·have h1:k<(t.aL.getD []).length:=by have:=dC h;omega
   obtain⟨d,hx⟩:∃d,(t.aL.getD [])[k]? =some d:=⟨_,dT h1⟩
   have aa:By t k=d:=by rw[By,eh,hx];rfl
   have M:d.Fw:=ae d (em hx)
   have hy:0<=(k:Int)/\(k:Int)<((t.aL.getD []).length:Int):=ST
   have L:d.cells.length=7/\aF d.cells 0 (some 7)=some (.agg d.cells)/\d.cells.take 7=d.cells/\d.cells[3]? =some (Fl d.delay)/\d.cells[4]? =some (Fl d.extend):=⟨rfl,rfl,rfl,rfl,rfl⟩
   have hz:∀y:List AV,y.length=7->setCells [.int .i64 0,.float .f64 0,.float .f64 0,.float .f64 0,.float .f64 0,.int .i64 0,.int .i64 0] 0 y=y:=by intro y hy;exact eI (by rw[hy];rfl)
   generalize ag:iE t (l.getD []) (x.getD []) k=cs at*
   obtain⟨c,R⟩:∃c,tG (l.getD []) k=c:=⟨_,rfl⟩
   obtain⟨v,hv⟩:∃v,BF (x.getD []) k=v:=⟨_,rfl⟩
   have cA:=hA l k ac
   have cF:=hF x k ab
   rw[R]at cA;rw[hv]at cF;rw[aa,R,hv]at O
   by_cases E:cs=[]
   all_goals
    try simp only[I,B,D,RX,↓KW,seval,aZ,bA,E,h,hx,hy,L]
    refine af cA ?_;try simp only[I,B,D,RX,↓KW,seval,Ch.cells,L]
    refine af hN ?_;try simp only[I,B,D,RX,↓KW,seval,Ch.cells,L]
    refine af cF ?_;try simp only[I,B,D,RX,↓KW,seval,Ch.cells,L]
    refine af (hL d c.on c.dc v) ?_;try simp only[I,B,D,RX,↓KW,seval,Ch.cells,L]
    refine af (hS _ _) ?_;try simp only[I,B,D,RX,↓KW,seval,Ch.cells,L]
    refine af (hG _ _ _) ?_;try simp only[I,B,D,RX,↓KW,seval,Ch.cells,L]
    refine af (hT d.delay (by obtain⟨_,_,h,_⟩:=M;exact h)) ?_
    try simp only[I,B,D,RX,↓KW,seval,Ch.cells,L]
    refine af (hT d.extend (by obtain⟨_,_,_,h⟩:=M;exact h)) ?_
    try simp only[I,B,D,RX,↓KW,seval,Ch.cells,L]
    refine af (hY _ _ _ _ _ _) ?_;try simp only[I,B,D,RX,↓KW,seval,Ch.cells,L]
    first
     |refine back (k+1) _ ST ST ?_
     |(have am:cs.length=k:=by{rw[<-ag];simp[iE]}
       refine⟨ST,back (k+1) _ ST ST ?_⟩)
    refine ai Ts ?_ ?_ ?_ ?_<;>simp[LX,I,B,D,O,E,ak,aZ,bA,Ff,Ch.cells]
 ·refine ai Ts ?_ ?_ ?_ ?_<;>simp[LX,I,B,D,aZ,bA,iE]
end
def tj(t:Tb) (l:List Ch):Nat:=min l.length (t.aL.getD []).length
def vh.Spec(C:aY) (f:Nat):Prop:=∀(t:Tb) (l:Option (List Ch)),t.Ok->(l.getD []).length<=1000000->C.c f [.agg t.cells,aI Ch.cells l] (I (ga t (l.getD []) (tj t (l.getD [])))) none
section
variable{P:Program} (hm:P.follows .mixedOrders=true) {f:Nat}
include hm
theorem vh.ok{fF fS fW:Nat} (hc:bu P f=some (uP fF fS fW)) (hF:pX.Spec (Pure P) fF) (hS:o8.Spec (Pure P) fS) (hW:iq.Spec (Pure P) fW):vh.Spec (Pure P) f:=by
 intro t l ht ae
 have hl:=Tb.len ht
 have hd:=ht.ln.JA
 have ak:=ht.UP
 refine aj hm hc [] rfl ?_;try simp only[I,B,D,RX,↓KW,seval,uP,Z.H,hl,hd]
 refine aD (λk:Nat=>(⟨[(11,.dat (I k) none),(10,.dat (I (l.getD []).length) none),(9,.dat (aI Ch.cells l) none),(2,.ptr 4 0),(5,.dat (I (ga t (l.getD []) k)) none)],[(4,⟨t.cells,[]⟩)],[],400⟩:S)) (λk=>(l.getD []).length-k) (λk=>k<=(l.getD []).length/\k<=(t.aL.getD []).length) ?_ 0 ST ?_
 ·rintro k ⟨hk,ag⟩ A back
  have M:=aA (k:=k) ST
  try simp only[I,B,D,RX,↓KW,seval]
  rcases bc (decide ((k:Int)<((l.getD []).length:Int)))with h|h
  ·have O:tj t (l.getD [])=k:=by have:=dE h;unfold tj;omega
   try simp only[I,B,D,RX,↓KW,seval,h]
   rw[O]
  ·have h1:k<(l.getD []).length:=by have:=dC h;omega
   obtain⟨c,hx⟩:∃c,(l.getD [])[k]? =some c:=⟨_,dT h1⟩
   have ad:tG (l.getD []) k=c:=by rw[tG,eh,hx];rfl
   have hy:0<=(k:Int)/\(k:Int)<((l.getD []).length:Int):=ST
   try simp only[I,B,D,RX,↓KW,seval,h,hx,hy,hd,Ch.cells]
   rcases bc (decide (((t.aL.getD []).length:Int)<=(k:Int)))with V|V
   ·have h3:k<(t.aL.getD []).length:=by have:=dE V;omega
    obtain⟨d,aa⟩:∃d,(t.aL.getD [])[k]? =some d:=⟨_,dT h3⟩
    have ab:By t k=d:=by rw[By,eh,aa];rfl
    have ac:0<=(k:Int)/\(k:Int)<((t.aL.getD []).length:Int):=ST
    have L:d.cells.length=7/\aF d.cells 0 (some 7)=some (.agg d.cells)/\d.cells.take 7=d.cells/\d.cells[0]? =some (I d.phase)/\d.cells[5]? =some (I d.maxOn)/\d.cells[6]? =some (I d.nV):=⟨rfl,rfl,rfl,rfl,rfl,rfl⟩
    have hE:ga t (l.getD []) (k+1)=if u7 d c then bJ (ga t (l.getD []) k) d.phase else ga t (l.getD []) k:=by rw[ga,ab,ad]
    try simp only[I,B,D,RX,↓KW,seval,V,aa,ac,hd,L]
    rcases bc c.out with a1|a1
    ·try simp only[I,B,D,RX,↓KW,seval,a1,Ch.cells,L]
     refine af (hF c.on c.dc) ?_;try simp only[I,B,D,RX,↓KW,seval,Ch.cells,L]
     rcases bc (decide (c.dc>=3))with R|R
     ·try simp only[I,B,D,RX,↓KW,seval,R,Ch.cells,L]
      refine af (hS d.maxOn d.nV c.Pk c.C9) ?_;try simp only[I,B,D,RX,↓KW,seval,Ch.cells,L]
      rcases bc (OX d.maxOn d.nV c.Pk c.C9)with a3|a3
      ·try simp only[I,B,D,RX,↓KW,seval,a3,Ch.cells,L]
       have E:ga t (l.getD []) (k+1)=ga t (l.getD []) k:=by rw[hE];simp only[u7,a1,R,a3,wn,ev,ib]
       refine back (k+1) _ ST ST ?_
       refine ai Ts ?_ ?_ ?_ ?_<;>simp[LX,I,B,D,M,E]
      ·try simp only[I,B,D,RX,↓KW,seval,a3,Ch.cells,L]
       have E:ga t (l.getD []) (k+1)=bJ (ga t (l.getD []) k) d.phase:=by rw[hE];simp only[u7,a1,R,a3,wi,ti,wn,nz,kh]
       refine af (hW _ _) ?_;try simp only[I,B,D,RX,↓KW,seval]
       refine back (k+1) _ ST ST ?_
       refine ai Ts ?_ ?_ ?_ ?_<;>simp[LX,I,B,D,M,E]
     ·try simp only[I,B,D,RX,↓KW,seval,R,Ch.cells,L]
      have E:ga t (l.getD []) (k+1)=bJ (ga t (l.getD []) k) d.phase:=by rw[hE];simp only[u7,a1,R,wi,ti,wn,nz,kh]
      refine af (hW _ _) ?_;try simp only[I,B,D,RX,↓KW,seval]
      refine back (k+1) _ ST ST ?_
      refine ai Ts ?_ ?_ ?_ ?_<;>simp[LX,I,B,D,M,E]
    ·try simp only[I,B,D,RX,↓KW,seval,a1,Ch.cells,L]
     have E:ga t (l.getD []) (k+1)=bJ (ga t (l.getD []) k) d.phase:=by rw[hE];simp only[u7,a1,wi,ti,wn,nz,kh]
     refine af (hW _ _) ?_;try simp only[I,B,D,RX,↓KW,seval]
     refine back (k+1) _ ST ST ?_
     refine ai Ts ?_ ?_ ?_ ?_<;>simp[LX,I,B,D,M,E]
   ·have O:tj t (l.getD [])=k:=by have:=dC V;unfold tj;omega
    try simp only[I,B,D,RX,↓KW,seval,V]
    rw[O]
 ·refine ai Ts ?_ ?_ ?_ ?_<;>simp[LX,I,B,D,ga]
end
section
variable (t:Tb) (s:Pr) (C:aY) (lines:Int) (f:Nat) (l:List Rn)
def BG:Pr:=if s.aq<0\/6<=s.aq then{s with aq:=0}else s
def Vk:Pr:=BG (bG t s lines)
def cQ:Bool:=decide (aK t s>=0)&&(s.aq==0||(s.aq==5||decide (aK t s<s.which)))
def ay:Int×Pr:=
 if s.aq=0 then(0,s)else if s.aq=1 then(jG t s l,s)else if s.aq=2 then(kJ t s,s)
 else if s.aq=3 then(gZ t s l,s)else if s.aq=4 then d9 t s else(gF t s l,s)
def lq(to:Int):Ac:=
 if to=0 then⟨0,0,0,true,false⟩else if to=1 then kI t s l else if to=2 then Ru t s l
 else if to=3 then EU t s l else if to=4 then Rv t s l else LO t s l
def gR(to was:Int):Pr:={s with aq:=to,time:=kZ t {s with aq:=to} l (to !=was)}
def ji:Pr×Ac:=
 if cQ t s then({s with aq:=1,which:=aK t s,time:=0},kI t {s with aq:=1,which:=aK t s,time:=0} l)
 else if s.aq=5/\(ay t s l).1=0 then({(ay t s l).2 with aq:=0,which:=0,time:=0},jh t (ay t s l).2 l)
 else(gR t (ay t s l).2 l (ay t s l).1 s.aq,lq t (gR t (ay t s l).2 l (ay t s l).1 s.aq) l (ay t s l).1)
def i5:Pr×Ac:=ji t (Vk t s lines) l
def Ko.Spec:Prop:=∀(t:Tb) (s:Pr) (lines:Int) (l:List Rn),mq t s l->C.c f [.agg t.cells,.agg s.cells,I lines,.agg (aQ l)] (.dF [.agg (i5 t s lines l).1.cells,.agg (i5 t s lines l).2.cells]) none
def As.Spec:Prop:=∃n:List AV,n.length=12/\jO (.agg n)=false/\C.c f [] (.agg n) none/\
 (∀k:Nat,k<6->∃g,n[k*2]? =some (.fn (.func g) [] [])/\∀t s l,mq t s l->s.aq=k->C.p g [dw t s l] [none] (I (ay t s l).1) none [dw t (ay t s l).2 l])/\
 (∀k:Nat,k<6->∃g,n[k*2+1]? =some (.fn (.func g) [] [])/\∀t s l,mq t s l->C.c g [.ref (dw t s l)] (.agg (lq t s l k).cells) none)
theorem BH{t:Tb} {s:Pr} (h:s.held.length=4):(dD t s).held.length=4:=by unfold dD;split<;>exact h
theorem yJ{t:Tb} {s:Pr} (h:s.held.length=4):(d9 t s).2.held.length=4:=by
 unfold d9;split
 ·exact h
 ·split<;>exact BH h
theorem mE{t:Tb} {s:Pr} {l:List Rn} (h:s.held.length=4):(ay t s l).2.held.length=4:=by
 unfold ay
 repeat' split
 all_goals first|exact h|exact yJ h
theorem j5:0<=(ay t s l).1/\(ay t s l).1<6:=by
 simp only[ay,jG,kJ,gZ,d9,gF]
 repeat' split
 all_goals(simp only[];omega)
end
section
variable{t:Tb} {s:Pr} {l:List Rn} (h:mq t s l)
include h
section
variable (x:Int)
theorem RB:(dw t s l)[131]? =some (I s.aq)/\(dw t s l)[132]? =some (I s.which)/\(dw t s l)[133]? =some (I s.time)/\(dw t s l)[138]? =some (I s.bF)/\aF (dw t s l) 131 (some 8)=some (.agg s.cells):=by
 have e:∀j,(dw t s l)[131+j]? =(BA s l)[j]?:=λj=>by
  rw[<-qN h,lh]
 obtain⟨E,A,B,D⟩:=Nk h;rw[lh]at A B D;refine⟨(e 0).trans E,(e 1).trans A,(e 2).trans B,(e 7).trans D,?_⟩;exact iB (Tb.len h.t) (Pr.len h.s)
theorem Zf{k:Nat} (hk:k<4):(dw t s l)[134+k]? =some (I (dN s k)):=by
 have:=acI h hk
 rw[<-qN h,xf,xf,lh,show 131+(3+k)+0=134+k by omega]at this
 exact this
theorem Dn{j:Nat} {ps:List AV} (B:j+ps.length<=8):setCells (dw t s l) (131+j) ps=t.cells++(setCells s.cells j ps++aQ l):=by
 have A:=Tb.len h.t
 have D:=Pr.len h.s
 rw[dw,bW ST,A,Nat.add_sub_cancel_left,BA,Ep ST]
theorem Zg:setCells (dw t s l) 131 [I x]=dw t {s with aq:=x} l:=Dn h (j:=0) (ps:=[I x]) TB
theorem RC:setCells (dw t s l) 132 [I x]=dw t {s with which:=x} l:=Dn h (j:=1) (ps:=[I x]) TB
theorem Zh:setCells (dw t s l) 133 [I x]=dw t {s with time:=x} l:=Dn h (j:=2) (ps:=[I x]) TB
theorem Zi:setCells (dw t s l) 138 [I x]=dw t {s with bF:=x} l:=by
 rw[show(138:Nat)=131+7 from rfl,Dn h TB]
 have e:setCells s.cells 7 [I x]=({s with bF:=x}:Pr).cells:=by rw[Pr.cells,Pr.cells,gD h.s];rfl
 rw[e];rfl
theorem eu{u:Pr} (A:u.held.length=4):mq t u l:=⟨h.t,A,h.l⟩
end
end
theorem RD{t:Tb} {s:Pr} {l:List Rn} (h:mq t s l) {z:List AV} (E:z.length=235):
  List.take 139 (List.take 131 (t.cells++List.drop 131 z)++s.cells++List.drop 139 (t.cells++List.drop 131 z))++aQ l++List.drop 235 (List.take 131 (t.cells++List.drop 131 z)++s.cells++List.drop 139 (t.cells++List.drop 131 z))=dw t s l:=by
 have B:=Tb.len h.t
 have D:=Pr.len h.s
 have a1:List.take 131 (t.cells++List.drop 131 z)=t.cells:=by rw[If B]
 have A:List.take 139 (t.cells++s.cells++List.drop 139 (t.cells++List.drop 131 z))=t.cells++s.cells:=by rw[If (by simp;omega)]
 rw[a1,A,yi (by simp;omega),py,List.append_assoc];rfl
section
variable{P:Program} (hm:P.follows .mixedOrders=true) {f:Nat}
include hm
theorem As.ok{a0 M a1 D a2 b2 O L V b4 R E:Nat} (hc:bu P f=some (oZ a0 M a1 D a2 b2 O L V b4 R E))
  (h0:J6.Spec (Pure P) a0) (k0:J7.Spec (Pure P) M) (h1:zW.Spec (Pure P) a1) (k1:BC.Spec (Pure P) D) (h2:zX.Spec (Pure P) a2) (k2:EY.Spec (Pure P) b2)
  (h3:qS.Spec (Pure P) O) (k3:uL.Spec (Pure P) L) (h4:zY.Spec (Pure P) V) (k4:EZ.Spec (Pure P) b4) (h5:zZ.Spec (Pure P) R) (k5:E0.Spec (Pure P) E):As.Spec (Pure P) f:=by
 refine⟨[a0,M,a1,D,a2,b2,O,L,V,b4,R,E].map λk=>.fn (.func k) [] [],rfl,rfl,?_,?_,?_⟩
 ·refine aj hm hc [] rfl ?_
  try simp only[RX,↓KW,seval,oZ,Z.H]
  exact⟨rfl,Ts,rfl⟩
 ·intro k hk
  have e:k=0\/k=1\/k=2\/k=3\/k=4\/k=5:=ST
  have B:∀{g:Nat} {F:Tb->Pr->List Rn->Int} {t s l},WI F (Pure P) g->mq t s l->(ay t s l)=(F t s l,s)->(Pure P).p g [dw t s l] [none] (I (ay t s l).1) none [dw t (ay t s l).2 l]:=λ{g F t s l} hg h he=>by
   rw[he];exact bT (args:=[none]) (hg t s l h) rfl TB
  rcases e with rfl|rfl|rfl|rfl|rfl|rfl
  ·exact⟨a0,rfl,λt s l h A=>B h0 h (by simp[ay,A])⟩
  ·exact⟨a1,rfl,λt s l h A=>B h1 h (by simp[ay,A])⟩
  ·exact⟨a2,rfl,λt s l h A=>B h2 h (by simp[ay,A])⟩
  ·exact⟨O,rfl,λt s l h A=>B h3 h (by simp[ay,A])⟩
  ·refine⟨V,rfl,λt s l h A=>?_⟩
   have:ay t s l=d9 t s:=by simp[ay,A]
   rw[this];exact h4 t s l h
  ·exact⟨R,rfl,λt s l h A=>B h5 h (by simp[ay,A])⟩
 ·intro k hk
  have e:k=0\/k=1\/k=2\/k=3\/k=4\/k=5:=ST
  rcases e with rfl|rfl|rfl|rfl|rfl|rfl
  ·exact⟨M,rfl,k0⟩
  ·exact⟨D,rfl,k1⟩
  ·exact⟨b2,rfl,k2⟩
  ·exact⟨L,rfl,k3⟩
  ·exact⟨b4,rfl,k4⟩
  ·exact⟨E,rfl,k5⟩
theorem zY.ok {fR fY:Nat} (hc:bu P f=some (kS fR fY)) (hR:lg.Spec (Pure P) fR) (hY:pV.Spec (Pure P) fY):zY.Spec (Pure P) f:=by
  intro t s l h
  have hq:=RB h
  have hlen:=Ie h
  have ht:=Nj h
  have hz:∀ r:Rl,setCells bk 0 r.cells=r.cells:=fun _=>rfl
  have hzl:bk.length=11:=rfl
  have hr9:∀ r:Rl,r.cells[9]? = some (I r.most)∧r.cells[8]? = some (I r.stay):=fun _=>⟨rfl,rfl⟩
  have faA:=cB hq (cB hlen (cB ht (cB hz (cB hzl (cB hr9 (Rl.len))))))
  refine Jo hm hc [] rfl rfl rfl ?_
  try simp only [I,RY,↓ KW,seval,kS,Z.H]
  refine jS [1] rfl ?_
  try simp only [I,RY,↓ KW,seval,faA]
  refine ⟨rfl,cV (bT (hR t s l h) rfl (gg rfl)) ?_⟩
  try simp only [I,B,D,RY,↓ KW,seval,faA]
  have hz8:∀ u:Pr,u.held.length=4→aF (dw t u l) 131 (some 8)=some (.agg u.cells)∧aF (dw t u l) 0 (some 131)=some (.agg t.cells)∧(dw t u l).length=235:=fun u hu=>⟨(RB (eu h hu)).2.2.2.2,Nj (eu h hu),Ie (eu h hu)⟩
  have hsp:=BH (t:=t) h.s
  have hY1:=hY t (dD t s) h.t hsp
  obtain ⟨z1,z2,z3⟩:=hz8 _ hsp
  have z4:=RC (eu h hsp)
  have fin:∀ {v:Bool},qQ s=v→(!kY t s && (v || decide (s.time < (aR t s).stay)))=true→d9 t s=(4,s):=fun {v} e1 e2=>by
    rw [d9,e1,et e2]
  have fin2:∀ {v:Bool},qQ s=v→(!kY t s && (v || decide (s.time < (aR t s).stay)))=false→d9 t s=if aK t (dD t s) ≥ 0 then (1,{ dD t s with which:=aK t (dD t s) }) else (5,dD t s):=fun {v} e1 e2=>by
    rw [d9,e1,ek (by rw [e2]; decide)]
  have hl:kY t s=(decide ((aR t s).most > 0) && decide (s.time ≥ (aR t s).most)):=rfl
  have tail1:∀ {v:Bool},qQ s=v→kY t s=false∨v=false→dD t s=s:=fun {v} e1 e2=>by
    rw [dD,e1]; rcases e2 with e | e<;>rw [e]<;>simp
  have pw:0≤s.which∧s.which < 4→min s.which.toNat IntKind.i64.bits=s.which.toNat∧(decide (s.which < 0)=false):=fun hx=>by
    have:IntKind.i64.bits=64:=rfl
    exact ⟨ST,by simp; omega⟩
  have hx4:qQ s=true→0≤s.which∧s.which < 4:=fun e=>by
    simp only [qQ,ed,gc] at e; exact ⟨e.1.1,e.1.2⟩
  obtain ⟨v,hv⟩:∃ v,qQ s=v:=⟨_,rfl⟩
  have h4:v=(decide (s.which ≥ 0) && decide (s.which < 4) && decide (dN s s.which.toNat > 0)):=by rw [← hv]; rfl
  cases hA1:decide (s.which ≥ 0)
  rotate_left
  cases hA2:decide (s.which < 4)
  rotate_left
  have hx:0≤s.which∧s.which < 4:=⟨dC hA1,dC hA2⟩
  have hh:=Zf h (k:=s.which.toNat) ST
  try simp only [I,RY,↓ KW,seval,hx,hh,faA]
  cases hA3:decide (dN s s.which.toNat > 0)
  all_goals
    first | rw [hA1,hA2,hA3] at h4 | rw [hA1,hA2] at h4 | rw [hA1] at h4
    simp only [Fd,nd,mn] at h4
    subst h4
    try try simp only [I,B,D,RY,↓ KW,seval,hA3,faA]
    try try simp only [I,RY,↓ KW,seval,hA2,faA]
    try try simp only [I,RY,↓ KW,seval,faA]
    cases h5:decide ((aR t s).most > 0)<;>cases h6:decide (s.time ≥ (aR t s).most)<;>cases h7:decide (s.time < (aR t s).stay)
    all_goals
      rw [h5,h6] at hl
      simp only [Fd,nd,mn] at hl
      try simp only [I,RY,↓ KW,seval,faA]
      try try simp only [I,RY,↓ KW,seval,h6,faA]
      try try simp only [RY,↓ KW,seval,h7,faA]
      first
        | (have e:=fin hv (by rw [hl,h7]; rfl); rw [e]; exact ⟨rfl,rfl⟩)
        | skip
  all_goals first
    | (have e:=fin2 hv (by rw [hl,h7]; rfl)
       have es:=tail1 hv (by rw [hl]; first | exact .inl rfl | exact .inr rfl)
       rw [es] at hY1 e z4
       refine af hY1 ?_
       try simp only [I,RY,↓ KW,seval]
       generalize aK t s=k at *
       cases h8:decide (k ≥ 0)
       · rw [ek (dE h8)] at e
         try simp only [RY,↓ KW,seval]
         rw [e]; exact ⟨rfl,rfl⟩
       · rw [et (dC h8)] at e
         try simp only [RY,↓ KW,seval,z4,faA]
         first | (refine ⟨ST,?_⟩; rw [e]; exact ⟨rfl,rfl⟩) | (rw [e]; exact ⟨rfl,rfl⟩))
    | (have e:=fin2 hv (by rw [hl,h7]; rfl)
       have es:dD t s={ s with bF:=rP .i64 s.bF (IntKind.i64.wrap (2 ^ s.which.toNat)) }:=by rw [dD,hl,hv]; rfl
       obtain ⟨p1,p2⟩:=pw (hx4 hv)
       have p3:(1:Int) * 2 ^ s.which.toNat=2 ^ s.which.toNat:=Int.one_mul _
       have s7:=Zi h (rP .i64 s.bF (IntKind.i64.wrap (2 ^ s.which.toNat)))
       rw [← es] at s7
       refine ⟨(hx4 hv).1,?_⟩
       try simp only [RY,↓ KW,seval,p1,p3,s7,z1,z2]
       refine af hY1 ?_
       try simp only [I,RY,↓ KW,seval,p1,p3,s7]
       generalize aK t (dD t s)=k at *
       cases h8:decide (k ≥ 0)
       · rw [ek (dE h8)] at e
         try simp only [RY,↓ KW,seval]
         rw [e]; exact ⟨rfl,rfl⟩
       · rw [et (dC h8)] at e
         try simp only [RY,↓ KW,seval,z3,z4]
         first | (refine ⟨ST,?_⟩; rw [e]; exact ⟨rfl,rfl⟩) | (rw [e]; exact ⟨rfl,rfl⟩))
end
structure Fg where
 samples:Option (List (Option Nat))
 push:Int
 ask:Int
 lines:Int
 deriving Inhabited
def Fg.cells(x:Fg):List AV:=[aI j4 x.samples,I x.push,I x.ask,I x.lines]
structure Td where
 start:Int
 fin:Int
 cut:Int
 bL:Int
 hold:Int
 early:Int
section
variable (t:Tb) (s:bt) (c:Nat->Cu) (x:Fg) (k p:Nat)
def Td.cells(x:Td):List AV:=[I x.start,I x.fin,I x.cut,I x.bL,I x.hold,I x.early]
def Zj:Nat:=(t.aL.getD []).length
def tH:Option (List Ch):=dJ (iE t (s.fj.getD []) (x.samples.getD []) (Zj t))
def Il:Int:=mU t (ga t ((tH t s x).getD []) (tj t ((tH t s x).getD [])))
def grS:Int:=A8 λp=>dX (s.rn p)
def wkS:Int:=A8 λp=>nw (s.rn p)
def Kq:Cs:=Jr t s.calls (Il t s x) x.push (grS s) (wkS s)
def GS:Int:=Ei t (Kq t s x) (Il t s x)
def ox:Pr×Ac:=i5 t s.pre x.lines s.runs
def Au:ff:=
 if(ox t s x).2.free then(CV t s.rings s.runs (GS t s x)).1 else if(ox t s x).2.back then Ij t (OV t s.pre.which)else s.rings
def F4:Td:=
 if(ox t s x).2.free then⟨(CV t s.rings s.runs (GS t s x)).2.1,(CV t s.rings s.runs (GS t s x)).2.2,0,Ki t s.rings s.runs (GS t s x),wV t s.iO s.runs x.ask,yz t s.iO s.runs x.ask⟩
 else⟨(ox t s x).2.start,(ox t s x).2.fin,(ox t s x).2.cut,0,0,0⟩
def Zk(d:Td) (here dZ:Int) (free:Bool) (p:Nat):Cu:=⟨bD d.start p,bD d.fin p,bD here p,free&&bD dZ p,bD d.bL p,bD d.hold p,bD d.early p,bD d.cut p⟩
def F5:Cu:=Zk (F4 t s x) (Il t s x) (Kq t s x).dZ (ox t s x).2.free p
def lu:List Rn:=(List.range 8).map λp=>if p<k then dz (aO t p) (s.rn p) (c p)else s.rn p
def jj(t:Tb) (s:bt) (c:Nat->Cu):Nat->Bool
 |0=>false
 |k+1=>jj t s c k||lM (aO t k) (s.rn k) (c k)
def BI(free:Bool) (r:ff):Bool:=free&&(s.rings.iD&&(!r.iD&&decide (r.group<=s.rings.group)))
def rdE:Rd:=kC t s.iO x.ask (jj t s (F5 t s x) 8) (BI s (ox t s x).2.free (Au t s x))
def Im:bt:=⟨lu t s (F5 t s x) 8,Au t s x,rdE t s x,(ox t s x).1,Kq t s x,tH t s x⟩
theorem LY{t:Tb} {s:bt} {c:Nat->Cu} (h:s.Ok):lu t s c 0=s.runs:=by
 refine List.ext_getElem (by simp[lu,h.runs]) λi B A=>?_
 simp[lu,bt.rn,eh,A]
theorem LZ{t:Tb} {s:bt} {c:Nat->Cu} {k:Nat} (hk:k<8):(lu t s c k).set k (dz (aO t k) (s.rn k) (c k))=lu t s c (k+1):=by
 have:k=0\/k=1\/k=2\/k=3\/k=4\/k=5\/k=6\/k=7:=ST
 rcases this with rfl|rfl|rfl|rfl|rfl|rfl|rfl|rfl<;>simp[lu,io]
theorem wm:(lu t s c k).length=8:=by simp[lu]
theorem GU{a b:List AV} {off z:Nat} (h:off+z<=a.length):aF (a++b) off (some z)=aF a off (some z):=by
 simp only[aF,pv]
 rw[et ST,et h,List.drop_append_of_le_length ST,H3 (by simp;omega)]
theorem bt.RE{s:bt}:s.cells=(aQ s.runs++s.rings.cells)++(s.iO.cells++(s.pre.cells++(s.calls.cells++[aI Ch.cells s.fj]))):=by simp[bt.cells]
theorem bt.RF{s:bt}:s.cells=(aQ s.runs++(s.rings.cells++s.iO.cells))++(s.pre.cells++(s.calls.cells++[aI Ch.cells s.fj])):=by simp[bt.cells]
theorem bt.RG{s:bt}:s.cells=(aQ s.runs++(s.rings.cells++(s.iO.cells++s.pre.cells)))++(s.calls.cells++[aI Ch.cells s.fj]):=by simp[bt.cells]
theorem bt.RH{s:bt}:s.cells=(aQ s.runs++(s.rings.cells++(s.iO.cells++(s.pre.cells++s.calls.cells))))++([aI Ch.cells s.fj]++[]):=by simp[bt.cells]
end
section
variable{s:bt} (h:s.Ok)
include h
theorem bt.p96:aF s.cells 96 (some 4)=some (.agg s.rings.cells):=iB (c8 h.runs) rfl
theorem bt.acK:(aQ s.runs++s.rings.cells).length=100:=by simp[c8 h.runs,ff.cells]
theorem bt.acL:(aQ s.runs++(s.rings.cells++s.iO.cells)).length=106:=by simp[c8 h.runs,ff.cells,Rd.cells,h.lock]
theorem bt.acM:(aQ s.runs++(s.rings.cells++(s.iO.cells++s.pre.cells))).length=114:=by simp[c8 h.runs,ff.cells,Rd.cells,Pr.cells,h.lock,h.held]
theorem bt.Zl:(aQ s.runs++(s.rings.cells++(s.iO.cells++(s.pre.cells++s.calls.cells)))).length=116:=by simp[c8 h.runs,ff.cells,Rd.cells,Pr.cells,Cs.cells,h.lock,h.held]
theorem bt.Zm:aF s.cells 100 (some 6)=some (.agg s.iO.cells):=by rw[bt.RE (s:=s)];exact iB (bt.acK h) (by simp[Rd.cells,h.lock])
theorem bt.Vl:aF s.cells 106 (some 8)=some (.agg s.pre.cells):=by rw[bt.RF (s:=s)];exact iB (bt.acL h) (Pr.len h.held)
theorem bt.OY:aF s.cells 114 (some 2)=some (.agg s.calls.cells):=by rw[bt.RG (s:=s)];exact iB (bt.acM h) rfl
theorem bt.g96:s.cells[96]? =some (I s.rings.group):=jD (bt.p96 h) (j:=0) ST
theorem bt.g99:s.cells[99]? =some (B s.rings.iD):=jD (bt.p96 h) (j:=3) ST
theorem bt.acN:s.cells[107]? =some (I s.pre.which):=jD (bt.Vl h) (j:=1) ST
theorem bt.acO:s.cells[115]? =some (I s.calls.dZ):=jD (bt.OY h) (j:=1) ST
theorem bt.RI:s.cells[116]? =some (aI Ch.cells s.fj):=by rw[bt.RH (s:=s),kw (by rw[bt.Zl h];omega),bt.Zl h];rfl
theorem bt.s96(x:ff):setCells s.cells 96 x.cells={s with rings:=x}.cells:=oP (c8 h.runs) rfl
theorem bt.RJ{x:Rd} (A:x.lock.length=4):setCells s.cells 100 x.cells={s with iO:=x}.cells:=by
 rw[bt.RE (s:=s),oP (bt.acK h) (by simp[Rd.cells,h.lock,A])];simp[bt.cells]
theorem bt.OZ{x:Pr} (A:x.held.length=4):setCells s.cells 106 x.cells={s with pre:=x}.cells:=by
 rw[bt.RF (s:=s),oP (bt.acL h) (by rw[Pr.len h.held,Pr.len A])];simp[bt.cells]
theorem bt.Vm(x:Cs):setCells s.cells 114 x.cells={s with calls:=x}.cells:=by
 rw[bt.RG (s:=s),oP (mid:=s.calls.cells) (ps:=x.cells) (bt.acM h) rfl];simp[bt.cells]
theorem bt.Vn(x:Option (List Ch)):setCells s.cells 116 [aI Ch.cells x]={s with fj:=x}.cells:=by
 rw[bt.RH (s:=s),oP (mid:=[aI Ch.cells s.fj]) (ps:=[aI Ch.cells x]) (bt.Zl h) rfl];simp[bt.cells]
end
section
variable {n:Int} {s:Pr} {t:Tb}
theorem L0:(Vk t s n).held.length=4:=by
 have:(bG t s n).held.length=4:=by simp[bG,eK]
 unfold Vk BG;split<;>exact this
theorem BJ{l:List Rn}:(i5 t s n l).1.held.length=4:=by
 have B:=L0 (t:=t) (s:=s) (n:=n)
 have A:=mE (t:=t) (l:=l) B
 unfold i5 ji;split
 ·exact B
 ·split
  ·exact A
  ·exact A
theorem yK{G:Prop} {F:S->Prop} {α:Type} (st:α->S) (J:α->Prop) (h:(∀y s,J y->Le s (st y)->down F s)->G) (hF:∀y,J y->F (st y)):G:=
 h λy s B A=>rA A (hF y B)
def BK.Spec(C:aY) (f:Nat):Prop:=∀(t:Tb) (s:bt) (x:Fg),t.Ok->t.Fw->Zj t<=1000000->s.Ok->(s.fj.getD []).length<=1000000->(x.samples.getD []).length<=1000000->C.c f [.agg t.cells,.agg s.cells,.agg x.cells] (.agg (Im t s x).cells) none
end
section
variable{P:Program} (hm:P.follows .mixedOrders=true) {f:Nat}
include hm
theorem BK.ok{fD fE fH fG fK fC fW fP fR fS fO fA fX fU fB fY fZ fT:Nat} (hc:bu P f=some (uN fD fE fH fG fK fC fW fP fR fS fO fA fX fU fB fY fZ fT)) (hD:vg.Spec (Pure P) fD) (hE:vh.Spec (Pure P) fE) (hH:FY.Spec (Pure P) fH)
  (hG:sA.Spec (Pure P) fG) (hK:Aq.Spec (Pure P) fK) (hC:Step.Spec (Pure P) fC) (hW:Want.Spec (Pure P) fW) (hP:Ko.Spec (Pure P) fP) (hR:uZ.Spec (Pure P) fR) (hS:CW.Spec (Pure P) fS) (hO:JN.Spec (Pure P) fO) (hA:Early.Spec (Pure P) fA)
  (hX:Fe.Spec (Pure P) fX) (hU:CX.Spec (Pure P) fU) (hB:lE.Spec (Pure P) fB) (hY:E7.Spec (Pure P) fY) (hZ:E6.Spec (Pure P) fZ) (hT:uE.Spec (Pure P) fT):BK.Spec (Pure P) f:=by
 intro t s x O ar b5 L bj a4
 have b0:=Tb.len O
 have hp:=Tb.whole O
 have au:bI.length=117:=rfl
 have am:∀u:bt,u.Ok->setCells bI 0 u.cells=u.cells:=λu hu=>eI (by rw[bt.len hu];rfl)
 have q1:=bt.len L
 have q2:=bt.whole L
 have q3:=bt.RI L
 have q4:=bt.OY L
 have q5:=bt.Vl L
 have q6:=bt.v9 L
 have q7:=bt.p96 L
 have q8:=bt.Zm L
 have q9:=am s L
 have qw:=bt.acN L
 have x1:x.cells[0]? =some (aI j4 x.samples)/\x.cells[1]? =some (I x.push)/\x.cells[2]? =some (I x.ask)/\x.cells[3]? =some (I x.lines):=⟨rfl,rfl,rfl,rfl⟩
 have hq:Il t s x=mU t (ga t ((tH t s x).getD []) (tj t ((tH t s x).getD []))):=rfl
 have ad:Im t s x=⟨lu t s (Zk (F4 t s x) (Il t s x) (Kq t s x).dZ (ox t s x).2.free) 8,Au t s x,kC t s.iO x.ask (jj t s (Zk (F4 t s x) (Il t s x) (Kq t s x).dZ (ox t s x).2.free) 8) (BI s (ox t s x).2.free (Au t s x)),(ox t s x).1,Kq t s x,tH t s x⟩:=rfl
 have cD:=hD t s.fj x.samples O ar bj a4
 rw[show dJ (iE t (s.fj.getD []) (x.samples.getD []) (t.aL.getD []).length)=tH t s x from rfl]at cD
 have b7:((tH t s x).getD []).length<=1000000:=by
  rw[tH,aT];simp only[iE,mt,List.length_range];exact b5
 have cC:=hC t s.calls (Il t s x) x.push (grS s) (wkS s) O
 rw[show Jr t s.calls (Il t s x) x.push (grS s) (wkS s)=Kq t s x from rfl]at cC
 have cW:=hW t (Kq t s x) (Il t s x) O
 rw[show Ei t (Kq t s x) (Il t s x)=GS t s x from rfl]at cW
 have cP:=hP t s.pre x.lines s.runs ⟨O,L.held,L.runs⟩
 rw[show i5 t s.pre x.lines s.runs=ox t s x from rfl]at cP
 have V:(ox t s x).1.held.length=4:=BJ
 have cR:=hR t s.rings s.runs (GS t s x) O L.runs
 have cS:=hS t s.rings s.runs (GS t s x) O L.runs
 have cO:=hO t s.iO s.runs x.ask O L.lock L.runs
 have cA:=hA t s.iO s.runs x.ask O L.lock L.runs
 have R:Au t s x=if(ox t s x).2.free then(CV t s.rings s.runs (GS t s x)).1 else if(ox t s x).2.back then Ij t (OV t s.pre.which)else s.rings:=rfl
 have ab:F4 t s x=if(ox t s x).2.free then⟨(CV t s.rings s.runs (GS t s x)).2.1,(CV t s.rings s.runs (GS t s x)).2.2,0,Ki t s.rings s.runs (GS t s x),wV t s.iO s.runs x.ask,yz t s.iO s.runs x.ask⟩
  else⟨(ox t s x).2.start,(ox t s x).2.fin,(ox t s x).2.cut,0,0,0⟩:=rfl
 generalize Au t s x=rg at*;generalize F4 t s x=td at*;generalize GS t s x=w0 at*;generalize Kq t s x=c1 at*;generalize Il t s x=h0 at*;generalize tH t s x=c0 at*;generalize ox t s x=pa at*;generalize Im t s x=res at*;generalize CV t s.rings s.runs w0=rr at*;generalize Ki t s.rings s.runs w0=pr at*
 generalize wV t s.iO s.runs x.ask=ho at*;generalize yz t s.iO s.runs x.ask=ea at*
 have bd:c1.cells.length=2:=rfl
 have a7:jo (aI Ch.cells c0) none=true:=by cases c0<;>rfl
 have b6:(aI Ch.cells c0).cells=[aI Ch.cells c0]:=by cases c0<;>rfl
 have u1:=bt.Vn L c0
 have k1:({s with fj:=c0}:bt).Ok:=⟨L.1,L.2,L.3⟩
 have b4:=bt.len k1
 have a3:=bt.RI k1
 have u2:=bt.Vm k1 c1
 have k2:({s with fj:=c0,calls:=c1}:bt).Ok:=⟨L.1,L.2,L.3⟩
 have a5:=bt.len k2
 have b2:=bt.OY k2
 have u3:=bt.OZ k2 V
 have k3:({s with fj:=c0,calls:=c1,pre:=pa.1}:bt).Ok:=⟨L.1,L.2,V⟩
 have a6:=bt.len k3
 have pl:=Pr.len V
 have pw:=Pr.whole V
 have al:pa.2.cells.length=5/\pa.2.cells[0]? =some (I pa.2.start)/\pa.2.cells[1]? =some (I pa.2.fin)/\pa.2.cells[2]? =some (I pa.2.cut)/\pa.2.cells[3]? =some (B pa.2.free)/\pa.2.cells[4]? =some (B pa.2.back):=⟨rfl,rfl,rfl,rfl,rfl,rfl⟩
 have zp:setCells [.int .i64 0,.int .i64 0,.int .i64 0,.int .i64 0,.int .i64 0,.int .i64 0,.int .i64 0,.int .i64 0] 0 pa.1.cells=pa.1.cells:=eI (by rw[pl];rfl)
 have za:setCells [.int .i64 0,.int .i64 0,.int .i64 0,.bool false,.bool false] 0 pa.2.cells=pa.2.cells:=rfl
 have zt:setCells [.int .i64 0,.int .i64 0,.int .i64 0,.int .i64 0,.int .i64 0,.int .i64 0] 0 [I pa.2.start,I pa.2.fin,I pa.2.cut,I 0,I 0,I 0]=(⟨pa.2.start,pa.2.fin,pa.2.cut,0,0,0⟩:Td).cells:=rfl
 have bo:∀d:Td,d.cells.length=6:=λ_=>rfl
 have a2:∀(d:Td) (n:Int),setCells d.cells 0 [I n]=({d with start:=n}:Td).cells/\setCells d.cells 1 [I n]=({d with fin:=n}:Td).cells/\setCells d.cells 2 [I n]=({d with cut:=n}:Td).cells/\setCells d.cells 3 [I n]=({d with bL:=n}:Td).cells/\setCells d.cells 4 [I n]=({d with hold:=n}:Td).cells/\setCells d.cells 5 [I n]=({d with early:=n}:Td).cells:=λ_ _=>⟨rfl,rfl,rfl,rfl,rfl,rfl⟩
 have rl:∀r:ff,r.cells.length=4:=λ_=>rfl
 have u4:=λr=>bt.s96 k3 r
 have E:=cB b0 (cB hp (cB au (cB q1 (cB q2 (cB q3 (cB q4 (cB q5 (cB q6 (cB q7 (cB q8 (cB q9 (cB qw (cB x1 (cB a7 (cB b6 (cB bd (cB u1 (cB b4 (cB a3 (cB u2 (cB a5 (cB b2 (cB u3 (cB a6 (cB pl (cB pw (cB al (cB zp (cB za (cB zt (cB bo (cB a2 (cB rl (u4))))))))))))))))))))))))))))))))))
 refine aj hm hc [0] rfl ?_;try simp only[RY,↓KW,seval,uN,Z.H,E]
 refine af cD ?_;try simp only[RY,↓KW,seval,E]
 refine af (hE t c0 O b7) ?_;try simp only[I,RY,↓KW,seval,E]
 refine af (hH t _ O) ?_;rw[<-hq];try simp only[I,RY,↓KW,seval,E]
 refine af (hG s L) ?_;try simp only[I,RY,↓KW,seval,E]
 refine af (hK s L) ?_;try simp only[I,RY,↓KW,seval]
 refine af cC ?_;try simp only[RY,↓KW,seval,E]
 refine af cW ?_;try simp only[I,RY,↓KW,seval,E]
 refine af cP ?_;try simp only[I,B,RY,↓KW,seval,E]
 apply yK (λ_:Unit=>(⟨[(8,.dat (I h0) none),(3,.ptr 4 0),(4,.ptr 5 0),(5,.ptr 6 0),(6,.ptr 7 0),(7,.ptr 9 0),(11,.ptr 57 0),(12,.ptr 70 0)],[(4,⟨t.cells,[]⟩),(5,⟨s.cells,[]⟩),(6,⟨x.cells,[]⟩),(7,⟨bI,[]⟩),(9,⟨({s with fj:=c0,calls:=c1,pre:=pa.1,rings:=rg}:bt).cells,[]⟩),(57,⟨pa.2.cells,[]⟩),(70,⟨td.cells,[]⟩)],[],400⟩:S)) (λ_=>True)
 ·intro back
  rcases bc pa.2.free with h1|h1
  ·rw[h1]at R ab
   try simp only[B,RY,↓KW,seval,h1,E]
   rcases bc pa.2.back with h2|h2
   ·rw[h2]at R
    try simp only[RY,seval,h2]
    refine back () _ trivial ?_
    refine ai Ts ?_ ?_ ?_ ?_<;>simp[LX,I,R,ab]
   ·rw[h2]at R
    try simp only[I,RY,↓KW,seval,h2,E]
    refine af (hX t s.pre.which O) ?_;try simp only[I,RY,↓KW,seval]
    refine af (hU t _ O) ?_;try simp only[RY,↓KW,seval,E]
    refine back () _ trivial ?_
    refine ai Ts ?_ ?_ ?_ ?_<;>simp[LX,I,R,ab]
  ·rw[h1]at R ab
   try simp only[RY,↓KW,seval,h1,E]
   refine af cR ?_;try simp only[I,RY,↓KW,seval,E]
   refine af cS ?_;try simp only[I,RY,↓KW,seval,E]
   refine af cO ?_;try simp only[I,RY,↓KW,seval,E]
   refine af cA ?_;try simp only[I,RY,↓KW,seval,E]
   refine back () _ trivial ?_
   refine ai Ts ?_ ?_ ?_ ?_<;>simp[LX,I,R,ab]
 ·rintro _ _
  try simp only[I,RY,↓KW,seval]
  obtain⟨M,an⟩:∃M,Zk td h0 c1.dZ pa.2.free=M:=⟨_,rfl⟩
  have ao:∀p,M p=⟨bD td.start p,bD td.fin p,bD h0 p,pa.2.free&&bD c1.dZ p,bD td.bL p,bD td.hold p,bD td.early p,bD td.cut p⟩:=λp=>by rw[<-an];rfl
  rw[an]at ad
  have w0:=LY (t:=t) (c:=M) L
  refine aD (λk:Nat=>(⟨[(121,.dat (I k) none),(13,.dat (B (jj t s M k)) none),(8,.dat (I h0) none),(3,.ptr 4 0),(4,.ptr 5 0),(5,.ptr 6 0),(6,.ptr 7 0),(7,.ptr 9 0),(11,.ptr 57 0),(12,.ptr 70 0)],[(4,⟨t.cells,[]⟩),(5,⟨s.cells,[]⟩),(6,⟨x.cells,[]⟩),(7,⟨bI,[]⟩),(9,⟨({s with runs:=lu t s M k,fj:=c0,calls:=c1,pre:=pa.1,rings:=rg}:bt).cells,[]⟩),(57,⟨pa.2.cells,[]⟩),(70,⟨td.cells,[]⟩)],[],400⟩:S)) (λk=>8-k) (λk=>k<=8) ?_ 0 ST ?_
  rotate_left
  ·refine ai Ts ?_ ?_ ?_ ?_<;>simp[LX,I,B,w0,jj]
  intro k hk A back
  have a9:=aA (k:=k) ST
  have kk:({s with runs:=lu t s M k,fj:=c0,calls:=c1,pre:=pa.1,rings:=rg}:bt).Ok:=⟨wm ..,L.2,V⟩
  have v1:=bt.len kk
  have v2:=bt.acO kk
  have be:td.cells[0]? =some (I td.start)/\td.cells[1]? =some (I td.fin)/\td.cells[2]? =some (I td.cut)/\td.cells[3]? =some (I td.bL)/\td.cells[4]? =some (I td.hold)/\td.cells[5]? =some (I td.early):=⟨rfl,rfl,rfl,rfl,rfl,rfl⟩
  try simp only[I,B,RY,↓KW,seval]
  rcases bc (decide ((k:Int)<8))with h|h
  rotate_left
  ·have h8:k<8:=by have:=dC h;omega
   have hy:0<=(k:Int)/\(k:Int)<8:=ST
   have b3:=Tb.ij (O.ln.jL h8)
   have ba:aF s.cells (k*12) (some 12)=some (.agg (s.rn k).cells):=by rw[bt.cells,GU (by rw[c8 L.runs];omega)];exact gl L.runs h8
   have vs:=bt.M6 kk h8 (dz (aO t k) (s.rn k) (M k))
   rw[show({s with runs:=lu t s M k,fj:=c0,calls:=c1,pre:=pa.1,rings:=rg}:bt).runs.set k (dz (aO t k) (s.rn k) (M k))=lu t s M (k+1)from LZ h8]at vs
   have hl:jj t s M (k+1)=(jj t s M k||lM (aO t k) (s.rn k) (M k)):=rfl
   generalize jj t s M k=hd at*
   obtain⟨cc,b1⟩:∃c,M k=c:=⟨_,rfl⟩
   have hP:=ao k
   rw[b1]at hP vs hl
   have bm:∀c:Cu,c.cells.length=8/\aF c.cells 0 (some 8)=some (.agg c.cells):=λ_=>⟨rfl,rfl⟩
   have ac:setCells [.bool false,.bool false,.bool false,.bool false,.bool false,.bool false,.bool false,.bool false] 0 [B (bD td.start k),B (bD td.fin k),B (bD h0 k),B (pa.2.free&&bD c1.dZ k),B (bD td.bL k),B (bD td.hold k),B (bD td.early k),B (bD td.cut k)]=cc.cells:=by rw[hP];rfl
   have aa:=cB h (cB hy (cB v1 (cB v2 (cB be (cB b3 (cB ba (cB bm (cB vs (cB Rn.len (E))))))))))
   try simp only[I,RY,↓KW,seval,aa]
   have bs:∀p:Nat,∀n:Int,(Pure P).c fB [I n,I p] (B (bD n p)) none:=λp n=>hB n p
   rcases bc pa.2.free with h5|h5<;>rcases bc hd with h6|h6
   all_goals
    rw[h5]at ac;rw[h6]at hl;simp only[kt,mn,ti,nz]at ac hl
    repeat' (refine af (hB _ _) ?_;try simp only[I,B,RY,↓KW,seval,h5,h6,aa])
    try simp only[RY,↓KW,seval,ac,aa]
    try(refine af (hY _ _ _) ?_;try simp only[B,RY,↓KW,seval,ac,aa])
    try(refine af (hZ _ _ _) ?_;try simp only[RY,↓KW,seval,ac,aa])
    refine⟨ST,back (k+1) _ ST ST ?_⟩
    refine ai Ts ?_ ?_ ?_ ?_<;>simp[LX,I,B,a9,hl]
  ·have bi:k=8:=by have:=dE h;omega
   subst bi
   have ak:(kC t s.iO x.ask (jj t s M 8) (BI s pa.2.free rg)).lock.length=4:=by simp[kC,pT]
   have w1:=bt.RJ kk ak
   have rk:res.Ok:=by rw[ad];exact⟨wm ..,ak,V⟩
   have w2:=bt.whole rk
   have w3:=am res rk
   have w4:=bt.len rk
   have v3:=bt.g96 kk
   have v4:=bt.g99 kk
   have v5:=bt.g96 L
   have v6:=bt.g99 L
   have ag:BI s pa.2.free rg=(pa.2.free&&(s.rings.iD&&(!rg.iD&&decide (rg.group<=s.rings.group)))):=rfl
   have cT:=hT t s.iO x.ask (jj t s M 8) (BI s pa.2.free rg) O L.lock
   rw[<-ad]at w1;generalize kC t s.iO x.ask (jj t s M 8) (BI s pa.2.free rg)=rd at*;generalize jj t s M 8=hd at*;generalize BI s pa.2.free rg=rn at*
   have a8:rd.cells.length=6:=by simp[Rd.cells,ak]
   have ae:=cB v3 (cB v4 (cB v5 (cB v6 (cB w1 (cB w2 (cB w3 (cB w4 (cB v1 (cB v2 (cB a8 (E)))))))))))
   rcases bc pa.2.free with h5|h5<;>rcases bc s.rings.iD with h6|h6<;>rcases bc rg.iD with h7|h7<;>rcases bc (decide (rg.group<=s.rings.group))with h8|h8
   all_goals
    rw[h5,h6,h7,h8]at ag;simp only[nd,pA,gs,fx]at ag;subst ag;try simp only[I,B,RY,↓KW,seval,h5,h6,h7,h8,ae]
    try try simp only[I,B,D,RY,↓KW,seval,h5,h6,h7,h8,ae]
    refine af cT ?_;try simp only[RY,↓KW,seval,ae]
end
theorem RM(l:Option (List Int)) {p:Nat} (A:p<nT l):(az (cJ l) p).2=true:=by
 have hm:(p:Int)∈(aS (cJ l)).map Sp.p:=by
  rw[H9,dO,i8];exact⟨p,fp.2 A,TB⟩
 obtain⟨x,D,B⟩:=i8.1 hm;rw[az]
 cases h:(aS (cJ l)).find? (λx=>x.p==(p:Int))with
 |some y=>rfl
 |none=>
  rw[mf]at h
  exact absurd (by simp[B]) (h x D)
theorem BL{t:Tb} {x:Sp} (h:x∈aS t):0<=x.group/\x.group<((t.groups.getD []).length:Int):=by
 simp only[aS,cm,sT]at h;obtain⟨⟨E,g⟩,hm,D⟩:=h
 have B:=pU D
 have A:=(List.mem_zipIdx hm).2.1
 rw[B0]at A;rw[B];omega
structure Io (t u:Tb):Prop where
 groups:u.groups=t.groups
 aV:u.aV=t.aV
 on:oS u=oS t
 share:u.share=t.share
 revert:u.revert=t.revert
 extend:u.extend=t.extend
 same:∀p,(aO u p).min=(aO t p).min/\(aO u p).walk=(aO t p).walk/\(aO u p).fc=(aO t p).fc/\(aO u p).eZ=(aO t p).eZ
 more:∀p,(aO t p).top<=(aO u p).top/\(aO t p).red<=(aO u p).red
theorem nF{a b:Int} (h:a<=b):ju a<=ju b:=by simp only[Dm];omega
theorem BM{α:Type} {f g:α->Int}:∀{l:List α},(∀x∈l,f x<=g x)->zM (l.map f)<=zM (l.map g)
 |[],_=>H4 _
 |x::l,h=>by
  have B:=nF (h x lr)
  have D:=BM (l:=l) λy A=>h y (kp _ A)
  simp only[zM,md,zr]at*;omega
theorem Fh{α:Type} {f g:α->Int}:∀{l:List α},(∀x∈l,f x<=g x)->iK (l.map f)<=iK (l.map g)
 |[],_=>H4 _
 |x::l,h=>by
  have B:=h x lr
  have D:=Fh (l:=l) λy A=>h y (kp _ A)
  simp only[md,EM];omega
section
variable{t u:Tb} (h:Io t u)
include h
section
variable (k p:Int)
theorem Io.clear:mJ t<=mJ u:=by
 rw[mJ,mJ,h.on]
 refine Fh λp _=>?_
 have A:=(h.same p).2.2.2
 have B:=(h.more p).2
 rw[H6,H6,we,we,A];simp only[Dm];omega
theorem Io.serve:lF t p<=lF u p:=by
 obtain⟨M,E,V,L⟩:=h.same p;obtain⟨R,B⟩:=h.more p
 have O:=h.extend
 have D:=h.revert
 rw[lF,lF,h.on];split
 ·rw[M,E,V,L,O,D,H6 (aO t p).walk (aO t p).fc,nv,nv]
  have A:iK [ju (aO t p).min,HI (aO t p).walk (aO t p).fc,ju (aO t p).top]<=iK [ju (aO t p).min,HI (aO t p).walk (aO t p).fc,ju (aO u p).top]:=by
   have:=nF R
   simp only[EM,OJ];omega
  have a1:=nF A
  have Z:=nF B
  simp only[zM,md,se,zr,List.sum_nil];omega
 ·exact H4 _
theorem Io.aS:Eng.aS u=Eng.aS t:=by rw[Eng.aS,Eng.aS,h.groups]
theorem Io.aeB:az u p=az t p:=by rw[az,az,h.aS]
theorem Io.pass(g:Int):oT t g<=oT u g:=by
 rw[oT,oT,h.groups];split
 ·exact H4 _
 ·rw[nv,nv,iu,iu,h.aS]
  have:=BM (l:=((Eng.aS t).take (Eng.aS t).length).filter λx=>x.group==g) (f:=λx=>lF t x.p) (g:=λx=>lF u x.p) λx _=>h.serve x.p
  simp only[zM,md,zr]at*;omega
theorem Io.free:qn t p<=qn u p:=by
 rw[qn,qn,h.aeB,h.on,h.groups];split
 ·rw[nv,nv]
  have A:=nF (h.pass (az t p).1.group)
  have:=BM (l:=List.range (t.groups.getD []).length) (f:=λ(g:Nat)=>oT t g) (g:=λ(g:Nat)=>oT u g) λg _=>h.pass g
  simp only[zM,md,zr]at*;omega
 ·exact H4 _
theorem Io.rl:yp u k=yp t k:=by rw[yp,yp,h.aV]
theorem Io.entry:rW t k<=rW u k:=by
 have B:=nF h.clear
 have A:=h.revert
 rw[rW,rW,h.aV];split
 ·exact H4 _
 ·rw[h.rl,A,nv,nv]
  simp only[zM,md,se,zr,List.sum_nil];omega
end
end
section
variable (wild:Bool) (l:List Int) {d k:Nat} {xs:List (Option Nat)} {α:Type} (f:α->List AV) (q:List α) (C:aY) (i t v w:Nat) (x:Option Nat)
structure Fr where
 samples:Option (List (Option Nat))
 push:Int
 ask:Int
 lines:Int
 vk:Int
 reset:Bool
 deriving Inhabited
def Fr.cells(x:Fr):List AV:=[aI j4 x.samples,I x.push,I x.ask,I x.lines,I x.vk,B x.reset]
def c20:Nat:=4626322717216342016
def f20:Option Nat->Option Nat
 |none=>none
 |some x=>DF.sub c20 x
theorem acQ:eP .sub (.float .f64 4626322717216342016) (fv x)=some (fv (f20 x)):=by
 cases x with
 |none=>rfl
 |some x=>
  show KQ .f64 (DF.sub c20 x)=some (fv (DF.sub c20 x))
  cases DF.sub c20 x<;>rfl
theorem acR(q:Option Nat):jo (fv x) q=true:=by cases x<;>rfl
theorem RO:(fv x).cells=[fv x]:=by cases x<;>rfl
def six:List (Option Nat):=[none,some 9218868437227405312,some 9223372036854775808,some 4613937818241073152,some 4711630319722168320,some 4604930618986332160]
structure Sc where
 xs:List (Option Nat)
 xl:Nat
 ask:Int
 lines:Int
 deriving Inhabited
structure On where
 n:Nat
 push:Int
 lines:Int
 vk:Int
 reset:Bool
 deriving Inhabited
def iz:Nat:=v/16%64
def RQ:Nat:=1+v/1024%30
def qW:On:=⟨RQ v,0,0,0,false⟩
def Zn(k:Nat):Int:=IntKind.i64.wrap (256*2^min k IntKind.i64.bits)
def je(c:Sc):Sc×On:=
 if v%16<3 then({c with xs:=c.xs.set (iz v%16) (f20 (c.xs.getD (iz v%16) none))},qW v)
 else if v%16=3 then({c with xs:=c.xs.set (iz v%16) (six.getD (iz v%6) none)},qW v)
 else if v%16<6 then(c,{qW v with push:=(v/1024%256:Nat)})
 else if v%16=6 then({c with ask:=Of .i64 c.ask (2^(iz v%4))},qW v)
 else if v%16=7 then(c,{qW v with lines:=2^(iz v%4)})
 else if v%16=8 then({c with lines:=Of .i64 c.lines (2^(iz v%4))},qW v)
 else if v%16=9 then(c,{qW v with n:=RQ v*6})
 else if v%16=10 then({c with xs:=List.replicate 16 (some (FloatKind.f64.nearest (iz v%2*20:Nat)))},qW v)
 else if v%16=11 then({c with xl:=iz v%17},qW v)
 else if v%16=12 then({c with xl:=16,lines:=0},qW v)
 else if v%16=13 then(c,{qW v with push:=if wild&&iz v%4==0 then Zn (iz v)else 0,vk:=if wild&&iz v%4==1 then(v/1024%256:Nat)else 0,reset:=wild&&iz v%2==0})
 else(c,qW v)
def oH(c:Sc) (o:On) (j:Nat):Fr:=
 ⟨dJ (c.xs.take c.xl),if j=0 then o.push else 0,c.ask,if j=0 then rP .i64 c.lines o.lines else c.lines,if j=0 then o.vk else 0,if j=0 then o.reset else false⟩
def Fi(c:Sc) (o:On) (out:List Fr):List Fr:=out++(List.range (min o.n (1500-out.length))).map (oH c o)
def Nn(x:Sc×List Fr):Sc×List Fr:=((je wild v x.1).1,Fi (je wild v x.1).1 (je wild v x.1).2 x.2)
def Zo:Nat:=(place (l.getD i 0) 1099511627776).toNat
def jM(wild:Bool) (l:List Int):Nat->Sc×List Fr
 |0=>(⟨List.replicate 16 (some 0),16,0,0⟩,[])
 |i+1=>if(jM wild l i).2.length<1500 then Nn wild (Zo l i) (jM wild l i)else jM wild l i
def sB:List Fr:=(jM wild l (min l.length 120)).2
structure Sc.Ok (c:Sc):Prop where
 xs:c.xs.length=16
 xl:c.xl<=16
theorem No:v%16=0\/v%16=1\/v%16=2\/v%16=3\/v%16=4\/v%16=5\/v%16=6\/v%16=7\/v%16=8\/v%16=9\/v%16=10\/v%16=11\/v%16=12\/v%16=13\/v%16=14\/v%16=15:=by omega
theorem Ip{wild:Bool} {v:Nat} {c:Sc} (h:c.Ok):(je wild v c).1.Ok/\(je wild v c).2.n<=180:=by
 have D:RQ v<=30:=by unfold RQ;omega
 have A:=h.xl
 have B:=h.xs
 rcases No v with e|e|e|e|e|e|e|e|e|e|e|e|e|e|e|e<;>
  exact⟨⟨by simp[je,e,B],by simp[je,e,A];try omega⟩,by simp[je,e,qW];omega⟩
theorem L1{c:Sc} {o:On} {out:List Fr} (h:out.length<=1500):(Fi c o out).length<=1500:=by simp[Fi];omega
theorem Dp(wild:Bool) (l:List Int):∀i,(jM wild l i).1.Ok/\(jM wild l i).2.length<=1500
 |0=>⟨⟨by simp[jM],by simp[jM]⟩,by simp[jM]⟩
 |i+1=>by
  have A:=Dp wild l i
  rw[jM];split
  ·exact⟨(Ip A.1).1,L1 A.2⟩
  ·exact A
theorem GV{wild:Bool} {l:List Int} {i:Nat} (h:¬(jM wild l i).2.length<1500):∀j,jM wild l (i+j)=jM wild l i
 |0=>rfl
 |j+1=>by rw[<-zd,jM,GV h j,ek h]
theorem L2{wild:Bool} {l:List Int} {i:Nat} (A:i<=min l.length 120) (h:i=min l.length 120\/¬(jM wild l i).2.length<1500):(jM wild l i).2=sB wild l:=by
 rcases h with h|h
 ·rw[h];rfl
 ·have:=GV h (min l.length 120-i)
  rw[show i+(min l.length 120-i)=min l.length 120 by omega]at this
  rw[sB,this]
theorem Vo:(Zo l i:Int)=place (l.getD i 0) 1099511627776/\Zo l i<1099511627776:=by
 have h:0<=place (l.getD i 0) 1099511627776/\place (l.getD i 0) 1099511627776<1099511627776:=by
  generalize l.getD i 0=v
  have A:=FS v (b:=1099511627776) ST
  have B:-1099511627776<v.tmod 1099511627776:=by
   have:=Int.lt_tmod_of_pos v (b:=1099511627776) ST
   omega
  unfold place;split
  ·have:bZ (v.tmod 1099511627776+1099511627776)=v.tmod 1099511627776+1099511627776:=aU ST ST
   rw[this];omega
  ·omega
 unfold Zo;omega
theorem acS(h:k<xs.length):(xs.map fv)[k]? =some (fv (xs.getD k none)):=by
 simp[eh,h]
theorem RR{x:Option Nat} (h:k<xs.length):setCells (xs.map fv) k [fv x]=(xs.set k x).map fv:=by
 rw[setCells,List.map_set,Ha,et (by simpa using h)]
 simp
theorem GW:∀(n:Nat) (xs:List (Option Nat)),n<=xs.length->dA 1 n (xs.map fv)=(xs.take n).map j4
 |0,_,_=>rfl
 |n+1,x::xs,h=>by
  have:=GW n xs (by simpa using h)
  simp[dA,this,j4]
 |n+1,[],h=>by simp at h
theorem Np:N6 (some (aZ f q t))=some (aI f (dJ q)):=by unfold aZ dJ;split<;>rfl
theorem Nq:yR (aI f (dJ q))=some (I q.length):=by unfold dJ;split<;>simp_all [aI,yR]
theorem Kr(k:SV->Prop):N9 k (aZ f q t)=k (.dat (I q.length) none):=by
 unfold aZ;split
 ·rename_i h;subst h;rfl
 ·rw[MR];simp[yR]
theorem Vp:ax (UI (some (aZ f q t))) λp=>p.1=aI f (dJ q):=by unfold aZ dJ;split<;>rfl
def KV(xs:List (Option Nat)) (w d:Nat):List (Option Nat):=List.replicate d (some w)++xs.drop d
theorem Vq(h:d<xs.length):(KV xs w d).set d (some w)=KV xs w (d+1):=by
 rw[KV,List.set_append,ek TB]
 simp only[List.length_replicate,Nat.sub_self]
 have e:xs.drop d=xs[d]::xs.drop (d+1):=List.drop_eq_getElem_cons h
 rw[e,List.set_cons_zero,KV];simp[List.replicate_succ',List.append_assoc]
theorem Vr(h:d<=xs.length):(KV xs w d).length=xs.length:=by simp[KV];omega
theorem Vs:KV xs w xs.length=List.replicate xs.length (some w):=by simp[KV]
theorem RS(xs:List (Option Nat)) (w:Nat):KV xs w 0=xs:=by simp[KV]
def Av(c:Sc):List AV:=[.bV,I 0,I c.ask,I c.lines,I 0,B false]
def xm(o:On):List AV:=[.bV,I o.push,I 0,I o.lines,I o.vk,B o.reset]
def Fj.Spec(f:Nat):Prop:=∀(l:Option (List Int)) (wild:Bool),C.c f [aI aC l,B wild] (aI Fr.cells (dJ (sB wild (l.getD [])))) none
def RU.Spec(f:Nat):Prop:=C.c f [I 1] (Fl 9218868437227405312) none
def RZ.Spec(f:Nat):Prop:=C.c f [Fl 0,Fl 13830554455654793216] (Fl 9223372036854775808) none
end
section
variable{P:Program} (hm:P.follows .mixedOrders=true) {f:Nat}
include hm
theorem RU.ok(A:bu P f=some CZ):RU.Spec (Pure P) f:=by
 show(Pure P).c f _ _ none
 refine aj hm A [] rfl ?_;try simp only[I,RX,↓KW,seval,CZ,Z.H]
 try rfl
theorem RZ.ok(A:bu P f=some qV):RZ.Spec (Pure P) f:=by
 show(Pure P).c f _ _ none
 refine aj hm A [] rfl ?_;try simp only[RX,↓KW,seval,qV,Z.H]
 try rfl
theorem Fj.ok{fP fN fI fC e e2:Nat} (hc:bu P f=some (mQ fP fN fI fC e e2)) (hP:Place.Spec (Pure P) fP) (hN:LW.Spec (Pure P) fN) (hI:RU.Spec (Pure P) fI) (hC:RZ.Spec (Pure P) fC):Fj.Spec (Pure P) f:=by
 intro l wild;refine aj hm hc [3] rfl ?_;try simp only[B,RX,↓KW,seval,mQ,Z.H]
 refine aD (λi:Nat=>(⟨[(9,.dat (I i) none),(0,.dat (aI aC l) none),(1,.dat (B wild) none),(5,aZ Fr.cells (jM wild (l.getD []) i).2 0),(6,.ptr 6 0),(7,.dat (I (jM wild (l.getD []) i).1.xl) none),(8,.ptr 9 0)],[(6,⟨(jM wild (l.getD []) i).1.xs.map fv,[]⟩),(9,⟨Av (jM wild (l.getD []) i).1,[]⟩)],bA (jM wild (l.getD []) i).2 0 e2,400⟩:S)) (λi=>120-i) (λi=>i<=min (l.getD []).length 120) ?_ 0 ST ?_
 rotate_left
 ·refine ai Ts ?_ ?_ ?_ ?_<;>simp[LX,I,B,jM,Av,GQ,fv,List.replicate]
 intro i hi A back
 have bd:=aA (k:=i) ST
 have ao:=Dp wild (l.getD []) i
 have aa:=L2 (wild:=wild) (l:=l.getD []) (i:=i) ST
 have V:jM wild (l.getD []) (i+1)=if(jM wild (l.getD []) i).2.length<1500 then Nn wild (Zo (l.getD []) i) (jM wild (l.getD []) i)else jM wild (l.getD []) i:=rfl
 generalize hx:jM wild (l.getD []) i=x at*;obtain⟨c,out⟩:=x;simp only at ao aa V
 have dd:N6 (some (aZ Fr.cells out 0))=some (aI Fr.cells (dJ out)):=Np ..
 have b8:yR (aI Fr.cells (dJ out))=some (I out.length):=Nq ..
 have dj:=λk=>Kr Fr.cells out 0 k
 have ae:∀r,out=r->ax (UI (some (aZ Fr.cells out 0))) λp=>p.1=aI Fr.cells (dJ r):=by
  intro r hr;subst hr;exact Vp ..
 have am:=cB dd (cB b8 (dj))
 try simp only[I,B,RY,↓KW,seval]
 rcases bc (decide ((i:Int)<((l.getD []).length:Int)))with h1|h1
 ·try simp only[RY,↓KW,seval,h1]
  exact ae _ (aa (.inl (by have:=dE h1;omega)))
 rcases bc (decide ((i:Int)<120))with h2|h2
 ·try simp only[RY,↓KW,seval,h1,h2]
  exact ae _ (aa (.inl (by have:=dE h2;omega)))
 rcases bc (decide ((out.length:Int)<1500))with h3|h3
 ·try simp only[I,RY,↓KW,seval,h1,h2,h3,am]
  exact ae _ (aa (.inr (by have:=dE h3;omega)))
 have a1:=dC h1
 have a2:=dC h2
 have a3:=dC h3
 rw[et ST]at V
 obtain⟨y,hy⟩:∃y,(l.getD [])[i]? =some y:=⟨_,dT ST⟩
 have cu:(l.getD []).getD i 0=y:=by rw[eh,hy];rfl
 have hv:=Vo (l.getD []) i
 rw[cu]at hv
 obtain⟨v,ce⟩:∃v,Zo (l.getD []) i=v:=⟨_,rfl⟩
 rw[ce]at hv V
 have hb:0<=(i:Int)/\(i:Int)<((l.getD []).length:Int):=ST
 have cP:=hP y 1099511627776 ST
 rw[<-hv.1]at cP
 have n1:IntKind.i64.wrap ((v:Int).tdiv 16)=((v/16:Nat):Int):=by rw[show(v:Int).tdiv 16=((v/16:Nat):Int)from rfl,aU ST ST]
 have n2:((v/16:Nat):Int).tmod 64=((iz v:Nat):Int):=rfl
 have n3:IntKind.i64.wrap ((v:Int).tdiv 1024)=((v/1024:Nat):Int):=by rw[show(v:Int).tdiv 1024=((v/1024:Nat):Int)from rfl,aU ST ST]
 have n4:IntKind.i64.wrap (1+((v/1024:Nat):Int).tmod 30)=((RQ v:Nat):Int):=by rw[show((v/1024:Nat):Int).tmod 30=((v/1024%30:Nat):Int)from rfl,aU ST ST];rfl
 have n5:(v:Int).tmod 16=((v%16:Nat):Int):=rfl
 try simp only[I,RY,↓KW,seval,h2,h3,hy,hb,aC,am]
 refine af cP ?_;try simp only[I,RY,↓KW,seval,n1,n2,n3,n4,n5]
 apply yK (λy:Sc×On=>(⟨[(9,.dat (I i) none),(0,.dat (aI aC l) none),(1,.dat (B wild) none),(5,aZ Fr.cells out 0),(6,.ptr 6 0),(7,.dat (I y.1.xl) none),(8,.ptr 9 0),(12,.dat (I y.2.n) none),(13,.ptr 429 0)],[(6,⟨y.1.xs.map fv,[]⟩),(9,⟨Av y.1,[]⟩),(429,⟨xm y.2,[]⟩)],bA out 0 e2,500⟩:S)) (λy=>y=je wild v c)
 ·intro E
  have ad:=ao.1.xs
  have dq:(v:Int).tdiv 1024=((v/1024:Nat):Int):=rfl
  have b7:((iz v:Nat):Int).tmod 16=((iz v%16:Nat):Int):=rfl
  have m6:((iz v:Nat):Int).tmod 6=((iz v%6:Nat):Int):=rfl
  have m4:((iz v:Nat):Int).tmod 4=((iz v%4:Nat):Int):=rfl
  have m2:((iz v:Nat):Int).tmod 2=((iz v%2:Nat):Int):=rfl
  have cx:((iz v:Nat):Int).tmod 17=((iz v%17:Nat):Int):=rfl
  have bs:((v/1024:Nat):Int).tmod 256=((v/1024%256:Nat):Int):=rfl
  have ck:c.xs[iz v%16]? =some (c.xs.getD (iz v%16) none):=by rw[eh,dT ST];rfl
  have x6:([.fm,.float .f64 9218868437227405312,.float .f64 9223372036854775808,.float .f64 4613937818241073152,.float .f64 4711630319722168320,.float .f64 4604930618986332160]:List AV)[iz v%6]? =some (fv (six.getD (iz v%6) none)):=acS (xs:=six) (by show iz v%6<6;omega)
  have sb:=acQ (c.xs.getD (iz v%16) none)
  have st:=λx=>RR (xs:=c.xs) (k:=iz v%16) (x:=x) ST
  have ct:0<=((iz v%16:Nat):Int)/\((iz v%16:Nat):Int)<16:=ST
  have b6:0<=((iz v%6:Nat):Int)/\((iz v%6:Nat):Int)<6:=ST
  have b4:iz v%16+1<=c.xs.length:=ST
  have cg:setCells [.bV,.int .i64 0,.int .i64 0,.int .i64 0,.int .i64 0,.bool false] 0 [.bV,.int .i64 0,.int .i64 0,.int .i64 0,.int .i64 0,.bool false]=xm (qW v):=rfl
  have sf:∀(c:Sc) (x:Int),(Av c).length=6/\(Av c)[2]? =some (I c.ask)/\(Av c)[3]? =some (I c.lines)/\setCells (Av c) 2 [I x]=Av {c with ask:=x}/\setCells (Av c) 3 [I x]=Av {c with lines:=x}:=λ_ _=>⟨rfl,rfl,rfl,rfl,rfl⟩
  have c0:=λc=>(sf c 0).1
  have cv:=λc=>(sf c 0).2.1
  have da:=λc=>(sf c 0).2.2.1
  have so:∀(o:On) (x:Int),setCells (xm o) 1 [I x]=xm {o with push:=x}/\setCells (xm o) 3 [I x]=xm {o with lines:=x}/\setCells (xm o) 4 [I x]=xm {o with vk:=x}:=λ_ _=>⟨rfl,rfl,rfl⟩
  have cb:∀(o:On) (x:Bool),setCells (xm o) 5 [B x]=xm {o with reset:=x}:=λ_ _=>rfl
  have ci:∀o:On,(xm o).length=6:=λ_=>rfl
  have s4:IntKind.i64.wrap (1*2^min (IntKind.u64.wrap ((iz v%4:Nat):Int)).toNat IntKind.i64.bits)=2^(iz v%4)/\0<=IntKind.u64.wrap ((iz v%4:Nat):Int):=by
   have:iz v%4=0\/iz v%4=1\/iz v%4=2\/iz v%4=3:=ST
   rcases this with h|h|h|h<;>rw[h]<;>decide
  have dl:iz v<64:=by unfold iz;omega
  have s5:IntKind.u64.wrap ((iz v:Nat):Int)=((iz v:Nat):Int):=by
   rw[IntKind.wrap];simp[IntKind.signed,IntKind.bits];omega
  have s6:IntKind.i64.wrap (256*2^min (iz v) IntKind.i64.bits)=Zn (iz v):=rfl
  have s7:0<=((iz v:Nat):Int):=ST
  have n6:IntKind.i64.wrap (((RQ v:Nat):Int)*6)=((RQ v*6:Nat):Int):=by
   have:RQ v<=30:=by unfold RQ;omega
   rw[aU ST ST];omega
  have tn:((iz v:Nat):Int).toNat=iz v:=rfl
  have pf:∀ps,wG 0 1 (some .fm) (some ps)=some ((0,[.fm])::ps):=λ_=>rfl
  have al:=cB pf (cB s4.1 (cB s5 (cB s6 (cB s7 (cB tn (cB n6 (cB n3 (cB b7 (cB m6 (cB m4 (cB m2 (cB cx (cB bs (cB ck (cB x6 (cB sb (cB st (cB ct (cB b6 (cB ad (cB b4 (cB acR (cB RO (cB cg (cB sf (cB c0 (cB cv (cB da (cB so (cB cb (cB ci (am))))))))))))))))))))))))))))))))
  rcases No v with e|e|e|e|e|e|e|e|e|e|e|e|e|e|e|e
  all_goals
   rw[e];try simp only[I,RY,↓KW,seval,al]
  iterate 3
   ·refine⟨ST,?_⟩
    have O:je wild v c=({c with xs:=c.xs.set (iz v%16) (f20 (c.xs.getD (iz v%16) none))},qW v):=by simp[je,e]
    refine E _ _ O.symm ?_
    by_cases M:out=[]
    all_goals refine ai Ts ?_ ?_ ?_ ?_<;>simp[LX,I,B,qW,Av,xm,M,aZ,bA]
  ·refine af hN ?_
   try simp only[RY,↓KW,seval]
   refine af hI ?_;try simp only[RY,↓KW,seval]
   refine af hC ?_;try simp only[RY,↓KW,seval,al]
   refine⟨ST,?_⟩
   have O:je wild v c=({c with xs:=c.xs.set (iz v%16) (six.getD (iz v%6) none)},qW v):=by simp[je,e]
   refine E _ _ O.symm ?_
   by_cases M:out=[]
   all_goals refine ai Ts ?_ ?_ ?_ ?_<;>simp[LX,I,B,qW,Av,xm,M,aZ,bA]
  iterate 2
   ·have O:je wild v c=(c,{qW v with push:=(v/1024%256:Nat)}):=by simp[je,e]
    refine E _ _ O.symm ?_
    by_cases M:out=[]
    all_goals refine ai Ts ?_ ?_ ?_ ?_<;>simp[LX,I,B,qW,Av,xm,M,aZ,bA]
  ·refine⟨s4.2,?_⟩
   have O:je wild v c=({c with ask:=Of .i64 c.ask (2^(iz v%4))},qW v):=by simp[je,e]
   refine E _ _ O.symm ?_
   by_cases M:out=[]
   all_goals refine ai Ts ?_ ?_ ?_ ?_<;>simp[LX,I,B,qW,Av,xm,M,aZ,bA]
  ·refine⟨s4.2,?_⟩
   have O:je wild v c=(c,{qW v with lines:=2^(iz v%4)}):=by simp[je,e]
   refine E _ _ O.symm ?_
   by_cases M:out=[]
   all_goals refine ai Ts ?_ ?_ ?_ ?_<;>simp[LX,I,B,qW,Av,xm,M,aZ,bA]
  ·refine⟨s4.2,?_⟩
   have O:je wild v c=({c with lines:=Of .i64 c.lines (2^(iz v%4))},qW v):=by simp[je,e]
   refine E _ _ O.symm ?_
   by_cases M:out=[]
   all_goals refine ai Ts ?_ ?_ ?_ ?_<;>simp[LX,I,B,qW,Av,xm,M,aZ,bA]
  ·have O:je wild v c=(c,{qW v with n:=RQ v*6}):=by simp[je,e]
   refine E _ _ O.symm ?_
   by_cases M:out=[]
   all_goals refine ai Ts ?_ ?_ ?_ ?_<;>simp[LX,I,B,qW,Av,xm,M,aZ,bA]
  ·have O:je wild v c=({c with xs:=List.replicate 16 (some (FloatKind.f64.nearest (iz v%2*20:Nat)))},qW v):=by simp[je,e]
   have n7:IntKind.i64.wrap (((iz v%2:Nat):Int)*20)=((iz v%2*20:Nat):Int):=by rw[aU ST ST];omega
   obtain⟨w,hw⟩:∃w,FloatKind.f64.nearest (iz v%2*20:Nat)=w:=⟨_,rfl⟩
   rw[hw]at O
   refine aD (λd:Nat=>(⟨[(14,.dat (I d) none),(9,.dat (I i) none),(0,.dat (aI aC l) none),(1,.dat (B wild) none),(5,aZ Fr.cells out 0),(6,.ptr 6 0),(7,.dat (I c.xl) none),(8,.ptr 9 0),(11,.dat (I (iz v)) none),(12,.dat (I (RQ v)) none),(13,.ptr 429 0)],[(6,⟨(KV c.xs w d).map fv,[]⟩),(9,⟨Av c,[]⟩),(429,⟨xm (qW v),[]⟩)],bA out 0 e2,460⟩:S)) (λd=>16-d) (λd=>d<=16) ?_ 0 ST ?_
   rotate_left
   ·by_cases M:out=[]
    all_goals refine ai Ts ?_ ?_ ?_ ?_<;>simp[LX,I,B,RS,qW,Av,xm,M,aZ,bA]
   intro d hd A3 R
   have co:=aA (k:=d) ST
   rcases bc (decide ((d:Int)<16))with g|g
   ·have b3:d=16:=by have:=dE g;omega
    subst b3
    have c6:KV c.xs w 16=List.replicate 16 (some w):=by have:=Vs (xs:=c.xs) w;rw[ad]at this;exact this
    rw[c6];try simp only[I,B,RY,↓KW,seval]
    refine E _ _ O.symm ?_
    by_cases M:out=[]
    all_goals refine ai Ts ?_ ?_ ?_ ?_<;>simp[LX,I,B,qW,Av,xm,M,aZ,bA]
   ·have dp:d<16:=by have:=dC g;omega
    have a5:0<=(d:Int)/\(d:Int)<16:=ST
    have c4:(KV c.xs w d).length=16:=by rw[Vr w ST];exact ad
    have ak:=RR (xs:=KV c.xs w d) (k:=d) (x:=some w) ST
    rw[Vq w ST]at ak
    have ak:setCells ((KV c.xs w d).map fv) d [.float .f64 w]=(KV c.xs w (d+1)).map fv:=ak
    try simp only[I,B,RY,↓KW,seval,a5,ak,c4,n7,hw,al]
    refine⟨ST,R (d+1) _ ST ST ?_⟩
    by_cases M:out=[]
    all_goals refine ai Ts ?_ ?_ ?_ ?_<;>simp[LX,I,B,co,qW,Av,xm,M,aZ,bA]
  ·have O:je wild v c=({c with xl:=iz v%17},qW v):=by simp[je,e]
   refine E _ _ O.symm ?_
   by_cases M:out=[]
   all_goals refine ai Ts ?_ ?_ ?_ ?_<;>simp[LX,I,B,qW,Av,xm,M,aZ,bA]
  ·have O:je wild v c=({c with xl:=16,lines:=0},qW v):=by simp[je,e]
   refine E _ _ O.symm ?_
   by_cases M:out=[]
   all_goals refine ai Ts ?_ ?_ ?_ ?_<;>simp[LX,I,B,qW,Av,xm,M,aZ,bA]
  ·have O:je wild v c=(c,{qW v with push:=if wild&&iz v%4==0 then Zn (iz v)else 0,vk:=if wild&&iz v%4==1 then(v/1024%256:Nat)else 0,reset:=wild&&iz v%2==0}):=by simp[je,e]
   have e0:(((iz v%4:Nat):Int)==0)=(iz v%4==0):=by rw[np];simp;omega
   have e1:(((iz v%4:Nat):Int)==1)=(iz v%4==1):=by rw[np];simp;omega
   have e2:(((iz v%2:Nat):Int)==0)=(iz v%2==0):=by rw[np];simp;omega
   obtain⟨b0,ch⟩:∃b,(iz v%4==0)=b:=⟨_,rfl⟩
   obtain⟨b1,df⟩:∃b,(iz v%4==1)=b:=⟨_,rfl⟩
   obtain⟨b2,a5⟩:∃b,(iz v%2==0)=b:=⟨_,rfl⟩
   rw[ch]at e0 O;rw[df]at e1 O;rw[a5]at e2 O
   have bi:=cB e0 (cB e1 (cB e2 (cB s6 (al))))
   rcases bc wild with hw|hw<;>rcases bc b0 with g0|g0<;>rcases bc b1 with g1|g1<;>rcases bc b2 with g2|g2
   all_goals
    subst hw g0 g1 g2;try simp only[RY,↓KW,seval,bi]
    try refine⟨s7,?_⟩
    try try simp only[I,B,D,RY,↓KW,seval,bi]
    refine E _ _ O.symm ?_
    by_cases M:out=[]
    all_goals refine ai Ts ?_ ?_ ?_ ?_<;>simp[LX,I,B,qW,Av,xm,M,aZ,bA]
  iterate 2
   ·have O:je wild v c=(c,qW v):=by simp[je,e]
    refine E _ _ O.symm ?_
    by_cases M:out=[]
    all_goals refine ai Ts ?_ ?_ ?_ ?_<;>simp[LX,I,B,qW,Av,xm,M,aZ,bA]
 ·rintro _ rfl
  obtain⟨a4,cr⟩:=Ip (wild:=wild) (v:=v) ao.1
  rw[Nn]at V;simp only at V;generalize je wild v c=y at*;obtain⟨L,o⟩:=y;simp only at a4 cr V
  have ad:=a4.xs
  have dn:=a4.xl
  have bj:=GW L.xl L.xs ST
  rw[List.map_take]at bj
  have db:∀c:Sc,(Av c).length=6/\(Av c)[2]? =some (I c.ask)/\(Av c)[3]? =some (I c.lines):=λ_=>⟨rfl,rfl,rfl⟩
  have cy:∀o:On,(xm o).length=6/\(xm o)[1]? =some (I o.push)/\(xm o)[3]? =some (I o.lines)/\(xm o)[4]? =some (I o.vk)/\(xm o)[5]? =some (B o.reset):=λ_=>⟨rfl,rfl,rfl,rfl,rfl⟩
  have ab:aI j4 (dJ (L.xs.take L.xl))=if L.xl=0 then .bV else .sl ((L.xs.take L.xl).map j4):=by
   unfold dJ
   by_cases h0:L.xl=0
   ·simp[h0,aI]
   ·have:¬(L.xs.take L.xl=[]):=by intro h;have:=ne List.length h;rw[B0]at this;simp only[fl]at this;omega
    simp[h0,this,aI]
  obtain⟨ac,a8⟩:∃x,aI j4 (dJ (L.xs.take L.xl))=x:=⟨_,rfl⟩
  rw[a8]at ab
  have c5:∀j,(oH L o j).cells=[ac,I (if j=0 then o.push else 0),I L.ask,I (if j=0 then rP .i64 L.lines o.lines else L.lines),I (if j=0 then o.vk else 0),B (if j=0 then o.reset else false)]:=λj=>by rw[<-a8];rfl
  have cp:out++(List.range 0).map (oH L o)=out:=TB
  try simp only[I,B,RY,↓KW,seval,ad]
  refine⟨⟨ST,ST⟩,⟨ST,ST⟩,?_⟩
  rcases bc (L.xl==0)with h0|h0
  all_goals
   first|rw[ek (by simpa using h0)]at ab|rw[et (by simpa using h0)]at ab
   try simp only[RY,↓KW,seval,h0,<-ab]
   refine aD (λj:Nat=>(⟨[(16,.dat (I j) none),(12,.dat (I o.n) none),(15,.dat (ac) none),(9,.dat (I i) none),(0,.dat (aI aC l) none),(1,.dat (B wild) none),(5,aZ Fr.cells (out++(List.range j).map (oH L o)) 0),(6,.ptr 6 0),(7,.dat (I L.xl) none),(8,.ptr 9 0),(13,.ptr 429 0)],[(6,⟨L.xs.map fv,[]⟩),(9,⟨Av L,[]⟩),(429,⟨xm o,[]⟩)],bA (out++(List.range j).map (oH L o)) 0 e2,600⟩:S)) (λj=>200-j) (λj=>j<=min o.n (1500-out.length)) ?_ 0 ST ?_
   rotate_left
   ·rw[cp]
    by_cases M:out=[]
    all_goals refine ai Ts ?_ ?_ ?_ ?_<;>simp[LX,I,B,ab,bj,M,aZ,bA]
   intro j hj A3 R
   have ca:=aA (k:=j) ST
   have an:=c5 j
   have di:(List.range (j+1)).map (oH L o)=(List.range j).map (oH L o)++[oH L o j]:=by simp[io]
   have au:(out++(List.range j).map (oH L o)).length=out.length+j:=TB
   have bm:out++(List.range (j+1)).map (oH L o)=(out++(List.range j).map (oH L o))++[oH L o j]:=by rw[di,List.append_assoc]
   have bo:Fi L o out=out++(List.range (min o.n (1500-out.length))).map (oH L o):=rfl
   have dk:N6 (some (aZ Fr.cells (out++(List.range j).map (oH L o)) 0))=some (aI Fr.cells (dJ (out++(List.range j).map (oH L o)))):=Np ..
   have a7:yR (aI Fr.cells (dJ (out++(List.range j).map (oH L o))))=some (I (out++(List.range j).map (oH L o)).length):=Nq ..
   have ag:j=min o.n (1500-out.length)->jM wild (l.getD []) (i+1)=(L,out++(List.range j).map (oH L o)):=by intro h;rw[V,bo,<-h]
   have a9:=λk=>Kr Fr.cells (out++(List.range j).map (oH L o)) 0 k
   rw[au]at a7 a9;generalize hq:out++(List.range j).map (oH L o)=q at*;generalize oH L o j=fr at*
   have a6:=cB cy (cB db (cB ca (cB dk (cB a7 (cB a9 (am))))))
   try simp only[I,B,RY,↓KW,seval]
   rcases bc (decide ((j:Int)<((o.n:Nat):Int)))with g1|g1
   ·try simp only[RY,↓KW,seval,g1]
    refine back (i+1) _ ST ST ?_
    have he:=ag (by have:=dE g1;omega)
    by_cases M:q=[]
    all_goals refine ai Ts ?_ ?_ ?_ ?_<;>simp[LX,I,B,bd,he,M,aZ,bA]
   rcases bc (decide (((out.length+j:Nat):Int)<1500))with g2|g2
   ·try simp only[I,RY,↓KW,seval,g1,g2,a6]
    refine back (i+1) _ ST ST ?_
    have he:=ag (by have:=dE g2;omega)
    by_cases M:q=[]
    all_goals refine ai Ts ?_ ?_ ?_ ?_<;>simp[LX,I,B,bd,he,M,aZ,bA]
   have c1:=dC g1
   have c3:=dC g2
   have be:∀a b c d e g a' b' c' d' e' g':AV,setCells [a,b,c,d,e,g] 0 [a',b',c',d',e',g']=[a',b',c',d',e',g']:=λ_ _ _ _ _ _ _ _ _ _ _ _=>rfl
   have b5:∀a b c d e g h:AV,setCells [a,b,c,d,e,g] 1 [h]=[a,h,c,d,e,g]/\setCells [a,b,c,d,e,g] 3 [h]=[a,b,c,h,e,g]/\setCells [a,b,c,d,e,g] 4 [h]=[a,b,c,d,h,g]/\setCells [a,b,c,d,e,g] 5 [h]=[a,b,c,d,e,h]:=λ_ _ _ _ _ _ _=>⟨rfl,rfl,rfl,rfl⟩
   have ba:ac.cells=[ac]/\jo ac none=true:=by rw[ab];first|exact⟨rfl,rfl⟩|(split<;>exact⟨rfl,rfl⟩)
   rcases bc ((j:Int)==0)with z|z
   ·have ar:¬j=0:=by intro h;rw[h]at z;simp at z
    simp only[ek ar]at an
    by_cases M:q=[]
    all_goals
     try simp only[I,RY,↓KW,seval,g1,g2,z,aZ,bA,M,ba,be,au,a6]
     first
      |refine R (j+1) _ ST ST ?_
      |refine⟨ST,λ_ _=>rfl,R (j+1) _ ST ST ?_⟩
     refine ai Ts ?_ ?_ ?_ ?_<;>simp[LX,I,B,bm,an,M,aZ,bA]
   ·have ar:j=0:=by simpa using z
    simp only[et ar]at an
    by_cases M:q=[]
    all_goals
     try simp only[I,B,RY,↓KW,seval,g1,g2,z,aZ,bA,M,ba,be,b5,au,a6]
     first
      |refine R (j+1) _ ST ST ?_
      |refine⟨ST,λ_ _=>rfl,R (j+1) _ ST ST ?_⟩
     refine ai Ts ?_ ?_ ?_ ?_<;>simp[LX,I,B,bm,an,M,aZ,bA]
end
end Go.Eng
