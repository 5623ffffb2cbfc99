/- Part 17 of the engine and its library. -/
import Derived.Test.YtjnbemnncjbmgaaGreatPk16
set_option linter.all false
set_option maxRecDepth 10000
set_option maxHeartbeats 4000000
namespace Go.Eng
open Go
section
open Z
def JY:List AV:=(⟨_,by conv=>lhs;cbv⟩:bS (O9 [(4,16)])).1
def ot(g0 O g2 Z g4 D:Nat):bJ:=⟨200,[.tmp 4],r [V 4 .aZ] (r [V 5 .aZ] (r [o 6 (.alloc JY)] (r [V 7 (i 16)] (r [o 18 (.build [.aZ,i 0,i 0,i 0,i 0,F] []),o 8 (.alloc [.aZ,i 0,i 0,i 0,i 0,F]),n (s 8 18 6)] (j (r [V 9 (i 0)] (u 0 (.loop (j (r [M 19 9,M 20 0,o 21 (h 20),o 22 (b .lss 19 21),M 23 22,p 24 (m 9) 23,p 25 (bb .lss 24 (i 120)) 23,o 26 (P 23 25),M 27 26,p 28 (m 5) 27,p 29 (h 28) 27,p 30 (bb .lss 29 (i 1500)) 27,o 31 (P 27 30)] (c 31 z (.exit 0))) (j (u 1 (r [M 34 0,M 35 9,o 36 (a 34 35 1),o 37 (l 36),o 38 (.call g0 [t 37,k (i 1099511627776)]),M 10 38] (r [M 39 10,o 40 (bb .quo 39 (i 16)),o 41 (bb .rem 40 (i 64)),M 11 41] (r [M 42 10,o 43 (bb .quo 42 (i 1024)),o 44 (bb .rem 43 (i 30)),o 45 (.bin .add (k (i 1)) (t 44)),M 12 45] (r [o 46 (.build [.aZ,i 0,i 0,i 0,i 0,F] []),o 13 (.alloc [.aZ,i 0,i 0,i 0,i 0,F]),n (s 13 46 6)] (j (r [M 47 10,o 48 (bb .rem 47 (i 16))] (u 2 (j (r [o 50 (bb .eql 48 (i 0)),M 49 50] (c 49 z (r [o 51 (bb .eql 48 (i 1)),M 49 51] (c 49 z (R [o 52 (bb .eql 48 (i 2)),M 49 52]))))) (c 49 (R [M 53 11,o 54 (bb .rem 53 (i 16)),M 55 11,o 56 (bb .rem 55 (i 16)),o 57 (A 6 56 16 1),o 58 (l 57),o 59 (.bin .sub (k (.float .f64 4626322717216342016)) (t 58)),o 60 (A 6 54 16 1),n (s 60 59 1)]) (r [o 62 (bb .eql 48 (i 3)),M 61 62] (c 61 (R [M 63 11,o 64 (bb .rem 63 (i 16)),o 65 (.call O []),o 66 (.call g2 [k (i 1)]),o 67 (.call Z [k (.float .f64 0),k (.float .f64 13830554455654793216)]),o 68 (.build [.float .f64 0,.float .f64 0,.float .f64 0,.float .f64 0,.float .f64 0,.float .f64 0] [(0,1,t 65),(1,1,t 66),(2,1,t 67),(3,1,k (.float .f64 4613937818241073152)),(4,1,k (.float .f64 4711630319722168320)),(5,1,k (.float .f64 4604930618986332160))]),M 69 11,o 70 (bb .rem 69 (i 6)),o 71 (.FT (t 68) (t 70) 6 1 none),o 72 (A 6 64 16 1),n (s 72 71 1)]) (j (r [o 74 (bb .eql 48 (i 4)),M 73 74] (c 73 z (R [o 75 (bb .eql 48 (i 5)),M 73 75]))) (c 73 (R [M 76 10,o 77 (bb .quo 76 (i 1024)),o 78 (bb .rem 77 (i 256)),o 79 (f 13 1),n (s 79 78 1)]) (r [o 81 (bb .eql 48 (i 6)),M 80 81] (c 80 (R [o 82 (f 8 2),o 83 (l 82),M 84 11,o 85 (bb .rem 84 (i 4)),o 86 (.vQ .u64 (t 85)),o 87 (.bin .shl (k (i 1)) (t 86)),o 88 (b .xor 83 87),o 89 (f 8 2),n (s 89 88 1)]) (r [o 91 (bb .eql 48 (i 7)),M 90 91] (c 90 (R [M 92 11,o 93 (bb .rem 92 (i 4)),o 94 (.vQ .u64 (t 93)),o 95 (.bin .shl (k (i 1)) (t 94)),o 96 (f 13 3),n (s 96 95 1)]) (r [o 98 (bb .eql 48 (i 8)),M 97 98] (c 97 (R [o 99 (f 8 3),o 100 (l 99),M 101 11,o 102 (bb .rem 101 (i 4)),o 103 (.vQ .u64 (t 102)),o 104 (.bin .shl (k (i 1)) (t 103)),o 105 (b .xor 100 104),o 106 (f 8 3),n (s 106 105 1)]) (r [o 108 (bb .eql 48 (i 9)),M 107 108] (c 107 (R [M 109 12,o 110 (bb .mul 109 (i 6)),M 12 110]) (r [o 112 (bb .eql 48 (i 10)),M 111 112] (c 111 (r [V 14 (i 0)] (u 3 (.loop (j (r [M 113 14,o 114 (bb .lss 113 (i 16))] (c 114 z (.exit 3))) (j (u 4 (R [M 117 14,M 118 11,o 119 (bb .rem 118 (i 2)),o 120 (bb .mul 119 (i 20)),o 121 (.I1 .f64 (t 120)),o 122 (A 6 117 16 1),n (s 122 121 1)])) (R [M 115 14,o 116 (bb .add 115 (i 1)),M 14 116])))))) (r [o 124 (bb .eql 48 (i 11)),M 123 124] (c 123 (R [M 125 11,o 126 (bb .rem 125 (i 17)),M 7 126]) (r [o 128 (bb .eql 48 (i 12)),M 127 128] (c 127 (r [o 129 (f 8 3),n (ss 129 (i 0) 1)] (R [V 7 (i 16)])) (r [o 131 (bb .eql 48 (i 13)),M 130 131] (c 130 (j (r [M 132 1,M 133 132,p 134 (m 11) 133,p 135 (bb .rem 134 (i 4)) 133,p 136 (bb .eql 135 (i 0)) 133,o 137 (P 133 136)] (c 137 (R [M 138 11,o 139 (.vQ .u64 (t 138)),o 140 (.bin .shl (k (i 256)) (t 139)),o 141 (f 13 1),n (s 141 140 1)]) z)) (j (r [M 142 1,M 143 142,p 144 (m 11) 143,p 145 (bb .rem 144 (i 4)) 143,p 146 (bb .eql 145 (i 1)) 143,o 147 (P 143 146)] (c 147 (R [M 148 10,o 149 (bb .quo 148 (i 1024)),o 150 (bb .rem 149 (i 256)),o 151 (f 13 4),n (s 151 150 1)]) z)) (R [M 152 1,M 153 152,p 154 (m 11) 153,p 155 (bb .rem 154 (i 2)) 153,p 156 (bb .eql 155 (i 0)) 153,o 157 (P 153 156),o 158 (f 13 5),n (s 158 157 1)]))) z)))))))))))))))))))))))) (r [M 159 7,o 160 (.slV (t 6) 16 1 (t 159)),o 161 (.FV g4 1 8 (t 160) (t 6)),M 15 161] (r [V 16 (i 0)] (u 5 (.loop (j (r [M 162 16,M 163 12,o 164 (b .lss 162 163),M 165 164,p 166 (m 5) 165,p 167 (h 166) 165,p 168 (bb .lss 167 (i 1500)) 165,o 169 (P 165 168)] (c 169 z (.exit 5))) (j (u 6 (r [M 172 15,o 173 (f 8 2),o 174 (l 173),o 175 (f 8 3),o 176 (l 175),o 177 (.build [.aZ,i 0,i 0,i 0,i 0,F] [(0,1,t 172),(2,1,t 174),(3,1,t 176)]),o 17 (.alloc [.aZ,i 0,i 0,i 0,i 0,F]),n (s 17 177 6)] (j (r [M 178 16,o 179 (bb .eql 178 (i 0))] (c 179 (r [o 180 (f 13 1),o 181 (l 180),o 182 (f 17 1),n (s 182 181 1)] (r [o 183 (f 13 4),o 184 (l 183),o 185 (f 17 4),n (s 185 184 1)] (r [o 186 (f 17 3),o 187 (l 186),o 188 (f 13 3),o 189 (l 188),o 190 (b .or 187 189),o 191 (f 17 3),n (s 191 190 1)] (R [o 192 (f 13 5),o 193 (l 192),o 194 (f 17 5),n (s 194 193 1)])))) z)) (R [M 195 5,o 196 (L 17 6),o 197 (.U6 D 6 [t 196]),o 198 (.app D 6 64 (t 195) (t 197)),M 5 198])))) (R [M 170 16,o 171 (bb .add 170 (i 1)),M 16 171]))))))))))))) (R [M 32 9,o 33 (bb .add 32 (i 1)),M 9 33])))))) (r [M 199 5,M 4 199] y))))))⟩
def EX:bJ:=(⟨_,by conv=>lhs;cbv⟩:bS (cE 2 [.tmp 0] [] [] 0x50000710060810 [] [.float .f64 0] [.xt .ffrom (.k (.int .u64 9221120237041090561))])).1
def EY:bJ:=(⟨_,by conv=>lhs;cbv⟩:bS (cE 8 [.tmp 2] [] [0] 0x141001c1806079a044b34088201010178d8480c7608064810 [] [.float .f64 0,.int .u64 0,.int .u64 9218868437227405312,.int .u64 18442240474082181120] [.xt .ffrom (.t 6)])).1
def tI:bJ:=(⟨_,by conv=>lhs;cbv⟩:bS (cE 13 [.tmp 4] [] [] 0x284013819863c1462ec11e1030740c8068810 [] [.float .f64 0,.int .u64 9223372036854775808] [.xt .Mo (.t 5),.xt .Mo (.t 8),.xt .ffrom (.t 11)])).1
end
section
variable (C:aT) (d:Bo) (c:Ch) (f:Nat) (x:Option Nat)
def ann(x:Nat):Bool:=U0 x 13920209183539462144&&T6 x 4696837146684686336
def lvN(on:Bool) (dG:Int) (x:Nat):Bool×Int:=
 if ann x then(if U0 x d.on then(true,0)else if T6 x d.off then(false,0)else(on,0))else(on,bt dG)
def Oa(on:Bool) (dG:Int):Option Nat->Bool×Int
 |some x=>lvN d on dG x
 |none=>(on,bt dG)
def EZ(on:Bool) (dG:Int):Bool:=on||decide (dG>=3)
def dgE(Zg I8:Int) (b:Bool):Int×Int:=if b then(bt Zg,0)else(0,bt I8)
def abL(a b Zg I8:Int):Bool:=(decide (a>0)&&decide (Zg>=a))||(decide (b>0)&&decide (I8>=b))
def c9(n:Int):Int:=gM n 0 9999
def dlE(delay extend held tail:Int) (out b:Bool):Int×Int×Bool:=
 if !b&&(held==0&&(tail==0&&out==false))then(held,tail,out)
 else if(if b then bt held else 0)>c9 delay then((if b then bt held else 0),c9 extend,true)
 else if out&&decide (c9 tail>0)then((if b then bt held else 0),c9 tail-1,true)
 else((if b then bt held else 0),0,false)
def Qa(x:Nat):Int:=if Zf x then(tk x:Int)else 0
def Qb:Ch :=
  ⟨(Oa d c.on c.dG x).1,(Oa d c.on c.dG x).2,(dgE c.Zg c.I8 (EZ (Oa d c.on c.dG x).1 (Oa d c.on c.dG x).2)).1,(dgE c.Zg c.I8 (EZ (Oa d c.on c.dG x).1 (Oa d c.on c.dG x).2)).2,
   (dlE (Qa d.delay) (Qa d.extend) c.held c.tail c.out (EZ (Oa d c.on c.dG x).1 (Oa d c.on c.dG x).2)).1,(dlE (Qa d.delay) (Qa d.extend) c.held c.tail c.out (EZ (Oa d c.on c.dG x).1 (Oa d c.on c.dG x).2)).2.1,(dlE (Qa d.delay) (Qa d.extend) c.held c.tail c.out (EZ (Oa d c.on c.dG x).1 (Oa d c.on c.dG x).2)).2.2⟩
def ano:Nat:=9221120237041090561
def HQ(l:List Ch) (k:Nat):Ch:=l.getD k default
def Ob(l:List (Option Nat)) (k:Nat):Option Nat:=l.getD k none
def rz(t:Tb) (l:List Ch) (x:List (Option Nat)) (n:Nat):List Ch:=(List.range n).map λk=>Qb (Nz t k) (HQ l k) (Ob x k)
def kC:List AV:=[fv x]
def JZ:Bool:=c.out||(decide (c.dG>=3)||abL d.maxOn d.wN c.Zg c.I8)
def lR(t:Tb) (l:List Ch):Nat->Int
 |0=>0
 |k+1=>if JZ (Nz t k) (HQ l k)then eJ (lR t l k) (Nz t k).phase else lR t l k
def xM.Spec:Prop:=∀n:Int,C.c f [I n] (I (bt n)) none
def HR.Spec:Prop:=∀(d:Bo) (on:Bool) (dG:Int) (x:Option Nat),C.c f [.agg d.cells,.agg [B on,I dG],fv x] (.agg [B (Oa d on dG x).1,I (Oa d on dG x).2]) none
def DC.Spec:Prop:=∀(on:Bool) (dG:Int),C.c f [.agg [B on,I dG]] (B (decide (dG>=3))) none
def HS.Spec:Prop:=∀(on:Bool) (dG:Int),C.c f [.agg [B on,I dG]] (B (EZ on dG)) none
def HT.Spec:Prop:=∀(a b:Int) (x:Bool),C.c f [.agg [I a,I b],B x] (.agg [I (dgE a b x).1,I (dgE a b x).2]) none
def Cr.Spec:Prop:=∀(a b x y:Int),C.c f [I a,I b,.agg [I x,I y]] (B (abL a b x y)) none
def Oc.Spec:Prop:=∀n:Int,C.c f [I n] (I (c9 n)) none
def HU.Spec:Prop:=∀(a b held tail:Int) (out x:Bool),C.c f [I a,I b,.agg [I held,I tail,B out],B x] (.agg [I (dlE a b held tail out x).1,I (dlE a b held tail out x).2.1,B (dlE a b held tail out x).2.2]) none
def Od.Spec:Prop:=∀(l:Option (List Ch)) (k:Nat),(l.getD []).length<=1000000->C.c f [aI Ch.cells l,I k,.agg (Ch.cells default)] (.agg (HQ (l.getD []) k).cells) none
def Oe.Spec:Prop:=∀(l:Option (List (Option Nat))) (k:Nat),(l.getD []).length<=1000000->C.c f [aI kC l,I k,.gn] (fv (Ob (l.getD []) k)) none
def Ct.Spec:Prop:=∀x:Nat,x<2^64->C.c f [Fl x] (I (Qa x)) none
def Uw.Spec:Prop:=C.c f [] .gn none
end
section
variable{P:Program} (hm:P.follows .mixedOrders=true) {f:Nat}
include hm
theorem xM.ok(D:bK P f=some zG):xM.Spec (Pure P) f:=by
 intro n
 have L:=XA n
 refine aq hm D [] rfl ?_;try simp only[I,RX,↓KW,seval,zG,Z.H]
 rw[L];rfl
theorem agL.ok(D:bK P f=some Cc):xM.Spec (Pure P) f:=by
 intro n
 have L:=XA n
 refine aq hm D [] rfl ?_;try simp only[I,RX,↓KW,seval,Cc,Z.H]
 rw[L];rfl
theorem Oc.ok(D:bK P f=some Cd):Oc.Spec (Pure P) f:=by
 intro n
 have L:=XA n
 refine aq hm D [] rfl ?_;try simp only[I,RX,↓KW,seval,Cd,Z.H]
 rw[L];rfl
theorem Uw.ok(D:bK P f=some EX):Uw.Spec (Pure P) f:=by
 show(Pure P).c f [] .gn none
 refine afM (n:=ano) (by decide+kernel) ?_
 refine aq hm D [] rfl ?_;try simp only[RX,↓KW,seval,EX,Z.H]
 all_goals rfl
theorem Ct.ok{D:Nat} (L:bK P f=some (vF D)) (hS:GZ.Spec (Pure P) D):Ct.Spec (Pure P) f:=by
 intro x M;refine aq hm L [] rfl ?_;try simp only[I,RX,↓KW,seval,vF,Z.H]
 refine af (hS x M) ?_;try simp only[I,B,RX,↓KW,seval,T9]
 rfl
theorem DC.ok(D:bK P f=some vG):DC.Spec (Pure P) f:=by
 intro on dG;refine aq hm D [] rfl ?_;try simp only[I,B,RX,↓KW,seval,vG,Z.H]
 try rfl
theorem HS.ok{D:Nat} (L:bK P f=some (zB D)) (hF:DC.Spec (Pure P) D):HS.Spec (Pure P) f:=by
 intro on dG;refine aq hm L [] rfl ?_;try simp only[I,B,RX,↓KW,seval,zB,Z.H]
 cases on
 ·try simp only[RX,↓KW,seval]
  refine af (hF false dG) ?_;try simp only[B,RX,↓KW,seval]
  simp[EZ]
 ·try simp only[RX,↓KW,seval]
  simp[EZ]
theorem HR.ok{R:Nat} (O:bK P f=some (rZ R)) (V:xM.Spec (Pure P) R):HR.Spec (Pure P) f:=by
 intro d on dG x
 have q1:d.cells[1]? =some (Fl d.on)/\d.cells[2]? =some (Fl d.off):=⟨rfl,rfl⟩
 cases x with
 |none=>
  have hE:Oa d on dG none=(on,bt dG):=rfl
  rw[hE]
  show(Pure P).c f [.agg d.cells,.agg [B on,I dG],.gn] _ none
  refine aq hm O [] rfl ?_;try simp only[I,B,RX,↓KW,seval,rZ,Z.H,NAN,XE]
  refine af (V _) ?_;try simp only[I,RX,↓KW,seval]
 |some x=>
  show(Pure P).c f [.agg d.cells,.agg [B on,I dG],Fl x] _ none
  have hE:Oa d on dG (some x)=if U0 x 13920209183539462144&&T6 x 4696837146684686336 then(if U0 x d.on then(true,0)else if T6 x d.off then(false,0)else(on,0))else(on,bt dG):=rfl
  generalize Oa d on dG (some x)=res at*;refine aq hm O [] rfl ?_;try simp only[I,B,RX,↓KW,seval,rZ,Z.H,FLW]
  cases h1:U0 x 13920209183539462144<;>cases M:T6 x 4696837146684686336<;>cases L:U0 x d.on<;>cases h4:T6 x d.off<;>rw[h1,M,L,h4]at hE
  all_goals try simp only[RX,↓KW,seval,M,L,h4,FLW,q1]
  all_goals try simp only[I,B,D,RX,↓KW,seval,h1,M,L,h4,FLW,q1]
  all_goals(try(refine af (V _) ?_))
  all_goals try simp only[I,RX,↓KW,seval]
  all_goals(rw[hE];rfl)
theorem HT.ok{D:Nat} (M:bK P f=some (B9 D)) (L:xM.Spec (Pure P) D):HT.Spec (Pure P) f:=by
 intro a b x;refine aq hm M [] rfl ?_;try simp only[I,B,RX,↓KW,seval,B9,Z.H]
 cases x
 ·try simp only[RX,↓KW,seval]
  refine af (L _) ?_;try simp only[I,RX,↓KW,seval]
  rfl
 ·try simp only[RX,↓KW,seval]
  refine af (L _) ?_;try simp only[I,RX,↓KW,seval]
  rfl
theorem Cr.ok(R:bK P f=some zD):Cr.Spec (Pure P) f:=by
 intro a b x y;refine aq hm R [] rfl ?_;try simp only[I,B,RX,↓KW,seval,zD,Z.H]
 cases O:decide (a>0)<;>cases M:decide (x>=a)<;>cases L:decide (b>0)<;>cases h4:decide (y>=b)<;>
 (try simp only[RX,↓KW,seval,M,L,h4];try(try simp only[I,B,D,RX,↓KW,seval,O,M,L,h4]);simp[abL,O,M,L,h4])
end
section
variable{P:Program} (hm:P.follows .mixedOrders=true) {f:Nat}
include hm
theorem HU.ok{fC:Nat} (hc:bK P f=some (zC fC)) (hC:Oc.Spec (Pure P) fC):HU.Spec (Pure P) f:=by
 intro a b held tail out x
 have hE:dlE a b held tail out x=if(!x&&(held==0&&(tail==0&&out==false)))=true then(held,tail,out)
  else if decide ((if x then bt held else 0)>c9 a)=true then((if x then bt held else 0),c9 b,true)
  else if(out&&decide (c9 tail>0))=true then((if x then bt held else 0),c9 tail-1,true)
  else((if x then bt held else 0),0,false):=by simp only[dlE,ii]
 have hw:IntKind.i64.wrap (c9 held+1)=bt held:=by
  have:0<=c9 held/\c9 held<=9999:=by unfold c9 gM;split<;>(try split)<;>omega
  rfl
 have V:IntKind.i64.wrap (c9 tail-1)=c9 tail-1:=by
  have:0<=c9 tail/\c9 tail<=9999:=by unfold c9 gM;split<;>(try split)<;>omega
  rw[aU ado ado]
 generalize dlE a b held tail out x=res at*;refine aq hm hc [] rfl ?_;try simp only[I,B,D,RX,↓KW,seval,zC,Z.H]
 have qe:cV [.i,.i,.b] [.int .i64 held,.int .i64 tail,.bool out] [.int .i64 0,.int .i64 0,.bool false]=some (held==0&&(tail==0&&out==false)):=by
  simp[cV,tS]
 have qf:(false !=false)=false:=rfl
 have qt:(true !=false)=true:=rfl
 rcases bc x with O|O
 ·try simp only[I,B,D,RX,↓KW,seval,O,qe]
  rcases bc (held==0&&(tail==0&&out==false))with R|R
  ·try simp only[I,B,D,RX,↓KW,seval,R,qf]
   refine af (hC _) ?_;try simp only[I,B,D,RX,↓KW,seval]
   refine af (hC _) ?_;try simp only[I,B,D,RX,↓KW,seval]
   rcases bc (decide (0>c9 a))with L|L
   ·try simp only[I,B,D,RX,↓KW,seval,L]
    rcases bc out with M|M
    ·try simp only[I,B,D,RX,↓KW,seval,M]
     rw[hE,O,R];simp only[L,M,pd,po,py,px,sh,pm,eQ,kw,il]
    ·try simp only[I,B,D,RX,↓KW,seval,M]
     rcases bc (decide (c9 tail>0))with h4|h4
     ·try simp only[I,B,D,RX,↓KW,seval,h4]
      rw[hE,O,R];simp only[L,M,h4,pd,po,py,px,sh,pm,eQ,kw,il]
     ·try simp only[I,B,D,RX,↓KW,seval,h4,V]
      rw[hE,O,R];simp only[L,M,h4,pd,po,py,px,sh,pm,eQ,kw,il]
   ·try simp only[I,B,D,RX,↓KW,seval,L]
    refine af (hC b) ?_;try simp only[I,B,D,RX,↓KW,seval]
    rw[hE,O,R];simp only[L,pd,po,py,px,sh,pm,eQ,kw,il]
  ·try simp only[I,B,D,RX,↓KW,seval,R,qt]
   rw[hE,O,R];rfl
 ·try simp only[I,B,D,RX,↓KW,seval,O]
  refine af (hC _) ?_;try simp only[I,B,D,RX,↓KW,seval,hw]
  refine af (hC _) ?_;try simp only[I,B,D,RX,↓KW,seval,hw]
  refine af (hC _) ?_;try simp only[I,B,D,RX,↓KW,seval,hw]
  rcases bc (decide (bt held>c9 a))with L|L
  ·try simp only[I,B,D,RX,↓KW,seval,L]
   rcases bc out with M|M
   ·try simp only[I,B,D,RX,↓KW,seval,M]
    rw[hE,O];simp only[L,M,pd,po,py,px,sh,pm,eQ,kw,il]
   ·try simp only[I,B,D,RX,↓KW,seval,M]
    rcases bc (decide (c9 tail>0))with h4|h4
    ·try simp only[I,B,D,RX,↓KW,seval,h4]
     rw[hE,O];simp only[L,M,h4,pd,po,py,px,sh,pm,eQ,kw,il]
    ·try simp only[I,B,D,RX,↓KW,seval,h4,V]
     rw[hE,O];simp only[L,M,h4,pd,po,py,px,sh,pm,eQ,kw,il]
  ·try simp only[I,B,D,RX,↓KW,seval,L]
   refine af (hC b) ?_;try simp only[I,B,D,RX,↓KW,seval]
   rw[hE,O];simp only[L,pd,po,py,px,sh,pm,eQ,kw,il]
theorem Oe.ok(R:bK P f=some nP):Oe.Spec (Pure P) f:=by
 intro l k hl
 have V:∀x,kC x=[fv x]:=λ_=>rfl
 refine aq hm R [] rfl ?_;try simp only[I,B,D,RX,↓KW,seval,nP,Z.H,XE]
 rcases bc (decide ((k:Int)<((l.getD []).length:Int)))with h|h
 ·have L:(l.getD []).length<=k:=by have:=dT h;omega
  have M:Ob (l.getD []) k=none:=by simp[Ob,L]
  try simp only[I,B,D,RX,↓KW,seval,h]
  rw[M];rfl
 ·have L:k<(l.getD []).length:=by have:=dE h;omega
  obtain⟨x,O⟩:∃x,(l.getD [])[k]? =some x:=⟨_,eh L⟩
  have M:Ob (l.getD []) k=x:=by rw[Ob,em,O];rfl
  have hy:0<=(k:Int)/\(k:Int)<((l.getD []).length:Int):=ado
  try simp only[I,B,D,RX,↓KW,seval,h,O,hy,V]
  rw[M]
end
def HV.Spec(C:aT) (f:Nat):Prop:=∀(t:Tb) (l:Option (List Ch)) (x:Option (List (Option Nat))),t.Ok->t.Fw->(l.getD []).length<=1000000->(x.getD []).length<=1000000->C.c f [.agg t.cells,aI Ch.cells l,aI kC x] (aI Ch.cells (ez (rz t (l.getD []) (x.getD []) (t.aV.getD []).length))) none
section
variable{P:Program} (hm:P.follows .mixedOrders=true) {f:Nat}
include hm
theorem Od.ok(hc:bK P f=some kq):Od.Spec (Pure P) f:=by
 intro l k hl
 have R:(Ch.cells default).length=7:=rfl
 have L:aB (Ch.cells default) 0 (some 7)=some (.agg (Ch.cells default)):=rfl
 have hq:∀x:Ch,x.cells.length=7/\aB x.cells 0 (some 7)=some (.agg x.cells)/\x.cells.take 7=x.cells:=λ_=>⟨rfl,rfl,rfl⟩
 refine aq hm hc [] rfl ?_;try simp only[I,B,D,RX,↓KW,seval,kq,Z.H,R,L]
 rcases bc (decide ((k:Int)<((l.getD []).length:Int)))with h|h
 ·have M:(l.getD []).length<=k:=by have:=dT h;omega
  have O:HQ (l.getD []) k=default:=by simp[HQ,M]
  try simp only[I,B,D,RX,↓KW,seval,h,R,L]
  rw[O]
 ·have M:k<(l.getD []).length:=by have:=dE h;omega
  obtain⟨x,V⟩:∃x,(l.getD [])[k]? =some x:=⟨_,eh M⟩
  have O:HQ (l.getD []) k=x:=by rw[HQ,em,V];rfl
  have hy:0<=(k:Int)/\(k:Int)<((l.getD []).length:Int):=ado
  try simp only[I,B,D,RX,↓KW,seval,h,V,hy,hq]
  rw[O]
theorem HV.ok{fA fN fF fL fS fG fT fY e:Nat} (hc:bK P f=some (qa fA fN fF fL fS fG fT fY e)) (hA:Od.Spec (Pure P) fA) (hN:Uw.Spec (Pure P) fN) (hF:Oe.Spec (Pure P) fF) (hL:HR.Spec (Pure P) fL) (hS:HS.Spec (Pure P) fS) (hG:HT.Spec (Pure P) fG) (hT:Ct.Spec (Pure P) fT) (hY:HU.Spec (Pure P) fY):HV.Spec (Pure P) f:=by
 intro t l x ht aa ad ac
 have hl:=Tb.len ht
 have hd:=ht.ln.Wt
 have am:=ht.aj6
 refine aq hm hc [] rfl ?_;try simp only[I,B,D,RX,↓KW,seval,qa,Z.H,hl,hd]
 refine aG (λk:Nat=>(⟨[(16,.dat (I k) none),(15,.dat (I (t.aV.getD []).length) none),(14,.dat (aI Bo.cells t.aV) none),(1,.dat (aI Ch.cells l) none),(2,.dat (aI kC x) none),(7,bN Ch.cells (rz t (l.getD []) (x.getD []) k) 0)],[],cm (rz t (l.getD []) (x.getD []) k) 0 e,400⟩:S)) (λk=>(t.aV.getD []).length-k) (λk=>k<=(t.aV.getD []).length) ?_ 0 ado ?_
 ·intro k hk A back
  have ak:=aC (k:=k) ado
  have O:rz t (l.getD []) (x.getD []) (k+1)=rz t (l.getD []) (x.getD []) k++[Qb (Nz t k) (HQ (l.getD []) k) (Ob (x.getD []) k)]:=by simp[rz,lj]
  try simp only[I,B,D,RX,↓KW,seval]
  rcases bc (decide ((k:Int)<((t.aV.getD []).length:Int)))with h|h
  ·have ag:k=(t.aV.getD []).length:=by have:=dT h;omega
   subst ag
   by_cases L:rz t (l.getD []) (x.getD []) (t.aV.getD []).length=[]
   ·try simp only[I,B,D,RX,↓KW,seval,h,bN,cm,L]
    rfl
   ·try simp only[I,B,D,RX,↓KW,seval,h,bN,cm,L]
    simp[aI,ez,L]
  ·have h1:k<(t.aV.getD []).length:=by have:=dE h;omega
   obtain⟨d,hx⟩:∃d,(t.aV.getD [])[k]? =some d:=⟨_,eh h1⟩
   have ab:Nz t k=d:=by rw[Nz,em,hx];rfl
   have V:d.Fw:=aa d (er hx)
   have hy:0<=(k:Int)/\(k:Int)<((t.aV.getD []).length:Int):=ado
   have M:d.cells.length=7/\aB d.cells 0 (some 7)=some (.agg d.cells)/\d.cells.take 7=d.cells/\d.cells[3]? =some (Fl d.delay)/\d.cells[4]? =some (Fl d.extend):=⟨rfl,rfl,rfl,rfl,rfl⟩
   have hz:∀y:List AV,y.length=7->setCells [.int .i64 0,.float .f64 0,.float .f64 0,.float .f64 0,.float .f64 0,.int .i64 0,.int .i64 0] 0 y=y:=by intro y hy;exact aM (by rw[hy];rfl)
   generalize ae:rz t (l.getD []) (x.getD []) k=cs at*
   obtain⟨c,R⟩:∃c,HQ (l.getD []) k=c:=⟨_,rfl⟩
   obtain⟨v,hv⟩:∃v,Ob (x.getD []) k=v:=⟨_,rfl⟩
   have cA:=hA l k ad
   have cF:=hF x k ac
   rw[R]at cA;rw[hv]at cF;rw[ab,R,hv]at O
   by_cases L:cs=[]
   all_goals
    try simp only[I,B,D,RX,↓KW,seval,bN,cm,L,h,hx,hy,M]
    refine af cA ?_;try simp only[I,B,D,RX,↓KW,seval,Ch.cells,M]
    refine af hN ?_;try simp only[I,B,D,RX,↓KW,seval,Ch.cells,M]
    refine af cF ?_;try simp only[I,B,D,RX,↓KW,seval,Ch.cells,M]
    refine af (hL d c.on c.dG v) ?_;try simp only[I,B,D,RX,↓KW,seval,Ch.cells,M]
    refine af (hS _ _) ?_;try simp only[I,B,D,RX,↓KW,seval,Ch.cells,M]
    refine af (hG _ _ _) ?_;try simp only[I,B,D,RX,↓KW,seval,Ch.cells,M]
    refine af (hT d.delay (by obtain⟨_,_,h,_⟩:=V;exact h)) ?_
    try simp only[I,B,D,RX,↓KW,seval,Ch.cells,M]
    refine af (hT d.extend (by obtain⟨_,_,_,h⟩:=V;exact h)) ?_
    try simp only[I,B,D,RX,↓KW,seval,Ch.cells,M]
    refine af (hY _ _ _ _ _ _) ?_;try simp only[I,B,D,RX,↓KW,seval,Ch.cells,M]
    first
     |refine back (k+1) _ ado ado ?_
     |(have al:cs.length=k:=by{rw[<-ae];simp[rz]}
       refine⟨ado,back (k+1) _ ado ado ?_⟩)
    refine ai adp ?_ ?_ ?_ ?_<;>simp[LX,I,B,D,O,L,ak,bN,cm,Qb,Ch.cells]
 ·refine ai adp ?_ ?_ ?_ ?_<;>simp[LX,I,B,D,bN,cm,rz]
end
def HW(t:Tb) (l:List Ch):Nat:=min l.length (t.aV.getD []).length
def HX.Spec(C:aT) (f:Nat):Prop:=∀(t:Tb) (l:Option (List Ch)),t.Ok->(l.getD []).length<=1000000->C.c f [.agg t.cells,aI Ch.cells l] (I (lR t (l.getD []) (HW t (l.getD [])))) none
section
variable{P:Program} (hm:P.follows .mixedOrders=true) {f:Nat}
include hm
theorem HX.ok{fF fS fW:Nat} (hc:bK P f=some (xG fF fS fW)) (hF:DC.Spec (Pure P) fF) (hS:Cr.Spec (Pure P) fS) (hW:jb.Spec (Pure P) fW):HX.Spec (Pure P) f:=by
 intro t l ht ak
 have hl:=Tb.len ht
 have hd:=ht.ln.Wt
 have ae:=ht.aj6
 refine aq hm hc [] rfl ?_;try simp only[I,B,D,RX,↓KW,seval,xG,Z.H,hl,hd]
 refine aG (λk:Nat=>(⟨[(11,.dat (I k) none),(10,.dat (I (l.getD []).length) none),(9,.dat (aI Ch.cells l) none),(2,.ptr 4 0),(5,.dat (I (lR t (l.getD []) k)) none)],[(4,⟨t.cells,[]⟩)],[],400⟩:S)) (λk=>(l.getD []).length-k) (λk=>k<=(l.getD []).length/\k<=(t.aV.getD []).length) ?_ 0 ado ?_
 ·rintro k ⟨hk,ag⟩ A back
  have O:=aC (k:=k) ado
  try simp only[I,B,D,RX,↓KW,seval]
  rcases bc (decide ((k:Int)<((l.getD []).length:Int)))with h|h
  ·have R:HW t (l.getD [])=k:=by have:=dT h;unfold HW;omega
   try simp only[I,B,D,RX,↓KW,seval,h]
   rw[R]
  ·have h1:k<(l.getD []).length:=by have:=dE h;omega
   obtain⟨c,hx⟩:∃c,(l.getD [])[k]? =some c:=⟨_,eh h1⟩
   have ab:HQ (l.getD []) k=c:=by rw[HQ,em,hx];rfl
   have hy:0<=(k:Int)/\(k:Int)<((l.getD []).length:Int):=ado
   try simp only[I,B,D,RX,↓KW,seval,h,hx,hy,hd,Ch.cells]
   rcases bc (decide (((t.aV.getD []).length:Int)<=(k:Int)))with h2|h2
   ·have h3:k<(t.aV.getD []).length:=by have:=dT h2;omega
    obtain⟨d,aa⟩:∃d,(t.aV.getD [])[k]? =some d:=⟨_,eh h3⟩
    have ac:Nz t k=d:=by rw[Nz,em,aa];rfl
    have ad:0<=(k:Int)/\(k:Int)<((t.aV.getD []).length:Int):=ado
    have M:d.cells.length=7/\aB d.cells 0 (some 7)=some (.agg d.cells)/\d.cells.take 7=d.cells/\d.cells[0]? =some (I d.phase)/\d.cells[5]? =some (I d.maxOn)/\d.cells[6]? =some (I d.wN):=⟨rfl,rfl,rfl,rfl,rfl,rfl⟩
    have hE:lR t (l.getD []) (k+1)=if JZ d c then eJ (lR t (l.getD []) k) d.phase else lR t (l.getD []) k:=by rw[lR,ac,ab]
    try simp only[I,B,D,RX,↓KW,seval,h2,aa,ad,hd,M]
    rcases bc c.out with a1|a1
    ·try simp only[I,B,D,RX,↓KW,seval,a1,Ch.cells,M]
     refine af (hF c.on c.dG) ?_;try simp only[I,B,D,RX,↓KW,seval,Ch.cells,M]
     rcases bc (decide (c.dG>=3))with V|V
     ·try simp only[I,B,D,RX,↓KW,seval,V,Ch.cells,M]
      refine af (hS d.maxOn d.wN c.Zg c.I8) ?_;try simp only[I,B,D,RX,↓KW,seval,Ch.cells,M]
      rcases bc (abL d.maxOn d.wN c.Zg c.I8)with a3|a3
      ·try simp only[I,B,D,RX,↓KW,seval,a3,Ch.cells,M]
       have L:lR t (l.getD []) (k+1)=lR t (l.getD []) k:=by rw[hE];simp only[JZ,a1,V,a3,QR,eQ,il]
       refine back (k+1) _ ado ado ?_
       refine ai adp ?_ ?_ ?_ ?_<;>simp[LX,I,B,D,O,L]
      ·try simp only[I,B,D,RX,↓KW,seval,a3,Ch.cells,M]
       have L:lR t (l.getD []) (k+1)=eJ (lR t (l.getD []) k) d.phase:=by rw[hE];simp only[JZ,a1,V,a3,M2,LT,QR,w5,kw]
       refine af (hW _ _) ?_;try simp only[I,B,D,RX,↓KW,seval]
       refine back (k+1) _ ado ado ?_
       refine ai adp ?_ ?_ ?_ ?_<;>simp[LX,I,B,D,O,L]
     ·try simp only[I,B,D,RX,↓KW,seval,V,Ch.cells,M]
      have L:lR t (l.getD []) (k+1)=eJ (lR t (l.getD []) k) d.phase:=by rw[hE];simp only[JZ,a1,V,M2,LT,QR,w5,kw]
      refine af (hW _ _) ?_;try simp only[I,B,D,RX,↓KW,seval]
      refine back (k+1) _ ado ado ?_
      refine ai adp ?_ ?_ ?_ ?_<;>simp[LX,I,B,D,O,L]
    ·try simp only[I,B,D,RX,↓KW,seval,a1,Ch.cells,M]
     have L:lR t (l.getD []) (k+1)=eJ (lR t (l.getD []) k) d.phase:=by rw[hE];simp only[JZ,a1,M2,LT,QR,w5,kw]
     refine af (hW _ _) ?_;try simp only[I,B,D,RX,↓KW,seval]
     refine back (k+1) _ ado ado ?_
     refine ai adp ?_ ?_ ?_ ?_<;>simp[LX,I,B,D,O,L]
   ·have R:HW t (l.getD [])=k:=by have:=dE h2;unfold HW;omega
    try simp only[I,B,D,RX,↓KW,seval,h2]
    rw[R]
 ·refine ai adp ?_ ?_ ?_ ?_<;>simp[LX,I,B,D,lR]
end
section
variable (t:Tb) (s:Pr) (C:aT) (lines:Int) (f:Nat) (l:List Rn)
def HY:Pr:=if s.ax<0\/6<=s.ax then{s with ax:=0}else s
def XF:Pr:=HY (iE t s lines)
def iw:Bool:=decide (aQ t s>=0)&&(s.ax==0||(s.ax==5||decide (aQ t s<s.which)))
def aF:Int×Pr:=
 if s.ax=0 then(0,s)else if s.ax=1 then(jf t s l,s)else if s.ax=2 then(iS t s,s)
 else if s.ax=3 then(gH t s l,s)else if s.ax=4 then iT t s else(gC t s l,s)
def mD(to:Int):Ac:=
 if to=0 then⟨0,0,0,true,false⟩else if to=1 then om t s l else if to=2 then Xx t s l
 else if to=3 then NQ t s l else if to=4 then Xy t s l else Xz t s l
def iL(to was:Int):Pr:={s with ax:=to,time:=p9 t {s with ax:=to} l (to !=was)}
def jK:Pr×Ac:=
 if iw t s then({s with ax:=1,which:=aQ t s,time:=0},om t {s with ax:=1,which:=aQ t s,time:=0} l)
 else if s.ax=5/\(aF t s l).1=0 then({(aF t s l).2 with ax:=0,which:=0,time:=0},jv t (aF t s l).2 l)
 else(iL t (aF t s l).2 l (aF t s l).1 s.ax,mD t (iL t (aF t s l).2 l (aF t s l).1 s.ax) l (aF t s l).1)
def iH:Pr×Ac:=jK t (XF t s lines) l
def Of.Spec:Prop:=∀(t:Tb) (s:Pr) (lines:Int) (l:List Rn),nO t s l->C.c f [.agg t.cells,.agg s.cells,I lines,.agg (de l)] (.dP [.agg (iH t s lines l).1.cells,.agg (iH t s lines l).2.cells]) none
def Cv.Spec:Prop:=∃n:List AV,n.length=12/\kP (.agg n)=false/\C.c f [] (.agg n) none/\
 (∀k:Nat,k<6->∃g,n[k*2]? =some (.fn (.func g) [] [])/\∀t s l,nO t s l->s.ax=k->C.p g [dM t s l] [none] (I (aF t s l).1) none [dM t (aF t s l).2 l])/\
 (∀k:Nat,k<6->∃g,n[k*2+1]? =some (.fn (.func g) [] [])/\∀t s l,nO t s l->C.c g [.ref (dM t s l)] (.agg (mD t s l k).cells) none)
theorem J0{t:Tb} {s:Pr} (h:s.held.length=4):(iu t s).held.length=4:=by unfold iu;split<;>exact h
theorem Qc{t:Tb} {s:Pr} (h:s.held.length=4):(iT t s).2.held.length=4:=by
 unfold iT;split
 ·exact h
 ·split<;>exact J0 h
theorem qd{t:Tb} {s:Pr} {l:List Rn} (h:s.held.length=4):(aF t s l).2.held.length=4:=by
 unfold aF
 repeat' split
 all_goals first|exact h|exact Qc h
theorem mX:0<=(aF t s l).1/\(aF t s l).1<6:=by
 simp only[aF,jf,iS,gH,iT,gC]
 repeat' split
 all_goals(simp only[];omega)
end
section
variable{t:Tb} {s:Pr} {l:List Rn} (h:nO t s l)
include h
section
variable (x:Int)
theorem XG:(dM t s l)[131]? =some (I s.ax)/\(dM t s l)[132]? =some (I s.which)/\(dM t s l)[133]? =some (I s.time)/\(dM t s l)[138]? =some (I s.ff)/\aB (dM t s l) 131 (some 8)=some (.agg s.cells):=by
 have e:∀j,(dM t s l)[131+j]? =(Dy s l)[j]?:=λj=>by
  rw[<-tE h,lL]
 obtain⟨O,M,D,L⟩:=RS h;rw[lL]at M D L;refine⟨(e 0).trans O,(e 1).trans M,(e 2).trans D,(e 7).trans L,?_⟩;exact gh (Tb.len h.t) (Pr.len h.s)
theorem agM{k:Nat} (hk:k<4):(dM t s l)[134+k]? =some (I (gi s k)):=by
 have:=ak8 h hk
 rw[<-tE h,ul,ul,lL,show 131+(3+k)+0=134+k by omega]at this
 exact this
theorem FD{j:Nat} {ps:List AV} (M:j+ps.length<=8):setCells (dM t s l) (131+j) ps=t.cells++(setCells s.cells j ps++de l):=by
 have D:=Tb.len h.t
 have L:=Pr.len h.s
 rw[dM,cn ado,D,Nat.add_sub_cancel_left,Dy,GR ado]
theorem agN:setCells (dM t s l) 131 [I x]=dM t {s with ax:=x} l:=FD h (j:=0) (ps:=[I x]) adI
theorem XH:setCells (dM t s l) 132 [I x]=dM t {s with which:=x} l:=FD h (j:=1) (ps:=[I x]) adI
theorem agO:setCells (dM t s l) 133 [I x]=dM t {s with time:=x} l:=FD h (j:=2) (ps:=[I x]) adI
theorem agP:setCells (dM t s l) 138 [I x]=dM t {s with ff:=x} l:=by
 rw[show(138:Nat)=131+7 from rfl,FD h adI]
 have e:setCells s.cells 7 [I x]=({s with ff:=x}:Pr).cells:=by rw[Pr.cells,Pr.cells,kK h.s];rfl
 rw[e];rfl
theorem eN{u:Pr} (D:u.held.length=4):nO t u l:=⟨h.t,D,h.l⟩
end
end
theorem XI{t:Tb} {s:Pr} {l:List Rn} (h:nO t s l) {z:List AV} (O:z.length=235):
  List.take 139 (List.take 131 (t.cells++List.drop 131 z)++s.cells++List.drop 139 (t.cells++List.drop 131 z))++de l++List.drop 235 (List.take 131 (t.cells++List.drop 131 z)++s.cells++List.drop 139 (t.cells++List.drop 131 z))=dM t s l:=by
 have D:=Tb.len h.t
 have M:=Pr.len h.s
 have a1:List.take 131 (t.cells++List.drop 131 z)=t.cells:=by rw[xv D]
 have L:List.take 139 (t.cells++s.cells++List.drop 139 (t.cells++List.drop 131 z))=t.cells++s.cells:=by rw[xv (by simp;omega)]
 rw[a1,L,ml (by simp;omega),tp,List.append_assoc];rfl
section
variable{P:Program} (hm:P.follows .mixedOrders=true) {f:Nat}
include hm
theorem Cv.ok{a0 b0 a1 V O R a3 b3 a4 M a5 b5:Nat} (hc:bK P f=some (qY a0 b0 a1 V O R a3 b3 a4 M a5 b5))
  (h0:NR.Spec (Pure P) a0) (k0:NS.Spec (Pure P) b0) (h1:BZ.Spec (Pure P) a1) (k1:DA.Spec (Pure P) V) (h2:B3.Spec (Pure P) O) (k2:Hy.Spec (Pure P) R)
  (h3:tF.Spec (Pure P) a3) (k3:xC.Spec (Pure P) b3) (h4:B4.Spec (Pure P) a4) (k4:Hz.Spec (Pure P) M) (h5:B5.Spec (Pure P) a5) (k5:HA.Spec (Pure P) b5):Cv.Spec (Pure P) f:=by
 refine⟨[a0,b0,a1,V,O,R,a3,b3,a4,M,a5,b5].map λk=>.fn (.func k) [] [],rfl,rfl,?_,?_,?_⟩
 ·refine aq hm hc [] rfl ?_
  try simp only[RX,↓KW,seval,qY,Z.H]
  exact⟨rfl,adp,rfl⟩
 ·intro k hk
  have e:k=0\/k=1\/k=2\/k=3\/k=4\/k=5:=ado
  have L:∀{g:Nat} {F:Tb->Pr->List Rn->Int} {t s l},WI F (Pure P) g->nO t s l->(aF t s l)=(F t s l,s)->(Pure P).p g [dM t s l] [none] (I (aF t s l).1) none [dM t (aF t s l).2 l]:=λ{g F t s l} hg h he=>by
   rw[he];exact bY (args:=[none]) (hg t s l h) rfl adI
  rcases e with rfl|rfl|rfl|rfl|rfl|rfl
  ·exact⟨a0,rfl,λt s l h D=>L h0 h (by simp[aF,D])⟩
  ·exact⟨a1,rfl,λt s l h D=>L h1 h (by simp[aF,D])⟩
  ·exact⟨O,rfl,λt s l h D=>L h2 h (by simp[aF,D])⟩
  ·exact⟨a3,rfl,λt s l h D=>L h3 h (by simp[aF,D])⟩
  ·refine⟨a4,rfl,λt s l h D=>?_⟩
   have:aF t s l=iT t s:=by simp[aF,D]
   rw[this];exact h4 t s l h
  ·exact⟨a5,rfl,λt s l h D=>L h5 h (by simp[aF,D])⟩
 ·intro k hk
  have e:k=0\/k=1\/k=2\/k=3\/k=4\/k=5:=ado
  rcases e with rfl|rfl|rfl|rfl|rfl|rfl
  ·exact⟨b0,rfl,k0⟩
  ·exact⟨V,rfl,k1⟩
  ·exact⟨R,rfl,k2⟩
  ·exact⟨b3,rfl,k3⟩
  ·exact⟨M,rfl,k4⟩
  ·exact⟨b5,rfl,k5⟩
theorem B4.ok {fR fY:Nat} (hc:bK P f=some (mg fR fY)) (hR:mB.Spec (Pure P) fR) (hY:Aw.Spec (Pure P) fY):B4.Spec (Pure P) f:=by
  intro t s l h
  have hq:=XG h
  have hlen:=LC h
  have ht:=RR h
  have hz:∀ r:Rl,setCells cI 0 r.cells=r.cells:=fun _=>rfl
  have hzl:cI.length=11:=rfl
  have hr9:∀ r:Rl,r.cells[9]? = some (I r.most)∧r.cells[8]? = some (I r.stay):=fun _=>⟨rfl,rfl⟩
  have faA:=dC hq (dC hlen (dC ht (dC hz (dC hzl (dC hr9 (Rl.len))))))
  refine GF hm hc [] rfl rfl rfl ?_
  try simp only [I,RY,↓ KW,seval,mg,Z.H]
  refine kT [1] rfl ?_
  try simp only [I,RY,↓ KW,seval,faA]
  refine ⟨rfl,dH (bY (hR t s l h) rfl (gc rfl)) ?_⟩
  try simp only [I,B,D,RY,↓ KW,seval,faA]
  have hz8:∀ u:Pr,u.held.length=4→aB (dM t u l) 131 (some 8)=some (.agg u.cells)∧aB (dM t u l) 0 (some 131)=some (.agg t.cells)∧(dM t u l).length=235:=fun u hu=>⟨(XG (eN h hu)).2.2.2.2,RR (eN h hu),LC (eN h hu)⟩
  have hsp:=J0 (t:=t) h.s
  have hY1:=hY t (iu t s) h.t hsp
  obtain ⟨z1,z2,z3⟩:=hz8 _ hsp
  have z4:=XH (eN h hsp)
  have fin:∀ {v:Bool},EG s=v→(!JS t s && (v || decide (s.time < (bn t s).stay)))=true→iT t s=(4,s):=fun {v} e1 e2=>by
    rw [iT,e1,fp e2]
  have fin2:∀ {v:Bool},EG s=v→(!JS t s && (v || decide (s.time < (bn t s).stay)))=false→iT t s=if aQ t (iu t s) ≥ 0 then (1,{ iu t s with which:=aQ t (iu t s) }) else (5,iu t s):=fun {v} e1 e2=>by
    rw [iT,e1,fb (by rw [e2]; decide)]
  have hl:JS t s=(decide ((bn t s).most > 0) && decide (s.time ≥ (bn t s).most)):=rfl
  have tail1:∀ {v:Bool},EG s=v→JS t s=false∨v=false→iu t s=s:=fun {v} e1 e2=>by
    rw [iu,e1]; rcases e2 with e | e<;>rw [e]<;>simp
  have pw:0≤s.which∧s.which < 4→min s.which.toNat IntKind.i64.bits=s.which.toNat∧(decide (s.which < 0)=false):=fun hx=>by
    have:IntKind.i64.bits=64:=rfl
    exact ⟨ado,by simp; omega⟩
  have hx4:EG s=true→0≤s.which∧s.which < 4:=fun e=>by
    simp only [EG,ed,ii] at e; exact ⟨e.1.1,e.1.2⟩
  obtain ⟨v,hv⟩:∃ v,EG s=v:=⟨_,rfl⟩
  have h4:v=(decide (s.which ≥ 0) && decide (s.which < 4) && decide (gi s s.which.toNat > 0)):=by rw [← hv]; rfl
  cases hA1:decide (s.which ≥ 0)
  rotate_left
  cases hA2:decide (s.which < 4)
  rotate_left
  have hx:0≤s.which∧s.which < 4:=⟨dE hA1,dE hA2⟩
  have hh:=agM h (k:=s.which.toNat) ado
  try simp only [I,RY,↓ KW,seval,hx,hh,faA]
  cases hA3:decide (gi s s.which.toNat > 0)
  all_goals
    first | rw [hA1,hA2,hA3] at h4 | rw [hA1,hA2] at h4 | rw [hA1] at h4
    simp only [H0,pm,px] at h4
    subst h4
    try try simp only [I,B,D,RY,↓ KW,seval,hA3,faA]
    try try simp only [I,RY,↓ KW,seval,hA2,faA]
    try try simp only [I,RY,↓ KW,seval,faA]
    cases h5:decide ((bn t s).most > 0)<;>cases h6:decide (s.time ≥ (bn t s).most)<;>cases h7:decide (s.time < (bn t s).stay)
    all_goals
      rw [h5,h6] at hl
      simp only [H0,pm,px] at hl
      try simp only [I,RY,↓ KW,seval,faA]
      try try simp only [I,RY,↓ KW,seval,h6,faA]
      try try simp only [RY,↓ KW,seval,h7,faA]
      first
        | (have e:=fin hv (by rw [hl,h7]; rfl); rw [e]; exact ⟨rfl,rfl⟩)
        | skip
  all_goals first
    | (have e:=fin2 hv (by rw [hl,h7]; rfl)
       have es:=tail1 hv (by rw [hl]; first | exact .inl rfl | exact .inr rfl)
       rw [es] at hY1 e z4
       refine af hY1 ?_
       try simp only [I,RY,↓ KW,seval]
       generalize aQ t s=k at *
       cases h8:decide (k ≥ 0)
       · rw [fb (dT h8)] at e
         try simp only [RY,↓ KW,seval]
         rw [e]; exact ⟨rfl,rfl⟩
       · rw [fp (dE h8)] at e
         try simp only [RY,↓ KW,seval,z4,faA]
         first | (refine ⟨ado,?_⟩; rw [e]; exact ⟨rfl,rfl⟩) | (rw [e]; exact ⟨rfl,rfl⟩))
    | (have e:=fin2 hv (by rw [hl,h7]; rfl)
       have es:iu t s={ s with ff:=AW .i64 s.ff (IntKind.i64.wrap (2 ^ s.which.toNat)) }:=by rw [iu,hl,hv]; rfl
       obtain ⟨p1,p2⟩:=pw (hx4 hv)
       have p3:(1:Int) * 2 ^ s.which.toNat=2 ^ s.which.toNat:=Int.one_mul _
       have s7:=agP h (AW .i64 s.ff (IntKind.i64.wrap (2 ^ s.which.toNat)))
       rw [← es] at s7
       refine ⟨(hx4 hv).1,?_⟩
       try simp only [RY,↓ KW,seval,p1,p3,s7,z1,z2]
       refine af hY1 ?_
       try simp only [I,RY,↓ KW,seval,p1,p3,s7]
       generalize aQ t (iu t s)=k at *
       cases h8:decide (k ≥ 0)
       · rw [fb (dT h8)] at e
         try simp only [RY,↓ KW,seval]
         rw [e]; exact ⟨rfl,rfl⟩
       · rw [fp (dE h8)] at e
         try simp only [RY,↓ KW,seval,z3,z4]
         first | (refine ⟨ado,?_⟩; rw [e]; exact ⟨rfl,rfl⟩) | (rw [e]; exact ⟨rfl,rfl⟩))
end
structure E0 where
 samples:Option (List (Option Nat))
 push:Int
 ask:Int
 lines:Int
 deriving Inhabited
def E0.cells(x:E0):List AV:=[aI kC x.samples,I x.push,I x.ask,I x.lines]
structure Td where
 start:Int
 fin:Int
 cut:Int
 bO:Int
 hold:Int
 early:Int
section
variable (t:Tb) (s:bD) (c:Nat->Cu) (x:E0) (k p:Nat)
def Td.cells(x:Td):List AV:=[I x.start,I x.fin,I x.cut,I x.bO,I x.hold,I x.early]
def nDt:Nat:=(t.aV.getD []).length
def HZ:Option (List Ch):=ez (rz t (s.iK.getD []) (x.samples.getD []) (nDt t))
def R5:Int:=GI t (lR t ((HZ t s x).getD []) (HW t ((HZ t s x).getD [])))
def J1:Int:=RG λp=>fJ (s.rn p)
def wkS:Int:=RG λp=>BV (s.rn p)
def Zi:Cs:=iJ t s.calls (R5 t s x) x.push (J1 s) (wkS s)
def U2:Int:=GK t (Zi t s x) (R5 t s x)
def jS:Pr×Ac:=iH t s.pre x.lines s.runs
def I9:gW:=
 if(jS t s x).2.free then(N6 t s.rings s.runs (U2 t s x)).1 else if(jS t s x).2.back then Uv t (exE t s.pre.which)else s.rings
def E1:Td:=
 if(jS t s x).2.free then⟨(N6 t s.rings s.runs (U2 t s x)).2.1,(N6 t s.rings s.runs (U2 t s x)).2.2,0,abI t s.rings s.runs (U2 t s x),Ez t s.nG s.runs x.ask,G6 t s.nG s.runs x.ask⟩
 else⟨(jS t s x).2.start,(jS t s x).2.fin,(jS t s x).2.cut,0,0,0⟩
def cuE(d:Td) (here dm:Int) (free:Bool) (p:Nat):Cu:=⟨fu d.start p,fu d.fin p,fu here p,free&&fu dm p,fu d.bO p,fu d.hold p,fu d.early p,fu d.cut p⟩
def lp:Cu:=cuE (E1 t s x) (R5 t s x) (Zi t s x).dm (jS t s x).2.free p
def oG:List Rn:=(List.range 8).map λp=>if p<k then bG (aK t p) (s.rn p) (c p)else s.rn p
def vL(t:Tb) (s:bD) (c:Nat->Cu):Nat->Bool
 |0=>false
 |k+1=>vL t s c k||AB (aK t k) (s.rn k) (c k)
def Qd(free:Bool) (r:gW):Bool:=free&&(s.rings.ou&&(!r.ou&&decide (r.group<=s.rings.group)))
def rdE:Rd:=xm t s.nG x.ask (vL t s (lp t s x) 8) (Qd s (jS t s x).2.free (I9 t s x))
def rC:bD:=⟨oG t s (lp t s x) 8,I9 t s x,rdE t s x,(jS t s x).1,Zi t s x,HZ t s x⟩
theorem Qe{t:Tb} {s:bD} {c:Nat->Cu} (h:s.Ok):oG t s c 0=s.runs:=by
 refine List.ext_getElem (by simp[oG,h.runs]) λi L D=>?_
 simp[oG,bD.rn,em,D]
theorem Qf{t:Tb} {s:bD} {c:Nat->Cu} {k:Nat} (hk:k<8):(oG t s c k).set k (bG (aK t k) (s.rn k) (c k))=oG t s c (k+1):=by
 have:k=0\/k=1\/k=2\/k=3\/k=4\/k=5\/k=6\/k=7:=ado
 rcases this with rfl|rfl|rfl|rfl|rfl|rfl|rfl|rfl<;>simp[oG,lj]
theorem DD:(oG t s c k).length=8:=by simp[oG]
theorem Ux{a b:List AV} {off z:Nat} (h:off+z<=a.length):aB (a++b) off (some z)=aB a off (some z):=by
 simp only[aB,rh]
 rw[fp ado,fp h,If ado,wn (by simp;omega)]
theorem bD.XJ{s:bD}:s.cells=(de s.runs++s.rings.cells)++(s.nG.cells++(s.pre.cells++(s.calls.cells++[aI Ch.cells s.iK]))):=by simp[bD.cells]
theorem bD.Qg{s:bD}:s.cells=(de s.runs++(s.rings.cells++s.nG.cells))++(s.pre.cells++(s.calls.cells++[aI Ch.cells s.iK])):=by simp[bD.cells]
theorem bD.XK{s:bD}:s.cells=(de s.runs++(s.rings.cells++(s.nG.cells++s.pre.cells)))++(s.calls.cells++[aI Ch.cells s.iK]):=by simp[bD.cells]
theorem bD.XL{s:bD}:s.cells=(de s.runs++(s.rings.cells++(s.nG.cells++(s.pre.cells++s.calls.cells))))++([aI Ch.cells s.iK]++[]):=by simp[bD.cells]
end
section
variable{s:bD} (h:s.Ok)
include h
theorem bD.p96:aB s.cells 96 (some 4)=some (.agg s.rings.cells):=gh (dW h.runs) rfl
theorem bD.alc:(de s.runs++s.rings.cells).length=100:=by simp[dW h.runs,gW.cells]
theorem bD.abN:(de s.runs++(s.rings.cells++s.nG.cells)).length=106:=by simp[dW h.runs,gW.cells,Rd.cells,h.lock]
theorem bD.ald:(de s.runs++(s.rings.cells++(s.nG.cells++s.pre.cells))).length=114:=by simp[dW h.runs,gW.cells,Rd.cells,Pr.cells,h.lock,h.held]
theorem bD.agR:(de s.runs++(s.rings.cells++(s.nG.cells++(s.pre.cells++s.calls.cells)))).length=116:=by simp[dW h.runs,gW.cells,Rd.cells,Pr.cells,Cs.cells,h.lock,h.held]
theorem bD.anq:aB s.cells 100 (some 6)=some (.agg s.nG.cells):=by rw[bD.XJ (s:=s)];exact gh (bD.alc h) (by simp[Rd.cells,h.lock])
theorem bD.agS:aB s.cells 106 (some 8)=some (.agg s.pre.cells):=by rw[bD.Qg (s:=s)];exact gh (bD.abN h) (Pr.len h.held)
theorem bD.XM:aB s.cells 114 (some 2)=some (.agg s.calls.cells):=by rw[bD.XK (s:=s)];exact gh (bD.ald h) rfl
theorem bD.g96:s.cells[96]? =some (I s.rings.group):=kF (bD.p96 h) (j:=0) ado
theorem bD.g99:s.cells[99]? =some (B s.rings.ou):=kF (bD.p96 h) (j:=3) ado
theorem bD.ale:s.cells[107]? =some (I s.pre.which):=kF (bD.agS h) (j:=1) ado
theorem bD.agT:s.cells[115]? =some (I s.calls.dm):=kF (bD.XM h) (j:=1) ado
theorem bD.alf:s.cells[116]? =some (aI Ch.cells s.iK):=by rw[bD.XL (s:=s),im (by rw[bD.agR h];omega),bD.agR h];rfl
theorem bD.s96(x:gW):setCells s.cells 96 x.cells={s with rings:=x}.cells:=oN (dW h.runs) rfl
theorem bD.anr{x:Rd} (D:x.lock.length=4):setCells s.cells 100 x.cells={s with nG:=x}.cells:=by
 rw[bD.XJ (s:=s),oN (bD.alc h) (by simp[Rd.cells,h.lock,D])];simp[bD.cells]
theorem bD.ans{x:Pr} (D:x.held.length=4):setCells s.cells 106 x.cells={s with pre:=x}.cells:=by
 rw[bD.Qg (s:=s),oN (bD.abN h) (by rw[Pr.len h.held,Pr.len D])];simp[bD.cells]
theorem bD.ant(x:Cs):setCells s.cells 114 x.cells={s with calls:=x}.cells:=by
 rw[bD.XK (s:=s),oN (mid:=s.calls.cells) (ps:=x.cells) (bD.ald h) rfl];simp[bD.cells]
theorem bD.anu(x:Option (List Ch)):setCells s.cells 116 [aI Ch.cells x]={s with iK:=x}.cells:=by
 rw[bD.XL (s:=s),oN (mid:=[aI Ch.cells s.iK]) (ps:=[aI Ch.cells x]) (bD.agR h) rfl];simp[bD.cells]
end
section
variable {n:Int} {s:Pr} {t:Tb}
theorem Qh:(XF t s n).held.length=4:=by
 have:(iE t s n).held.length=4:=by simp[iE,gR]
 unfold XF HY;split<;>exact this
theorem J2{l:List Rn}:(iH t s n l).1.held.length=4:=by
 have D:=Qh (t:=t) (s:=s) (n:=n)
 have L:=qd (t:=t) (l:=l) D
 unfold iH jK;split
 ·exact D
 ·split
  ·exact L
  ·exact L
theorem XN{G:Prop} {F:S->Prop} {α:Type} (st:α->S) (J:α->Prop) (h:(∀y s,J y->Le s (st y)->down F s)->G) (hF:∀y,J y->F (st y)):G:=
 h λy s L D=>oI D (hF y L)
def H6.Spec(C:aT) (f:Nat):Prop:=∀(t:Tb) (s:bD) (x:E0),t.Ok->t.Fw->nDt t<=1000000->s.Ok->(s.iK.getD []).length<=1000000->(x.samples.getD []).length<=1000000->C.c f [.agg t.cells,.agg s.cells,.agg x.cells] (.agg (rC t s x).cells) none
end
section
variable{P:Program} (hm:P.follows .mixedOrders=true) {f:Nat}
include hm
theorem H6.ok{fD fE fH fG fK fC fW fP fR fS fO fA fX fU fB fY fZ fT:Nat} (hc:bK P f=some (xE fD fE fH fG fK fC fW fP fR fS fO fA fX fU fB fY fZ fT)) (hD:HV.Spec (Pure P) fD) (hE:HX.Spec (Pure P) fE) (hH:TN.Spec (Pure P) fH)
  (hG:Cp.Spec (Pure P) fG) (hK:Cq.Spec (Pure P) fK) (hC:Step.Spec (Pure P) fC) (hW:Want.Spec (Pure P) fW) (hP:Of.Spec (Pure P) fP) (hR:HN.Spec (Pure P) fR) (hS:N8.Spec (Pure P) fS) (hO:WM.Spec (Pure P) fO) (hA:Early.Spec (Pure P) fA)
  (hX:HP.Spec (Pure P) fX) (hU:N9.Spec (Pure P) fU) (hB:mN.Spec (Pure P) fB) (hY:HK.Spec (Pure P) fY) (hZ:HJ.Spec (Pure P) fZ) (hT:G8.Spec (Pure P) fT):H6.Spec (Pure P) f:=by
 intro t s x R a4 a3 M bm bl
 have b5:=Tb.len R
 have hp:=Tb.whole R
 have b1:b9.length=117:=rfl
 have an:∀u:bD,u.Ok->setCells b9 0 u.cells=u.cells:=λu hu=>aM (by rw[bD.len hu];rfl)
 have q1:=bD.len M
 have q2:=bD.whole M
 have q3:=bD.alf M
 have q4:=bD.XM M
 have q5:=bD.agS M
 have q6:=bD.sX M
 have q7:=bD.p96 M
 have q8:=bD.anq M
 have q9:=an s M
 have qw:=bD.ale M
 have x1:x.cells[0]? =some (aI kC x.samples)/\x.cells[1]? =some (I x.push)/\x.cells[2]? =some (I x.ask)/\x.cells[3]? =some (I x.lines):=⟨rfl,rfl,rfl,rfl⟩
 have hq:R5 t s x=GI t (lR t ((HZ t s x).getD []) (HW t ((HZ t s x).getD []))):=rfl
 have ag:rC t s x=⟨oG t s (cuE (E1 t s x) (R5 t s x) (Zi t s x).dm (jS t s x).2.free) 8,I9 t s x,xm t s.nG x.ask (vL t s (cuE (E1 t s x) (R5 t s x) (Zi t s x).dm (jS t s x).2.free) 8) (Qd s (jS t s x).2.free (I9 t s x)),(jS t s x).1,Zi t s x,HZ t s x⟩:=rfl
 have cD:=hD t s.iK x.samples R a4 bm bl
 rw[show ez (rz t (s.iK.getD []) (x.samples.getD []) (t.aV.getD []).length)=HZ t s x from rfl]at cD
 have b2:((HZ t s x).getD []).length<=1000000:=by
  rw[HZ,dB];simp only[rz,OF,List.length_range];exact a3
 have cC:=hC t s.calls (R5 t s x) x.push (J1 s) (wkS s) R
 rw[show iJ t s.calls (R5 t s x) x.push (J1 s) (wkS s)=Zi t s x from rfl]at cC
 have cW:=hW t (Zi t s x) (R5 t s x) R
 rw[show GK t (Zi t s x) (R5 t s x)=U2 t s x from rfl]at cW
 have cP:=hP t s.pre x.lines s.runs ⟨R,M.held,M.runs⟩
 rw[show iH t s.pre x.lines s.runs=jS t s x from rfl]at cP
 have aa:(jS t s x).1.held.length=4:=J2
 have cR:=hR t s.rings s.runs (U2 t s x) R M.runs
 have cS:=hS t s.rings s.runs (U2 t s x) R M.runs
 have cO:=hO t s.nG s.runs x.ask R M.lock M.runs
 have cA:=hA t s.nG s.runs x.ask R M.lock M.runs
 have V:I9 t s x=if(jS t s x).2.free then(N6 t s.rings s.runs (U2 t s x)).1 else if(jS t s x).2.back then Uv t (exE t s.pre.which)else s.rings:=rfl
 have ab:E1 t s x=if(jS t s x).2.free then⟨(N6 t s.rings s.runs (U2 t s x)).2.1,(N6 t s.rings s.runs (U2 t s x)).2.2,0,abI t s.rings s.runs (U2 t s x),Ez t s.nG s.runs x.ask,G6 t s.nG s.runs x.ask⟩
  else⟨(jS t s x).2.start,(jS t s x).2.fin,(jS t s x).2.cut,0,0,0⟩:=rfl
 generalize I9 t s x=rg at*;generalize E1 t s x=td at*;generalize U2 t s x=w0 at*;generalize Zi t s x=c1 at*;generalize R5 t s x=h0 at*;generalize HZ t s x=c0 at*;generalize jS t s x=pa at*;generalize rC t s x=res at*;generalize N6 t s.rings s.runs w0=rr at*;generalize abI t s.rings s.runs w0=pr at*
 generalize Ez t s.nG s.runs x.ask=ho at*;generalize G6 t s.nG s.runs x.ask=ea at*
 have b3:c1.cells.length=2:=rfl
 have a8:iI (aI Ch.cells c0) none=true:=by cases c0<;>rfl
 have bo:(aI Ch.cells c0).cells=[aI Ch.cells c0]:=by cases c0<;>rfl
 have u1:=bD.anu M c0
 have k1:({s with iK:=c0}:bD).Ok:=⟨M.1,M.2,M.3⟩
 have a9:=bD.len k1
 have a7:=bD.alf k1
 have u2:=bD.ant k1 c1
 have k2:({s with iK:=c0,calls:=c1}:bD).Ok:=⟨M.1,M.2,M.3⟩
 have b0:=bD.len k2
 have ba:=bD.XM k2
 have u3:=bD.ans k2 aa
 have k3:({s with iK:=c0,calls:=c1,pre:=pa.1}:bD).Ok:=⟨M.1,M.2,aa⟩
 have bd:=bD.len k3
 have pl:=Pr.len aa
 have pw:=Pr.whole aa
 have al:pa.2.cells.length=5/\pa.2.cells[0]? =some (I pa.2.start)/\pa.2.cells[1]? =some (I pa.2.fin)/\pa.2.cells[2]? =some (I pa.2.cut)/\pa.2.cells[3]? =some (B pa.2.free)/\pa.2.cells[4]? =some (B pa.2.back):=⟨rfl,rfl,rfl,rfl,rfl,rfl⟩
 have zp:setCells [.int .i64 0,.int .i64 0,.int .i64 0,.int .i64 0,.int .i64 0,.int .i64 0,.int .i64 0,.int .i64 0] 0 pa.1.cells=pa.1.cells:=aM (by rw[pl];rfl)
 have za:setCells [.int .i64 0,.int .i64 0,.int .i64 0,.bool false,.bool false] 0 pa.2.cells=pa.2.cells:=rfl
 have zt:setCells [.int .i64 0,.int .i64 0,.int .i64 0,.int .i64 0,.int .i64 0,.int .i64 0] 0 [I pa.2.start,I pa.2.fin,I pa.2.cut,I 0,I 0,I 0]=(⟨pa.2.start,pa.2.fin,pa.2.cut,0,0,0⟩:Td).cells:=rfl
 have a2:∀d:Td,d.cells.length=6:=λ_=>rfl
 have a6:∀(d:Td) (n:Int),setCells d.cells 0 [I n]=({d with start:=n}:Td).cells/\setCells d.cells 1 [I n]=({d with fin:=n}:Td).cells/\setCells d.cells 2 [I n]=({d with cut:=n}:Td).cells/\setCells d.cells 3 [I n]=({d with bO:=n}:Td).cells/\setCells d.cells 4 [I n]=({d with hold:=n}:Td).cells/\setCells d.cells 5 [I n]=({d with early:=n}:Td).cells:=λ_ _=>⟨rfl,rfl,rfl,rfl,rfl,rfl⟩
 have rl:∀r:gW,r.cells.length=4:=λ_=>rfl
 have u4:=λr=>bD.s96 k3 r
 have L:=dC b5 (dC hp (dC b1 (dC q1 (dC q2 (dC q3 (dC q4 (dC q5 (dC q6 (dC q7 (dC q8 (dC q9 (dC qw (dC x1 (dC a8 (dC bo (dC b3 (dC u1 (dC a9 (dC a7 (dC u2 (dC b0 (dC ba (dC u3 (dC bd (dC pl (dC pw (dC al (dC zp (dC za (dC zt (dC a2 (dC a6 (dC rl (u4))))))))))))))))))))))))))))))))))
 refine aq hm hc [0] rfl ?_;try simp only[RY,↓KW,seval,xE,Z.H,L]
 refine af cD ?_;try simp only[RY,↓KW,seval,L]
 refine af (hE t c0 R b2) ?_;try simp only[I,RY,↓KW,seval,L]
 refine af (hH t _ R) ?_;rw[<-hq];try simp only[I,RY,↓KW,seval,L]
 refine af (hG s M) ?_;try simp only[I,RY,↓KW,seval,L]
 refine af (hK s M) ?_;try simp only[I,RY,↓KW,seval]
 refine af cC ?_;try simp only[RY,↓KW,seval,L]
 refine af cW ?_;try simp only[I,RY,↓KW,seval,L]
 refine af cP ?_;try simp only[I,B,RY,↓KW,seval,L]
 apply XN (λ_:Unit=>(⟨[(8,.dat (I h0) none),(3,.ptr 4 0),(4,.ptr 5 0),(5,.ptr 6 0),(6,.ptr 7 0),(7,.ptr 9 0),(11,.ptr 57 0),(12,.ptr 70 0)],[(4,⟨t.cells,[]⟩),(5,⟨s.cells,[]⟩),(6,⟨x.cells,[]⟩),(7,⟨b9,[]⟩),(9,⟨({s with iK:=c0,calls:=c1,pre:=pa.1,rings:=rg}:bD).cells,[]⟩),(57,⟨pa.2.cells,[]⟩),(70,⟨td.cells,[]⟩)],[],400⟩:S)) (λ_=>True)
 ·intro back
  rcases bc pa.2.free with h1|h1
  ·rw[h1]at V ab
   try simp only[B,RY,↓KW,seval,h1,L]
   rcases bc pa.2.back with h2|h2
   ·rw[h2]at V
    try simp only[RY,seval,h2]
    refine back () _ trivial ?_
    refine ai adp ?_ ?_ ?_ ?_<;>simp[LX,I,V,ab]
   ·rw[h2]at V
    try simp only[I,RY,↓KW,seval,h2,L]
    refine af (hX t s.pre.which R) ?_;try simp only[I,RY,↓KW,seval]
    refine af (hU t _ R) ?_;try simp only[RY,↓KW,seval,L]
    refine back () _ trivial ?_
    refine ai adp ?_ ?_ ?_ ?_<;>simp[LX,I,V,ab]
  ·rw[h1]at V ab
   try simp only[RY,↓KW,seval,h1,L]
   refine af cR ?_;try simp only[I,RY,↓KW,seval,L]
   refine af cS ?_;try simp only[I,RY,↓KW,seval,L]
   refine af cO ?_;try simp only[I,RY,↓KW,seval,L]
   refine af cA ?_;try simp only[I,RY,↓KW,seval,L]
   refine back () _ trivial ?_
   refine ai adp ?_ ?_ ?_ ?_<;>simp[LX,I,V,ab]
 ·rintro _ _
  try simp only[I,RY,↓KW,seval]
  obtain⟨O,ao⟩:∃O,cuE td h0 c1.dm pa.2.free=O:=⟨_,rfl⟩
  have ar:∀p,O p=⟨fu td.start p,fu td.fin p,fu h0 p,pa.2.free&&fu c1.dm p,fu td.bO p,fu td.hold p,fu td.early p,fu td.cut p⟩:=λp=>by rw[<-ao];rfl
  rw[ao]at ag
  have w0:=Qe (t:=t) (c:=O) M
  refine aG (λk:Nat=>(⟨[(121,.dat (I k) none),(13,.dat (B (vL t s O k)) none),(8,.dat (I h0) none),(3,.ptr 4 0),(4,.ptr 5 0),(5,.ptr 6 0),(6,.ptr 7 0),(7,.ptr 9 0),(11,.ptr 57 0),(12,.ptr 70 0)],[(4,⟨t.cells,[]⟩),(5,⟨s.cells,[]⟩),(6,⟨x.cells,[]⟩),(7,⟨b9,[]⟩),(9,⟨({s with runs:=oG t s O k,iK:=c0,calls:=c1,pre:=pa.1,rings:=rg}:bD).cells,[]⟩),(57,⟨pa.2.cells,[]⟩),(70,⟨td.cells,[]⟩)],[],400⟩:S)) (λk=>8-k) (λk=>k<=8) ?_ 0 ado ?_
  rotate_left
  ·refine ai adp ?_ ?_ ?_ ?_<;>simp[LX,I,B,w0,vL]
  intro k hk A back
  have b6:=aC (k:=k) ado
  have kk:({s with runs:=oG t s O k,iK:=c0,calls:=c1,pre:=pa.1,rings:=rg}:bD).Ok:=⟨DD ..,M.2,aa⟩
  have v1:=bD.len kk
  have v2:=bD.agT kk
  have bj:td.cells[0]? =some (I td.start)/\td.cells[1]? =some (I td.fin)/\td.cells[2]? =some (I td.cut)/\td.cells[3]? =some (I td.bO)/\td.cells[4]? =some (I td.hold)/\td.cells[5]? =some (I td.early):=⟨rfl,rfl,rfl,rfl,rfl,rfl⟩
  try simp only[I,B,RY,↓KW,seval]
  rcases bc (decide ((k:Int)<8))with h|h
  rotate_left
  ·have h8:k<8:=by have:=dE h;omega
   have hy:0<=(k:Int)/\(k:Int)<8:=ado
   have be:=Tb.iO (R.ln.mT h8)
   have a5:aB s.cells (k*12) (some 12)=some (.agg (s.rn k).cells):=by rw[bD.cells,Ux (by rw[dW M.runs];omega)];exact jE M.runs h8
   have vs:=bD.ade kk h8 (bG (aK t k) (s.rn k) (O k))
   rw[show({s with runs:=oG t s O k,iK:=c0,calls:=c1,pre:=pa.1,rings:=rg}:bD).runs.set k (bG (aK t k) (s.rn k) (O k))=oG t s O (k+1)from Qf h8]at vs
   have hl:vL t s O (k+1)=(vL t s O k||AB (aK t k) (s.rn k) (O k)):=rfl
   generalize vL t s O k=hd at*
   obtain⟨cc,au⟩:∃c,O k=c:=⟨_,rfl⟩
   have hP:=ar k
   rw[au]at hP vs hl
   have bi:∀c:Cu,c.cells.length=8/\aB c.cells 0 (some 8)=some (.agg c.cells):=λ_=>⟨rfl,rfl⟩
   have ad:setCells [.bool false,.bool false,.bool false,.bool false,.bool false,.bool false,.bool false,.bool false] 0 [B (fu td.start k),B (fu td.fin k),B (fu h0 k),B (pa.2.free&&fu c1.dm k),B (fu td.bO k),B (fu td.hold k),B (fu td.early k),B (fu td.cut k)]=cc.cells:=by rw[hP];rfl
   have ac:=dC h (dC hy (dC v1 (dC v2 (dC bj (dC be (dC a5 (dC bi (dC vs (dC Rn.len (L))))))))))
   try simp only[I,RY,↓KW,seval,ac]
   have bs:∀p:Nat,∀n:Int,(Pure P).c fB [I n,I p] (B (fu n p)) none:=λp n=>hB n p
   rcases bc pa.2.free with h5|h5<;>rcases bc hd with h6|h6
   all_goals
    rw[h5]at ad;rw[h6]at hl;simp only[py,px,LT,w5]at ad hl
    repeat' (refine af (hB _ _) ?_;try simp only[I,B,RY,↓KW,seval,h5,h6,ac])
    try simp only[RY,↓KW,seval,ad,ac]
    try(refine af (hY _ _ _) ?_;try simp only[B,RY,↓KW,seval,ad,ac])
    try(refine af (hZ _ _ _) ?_;try simp only[RY,↓KW,seval,ad,ac])
    refine⟨ado,back (k+1) _ ado ado ?_⟩
    refine ai adp ?_ ?_ ?_ ?_<;>simp[LX,I,B,b6,hl]
  ·have b4:k=8:=by have:=dT h;omega
   subst b4
   have ae:(xm t s.nG x.ask (vL t s O 8) (Qd s pa.2.free rg)).lock.length=4:=by simp[xm,xl]
   have w1:=bD.anr kk ae
   have rk:res.Ok:=by rw[ag];exact⟨DD ..,ae,aa⟩
   have w2:=bD.whole rk
   have w3:=an res rk
   have w4:=bD.len rk
   have v3:=bD.g96 kk
   have v4:=bD.g99 kk
   have v5:=bD.g96 M
   have v6:=bD.g99 M
   have am:Qd s pa.2.free rg=(pa.2.free&&(s.rings.ou&&(!rg.ou&&decide (rg.group<=s.rings.group)))):=rfl
   have cT:=hT t s.nG x.ask (vL t s O 8) (Qd s pa.2.free rg) R M.lock
   rw[<-ag]at w1;generalize xm t s.nG x.ask (vL t s O 8) (Qd s pa.2.free rg)=rd at*;generalize vL t s O 8=hd at*;generalize Qd s pa.2.free rg=rn at*
   have bw:rd.cells.length=6:=by simp[Rd.cells,ae]
   have ak:=dC v3 (dC v4 (dC v5 (dC v6 (dC w1 (dC w2 (dC w3 (dC w4 (dC v1 (dC v2 (dC bw (L)))))))))))
   rcases bc pa.2.free with h5|h5<;>rcases bc s.rings.ou with h6|h6<;>rcases bc rg.ou with h7|h7<;>rcases bc (decide (rg.group<=s.rings.group))with h8|h8
   all_goals
    rw[h5,h6,h7,h8]at am;simp only[pm,sh,po,pd]at am;subst am;try simp only[I,B,RY,↓KW,seval,h5,h6,h7,h8,ak]
    try try simp only[I,B,D,RY,↓KW,seval,h5,h6,h7,h8,ak]
    refine af cT ?_;try simp only[RY,↓KW,seval,ak]
end
end Go.Eng
