/- Part 16 of the engine and its library. -/
import Derived.Test.YtdfplndcbbofjaaGreatPkS15
set_option linter.all false
set_option maxRecDepth 10000
set_option maxHeartbeats 4000000
namespace Go.Eng
open Go
theorem ON(l:Option (List Int)) {p:Nat} (A:p<nT l):(aA (aR l) p).2=true:=by
 have hm:(p:Int)∈(aO (aR l)).map Sp.p:=by
  rw[Ae,cN,kp];exact⟨p,ib.2 A,TB⟩
 obtain⟨x,D,B⟩:=kp.1 hm;rw[aA]
 cases h:(aO (aR l)).find? (λx=>x.p==(p:Int))with
 |some y=>rfl
 |none=>
  rw[se]at h
  exact absurd (by simp[B]) (h x D)
theorem oT{t:Tb} {x:Sp} (h:x∈aO t):0<=x.group/\x.group<((t.groups.getD []).length:Int):=by
 simp only[aO,bS,ui]at h;obtain⟨⟨gr,g⟩,hm,D⟩:=h
 have B:=n9 D
 have A:=(List.mem_zipIdx hm).2.1
 rw[GE]at A;rw[B];omega
structure E3 (t u:Tb):Prop where
 groups:u.groups=t.groups
 bp:u.bp=t.bp
 on:qW u=qW t
 share:u.share=t.share
 revert:u.revert=t.revert
 extend:u.extend=t.extend
 same:∀p,(aD u p).min=(aD t p).min/\(aD u p).walk=(aD t p).walk/\(aD u p).bR=(aD t p).bR/\(aD u p).bQ=(aD t p).bQ
 more:∀p,(aD t p).top<=(aD u p).top/\(aD t p).red<=(aD u p).red
theorem lY{a b:Int} (h:a<=b):gU a<=gU b:=by simp only[Ad];omega
theorem yA{α:Type} {f g:α->Int}:∀{l:List α},(∀x∈l,f x<=g x)->wN (l.map f)<=wN (l.map g)
 |[],_=>kt _
 |x::l,h=>by
  have B:=lY (h x ip)
  have D:=yA (l:=l) λy A=>h y (ii _ A)
  simp only[wN,l4,pd]at*;omega
theorem Cd{α:Type} {f g:α->Int}:∀{l:List α},(∀x∈l,f x<=g x)->gh (l.map f)<=gh (l.map g)
 |[],_=>kt _
 |x::l,h=>by
  have B:=h x ip
  have D:=Cd (l:=l) λy A=>h y (ii _ A)
  simp only[l4,BJ];omega
section
variable{t u:Tb} (h:E3 t u)
include h
section
variable (k p:Int)
theorem E3.clear:kV t<=kV u:=by
 rw[kV,kV,h.on]
 refine Cd λp _=>?_
 have A:=(h.same p).2.2.2
 have B:=(h.more p).2
 rw[ET,ET,tO,tO,A];simp only[Ad];omega
theorem E3.serve:dW t p<=dW u p:=by
 obtain⟨O,L,Z,M⟩:=h.same p;obtain⟨V,B⟩:=h.more p
 have R:=h.extend
 have D:=h.revert
 rw[dW,dW,h.on];split
 ·rw[O,L,Z,M,R,D,ET (aD t p).walk (aD t p).bR,kg,kg]
  have A:gh [gU (aD t p).min,ye (aD t p).walk (aD t p).bR,gU (aD t p).top]<=gh [gU (aD t p).min,ye (aD t p).walk (aD t p).bR,gU (aD u p).top]:=by
   have:=lY V
   simp only[BJ,L7];omega
  have a1:=lY A
  have a2:=lY B
  simp only[wN,l4,s9,pd,List.sum_nil];omega
 ·exact kt _
theorem E3.aO:Eng.aO u=Eng.aO t:=by rw[Eng.aO,Eng.aO,h.groups]
theorem E3.abE:aA u p=aA t p:=by rw[aA,aA,h.aO]
theorem E3.pass(g:Int):dX t g<=dX u g:=by
 rw[dX,dX,h.groups];split
 ·exact kt _
 ·rw[kg,kg,f9,f9,h.aO]
  have:=yA (l:=((Eng.aO t).take (Eng.aO t).length).filter λx=>x.group==g) (f:=λx=>dW t x.p) (g:=λx=>dW u x.p) λx _=>h.serve x.p
  simp only[wN,l4,pd]at*;omega
theorem E3.free:ig t p<=ig u p:=by
 rw[ig,ig,h.abE,h.on,h.groups];split
 ·rw[kg,kg]
  have A:=lY (h.pass (aA t p).1.group)
  have:=yA (l:=List.range (t.groups.getD []).length) (f:=λ(g:Nat)=>dX t g) (g:=λ(g:Nat)=>dX u g) λg _=>h.pass g
  simp only[wN,l4,pd]at*;omega
 ·exact kt _
theorem E3.rl:u9 u k=u9 t k:=by rw[u9,u9,h.bp]
theorem E3.entry:pQ t k<=pQ u k:=by
 have B:=lY h.clear
 have A:=h.revert
 rw[pQ,pQ,h.bp];split
 ·exact kt _
 ·rw[h.rl,A,kg,kg]
  simp only[wN,l4,s9,pd,List.sum_nil];omega
end
end
section
variable (t:Tb) {i k:Nat} {row:List Int} {x:Sp} (g:Int) (l:List Int) (p:Int)
theorem CV{g:Nat} (h:x∈bl g k row):x.ring=k:=by
 simp only[bl,yr]at h;obtain⟨⟨p,i⟩,_,h⟩:=h;simp only at h;split at h
 ·cases h;rfl
 ·cases h
theorem OO(h:g<0\/((t.groups.getD []).length:Int)<=g):((aO t).filter λx=>x.group==g)=[]:=by
 rw[List.filter_eq_nil_iff];intro x A
 have:=oT A
 simp;omega
theorem yB{t:Tb} (h:x∈aO t):0<=x.ring/\x.ring<2:=by
 simp only[aO,bS,ui]at h;obtain⟨⟨gr,g⟩,_,h⟩:=h;simp only[bH,ui,ib]at h;obtain⟨k,hk,h⟩:=h
 have:=CV h
 omega
def Wl:Int:=RE (((aO t).filter λx=>x.group==g).map Sp.p)
theorem Sr(A:i<8):tb (jc p) i=decide ((i:Int)=p):=by
 by_cases h:p<0\/8<=p
 ·have e:jc p=0:=by unfold jc;rw[gc h]
  rw[e,bX,tp ST]
 ·obtain⟨n,rfl⟩:∃n:Nat,p=n:=⟨p.toNat,ST⟩
  rw[Bt ST]
  have:(i=n)↔((i:Int)=(n:Int)):=ST
  simp[this]
theorem Ss(B:i<8):∀s,tb (l.foldl (λs p=>qV .i64 s (jc p)) s) i=(tb s i||decide ((i:Int)∈l)):=by
 induction l with
 |nil=>intro s;simp
 |cons p l A=>
  intro s;rw[ns,A,uw,Sr p B,Bool.or_assoc]
  congr 1
  simp[lw]
theorem OP(A:i<8):tb (PO l) i=decide ((i:Int)∈l):=by
 rw[PO,Ss l A,bX,pv]
theorem Hi:Can (jc p):=by
 by_cases h:p<0\/8<=p
 ·have e:jc p=0:=by unfold jc;rw[gc h]
  rw[e];exact⟨Ts,Ts⟩
 ·have:p=0\/p=1\/p=2\/p=3\/p=4\/p=5\/p=6\/p=7:=ST
  rcases this with rfl|rfl|rfl|rfl|rfl|rfl|rfl|rfl<;>exact⟨Ts,Ts⟩
theorem Ks:Can (PO l):=by
 have:∀s,Can s->Can (l.foldl (λs p=>qV .i64 s (jc p)) s):=by
  induction l with
  |nil=>intro s h;exact h
  |cons p l A=>intro s h;exact A _ (ER h (Hi p))
 exact this 0 ⟨Ts,Ts⟩
theorem E4{g:Nat} (D:i<8):(i:Int)∈(bl g k row).map Sp.p↔(i:Int)∈row:=by
 simp only[bl,kp,yr];constructor
 ·rintro⟨x,⟨⟨p,j⟩,hm,h⟩,A⟩
  simp only at h;split at h
  ·cases h
   have:=List.fst_mem_of_mem_zipIdx hm
   simp only at A this;rw[<-A];exact this
  ·cases h
 ·intro h
  obtain⟨j,B⟩:=List.getElem?_of_mem h
  refine⟨⟨g,k,j,i⟩,⟨((i:Int),j),?_,?_⟩,rfl⟩
  ·rw[List.mem_zipIdx_iff_getElem?];exact B
  ·simp only;rw[gc ST]
theorem Wm:Wl t g=Mv t g:=by
 refine lP (Ab _) (ER (Ks _) (Ks _)) λi L=>?_
 rw[Wl,Dw,Mv,uw,OP _ L,OP _ L,pc L,na,<-Bool.decide_or]
 by_cases M:g<0\/((t.groups.getD []).length:Int)<=g
 ·rw[OO t g M]
  have e:∀k,fq t g k=none:=λk=>gc ST
  rw[e,e];simp
 ·obtain⟨B,rfl⟩:∃n:Nat,g=n:=⟨g.toNat,ST⟩
  obtain⟨gr,D⟩:∃x,(t.groups.getD [])[B]? =some x:=⟨_,et ST⟩
  have A:∀k:Nat,k<2->fq t B k=gr.row k:=λk hk=>by
   unfold fq
   rw[fx ST,j9,j9,fi,D];rfl
  have O:=sG D _ (im _)
  rw[gc ST]at O
  have R:=A 0 ST
  have V:=A 1 ST
  rw[show(aO t).filter (λx=>x.group==(B:Int))=bH gr B 2 from O,dm,dm,show fq t B 0=_ from R,show fq t B 1=_ from V]
  have Z:bH gr B 0=[]:=rfl
  rw[Z,lr,np];simp only[ka,E4 L]
end
open Ieee
set_option exponentiation.threshold 4000
def rk(x:Nat):Int:=if x<2^63 then(x:Int)else -((x:Int)-(2^63:Nat))-1
def fv:Option Nat->AV
 |none=>.d8
 |some n=>Fl n
theorem OQ:iX .d8=.dat .d8 none:=rfl
section
open Z
def DI:List AV:=(⟨_,by conv=>lhs;cbv⟩:cB (PK [(4,16)])).1
def jO(O M B V A L D R:Nat):cj:=(⟨_,by conv=>lhs;ext y0 y1;cbv⟩:cB λ(y0 y1:List AV)=>cM 69 [.tmp 4] [O,M,B,V,A,L,D,R] [0,8,1] 0x142001d105e65f201202200322c2f0188a011001d7221780c59644080203787c6044c6ae18317af4820c04746b85c1840828c04746b84c4101978bf8e05e2ff29f02252f17f34fd72f17fb8336f0bc112ce42f7eec17001b390bdf8b00910a0f820016410441f8ab84485e06240a30d1d122003041808e8d724178180dcca58104868c100bc040704e052041d45e0fca1586860133304b0156785b85d45efd3062f5e302f8480b984b020268c28dc20485e04038070182065d107517888bf8145de0246831791017c10030281098784c04382b90bc6cc820c5f9c0a0af01034b02048810 [y1,y0,[.int .i64 0,.int .i64 0,.int .i64 0,.int .i64 0,.int .i64 0,.int .i64 0,.int .i64 0,.int .i64 0]] [.bF]).1 cQ gK
def lg(g0 Z O g3 D B:Nat):cj:=⟨200,[.tmp 4],r [V 4 .bF] (r [V 5 .bF] (r [o 6 (.alloc DI)] (r [V 7 (i 16)] (r [o 18 (.build [.bF,i 0,i 0,i 0,i 0,F] []),o 8 (.alloc [.bF,i 0,i 0,i 0,i 0,F]),n (s 8 18 6)] (j (r [V 9 (i 0)] (u 0 (.loop (j (r [M 19 9,M 20 0,o 21 (h 20),o 22 (b .lss 19 21),M 23 22,p 24 (m 9) 23,p 25 (bb .lss 24 (i 120)) 23,o 26 (P 23 25),M 27 26,p 28 (m 5) 27,p 29 (h 28) 27,p 30 (bb .lss 29 (i 1500)) 27,o 31 (P 27 30)] (c 31 z (.exit 0))) (j (u 1 (r [M 34 0,M 35 9,o 36 (a 34 35 1),o 37 (l 36),o 38 (.call g0 [t 37,k (i 1099511627776)]),M 10 38] (r [M 39 10,o 40 (bb .quo 39 (i 16)),o 41 (bb .rem 40 (i 64)),M 11 41] (r [M 42 10,o 43 (bb .quo 42 (i 1024)),o 44 (bb .rem 43 (i 30)),o 45 (.bin .add (k (i 1)) (t 44)),M 12 45] (r [o 46 (.build [.bF,i 0,i 0,i 0,i 0,F] []),o 13 (.alloc [.bF,i 0,i 0,i 0,i 0,F]),n (s 13 46 6)] (j (r [M 47 10,o 48 (bb .rem 47 (i 16))] (u 2 (j (r [o 50 (bb .eql 48 (i 0)),M 49 50] (c 49 z (r [o 51 (bb .eql 48 (i 1)),M 49 51] (c 49 z (R [o 52 (bb .eql 48 (i 2)),M 49 52]))))) (c 49 (R [M 53 11,o 54 (bb .rem 53 (i 16)),M 55 11,o 56 (bb .rem 55 (i 16)),o 57 (A 6 56 16 1),o 58 (l 57),o 59 (.bin .sub (k (.float .f64 4626322717216342016)) (t 58)),o 60 (A 6 54 16 1),n (s 60 59 1)]) (r [o 62 (bb .eql 48 (i 3)),M 61 62] (c 61 (R [M 63 11,o 64 (bb .rem 63 (i 16)),o 65 (.call Z []),o 66 (.call O [k (i 1)]),o 67 (.call g3 [k (.float .f64 0),k (.float .f64 13830554455654793216)]),o 68 (.build [.float .f64 0,.float .f64 0,.float .f64 0,.float .f64 0,.float .f64 0,.float .f64 0] [(0,1,t 65),(1,1,t 66),(2,1,t 67),(3,1,k (.float .f64 4613937818241073152)),(4,1,k (.float .f64 4711630319722168320)),(5,1,k (.float .f64 4604930618986332160))]),M 69 11,o 70 (bb .rem 69 (i 6)),o 71 (.HL (t 68) (t 70) 6 1 none),o 72 (A 6 64 16 1),n (s 72 71 1)]) (j (r [o 74 (bb .eql 48 (i 4)),M 73 74] (c 73 z (R [o 75 (bb .eql 48 (i 5)),M 73 75]))) (c 73 (R [M 76 10,o 77 (bb .quo 76 (i 1024)),o 78 (bb .rem 77 (i 256)),o 79 (f 13 1),n (s 79 78 1)]) (r [o 81 (bb .eql 48 (i 6)),M 80 81] (c 80 (R [o 82 (f 8 2),o 83 (l 82),M 84 11,o 85 (bb .rem 84 (i 4)),o 86 (.uI .u64 (t 85)),o 87 (.bin .shl (k (i 1)) (t 86)),o 88 (b .xor 83 87),o 89 (f 8 2),n (s 89 88 1)]) (r [o 91 (bb .eql 48 (i 7)),M 90 91] (c 90 (R [M 92 11,o 93 (bb .rem 92 (i 4)),o 94 (.uI .u64 (t 93)),o 95 (.bin .shl (k (i 1)) (t 94)),o 96 (f 13 3),n (s 96 95 1)]) (r [o 98 (bb .eql 48 (i 8)),M 97 98] (c 97 (R [o 99 (f 8 3),o 100 (l 99),M 101 11,o 102 (bb .rem 101 (i 4)),o 103 (.uI .u64 (t 102)),o 104 (.bin .shl (k (i 1)) (t 103)),o 105 (b .xor 100 104),o 106 (f 8 3),n (s 106 105 1)]) (r [o 108 (bb .eql 48 (i 9)),M 107 108] (c 107 (R [M 109 12,o 110 (bb .mul 109 (i 6)),M 12 110]) (r [o 112 (bb .eql 48 (i 10)),M 111 112] (c 111 (r [V 14 (i 0)] (u 3 (.loop (j (r [M 113 14,o 114 (bb .lss 113 (i 16))] (c 114 z (.exit 3))) (j (u 4 (R [M 117 14,M 118 11,o 119 (bb .rem 118 (i 2)),o 120 (bb .mul 119 (i 20)),o 121 (.CI .f64 (t 120)),o 122 (A 6 117 16 1),n (s 122 121 1)])) (R [M 115 14,o 116 (bb .add 115 (i 1)),M 14 116])))))) (r [o 124 (bb .eql 48 (i 11)),M 123 124] (c 123 (R [M 125 11,o 126 (bb .rem 125 (i 17)),M 7 126]) (r [o 128 (bb .eql 48 (i 12)),M 127 128] (c 127 (r [o 129 (f 8 3),n (ss 129 (i 0) 1)] (R [V 7 (i 16)])) (r [o 131 (bb .eql 48 (i 13)),M 130 131] (c 130 (j (r [M 132 1,M 133 132,p 134 (m 11) 133,p 135 (bb .rem 134 (i 4)) 133,p 136 (bb .eql 135 (i 0)) 133,o 137 (P 133 136)] (c 137 (R [M 138 11,o 139 (.uI .u64 (t 138)),o 140 (.bin .shl (k (i 256)) (t 139)),o 141 (f 13 1),n (s 141 140 1)]) z)) (j (r [M 142 1,M 143 142,p 144 (m 11) 143,p 145 (bb .rem 144 (i 4)) 143,p 146 (bb .eql 145 (i 1)) 143,o 147 (P 143 146)] (c 147 (R [M 148 10,o 149 (bb .quo 148 (i 1024)),o 150 (bb .rem 149 (i 256)),o 151 (f 13 4),n (s 151 150 1)]) z)) (R [M 152 1,M 153 152,p 154 (m 11) 153,p 155 (bb .rem 154 (i 2)) 153,p 156 (bb .eql 155 (i 0)) 153,o 157 (P 153 156),o 158 (f 13 5),n (s 158 157 1)]))) z)))))))))))))))))))))))) (r [M 159 7,o 160 (.TL (t 6) 16 1 (t 159)),o 161 (.CJ D 1 8 (t 160) (t 6)),M 15 161] (r [V 16 (i 0)] (u 5 (.loop (j (r [M 162 16,M 163 12,o 164 (b .lss 162 163),M 165 164,p 166 (m 5) 165,p 167 (h 166) 165,p 168 (bb .lss 167 (i 1500)) 165,o 169 (P 165 168)] (c 169 z (.exit 5))) (j (u 6 (r [M 172 15,o 173 (f 8 2),o 174 (l 173),o 175 (f 8 3),o 176 (l 175),o 177 (.build [.bF,i 0,i 0,i 0,i 0,F] [(0,1,t 172),(2,1,t 174),(3,1,t 176)]),o 17 (.alloc [.bF,i 0,i 0,i 0,i 0,F]),n (s 17 177 6)] (j (r [M 178 16,o 179 (bb .eql 178 (i 0))] (c 179 (r [o 180 (f 13 1),o 181 (l 180),o 182 (f 17 1),n (s 182 181 1)] (r [o 183 (f 13 4),o 184 (l 183),o 185 (f 17 4),n (s 185 184 1)] (r [o 186 (f 17 3),o 187 (l 186),o 188 (f 13 3),o 189 (l 188),o 190 (b .or 187 189),o 191 (f 17 3),n (s 191 190 1)] (R [o 192 (f 13 5),o 193 (l 192),o 194 (f 17 5),n (s 194 193 1)])))) z)) (R [M 195 5,o 196 (L 17 6),o 197 (.PG B 6 [t 196]),o 198 (.app B 6 64 (t 195) (t 197)),M 5 198])))) (R [M 170 16,o 171 (bb .add 170 (i 1)),M 16 171]))))))))))))) (R [M 32 9,o 33 (bb .add 32 (i 1)),M 9 33])))))) (r [M 199 5,M 4 199] y))))))⟩
def sV:cj:=(⟨_,by conv=>lhs;cbv⟩:cB (cM 12 [.cell 2 (some 4)] [] [] 0x2a0172809a09408e08206010c78810a88105881008a803a1a20 [[.bF,.int .i64 0,.int .i64 0,.int .i64 0]])).1
def mN(L D B M A:Nat):cj:=(⟨_,by conv=>lhs;ext y0 y1 y2;cbv⟩:cB λ(y0 y1 y2:List AV)=>cM 25 [.tmp 0] [L,D,B,M,A] [1,10,0] 0x14002861c085a3f809cc8121a3c82283fba8bcb91bfc18bc781bf80910a0f80999d45e3a180ea2fde053278091a0c5e3d280240ad02f1e2012188f871101022c1111088fa8081051822117917c1186a02ec1108821011a122c04500898111620c2705f400e8840810 [y1,y2,[.bF,.bF],y0,[.bF,.int .i64 0,.int .i64 0,.int .i64 0]] [.bF]).1 cQ gK f8
def zK:cj:=(⟨_,by conv=>lhs;cbv⟩:cB (cM 2 [.tmp 0] [] [] 0x50000710060810 [] [.float .f64 0] [.xt .ffrom (.k (.int .u64 9221120237041090561))])).1
def zL:cj:=(⟨_,by conv=>lhs;cbv⟩:cB (cM 8 [.tmp 2] [] [0] 0x141001c1806079a044b34088201010178d8480c7608064810 [] [.float .f64 0,.int .u64 0,.int .u64 9218868437227405312,.int .u64 18442240474082181120] [.xt .ffrom (.t 6)])).1
def oU:cj:=(⟨_,by conv=>lhs;cbv⟩:cB (cM 13 [.tmp 4] [] [] 0x284013819863c1462ec11e1030740c8068810 [] [.float .f64 0,.int .u64 9223372036854775808] [.xt .Fs (.t 5),.xt .Fs (.t 8),.xt .ffrom (.t 11)])).1
end
section
variable (C:bk) (d:xP) (c:Ch) (f:Nat) (x:Option Nat)
def abF(x:Nat):Bool:=Mt x 13920209183539462144&&LY x 4696837146684686336
def lvN(on:Bool) (cJ:Int) (x:Nat):Bool×Int:=
 if abF x then(if Mt x d.on then(true,0)else if LY x d.off then(false,0)else(on,0))else(on,bh cJ)
def Hj(on:Bool) (cJ:Int):Option Nat->Bool×Int
 |some x=>lvN d on cJ x
 |none=>(on,bh cJ)
def zM(on:Bool) (cJ:Int):Bool:=on||decide (cJ>=3)
def dgE(PN CT:Int) (b:Bool):Int×Int:=if b then(bh PN,0)else(0,bh CT)
def St(a b PN CT:Int):Bool:=(decide (a>0)&&decide (PN>=a))||(decide (b>0)&&decide (CT>=b))
def c9(n:Int):Int:=iO n 0 9999
def Su(delay extend held tail:Int) (out b:Bool):Int×Int×Bool:=
 if !b&&(held==0&&(tail==0&&out==false))then(held,tail,out)
 else if(if b then bh held else 0)>c9 delay then((if b then bh held else 0),c9 extend,true)
 else if out&&decide (c9 tail>0)then((if b then bh held else 0),c9 tail-1,true)
 else((if b then bh held else 0),0,false)
def IU(x:Nat):Int:=if PM x then(tk x:Int)else 0
def IV:Ch :=
  ⟨(Hj d c.on c.cJ x).1,(Hj d c.on c.cJ x).2,(dgE c.PN c.CT (zM (Hj d c.on c.cJ x).1 (Hj d c.on c.cJ x).2)).1,(dgE c.PN c.CT (zM (Hj d c.on c.cJ x).1 (Hj d c.on c.cJ x).2)).2,
   (Su (IU d.delay) (IU d.extend) c.held c.tail c.out (zM (Hj d c.on c.cJ x).1 (Hj d c.on c.cJ x).2)).1,(Su (IU d.delay) (IU d.extend) c.held c.tail c.out (zM (Hj d c.on c.cJ x).1 (Hj d c.on c.cJ x).2)).2.1,(Su (IU d.delay) (IU d.extend) c.held c.tail c.out (zM (Hj d c.on c.cJ x).1 (Hj d c.on c.cJ x).2)).2.2⟩
def abG:Nat:=9221120237041090561
def Ce(l:List Ch) (k:Nat):Ch:=l.getD k default
def Hl(l:List (Option Nat)) (k:Nat):Option Nat:=l.getD k none
def nI(t:Tb) (l:List Ch) (x:List (Option Nat)) (n:Nat):List Ch:=(List.range n).map λk=>IV (GH t k) (Ce l k) (Hl x k)
def mO:List AV:=[fv x]
def DJ:Bool:=c.out||(decide (c.cJ>=3)||St d.maxOn d.rM c.PN c.CT)
def jr(t:Tb) (l:List Ch):Nat->Int
 |0=>0
 |k+1=>if DJ (GH t k) (Ce l k)then dr (jr t l k) (GH t k).phase else jr t l k
def sW.Spec:Prop:=∀n:Int,C.c f [I n] (I (bh n)) none
def Cf.Spec:Prop:=∀(d:xP) (on:Bool) (cJ:Int) (x:Option Nat),C.c f [.agg d.cells,.agg [B on,I cJ],fv x] (.agg [B (Hj d on cJ x).1,I (Hj d on cJ x).2]) none
def yC.Spec:Prop:=∀(on:Bool) (cJ:Int),C.c f [.agg [B on,I cJ]] (B (decide (cJ>=3))) none
def Cg.Spec:Prop:=∀(on:Bool) (cJ:Int),C.c f [.agg [B on,I cJ]] (B (zM on cJ)) none
def Ci.Spec:Prop:=∀(a b:Int) (x:Bool),C.c f [.agg [I a,I b],B x] (.agg [I (dgE a b x).1,I (dgE a b x).2]) none
def xy.Spec:Prop:=∀(a b x y:Int),C.c f [I a,I b,.agg [I x,I y]] (B (St a b x y)) none
def Ho.Spec:Prop:=∀n:Int,C.c f [I n] (I (c9 n)) none
def Cj.Spec:Prop:=∀(a b held tail:Int) (out x:Bool),C.c f [I a,I b,.agg [I held,I tail,B out],B x] (.agg [I (Su a b held tail out x).1,I (Su a b held tail out x).2.1,B (Su a b held tail out x).2.2]) none
def Hp.Spec:Prop:=∀(l:Option (List Ch)) (k:Nat),(l.getD []).length<=1000000->C.c f [aI Ch.cells l,I k,.agg (Ch.cells default)] (.agg (Ce (l.getD []) k).cells) none
def Hq.Spec:Prop:=∀(l:Option (List (Option Nat))) (k:Nat),(l.getD []).length<=1000000->C.c f [aI mO l,I k,.d8] (fv (Hl (l.getD []) k)) none
def xz.Spec:Prop:=∀x:Nat,x<2^64->C.c f [Fl x] (I (IU x)) none
def Mi.Spec:Prop:=C.c f [] .d8 none
end
section
variable{P:Program} (hm:P.follows .mixedOrders=true) {f:Nat}
include hm
theorem sW.ok(B:bY P f=some uF):sW.Spec (Pure P) f:=by
 intro n
 have A:=OJ n
 refine aq hm B [] rfl ?_;try simp only[I,RX,↓KW,seval,uF,Z.H]
 rw[A];rfl
theorem Wn.ok(B:bY P f=some xe):sW.Spec (Pure P) f:=by
 intro n
 have A:=OJ n
 refine aq hm B [] rfl ?_;try simp only[I,RX,↓KW,seval,xe,Z.H]
 rw[A];rfl
theorem Ho.ok(B:bY P f=some xg):Ho.Spec (Pure P) f:=by
 intro n
 have A:=OJ n
 refine aq hm B [] rfl ?_;try simp only[I,RX,↓KW,seval,xg,Z.H]
 rw[A];rfl
theorem Mi.ok(A:bY P f=some zK):Mi.Spec (Pure P) f:=by
 show(Pure P).c f [] .d8 none
 refine VX (n:=abG) (by decide+kernel) ?_
 refine aq hm A [] rfl ?_;try simp only[RX,↓KW,seval,zK,Z.H]
 all_goals rfl
theorem xz.ok{A:Nat} (D:bY P f=some (qH A)) (hS:BC.Spec (Pure P) A):xz.Spec (Pure P) f:=by
 intro x L;refine aq hm D [] rfl ?_;try simp only[I,RX,↓KW,seval,qH,Z.H]
 refine ah (hS x L) ?_;try simp only[I,B,RX,↓KW,seval,L1]
 rfl
theorem yC.ok(A:bY P f=some qI):yC.Spec (Pure P) f:=by
 intro on cJ;refine aq hm A [] rfl ?_;try simp only[I,B,RX,↓KW,seval,qI,Z.H]
 try rfl
theorem Cg.ok{A:Nat} (D:bY P f=some (uA A)) (hF:yC.Spec (Pure P) A):Cg.Spec (Pure P) f:=by
 intro on cJ;refine aq hm D [] rfl ?_;try simp only[I,B,RX,↓KW,seval,uA,Z.H]
 cases on
 ·try simp only[RX,↓KW,seval]
  refine ah (hF false cJ) ?_;try simp only[B,RX,↓KW,seval]
  simp[zM]
 ·try simp only[RX,↓KW,seval]
  simp[zM]
theorem Cf.ok{O:Nat} (hc:bY P f=some (oa O)) (V:sW.Spec (Pure P) O):Cf.Spec (Pure P) f:=by
 intro d on cJ x
 have R:d.cells[1]? =some (Fl d.on)/\d.cells[2]? =some (Fl d.off):=⟨rfl,rfl⟩
 cases x with
 |none=>
  have hE:Hj d on cJ none=(on,bh cJ):=rfl
  rw[hE]
  show(Pure P).c f [.agg d.cells,.agg [B on,I cJ],.d8] _ none
  refine aq hm hc [] rfl ?_;try simp only[I,B,RX,↓KW,seval,oa,Z.H,NAN,OQ]
  refine ah (V _) ?_;try simp only[I,RX,↓KW,seval]
 |some x=>
  show(Pure P).c f [.agg d.cells,.agg [B on,I cJ],Fl x] _ none
  have hE:Hj d on cJ (some x)=if Mt x 13920209183539462144&&LY x 4696837146684686336 then(if Mt x d.on then(true,0)else if LY x d.off then(false,0)else(on,0))else(on,bh cJ):=rfl
  generalize Hj d on cJ (some x)=res at*;refine aq hm hc [] rfl ?_;try simp only[I,B,RX,↓KW,seval,oa,Z.H,Tm]
  cases h1:Mt x 13920209183539462144<;>cases A:LY x 4696837146684686336<;>cases M:Mt x d.on<;>cases L:LY x d.off<;>rw[h1,A,M,L]at hE
  all_goals try simp only[RX,↓KW,seval,A,M,L,Tm,R]
  all_goals try simp only[I,B,D,RX,↓KW,seval,h1,A,M,L,Tm,R]
  all_goals(try(refine ah (V _) ?_))
  all_goals try simp only[I,RX,↓KW,seval]
  all_goals(rw[hE];rfl)
theorem Ci.ok{D:Nat} (L:bY P f=some (w7 D)) (A:sW.Spec (Pure P) D):Ci.Spec (Pure P) f:=by
 intro a b x;refine aq hm L [] rfl ?_;try simp only[I,B,RX,↓KW,seval,w7,Z.H]
 cases x
 ·try simp only[RX,↓KW,seval]
  refine ah (A _) ?_;try simp only[I,RX,↓KW,seval]
  rfl
 ·try simp only[RX,↓KW,seval]
  refine ah (A _) ?_;try simp only[I,RX,↓KW,seval]
  rfl
theorem xy.ok(R:bY P f=some uC):xy.Spec (Pure P) f:=by
 intro a b x y;refine aq hm R [] rfl ?_;try simp only[I,B,RX,↓KW,seval,uC,Z.H]
 cases O:decide (a>0)<;>cases A:decide (x>=a)<;>cases M:decide (b>0)<;>cases L:decide (y>=b)<;>
 (try simp only[RX,↓KW,seval,A,M,L];try(try simp only[I,B,D,RX,↓KW,seval,O,A,M,L]);simp[St,O,A,M,L])
end
open Go.RowKit (Below)
section
variable{C:bk} {Q:Exit->S->Prop} {K:SV->S->Prop} {J:S->Prop} {X:AV->S->Prop}
variable(sl:List (Nat×SV)) (bx:List (Nat×cI)) (lv:List (Nat×Nat)) (nx:Nat)
def Tu(k:Exit->S->Prop) (n:Nat):AV->S->Prop:=λp s=>k (.panic (jd p)) {s with nx:=n}
class KX where
 run:SV->List (Nat×cI)->List (Nat×Nat)->Prop
 rx:AV->List (Nat×cI)->Prop
def OR(C:bk) (f:Nat) (as:List AV) (id:Nat) (bx:List (Nat×cI)) (lv:List (Nat×Nat)) (k:SV->List (Nat×cI)->List (Nat×Nat)->Prop) (x:AV->List (Nat×cI)->Prop):Prop:=
 zb C f as id lv (λv l=>k v bx l)\/(∃cs,C.n f as cs/\k (.ptr id 0) ((id,⟨cs,[]⟩)::bx) lv)\/(∃p,C.q f [] (as.map some) p []/\x p bx)\/∃rows e z,C.c f as (.sl rows) (some e)/\C2 z rows=true/\k (.vs id 0 rows.length z) ((id,⟨rows.flatten,[]⟩)::bx) lv
@[congr] theorem ZO (f:Nat) {as A:List AV} (id:Nat) (bx:List (Nat×cI)) (lv:List (Nat×Nat)) (k:SV->List (Nat×cI)->List (Nat×Nat)->Prop) (x:AV->List (Nat×cI)->Prop) (h:as=A):OR C f as id bx lv k x=OR C f A id bx lv k x:=by rw[h]
section
variable (e f id:Nat) (k:SV->Prop) {A v:SV} (p:List (Option AV)×List Nat) (s:S)
def E5(C:bk) (f:Nat) (css:List (List AV)) (as:List (Option AV)) (ids:List Nat) (id:Nat) (bx:List (Nat×cI)) (lv:List (Nat×Nat)) (k:SV->List (Nat×cI)->List (Nat×Nat)->Prop) (x:AV->List (Nat×cI)->Prop):Prop:=
 A9 C f css as ids id bx lv k\/(∃v A,C.q f css as v A/\x v (dJ ids A bx))\/Jp C f css as ids id bx lv k
@[congr] theorem Xh{css B:List (List AV)} {as D:List (Option AV)} {ids A:List Nat} (bx:List (Nat×cI)) (lv:List (Nat×Nat)) (k:SV->List (Nat×cI)->List (Nat×Nat)->Prop) (x:AV->List (Nat×cI)->Prop) (M:css=B) (L:as=D) (O:ids=A):E5 C f css as ids id bx lv k x=E5 C f B D A id bx lv k x:=by rw[M,L,O]
def Sv(C:bk) (f id:Nat) (bx:List (Nat×cI)) (lv:List (Nat×Nat)) (B:List (Option AV)) (A:List Nat) (k:SV->List (Nat×cI)->List (Nat×Nat)->Prop) (x:AV->List (Nat×cI)->Prop) (p:List (Option AV)×List Nat):Prop:=
 c8 (p.2++A)=true/\aj (aV bx (p.2++A)) λcss=>E5 C f css (p.1++B) (p.2++A) id bx lv k x
def Kt(C:bk) (id:Nat) (b:Bool) (g:bn) (args:List bn) (K:SV->S->Prop) (X:AV->S->Prop) (s:S):Option SV->Prop
 |some (.tW f as A)=>aj (dS true s args) (Sv C f id s.boxes s.live as A (λv b l=>K v ⟨s.slots,b,l,s.nx⟩) (λp b=>X p ⟨s.slots,b,s.live,s.nx⟩))
 |_=>bB C id (if b then .fQ g args else .jx g args) K s
@[congr] theorem Xi(b:Bool) (g:bn) (args:List bn) (K:SV->S->Prop) (X:AV->S->Prop) (s:S) {v A:Option SV} (h:v=A):Kt C id b g args K X s v=Kt C id b g args K X s A:=by rw[h]
def ZP:Prop:=k (.tW f p.1 p.2)
def ZQ(b:Option AV) (k:SV->S->Prop):SV->Prop
 | .raw q n=>aj b λb=>aj (rowsOf b) λA=>(A.length=n/\∀r∈A,r.length=1)/\dY q s.live=some e/\k (.dat (.int .i64 n) none) {s with slots:=KY q n (.sl A) id s.slots,live:=(id,e)::lZ q s.live}
 |_=>False
@[congr] theorem abH{b B:Option AV} (k:SV->S->Prop) (h:b=B) (D:v=A):ZQ e id s b k v=ZQ e id s B k A:=by rw[h,D]
def Tv:SV->Prop
 | .ptr b o=>k (.pt 0 [(b,o)])
 |_=>False
def Tw:SV->Prop
 | .pt 0 ps=>k (.pt 2 ps)
 |_=>False
def Wo(k:S->Prop) (b:Nat):SV->Prop
 | .pt 0 ps=>aj (b9 b s.boxes) λy=>(4<=b/\y.cells.length=1/\ps.length=1)/\k {s with slots:=C1 b ps s.slots,boxes:=kS b s.boxes}
 |_=>False
def ZR(k:S->Prop) (v:Option SV):SV->Prop
 | .ptr b 0=>aj v (Wo s k b)
 |_=>False
def ZS(a:Option AV) (k:SV->Prop):SV->Prop
 | .pt 1 ps=>aj a λa=>aj (idxOf a) λi=>(0<=i/\i<ps.length)/\k (.pt 2 (ps.drop i.toNat))
 |_=>False
def ZT:SV->Prop
 | .pt 1 ps=>k (.dat (.int .i64 ps.length) none)
 |_=>False
def IW(C:bk) (f:Nat) (css:List (List AV)) (as:List (Option AV)) (ids:List Nat) (bx:List (Nat×cI)) (k:SV->List (Nat×cI)->Prop):Prop:=∃j o b,C.r f css as j o/\ids[j]? =some b/\k (.ptr b o) (dJ ids css bx)
def OS(C:bk) (bx:List (Nat×cI)) (p:List (Option AV)×List Nat) (k:SV->List (Nat×cI)->Prop):AV->Prop
 | .fn (.func f) [] []=>c8 p.2=true/\aj (aV bx p.2) λcss=>IW C f css p.1 p.2 bx k
 |_=>False
@[congr] theorem aaD(h:v=A):Tv k v=Tv k A:=by rw[h]
@[congr] theorem aaE(h:v=A):Tw k v=Tw k A:=by rw[h]
@[congr] theorem abI(k:S->Prop) {u B:Option SV} (D:u=B) (h:v=A):ZR s k u v=ZR s k B A:=by rw[h,D]
@[congr] theorem abJ(k:S->Prop) (b:Nat) (h:v=A):Wo s k b v=Wo s k b A:=by rw[h]
@[congr] theorem abK{a a':Option AV} (B:a=a') (h:v=A):ZS a k v=ZS a' k A:=by rw[h,B]
@[congr] theorem abL(h:v=A):ZT k v=ZT k A:=by rw[h]
@[congr] theorem ZU{css B:List (List AV)} {as D:List (Option AV)} {ids A:List Nat} {bx L:List (Nat×cI)} (k:SV->List (Nat×cI)->Prop) (R:css=B) (M:as=D) (V:ids=A) (O:bx=L):IW C f css as ids bx k=IW C f B D A L k:=by rw[R,M,V,O]
@[congr] theorem ZV(k:SV->List (Nat×cI)->Prop) {v A:AV} (h:v=A):OS C bx p k v=OS C bx p k A:=by rw[h]
@[congr] theorem abM(o:Fu) (s:S):ew C id o K X s=ew C id o K X s:=rfl
@[congr] theorem aaF (b i:Nat) (l:List XO) (s:S):ri C b i l J X s=ri C b i l J X s:=rfl
@[congr] theorem aaG (n:Nat) (p:AV) (s:S):Tu Q n p s=Tu Q n p s:=rfl
@[congr] theorem abN{p A:List (Option AV)×List Nat} (h:p=A):ZP f k p=ZP f k A:=by rw[h]
end
end
open Go.RowKit (Below)
structure ada where
 nt:Nat
 d:Nat
 ops:List XO
 code:aZ
open Go.RowKit (Below)
section
variable (C:bk) (res:List jf) (r:AV) (fr:Option Nat) (css:List (List AV))
structure adb where
 nt:Nat
 res:List jf
 pre:aZ
 g:Nat
 caps:List bn
 t:Nat
 code:aZ
def ZW(t g:Nat) (as:List (Option AV)) (B:List Nat) (D:AV) (s:S):Prop:=
 lk t s.slots=some (.tW g as B)/\c8 B=true/\aj (aV s.boxes B) λcs=>∃A,C.d g D cs as A/\Il res r fr css .ret {s with boxes:=dJ B A s.boxes}
def ZX(t g:Nat) (as:List (Option AV)) (A:List Nat):Exit->S->Prop
 | .normal,s| .ret,s=>ZW C res r fr css t g as A .m5 s
 | .panic c,s=>∃p,c=jd p/\As p=true/\ZW C res r fr css t g as A p s
 |_,_=>False
def dK(g:Nat) (caps:List bn) (t:Nat) (code:aZ):S->Prop:=λs1=>aj (dS false s1 caps) λp=>aw C code (ZX C res r fr css t g p.1 p.2) {(s1.put (some t) (.tW g p.1 p.2))with nx:=s1.nx+2}
def dKp(g t:Nat) (code:aZ) (s:S) (p:List (Option AV)×List Nat):Prop:=aw C code (ZX C res r fr css t g p.1 p.2) {(s.put (some t) (.tW g p.1 p.2))with nx:=s.nx+2}
@[congr] theorem ade{C:bk} (g:Nat) (caps:List bn) (t:Nat) (code:aZ) (s:S):dK C res r fr css g caps t code s=dK C res r fr css g caps t code s:=rfl
@[congr] theorem acn{C:bk} (g t:Nat) (code:aZ) (s:S) {p A:List (Option AV)×List Nat} (h:p=A):dKp C res r fr css g t code s p=dKp C res r fr css g t code s A:=by rw[h]
structure Fm where
 samples:Option (List (List AV))
 push:Int
 ask:Int
 lines:Int
 sX:Int
 reset:Bool
 deriving Inhabited
def smR(r:List AV):List AV:=r
def Fm.cells(x:Fm):List AV:=[aI smR x.samples,I x.push,I x.ask,I x.lines,I x.sX,B x.reset]
theorem Fm.len(x:Fm):x.cells.length=6:=rfl
end
section
variable{P:Program} (hm:P.follows .mixedOrders=true) {f:Nat}
include hm
theorem Cj.ok{fC:Nat} (hc:bY P f=some (uB fC)) (hC:Ho.Spec (Pure P) fC):Cj.Spec (Pure P) f:=by
 intro a b held tail out x
 have hE:Su a b held tail out x=if(!x&&(held==0&&(tail==0&&out==false)))=true then(held,tail,out)
  else if decide ((if x then bh held else 0)>c9 a)=true then((if x then bh held else 0),c9 b,true)
  else if(out&&decide (c9 tail>0))=true then((if x then bh held else 0),c9 tail-1,true)
  else((if x then bh held else 0),0,false):=by simp only[Su,gn]
 have hw:IntKind.i64.wrap (c9 held+1)=bh held:=by
  have:0<=c9 held/\c9 held<=9999:=by unfold c9 iO;split<;>(try split)<;>omega
  rfl
 have V:IntKind.i64.wrap (c9 tail-1)=c9 tail-1:=by
  have:0<=c9 tail/\c9 tail<=9999:=by unfold c9 iO;split<;>(try split)<;>omega
  rw[aT ST ST]
 generalize Su a b held tail out x=res at*;refine aq hm hc [] rfl ?_;try simp only[I,B,D,RX,↓KW,seval,uB,Z.H]
 have qe:dH [.i,.i,.b] [.int .i64 held,.int .i64 tail,.bool out] [.int .i64 0,.int .i64 0,.bool false]=some (held==0&&(tail==0&&out==false)):=by
  simp[dH,uK]
 have qf:(false !=false)=false:=rfl
 have qt:(true !=false)=true:=rfl
 rcases bc x with M|M
 ·try simp only[I,B,D,RX,↓KW,seval,M,qe]
  rcases bc (held==0&&(tail==0&&out==false))with R|R
  ·try simp only[I,B,D,RX,↓KW,seval,R,qf]
   refine ah (hC _) ?_;try simp only[I,B,D,RX,↓KW,seval]
   refine ah (hC _) ?_;try simp only[I,B,D,RX,↓KW,seval]
   rcases bc (decide (0>c9 a))with A|A
   ·try simp only[I,B,D,RX,↓KW,seval,A]
    rcases bc out with L|L
    ·try simp only[I,B,D,RX,↓KW,seval,L]
     rw[hE,M,R];simp only[A,L,ma,nd,na,md,nm,nf,eQ,kv,ik]
    ·try simp only[I,B,D,RX,↓KW,seval,L]
     rcases bc (decide (c9 tail>0))with O|O
     ·try simp only[I,B,D,RX,↓KW,seval,O]
      rw[hE,M,R];simp only[A,L,O,ma,nd,na,md,nm,nf,eQ,kv,ik]
     ·try simp only[I,B,D,RX,↓KW,seval,O,V]
      rw[hE,M,R];simp only[A,L,O,ma,nd,na,md,nm,nf,eQ,kv,ik]
   ·try simp only[I,B,D,RX,↓KW,seval,A]
    refine ah (hC b) ?_;try simp only[I,B,D,RX,↓KW,seval]
    rw[hE,M,R];simp only[A,ma,nd,na,md,nm,nf,eQ,kv,ik]
  ·try simp only[I,B,D,RX,↓KW,seval,R,qt]
   rw[hE,M,R];rfl
 ·try simp only[I,B,D,RX,↓KW,seval,M]
  refine ah (hC _) ?_;try simp only[I,B,D,RX,↓KW,seval,hw]
  refine ah (hC _) ?_;try simp only[I,B,D,RX,↓KW,seval,hw]
  refine ah (hC _) ?_;try simp only[I,B,D,RX,↓KW,seval,hw]
  rcases bc (decide (bh held>c9 a))with A|A
  ·try simp only[I,B,D,RX,↓KW,seval,A]
   rcases bc out with L|L
   ·try simp only[I,B,D,RX,↓KW,seval,L]
    rw[hE,M];simp only[A,L,ma,nd,na,md,nm,nf,eQ,kv,ik]
   ·try simp only[I,B,D,RX,↓KW,seval,L]
    rcases bc (decide (c9 tail>0))with O|O
    ·try simp only[I,B,D,RX,↓KW,seval,O]
     rw[hE,M];simp only[A,L,O,ma,nd,na,md,nm,nf,eQ,kv,ik]
    ·try simp only[I,B,D,RX,↓KW,seval,O,V]
     rw[hE,M];simp only[A,L,O,ma,nd,na,md,nm,nf,eQ,kv,ik]
  ·try simp only[I,B,D,RX,↓KW,seval,A]
   refine ah (hC b) ?_;try simp only[I,B,D,RX,↓KW,seval]
   rw[hE,M];simp only[A,ma,nd,na,md,nm,nf,eQ,kv,ik]
theorem Hq.ok(V:bY P f=some kL):Hq.Spec (Pure P) f:=by
 intro l k hl
 have R:∀x,mO x=[fv x]:=λ_=>rfl
 refine aq hm V [] rfl ?_;try simp only[I,B,D,RX,↓KW,seval,kL,Z.H,OQ]
 rcases bc (decide ((k:Int)<((l.getD []).length:Int)))with h|h
 ·have L:(l.getD []).length<=k:=by have:=dC h;omega
  have A:Hl (l.getD []) k=none:=by simp[Hl,L]
  try simp only[I,B,D,RX,↓KW,seval,h]
  rw[A];rfl
 ·have L:k<(l.getD []).length:=by have:=dE h;omega
  obtain⟨x,M⟩:∃x,(l.getD [])[k]? =some x:=⟨_,et L⟩
  have A:Hl (l.getD []) k=x:=by rw[Hl,fi,M];rfl
  have O:0<=(k:Int)/\(k:Int)<((l.getD []).length:Int):=ST
  try simp only[I,B,D,RX,↓KW,seval,h,M,O,R]
  rw[A]
end
def Ck.Spec(C:bk) (f:Nat):Prop:=∀(t:Tb) (l:Option (List Ch)) (x:Option (List (Option Nat))),t.Ok->t.Fw->(l.getD []).length<=1000000->(x.getD []).length<=1000000->C.c f [.agg t.cells,aI Ch.cells l,aI mO x] (aI Ch.cells (dB (nI t (l.getD []) (x.getD []) (t.aQ.getD []).length))) none
section
variable{P:Program} (hm:P.follows .mixedOrders=true) {f:Nat}
include hm
theorem Hp.ok(hc:bY P f=some iI):Hp.Spec (Pure P) f:=by
 intro l k hl
 have R:(Ch.cells default).length=7:=rfl
 have A:aH (Ch.cells default) 0 (some 7)=some (.agg (Ch.cells default)):=rfl
 have V:∀x:Ch,x.cells.length=7/\aH x.cells 0 (some 7)=some (.agg x.cells)/\x.cells.take 7=x.cells:=λ_=>⟨rfl,rfl,rfl⟩
 refine aq hm hc [] rfl ?_;try simp only[I,B,D,RX,↓KW,seval,iI,Z.H,R,A]
 rcases bc (decide ((k:Int)<((l.getD []).length:Int)))with h|h
 ·have M:(l.getD []).length<=k:=by have:=dC h;omega
  have L:Ce (l.getD []) k=default:=by simp[Ce,M]
  try simp only[I,B,D,RX,↓KW,seval,h,R,A]
  rw[L]
 ·have M:k<(l.getD []).length:=by have:=dE h;omega
  obtain⟨x,O⟩:∃x,(l.getD [])[k]? =some x:=⟨_,et M⟩
  have L:Ce (l.getD []) k=x:=by rw[Ce,fi,O];rfl
  have hy:0<=(k:Int)/\(k:Int)<((l.getD []).length:Int):=ST
  try simp only[I,B,D,RX,↓KW,seval,h,O,hy,V]
  rw[L]
theorem Ck.ok{fA fN fF fL fS fG fT fY e:Nat} (hc:bY P f=some (mK fA fN fF fL fS fG fT fY e)) (hA:Hp.Spec (Pure P) fA) (hN:Mi.Spec (Pure P) fN) (hF:Hq.Spec (Pure P) fF) (hL:Cf.Spec (Pure P) fL) (hS:Cg.Spec (Pure P) fS) (hG:Ci.Spec (Pure P) fG) (hT:xz.Spec (Pure P) fT) (hY:Cj.Spec (Pure P) fY):Ck.Spec (Pure P) f:=by
 intro t l x ht ae ac ab
 have hl:=Tb.len ht
 have hd:=ht.ln.N3
 have al:=ht.VU
 refine aq hm hc [] rfl ?_;try simp only[I,B,D,RX,↓KW,seval,mK,Z.H,hl,hd]
 refine aN (λk:Nat=>(⟨[(16,.dat (I k) none),(15,.dat (I (t.aQ.getD []).length) none),(14,.dat (aI xP.cells t.aQ) none),(1,.dat (aI Ch.cells l) none),(2,.dat (aI mO x) none),(7,br Ch.cells (nI t (l.getD []) (x.getD []) k) 0)],[],bG (nI t (l.getD []) (x.getD []) k) 0 e,400⟩:S)) (λk=>(t.aQ.getD []).length-k) (λk=>k<=(t.aQ.getD []).length) ?_ 0 ST ?_
 ·intro k hk A back
  have ak:=aG (k:=k) ST
  have R:nI t (l.getD []) (x.getD []) (k+1)=nI t (l.getD []) (x.getD []) k++[IV (GH t k) (Ce (l.getD []) k) (Hl (x.getD []) k)]:=by simp[nI,lm]
  try simp only[I,B,D,RX,↓KW,seval]
  rcases bc (decide ((k:Int)<((t.aQ.getD []).length:Int)))with h|h
  ·have ad:k=(t.aQ.getD []).length:=by have:=dC h;omega
   subst ad
   by_cases L:nI t (l.getD []) (x.getD []) (t.aQ.getD []).length=[]
   ·try simp only[I,B,D,RX,↓KW,seval,h,br,bG,L]
    rfl
   ·try simp only[I,B,D,RX,↓KW,seval,h,br,bG,L]
    simp[aI,dB,L]
  ·have h1:k<(t.aQ.getD []).length:=by have:=dE h;omega
   obtain⟨d,hx⟩:∃d,(t.aQ.getD [])[k]? =some d:=⟨_,et h1⟩
   have aa:GH t k=d:=by rw[GH,fi,hx];rfl
   have O:d.Fw:=ae d (ev hx)
   have hy:0<=(k:Int)/\(k:Int)<((t.aQ.getD []).length:Int):=ST
   have M:d.cells.length=7/\aH d.cells 0 (some 7)=some (.agg d.cells)/\d.cells.take 7=d.cells/\d.cells[3]? =some (Fl d.delay)/\d.cells[4]? =some (Fl d.extend):=⟨rfl,rfl,rfl,rfl,rfl⟩
   have hz:∀y:List AV,y.length=7->setCells [.int .i64 0,.float .f64 0,.float .f64 0,.float .f64 0,.float .f64 0,.int .i64 0,.int .i64 0] 0 y=y:=by intro y hy;exact gB (by rw[hy];rfl)
   generalize ag:nI t (l.getD []) (x.getD []) k=cs at*
   obtain⟨c,V⟩:∃c,Ce (l.getD []) k=c:=⟨_,rfl⟩
   obtain⟨v,hv⟩:∃v,Hl (x.getD []) k=v:=⟨_,rfl⟩
   have cA:=hA l k ac
   have cF:=hF x k ab
   rw[V]at cA;rw[hv]at cF;rw[aa,V,hv]at R
   by_cases L:cs=[]
   all_goals
    try simp only[I,B,D,RX,↓KW,seval,br,bG,L,h,hx,hy,M]
    refine ah cA ?_;try simp only[I,B,D,RX,↓KW,seval,Ch.cells,M]
    refine ah hN ?_;try simp only[I,B,D,RX,↓KW,seval,Ch.cells,M]
    refine ah cF ?_;try simp only[I,B,D,RX,↓KW,seval,Ch.cells,M]
    refine ah (hL d c.on c.cJ v) ?_;try simp only[I,B,D,RX,↓KW,seval,Ch.cells,M]
    refine ah (hS _ _) ?_;try simp only[I,B,D,RX,↓KW,seval,Ch.cells,M]
    refine ah (hG _ _ _) ?_;try simp only[I,B,D,RX,↓KW,seval,Ch.cells,M]
    refine ah (hT d.delay (by obtain⟨_,_,h,_⟩:=O;exact h)) ?_
    try simp only[I,B,D,RX,↓KW,seval,Ch.cells,M]
    refine ah (hT d.extend (by obtain⟨_,_,_,h⟩:=O;exact h)) ?_
    try simp only[I,B,D,RX,↓KW,seval,Ch.cells,M]
    refine ah (hY _ _ _ _ _ _) ?_;try simp only[I,B,D,RX,↓KW,seval,Ch.cells,M]
    first
     |refine back (k+1) _ ST ST ?_
     |(have am:cs.length=k:=by{rw[<-ag];simp[nI]}
       refine⟨ST,back (k+1) _ ST ST ?_⟩)
    refine ai Ts ?_ ?_ ?_ ?_<;>simp[LX,I,B,D,R,L,ak,br,bG,IV,Ch.cells]
 ·refine ai Ts ?_ ?_ ?_ ?_<;>simp[LX,I,B,D,br,bG,nI]
end
def Cl(t:Tb) (l:List Ch):Nat:=min l.length (t.aQ.getD []).length
def Cm.Spec(C:bk) (f:Nat):Prop:=∀(t:Tb) (l:Option (List Ch)),t.Ok->(l.getD []).length<=1000000->C.c f [.agg t.cells,aI Ch.cells l] (I (jr t (l.getD []) (Cl t (l.getD [])))) none
section
variable{P:Program} (hm:P.follows .mixedOrders=true) {f:Nat}
include hm
theorem Cm.ok{fF fS fW:Nat} (hc:bY P f=some (sO fF fS fW)) (hF:yC.Spec (Pure P) fF) (hS:xy.Spec (Pure P) fS) (hW:gC.Spec (Pure P) fW):Cm.Spec (Pure P) f:=by
 intro t l ht ae
 have hl:=Tb.len ht
 have hd:=ht.ln.N3
 have ak:=ht.VU
 refine aq hm hc [] rfl ?_;try simp only[I,B,D,RX,↓KW,seval,sO,Z.H,hl,hd]
 refine aN (λk:Nat=>(⟨[(11,.dat (I k) none),(10,.dat (I (l.getD []).length) none),(9,.dat (aI Ch.cells l) none),(2,.ptr 4 0),(5,.dat (I (jr t (l.getD []) k)) none)],[(4,⟨t.cells,[]⟩)],[],400⟩:S)) (λk=>(l.getD []).length-k) (λk=>k<=(l.getD []).length/\k<=(t.aQ.getD []).length) ?_ 0 ST ?_
 ·rintro k ⟨hk,ag⟩ A back
  have O:=aG (k:=k) ST
  try simp only[I,B,D,RX,↓KW,seval]
  rcases bc (decide ((k:Int)<((l.getD []).length:Int)))with h|h
  ·have R:Cl t (l.getD [])=k:=by have:=dC h;unfold Cl;omega
   try simp only[I,B,D,RX,↓KW,seval,h]
   rw[R]
  ·have h1:k<(l.getD []).length:=by have:=dE h;omega
   obtain⟨c,hx⟩:∃c,(l.getD [])[k]? =some c:=⟨_,et h1⟩
   have ad:Ce (l.getD []) k=c:=by rw[Ce,fi,hx];rfl
   have hy:0<=(k:Int)/\(k:Int)<((l.getD []).length:Int):=ST
   try simp only[I,B,D,RX,↓KW,seval,h,hx,hy,hd,Ch.cells]
   rcases bc (decide (((t.aQ.getD []).length:Int)<=(k:Int)))with h2|h2
   ·have h3:k<(t.aQ.getD []).length:=by have:=dC h2;omega
    obtain⟨d,aa⟩:∃d,(t.aQ.getD [])[k]? =some d:=⟨_,et h3⟩
    have ab:GH t k=d:=by rw[GH,fi,aa];rfl
    have ac:0<=(k:Int)/\(k:Int)<((t.aQ.getD []).length:Int):=ST
    have M:d.cells.length=7/\aH d.cells 0 (some 7)=some (.agg d.cells)/\d.cells.take 7=d.cells/\d.cells[0]? =some (I d.phase)/\d.cells[5]? =some (I d.maxOn)/\d.cells[6]? =some (I d.rM):=⟨rfl,rfl,rfl,rfl,rfl,rfl⟩
    have hE:jr t (l.getD []) (k+1)=if DJ d c then dr (jr t (l.getD []) k) d.phase else jr t (l.getD []) k:=by rw[jr,ab,ad]
    try simp only[I,B,D,RX,↓KW,seval,h2,aa,ac,hd,M]
    rcases bc c.out with a1|a1
    ·try simp only[I,B,D,RX,↓KW,seval,a1,Ch.cells,M]
     refine ah (hF c.on c.cJ) ?_;try simp only[I,B,D,RX,↓KW,seval,Ch.cells,M]
     rcases bc (decide (c.cJ>=3))with V|V
     ·try simp only[I,B,D,RX,↓KW,seval,V,Ch.cells,M]
      refine ah (hS d.maxOn d.rM c.PN c.CT) ?_;try simp only[I,B,D,RX,↓KW,seval,Ch.cells,M]
      rcases bc (St d.maxOn d.rM c.PN c.CT)with a3|a3
      ·try simp only[I,B,D,RX,↓KW,seval,a3,Ch.cells,M]
       have L:jr t (l.getD []) (k+1)=jr t (l.getD []) k:=by rw[hE];simp only[DJ,a1,V,a3,Hb,eQ,ik]
       refine back (k+1) _ ST ST ?_
       refine ai Ts ?_ ?_ ?_ ?_<;>simp[LX,I,B,D,O,L]
      ·try simp only[I,B,D,RX,↓KW,seval,a3,Ch.cells,M]
       have L:jr t (l.getD []) (k+1)=dr (jr t (l.getD []) k) d.phase:=by rw[hE];simp only[DJ,a1,V,a3,H4,wi,Hb,pv,kv]
       refine ah (hW _ _) ?_;try simp only[I,B,D,RX,↓KW,seval]
       refine back (k+1) _ ST ST ?_
       refine ai Ts ?_ ?_ ?_ ?_<;>simp[LX,I,B,D,O,L]
     ·try simp only[I,B,D,RX,↓KW,seval,V,Ch.cells,M]
      have L:jr t (l.getD []) (k+1)=dr (jr t (l.getD []) k) d.phase:=by rw[hE];simp only[DJ,a1,V,H4,wi,Hb,pv,kv]
      refine ah (hW _ _) ?_;try simp only[I,B,D,RX,↓KW,seval]
      refine back (k+1) _ ST ST ?_
      refine ai Ts ?_ ?_ ?_ ?_<;>simp[LX,I,B,D,O,L]
    ·try simp only[I,B,D,RX,↓KW,seval,a1,Ch.cells,M]
     have L:jr t (l.getD []) (k+1)=dr (jr t (l.getD []) k) d.phase:=by rw[hE];simp only[DJ,a1,H4,wi,Hb,pv,kv]
     refine ah (hW _ _) ?_;try simp only[I,B,D,RX,↓KW,seval]
     refine back (k+1) _ ST ST ?_
     refine ai Ts ?_ ?_ ?_ ?_<;>simp[LX,I,B,D,O,L]
   ·have R:Cl t (l.getD [])=k:=by have:=dE h2;unfold Cl;omega
    try simp only[I,B,D,RX,↓KW,seval,h2]
    rw[R]
 ·refine ai Ts ?_ ?_ ?_ ?_<;>simp[LX,I,B,D,jr]
end
section
variable (t:Tb) (s:Pr) (C:bk) (lines:Int) (f:Nat) (l:List Rn)
def CW:Pr:=if s.ax<0\/6<=s.ax then{s with ax:=0}else s
def Sw:Pr:=CW (iR t s lines)
def gb:Bool:=decide (aK t s>=0)&&(s.ax==0||(s.ax==5||decide (aK t s<s.which)))
def aC:Int×Pr:=
 if s.ax=0 then(0,s)else if s.ax=1 then(pW t s l,s)else if s.ax=2 then(nF t s,s)
 else if s.ax=3 then(lX t s l,s)else if s.ax=4 then gY t s else(gD t s l,s)
def mP(to:Int):Ac:=
 if to=0 then⟨0,0,0,true,false⟩else if to=1 then k6 t s l else if to=2 then OE t s l
 else if to=3 then GV t s l else if to=4 then OG t s l else OH t s l
def gi(to was:Int):Pr:={s with ax:=to,time:=mJ t {s with ax:=to} l (to !=was)}
def i7:Pr×Ac:=
 if gb t s then({s with ax:=1,which:=aK t s,time:=0},k6 t {s with ax:=1,which:=aK t s,time:=0} l)
 else if s.ax=5/\(aC t s l).1=0 then({(aC t s l).2 with ax:=0,which:=0,time:=0},iH t (aC t s l).2 l)
 else(gi t (aC t s l).2 l (aC t s l).1 s.ax,mP t (gi t (aC t s l).2 l (aC t s l).1 s.ax) l (aC t s l).1)
def i9:Pr×Ac:=i7 t (Sw t s lines) l
def Hr.Spec:Prop:=∀(t:Tb) (s:Pr) (lines:Int) (l:List Rn),kK t s l->C.c f [.agg t.cells,.agg s.cells,I lines,.agg (cE l)] (.cU [.agg (i9 t s lines l).1.cells,.agg (i9 t s lines l).2.cells]) none
def xA.Spec:Prop:=∃n:List AV,n.length=12/\iU (.agg n)=false/\C.c f [] (.agg n) none/\
 (∀k:Nat,k<6->∃g,n[k*2]? =some (.fn (.func g) [] [])/\∀t s l,kK t s l->s.ax=k->C.p g [cn t s l] [none] (I (aC t s l).1) none [cn t (aC t s l).2 l])/\
 (∀k:Nat,k<6->∃g,n[k*2+1]? =some (.fn (.func g) [] [])/\∀t s l,kK t s l->C.c g [.ref (cn t s l)] (.agg (mP t s l k).cells) none)
theorem DK{t:Tb} {s:Pr} (h:s.held.length=4):(ga t s).held.length=4:=by unfold ga;split<;>exact h
theorem IX{t:Tb} {s:Pr} (h:s.held.length=4):(gY t s).2.held.length=4:=by
 unfold gY;split
 ·exact h
 ·split<;>exact DK h
theorem mQ{t:Tb} {s:Pr} {l:List Rn} (h:s.held.length=4):(aC t s l).2.held.length=4:=by
 unfold aC
 repeat' split
 all_goals first|exact h|exact IX h
theorem j5:0<=(aC t s l).1/\(aC t s l).1<6:=by
 simp only[aC,pW,nF,lX,gY,gD]
 repeat' split
 all_goals(simp only[];omega)
end
section
variable{t:Tb} {s:Pr} {l:List Rn} (h:kK t s l)
include h
section
variable (x:Int)
theorem OT:(cn t s l)[131]? =some (I s.ax)/\(cn t s l)[132]? =some (I s.which)/\(cn t s l)[133]? =some (I s.time)/\(cn t s l)[138]? =some (I s.dR)/\aH (cn t s l) 131 (some 8)=some (.agg s.cells):=by
 have e:∀j,(cn t s l)[131+j]? =(yu s l)[j]?:=λj=>by
  rw[<-oP h,lh]
 obtain⟨L,A,B,D⟩:=Km h;rw[lh]at A B D;refine⟨(e 0).trans L,(e 1).trans A,(e 2).trans B,(e 7).trans D,?_⟩;exact gq (Tb.len h.t) (Pr.len h.s)
theorem Wp{k:Nat} (hk:k<4):(cn t s l)[134+k]? =some (I (eS s k)):=by
 have:=ZN h hk
 rw[<-oP h,Fd,Fd,lh,show 131+(3+k)+0=134+k by omega]at this
 exact this
theorem Ag{j:Nat} {ps:List AV} (B:j+ps.length<=8):setCells (cn t s l) (131+j) ps=t.cells++(setCells s.cells j ps++cE l):=by
 have A:=Tb.len h.t
 have D:=Pr.len h.s
 rw[cn,bJ ST,A,Nat.add_sub_cancel_left,yu,Bn ST]
theorem Wq:setCells (cn t s l) 131 [I x]=cn t {s with ax:=x} l:=Ag h (j:=0) (ps:=[I x]) TB
theorem OU:setCells (cn t s l) 132 [I x]=cn t {s with which:=x} l:=Ag h (j:=1) (ps:=[I x]) TB
theorem Wr:setCells (cn t s l) 133 [I x]=cn t {s with time:=x} l:=Ag h (j:=2) (ps:=[I x]) TB
theorem Ws:setCells (cn t s l) 138 [I x]=cn t {s with dR:=x} l:=by
 rw[show(138:Nat)=131+7 from rfl,Ag h TB]
 have e:setCells s.cells 7 [I x]=({s with dR:=x}:Pr).cells:=by rw[Pr.cells,Pr.cells,iQ h.s];rfl
 rw[e];rfl
theorem dG{u:Pr} (A:u.held.length=4):kK t u l:=⟨h.t,A,h.l⟩
end
end
theorem OV{t:Tb} {s:Pr} {l:List Rn} (h:kK t s l) {z:List AV} (L:z.length=235):
  List.take 139 (List.take 131 (t.cells++List.drop 131 z)++s.cells++List.drop 139 (t.cells++List.drop 131 z))++cE l++List.drop 235 (List.take 131 (t.cells++List.drop 131 z)++s.cells++List.drop 139 (t.cells++List.drop 131 z))=cn t s l:=by
 have B:=Tb.len h.t
 have D:=Pr.len h.s
 have a1:List.take 131 (t.cells++List.drop 131 z)=t.cells:=by rw[IO B]
 have A:List.take 139 (t.cells++s.cells++List.drop 139 (t.cells++List.drop 131 z))=t.cells++s.cells:=by rw[IO (by simp;omega)]
 rw[a1,A,zd (by simp;omega),ts,List.append_assoc];rfl
section
variable{P:Program} (hm:P.follows .mixedOrders=true) {f:Nat}
include hm
theorem xA.ok{a0 O a1 D a2 b2 R M a4 b4 V L:Nat} (hc:bY P f=some (nC a0 O a1 D a2 b2 R M a4 b4 V L))
  (h0:GW.Spec (Pure P) a0) (k0:GX.Spec (Pure P) O) (h1:wU.Spec (Pure P) a1) (k1:yy.Spec (Pure P) D) (h2:wV.Spec (Pure P) a2) (k2:BS.Spec (Pure P) b2)
  (h3:oQ.Spec (Pure P) R) (k3:sK.Spec (Pure P) M) (h4:wW.Spec (Pure P) a4) (k4:BT.Spec (Pure P) b4) (h5:wX.Spec (Pure P) V) (k5:BU.Spec (Pure P) L):xA.Spec (Pure P) f:=by
 refine⟨[a0,O,a1,D,a2,b2,R,M,a4,b4,V,L].map λk=>.fn (.func k) [] [],rfl,rfl,?_,?_,?_⟩
 ·refine aq hm hc [] rfl ?_
  try simp only[RX,↓KW,seval,nC,Z.H]
  exact⟨rfl,Ts,rfl⟩
 ·intro k hk
  have e:k=0\/k=1\/k=2\/k=3\/k=4\/k=5:=ST
  have B:∀{g:Nat} {F:Tb->Pr->List Rn->Int} {t s l},WI F (Pure P) g->kK t s l->(aC t s l)=(F t s l,s)->(Pure P).p g [cn t s l] [none] (I (aC t s l).1) none [cn t (aC t s l).2 l]:=λ{g F t s l} hg h he=>by
   rw[he];exact bC (args:=[none]) (hg t s l h) rfl TB
  rcases e with rfl|rfl|rfl|rfl|rfl|rfl
  ·exact⟨a0,rfl,λt s l h A=>B h0 h (by simp[aC,A])⟩
  ·exact⟨a1,rfl,λt s l h A=>B h1 h (by simp[aC,A])⟩
  ·exact⟨a2,rfl,λt s l h A=>B h2 h (by simp[aC,A])⟩
  ·exact⟨R,rfl,λt s l h A=>B h3 h (by simp[aC,A])⟩
  ·refine⟨a4,rfl,λt s l h A=>?_⟩
   have:aC t s l=gY t s:=by simp[aC,A]
   rw[this];exact h4 t s l h
  ·exact⟨V,rfl,λt s l h A=>B h5 h (by simp[aC,A])⟩
 ·intro k hk
  have e:k=0\/k=1\/k=2\/k=3\/k=4\/k=5:=ST
  rcases e with rfl|rfl|rfl|rfl|rfl|rfl
  ·exact⟨O,rfl,k0⟩
  ·exact⟨D,rfl,k1⟩
  ·exact⟨b2,rfl,k2⟩
  ·exact⟨M,rfl,k3⟩
  ·exact⟨b4,rfl,k4⟩
  ·exact⟨L,rfl,k5⟩
theorem wW.ok {fR fY:Nat} (hc:bY P f=some (jF fR fY)) (hR:jL.Spec (Pure P) fR) (hY:yq.Spec (Pure P) fY):wW.Spec (Pure P) f:=by
  intro t s l h
  have hq:=OT h
  have hlen:=E1 h
  have ht:=Kl h
  have hz:∀ r:Rl,setCells cm 0 r.cells=r.cells:=fun _=>rfl
  have hzl:cm.length=11:=rfl
  have hr9:∀ r:Rl,r.cells[9]? = some (I r.most)∧r.cells[8]? = some (I r.stay):=fun _=>⟨rfl,rfl⟩
  have faA:=cG hq (cG hlen (cG ht (cG hz (cG hzl (cG hr9 (Rl.len))))))
  refine F9 hm hc [] rfl rfl rfl ?_
  try simp only [I,RY,↓ KW,seval,jF,Z.H]
  refine iY [1] rfl ?_
  try simp only [I,RY,↓ KW,seval,faA]
  refine ⟨rfl,bZ (bC (hR t s l h) rfl (ia rfl)) ?_⟩
  try simp only [I,B,D,RY,↓ KW,seval,faA]
  have hz8:∀ u:Pr,u.held.length=4→aH (cn t u l) 131 (some 8)=some (.agg u.cells)∧aH (cn t u l) 0 (some 131)=some (.agg t.cells)∧(cn t u l).length=235:=fun u hu=>⟨(OT (dG h hu)).2.2.2.2,Kl (dG h hu),E1 (dG h hu)⟩
  have hsp:=DK (t:=t) h.s
  have hY1:=hY t (ga t s) h.t hsp
  obtain ⟨z1,z2,z3⟩:=hz8 _ hsp
  have z4:=OU (dG h hsp)
  have fin:∀ {v:Bool},zx s=v→(!DD t s && (v || decide (s.time < (bq t s).stay)))=true→gY t s=(4,s):=fun {v} e1 e2=>by
    rw [gY,e1,gc e2]
  have fin2:∀ {v:Bool},zx s=v→(!DD t s && (v || decide (s.time < (bq t s).stay)))=false→gY t s=if aK t (ga t s) ≥ 0 then (1,{ ga t s with which:=aK t (ga t s) }) else (5,ga t s):=fun {v} e1 e2=>by
    rw [gY,e1,fx (by rw [e2]; decide)]
  have hl:DD t s=(decide ((bq t s).most > 0) && decide (s.time ≥ (bq t s).most)):=rfl
  have tail1:∀ {v:Bool},zx s=v→DD t s=false∨v=false→ga t s=s:=fun {v} e1 e2=>by
    rw [ga,e1]; rcases e2 with e | e<;>rw [e]<;>simp
  have pw:0≤s.which∧s.which < 4→min s.which.toNat IntKind.i64.bits=s.which.toNat∧(decide (s.which < 0)=false):=fun hx=>by
    have:IntKind.i64.bits=64:=rfl
    exact ⟨ST,by simp; omega⟩
  have hx4:zx s=true→0≤s.which∧s.which < 4:=fun e=>by
    simp only [zx,dT,gn] at e; exact ⟨e.1.1,e.1.2⟩
  obtain ⟨v,hv⟩:∃ v,zx s=v:=⟨_,rfl⟩
  have h4:v=(decide (s.which ≥ 0) && decide (s.which < 4) && decide (eS s s.which.toNat > 0)):=by rw [← hv]; rfl
  cases hA1:decide (s.which ≥ 0)
  rotate_left
  cases hA2:decide (s.which < 4)
  rotate_left
  have hx:0≤s.which∧s.which < 4:=⟨dE hA1,dE hA2⟩
  have hh:=Wp h (k:=s.which.toNat) ST
  try simp only [I,RY,↓ KW,seval,hx,hh,faA]
  cases hA3:decide (eS s s.which.toNat > 0)
  all_goals
    first | rw [hA1,hA2,hA3] at h4 | rw [hA1,hA2] at h4 | rw [hA1] at h4
    simp only [wn,nf,md] at h4
    subst h4
    try try simp only [I,B,D,RY,↓ KW,seval,hA3,faA]
    try try simp only [I,RY,↓ KW,seval,hA2,faA]
    try try simp only [I,RY,↓ KW,seval,faA]
    cases h5:decide ((bq t s).most > 0)<;>cases h6:decide (s.time ≥ (bq t s).most)<;>cases h7:decide (s.time < (bq t s).stay)
    all_goals
      rw [h5,h6] at hl
      simp only [wn,nf,md] at hl
      try simp only [I,RY,↓ KW,seval,faA]
      try try simp only [I,RY,↓ KW,seval,h6,faA]
      try try simp only [RY,↓ KW,seval,h7,faA]
      first
        | (have e:=fin hv (by rw [hl,h7]; rfl); rw [e]; exact ⟨rfl,rfl⟩)
        | skip
  all_goals first
    | (have e:=fin2 hv (by rw [hl,h7]; rfl)
       have es:=tail1 hv (by rw [hl]; first | exact .inl rfl | exact .inr rfl)
       rw [es] at hY1 e z4
       refine ah hY1 ?_
       try simp only [I,RY,↓ KW,seval]
       generalize aK t s=k at *
       cases h8:decide (k ≥ 0)
       · rw [fx (dC h8)] at e
         try simp only [RY,↓ KW,seval]
         rw [e]; exact ⟨rfl,rfl⟩
       · rw [gc (dE h8)] at e
         try simp only [RY,↓ KW,seval,z4,faA]
         first | (refine ⟨ST,?_⟩; rw [e]; exact ⟨rfl,rfl⟩) | (rw [e]; exact ⟨rfl,rfl⟩))
    | (have e:=fin2 hv (by rw [hl,h7]; rfl)
       have es:ga t s={ s with dR:=qV .i64 s.dR (IntKind.i64.wrap (2 ^ s.which.toNat)) }:=by rw [ga,hl,hv]; rfl
       obtain ⟨p1,p2⟩:=pw (hx4 hv)
       have p3:(1:Int) * 2 ^ s.which.toNat=2 ^ s.which.toNat:=Int.one_mul _
       have s7:=Ws h (qV .i64 s.dR (IntKind.i64.wrap (2 ^ s.which.toNat)))
       rw [← es] at s7
       refine ⟨(hx4 hv).1,?_⟩
       try simp only [RY,↓ KW,seval,p1,p3,s7,z1,z2]
       refine ah hY1 ?_
       try simp only [I,RY,↓ KW,seval,p1,p3,s7]
       generalize aK t (ga t s)=k at *
       cases h8:decide (k ≥ 0)
       · rw [fx (dC h8)] at e
         try simp only [RY,↓ KW,seval]
         rw [e]; exact ⟨rfl,rfl⟩
       · rw [gc (dE h8)] at e
         try simp only [RY,↓ KW,seval,z3,z4]
         first | (refine ⟨ST,?_⟩; rw [e]; exact ⟨rfl,rfl⟩) | (rw [e]; exact ⟨rfl,rfl⟩))
end
structure vA where
 samples:Option (List (Option Nat))
 push:Int
 ask:Int
 lines:Int
 deriving Inhabited
def vA.cells(x:vA):List AV:=[aI mO x.samples,I x.push,I x.ask,I x.lines]
structure Td where
 start:Int
 fin:Int
 cut:Int
 bI:Int
 hold:Int
 early:Int
section
variable (t:Tb) (s:bA) (c:Nat->Cu) (x:vA) (k p:Nat)
def Td.cells(x:Td):List AV:=[I x.start,I x.fin,I x.cut,I x.bI,I x.hold,I x.early]
def Wu:Nat:=(t.aQ.getD []).length
def Cn:Option (List Ch):=dB (nI t (s.iq.getD []) (x.samples.getD []) (Wu t))
def Mj:Int:=zl t (jr t ((Cn t s x).getD []) (Cl t ((Cn t s x).getD [])))
def grS:Int:=HO λp=>ej (s.rn p)
def wkS:Int:=HO λp=>yw (s.rn p)
def Mx:Cs:=gu t s.calls (Mj t s x) x.push (grS s) (wkS s)
def eY:Int:=Bf t (Mx t s x) (Mj t s x)
def qX:Pr×Ac:=i9 t s.pre x.lines s.runs
def zU:d4:=
 if(qX t s x).2.free then(vH t s.rings s.runs (eY t s x)).1 else if(qX t s x).2.back then Mh t (So t s.pre.which)else s.rings
def CH:Td:=
 if(qX t s x).2.free then⟨(vH t s.rings s.runs (eY t s x)).2.1,(vH t s.rings s.runs (eY t s x)).2.2,0,Hf t s.rings s.runs (eY t s x),wJ t s.jZ s.runs x.ask,yl t s.jZ s.runs x.ask⟩
 else⟨(qX t s x).2.start,(qX t s x).2.fin,(qX t s x).2.cut,0,0,0⟩
def cuE(d:Td) (here dz:Int) (free:Bool) (p:Nat):Cu:=⟨dP d.start p,dP d.fin p,dP here p,free&&dP dz p,dP d.bI p,dP d.hold p,dP d.early p,dP d.cut p⟩
def eG:Cu:=cuE (CH t s x) (Mj t s x) (Mx t s x).dz (qX t s x).2.free p
def lJ:List Rn:=(List.range 8).map λp=>if p<k then aL (aD t p) (s.rn p) (c p)else s.rn p
def qL(t:Tb) (s:bA) (c:Nat->Cu):Nat->Bool
 |0=>false
 |k+1=>qL t s c k||vv (aD t k) (s.rn k) (c k)
def IY(free:Bool) (r:d4):Bool:=free&&(s.rings.dF&&(!r.dF&&decide (r.group<=s.rings.group)))
def rdE:Rd:=su t s.jZ x.ask (qL t s (eG t s x) 8) (IY s (qX t s x).2.free (zU t s x))
def iJ:bA:=⟨lJ t s (eG t s x) 8,zU t s x,rdE t s x,(qX t s x).1,Mx t s x,Cn t s x⟩
theorem IZ{t:Tb} {s:bA} {c:Nat->Cu} (h:s.Ok):lJ t s c 0=s.runs:=by
 refine List.ext_getElem (by simp[lJ,h.runs]) λi B A=>?_
 simp[lJ,bA.rn,fi,A]
theorem I0{t:Tb} {s:bA} {c:Nat->Cu} {k:Nat} (hk:k<8):(lJ t s c k).set k (aL (aD t k) (s.rn k) (c k))=lJ t s c (k+1):=by
 have:k=0\/k=1\/k=2\/k=3\/k=4\/k=5\/k=6\/k=7:=ST
 rcases this with rfl|rfl|rfl|rfl|rfl|rfl|rfl|rfl<;>simp[lJ,lm]
theorem yD:(lJ t s c k).length=8:=by simp[lJ]
theorem Mk{a b:List AV} {off z:Nat} (h:off+z<=a.length):aH (a++b) off (some z)=aH a off (some z):=by
 simp only[aH,pB]
 rw[gc ST,gc h,List.drop_append_of_le_length ST,IH (by simp;omega)]
theorem bA.OW{s:bA}:s.cells=(cE s.runs++s.rings.cells)++(s.jZ.cells++(s.pre.cells++(s.calls.cells++[aI Ch.cells s.iq]))):=by simp[bA.cells]
theorem bA.OX{s:bA}:s.cells=(cE s.runs++(s.rings.cells++s.jZ.cells))++(s.pre.cells++(s.calls.cells++[aI Ch.cells s.iq])):=by simp[bA.cells]
theorem bA.OY{s:bA}:s.cells=(cE s.runs++(s.rings.cells++(s.jZ.cells++s.pre.cells)))++(s.calls.cells++[aI Ch.cells s.iq]):=by simp[bA.cells]
theorem bA.OZ{s:bA}:s.cells=(cE s.runs++(s.rings.cells++(s.jZ.cells++(s.pre.cells++s.calls.cells))))++([aI Ch.cells s.iq]++[]):=by simp[bA.cells]
end
section
variable{s:bA} (h:s.Ok)
include h
theorem bA.p96:aH s.cells 96 (some 4)=some (.agg s.rings.cells):=gq (c7 h.runs) rfl
theorem bA.ZY:(cE s.runs++s.rings.cells).length=100:=by simp[c7 h.runs,d4.cells]
theorem bA.ZZ:(cE s.runs++(s.rings.cells++s.jZ.cells)).length=106:=by simp[c7 h.runs,d4.cells,Rd.cells,h.lock]
theorem bA.Z0:(cE s.runs++(s.rings.cells++(s.jZ.cells++s.pre.cells))).length=114:=by simp[c7 h.runs,d4.cells,Rd.cells,Pr.cells,h.lock,h.held]
theorem bA.Wv:(cE s.runs++(s.rings.cells++(s.jZ.cells++(s.pre.cells++s.calls.cells)))).length=116:=by simp[c7 h.runs,d4.cells,Rd.cells,Pr.cells,Cs.cells,h.lock,h.held]
theorem bA.abP:aH s.cells 100 (some 6)=some (.agg s.jZ.cells):=by rw[bA.OW (s:=s)];exact gq (bA.ZY h) (by simp[Rd.cells,h.lock])
theorem bA.Z1:aH s.cells 106 (some 8)=some (.agg s.pre.cells):=by rw[bA.OX (s:=s)];exact gq (bA.ZZ h) (Pr.len h.held)
theorem bA.Sx:aH s.cells 114 (some 2)=some (.agg s.calls.cells):=by rw[bA.OY (s:=s)];exact gq (bA.Z0 h) rfl
theorem bA.g96:s.cells[96]? =some (I s.rings.group):=j8 (bA.p96 h) (j:=0) ST
theorem bA.g99:s.cells[99]? =some (B s.rings.dF):=j8 (bA.p96 h) (j:=3) ST
theorem bA.abQ:s.cells[107]? =some (I s.pre.which):=j8 (bA.Z1 h) (j:=1) ST
theorem bA.Z2:s.cells[115]? =some (I s.calls.dz):=j8 (bA.Sx h) (j:=1) ST
theorem bA.Z3:s.cells[116]? =some (aI Ch.cells s.iq):=by rw[bA.OZ (s:=s),ll (by rw[bA.Wv h];omega),bA.Wv h];rfl
theorem bA.s96(x:d4):setCells s.cells 96 x.cells={s with rings:=x}.cells:=pL (c7 h.runs) rfl
theorem bA.Sy{x:Rd} (A:x.lock.length=4):setCells s.cells 100 x.cells={s with jZ:=x}.cells:=by
 rw[bA.OW (s:=s),pL (bA.ZY h) (by simp[Rd.cells,h.lock,A])];simp[bA.cells]
theorem bA.O0{x:Pr} (A:x.held.length=4):setCells s.cells 106 x.cells={s with pre:=x}.cells:=by
 rw[bA.OX (s:=s),pL (bA.ZZ h) (by rw[Pr.len h.held,Pr.len A])];simp[bA.cells]
theorem bA.Ww(x:Cs):setCells s.cells 114 x.cells={s with calls:=x}.cells:=by
 rw[bA.OY (s:=s),pL (mid:=s.calls.cells) (ps:=x.cells) (bA.Z0 h) rfl];simp[bA.cells]
theorem bA.Wx(x:Option (List Ch)):setCells s.cells 116 [aI Ch.cells x]={s with iq:=x}.cells:=by
 rw[bA.OZ (s:=s),pL (mid:=[aI Ch.cells s.iq]) (ps:=[aI Ch.cells x]) (bA.Wv h) rfl];simp[bA.cells]
end
section
variable {n:Int} {s:Pr} {t:Tb}
theorem I1:(Sw t s n).held.length=4:=by
 have:(iR t s n).held.length=4:=by simp[iR,eU]
 unfold Sw CW;split<;>exact this
theorem DL{l:List Rn}:(i9 t s n l).1.held.length=4:=by
 have B:=I1 (t:=t) (s:=s) (n:=n)
 have A:=mQ (t:=t) (l:=l) B
 unfold i9 i7;split
 ·exact B
 ·split
  ·exact A
  ·exact A
theorem Z4{G:Prop} {F:S->Prop} {α:Type} (st:α->S) (J:α->Prop) (h:(∀y s,J y->Le s (st y)->down F s)->G) (hF:∀y,J y->F (st y)):G:=
 h λy s B A=>oZ A (hF y B)
def yE.Spec(C:bk) (f:Nat):Prop:=∀(t:Tb) (s:bA) (x:vA),t.Ok->t.Fw->Wu t<=1000000->s.Ok->(s.iq.getD []).length<=1000000->(x.samples.getD []).length<=1000000->C.c f [.agg t.cells,.agg s.cells,.agg x.cells] (.agg (iJ t s x).cells) none
end
section
variable{P:Program} (hm:P.follows .mixedOrders=true) {f:Nat}
include hm
theorem yE.ok{fD fE fH fG fK fC fW fP fR fS fO fA fX fU fB fY fZ fT:Nat} (hc:bY P f=some (sM fD fE fH fG fK fC fW fP fR fS fO fA fX fU fB fY fZ fT)) (hD:Ck.Spec (Pure P) fD) (hE:Cm.Spec (Pure P) fE) (hH:LH.Spec (Pure P) fH)
  (hG:tS.Spec (Pure P) fG) (hK:xx.Spec (Pure P) fK) (hC:Step.Spec (Pure P) fC) (hW:Want.Spec (Pure P) fW) (hP:Hr.Spec (Pure P) fP) (hR:Cb.Spec (Pure P) fR) (hS:Hg.Spec (Pure P) fS) (hO:N7.Spec (Pure P) fO) (hA:Early.Spec (Pure P) fA)
  (hX:Cc.Spec (Pure P) fX) (hU:Hh.Spec (Pure P) fU) (hB:jU.Spec (Pure P) fB) (hY:B6.Spec (Pure P) fY) (hZ:B5.Spec (Pure P) fZ) (hT:BA.Spec (Pure P) fT):yE.Spec (Pure P) f:=by
 intro t s x ht ar b5 M bj a4
 have b0:=Tb.len ht
 have hp:=Tb.whole ht
 have au:cQ.length=117:=rfl
 have am:∀u:bA,u.Ok->setCells cQ 0 u.cells=u.cells:=λu hu=>gB (by rw[bA.len hu];rfl)
 have q1:=bA.len M
 have q2:=bA.whole M
 have q3:=bA.Z3 M
 have q4:=bA.Sx M
 have q5:=bA.Z1 M
 have q6:=bA.L2 M
 have q7:=bA.p96 M
 have q8:=bA.abP M
 have q9:=am s M
 have qw:=bA.abQ M
 have x1:x.cells[0]? =some (aI mO x.samples)/\x.cells[1]? =some (I x.push)/\x.cells[2]? =some (I x.ask)/\x.cells[3]? =some (I x.lines):=⟨rfl,rfl,rfl,rfl⟩
 have hq:Mj t s x=zl t (jr t ((Cn t s x).getD []) (Cl t ((Cn t s x).getD []))):=rfl
 have ad:iJ t s x=⟨lJ t s (cuE (CH t s x) (Mj t s x) (Mx t s x).dz (qX t s x).2.free) 8,zU t s x,su t s.jZ x.ask (qL t s (cuE (CH t s x) (Mj t s x) (Mx t s x).dz (qX t s x).2.free) 8) (IY s (qX t s x).2.free (zU t s x)),(qX t s x).1,Mx t s x,Cn t s x⟩:=rfl
 have cD:=hD t s.iq x.samples ht ar bj a4
 rw[show dB (nI t (s.iq.getD []) (x.samples.getD []) (t.aQ.getD []).length)=Cn t s x from rfl]at cD
 have b7:((Cn t s x).getD []).length<=1000000:=by
  rw[Cn,de];simp only[nI,wa,List.length_range];exact b5
 have cC:=hC t s.calls (Mj t s x) x.push (grS s) (wkS s) ht
 rw[show gu t s.calls (Mj t s x) x.push (grS s) (wkS s)=Mx t s x from rfl]at cC
 have cW:=hW t (Mx t s x) (Mj t s x) ht
 rw[show Bf t (Mx t s x) (Mj t s x)=eY t s x from rfl]at cW
 have cP:=hP t s.pre x.lines s.runs ⟨ht,M.held,M.runs⟩
 rw[show i9 t s.pre x.lines s.runs=qX t s x from rfl]at cP
 have V:(qX t s x).1.held.length=4:=DL
 have cR:=hR t s.rings s.runs (eY t s x) ht M.runs
 have cS:=hS t s.rings s.runs (eY t s x) ht M.runs
 have cO:=hO t s.jZ s.runs x.ask ht M.lock M.runs
 have cA:=hA t s.jZ s.runs x.ask ht M.lock M.runs
 have R:zU t s x=if(qX t s x).2.free then(vH t s.rings s.runs (eY t s x)).1 else if(qX t s x).2.back then Mh t (So t s.pre.which)else s.rings:=rfl
 have ab:CH t s x=if(qX t s x).2.free then⟨(vH t s.rings s.runs (eY t s x)).2.1,(vH t s.rings s.runs (eY t s x)).2.2,0,Hf t s.rings s.runs (eY t s x),wJ t s.jZ s.runs x.ask,yl t s.jZ s.runs x.ask⟩
  else⟨(qX t s x).2.start,(qX t s x).2.fin,(qX t s x).2.cut,0,0,0⟩:=rfl
 generalize zU t s x=rg at*;generalize CH t s x=td at*;generalize eY t s x=w0 at*;generalize Mx t s x=c1 at*;generalize Mj t s x=h0 at*;generalize Cn t s x=c0 at*;generalize qX t s x=pa at*;generalize iJ t s x=res at*;generalize vH t s.rings s.runs w0=rr at*;generalize Hf t s.rings s.runs w0=pr at*
 generalize wJ t s.jZ s.runs x.ask=ho at*;generalize yl t s.jZ s.runs x.ask=ea at*
 have bd:c1.cells.length=2:=rfl
 have a7:iL (aI Ch.cells c0) none=true:=by cases c0<;>rfl
 have b6:(aI Ch.cells c0).cells=[aI Ch.cells c0]:=by cases c0<;>rfl
 have u1:=bA.Wx M c0
 have k1:({s with iq:=c0}:bA).Ok:=⟨M.1,M.2,M.3⟩
 have b4:=bA.len k1
 have a3:=bA.Z3 k1
 have u2:=bA.Ww k1 c1
 have k2:({s with iq:=c0,calls:=c1}:bA).Ok:=⟨M.1,M.2,M.3⟩
 have a5:=bA.len k2
 have b2:=bA.Sx k2
 have u3:=bA.O0 k2 V
 have k3:({s with iq:=c0,calls:=c1,pre:=pa.1}:bA).Ok:=⟨M.1,M.2,V⟩
 have a6:=bA.len k3
 have pl:=Pr.len V
 have pw:=Pr.whole V
 have al:pa.2.cells.length=5/\pa.2.cells[0]? =some (I pa.2.start)/\pa.2.cells[1]? =some (I pa.2.fin)/\pa.2.cells[2]? =some (I pa.2.cut)/\pa.2.cells[3]? =some (B pa.2.free)/\pa.2.cells[4]? =some (B pa.2.back):=⟨rfl,rfl,rfl,rfl,rfl,rfl⟩
 have zp:setCells [.int .i64 0,.int .i64 0,.int .i64 0,.int .i64 0,.int .i64 0,.int .i64 0,.int .i64 0,.int .i64 0] 0 pa.1.cells=pa.1.cells:=gB (by rw[pl];rfl)
 have za:setCells [.int .i64 0,.int .i64 0,.int .i64 0,.bool false,.bool false] 0 pa.2.cells=pa.2.cells:=rfl
 have zt:setCells [.int .i64 0,.int .i64 0,.int .i64 0,.int .i64 0,.int .i64 0,.int .i64 0] 0 [I pa.2.start,I pa.2.fin,I pa.2.cut,I 0,I 0,I 0]=(⟨pa.2.start,pa.2.fin,pa.2.cut,0,0,0⟩:Td).cells:=rfl
 have bo:∀d:Td,d.cells.length=6:=λ_=>rfl
 have a2:∀(d:Td) (n:Int),setCells d.cells 0 [I n]=({d with start:=n}:Td).cells/\setCells d.cells 1 [I n]=({d with fin:=n}:Td).cells/\setCells d.cells 2 [I n]=({d with cut:=n}:Td).cells/\setCells d.cells 3 [I n]=({d with bI:=n}:Td).cells/\setCells d.cells 4 [I n]=({d with hold:=n}:Td).cells/\setCells d.cells 5 [I n]=({d with early:=n}:Td).cells:=λ_ _=>⟨rfl,rfl,rfl,rfl,rfl,rfl⟩
 have rl:∀r:d4,r.cells.length=4:=λ_=>rfl
 have u4:=λr=>bA.s96 k3 r
 have L:=cG b0 (cG hp (cG au (cG q1 (cG q2 (cG q3 (cG q4 (cG q5 (cG q6 (cG q7 (cG q8 (cG q9 (cG qw (cG x1 (cG a7 (cG b6 (cG bd (cG u1 (cG b4 (cG a3 (cG u2 (cG a5 (cG b2 (cG u3 (cG a6 (cG pl (cG pw (cG al (cG zp (cG za (cG zt (cG bo (cG a2 (cG rl (u4))))))))))))))))))))))))))))))))))
 refine aq hm hc [0] rfl ?_;try simp only[RY,↓KW,seval,sM,Z.H,L]
 refine ah cD ?_;try simp only[RY,↓KW,seval,L]
 refine ah (hE t c0 ht b7) ?_;try simp only[I,RY,↓KW,seval,L]
 refine ah (hH t _ ht) ?_;rw[<-hq];try simp only[I,RY,↓KW,seval,L]
 refine ah (hG s M) ?_;try simp only[I,RY,↓KW,seval,L]
 refine ah (hK s M) ?_;try simp only[I,RY,↓KW,seval]
 refine ah cC ?_;try simp only[RY,↓KW,seval,L]
 refine ah cW ?_;try simp only[I,RY,↓KW,seval,L]
 refine ah cP ?_;try simp only[I,B,RY,↓KW,seval,L]
 apply Z4 (λ_:Unit=>(⟨[(8,.dat (I h0) none),(3,.ptr 4 0),(4,.ptr 5 0),(5,.ptr 6 0),(6,.ptr 7 0),(7,.ptr 9 0),(11,.ptr 57 0),(12,.ptr 70 0)],[(4,⟨t.cells,[]⟩),(5,⟨s.cells,[]⟩),(6,⟨x.cells,[]⟩),(7,⟨cQ,[]⟩),(9,⟨({s with iq:=c0,calls:=c1,pre:=pa.1,rings:=rg}:bA).cells,[]⟩),(57,⟨pa.2.cells,[]⟩),(70,⟨td.cells,[]⟩)],[],400⟩:S)) (λ_=>True)
 ·intro back
  rcases bc pa.2.free with h1|h1
  ·rw[h1]at R ab
   try simp only[B,RY,↓KW,seval,h1,L]
   rcases bc pa.2.back with h2|h2
   ·rw[h2]at R
    try simp only[RY,seval,h2]
    refine back () _ trivial ?_
    refine ai Ts ?_ ?_ ?_ ?_<;>simp[LX,I,R,ab]
   ·rw[h2]at R
    try simp only[I,RY,↓KW,seval,h2,L]
    refine ah (hX t s.pre.which ht) ?_;try simp only[I,RY,↓KW,seval]
    refine ah (hU t _ ht) ?_;try simp only[RY,↓KW,seval,L]
    refine back () _ trivial ?_
    refine ai Ts ?_ ?_ ?_ ?_<;>simp[LX,I,R,ab]
  ·rw[h1]at R ab
   try simp only[RY,↓KW,seval,h1,L]
   refine ah cR ?_;try simp only[I,RY,↓KW,seval,L]
   refine ah cS ?_;try simp only[I,RY,↓KW,seval,L]
   refine ah cO ?_;try simp only[I,RY,↓KW,seval,L]
   refine ah cA ?_;try simp only[I,RY,↓KW,seval,L]
   refine back () _ trivial ?_
   refine ai Ts ?_ ?_ ?_ ?_<;>simp[LX,I,R,ab]
 ·rintro _ _
  try simp only[I,RY,↓KW,seval]
  obtain⟨O,an⟩:∃O,cuE td h0 c1.dz pa.2.free=O:=⟨_,rfl⟩
  have ao:∀p,O p=⟨dP td.start p,dP td.fin p,dP h0 p,pa.2.free&&dP c1.dz p,dP td.bI p,dP td.hold p,dP td.early p,dP td.cut p⟩:=λp=>by rw[<-an];rfl
  rw[an]at ad
  have w0:=IZ (t:=t) (c:=O) M
  refine aN (λk:Nat=>(⟨[(121,.dat (I k) none),(13,.dat (B (qL t s O k)) none),(8,.dat (I h0) none),(3,.ptr 4 0),(4,.ptr 5 0),(5,.ptr 6 0),(6,.ptr 7 0),(7,.ptr 9 0),(11,.ptr 57 0),(12,.ptr 70 0)],[(4,⟨t.cells,[]⟩),(5,⟨s.cells,[]⟩),(6,⟨x.cells,[]⟩),(7,⟨cQ,[]⟩),(9,⟨({s with runs:=lJ t s O k,iq:=c0,calls:=c1,pre:=pa.1,rings:=rg}:bA).cells,[]⟩),(57,⟨pa.2.cells,[]⟩),(70,⟨td.cells,[]⟩)],[],400⟩:S)) (λk=>8-k) (λk=>k<=8) ?_ 0 ST ?_
  rotate_left
  ·refine ai Ts ?_ ?_ ?_ ?_<;>simp[LX,I,B,w0,qL]
  intro k hk A back
  have a9:=aG (k:=k) ST
  have kk:({s with runs:=lJ t s O k,iq:=c0,calls:=c1,pre:=pa.1,rings:=rg}:bA).Ok:=⟨yD ..,M.2,V⟩
  have v1:=bA.len kk
  have v2:=bA.Z2 kk
  have be:td.cells[0]? =some (I td.start)/\td.cells[1]? =some (I td.fin)/\td.cells[2]? =some (I td.cut)/\td.cells[3]? =some (I td.bI)/\td.cells[4]? =some (I td.hold)/\td.cells[5]? =some (I td.early):=⟨rfl,rfl,rfl,rfl,rfl,rfl⟩
  try simp only[I,B,RY,↓KW,seval]
  rcases bc (decide ((k:Int)<8))with h|h
  rotate_left
  ·have h8:k<8:=by have:=dE h;omega
   have hy:0<=(k:Int)/\(k:Int)<8:=ST
   have b3:=Tb.mq (ht.ln.BD h8)
   have ba:aH s.cells (k*12) (some 12)=some (.agg (s.rn k).cells):=by rw[bA.cells,Mk (by rw[c7 M.runs];omega)];exact jm M.runs h8
   have vs:=bA.Tn kk h8 (aL (aD t k) (s.rn k) (O k))
   rw[show({s with runs:=lJ t s O k,iq:=c0,calls:=c1,pre:=pa.1,rings:=rg}:bA).runs.set k (aL (aD t k) (s.rn k) (O k))=lJ t s O (k+1)from I0 h8]at vs
   have hl:qL t s O (k+1)=(qL t s O k||vv (aD t k) (s.rn k) (O k)):=rfl
   generalize qL t s O k=hd at*
   obtain⟨cc,b1⟩:∃c,O k=c:=⟨_,rfl⟩
   have hP:=ao k
   rw[b1]at hP vs hl
   have bm:∀c:Cu,c.cells.length=8/\aH c.cells 0 (some 8)=some (.agg c.cells):=λ_=>⟨rfl,rfl⟩
   have ac:setCells [.bool false,.bool false,.bool false,.bool false,.bool false,.bool false,.bool false,.bool false] 0 [B (dP td.start k),B (dP td.fin k),B (dP h0 k),B (pa.2.free&&dP c1.dz k),B (dP td.bI k),B (dP td.hold k),B (dP td.early k),B (dP td.cut k)]=cc.cells:=by rw[hP];rfl
   have aa:=cG h (cG hy (cG v1 (cG v2 (cG be (cG b3 (cG ba (cG bm (cG vs (cG Rn.len (L))))))))))
   try simp only[I,RY,↓KW,seval,aa]
   have bs:∀p:Nat,∀n:Int,(Pure P).c fB [I n,I p] (B (dP n p)) none:=λp n=>hB n p
   rcases bc pa.2.free with h5|h5<;>rcases bc hd with h6|h6
   all_goals
    rw[h5]at ac;rw[h6]at hl;simp only[na,md,wi,pv]at ac hl
    repeat' (refine ah (hB _ _) ?_;try simp only[I,B,RY,↓KW,seval,h5,h6,aa])
    try simp only[RY,↓KW,seval,ac,aa]
    try(refine ah (hY _ _ _) ?_;try simp only[B,RY,↓KW,seval,ac,aa])
    try(refine ah (hZ _ _ _) ?_;try simp only[RY,↓KW,seval,ac,aa])
    refine⟨ST,back (k+1) _ ST ST ?_⟩
    refine ai Ts ?_ ?_ ?_ ?_<;>simp[LX,I,B,a9,hl]
  ·have bi:k=8:=by have:=dC h;omega
   subst bi
   have ak:(su t s.jZ x.ask (qL t s O 8) (IY s pa.2.free rg)).lock.length=4:=by simp[su,sq]
   have w1:=bA.Sy kk ak
   have rk:res.Ok:=by rw[ad];exact⟨yD ..,ak,V⟩
   have w2:=bA.whole rk
   have w3:=am res rk
   have w4:=bA.len rk
   have v3:=bA.g96 kk
   have v4:=bA.g99 kk
   have v5:=bA.g96 M
   have v6:=bA.g99 M
   have ag:IY s pa.2.free rg=(pa.2.free&&(s.rings.dF&&(!rg.dF&&decide (rg.group<=s.rings.group)))):=rfl
   have cT:=hT t s.jZ x.ask (qL t s O 8) (IY s pa.2.free rg) ht M.lock
   rw[<-ad]at w1;generalize su t s.jZ x.ask (qL t s O 8) (IY s pa.2.free rg)=rd at*;generalize qL t s O 8=hd at*;generalize IY s pa.2.free rg=rn at*
   have a8:rd.cells.length=6:=by simp[Rd.cells,ak]
   have ae:=cG v3 (cG v4 (cG v5 (cG v6 (cG w1 (cG w2 (cG w3 (cG w4 (cG v1 (cG v2 (cG a8 (L)))))))))))
   rcases bc pa.2.free with h5|h5<;>rcases bc s.rings.dF with h6|h6<;>rcases bc rg.dF with h7|h7<;>rcases bc (decide (rg.group<=s.rings.group))with h8|h8
   all_goals
    rw[h5,h6,h7,h8]at ag;simp only[nf,nm,nd,ma]at ag;subst ag;try simp only[I,B,RY,↓KW,seval,h5,h6,h7,h8,ae]
    try try simp only[I,B,D,RY,↓KW,seval,h5,h6,h7,h8,ae]
    refine ah cT ?_;try simp only[RY,↓KW,seval,ae]
end
def PhR(p:Ph):Prop:=0<=p.max/\p.max<=p.top/\p.top<=100000/\0<=p.step/\p.step<=100000
theorem O1(s p:Int):mA s p=dP s p:=by
 by_cases h:0<=p/\p<8
 ·obtain⟨k,rfl⟩:∃k:Nat,p=k:=⟨p.toNat,ST⟩
  rw[z5 ST,eF ST]
 ·have B:mA s p=false:=by
   unfold mA
   by_cases D:0<=p
   ·rw[tp (p:=p<8) ST];simp
   ·rw[tp D];simp
  have A:jc p=0:=by unfold jc;rw[gc ST]
  have L:dh .i64 s 0=0:=by
   rw[and_zero];intro i _;rw[bX];simp
  rw[B];unfold dP;rw[A,L];rfl
theorem O2{C:bk} {f:Nat} (h:pN.Spec C f):jU.Spec C f:=λs p=>by rw[<-O1];exact h s p
theorem Tx{t:Tb} (ht:t.Ok) (g:Int) (k:Nat) (hk:k<(t.groups.getD []).length):(IntKind.i64.wrap (OI t g+((k+1:Nat):Int))).tmod (t.groups.getD []).length=PR t g k:=by
 have A:=ht.groups
 have B:-1<=OI t g/\OI t g<4294967296:=by
  unfold OI;split
  ·rw[aT ST ST];omega
  ·omega
 unfold PR
 congr 1
 rw[aT (n:=OI t g+1) ST ST]
 congr 1
 omega
def hG(t:Tb) (L:Int) (l:List Rn) (k:Nat) (p:Int):Bool:=tb L k&&decide ((aP l p.toNat).extra<t.extend)
end Go.Eng
