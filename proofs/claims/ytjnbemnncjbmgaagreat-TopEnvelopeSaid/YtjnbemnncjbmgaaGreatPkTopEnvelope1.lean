/- The library of TopEnvelope. -/
import Derived.Test.YtjnbemnncjbmgaaGreatPk22
set_option linter.all false
set_option maxRecDepth 10000
set_option maxHeartbeats 4000000
namespace Go.Eng
open Go
section
open Z
def AR:List AV:=(⟨_,by conv=>lhs;cbv⟩:bS (O9 [(1,1),(0,10),(1,3),(0,10),(1,3),(0,10),(1,3),(0,10),(1,3),(0,10),(1,3),(0,10),(1,3),(0,10),(1,3),(0,10),(1,2),(2,1),(0,8),(2,3),(0,47),(1,1),(0,32),(1,1)])).1
def o5:List AV:=(⟨_,by conv=>lhs;cbv⟩:bS (O9 [(0,32),(1,1)])).1
def oH(D L:Nat):bJ:=(⟨_,by conv=>lhs;ext y0;cbv⟩:bS λ(y0:List AV)=>cE 27 [.tmp 6] [D,L] [0,8,1] 0x1564080d011de01a17957c859664080203838394f8110a34fc737c517bf039f01090f81101a387145e4405f0a01002120173096043121a31080703502078a2fce050778108be905e4422f8317a418bc0c30422fa92117d4c18bdcc18262693407b40 [y0]).1 AR
def xW:bJ:=⟨53,[.cell 2 (some 33)],r [o 1 (w 0),o 2 (.alloc o5)] (r [o 3 (.alloc o5)] (j (r [o 6 (f 1 0),o 7 (L 6 96),V 8 (i 0)] (u 0 (.loop (r [o 9 (bb .lss 8 (i 8))] (j (c 9 z (.exit 0)) (j (u 1 (r [M 10 8,o 11 (.FT (t 7) (t 8) 8 12 (some 12)),o 5 (.alloc bB),M 4 10,n (s 5 11 12)] (.seq (.sq [M 12 4,M 13 4,o 14 (f 5 0),o 15 (l 14),o 16 (f 5 1),o 17 (l 16),o 18 (f 3 0),o 19 (A 18 12 8 1),n (s 19 15 1),o 20 (f 3 8),o 21 (A 20 13 8 1),n (s 21 17 1)] [(5,8)]) (.sq [M 22 4,M 23 4,o 24 (f 5 2),o 25 (f 24 0),o 26 (l 25),o 27 (f 5 2),o 28 (f 27 1),o 29 (l 28),o 30 (f 3 16),o 31 (A 30 22 8 1),n (s 31 26 1),o 32 (f 3 24),o 33 (A 32 23 8 1),n (s 33 29 1)] [(7,10)])))) (R [o 34 (bb .add 8 (i 1)),M 8 34]))))))) (r [o 35 (f 1 106),o 36 (f 35 0),o 37 (l 36),o 38 (bb .eql 37 (i 1)),M 39 38,q 40 (f 1 106) 39,q 41 (f 40 0) 39,q 42 (l 41) 39,q 43 (bb .eql 42 (i 2)) 39,o 44 (Q 39 43),M 45 44,q 46 (f 1 106) 45,q 47 (f 46 0) 45,q 48 (l 47) 45,q 49 (bb .eql 48 (i 3)) 45,o 50 (Q 45 49),o 51 (f 3 32),n (s 51 50 1)] (r [o 52 (L 3 33),n (s 2 52 33)] y))))⟩
def k9(L M D:Nat):bJ:=(⟨_,by conv=>lhs;ext y0;cbv⟩:bS λ(y0:List AV)=>cE 150 [.tmp 4] [L,M,D] [0,1,2,3] 0x2c881065080a107041017b904d75e54dc2c04044c4fe385f090041162f04380889910208c17c17cc14202841c135c826baf2a6e1602020627f062f848020801781dc6444c8810408be0be60a101418e04151fc16baf0a01a107041017b904d65e54dc2c04044c4fdcc5f0e0040e02f03380889110207117c17cc14202831c08787d4816baf0a01a107041017b904d65e54dc2c04044c4fd8c5f0e0040c02f02b8c889110206117c17cc14202841c135c826b2f2a6e1602020627eb02f8480205517811c4444888102b0be0be60a10141085fc706c842fe87f0b8402f06d482f2e2c1085fd7431085fd0fe042d1fc468c2035bf880bc25418bcb950f0b11608202f7209a2bca9b8580808989fa00be02c2f00407a2f01b88888910203e17c17cc14202831c088964795e28bcb81bf80d04382d05e1402022627e642f8600202f17809c244408810180be0be60a100020627e5a2f8180202817805c244448810158be0be62c080a05e0070111022040522f82f98183808d0810601061022005482f2e21e10418408801418bcb8a8e8bc16062e2f13178b8bf85c5f264382fe7e51117f606e72283bc55e0234204180418408c01520bcb887841061023005062f2e21e10418408c01418bcb8878742761022004184e00342fb291005b20 [[.int .i64 0,.int .i64 0],y0] [] [.eqc [.i,.i] false (.t 39) (.t 41),.eqc [.i,.i] false (.t 39) (.t 43),.eqc [.i,.i] false (.t 39) (.t 48),.eqc [.i,.i] false (.t 39) (.t 62),.eqc [.i,.i] false (.t 39) (.t 86),.eqc [.i,.i] false (.t 39) (.t 97),.eqc [.i,.i] false (.t 39) (.t 113),.eqc [.i,.i] false (.t 39) (.t 129),.eqc [.i,.i] false (.t 39) (.t 140)]).1 dV
def mE(D:Nat):bJ:=(⟨_,by conv=>lhs;cbv⟩:bS (cE 60 [.tmp 4] [D] [0,2,1] 0x142000880c3c38a2f4722f82032840036392b4f9111222040613e4bc0e7c045c0444088106097988be120080a85e0221830418408801418bcb89958bc0e0a1000e022204408304bc9c5f040040402f0110c1820c204400a905e5c4c845e070591020080445e00787121e1fbe1383080d73e202f0ad062f2e6c3c5c040868c1061022202f0283179714121783c3e00e64202fe05057808d0810601061022302f02a4179710f0820c2044405e05482f826c0d091005b20 [[.int .i64 0,.int .i64 0]] [] [.eqc [.i,.i] false (.t 39) (.t 40),.eqc [.i,.i] false (.t 49) (.t 50),.eqc [.i,.i] false (.t 53) (.t 54)])).1
def mF(D:Nat):bJ:=(⟨_,by conv=>lhs;cbv⟩:bS (cE 9 [.tmp 2] [D] [1,0] 0x141001a83e0206041212d10412025170981a20)).1
def lf:bJ:=(⟨_,by conv=>lhs;cbv⟩:bS (cE 6 [.tmp 2] [] [1] 0x504002141f0412025140981a20)).1
def mG(D:Nat):bJ:=(⟨_,by conv=>lhs;cbv⟩:bS (cE 35 [.cell 4 none] [D] [0,1] 0x145a7288328d4e51004a0262fe383c1317f43f890b49f1383080d73e015a905e5cd978b8cb0219642346101adfc025418bcb952f0b0104002d840880101710d00b0bc05f3a8044885e422f20178f8bc785e3a2f1c178d8bc685e322f18178b8bc585e2a2f1417898bc485e222f1017f87fb570605f82180e02060418408b48bc08209b0180c11e05b20 [[.bool false]])).1
def mH(D L:Nat):bJ:=(⟨_,by conv=>lhs;cbv⟩:bS (cE 111 [.tmp 4] [D,L] [0,1,2] 0xb2204194202831c082a3f82d1212dc16fe0218202f1824816c20440080b887857b10bc1c00817c5e0670111222040c02f82f982840505517f1c335545fe43364556c2045bf806a02e943cad78580808989ba98be1a0081405e0571111222040a22f82f982840504117f1c1b208bfa1fc2e100bc1b520bcb8b04117f586080bd045fe43360556c2045bf806a02e943cad78580808189b9f8be0242f0040782f02388888910203d17c17cc142028190bf8e19a642ff219b02ab61022dfc0350174a1e56bc2c04044c4dcc05f0d00405a2f01b84888910202e17c17cc14200040c4dcac5f030040502f01384888110202917c17cc142005c01826e4a2f8200202217801c044408810118be0be600e0234204180418408880bc0a905e5c43c20830811101781418bcb8a0b8bc160642c2fe6e5bea0067808d0810601061022302f02a4179710f0820c2044605e05062f2e21e104184088c0bc0a0c5f44dc0262f091005b20 [[.int .i64 0,.int .i64 0]] [] [.eqc [.i,.i] false (.t 33) (.t 35),.eqc [.i,.i] false (.t 37) (.t 38),.eqc [.i,.i] false (.t 33) (.t 41),.eqc [.i,.i] false (.t 33) (.t 46),.eqc [.i,.i] false (.t 33) (.t 61),.eqc [.i,.i] false (.t 33) (.t 81),.eqc [.i,.i] false (.t 33) (.t 96)])).1
def tO:bJ:=(⟨_,by conv=>lhs;cbv⟩:bS (cE 7 [.tmp 2] [] [0,1] 0xa080240062e0720a8004810 [] [] [.mm true [.t 3,.k (.int .i64 0)],.mm false [.t 4,.k (.int .i64 9999)]])).1
end
section
variable {a b:Sh} {j p:Nat} {t:Tb}
theorem Sh.YW{s:Sh} (h:s.Ok):s.cells[32]? =some (B s.entry):=by
 simp[Sh.cells,h.az,h.time,h.dm,h.bI]
def yU(t:Tb) (a b:Sh):List AV:=t.cells++(a.cells++b.cells)
theorem DP(h:Ap t a b):(yU t a b).length=197:=by
 simp[yU,h.t.len,Sh.len h.a,Sh.len h.b]
theorem IP(h:Ap t a b):aB (yU t a b) 0 (some 197)=some (.agg (yU t a b)):=by
 have:=DP h
 simp[aB,this];rw[<-this,io]
theorem acC(h:Ap t a b) (D:j<131):(yU t a b)[j]? =t.cells[j]?:=by
 have:=h.t.len
 rw[yU,iv ado]
theorem acD(h:Ap t a b) (D:j<33):(yU t a b)[131+j]? =a.cells[j]?:=by
 have:=h.t.len
 have:=Sh.len h.a
 rw[yU,im ado,iv ado]
 congr 1;omega
theorem YX(h:Ap t a b):(yU t a b)[164+j]? =b.cells[j]?:=by
 have:=h.t.len
 have:=Sh.len h.a
 rw[yU,im ado,im ado]
 congr 1;omega
theorem SU(h:Ap t a b) (D:p<8):
  (yU t a b)[131+p]? =some (I (a.c p))/\(yU t a b)[139+p]? =some (I (a.t p))/\(yU t a b)[147+p]? =some (I (a.f p))/\(yU t a b)[155+p]? =some (I (a.ft p))/\
  (yU t a b)[164+p]? =some (I (b.c p))/\(yU t a b)[172+p]? =some (I (b.t p))/\(yU t a b)[180+p]? =some (I (b.f p))/\(yU t a b)[188+p]? =some (I (b.ft p)):=by
 obtain⟨a1,R,V,a4⟩:=Sh.at h.a D;obtain⟨L,Z,O,M⟩:=Sh.at h.b D
 refine⟨by rw[acD h ado];exact a1,?_,?_,?_,by rw[YX h];exact L,?_,?_,?_⟩
 ·rw[show 139+p=131+(8+p)by omega,acD h ado];exact R
 ·rw[show 147+p=131+(16+p)by omega,acD h ado];exact V
 ·rw[show 155+p=131+(24+p)by omega,acD h ado];exact a4
 ·rw[show 172+p=164+(8+p)by omega,YX h];exact Z
 ·rw[show 180+p=164+(16+p)by omega,YX h];exact O
 ·rw[show 188+p=164+(24+p)by omega,YX h];exact M
theorem OW(h:Ap t a b):(yU t a b)[196]? =some (B b.entry):=by
 rw[show 196=164+32 by omega,YX h];exact Sh.YW h.b
theorem alP(h:Ap t a b) (L:p<8):aB (yU t a b) (p*13) (some 13)=some (.agg (aK t p).cells):=by
 have D:=Tb.iO (h.t.mT L)
 have O:=h.t.len
 have M:=DP h
 simp only[aB]at D⊢
 rw[fp ado]at D⊢
 rw[<-D]
 congr 2
 rw[yU,If ado,wn (by simp;omega)]
theorem YY(h:Ap t a b) (D:p<8):(yU t a b)[p*13]? =some (B (aK t p).on)/\(yU t a b)[p*13+8]? =some (I (aK t p).walk)/\(yU t a b)[p*13+9]? =some (I (aK t p).cz):=by
 have:=Tb.Dj (h.t.mT D)
 refine⟨by rw[acC h ado];exact this.1,?_,?_⟩
 ·rw[acC h ado];exact this.2.2.2.2.2.2.2.2.1
 ·rw[acC h ado];exact this.2.2.2.2.2.2.2.2.2.1
theorem ahC(h:Ap t a b) (D:p<8):(yU t a b)[105+p]? =some (I (eA t p)):=by
 rw[acC h ado];exact h.t.Dt D
def IQ.Spec(C:aT) (f:Nat):Prop:=∀n:Int,C.c f [I n] (I (bt n)) none
end
section
variable (t:Tb) (a:Sh) (C:aT) (b:Sh) (f p:Nat)
def UO.Spec:Prop:=∀x y:Int,C.c f [.agg [I x,I y]] (B (y==bt x)) none
def DQ.Spec:Prop:=∀x y:Int,C.c f [.agg [I x,I y]] (B (y==1)) none
def AS(q:Nat):Bool:=(aK t q).on&&(a.c q !=0||b.c q==1)
def E6:Bool:=((List.range 8).filter λq=>tb (eA t p) q).all λq=>!AS t a b q
def IS.Spec:Prop:=∀(t:Tb) (a b:Sh) (p:Nat),Ap t a b->p<8->C.c f [.agg (yU t a b),I p] (B (E6 t a b p)) none
theorem YZ(x y u v:Int):cV [.i,.i] [.int .i64 x,.int .i64 y] [.int .i64 u,.int .i64 v]=some (x==u&&y==v):=by simp[cV,tS]
theorem OX(b:Bool):(b !=false)=b:=by cases b<;>rfl
def CT(x:Ph) (fa L M D:Int) (entry:Bool):Bool:=
 if fa==0&&M==0 then L==0&&D==0
 else if fa==0&&M==1 then D==1
 else if fa==1&&M==1 then D==bt L&&decide (L<x.walk)
 else if fa==1&&M==2 then D==1&&(decide (x.walk<=L)||entry)
 else if fa==2&&M==2 then D==bt L&&decide (L<x.cz)
 else if fa==2&&M==0 then decide (x.cz<=L)&&D==0
 else false
def OY:Bool:=CT (aK t p) (a.f p) (a.ft p) (b.f p) (b.ft p) b.entry
def E7:Bool:=
 if decide (a.f p<0)||decide (2<a.f p)then false
 else if b.c p !=1 then b.f p==0&&b.ft p==0
 else if a.c p !=1 then(b.f p==0&&b.ft p==0)||(b.f p==1&&b.ft p==1)
 else OY t a b p
def rE:Bool:=
 if(a.c p==0&&b.c p==0)||(a.c p==1&&b.c p==1)then b.t p==bt (a.t p)
 else if a.c p==0&&b.c p==1 then b.t p==1&&((aK t p).on&&E6 t a b p)
 else if a.c p==1&&b.c p==2 then b.t p==1&&((decide ((aK t p).min<=a.t p)&&a.f p==0)||b.entry)
 else if a.c p==2&&b.c p==2 then b.t p==bt (a.t p)&&decide (a.t p<(aK t p).dD)
 else if a.c p==2&&b.c p==3 then b.t p==1&&decide ((aK t p).dD<=a.t p)&&decide (0<(aK t p).red)
 else if a.c p==2&&b.c p==0 then b.t p==1&&decide ((aK t p).dD<=a.t p)&&(aK t p).red==0
 else if a.c p==3&&b.c p==3 then b.t p==bt (a.t p)&&decide (a.t p<(aK t p).red)
 else if a.c p==3&&b.c p==0 then b.t p==1&&decide ((aK t p).red<=a.t p)
 else false
def IT.Spec:Prop:=∀(t:Tb) (a b:Sh) (p:Nat),Ap t a b->p<8->C.c f [.agg (yU t a b),I p] (B (E7 t a b p)) none
def xX.Spec:Prop:=∀(t:Tb) (a b:Sh) (p:Nat),Ap t a b->p<8->C.c f [.agg (yU t a b),I p] (B (rE t a b p)) none
def IU.Spec:Prop:=∀(t:Tb) (a b:Sh) (p:Nat),Ap t a b->p<8->C.c f [.agg (yU t a b),I p] (B (OY t a b p)) none
end
section
variable{P:Program} (hm:P.follows .mixedOrders=true) {f:Nat}
include hm
theorem IQ.ok(D:bK P f=some tO):IQ.Spec (Pure P) f:=by
 intro n
 have L:(if 9999<(if 0>n then 0 else n)then 9999 else(if 0>n then 0 else n))=gM n 0 9999:=by
  unfold gM;split<;>split<;>(try split)<;>omega
 refine aq hm D [] rfl ?_;try simp only[I,RX,↓KW,Nat.reduceBEq,Nat.reduceAdd,tO,Z.H]
 rw[L];rfl
theorem UO.ok{D:Nat} (L:bK P f=some (mF D)) (M:IQ.Spec (Pure P) D):UO.Spec (Pure P) f:=by
 intro x y;refine aq hm L [] rfl ?_;try simp only[I,B,RX,↓KW,Nat.reduceBEq,Nat.reduceAdd,Int.reduceLE,Int.reduceToNat,mF,Z.H]
 refine⟨ado,ado,?_⟩
 refine af (M x) ?_;try simp only[I,RX,↓KW,Nat.reduceBEq,Nat.reduceAdd]
theorem DQ.ok(D:bK P f=some lf):DQ.Spec (Pure P) f:=by
 intro x y;refine aq hm D [] rfl ?_;try simp only[I,B,RX,↓KW,Nat.reduceBEq,Nat.reduceAdd,Int.reduceLE,Int.reduceToNat,lf,Z.H]
 try omega
theorem IS.ok{fE:Nat} (hc:bK P f=some (mG fE)) (hE:uz.Spec (Pure P) fE):IS.Spec (Pure P) f:=by
 intro t a b p h hp
 have aa:=ahC h hp
 refine aq hm hc [] rfl ?_;try simp only[I,B,RX,↓KW,Nat.reduceBEq,Nat.reduceAdd,mG,Z.H]
 refine⟨ado,?_⟩
 try simp only[I,RX,↓KW,aa]
 obtain⟨g,hg,hi⟩:=hE (eA t p)
 refine af hg ?_;try simp only[I,RX]
 refine iW (λy:Unit=>(⟨[(11,.dat (.fn (.func g) [] [.ref [.int .i64 (eA t p)]]) none),(2,.ptr 4 0),(4,.ptr 5 0)],[(4,⟨yU t a b,[]⟩),(5,⟨[.bool false],[]⟩)],[],400⟩:S)) (λi _=>((((List.range 8).filter λq=>tb (eA t p) q).take i).all λq=>!AS t a b q)=true) hi rfl (iV λ_=>rfl) (λ_=>rfl) ?_ ?_ () adI ?_
 ·rintro i x ⟨⟩ hx D F back
  obtain⟨q,hq,rfl⟩:=od hx
  have L:=er hq
  have h8:q<8:=by simp only[yk,ip]at L;exact L.1
  obtain⟨p1,_,_⟩:=YY h h8;obtain⟨a1,_,_,_,b1,_,_,_⟩:=SU h h8
  have hnext:((((List.range 8).filter λq=>tb (eA t p) q).take (i+1)).all λq=>!AS t a b q)=!AS t a b q:=by
   rw[ac6,hq,List.all_append,D];simp
  obtain⟨e1,R⟩:∃e,(aK t q).on=e:=⟨_,rfl⟩
  obtain⟨e2,O⟩:∃e,(a.c q !=0)=e:=⟨_,rfl⟩
  obtain⟨e3,M⟩:∃e,(b.c q==1)=e:=⟨_,rfl⟩
  rw[AS,R,O,M]at hnext
  have V:(e1&&(e2||e3))=true->E6 t a b p=false:=by
   intro hc;rw[E6,zr];intro hh
   have:=mt.1 hh q L
   rw[AS,R,O,M,hc]at this;cases this
  try simp only[I,RX,↓KW,Nat.reduceBEq,Nat.reduceAdd]
  refine⟨ado,?_⟩
  try simp only[B,RX,p1,R]
  cases e1
  ·try simp only[RX,↓KW,Nat.reduceBEq,Nat.reduceAdd]
   refine back () _ (by simpa using hnext) ?_
   refine ai adp ?_ ?_ ?_ ?_<;>simp[LX]
  ·try simp only[RX,↓KW,Nat.reduceBEq,Nat.reduceAdd]
   refine⟨ado,?_⟩
   try simp only[I,RX,↓KW,Nat.reduceBEq,Nat.reduceAdd,a1,O]
   cases e2
   ·try simp only[RX,↓KW,Nat.reduceBEq,Nat.reduceAdd]
    refine⟨ado,?_⟩
    try simp only[I,RX,↓KW,Nat.reduceBEq,Nat.reduceAdd,b1,M]
    cases e3
    ·try simp only[RX,Nat.reduceBEq]
     refine back () _ (by simpa using hnext) ?_
     refine ai adp ?_ ?_ ?_ ?_<;>simp[LX]
    ·try simp only[RX,↓KW,Nat.reduceBEq,Nat.reduceAdd]
     exact(V rfl).symm▸rfl
   ·try simp only[RX,↓KW,Nat.reduceBEq,Nat.reduceAdd]
    exact(V rfl).symm▸rfl
 ·rintro⟨⟩ D
  try simp only[RX,↓KW,Nat.reduceBEq,Nat.reduceAdd]
  have:E6 t a b p=true:=by
   rw[E6,<-D,kf adI]
  rw[this]
 ·refine ai adp ?_ ?_ ?_ ?_<;>simp[LX]
theorem IU.ok{O R:Nat} (hc:bK P f=some (mH O R)) (hB:DQ.Spec (Pure P) O) (hG:UO.Spec (Pure P) R):IU.Spec (Pure P) f:=by
 intro t a b p h V;obtain⟨a1,a2,a3,a4,b1,b2,b3,b4⟩:=SU h V
 have L:=OW h
 obtain⟨p1,p2,p3⟩:=YY h V
 have hl:=DP h
 have D:(0:Int)<(2:Nat)/\(1:Int)<(2:Nat):=ado
 have M:0<=(p:Int)/\(p:Int)<(8:Nat):=ado
 refine aq hm hc [] rfl ?_;try simp only[I,B,RX,↓KW,Nat.reduceBEq,Nat.reduceAdd,mH,Z.H,M,a3,a4,b3,b4,YZ,OX]
 repeat' (first|((first|refine af (hB _ _) ?_|refine af (hG _ _) ?_);try simp only[B,RX,↓KW,Nat.reduceBEq,Nat.reduceAdd])|(((first|refine aY ?_ ?_|refine aA ?_ ?_|refine bH ?_ ?_)<;>intro h)<;>try simp only[I,B,RX,↓KW,Nat.reduceBEq,Nat.reduceAdd,Int.reduceLE,Int.reduceToNat,M,D,YZ,OX,p2,p3,L,h]))
 all_goals first|(simp_all [OY,CT,B];done)|(simp_all [OY,CT,B];omega)
theorem IT.ok{M:Nat} (V:bK P f=some (mE M)) (hF:IU.Spec (Pure P) M):IT.Spec (Pure P) f:=by
 intro t a b p h R;obtain⟨a1,a2,L,a4,b1,b2,b3,b4⟩:=SU h R
 have hw:=IP h
 have hl:=DP h
 have O:0<=(p:Int)/\(p:Int)<(8:Nat):=ado
 have D:=hF t a b p h R
 refine aq hm V [] rfl ?_;try simp only[I,B,RX,↓KW,Nat.reduceBEq,Nat.reduceAdd,mE,Z.H,O,L,b3,b4]
 repeat' (first|(refine af (D) ?_;try simp only[B,RX,↓KW,Nat.reduceBEq,Nat.reduceAdd])|(((first|refine aY ?_ ?_|refine aA ?_ ?_|refine bH ?_ ?_)<;>intro h)<;>try simp only[I,RX,↓KW,Nat.reduceBEq,Nat.reduceAdd,O,YZ,OX,L,a1,b1,hw,h]))
 all_goals first|(simp_all [E7,B];done)|(simp_all [E7,B];grind)
theorem xX.ok{fG fB V:Nat} (hc:bK P f=some (k9 fG fB V)) (hG:UO.Spec (Pure P) fG) (hB:DQ.Spec (Pure P) fB) (hF:IS.Spec (Pure P) V):xX.Spec (Pure P) f:=by
 intro t a b p h D;obtain⟨a1,a2,a3,a4,b1,b2,b3,b4⟩:=SU h D
 have hw:=IP h
 have hl:=DP h
 have O:=OW h
 have L:=alP h D
 have hx:0<=(p:Int)/\(p:Int)<(8:Nat):=ado
 have R:=hF t a b p h D
 have hz:setCells dV 0 (aK t p).cells=(aK t p).cells:=aM rfl
 have M:dV.length=13:=rfl
 refine aq hm hc [] rfl ?_;try simp only[I,B,RX,↓KW,Nat.reduceBEq,Nat.reduceAdd,k9,Z.H]
 refine ep (by rfl) ?_
 try simp only[I,RY,↓KW,Nat.reduceBEq,Nat.reduceAdd,hx,a1,a2,b1,b2,L,M,Ph.len,YZ,OX]
 have aa:aB (aK t p).cells 0 (some 13)=some (.agg (aK t p).cells):=rfl
 repeat' (first|((first|refine af (hG _ _) ?_|refine af (hB _ _) ?_|refine af (R) ?_);try simp only[B,RX,↓KW,Nat.reduceBEq,Nat.reduceAdd])|(((first|refine aY ?_ ?_|refine aA ?_ ?_|refine bH ?_ ?_)<;>intro h)<;>try simp only[I,B,RX,↓KW,Nat.reduceBEq,Nat.reduceAdd,hx,a3,O,hw,YZ,OX,Ph.cells,h]))
 all_goals first|(simp_all [rE,B];done)|(simp_all [rE,B];grind)
end
def qm(t:Tb) (a b:Sh):Bool:=(List.range 8).all λp=>rE t a b p&&E7 t a b p
def tP.Spec(C:aT) (f:Nat):Prop:=∀(t:Tb) (a b:Sh),Ap t a b->C.c f [.agg t.cells,.agg a.cells,.agg b.cells] (B (qm t a b)) none
theorem all_succ(f:Nat->Bool) (k:Nat):(List.range (k+1)).all f=((List.range k).all f&&f k):=by simp[lj,List.all_append]
theorem all_false{f:Nat->Bool} {n k:Nat} (h:k<n) (D:f k=false):(List.range n).all f=false:=by
 rw[zr];intro L
 have:=mt.1 L k (ip.2 h)
 rw[D]at this;cases this
theorem alQ{z A B C:List AV} (M:z.length=197) (hA:A.length=131) (hB:B.length=33) (hC:C.length=33):
  List.take 164 (List.take 131 (A++List.drop 131 z)++B++List.drop 164 (A++List.drop 131 z))++C++List.drop 197 (List.take 131 (A++List.drop 131 z)++B++List.drop 164 (A++List.drop 131 z))=A++(B++C):=by
 rw[xv hA];generalize D:List.drop 164 (A++List.drop 131 z)=Y
 have L:Y.length=33:=by rw[<-D];simp;omega
 rw[xv (by simp;omega),ml (by simp;omega),tp,List.append_assoc]
section
variable{P:Program} (hm:P.follows .mixedOrders=true) {f:Nat}
include hm
theorem tP.ok{fC fF:Nat} (hc:bK P f=some (oH fC fF)) (hC:xX.Spec (Pure P) fC) (hF:IT.Spec (Pure P) fF):tP.Spec (Pure P) f:=by
 intro t a b h
 have hw:=IP h
 have hl:=DP h
 have ht:=h.t.whole
 have ha:=Sh.whole h.a
 have hb:=Sh.whole h.b
 have R:=h.t.len
 have O:=Sh.len h.a
 have V:=Sh.len h.b
 have M:AR.length=197:=rfl
 have hz:setCells AR 0 (yU t a b)=yU t a b:=aM (by rw[hl,M])
 have D:=alQ M R O V
 have ac:t.cells++(a.cells++b.cells)=yU t a b:=rfl
 rw[ac]at D;refine aq hm hc [] rfl ?_;try simp only[B,RY,↓KW,Nat.reduceBEq,Nat.reduceAdd,oH,Z.H,ht,ha,hb,R,O,V,D,hl,M,hz]
 refine aG (λk:Nat=>(⟨[(13,.dat (I k) none),(7,.ptr 12 0)],[(12,⟨yU t a b,[]⟩)],[],400⟩:S)) (λk=>8-k) (λk=>k<=8/\((List.range k).all λp=>rE t a b p&&E7 t a b p)=true) ?_ 0 ⟨ado,rfl⟩ ?_
 ·rintro k ⟨hk,L⟩ A back
  have ad:=aC (k:=k) ado
  try simp only[I,RY,↓KW,Nat.reduceBEq,Nat.reduceAdd]
  refine aA (λh2=>?_) (λh2=>?_)<;>try simp only[RY,↓KW,Nat.reduceBEq,Nat.reduceAdd,h2]
  ·have h8:k<8:=by have:=dE h2;omega
   have hn:=all_succ (λp=>rE t a b p&&E7 t a b p) k
   rw[L]at hn;try simp only[RY,↓KW,hw]
   refine af (hC t a b k h h8) ?_;try simp only[B,RY,↓KW,Nat.reduceBEq,Nat.reduceAdd]
   cases ab:rE t a b k
   ·have:qm t a b=false:=all_false h8 (by simp[ab])
    try simp only[RY,↓KW,Nat.reduceBEq,Nat.reduceAdd,this]
   ·try simp only[RY,↓KW,Nat.reduceBEq,Nat.reduceAdd,hw]
    refine af (hF t a b k h h8) ?_;try simp only[B,RY,↓KW,Nat.reduceBEq,Nat.reduceAdd]
    cases aa:E7 t a b k
    ·have:qm t a b=false:=all_false h8 (by simp[aa])
     try simp only[RY,↓KW,Nat.reduceBEq,Nat.reduceAdd,this]
    ·try simp only[RY,↓KW,Nat.reduceBEq,Nat.reduceAdd]
     refine back (k+1) _ ⟨ado,by rw[hn];simp[ab,aa]⟩ ado ?_
     refine ai adp ?_ ?_ ?_ ?_<;>simp[LX,I,ad]
  ·have:k=8:=by have:=dT h2;omega
   subst this
   have:qm t a b=true:=L
   try simp only[this]
 ·refine ai adp ?_ ?_ ?_ ?_<;>simp[LX,I]
end
section
variable (s:Sh) (k:Nat) (x:Int)
def Sh.UP:Sh:={s with az:=s.az.set k x}
def Sh.Jc:Sh:={s with dm:=s.dm.set k x}
def Sh.acE:Sh:={s with bI:=s.bI.set k x}
def Sh.Y0(x:Bool):Sh:={s with entry:=x}
end
section
variable{s:Sh} (h:s.Ok) {k:Nat} (hk:k<8) (x:Int)
include h
theorem Sh.okC:(s.UP k x).Ok:=⟨by simp[Sh.UP,h.az],h.time,h.dm,h.bI⟩
theorem Sh.Kb:(s.Jc k x).Ok:=⟨h.az,h.time,by simp[Sh.Jc,h.dm],h.bI⟩
theorem Sh.okE(x:Bool):(s.Y0 x).Ok:=⟨h.az,h.time,h.dm,h.bI⟩
theorem Sh.acF(x:Bool):setCells s.cells 32 [B x]=(s.Y0 x).cells:=by
 have e:s.cells=(s.az.map I++(s.time.map I++(s.dm.map I++s.bI.map I)))++([B s.entry]++[]):=by simp[Sh.cells]
 rw[e,oN (mid:=[B s.entry]) (ps:=[B x]) (by simp[h.az,h.time,h.dm,h.bI]) rfl]
 simp[Sh.cells,Sh.Y0]
include hk
theorem Sh.acG:setCells s.cells k [I x]=(s.UP k x).cells:=by
 have:=BH (A:=[]) (B:=s.time.map I++(s.dm.map I++(s.bI.map I++[B s.entry]))) (l:=s.az) (x:=x) (o:=0) rfl (by rw[h.az];exact hk)
 simpa[Sh.cells,Sh.UP]using this
theorem Sh.FF:setCells s.cells (8+k) [I x]=(s.Ar k x).cells:=by
 exact BH (A:=s.az.map I) (B:=s.dm.map I++(s.bI.map I++[B s.entry])) (l:=s.time) (x:=x) (o:=8) (by simp[h.az]) (by rw[h.time];exact hk)
theorem Sh.acH:setCells s.cells (16+k) [I x]=(s.Jc k x).cells:=by
 have:=BH (A:=s.az.map I++s.time.map I) (B:=(s.bI.map I++[B s.entry])) (l:=s.dm) (x:=x) (o:=16) (by simp[h.az,h.time]) (by rw[h.dm];exact hk)
 simpa[Sh.cells,Sh.Jc]using this
theorem Sh.acI:setCells s.cells (24+k) [I x]=(s.acE k x).cells:=by
 have:=BH (A:=s.az.map I++(s.time.map I++s.dm.map I)) (B:=[B s.entry]) (l:=s.bI) (x:=x) (o:=24) (by simp[h.az,h.time,h.dm]) (by rw[h.bI];exact hk)
 simpa[Sh.cells,Sh.acE]using this
end
section
variable (s:bD) (k:Nat)
def OZ:Sh:=⟨vo (λp=>(s.rn p).az) (λ_=>0) k,vo (λp=>(s.rn p).time) (λ_=>0) k,vo (λp=>(s.rn p).fst) (λ_=>0) k,vo (λp=>(s.rn p).bI) (λ_=>0) k,false⟩
def AT:Bool:=s.pre.ax==1||s.pre.ax==2||s.pre.ax==3
def vU:Sh:=(OZ s 8).Y0 (AT s)
theorem Me:(OZ s k).Ok:=⟨sW _ _ _,sW _ _ _,sW _ _ _,sW _ _ _⟩
theorem CU:(vU s).Ok:=Sh.okE (Me s 8) _
theorem UQ{k:Nat} (hk:k<8):((((OZ s k).UP k (s.rn k).az).Ar k (s.rn k).time).Jc k (s.rn k).fst).acE k (s.rn k).bI=OZ s (k+1):=by
 simp only[OZ,Sh.UP,Sh.Ar,Sh.Jc,Sh.acE]
 rw[oX (λp=>(s.rn p).az) _ hk,oX (λp=>(s.rn p).time) _ hk,oX (λp=>(s.rn p).fst) _ hk,oX (λp=>(s.rn p).bI) _ hk]
theorem UR:(OZ s 0).cells=o5:=rfl
def Y1.Spec(C:aT) (f:Nat):Prop:=∀s:bD,s.Ok->C.c f [.agg s.cells] (.agg (vU s).cells) none
end
section
variable{P:Program} (hm:P.follows .mixedOrders=true) {f:Nat}
include hm
theorem Y1.ok(hc:bK P f=some xW):Y1.Spec (Pure P) f:=by
 intro s h
 have V:=bD.pV h
 have aa:=bD.sX h
 have D:o5.length=33:=rfl
 refine aq hm hc [] rfl ?_;try simp only[RY,↓KW,Nat.reduceBEq,Nat.reduceAdd,xW,Z.H,aa]
 refine aG (λk:Nat=>(⟨[(8,.dat (I k) none),(7,.dat (.agg (de s.runs)) none),(1,.ptr 4 0),(2,.ptr 5 0),(3,.ptr 6 0)],[(4,⟨s.cells,[]⟩),(5,⟨o5,[]⟩),(6,⟨(OZ s k).cells,[]⟩)],[],400⟩:S)) (λk=>8-k) (λk=>k<=8) ?_ 0 ado ?_
 ·intro k hk A back
  have hw:=aC (k:=k) ado
  try simp only[I,RY,↓KW,Nat.reduceBEq,Nat.reduceAdd]
  refine aA (λL=>?_) (λL=>?_)<;>try simp only[RY,↓KW,Nat.reduceBEq,Nat.reduceAdd,L]
  ·have O:k<8:=by have:=dE L;omega
   have hx:0<=(k:Int)/\(k:Int)<(8:Nat):=ado
   have R:=jE h.runs O
   have M:=Me s k
   have hn:=UQ s O
   have s1:=Sh.acG M O (s.rn k).az
   have o1:=Sh.okC M (k:=k) (s.rn k).az
   have s2:=Sh.FF o1 O (s.rn k).time
   have o2:=Sh.CX o1 (k:=k) (s.rn k).time
   have s3:=Sh.acH o2 O (s.rn k).fst
   have o3:=Sh.Kb o2 (k:=k) (s.rn k).fst
   have s4:=Sh.acI o3 O (s.rn k).bI
   have l0:=Sh.len M
   have l1:=Sh.len o1
   have l2:=Sh.len o2
   have l3:=Sh.len o3
   rw[hn]at s4
   have ab:s.runs.getD k default=s.rn k:=rfl
   rw[ab]at R;generalize s.rn k=r at*
   have hz:setCells bB 0 r.cells=r.cells:=aM rfl
   have ac:bB.length=12:=rfl
   have c0:r.cells[0]? =some (AV.int .i64 r.az):=rfl
   have c1:r.cells[1]? =some (AV.int .i64 r.time):=rfl
   have c2:r.cells[2]? =some (AV.int .i64 r.fst):=rfl
   have c3:r.cells[3]? =some (AV.int .i64 r.bI):=rfl
   try simp only[RY,↓KW,Nat.reduceBEq,Nat.reduceAdd,hx,R,hz,ac,Rn.len]
   refine ep (by rfl) ?_
   try simp only[RY,↓KW,Nat.reduceBEq,Nat.reduceAdd,Nat.reduceLeDiff,hx,c0,c1,s1,s2,l0,l1]
   refine⟨ado,ado,?_⟩
   refine ep (by rfl) ?_
   try simp only[RY,↓KW,Nat.reduceBEq,Nat.reduceAdd,Nat.reduceLeDiff,hx,c2,c3,s3,s4,l2,l3]
   refine⟨ado,ado,back (k+1) _ ado ado ?_⟩
   refine ai adp ?_ ?_ ?_ ?_<;>simp[LX,I,hw]
  ·have:k=8:=by have:=dT L;omega
   subst this
   have M:=Me s 8
   have l0:=Sh.len M
   have he:=Sh.acF M (AT s)
   have hz:setCells o5 0 (vU s).cells=(vU s).cells:=aM (by rw[D,Sh.len (CU s)])
   have ad:=Sh.whole (CU s)
   have ae:(OZ s 8).Y0 (AT s)=vU s:=rfl
   rw[ae]at he;try simp only[I,RY,↓KW,Nat.reduceBEq,Nat.reduceAdd,V]
   simp only[AT]at he
   cases h1:s.pre.ax==1<;>cases L:s.pre.ax==2<;>cases h3:s.pre.ax==3
   all_goals
    simp only[h1,L,h3,M2,Bool.or_false]at he;try simp only[I,RY,↓KW,Nat.reduceBEq,Nat.reduceAdd,V,L,h3,he,l0,hz,ad]
    exact⟨Sh.len (CU s),Nat.le_of_eq D.symm⟩
 ·refine ai adp ?_ ?_ ?_ ?_<;>simp[LX,I,UR]
end
section
variable {p:Nat} {s:bD}
theorem Mf{f g:Nat->Int} (D:p<8):(vo f g 8).getD p 0=f p:=by
 rw[vo,em,ka,kv D];simp[D]
theorem SW(s:bD) (D:p<8):(vU s).c p=(s.rn p).az/\(vU s).t p=(s.rn p).time/\(vU s).f p=(s.rn p).fst/\(vU s).ft p=(s.rn p).bI:=
 ⟨Mf (f:=λp=>(s.rn p).az) D,Mf (f:=λp=>(s.rn p).time) D,Mf (f:=λp=>(s.rn p).fst) D,Mf (f:=λp=>(s.rn p).bI) D⟩
theorem O0(h:s.pre.ax=1\/s.pre.ax=3):AT s=true:=by
 rcases h with h|h<;>simp[AT,h]
theorem Y2{t:Tb} {n:Nat} (g:TG t n) (I:SI t n s) (x:E0):qm t (vU s) (vU (rC t s x))=true:=by
 obtain⟨ae,o⟩:=LK g I x
 have J:=Si g I x
 have ac:(rC t s x).pre.ax=(jS t s x).1.ax:=rfl
 rw[qm,mt];intro p L
 have L:=ip.1 L
 obtain⟨a1,a2,a3,a4⟩:=SW s L
 obtain⟨b1,b2,b3,b4⟩:=SW (rC t s x) L
 have R:=I.run p L
 have M:=AH (aK t p) (s.rn p) (lp t s x p)
 rw[<-lS t s x L]at M;obtain⟨q1,q2,q3⟩:=lT t s x L
 have ag:=R.dm
 have aa:(vU (rC t s x)).entry=AT (rC t s x):=rfl
 rw[ed];constructor
 ·rw[rE,a1,a2,a3,b1,b2,aa]
  rcases mY R.col with⟨e,O⟩|⟨e,O⟩|⟨e,O⟩|⟨e,O⟩
  ·cases D:(lp t s x p).start with
   |false=>
    obtain⟨k1,k2,_⟩:=M.red O D;simp[e,k1,k2]
   |true=>
    obtain⟨k1,k2,_⟩:=M.start O D;rw[q1]at D;obtain⟨r1,r2,r3⟩:=o.start p L D
    have hf:E6 t (vU s) (vU (rC t s x)) p=true:=by
     rw[E6,mt];intro q hq;simp only[yk,ip]at hq
     have hr:=r3 q hq.1 hq.2
     obtain⟨c1,_⟩:=SW s hq.1
     obtain⟨d1,_⟩:=SW (rC t s x) hq.1
     have h0:(s.rn q).az=0:=by
      rcases mY (I.run q hq.1).col with h|h|h|h
      ·exact h.1
      ·rw[h.2]at hr;cases hr
      ·rw[h.2]at hr;cases hr
      ·rw[h.2]at hr;cases hr
     have h1:dN ((rC t s x).rn q)=true:=by
      rcases J.safe p q L hq.1 hq.2 with h|h
      ·simp[dN,k1]at h
      ·exact h
     have h2:¬((rC t s x).rn q).az=1:=by intro h;simp[dN,h]at h1
     rw[AS,c1,d1,h0];simp[h2]
    simp[e,k1,k2,hf,g.on p L,r2]
  ·cases D:(lp t s x p).fin with
   |false=>
    obtain⟨k1,k2,_⟩:=M.green e D;simp[e,k1,k2]
   |true=>
    obtain⟨k1,k2,_⟩:=M.fin e D;rw[q2]at D
    rcases o.fin p L D e with⟨V,m2⟩|h
    ·simp[e,k1,k2,V,m2]
    ·have:=O0 (s:=rC t s x) (by rw[ac];exact h)
     simp[e,k1,k2,this]
  ·obtain⟨_,h⟩:=M.dD e
   rcases h with⟨V,m2,m3⟩|⟨V,m2,m3,m4⟩|⟨V,m2,m3,m4⟩
   ·simp[e,m2,m3,V]
   ·simp[e,m3,m4,V,m2]
   ·have hr:(aK t p).red=0:=by
     by_cases hn:p<n
     ·have:=(g.ph p hn).red;omega
     ·rw[g.off p L ado];rfl
    simp[e,m3,m4,V,hr]
  ·obtain⟨_,h⟩:=M.clear e
   rcases h with⟨V,m2,m3⟩|⟨V,m2,m3⟩
   ·simp[e,m2,m3,V]
   ·simp[e,m2,m3,V]
 ·rw[E7,a1,a3,b1,b3,b4]
  rw[show(decide ((s.rn p).fst<0)||decide (2<(s.rn p).fst))=false by simp;omega]
  simp only[eQ,il]
  by_cases h1:((rC t s x).rn p).az=1
  ·have ab:(((rC t s x).rn p).az !=1)=false:=by simp[h1]
   rw[ab];simp only[eQ,il]
   by_cases h2:(s.rn p).az=1
   ·have Z:((s.rn p).az !=1)=false:=by simp[h2]
    rw[Z];simp only[eQ,il]
    have D:(lp t s x p).fin=false:=by
     cases D:(lp t s x p).fin with
     |false=>rfl
     |true=>have:=(M.fin h2 D).1;omega
    obtain⟨_,_,k3,k4⟩:=M.green h2 D;rw[OY,a3,a4,b3,b4,k3,k4,aa]
    rcases yM (aK t p) (s.rn p) (lp t s x p)with⟨x1,x2,x3⟩|⟨x1,x2,x3⟩|⟨x1,x2,x3⟩|⟨x1,x2,x3⟩|⟨x1,x2,x3⟩
    ·rw[x1,x2]
     rcases x3 with x3|x3
     ·simp[CT,x3]
     ·rw[q3]at x3
      have:=O0 (s:=rC t s x) (by rw[ac];exact o.cut p L x3)
      simp[CT,this]
    ·rw[x1,x2];simp[CT,x3]
    ·rw[x1,x2];simp[CT,x3]
    ·rw[x1,x2];simp[CT,x3]
    ·have h0:(s.rn p).fst=0:=ado
     have ad:=R.stop h0
     rcases x1 with x1|x1<;>rw[x1,h0,ad]<;>simp[CT]
   ·have Z:((s.rn p).az !=1)=true:=by simp[h2]
    rw[Z];simp only[kw]
    have O:dN (s.rn p)=true:=by
     rcases mY R.col with⟨e,O⟩|⟨e,O⟩|⟨e,O⟩|⟨e,O⟩
     ·exact O
     ·exact absurd e h2
     ·have:=(M.dD e).2;omega
     ·have:=(M.clear e).2;omega
    have D:(lp t s x p).start=true:=by
     cases D:(lp t s x p).start with
     |true=>rfl
     |false=>have:=(M.red O D).1;omega
    rcases(M.start O D).2.2.1 with⟨y1,y2⟩|⟨y1,y2⟩<;>simp[y1,y2]
  ·have ab:(((rC t s x).rn p).az !=1)=true:=by simp[h1]
   rw[ab];simp only[kw]
   have R2:=J.run p L
   have f0:=R2.off h1
   simp[f0,R2.stop f0]
end
section
open Z
def qn(M Z R O V L D:Nat):bJ:=(⟨_,by conv=>lhs;ext y0 y1;cbv⟩:bS λ(y0 y1:List AV)=>cE 56 [.tmp 4] [M,Z,R,O,V,L,D] [0,2,1] 0x1420018dc5e65f20100220038e2c2f018c50bc1f96285f3cd85f02165910200940ac5fc702b17f93f8361a958bfe405365d45e28dfce7c500a3cba8bc21bf9bf2a8317af037f01a0c7120a8fe0b4278500890a0f82042317cc4c5e06442fe182117f02c50bc805fc4a5d19790c0bf9e3e2302fe78f80100bdebe0605e008a333304b0156385b86285efd3062f5e322f8080bc05cc258101346146e10242f0201c0380c1038a17888bf8145de0246831791017c1003018109a700c20c5fbc0a0af01034c02048810 [y0,y1,[.int .i64 0,.int .i64 0,.int .i64 0,.int .i64 0,.int .i64 0,.int .i64 0,.int .i64 0,.int .i64 0]]).1 bL aD
end
theorem acJ{t:Tb} {n:Nat} (g:TG t n) {b:Bx} {x:Fr} (h:CI t n b) (L:(b.mode==2)=true) (D:((gz t b x).mode==2)=true):qm t (vU b.st) (vU (gz t b x).st)=true:=by
 rw[(qj (by simpa using L) (by simpa using D)).1]
 exact Y2 g h.si _
def Mg.Spec(C:aT) (f:Nat):Prop:=∀l sc:Option (List Int),C.c f [aI aH l,aI aH sc] (B true) none
section
variable{P:Program} (hm:P.follows .mixedOrders=true) {f:Nat}
include hm
theorem Mg.ok{fT fC fB fS fO fL fA:Nat} (hc:bK P f=some (qn fT fC fB fS fO fL fA)) (hT:Table.Spec (Pure P) fT) (hC:qg.Spec (Pure P) fC) (hB:lO.Spec (Pure P) fB) (hS:qi.Spec (Pure P) fS) (hO:Y1.Spec (Pure P) fO) (hL:tP.Spec (Pure P) fL) (hA:jw.Spec (Pure P) fA):Mg.Spec (Pure P) f:=by
 intro l sc
 have O:=vT.table l
 have hg:=Ie l
 have ar:=IK l
 obtain⟨t,am⟩:∃t,bk l=t:=⟨_,rfl⟩
 obtain⟨D,ae⟩:∃x,ez (gD true (sc.getD []))=x:=⟨_,rfl⟩
 have ag:D.getD []=gD true (sc.getD []):=by rw[<-ae,dB]
 have V:Qm (D.getD []):=by rw[ag];exact kM _ _
 have a5:(D.getD []).length<=1500:=by rw[ag];exact kN _ _
 have cT:=hT l
 rw[am]at cT O hg ar
 have cC:=hC sc true
 rw[ae]at cC
 have ht:=O.tok
 have al:=Tb.len ht
 have a3:=Tb.whole ht
 have z1:bL.length=131:=rfl
 have z2:setCells bL 0 t.cells=t.cells:=aM (by rw[al];rfl)
 have z3:aD.length=138:=rfl
 have ab:=λi (h:i<=(D.getD []).length)=>CI.run hg O V i h
 clear am ae ag;generalize nT l=n at*
 have R:=dC al (dC a3 (dC z1 (dC z2 (z3))))
 refine aq hm hc [] rfl ?_;try simp only[B,RY,↓KW,seval,qn,Z.H]
 refine af cT ?_;try simp only[RY,↓KW,seval,R]
 refine af cC ?_;try simp only[RY,↓KW,seval,R]
 have an:(jQ t).Ok:=nk t
 have b0:=Bx.len an
 have b2:setCells aD 0 (jQ t).cells=(jQ t).cells:=aM (by rw[b0];rfl)
 refine af (hB t ht) ?_;try simp only[RY,↓KW,seval,b0,b2,R]
 refine aG (λi:Nat=>(⟨[(8,.dat (I i) none),(6,.dat (aI Fr.cells D) none),(5,.ptr 7 0),(7,.ptr 14 0)],[(7,⟨t.cells,[]⟩),(14,⟨(eO t (D.getD []) i).cells,[]⟩)],[],400⟩:S)) (λi=>1500-i) (λi=>i<=(D.getD []).length) ?_ 0 ado ?_
 rotate_left
 ·refine ai adp ?_ ?_ ?_ ?_<;>simp[LX,I,eO]
 intro i hi A back
 have ac:=aC (k:=i) ado
 rcases bf (decide ((i:Int)<((D.getD []).length:Int)))with h|h
 ·try simp only[I,RY,↓KW,seval,h]
  refine af hA ?_;try simp only[B,RY,↓KW,seval]
 ·have h1:i<(D.getD []).length:=by have:=dE h;omega
  obtain⟨x,hx⟩:∃x,(D.getD [])[i]? =some x:=⟨_,eh h1⟩
  have a2:(D.getD []).getD i default=x:=by rw[em,hx];rfl
  have au:(x.samples.getD []).length<=1000000:=V x (er hx)
  have ak:eO t (D.getD []) (i+1)=gz t (eO t (D.getD []) i) x:=by rw[<-a2];rfl
  have hI:=ab i hi
  have hJ:=ab (i+1) ado
  have cS:=hS t (eO t (D.getD []) i) x (hI.inv.ins O au)
  rw[lX]at cS;rw[ak]at hJ
  have hy:0<=(i:Int)/\(i:Int)<((D.getD []).length:Int):=ado
  obtain⟨g1,g2,g3,g4,g5⟩:=Pc x
  have aa:=λh1 h2=>acJ hg hI (x:=x) h1 h2
  rw[<-ak]at aa
  have ao:=AN t (eO t (D.getD []) i) x
  have b3:=Bx.len hI.inv.mZ
  have b4:=Bx.whole hI.inv.mZ
  have c1:=Bx.len hJ.inv.mZ
  have c4:=Bx.whole hJ.inv.mZ
  rw[<-ak]at cS c1 c4 hJ;generalize vM t (eO t (D.getD []) i) x=L at*;generalize Sm t (eO t (D.getD []) i) x=ev at*
  have c2:setCells aD 0 (eO t (D.getD []) (i+1)).cells=(eO t (D.getD []) (i+1)).cells:=aM (by rw[c1];rfl)
  have c3:setCells (eO t (D.getD []) i).cells 0 (eO t (D.getD []) (i+1)).cells=(eO t (D.getD []) (i+1)).cells:=aM (by rw[b3,c1])
  generalize a4:eO t (D.getD []) i=b at*;generalize ad:eO t (D.getD []) (i+1)=b' at*
  have d1:(L.map I).length=8:=by simp[ao]
  have d2:setCells [.int .i64 0,.int .i64 0,.int .i64 0,.int .i64 0,.int .i64 0,.int .i64 0,.int .i64 0,.int .i64 0] 0 (L.map I)=L.map I:=aM (by rw[d1];rfl)
  have d3:aB (L.map I) 0 (some 8)=some (.agg (L.map I)):=by
   simp only[aB,d1,kb]
   rw[fp ado,<-d1,io]
  have m1:b.cells[0]? =some (I b.mode):=rfl
  have m2:b'.cells[0]? =some (I b'.mode):=rfl
  have M:=dC hy (dC hx (dC b3 (dC b4 (dC c1 (dC c2 (dC c3 (dC c4 (dC d1 (dC d2 (dC d3 (dC g1 (dC g2 (dC m1 (dC m2 (R)))))))))))))))
  have s1:=Bx.CB hI.inv.mZ
  have s2:=Bx.CB hJ.inv.mZ
  have o1:=hI.inv.mZ.st
  have o2:=hJ.inv.mZ.st
  have cL:=hL t (vU b.st) (vU b'.st) ⟨ht.ln,CU _,CU _⟩
  try simp only[I,RY,↓KW,seval,M]
  refine af cS ?_
  rcases bf (b.mode==2)with y1|y1
  ·try simp only[I,RY,↓KW,seval,y1,M]
   refine back (i+1) _ ado ado ?_
   refine ai adp ?_ ?_ ?_ ?_<;>simp[LX,I,ac,ad]
  rcases bf (b'.mode==2)with y2|y2
  ·try simp only[I,RY,↓KW,seval,y1,y2,M]
   refine back (i+1) _ ado ado ?_
   refine ai adp ?_ ?_ ?_ ?_<;>simp[LX,I,ac,ad]
  rw[aa y1 y2]at cL;try simp only[I,RY,↓KW,seval,y1,y2,s1,M]
  refine af (hO _ o1) ?_;try simp only[RY,↓KW,seval,s2]
  refine af (hO _ o2) ?_;try simp only[RY,↓KW,seval]
  refine af cL ?_;try simp only[B,RY,↓KW,seval,M]
  refine back (i+1) _ ado ado ?_
  refine ai adp ?_ ?_ ?_ ?_<;>simp[LX,I,ac,ad]
end
end Go.Eng
