/- The engine and the library,part 13 of 18: what the proofs of this seat need of them. -/
import Derived.Test.YtkckiembbiiliaaGreatPk12
set_option linter.unnecessarySimpa false
set_option linter.unusedSimpArgs false
set_option linter.unusedVariables false
set_option linter.defProp false
set_option maxRecDepth 10000
set_option maxHeartbeats 4000000
namespace Go.Eng
open Go
def Cn.Spec(C:bt) (f:Nat):Prop:=∀(b:Option (List Int)) (n lo hi:Int),C.c f [aJ gP b,I n,I lo,I hi] (B true) none
theorem dead{r:aY} (h:r.code≠0):(∀s lo hi,eW r s lo hi=(0,r))/\gG r=(0,r)/\y8 r=(false,r):=by
 have h1:∀s lo hi,eW r s lo hi=(0,r):=fun s lo hi=>by simp[eW,h,aY.fail]
 exact⟨h1,by simp[gG,h,aY.fail],by simp[y8,h1]⟩
theorem WK:(true !=false)=true:=rfl
theorem P3(v:Int):0<=place v 8/\place v 8<8:=by
 have h:=Int.tmod_lt_of_pos v (b:=8) (by omega)
 have h3:-8<v.tmod 8:=by have:=Int.lt_tmod_of_pos v (b:=8) (by omega);omega
 simp only[place];split
 ·rw[bL,bq (by omega) (by omega)];omega
 ·omega
section
variable{P:Program} (hm:P.follows .mixedOrders=true) {f:Nat}
include hm
theorem Cn.ok{fW fN fP f1 f9 f7 f3 f5 f8:Nat} (hc:gB true P f=some (mZ fW fN fP f1 f9 f7 f3 f5 f8)) (hW:wH.Spec (Pure P) fW) (hN:Cl.Spec (Pure P) fN) (hP:Place.Spec (Pure P) fP)
  (h1:AX.Spec (Pure P) f1) (h9:th.Spec (Pure P) f9) (h7:L8.Spec (Pure P) f7) (h3:tj.Spec (Pure P) f3) (h5:yd.Spec (Pure P) f5) (h8:vP.Spec (Pure P) f8):Cn.Spec (Pure P) f:=by
 intro b n lo hi
 refine aH hm hc (by show 4<=132;decide) (ay (keep:=[]) (i:=0) ?_)
 try simp only[I,B,D,RX,aB,aC,aE,↓KW,↓aD,seval,mZ,Z.H]
 refine ax (fun h=>?_) (fun h=>?_)<;>try simp only[I,B,D,RX,aB,aC,aE,↓KW,↓aD,seval,h]
 ·refine cA (hW) ?_
  try simp only[I,B,D,RX,aB,aC,aE,↓KW,↓aD,seval]
 ·have hb:(b.getD []).length<=60:=by have:=of_decide_eq_false h;omega
  refine jy (hN b (by omega)) ?_
  try simp only[I,B,D,RX,aB,aC,aE,↓KW,↓aD,seval,aY.cells]
  obtain⟨k,hk⟩:∃k,k=place n 8:=⟨_,rfl⟩
  have hk8:0<=k/\k<=7:=by
   rw[hk];have:=P3 n;omega
  refine cA (hP n 8 (by omega)) ?_
  try simp only[I,B,D,RX,aB,aC,aE,↓KW,↓aD,seval,<-hk]
  have hcut:kU k 0 7=k:=by unfold kU;split<;>(try split)<;>omega
  have hok:(aY.mk b 0 0 0).Ok:=DG (by omega)
  have e00:Vj 0 0=true:=by decide+kernel
  have e0l:((b.getD []).length:Int)-0=((b.getD []).length:Int):=by omega
  have hlen:(aY.mk b 0 0 0).len=((b.getD []).length:Int):=rfl
  have c1:=h1 ⟨b,0,0,0⟩ k lo hi hok
  by_cases hn:k<=((b.getD []).length:Int)
  ·obtain⟨v,hv⟩:∃v,v=IntKind.i64.wrap (ff ((aY.mk b 0 0 0).part k)):=⟨_,rfl⟩
   have hg1:decide (((b.getD []).length:Int)<k)=false:=by simp;omega
   by_cases hbad:v<lo\/hi<v
   ·have hR:eW ⟨b,0,0,0⟩ k lo hi=(0,⟨b,0,4,0⟩):=by simp[eW,hcut,hlen,hn,<-hv,hbad,aY.fail]
    rw[hR]at c1
    obtain⟨d1,d2,d3⟩:=dead (r:=⟨b,0,4,0⟩) (show(4:Int)≠0 by decide)
    have hok4:(aY.mk b 0 4 0).Ok:=hok
    have c2:=h1 ⟨b,0,4,0⟩ 1 0 255 hok4
    have c3:=h3 ⟨b,0,4,0⟩ hok4
    have c5:=h5 ⟨b,0,4,0⟩ hok4
    have c8:=h8 ⟨b,0,4,0⟩ hok4
    rw[d1]at c2;rw[d2]at c3;rw[d3]at c5;refine⟨rfl,aq (c1) ?_⟩;try simp only[I,B,D,RX,aB,aC,aE,↓KW,↓aD,seval,aY.cells]
    refine⟨rfl,aq (h9 ⟨b,0,4,0⟩) ?_⟩;try simp only[I,B,D,RX,aB,aC,aE,↓KW,↓aD,seval,aY.cells,aY.fault]
    refine⟨rfl,aq (c2) ?_⟩;try simp only[I,B,D,RX,aB,aC,aE,↓KW,↓aD,seval,aY.cells]
    refine⟨rfl,aq (c3) ?_⟩;try simp only[I,B,D,RX,aB,aC,aE,↓KW,↓aD,seval,aY.cells,JB,e00]
    refine⟨rfl,aq (c5) ?_⟩;try simp only[I,B,D,RX,aB,aC,aE,↓KW,↓aD,seval,aY.cells]
    refine⟨rfl,aq (h7 ⟨b,0,4,0⟩) ?_⟩;try simp only[I,B,D,RX,aB,aC,aE,↓KW,↓aD,seval,aY.cells]
    refine⟨rfl,aq (c8) ?_⟩;try simp only[I,B,D,RX,aB,aC,aE,↓KW,↓aD,seval,aY.cells,aY.len,e0l,beq_self_eq_true]
    refine BZ rfl ?_;try simp only[I,B,D,RX,aB,aC,aE,↓KW,↓aD,seval,aY.cells]
    refine bz (fun g5=>?_) (fun g5=>?_)<;>try simp only[I,B,D,RX,aB,aC,aE,↓KW,↓aD,seval,g5]
    ·refine⟨rfl,bg (h9 ⟨b,0,4,0⟩) ?_⟩
     try simp only[I,B,D,RX,aB,aC,aE,↓KW,↓aD,seval,aY.cells,aY.fault,rB,WK]
     refine aj (hW) ?_;try simp only[I,B,D,RX,aB,aC,aE,↓KW,↓aD,seval]
    ·exfalso;have:=of_decide_eq_false g5;omega
   ·have hR:eW ⟨b,0,0,0⟩ k lo hi=(v,⟨b,k,0,0⟩):=by simp[eW,hcut,hlen,hn,<-hv,hbad]
    rw[hR]at c1;refine⟨rfl,aq (c1) ?_⟩;try simp only[I,B,D,RX,aB,aC,aE,↓KW,↓aD,seval,aY.cells]
    refine⟨rfl,aq (h9 ⟨b,k,0,0⟩) ?_⟩;try simp only[I,B,D,RX,aB,aC,aE,↓KW,↓aD,seval,aY.cells,aY.fault]
    have e1:decide (lo<=v)=true:=by simp;omega
    have e2:decide (v<=hi)=true:=by simp;omega
    refine bz (fun g1=>?_) (fun g1=>?_)<;>try simp only[I,B,D,RX,aB,aC,aE,↓KW,↓aD,seval,g1]
    ·refine bz (fun g2=>?_) (fun g2=>?_)<;>try simp only[I,B,D,RX,aB,aC,aE,↓KW,↓aD,seval,g2]
     ·refine⟨rfl,aq (h7 ⟨b,k,0,0⟩) ?_⟩
      try simp only[I,B,D,RX,aB,aC,aE,↓KW,↓aD,seval,aY.cells,beq_self_eq_true]
      refine bz (fun g3=>?_) (fun g3=>?_)<;>try simp only[I,B,D,RX,aB,aC,aE,↓KW,↓aD,seval,g3]
      ·refine cA (hW) ?_
       try simp only[I,B,D,RX,aB,aC,aE,↓KW,↓aD,seval]
      ·exfalso;have:=of_decide_eq_false g3;omega
     ·exfalso;have:=of_decide_eq_false g2;omega
    ·exfalso;have:=of_decide_eq_false g1;omega
  ·have hR:eW ⟨b,0,0,0⟩ k lo hi=(0,⟨b,0,2,((b.getD []).length:Int)⟩):=by simp[eW,hcut,hlen,hn,aY.fail]
   rw[hR]at c1
   have hg1:decide (((b.getD []).length:Int)<k)=true:=by simp;omega
   refine⟨rfl,aq (c1) ?_⟩;try simp only[I,B,D,RX,aB,aC,aE,↓KW,↓aD,seval,aY.cells]
   refine⟨rfl,aq (h9 ⟨b,0,2,((b.getD []).length:Int)⟩) ?_⟩;try simp only[I,B,D,RX,aB,aC,aE,↓KW,↓aD,seval,aY.cells,aY.fault,beq_self_eq_true]
   refine bz (fun g1=>?_) (fun g1=>?_)<;>try simp only[I,B,D,RX,aB,aC,aE,↓KW,↓aD,seval,g1]
   ·obtain⟨d1,d2,d3⟩:=dead (r:=⟨b,0,2,((b.getD []).length:Int)⟩) (show(2:Int)≠0 by decide)
    have hok2:(aY.mk b 0 2 ((b.getD []).length:Int)).Ok:=hok
    have c2:=h1 ⟨b,0,2,((b.getD []).length:Int)⟩ 1 0 255 hok2
    have c3:=h3 ⟨b,0,2,((b.getD []).length:Int)⟩ hok2
    have c5:=h5 ⟨b,0,2,((b.getD []).length:Int)⟩ hok2
    have c8:=h8 ⟨b,0,2,((b.getD []).length:Int)⟩ hok2
    rw[d1]at c2;rw[d2]at c3;rw[d3]at c5;refine⟨rfl,aq (c2) ?_⟩;try simp only[I,B,D,RX,aB,aC,aE,↓KW,↓aD,seval,aY.cells]
    refine⟨rfl,aq (c3) ?_⟩;try simp only[I,B,D,RX,aB,aC,aE,↓KW,↓aD,seval,aY.cells,JB,e00]
    refine⟨rfl,aq (c5) ?_⟩;try simp only[I,B,D,RX,aB,aC,aE,↓KW,↓aD,seval,aY.cells]
    refine⟨rfl,aq (h7 ⟨b,0,2,((b.getD []).length:Int)⟩) ?_⟩;try simp only[I,B,D,RX,aB,aC,aE,↓KW,↓aD,seval,aY.cells]
    refine⟨rfl,aq (c8) ?_⟩;try simp only[I,B,D,RX,aB,aC,aE,↓KW,↓aD,seval,aY.cells,aY.len,e0l,beq_self_eq_true]
    refine BZ rfl ?_;try simp only[I,B,D,RX,aB,aC,aE,↓KW,↓aD,seval,aY.cells]
    refine⟨rfl,bg (h9 ⟨b,0,2,((b.getD []).length:Int)⟩) ?_⟩;try simp only[I,B,D,RX,aB,aC,aE,↓KW,↓aD,seval,aY.cells,aY.fault,rB,WK]
    refine aj (hW) ?_;try simp only[I,B,D,RX,aB,aC,aE,↓KW,↓aD,seval]
   ·exfalso;have:=of_decide_eq_false g1;omega
end
theorem Co(n:Int):IntKind.u64.wrap n=n%18446744073709551616:=rfl
theorem EE(n:Int):IntKind.u8.wrap n=n%256:=rfl
theorem uk{v c:Int} (hv:0<=v) (hv2:v<72057594037927936) (hc:0<=c) (hc2:c<256):je v c=v*256+c:=by
 unfold je Jy
 have e1:IntKind.u64.wrap (v*2^min 8 IntKind.u64.bits)=v*256:=by
  show(v*2^8)%18446744073709551616=_
  omega
 have e2:IntKind.u64.wrap c=c:=by show c%18446744073709551616=_;omega
 rw[e1,e2];obtain⟨m,rfl⟩:=Int.eq_ofNat_of_zero_le hv;obtain⟨d,rfl⟩:=Int.eq_ofNat_of_zero_le hc
 have a1:(BitVec.ofInt 64 ((m:Int)*256)).toNat=m<<<8:=by
  rw[BitVec.toNat_ofInt,Nat.shiftLeft_eq]
  show((m:Int)*256%18446744073709551616).toNat=m*256
  omega
 have a2:(BitVec.ofInt 64 (d:Int)).toNat=d:=by
  rw[BitVec.toNat_ofInt]
  show((d:Int)%18446744073709551616).toNat=d
  omega
 show IntKind.u64.wrap ((BitVec.ofInt 64 ((m:Int)*256)|||BitVec.ofInt 64 (d:Int)).toNat:Int)=_
 rw[BitVec.toNat_or,a1,a2,<-Nat.shiftLeft_add_eq_or_of_lt (show d<2^8 by omega),Co,Nat.shiftLeft_eq]
 omega
theorem tq:∀k:Nat,0<(256:Int)^k
 |0=>by decide
 |k+1=>by have:=tq k;rw[Int.pow_succ];omega
theorem jN(n:Int) (k:Nat):mD n k=n/256^k%256:=by
 unfold mD;rw[EE]
 have:n.fdiv (2^(8*k))=n/256^k:=by
  rw[show(2:Int)^(8*k)=256^k by rw[Int.pow_mul];rfl]
  exact Int.fdiv_eq_ediv_of_nonneg _ (Int.le_of_lt (tq k))
 rw[this]
theorem yf(n:Int) (k:Nat):n/256^k%256*256^k+n%256^k=n%256^(k+1):=by
 have hp:=tq k
 rw[Int.pow_succ];generalize(256:Int)^k=b at hp⊢
 have h1:=Int.emod_add_mul_ediv n b
 have h2:=Int.emod_add_mul_ediv (n/b) 256
 have h3:=Int.emod_nonneg n (Int.ne_of_gt hp)
 have h4:=Int.emod_lt_of_pos n hp
 have h5:0<=n/b%256:=by omega
 have h6:n/b%256<=255:=by omega
 have h7:b*(n/b%256)<=b*255:=Int.mul_le_mul_of_nonneg_left h6 (by omega)
 have h8:0<=b*(n/b%256):=Int.mul_nonneg (by omega) h5
 have h9:n=(b*(n/b%256)+n%b)+(b*256)*(n/b/256):=by
  have:b*(n/b)=b*(n/b%256)+b*256*(n/b/256):=by
   rw[Int.mul_assoc,<-Int.mul_add,h2]
  omega
 have h10:n%(b*256)=b*(n/b%256)+n%b:=by
  rw[h9,Int.add_mul_emod_self_left];rw[<-h9]
  exact Int.emod_eq_of_lt (by omega) (by omega)
 rw[h10,Int.mul_comm b]
theorem Cp(n:Int):∀(k:Nat) (v:Int),0<=v->v*256^k+256^k<=18446744073709551616->(mJ n k).foldl je v=v*256^k+n%256^k
 |0,v,_,_=>by simp[mJ,Int.emod_one]
 |k+1,v,hv,hb=>by
  have hp:=tq k
  have hm:=yf n k
  rw[Int.pow_succ]at hb hm⊢
  have hb1:0<=mD n k:=by rw[jN];omega
  have hb2:mD n k<256:=by rw[jN];omega
  have hby:=jN n k
  have ih:=Cp n k
  have e0:(mJ n (k+1)).foldl je v=(mJ n k).foldl je (je v (mD n k)):=rfl
  rw[e0];generalize(256:Int)^k=b at hp hm hb hby ih⊢;generalize mD n k=c at hb1 hb2 hby ih⊢
  have h1:v*256<=v*(b*256):=Int.mul_le_mul_of_nonneg_left (by omega) hv
  have h2:(c+1)*b<=256*b:=Int.mul_le_mul_of_nonneg_right (by omega) (by omega)
  have e1:(v*256+c)*b=v*(b*256)+c*b:=by rw[Int.add_mul,Int.mul_assoc,Int.mul_comm 256 b]
  have e2:(c+1)*b=c*b+b:=by rw[Int.add_mul,Int.one_mul]
  have h3:v<72057594037927936:=by omega
  rw[uk hv h3 hb1 hb2,ih _ (by omega) (by omega),<-hm,<-hby]
  omega
theorem Cq(n:Int) (k:Nat) (hk:k<=8):ff (mJ n k)=n%256^k:=by
 unfold ff
 rw[Cp n k 0 (by omega) ?_]
 ·simp
 ·have:k=0\/k=1\/k=2\/k=3\/k=4\/k=5\/k=6\/k=7\/k=8:=by omega
  rcases this with rfl|rfl|rfl|rfl|rfl|rfl|rfl|rfl|rfl<;>decide
def lB(t:Tb) (p q:Int):Int:=if fy t p q then iO (ML [p]) q else ML [p]
def with.Spec(C:bt) (f:Nat):Prop:=∀(t:Tb) (p q:Int),t.Ok->C.c f [.agg t.cells,I p,I q] (I (lB t p q)) none
theorem P4(k:FloatKind) (x y:Nat):dI .mul (.float k x) (.float k y)=C3 k (k.format.mul x y):=by simp[dI,wV]
theorem Ir(k:FloatKind) (x y:Nat):dI .quo (.float k x) (.float k y)=C3 k (k.format.div x y):=by simp[dI,wV]
theorem P5(k:FloatKind) (r:Nat):C3 k (some r)=some (.float k r):=by cases k<;>rfl
theorem MP(k:FloatKind) (k':IntKind) (n:Int):wW k (.int k' n)=some (.float k (k.nearest n)):=rfl
theorem aL(l:Option (List Int)) (i:Int) {n:Int} (h:0<n) (hn:n<=4294967296):0<=bG l i n/\bG l i n<n:=by
 simp only[bG,place]
 have h1:=Int.tmod_lt_of_pos (O2 l i) h
 have h2:=Int.lt_tmod_of_pos (O2 l i) h
 split
 ·rw[bL,bq (by omega) (by omega)];omega
 ·omega
def uo(n:Int):Nat:=(FloatKind.f64.format.div (FloatKind.f64.nearest n) 4621819117588971520).getD 0
theorem yg:∀n:Nat,n<6->FloatKind.f64.format.div (FloatKind.f64.nearest (n:Int)) 4621819117588971520=some (uo n):=by decide+kernel
def sw(k:Int):Nat:=[4617315517961601024,4621819117588971520,4607182418800017408,4602678819172646912].getD k.toNat 0
def yh(k:Int):Nat:=[4602678819172646912,4607182418800017408,4598175219545276416].getD k.toNat 0
def qC(j k:Int):Nat:=(FloatKind.f64.format.mul (sw j) (yh k)).getD 0
theorem Cr:∀j:Nat,j<4->∀k:Nat,k<3->FloatKind.f64.format.mul (sw j) (yh k)=some (qC j k):=by decide+kernel
def ir(l:Option (List Int)) (i n:Int):gQ where
 phase:=bG l i n
 on:=sw (bG l (bL (i+1)) 4)
 off:=qC (bG l (bL (i+1)) 4) (bG l (bL (i+2)) 3)
 delay:=uo (bG l (bL (i+3)) 4)
 extend:=uo (bG l (bL (i+4)) 6)
 maxOn:=if bG l (bL (i+5)) 3==1 then bL (20+bG l (bL (i+6)) 60)else 0
 kS:=if bG l (bL (i+5)) 9==2 then bL (60+bG l (bL (i+7)) 300)else 0
def qD.Spec(C:bt) (f:Nat):Prop:=∀(l:Option (List Int)) (i n:Int),0<n->C.c f [aJ aG l,I i,I n] (.agg (ir l i n).cells) none
section
variable{P:Program} (hm:P.follows .mixedOrders=true) {f:Nat}
include hm
theorem with.ok{e fO fB fW:Nat} (hc:dY P f=some (ny e fO fB fW)) (hO:xX.Spec (Pure P) fO) (hB:beside.Spec (Pure P) fB) (hW:rm.Spec (Pure P) fW):with.Spec (Pure P) f:=by
 intro t p q ht
 have hl:=Tb.len ht
 have hp:=Tb.whole ht
 refine aH hm hc (by show 3<=19;decide) (ay (keep:=[]) (i:=0) ?_)
 try simp only[I,B,D,RX,↓KW,seval,ny,Z.H,hp,hl]
 refine aj (hO (some [_]) (by simp)) ?_
 try simp only[I,B,D,RX,↓KW,seval,hp]
 refine aj (hB t _ _ ht) ?_;try simp only[I,B,D,RX,↓KW,seval]
 repeat' (first|(refine aj (hW _ _) ?_;try simp only[I,B,D,RX,↓KW,seval])|(((first|refine bz ?_ ?_|refine ax ?_ ?_|refine cv ?_ ?_)<;>intro h)<;>try simp only[I,B,D,RX,↓KW,seval,h]))
 all_goals simp_all [lB]
theorem qD.ok{fF:Nat} (hc:dY P f=some (mW fF)) (hF:from.Spec (Pure P) fF):qD.Spec (Pure P) f:=by
 intro l i n hn
 refine aH hm hc (by show 3<=66;decide) (ay (keep:=[]) (i:=0) ?_)
 try simp only[I,B,D,RX,↓KW,seval,mW,Z.H]
 refine aj (hF _ _ _ hn) ?_;try simp only[I,B,D,RX,↓KW,seval]
 refine aj (hF _ _ _ (by decide)) ?_
 try simp only[I,B,D,RX,↓KW,seval]
 have h1:=aL l (bL (i+1)) (n:=4) (by decide) (by decide)
 have h2:=aL l (bL (i+2)) (n:=3) (by decide) (by decide)
 have h3:=aL l (bL (i+3)) (n:=4) (by decide) (by decide)
 have h4:=aL l (bL (i+4)) (n:=6) (by decide) (by decide)
 have e1:[AV.float FloatKind.f64 4617315517961601024,AV.float FloatKind.f64 4621819117588971520,AV.float FloatKind.f64 4607182418800017408,AV.float FloatKind.f64 4602678819172646912][(bG l (bL (i+1)) 4).toNat]? =some (.float .f64 (sw (bG l (bL (i+1)) 4))):=by
  generalize bG l (bL (i+1)) 4=j at*
  have:j=0\/j=1\/j=2\/j=3:=by omega
  rcases this with rfl|rfl|rfl|rfl<;>rfl
 have e2:[AV.float FloatKind.f64 4602678819172646912,AV.float FloatKind.f64 4607182418800017408,AV.float FloatKind.f64 4598175219545276416][(bG l (bL (i+2)) 3).toNat]? =some (.float .f64 (yh (bG l (bL (i+2)) 3))):=by
  generalize bG l (bL (i+2)) 3=j at*
  have:j=0\/j=1\/j=2:=by omega
  rcases this with rfl|rfl|rfl<;>rfl
 have e3:=Cr (bG l (bL (i+1)) 4).toNat (by omega) (bG l (bL (i+2)) 3).toNat (by omega)
 have e4:=yg (bG l (bL (i+3)) 4).toNat (by omega)
 have e5:=yg (bG l (bL (i+4)) 6).toNat (by omega)
 simp only[Int.toNat_of_nonneg h1.1,Int.toNat_of_nonneg h2.1]at e3;simp only[Int.toNat_of_nonneg h3.1]at e4;simp only[Int.toNat_of_nonneg h4.1]at e5;simp only[bL]at e1 e2 e3 e4 e5 h1 h2 h3 h4
 refine⟨by omega,?_⟩
 try simp only[I,B,D,RX,↓KW,seval,e1]
 refine aj (hF l _ 3 (by decide)) ?_
 try simp only[I,B,D,RX,↓KW,seval]
 refine⟨by omega,?_⟩
 try simp only[I,B,D,RX,↓KW,seval,e2,P5,P4,e3]
 refine aj (hF _ _ _ (by decide)) ?_
 try simp only[I,B,D,RX,↓KW,seval,MP,P5,Ir,e4]
 refine aj (hF _ _ _ (by decide)) ?_
 try simp only[I,B,D,RX,↓KW,seval,MP,P5,Ir,e5]
 repeat' (first|(refine aj (hF _ _ _ (by decide)) ?_;try simp only[I,B,D,RX,↓KW,seval])|(((first|refine bz ?_ ?_|refine ax ?_ ?_|refine cv ?_ ?_)<;>intro h)<;>try simp only[I,B,D,RX,↓KW,seval,h]))
 all_goals simp_all [ir,gQ.cells,bL]
def nC (t:Tb) (l:Option (List Int)) (i n:Int):Rl :=
  let p:=bG l (bL (i + 4)) (bL (n + 1))
  let jK:=lB t (bG l i n) (bG l (bL (i + 1)) n)
  let stay:=bL (1 + bG l (bL (i + 11)) 15)
  let delay:=bG l (bL (i + 8)) 4
  { bars:=mV .i64 (oC .i64 (bG l (bL (i + 7)) 256) (bL (bL (1 * 2 ^ min (IntKind.u64.wrap n).toNat 64) - 1))) jK
    clear:=if p < n then lB t p (bG l (bL (i + 5)) n) else 0
    jK:=jK
    exit:=lB t (bG l (bL (i + 2)) n) (bG l (bL (i + 3)) n)
    delay:=delay
    green:=bL (1 + bG l (bL (i + 9)) 6)
    kT:=bG l (bL (i + 10)) 6
    hold:=if p < n then bL (1 + bG l (bL (i + 6)) 10) else 0
    stay:=stay
    most:=if bG l (bL (i + 12)) 3 == 1 then bL (stay + bG l (bL (i + 13)) 30) else 0
    limit:=bL (bL (delay + 1) + [10000,400,20].getD (bG l (bL (i + 14)) 3).toNat 0) }
def Is.Spec(C:bt) (f:Nat):Prop:=∀(t:Tb) (l:Option (List Int)) (i n:Int),t.Ok->0<n->n<=8->C.c f [.agg t.cells,aJ aG l,I i,I n] (.agg (nC t l i n).cells) none
theorem Is.ok{fF fW:Nat} (hc:dY P f=some (sg fF fW)) (hF:from.Spec (Pure P) fF) (hW:with.Spec (Pure P) fW):Is.Spec (Pure P) f:=by
 intro t l i n ht hn hn8
 have hl:=Tb.len ht
 have hp:=Tb.whole ht
 have hn1:IntKind.i64.wrap (n+1)=n+1:=bq (by omega) (by omega)
 refine aH hm hc (by show 4<=119;decide) (ay (keep:=[]) (i:=0) ?_)
 try simp only[I,B,D,RX,↓KW,seval,sg,Z.H,hp,hl,eY]
 refine aj (hF _ _ _ hn) ?_;try simp only[I,B,D,RX,↓KW,seval,hp]
 refine aj (hF _ _ _ hn) ?_;try simp only[I,B,D,RX,↓KW,seval,hp]
 refine aj (hW t _ _ ht) ?_;try simp only[I,B,D,RX,↓KW,seval,hp]
 refine aj (hF _ _ _ hn) ?_;try simp only[I,B,D,RX,↓KW,seval,hp]
 refine aj (hF _ _ _ hn) ?_;try simp only[I,B,D,RX,↓KW,seval,hp]
 refine aj (hW t _ _ ht) ?_;try simp only[I,B,D,RX,↓KW,seval,hp]
 refine aj (hF _ _ _ (by omega)) ?_
 try simp only[I,B,D,RX,↓KW,seval,hp]
 have h14:=aL l (bL (i+14)) (n:=3) (by decide) (by decide)
 have e14:[AV.int .i64 10000,AV.int .i64 400,AV.int .i64 20][(bG l (bL (i+14)) 3).toNat]? =some (.int .i64 ([10000,400,20].getD (bG l (bL (i+14)) 3).toNat 0)):=by
  generalize bG l (bL (i+14)) 3=j at*
  have:j=0\/j=1\/j=2:=by omega
  rcases this with rfl|rfl|rfl<;>rfl
 have hu:0<=IntKind.u64.wrap n:=by rw[IntKind.wrap];simp[IntKind.signed];omega
 simp only[bL]at e14 h14
 refine ax (fun h=>?_) (fun h=>?_)<;>try simp only[I,B,D,RX,↓KW,seval,hp,h]
 ·repeat' (first|((first|refine aj (hF _ _ _ hn) ?_|refine aj (hF _ _ _ (by decide)) ?_|refine aj (hW t _ _ ht) ?_);try simp only[I,B,D,RX,↓KW,seval,hp])|(((first|refine bz ?_ ?_|refine ax ?_ ?_|refine cv ?_ ?_)<;>intro h)<;>try simp only[I,B,D,RX,↓KW,seval,hp,h]))
  refine⟨hu,?_⟩
  repeat' (first|((first|refine aj (hF _ _ _ hn) ?_|refine aj (hF _ _ _ (by decide)) ?_|refine aj (hW t _ _ ht) ?_);try simp only[I,B,D,RX,↓KW,seval,hp])|(((first|refine bz ?_ ?_|refine ax ?_ ?_|refine cv ?_ ?_)<;>intro h)<;>try simp only[I,B,D,RX,↓KW,seval,hp,h]))
  all_goals refine⟨by omega,?_⟩
  all_goals try simp only[I,B,D,RX,↓KW,seval,e14,hp]
  all_goals simp_all [nC,Rl.cells,bL,IntKind.bits]
 ·repeat' (first|((first|refine aj (hF _ _ _ hn) ?_|refine aj (hF _ _ _ (by decide)) ?_|refine aj (hW t _ _ ht) ?_);try simp only[I,B,D,RX,↓KW,seval,hp])|(((first|refine bz ?_ ?_|refine ax ?_ ?_|refine cv ?_ ?_)<;>intro h)<;>try simp only[I,B,D,RX,↓KW,seval,hp,h]))
  refine⟨hu,?_⟩
  repeat' (first|((first|refine aj (hF _ _ _ hn) ?_|refine aj (hF _ _ _ (by decide)) ?_|refine aj (hW t _ _ ht) ?_);try simp only[I,B,D,RX,↓KW,seval,hp])|(((first|refine bz ?_ ?_|refine ax ?_ ?_|refine cv ?_ ?_)<;>intro h)<;>try simp only[I,B,D,RX,↓KW,seval,hp,h]))
  all_goals refine⟨by omega,?_⟩
  all_goals try simp only[I,B,D,RX,↓KW,seval,e14,hp]
  all_goals simp_all [nC,Rl.cells,bL,IntKind.bits]
  all_goals exact⟨fun _=>by omega,fun _=>by omega⟩
end
structure Tb.Ln (t:Tb):Prop where
 phases:t.phases.length=8
 conflict:t.conflict.length=8
 bA:t.bA.length=8
theorem Tb.Ok.ln{t:Tb} (h:t.Ok):t.Ln:=⟨h.phases,h.conflict,h.bA⟩
section
variable{t:Tb} (h:t.Ln)
include h
theorem Tb.Ln.len:t.cells.length=131:=by
 simp[Tb.cells,aV Ph.len,h.phases,h.conflict,h.bA]
theorem Tb.Ln.whole:bF t.cells 0 (some 131)=some (.agg t.cells):=by
 have hl:=h.len
 rw[gW _ _ _ (by omega),List.drop_zero,<-hl,List.take_length]
theorem Tb.Ln.EF:t.cells[113]? =some (aJ gQ.cells t.aI):=by
 simp[Tb.cells,List.getElem?_append,aV Ph.len,h.phases,h.conflict,h.bA,List.getElem?_cons]
theorem Tb.Ln.Ct:t.cells[114]? =some (aJ Rl.cells t.aZ):=by
 simp[Tb.cells,List.getElem?_append,aV Ph.len,h.phases,h.conflict,h.bA,List.getElem?_cons]
theorem Tb.Ln.EG:t.cells[115]? =some (aJ Bs.cells t.bS):=by
 simp[Tb.cells,List.getElem?_append,aV Ph.len,h.phases,h.conflict,h.bA,List.getElem?_cons]
theorem Tb.Ln.Um:t.cells[129]? =some (I t.d9):=by
 simp[Tb.cells,List.getElem?_append,aV Ph.len,h.phases,h.conflict,h.bA,List.getElem?_cons]
theorem Tb.Ln.qq{i:Nat} {c:Int} (hc:t.conflict[i]? =some c):t.cells[105+i]? =some (I c):=by
 have hi:i<8:=by have:=(List.getElem?_eq_some_iff.1 hc).1;rw[h.conflict]at this;exact this
 have e:(t.phases.flatMap Ph.cells).length=104:=by rw[aV Ph.len,h.phases]
 unfold Tb.cells
 rw[List.getElem?_append_right (by omega),e,show 105+i-104=i+1 by omega,List.getElem?_cons_succ,List.getElem?_append_left (by simp[h.conflict,hi]),List.getElem?_map,hc];rfl
def Tb.rest(t:Tb):List AV:=aJ Gr.cells t.groups::(t.conflict.map I++(aJ gQ.cells t.aI::aJ Rl.cells t.aZ::aJ Bs.cells t.bS::
  I t.extend::I t.dB::I t.start::I t.revert::I t.least::(t.bA.map I++[I t.d9,I t.share])))
omit h in
theorem bM{pre post ps:List AV} {off:Nat} (hle:pre.length<=off):setCells (pre++post) off ps=pre++setCells post (off-pre.length) ps:=by
 simp only[setCells,List.take_append,List.drop_append,List.append_assoc]
 rw[List.take_of_length_le hle,List.drop_of_length_le (by omega),show off+ps.length-pre.length=off-pre.length+ps.length by omega]
 rfl
omit h in
theorem Cu{pre post ps:List AV} {off:Nat} (hle:off+ps.length<=pre.length):setCells (pre++post) off ps=setCells pre off ps++post:=by
 simp only[setCells]
 rw[List.take_append_of_le_length (by omega),List.drop_append_of_le_length hle]
 simp
omit h in
theorem EH{l:List Int} {i:Nat} {v:Int} (hi:i<l.length):setCells (l.map I) i [I v]=(l.set i v).map I:=by
 simp only[setCells,List.length_cons,List.length_nil];rw[List.set_eq_take_append_cons_drop,if_pos hi];simp[List.map_take,List.map_drop]
omit h in
theorem eJ(c:AV) (cs ps:List AV) (k:Nat):setCells (c::cs) (k+1) ps=c::setCells cs k ps:=by
 simp only[setCells,List.take_succ_cons,List.cons_append,show k+1+ps.length=(k+ps.length)+1 by omega,List.drop_succ_cons]
theorem Tb.Ln.zM{i:Nat} (hi:i<8) (q:Ph):setCells t.cells (i*13) q.cells=({t with phases:=t.phases.set i q}:Tb).cells:=by
 obtain⟨p,hp⟩:∃p,t.phases[i]? =some p:=⟨_,List.getElem?_eq_getElem (by rw[h.phases];exact hi)⟩
 exact Tb.FK hp
theorem Tb.Ln.oH{i:Nat} (hi:i<8) (v:Int):setCells t.cells (105+i) [I v]=({t with conflict:=t.conflict.set i v}:Tb).cells:=by
 have e:(t.phases.flatMap Ph.cells).length=104:=by rw[aV Ph.len,h.phases]
 unfold Tb.cells
 rw[bM (by omega),e,show 105+i-104=i+1 by omega,eJ,Cu (by simp[h.conflict];omega),EH (by rw[h.conflict];exact hi)]
theorem Tb.Ln.uX{i:Nat} (hi:i<8) (v:Int):setCells t.cells (121+i) [I v]=({t with bA:=t.bA.set i v}:Tb).cells:=by
 have e:(t.phases.flatMap Ph.cells).length=104:=by rw[aV Ph.len,h.phases]
 unfold Tb.cells
 rw[bM (by omega),e,show 121+i-104=(i+16)+1 by omega,eJ,bM (by simp[h.conflict]),show i+16-(t.conflict.map I).length=i+8 by simp[h.conflict]]
 simp only[eJ]
 rw[Cu (by simp[h.bA];omega),EH (by rw[h.bA];exact hi)]
theorem Tb.Ln.yj(d:Option (List gQ)):setCells t.cells 113 [aJ gQ.cells d]=({t with aI:=d}:Tb).cells:=by
 have e:(t.phases.flatMap Ph.cells).length=104:=by rw[aV Ph.len,h.phases]
 have e2:(t.conflict.map I).length=8:=by simp[h.conflict]
 unfold Tb.cells
 rw[bM (by omega),e,show 113-104=8+1 by omega,eJ,bM (by omega),e2]
 rfl
theorem Tb.Ln.zN(d:Option (List Rl)):setCells t.cells 114 [aJ Rl.cells d]=({t with aZ:=d}:Tb).cells:=by
 have e:(t.phases.flatMap Ph.cells).length=104:=by rw[aV Ph.len,h.phases]
 have e2:(t.conflict.map I).length=8:=by simp[h.conflict]
 unfold Tb.cells
 rw[bM (by omega),e,show 114-104=9+1 by omega,eJ,bM (by omega),e2]
 rfl
theorem Tb.Ln.zO(d:Option (List Bs)):setCells t.cells 115 [aJ Bs.cells d]=({t with bS:=d}:Tb).cells:=by
 have e:(t.phases.flatMap Ph.cells).length=104:=by rw[aV Ph.len,h.phases]
 have e2:(t.conflict.map I).length=8:=by simp[h.conflict]
 unfold Tb.cells
 rw[bM (by omega),e,show 115-104=10+1 by omega,eJ,bM (by omega),e2]
 rfl
theorem Tb.Ln.jf(v:Int):setCells t.cells 116 [I v]=({t with extend:=v}:Tb).cells/\setCells t.cells 117 [I v]=({t with dB:=v}:Tb).cells/\setCells t.cells 118 [I v]=({t with start:=v}:Tb).cells/\
  setCells t.cells 119 [I v]=({t with revert:=v}:Tb).cells/\setCells t.cells 120 [I v]=({t with least:=v}:Tb).cells:=by
 have e:(t.phases.flatMap Ph.cells).length=104:=by rw[aV Ph.len,h.phases]
 have e2:(t.conflict.map I).length=8:=by simp[h.conflict]
 unfold Tb.cells;refine⟨?_,?_,?_,?_,?_⟩
 ·rw[bM (by omega),e,show 116-104=11+1 by omega,eJ,bM (by omega),e2];rfl
 ·rw[bM (by omega),e,show 117-104=12+1 by omega,eJ,bM (by omega),e2];rfl
 ·rw[bM (by omega),e,show 118-104=13+1 by omega,eJ,bM (by omega),e2];rfl
 ·rw[bM (by omega),e,show 119-104=14+1 by omega,eJ,bM (by omega),e2];rfl
 ·rw[bM (by omega),e,show 120-104=15+1 by omega,eJ,bM (by omega),e2];rfl
theorem Tb.Ln.uq(v:Int):setCells t.cells 129 [I v]=({t with d9:=v}:Tb).cells/\setCells t.cells 130 [I v]=({t with share:=v}:Tb).cells:=by
 have e:(t.phases.flatMap Ph.cells).length=104:=by rw[aV Ph.len,h.phases]
 have e2:(t.conflict.map I).length=8:=by simp[h.conflict]
 have e3:(t.bA.map I).length=8:=by simp[h.bA]
 unfold Tb.cells;refine⟨?_,?_⟩
 ·rw[bM (by omega),e,show 129-104=24+1 by omega,eJ,bM (by omega),e2]
  simp only[Nat.reduceSub,eJ]
  rw[bM (by omega),e3];rfl
 ·rw[bM (by omega),e,show 130-104=25+1 by omega,eJ,bM (by omega),e2]
  simp only[Nat.reduceSub,eJ]
  rw[bM (by omega),e3];rfl
end
def bN(groups g:Nat):Nat:=8-(groups-1-g)
def dm(p m:Nat):List Int:=(List.range m).map fun(j:Nat)=>((p+j:Nat):Int)
def cnt(l:Option (List Int)) (g k:Nat) (r0:Nat):Nat:=
 let n:=(bG l (1+2*g+k) 3).toNat
 if k=1/\n=0/\r0=0 then 1 else n
def bh(n p lim:Nat):Nat:=min n (lim-p)
def bn(l:Option (List Int)) (groups:Nat):Nat->List Gr×Nat
 |0=>([],0)
 |g+1=>
  let q:=bn l groups g
  let m0:=bh (cnt l g 0 0) q.2 (bN groups g)
  let m1:=bh (cnt l g 1 m0) (q.2+m0) (bN groups g)
  (q.1++[⟨bw (dm q.2 m0),bw (dm (q.2+m0) m1)⟩],q.2+m0+m1)
def cX(l:Option (List Int)):Nat:=(1+bG l 0 3).toNat
def rows.Spec(C:bt) (f:Nat):Prop:=∀(t:Tb) (l:Option (List Int)),t.Ok->t.groups=none->C.p f [t.cells] [none,some (aJ aG l)] (I ((bn l (cX l) (cX l)).2:Nat)) none [({t with groups:=some (bn l (cX l) (cX l)).1}:Tb).cells]
theorem Tb.len'{t:Tb} (h1:t.phases.length=8) (h2:t.conflict.length=8) (h3:t.bA.length=8):t.cells.length=131:=by
 simp[Tb.cells,aV Ph.len,h1,h2,h3]
theorem Tb.yl{t:Tb} (h:t.phases.length=8):t.cells[104]? =some (aJ Gr.cells t.groups):=by
 simp[Tb.cells,List.getElem?_append,aV Ph.len,h]
theorem Tb.ym{t:Tb} (h:t.phases.length=8) (g:Option (List Gr)):t.cells.take 104++(aJ Gr.cells g::t.cells.drop 105)=({t with groups:=g}:Tb).cells:=by
 have e:(t.phases.flatMap Ph.cells).length=104:=by rw[aV Ph.len,h]
 simp only[Tb.cells]
 rw[List.take_append_of_le_length (by omega),List.take_of_length_le (by omega),List.drop_append,List.drop_of_length_le (by omega),e]
 rfl
theorem ur{C:bt} {base:Nat}:∀{l:List CO} {i:Nat} {s:S} {K:S->Prop},iT C base i l K s->∃s',K s'/\∀K':S->Prop,K' s'->iT C base i l K' s
 |[],i,s,K,h=>⟨s,h,fun _ h=>h⟩
 |o::l,i,s,K,h=>by
  rw[j9]at h;obtain⟨v,d,hd,hk',_⟩:=d7 h;obtain⟨s',h1,h2⟩:=ur hk'
  refine⟨s',h1,fun K' hK=>?_⟩
  rw[j9];exact hd.2 s .refl _ (h2 K' hK)
theorem P6{C:bt} {id:Nat} {o:bH} {K:SV->S->Prop} {s:S} (h:bD C id o K s):∃v s',K v s'/\∀K':SV->S->Prop,K' v s'->bD C id o K' s:=by
 obtain⟨v,d,hK,hok,hU,hfp,hs⟩:=pX h
 exact⟨v,_,hK,fun K' hk=>hs s .refl _ hk⟩
theorem L9{C:bt} {id:Nat} {o:Bv} {K:SV->S->Prop} {X:AV->S->Prop} {s:S} (h:bu C id o K X s):
  (∃v s',K v s'/\∀(K':SV->S->Prop) (X':AV->S->Prop),K' v s'->bu C id o K' X' s)\/∃p s',X p s'/\∀(K':SV->S->Prop) (X':AV->S->Prop),X' p s'->bu C id o K' X' s:=by
 have so:∀{c:bH},bD C id c K s->(∀(K':SV->S->Prop) (X':AV->S->Prop),bD C id c K' s->bu C id o K' X' s)->(∃v s',K v s'/\∀(K':SV->S->Prop) (X':AV->S->Prop),K' v s'->bu C id o K' X' s)\/∃p s',X p s'/\∀(K':SV->S->Prop) (X':AV->S->Prop),X' p s'->bu C id o K' X' s:=by
  intro c h g;obtain⟨v,s',h1,h2⟩:=P6 h
  exact .inl ⟨v,s',h1,fun K' X' hk=>g K' X' (h2 K' hk)⟩
 cases o with
 |o c=>exact so h fun _ _ h=>h
 |call f args=>
  simp only[bu]at h
  rcases h with h|h
  ·exact so h fun _ _ h=>.inl h
  ·obtain⟨as,has,h⟩:=af h
   rcases h with⟨cs,h1,h2⟩|⟨p,h1,h2⟩|⟨rows,e,z,h1,h3,h2⟩
   ·exact .inl ⟨_,_,h2,fun K' X' hk=>by simp only[bu,has];exact .inr (.inl ⟨cs,h1,hk⟩)⟩
   ·exact .inr ⟨_,_,h2,fun K' X' hk=>by simp only[bu,has];exact .inr (.inr (.inl ⟨p,h1,hk⟩))⟩
   ·exact .inl ⟨_,_,h2,fun K' X' hk=>by simp only[bu,has];exact .inr (.inr (.inr ⟨rows,e,z,h1,h3,hk⟩))⟩
 |MZ e z bytes y=>
  obtain⟨a,ha,h⟩:=af h;obtain⟨rows,hr,h1,h3,h2⟩:=af h
  exact .inl ⟨_,_,h2,fun K' X' hk=>by simp only[bu,ha,hr,az];exact⟨h1,h3,hk⟩⟩
 |aK f args=>
  simp only[bu]at h
  rcases h with h|h
  ·exact so h fun _ _ h=>.inl h
  ·obtain⟨p,hp,hn,h⟩:=af h
   obtain⟨css,hcs,h⟩:=af h
   rcases h with⟨v,css',h1,h2⟩|⟨tg,r,css',tg',h1,h2⟩
   ·exact .inr ⟨_,_,h2,fun K' X' hk=>by simp only[bu,hp];exact .inr ⟨hn,by rw[hcs];exact .inl ⟨v,css',h1,hk⟩⟩⟩
   ·obtain⟨qo,hq,h2⟩:=af h2
    exact .inl ⟨_,_,h2,fun K' X' hk=>by simp only[bu,hp];exact .inr ⟨hn,by rw[hcs];exact .inr ⟨tg,r,css',tg',h1,by rw[hq];exact hk⟩⟩⟩
 |ee b g args=>
  simp only[bu]at h;split at h
  ·rename_i f as bs hg
   obtain⟨p,hp,hn,h⟩:=af h;obtain⟨css,hcs,h⟩:=af h
   rcases h with⟨r,fr,css',h1,h2⟩|⟨v,css',h1,h2⟩|⟨tg,r,css',tg',h1,h2⟩
   ·exact .inl ⟨_,_,h2,fun K' X' hk=>by simp only[bu,hg,hp];exact⟨hn,by rw[hcs];exact .inl ⟨r,fr,css',h1,hk⟩⟩⟩
   ·exact .inr ⟨_,_,h2,fun K' X' hk=>by simp only[bu,hg,hp];exact⟨hn,by rw[hcs];exact .inr (.inl ⟨v,css',h1,hk⟩)⟩⟩
   ·obtain⟨qo,hq,h2⟩:=af h2
    exact .inl ⟨_,_,h2,fun K' X' hk=>by simp only[bu,hg,hp];exact⟨hn,by rw[hcs];exact .inr (.inr ⟨tg,r,css',tg',h1,by rw[hq];exact hk⟩)⟩⟩
  ·rename_i hg
   refine so h fun K' X' h=>?_
   simp only[bu];revert h
   cases hv:bC s g with
   |none=>exact fun h=>h
   |some v=>cases v<;>first|exact fun h=>h|exact(hg _ _ _ hv).elim
 |QZ f caps=>obtain⟨p,hp,h⟩:=af h;exact .inl ⟨_,_,h,fun K' X' hk=>by simp only[bu,hp];exact hk⟩
 |Gm x=>obtain⟨a,ha,h1,h2⟩:=af h;exact .inr ⟨_,_,h2,fun K' X' hk=>by simp only[bu,ha];exact⟨h1,hk⟩⟩
 |Gn t x=>obtain⟨a,ha,h1,h2⟩:=af h;exact .inl ⟨_,_,h2,fun K' X' hk=>by simp only[bu,ha];exact⟨h1,hk⟩⟩
 |Mx t z x=>
  obtain⟨a,ha,h⟩:=af h;obtain⟨v,hv,h⟩:=af h
  exact .inl ⟨_,_,h,fun K' X' hk=>by simp only[bu,ha,az,hv];exact hk⟩
 |Qx neg x=>
  obtain⟨a,ha,h⟩:=af h;obtain⟨v,hv,h⟩:=af h
  exact .inl ⟨_,_,h,fun K' X' hk=>by simp only[bu,ha,az,hv];exact hk⟩
 |JE neg x=>
  obtain⟨a,ha,h⟩:=af h;obtain⟨v,hv,h⟩:=af h
  exact .inl ⟨_,_,h,fun K' X' hk=>by simp only[bu,ha,az,hv];exact hk⟩
 |Qy e bytes l c=>
  obtain⟨a,ha,h⟩:=af h;obtain⟨l',hl,h⟩:=af h;obtain⟨b,hb,h⟩:=af h;obtain⟨c',hc,h1,h⟩:=af h
  exact .inl ⟨_,_,h,fun K' X' hk=>by simp only[bu,ha,az,hl,hb,hc];exact⟨h1,hk⟩⟩
 |Qz e x y=>
  obtain⟨p,hp,h⟩:=af h
  cases p<;>try(exact h.elim)
  obtain⟨b,hb,h⟩:=af h;obtain⟨ys,hy,h1,h2,h⟩:=af h
  exact .inl ⟨_,_,h,fun K' X' hk=>by simp only[bu,hp,hb,az,hy];exact⟨h1,h2,hk⟩⟩
 |E4 x=>obtain⟨p,hp,h⟩:=af h;cases p<;>first|exact h.elim|exact .inl ⟨_,_,h,fun K' X' hk=>by simp only[bu,hp];exact hk⟩
 |rJ x=>
  obtain⟨p,hp,h⟩:=af h
  cases p<;>try(exact h.elim)
  rename_i k ps
  match k,hp,h with
  |0,hp,h=>exact .inl ⟨_,_,h,fun K' X' hk=>by simp only[bu,hp];exact hk⟩
  |k+1,_,h=>exact h.elim
 |QB x v=>
  obtain⟨p,hp,h⟩:=af h
  cases p<;>try(exact h.elim)
  rename_i b o
  match o,hp,h with
  |0,hp,h=>
   obtain⟨q,hq,h⟩:=af h
   cases q<;>try(exact h.elim)
   rename_i k ps
   match k,hq,h with
   |0,hq,h=>
    obtain⟨y,hy,h1,h⟩:=af h
    exact .inl ⟨_,_,h,fun K' X' hk=>by simp only[bu,hp,hq,az,hy];exact⟨h1,hk⟩⟩
   |k+1,_,h=>exact h.elim
  |o+1,_,h=>exact h.elim
 |Ak xs=>obtain⟨p,hp,h⟩:=af h;exact .inl ⟨_,_,h,fun K' X' hk=>by simp only[bu,hp];exact hk⟩
 |JF x i=>
  obtain⟨p,hp,h⟩:=af h
  cases p<;>try(exact h.elim)
  rename_i k ps
  match k,hp,h with
  |1,hp,h=>
   obtain⟨a,ha,h⟩:=af h;obtain⟨j,hj,h1,h⟩:=af h
   exact .inl ⟨_,_,h,fun K' X' hk=>by simp only[bu,hp,ha,az,hj];exact⟨h1,hk⟩⟩
  |0,_,h=>exact h.elim
  |k+2,_,h=>exact h.elim
 |JG x=>
  obtain⟨p,hp,h⟩:=af h
  cases p<;>try(exact h.elim)
  rename_i k ps
  match k,hp,h with
  |1,hp,h=>exact .inl ⟨_,_,h,fun K' X' hk=>by simp only[bu,hp];exact hk⟩
  |0,_,h=>exact h.elim
  |k+2,_,h=>exact h.elim
 |zc g args=>
  obtain⟨a,ha,h⟩:=af h
  cases a<;>try(exact h.elim)
  rename_i fn x y
  cases fn<;>try(exact h.elim)
  match x,y,ha,h with
  |[],[],ha,h=>
   obtain⟨p,hp,h1,h⟩:=af h;obtain⟨css,hcs,j,o,b,h2,h3,h⟩:=af h
   exact .inl ⟨_,_,h,fun K' X' hk=>by simp only[bu,ha,az,hp];exact⟨h1,by rw[hcs];exact⟨j,o,b,h2,h3,hk⟩⟩⟩
  |_::_,_,_,h=>exact h.elim
  |[],_::_,_,h=>exact h.elim
theorem uu{C:bt} {base:Nat}:∀{l:List XO} {i:Nat} {s:S} {K:S->Prop} {X:AV->S->Prop},dZ C base i l K X s->
  (∃s',K s'/\∀(K':S->Prop) (X':AV->S->Prop),K' s'->dZ C base i l K' X' s)\/∃p s',X p s'/\∀(K':S->Prop) (X':AV->S->Prop),X' p s'->dZ C base i l K' X' s
 |[],i,s,K,X,h=>.inl ⟨s,h,fun _ _ h=>h⟩
 |o::l,i,s,K,X,h=>by
  have go:∀{y:(S->Prop)->(AV->S->Prop)->Prop},((∃s',K s'/\∀(K':S->Prop) (X':AV->S->Prop),K' s'->y K' X')\/∃p s',X p s'/\∀(K':S->Prop) (X':AV->S->Prop),X' p s'->y K' X')->(∀K' X',y K' X'->dZ C base i (o::l) K' X' s)->
    (∃s',K s'/\∀(K':S->Prop) (X':AV->S->Prop),K' s'->dZ C base i (o::l) K' X' s)\/∃p s',X p s'/\∀(K':S->Prop) (X':AV->S->Prop),X' p s'->dZ C base i (o::l) K' X' s:=by
   intro y h g
   rcases h with⟨s',h1,h2⟩|⟨p,s',h1,h2⟩
   ·exact .inl ⟨s',h1,fun K' X' hk=>g _ _ (h2 K' X' hk)⟩
   ·exact .inr ⟨p,s',h1,fun K' X' hk=>g _ _ (h2 K' X' hk)⟩
  have run:bu C (base+i) o.op (fun v s'=>dZ C base (i+1) l K X (s'.put o.dst v)) X s->(∃s',K s'/\∀(K':S->Prop) (X':AV->S->Prop),K' s'->bu C (base+i) o.op (fun v s'=>dZ C base (i+1) l K' X' (s'.put o.dst v)) X' s)\/
    ∃p s',X p s'/\∀(K':S->Prop) (X':AV->S->Prop),X' p s'->bu C (base+i) o.op (fun v s'=>dZ C base (i+1) l K' X' (s'.put o.dst v)) X' s:=by
   intro h
   rcases L9 h with⟨v,s',h1,h2⟩|⟨p,s',h1,h2⟩
   ·rcases uu h1 with⟨s2,k1,k2⟩|⟨p,s2,k1,k2⟩
    ·exact .inl ⟨s2,k1,fun K' X' hk=>h2 _ _ (k2 K' X' hk)⟩
    ·exact .inr ⟨p,s2,k1,fun K' X' hk=>h2 _ _ (k2 K' X' hk)⟩
   ·exact .inr ⟨p,s',h1,fun K' X' hk=>h2 _ _ hk⟩
  unfold dZ dQ at h
  cases hg:o.g with
  |none=>
   simp only[hg]at h
   exact go (run h) fun K' X' h=>by unfold dZ dQ;simp only[hg];exact h
  |some q=>
   obtain⟨t,want⟩:=q;simp only[hg]at h;split at h
   ·rename_i b q2 hl
    by_cases hb:b=want
    ·exact go (run (h.1 hb)) fun K' X' h=>by
      unfold dZ dQ;simp only[hg,hl]
      exact⟨fun _=>h,fun e=>by subst hb;cases b<;>cases e⟩
    ·exact go (uu (h.2 (by cases b<;>cases want<;>simp_all))) fun K' X' h=>by
      unfold dZ dQ;simp only[hg,hl]
      exact⟨fun e=>absurd e hb,fun _=>h⟩
   ·rename_i hl
    exact go (uu h) fun K' X' h=>by unfold dZ dQ;simp only[hg,hl];exact h
   ·exact h.elim
theorem MQ{C:bt}:∀{c:aX} {Q:Exit->S->Prop} {s:S},aw C c Q s->∃e s',Q e s'/\∀Q':Exit->S->Prop,Q' e s'->aw C c Q' s:=by
 intro c
 induction c with
 |skip=>intro Q s h;exact⟨_,_,h,fun _ h=>h⟩
 |zf ops=>
  intro Q s h;obtain⟨s',h1,h2⟩:=ur h
  exact⟨_,_,h1,fun Q' hq=>h2 _ hq⟩
 |seq a b iha ihb=>
  intro Q s h;obtain⟨e,s',h1,h2⟩:=iha h
  cases e with
  |normal=>
   obtain⟨e,s'',h3,h4⟩:=ihb h1
   exact⟨e,s'',h3,fun Q' hq=>h2 _ (h4 _ hq)⟩
  |exit i=>exact⟨_,_,h1,fun Q' hq=>h2 _ hq⟩
  |ret=>exact⟨_,_,h1,fun Q' hq=>h2 _ hq⟩
  |_=>exact⟨_,_,h1,fun Q' hq=>h2 _ hq⟩
 |join a b iha ihb=>
  intro Q s h;obtain⟨e,s',h1,h2⟩:=iha h
  cases e with
  |normal=>
   obtain⟨s1,hF,up⟩:=rj h1;obtain⟨e,s'',h3,h4⟩:=ihb hF
   exact⟨e,s'',h3,fun Q' hq=>h2 _ (up _ (h4 _ hq))⟩
  |exit i=>exact⟨_,_,h1,fun Q' hq=>h2 _ hq⟩
  |ret=>exact⟨_,_,h1,fun Q' hq=>h2 _ hq⟩
  |_=>exact⟨_,_,h1,fun Q' hq=>h2 _ hq⟩
 |cond c a b iha ihb=>
  intro Q s h;simp only[aw]at h⊢;obtain⟨v,hv,hw⟩:=af h
  cases v<;>try(exact hw.elim)
  rename_i t
  cases t with
  |true=>
   obtain⟨e,s',h1,h2⟩:=iha (hw.1 rfl)
   exact⟨e,s',h1,fun Q' hq=>by rw[hv];exact⟨fun _=>h2 _ hq,fun h=>by cases h⟩⟩
  |false=>
   obtain⟨e,s',h1,h2⟩:=ihb (hw.2 rfl)
   exact⟨e,s',h1,fun Q' hq=>by rw[hv];exact⟨fun h=>(by cases h),fun _=>h2 _ hq⟩⟩
 |label l=>intro Q s h;exact⟨_,_,h,fun _ h=>h⟩
 |goto l=>intro Q s h;exact⟨_,_,h,fun _ h=>h⟩
 |scope l c r ihc ihr=>
  intro Q s h;obtain⟨e,s',h1,h2⟩:=ihc h
  cases e with
  |goto l'=>
   obtain⟨hl,h1⟩:=h1;obtain⟨e,s'',h3,h4⟩:=ihr h1
   cases e with
   |goto l2=>exact h3.elim
   |_=>exact⟨_,s'',h3,fun Q' hq=>h2 (lY l (aw C r (vX Q')) Q') ⟨hl,h4 (vX Q') hq⟩⟩
  |_=>exact⟨_,_,h1,fun Q' hq=>h2 (lY l (aw C r (vX Q')) Q') hq⟩
 |block id c ih=>
  intro Q s h;obtain⟨e,s',h1,h2⟩:=ih h
  cases e with
  |exit i=>
   simp only[gn]at h1
   by_cases hi:i=id
   ·rw[if_pos hi]at h1
    exact⟨_,_,h1,fun Q' hq=>h2 _ (by simp only[gn,if_pos hi];exact hq)⟩
   ·rw[if_neg hi]at h1
    exact⟨_,_,h1,fun Q' hq=>h2 _ (by simp only[gn,if_neg hi];exact hq)⟩
  |_=>exact⟨_,_,h1,fun Q' hq=>h2 _ hq⟩
 |loop c ih=>
  have key:∀(n:Nat) {Q:Exit->S->Prop} {s:S},mN (aw C c) Q n s->∃e s',Q e s'/\∀Q':Exit->S->Prop,Q' e s'->mN (aw C c) Q' n s:=by
   intro n
   induction n with
   |zero=>intro Q s h;exact h.elim
   |succ n ihn=>
    intro Q s h;obtain⟨e,s',h1,h2⟩:=ih h
    cases e with
    |normal=>
     obtain⟨s1,hF,up⟩:=rj h1;obtain⟨e,s'',h3,h4⟩:=ihn hF
     exact⟨e,s'',h3,fun Q' hq=>h2 _ (up _ (h4 _ hq))⟩
    |exit i=>exact⟨_,_,h1,fun Q' hq=>h2 _ hq⟩
    |ret=>exact⟨_,_,h1,fun Q' hq=>h2 _ hq⟩
    |_=>exact⟨_,_,h1,fun Q' hq=>h2 _ hq⟩
  intro Q s h;obtain⟨s1,⟨n,hF⟩,up⟩:=rj h;obtain⟨e,s'',h3,h4⟩:=key n hF
  exact⟨e,s'',h3,fun Q' hq=>up _ ⟨n,h4 _ hq⟩⟩
 |exit id=>intro Q s h;exact⟨_,_,h,fun _ h=>h⟩
 |ret=>intro Q s h;exact⟨_,_,h,fun _ h=>h⟩
 |aF ops=>
  intro Q s h
  rcases uu h with⟨s',h1,h2⟩|⟨p,s',h1,h2⟩
  ·exact⟨_,_,h1,fun Q' hq=>h2 _ _ hq⟩
  ·exact⟨_,_,h1,fun Q' hq=>h2 _ _ hq⟩
 |uC ops dr=>
  intro Q s h;obtain⟨ids,hids,h⟩:=h;obtain⟨css,hcss,ro,hd,h⟩:=af h;obtain⟨s',h1,h2⟩:=ur h
  exact⟨_,_,h1,fun Q' hq=>⟨ids,hids,by rw[hcss];exact⟨ro,hd,h2 _ hq⟩⟩⟩
 |vW ops dr k dep=>
  intro Q s h
  rcases h with⟨ids,hids,h⟩|⟨hd,h⟩
  ·obtain⟨css,hcss,ro,hd,h⟩:=af h
   obtain⟨s',h1,h2⟩:=ur h
   exact⟨_,_,h1,fun Q' hq=>.inl ⟨ids,hids,by rw[hcss];exact⟨ro,hd,h2 _ hq⟩⟩⟩
  ·obtain⟨s',⟨d,p,k1,k2,k3⟩,h2⟩:=ur h
   exact⟨_,_,k3,fun Q' hq=>.inr ⟨hd,h2 _ ⟨d,p,k1,k2,hq⟩⟩⟩
 |yW g ps wr as bd iha ihb=>
  intro Q s h;simp only[aw]at h;obtain⟨gv,hgv,xs,h1,h2,F,h3,h4,h5,h6⟩:=af h
  have mono:∀{F F':S->Prop} {Q:Exit->S->Prop} {t:S},(∀s,F s->F' s)->aw C as (tH (aw C bd (D0 wr F Q))) t->aw C as (tH (aw C bd (D0 wr F' Q))) t:=by
   intro F F' Q t hF h
   refine gL (fun e s ha=>?_) h
   cases e<;>first|exact ha.elim|skip
   refine gL (fun e s hb=>?_) ha
   cases e<;>first|exact kg hF hb|exact hb
  have key:∀n i s',xs.length-i=n->i<=xs.length->F i s'->∃e s'',Q e s''/\∀Q':Exit->S->Prop,Q' e s''->∃F':Nat->S->Prop,F' i s'/\(∀j t,F' j t->i<=j/\aM t g=some gv)/\
    (∀j x t,xs[j]? =some x->F' j t->aw C as (tH (aw C bd (D0 wr (F' (j+1)) Q'))) (pN ps x t))/\∀t,F' xs.length t->Q' .normal t:=by
   intro n
   induction n with
   |zero=>
    intro i s' hn hi hF
    have hi:i=xs.length:=by omega
    subst hi
    exact⟨.normal,s',h6 s' hF,fun Q' hq=>⟨fun j t=>j=xs.length/\t=s',⟨rfl,rfl⟩,fun j t ⟨e,e'⟩=>by subst e;subst e';exact⟨Nat.le_refl _,h4 _ _ hF⟩,
     fun j x t hx ⟨e,_⟩=>by subst e;simp at hx,fun t ⟨_,e⟩=>by subst e;exact hq⟩⟩
   |succ n ih=>
    intro i s' hn hi hF
    have hlt:i<xs.length:=by omega
    have hx:xs[i]? =some xs[i]:=by simp[hlt]
    obtain⟨e1,s1,k1,k2⟩:=iha (h5 i _ s' hx hF)
    cases e1<;>try exact k1.elim
    obtain⟨e2,s2,k3,k4⟩:=ihb k1
    have stop:∀(e:Exit) (s'':S),Q e s''->(∀(F':S->Prop) (Q':Exit->S->Prop),Q' e s''->D0 wr F' Q' e2 s2)->∃e s'',Q e s''/\∀Q':Exit->S->Prop,Q' e s''->∃F':Nat->S->Prop,F' i s'/\(∀j t,F' j t->i<=j/\aM t g=some gv)/\
      (∀j x t,xs[j]? =some x->F' j t->aw C as (tH (aw C bd (D0 wr (F' (j+1)) Q'))) (pN ps x t))/\∀t,F' xs.length t->Q' .normal t:=by
     intro e s'' hq hr
     refine⟨e,s'',hq,fun Q' hq'=>⟨fun j t=>j=i/\t=s',⟨rfl,rfl⟩,fun j t ⟨e,e'⟩=>by subst e;subst e';exact⟨Nat.le_refl _,h4 _ _ hF⟩,fun j x t hx' ⟨e,e'⟩=>?_,fun t ⟨e,_⟩=>by omega⟩⟩
     subst e;subst e';rw[hx]at hx';cases hx';exact k2 _ (k4 _ (hr _ _ hq'))
    cases e2 with
    |normal=>
     obtain⟨s3,hs3⟩:∃s3,F (i+1) s3/\(∀F':S->Prop,F' s3->Eng.down F' (sE wr s2)):=by
      exact rj (show Eng.down (F (i+1)) (sE wr s2)from k3)
     obtain⟨e,s'',hq,hre⟩:=ih (i+1) s3 (by omega) (by omega) hs3.1
     refine⟨e,s'',hq,fun Q' hq'=>?_⟩
     obtain⟨F'',g1,g2,g3,g4⟩:=hre Q' hq'
     refine⟨fun j t=>(j=i/\t=s')\/F'' j t,.inl ⟨rfl,rfl⟩,fun j t ht=>?_,fun j x t hx' ht=>?_,fun t ht=>?_⟩
     ·rcases ht with⟨rfl,rfl⟩|ht
      ·exact⟨Nat.le_refl _,h4 _ _ hF⟩
      ·exact⟨by have:=(g2 j t ht).1;omega,(g2 j t ht).2⟩
     ·rcases ht with⟨rfl,rfl⟩|ht
      ·rw[hx]at hx';cases hx'
       refine k2 _ (k4 _ (show Eng.down _ _ from ?_))
       exact hs3.2 _ (.inr g1)
      ·exact mono (fun _ h=>.inr h) (g3 j x t hx' ht)
     ·rcases ht with⟨e,_⟩|ht
      ·omega
      ·exact g4 t ht
    |ret=>exact stop .ret _ k3 fun _ _ h=>h
    |exit id=>exact stop (.exit id) _ k3 fun _ _ h=>h
    |_=>exact k3.elim
  obtain⟨s0,h0⟩:∃s0,F 0 s0/\(∀F':S->Prop,F' s0->Eng.down F' s):=rj h3
  obtain⟨e,s'',hq,hre⟩:=key _ 0 s0 rfl (Nat.zero_le _) h0.1
  refine⟨e,s'',hq,fun Q' hq'=>?_⟩
  obtain⟨F',g1,g2,g3,g4⟩:=hre Q' hq';simp only[aw,hgv]
  refine⟨xs,h1,h2,F',?_,fun j t ht=>(g2 j t ht).2,g3,g4⟩
  exact h0.2 _ g1
theorem bp{C:bt} {c:aX} {Q:Exit->S->Prop} {s:S} (h:aw C c (jE (aw C (.loop c) Q) Q) s):aw C (.loop c) Q s:=by
 obtain⟨e,s',h1,h2⟩:=MQ h
 cases e with
 |normal=>
  obtain⟨s1,⟨n,hF⟩,up⟩:=rj h1;exact iJ ⟨n+1,h2 _ (up _ hF)⟩
 |exit i=>exact iJ ⟨1,h2 _ h1⟩
 |ret=>exact iJ ⟨1,h2 _ h1⟩
 |_=>exact iJ ⟨1,h2 _ h1⟩
theorem jz(p i:Nat):dm p (i+1)=dm p i++[((p+i:Nat):Int)]:=by simp[dm,List.range_succ]
theorem rC(l:Option (List Int)) (G:Nat):∀g,(bn l G g).2<=8
 |0=>by simp[bn]
 |g+1=>by
  have:=rC l G g
  simp only[bn,bh,bN];omega
theorem oI(l:Option (List Int)) (G:Nat):∀g,(bn l G g).1.length=g
 |0=>by simp[bn]
 |g+1=>by
  have:=oI l G g
  simp only[bn,List.length_append,List.length_cons,List.length_nil];omega
def Cut{α:Type} (ex:Exit) (st:α->S) (J:α->Prop) (e:Exit) (s:S):Prop:=e=ex/\∃y,J y/\Le s (st y)
theorem cu{α:Type} {ex:Exit} {st:α->S} {J:α->Prop} {s:S} (y:α) (hy:J y) (hle:Le s (st y)):Cut ex st J ex s:=⟨rfl,y,hy,hle⟩
theorem iu{C:bt} {c:aX} {Q:Exit->S->Prop} {s:S} {F:S->Prop} {α:Type} (ex:Exit) (st:α->S) (J:α->Prop) (hQ:∀s',Q ex s'=down F s') (h1:aw C c (Cut ex st J) s) (h2:∀y,J y->F (st y)):aw C c Q s:=by
 refine gL ?_ h1
 rintro e s' ⟨rfl,y,hy,hle⟩
 rw[hQ];exact qS hle (h2 y hy)
theorem Ma:IntKind.i64.wrap (0+1)=1:=by decide
theorem AZ:IntKind.i64.wrap (1+1)=2:=by decide
theorem aR{α:Type} (f:α->List AV):aJ f none=.bI:=rfl
theorem aO{α:Type} (f:α->List AV) (l:List α):aJ f (some l)=.sl (l.map f):=rfl
section
variable{P:Program} (hm:P.follows .mixedOrders=true) {f:Nat}
include hm
theorem rows.ok{fF e eR:Nat} (hc:dY P f=some (nv fF e eR)) (hF:from.Spec (Pure P) fF):rows.Spec (Pure P) f:=by
 intro t l ht hg0
 have hl:=Tb.len ht
 have hp:=Tb.whole ht
 refine fK hm hc (by show 2<=78;decide) rfl (by simp) (ay (keep:=[3,5]) (i:=0) ?_)
 try simp only[I,B,D,RX,↓KW,Nat.reduceBEq,Nat.reduceAdd,Nat.reduceLeDiff,Int.reduceNe,Int.reduceBEq,Int.reduceEq,reduceCtorEq,Nat.reduceMul,Int.reduceLT,Int.reduceLE,Int.reduceToNat,nv,Z.H]
 have hgr:=aL l 0 (n:=3) (by decide) (by decide)
 refine aj (hF _ _ _ (by decide)) ?_
 try simp only[I,B,D,RX,↓KW,Nat.reduceBEq,Nat.reduceAdd,Nat.reduceLeDiff,Int.reduceNe,Int.reduceBEq,Int.reduceEq,reduceCtorEq,Nat.reduceMul,Int.reduceLT,Int.reduceLE,Int.reduceToNat]
 have hgn:IntKind.i64.wrap (1+bG l 0 3)=(cX l:Nat):=by
  rw[bq (by omega) (by omega),cX];omega
 have hg3:1<=cX l/\cX l<=3:=by unfold cX;omega
 rw[hgn];generalize cX l=G at*
 refine aP (fun g:Nat=>(⟨[(7,.dat (I g) none),(5,.dat (I G) none),(1,.dat (aJ aG l) none),(6,.dat (I (bn l G g).2) none),(0,.ptr 0 0)],[(0,⟨({t with groups:=bw (bn l G g).1}:Tb).cells,if(bn l G g).1=[]then[]else[(104,0)]⟩)],bW (bn l G g).1 0 eR,400⟩:S)) (fun g=>G-g) (fun g=>g<=G) ?_ 0 (by omega) ?_
 ·intro g hg A back
  have hw:=aN (k:=g) (by omega)
  have hn2:bn l G (g+1)=((bn l G g).1++[⟨bw (dm (bn l G g).2 (bh (cnt l g 0 0) (bn l G g).2 (bN G g))),bw (dm ((bn l G g).2+bh (cnt l g 0 0) (bn l G g).2 (bN G g)) (bh (cnt l g 1 (bh (cnt l g 0 0) (bn l G g).2 (bN G g))) ((bn l G g).2+bh (cnt l g 0 0) (bn l G g).2 (bN G g)) (bN G g)))⟩],(bn l G g).2+bh (cnt l g 0 0) (bn l G g).2 (bN G g)+bh (cnt l g 1 (bh (cnt l g 0 0) (bn l G g).2 (bN G g))) ((bn l G g).2+bh (cnt l g 0 0) (bn l G g).2 (bN G g)) (bN G g)):=rfl
  have hp8:(bn l G g).2<=8:=rC l G g
  have hgl:(bn l G g).1.length=g:=oI l G g
  generalize hR:bn l G g=R at*;obtain⟨gs,p⟩:=R;simp only at hn2 hp8 hgl
  have hc0:bG l (1+2*(g:Int)+0) 3=(cnt l g 0 0:Nat):=by
   have:=aL l (1+2*(g:Int)+0) (n:=3) (by decide) (by decide)
   have hc:cnt l g 0 0=(bG l (1+2*(g:Int)+0) 3).toNat:=by simp[cnt]
   rw[hc];omega
  have hw1:IntKind.i64.wrap (IntKind.i64.wrap (1+IntKind.i64.wrap (2*(g:Int)))+0)=1+2*(g:Int)+0:=by
   rw[bq (n:=2*(g:Int)) (by omega) (by omega),bq (n:=1+2*(g:Int)) (by omega) (by omega),bq (by omega) (by omega)]
  have hw2:IntKind.i64.wrap (IntKind.i64.wrap (1+IntKind.i64.wrap (2*(g:Int)))+1)=1+2*(g:Int)+1:=by
   rw[bq (n:=2*(g:Int)) (by omega) (by omega),bq (n:=1+2*(g:Int)) (by omega) (by omega),bq (by omega) (by omega)]
  have hlim:IntKind.i64.wrap (8-IntKind.i64.wrap (IntKind.i64.wrap ((G:Int)-1)-(g:Int)))=if g<G then((bN G g:Nat):Int)else(8-((G:Int)-1-g):Int):=by
   rw[bq (n:=(G:Int)-1) (by omega) (by omega),bq (n:=(G:Int)-1-g) (by omega) (by omega),bq (by omega) (by omega)]
   split<;>simp[bN]<;>omega
  by_cases hgs:gs=[]
  all_goals
   try simp only[I,B,D,RX,↓KW,Nat.reduceBEq,Nat.reduceAdd,Nat.reduceLeDiff,Int.reduceNe,Int.reduceBEq,Int.reduceEq,reduceCtorEq,Nat.reduceMul,Int.reduceLT,Int.reduceLE,Int.reduceToNat,hgs,bW,bw]
   refine ax (fun h=>?_) (fun h=>?_)<;>try simp only[I,B,D,RX,↓KW,Nat.reduceBEq,Nat.reduceAdd,Nat.reduceLeDiff,Int.reduceNe,Int.reduceBEq,Int.reduceEq,reduceCtorEq,Nat.reduceMul,Int.reduceLT,Int.reduceLE,Int.reduceToNat,hgs,bW,bw,h]
   ·have hlt:g<G:=by have:=of_decide_eq_true h;omega
    rw[if_pos hlt]at hlim;generalize hc0':cnt l g 0 0=n0 at*
    refine iu (.exit 2) (fun _:Unit=>(⟨[(6,.dat (I (p+bh n0 p (bN G g)+bh (cnt l g 1 (bh n0 p (bN G g))) (p+bh n0 p (bN G g)) (bN G g):Nat)) none),(5,.dat (I G) none),(7,.dat (I g) none),(8,.ptr 403 0),(1,.dat (aJ aG l) none),(0,.ptr 0 0)],[(403,⟨[aJ aG (bw (dm p (bh n0 p (bN G g)))),aJ aG (bw (dm (p+bh n0 p (bN G g)) (bh (cnt l g 1 (bh n0 p (bN G g))) (p+bh n0 p (bN G g)) (bN G g))))],[]⟩),(0,⟨({t with groups:=bw gs}:Tb).cells,if gs=[]then[]else[(104,0)]⟩)],bW gs 0 eR,1000⟩:S)) (fun _=>True) (fun _=>rfl) ?_ ?_
    ·refine bp ?_
     try simp only[I,B,D,RX,↓KW,Nat.reduceBEq,Nat.reduceAdd,Nat.reduceLeDiff,Int.reduceNe,Int.reduceBEq,Int.reduceEq,reduceCtorEq,Nat.reduceMul,Int.reduceLT,Int.reduceLE,Int.reduceToNat,hgs]
     refine aj (hF _ _ _ (by decide)) ?_
     try simp only[I,B,D,RX,↓KW,Nat.reduceBEq,Nat.reduceAdd,Nat.reduceLeDiff,Int.reduceNe,Int.reduceBEq,Int.reduceEq,reduceCtorEq,Nat.reduceMul,Int.reduceLT,Int.reduceLE,Int.reduceToNat,hw1,hc0,hgs]
     refine iu (.exit 4) (fun _:Unit=>(⟨[(9,.dat (I 0) none),(6,.dat (I (p+bh n0 (p) (bN G g):Nat)) none),(5,.dat (I G) none),(7,.dat (I g) none),(8,.ptr 403 0),(1,.dat (aJ aG l) none),(0,.ptr 0 0)],[(403,⟨[aJ aG (bw (dm (p) (bh n0 (p) (bN G g)))),.bI],[]⟩),(0,⟨({t with groups:=bw gs}:Tb).cells,if gs=[]then[]else[(104,0)]⟩)],bW gs 0 eR,1000⟩:S)) (fun _=>True) (fun _=>rfl) ?_ ?_
     ·refine aP (fun i:Nat=>(⟨[(11,.dat (I i) none),(10,.dat (I n0) none),(6,.dat (I (p+i:Nat)) none),(5,.dat (I G) none),(7,.dat (I g) none),(9,.dat (I 0) none),(8,.ptr 403 0),(1,.dat (aJ aG l) none),(0,.ptr 0 0)],[(403,⟨[aJ aG (bw (dm (p) i)),.bI],if dm (p) i=[]then[]else[(0,1)]⟩),(0,⟨({t with groups:=bw gs}:Tb).cells,if gs=[]then[]else[(104,0)]⟩)],bW (dm (p) i) 1 e++bW gs 0 eR,1000⟩:S)) (fun i=>bh n0 (p) (bN G g)-i) (fun i=>i<=bh n0 (p) (bN G g)) ?_ 0 (by omega) ?_
      ·intro i hi A1 back1
       have hfl:bh n0 (p) (bN G g)<=8:=by simp only[bh,bN];omega
       have hw3:=aN (k:=i) (by omega)
       have hf:bh n0 (p) (bN G g)=min n0 (bN G g-(p)):=rfl
       have hp1:IntKind.i64.wrap (((p+i:Nat):Int)+1)=((p+(i+1):Nat):Int):=by rw[bq (by omega) (by omega)];omega
       have hrl:(dm (p) i).length=i:=by simp[dm]
       by_cases hl:dm (p) i=[]
       ·try simp only[I,B,D,RX,↓KW,Nat.reduceBEq,Nat.reduceAdd,Nat.reduceLeDiff,Int.reduceNe,Int.reduceBEq,Int.reduceEq,reduceCtorEq,Nat.reduceMul,Int.reduceLT,Int.reduceLE,Int.reduceToNat,hl,bW,bw,hlim,hgs]
        repeat' (((first|refine bz ?_ ?_|refine ax ?_ ?_|refine cv ?_ ?_)<;>intro h)<;>try simp only[I,B,D,RX,↓KW,Nat.reduceBEq,Nat.reduceAdd,Nat.reduceLeDiff,Int.reduceNe,Int.reduceBEq,Int.reduceEq,reduceCtorEq,Nat.reduceMul,Int.reduceLT,Int.reduceLE,Int.reduceToNat,aR,aO,hlim,hl,hgs,hp1,h])
        ·have h1:=of_decide_eq_true h
         refine⟨by decide,?_⟩
         refine⟨by decide,?_⟩
         have h2:(i:Int)<n0:=by rename_i h2;exact of_decide_eq_true h2
         refine back1 (i+1) _ (by omega) (by omega) (ai (by decide) ?_ ?_ ?_ ?_)<;>simp[LX,I,B,D,hw3,jz,hl,bw,aR,aO,hgs]
        ·have h1:=of_decide_eq_false h
         have:i=bh n0 (p) (bN G g):=by omega
         rw[<-this];refine cu () trivial ?_
         refine ai (by decide) ?_ ?_ ?_ ?_<;>simp[LX,I,B,D,hl,bw,aR,aO,hgs]
        ·have h1:=of_decide_eq_false h
         have:i=bh n0 (p) (bN G g):=by omega
         rw[<-this];refine cu () trivial ?_
         refine ai (by decide) ?_ ?_ ?_ ?_<;>simp[LX,I,B,D,hl,bw,aR,aO,hgs]
       ·try simp only[I,B,D,RX,↓KW,Nat.reduceBEq,Nat.reduceAdd,Nat.reduceLeDiff,Int.reduceNe,Int.reduceBEq,Int.reduceEq,reduceCtorEq,Nat.reduceMul,Int.reduceLT,Int.reduceLE,Int.reduceToNat,hl,bW,bw,hlim,hgs]
        repeat' (((first|refine bz ?_ ?_|refine ax ?_ ?_|refine cv ?_ ?_)<;>intro h)<;>try simp only[I,B,D,RX,↓KW,Nat.reduceBEq,Nat.reduceAdd,Nat.reduceLeDiff,Int.reduceNe,Int.reduceBEq,Int.reduceEq,reduceCtorEq,Nat.reduceMul,Int.reduceLT,Int.reduceLE,Int.reduceToNat,aR,aO,hlim,hl,hgs,hp1,h])
        ·have h1:=of_decide_eq_true h
         refine⟨by decide,by omega,by decide,?_⟩
         have h2:(i:Int)<n0:=by rename_i h2;exact of_decide_eq_true h2
         refine back1 (i+1) _ (by omega) (by omega) (ai (by decide) ?_ ?_ ?_ ?_)<;>simp[LX,I,B,D,hw3,jz,hl,bw,aR,aO,hgs]
        ·have h1:=of_decide_eq_false h
         have:i=bh n0 (p) (bN G g):=by omega
         rw[<-this];refine cu () trivial ?_
         refine ai (by decide) ?_ ?_ ?_ ?_<;>simp[LX,I,B,D,hl,bw,aR,aO,hgs]
        ·have h1:=of_decide_eq_false h
         have:i=bh n0 (p) (bN G g):=by omega
         rw[<-this];refine cu () trivial ?_
         refine ai (by decide) ?_ ?_ ?_ ?_<;>simp[LX,I,B,D,hl,bw,aR,aO,hgs]
      ·refine ai (by decide) ?_ ?_ ?_ ?_<;>simp[LX,I,B,D,dm,bw,aR,aO,hgs]
     ·intro _ _
      generalize hm0:bh n0 p (bN G g)=m0 at*
      have hrow0:(bw (dm p m0)).getD []=dm p m0:=cm _
      have hrl0:(dm p m0).length=m0:=by simp[dm]
      have hm8:m0<=8:=by rw[<-hm0];simp only[bh,bN];omega
      try simp only[I,B,D,RX,↓KW,Nat.reduceBEq,Nat.reduceAdd,Nat.reduceLeDiff,Int.reduceNe,Int.reduceBEq,Int.reduceEq,reduceCtorEq,Nat.reduceMul,Int.reduceLT,Int.reduceLE,Int.reduceToNat,hgs]
      refine bp ?_;try simp only[I,B,D,RX,↓KW,Nat.reduceBEq,Nat.reduceAdd,Nat.reduceLeDiff,Int.reduceNe,Int.reduceBEq,Int.reduceEq,reduceCtorEq,Nat.reduceMul,Int.reduceLT,Int.reduceLE,Int.reduceToNat,hgs,Ma]
      refine aj (hF _ _ _ (by decide)) ?_
      try simp only[I,B,D,RX,↓KW,Nat.reduceBEq,Nat.reduceAdd,Nat.reduceLeDiff,Int.reduceNe,Int.reduceBEq,Int.reduceEq,reduceCtorEq,Nat.reduceMul,Int.reduceLT,Int.reduceLE,Int.reduceToNat,hw2,hgs]
      have hr2:=aL l (1+2*(g:Int)+1) (n:=3) (by decide) (by decide)
      have hcn0:cnt l g 1 m0=if(bG l (1+2*(g:Int)+1) 3).toNat=0/\m0=0 then 1 else(bG l (1+2*(g:Int)+1) 3).toNat:=by simp[cnt]
      generalize bG l (1+2*(g:Int)+1) 3=fr1 at*;generalize hn1:cnt l g 1 m0=n1 at*
      repeat' (((first|refine bz ?_ ?_|refine ax ?_ ?_|refine cv ?_ ?_)<;>intro h)<;>try simp only[I,B,D,RX,↓KW,Nat.reduceBEq,Nat.reduceAdd,Nat.reduceLeDiff,Int.reduceNe,Int.reduceBEq,Int.reduceEq,reduceCtorEq,Nat.reduceMul,Int.reduceLT,Int.reduceLE,Int.reduceToNat,hrow0,hrl0,hgs,h])
      ·have hfr:fr1=0:=by simpa using h
       refine⟨by decide,?_⟩
       refine ax (fun hz=>?_) (fun hz=>?_)<;>try simp only[I,B,D,RX,↓KW,Nat.reduceBEq,Nat.reduceAdd,Nat.reduceLeDiff,Int.reduceNe,Int.reduceBEq,Int.reduceEq,reduceCtorEq,Nat.reduceMul,Int.reduceLT,Int.reduceLE,Int.reduceToNat,hgs,hz]
       ·have hz:m0=0:=by simpa using hz
        have hcn:(n1:Int)=1:=by rw[hcn0,if_pos ⟨by omega,hz⟩];rfl
        refine iu (.exit 4) (fun _:Unit=>(⟨[(9,.dat (I 1) none),(6,.dat (I (p+m0+bh n1 (p+m0) (bN G g):Nat)) none),(5,.dat (I G) none),(7,.dat (I g) none),(8,.ptr 403 0),(1,.dat (aJ aG l) none),(0,.ptr 0 0)],[(403,⟨[aJ aG (bw (dm p m0)),aJ aG (bw (dm (p+m0) (bh n1 (p+m0) (bN G g))))],[]⟩),(0,⟨({t with groups:=bw gs}:Tb).cells,if gs=[]then[]else[(104,0)]⟩)],bW gs 0 eR,1000⟩:S)) (fun _=>True) (fun _=>rfl) ?_ ?_
        ·refine aP (fun i:Nat=>(⟨[(11,.dat (I i) none),(10,.dat (I n1) none),(6,.dat (I (p+m0+i:Nat)) none),(5,.dat (I G) none),(7,.dat (I g) none),(9,.dat (I 1) none),(8,.ptr 403 0),(1,.dat (aJ aG l) none),(0,.ptr 0 0)],[(403,⟨[aJ aG (bw (dm p m0)),aJ aG (bw (dm (p+m0) i))],if dm (p+m0) i=[]then[]else[(1,1)]⟩),(0,⟨({t with groups:=bw gs}:Tb).cells,if gs=[]then[]else[(104,0)]⟩)],bW (dm (p+m0) i) 1 e++bW gs 0 eR,1000⟩:S)) (fun i=>bh n1 (p+m0) (bN G g)-i) (fun i=>i<=bh n1 (p+m0) (bN G g)) ?_ 0 (by omega) ?_
         ·intro i hi A1 back1
          have hfl:bh n1 (p+m0) (bN G g)<=8:=by simp only[bh,bN];omega
          have hw3:=aN (k:=i) (by omega)
          have hf:bh n1 (p+m0) (bN G g)=min n1 (bN G g-(p+m0)):=rfl
          have hp1:IntKind.i64.wrap (((p+m0+i:Nat):Int)+1)=((p+m0+(i+1):Nat):Int):=by rw[bq (by omega) (by omega)];omega
          have hrl:(dm (p+m0) i).length=i:=by simp[dm]
          by_cases hl:dm (p+m0) i=[]
          ·try simp only[I,B,D,RX,↓KW,Nat.reduceBEq,Nat.reduceAdd,Nat.reduceLeDiff,Int.reduceNe,Int.reduceBEq,Int.reduceEq,reduceCtorEq,Nat.reduceMul,Int.reduceLT,Int.reduceLE,Int.reduceToNat,hl,bW,bw,hlim,hgs,hrow0]
           repeat' (((first|refine bz ?_ ?_|refine ax ?_ ?_|refine cv ?_ ?_)<;>intro h)<;>try simp only[I,B,D,RX,↓KW,Nat.reduceBEq,Nat.reduceAdd,Nat.reduceLeDiff,Int.reduceNe,Int.reduceBEq,Int.reduceEq,reduceCtorEq,Nat.reduceMul,Int.reduceLT,Int.reduceLE,Int.reduceToNat,aR,aO,hlim,hl,hgs,hp1,hrow0,h])
           ·have h1:=of_decide_eq_true h
            refine⟨by decide,?_⟩
            refine⟨by decide,?_⟩
            have h2:(i:Int)<n1:=by rename_i h2;exact of_decide_eq_true h2
            refine back1 (i+1) _ (by omega) (by omega) (ai (by decide) ?_ ?_ ?_ ?_)<;>simp[LX,I,B,D,hw3,jz,hl,bw,aR,aO,hgs,hrow0]
           ·have h1:=of_decide_eq_false h
            have:i=bh n1 (p+m0) (bN G g):=by omega
            rw[<-this];refine cu () trivial ?_
            refine ai (by decide) ?_ ?_ ?_ ?_<;>simp[LX,I,B,D,hl,bw,aR,aO,hgs,hrow0]
           ·have h1:=of_decide_eq_false h
            have:i=bh n1 (p+m0) (bN G g):=by omega
            rw[<-this];refine cu () trivial ?_
            refine ai (by decide) ?_ ?_ ?_ ?_<;>simp[LX,I,B,D,hl,bw,aR,aO,hgs,hrow0]
          ·try simp only[I,B,D,RX,↓KW,Nat.reduceBEq,Nat.reduceAdd,Nat.reduceLeDiff,Int.reduceNe,Int.reduceBEq,Int.reduceEq,reduceCtorEq,Nat.reduceMul,Int.reduceLT,Int.reduceLE,Int.reduceToNat,hl,bW,bw,hlim,hgs,hrow0]
           repeat' (((first|refine bz ?_ ?_|refine ax ?_ ?_|refine cv ?_ ?_)<;>intro h)<;>try simp only[I,B,D,RX,↓KW,Nat.reduceBEq,Nat.reduceAdd,Nat.reduceLeDiff,Int.reduceNe,Int.reduceBEq,Int.reduceEq,reduceCtorEq,Nat.reduceMul,Int.reduceLT,Int.reduceLE,Int.reduceToNat,aR,aO,hlim,hl,hgs,hp1,hrow0,h])
           ·have h1:=of_decide_eq_true h
            refine⟨by decide,by omega,by decide,?_⟩
            have h2:(i:Int)<n1:=by rename_i h2;exact of_decide_eq_true h2
            refine back1 (i+1) _ (by omega) (by omega) (ai (by decide) ?_ ?_ ?_ ?_)<;>simp[LX,I,B,D,hw3,jz,hl,bw,aR,aO,hgs,hrow0]
           ·have h1:=of_decide_eq_false h
            have:i=bh n1 (p+m0) (bN G g):=by omega
            rw[<-this];refine cu () trivial ?_
            refine ai (by decide) ?_ ?_ ?_ ?_<;>simp[LX,I,B,D,hl,bw,aR,aO,hgs,hrow0]
           ·have h1:=of_decide_eq_false h
            have:i=bh n1 (p+m0) (bN G g):=by omega
            rw[<-this];refine cu () trivial ?_
            refine ai (by decide) ?_ ?_ ?_ ?_<;>simp[LX,I,B,D,hl,bw,aR,aO,hgs,hrow0]
         ·refine ai (by decide) ?_ ?_ ?_ ?_<;>simp[LX,I,B,D,dm,bw,aR,aO,hgs,hrow0,hcn]
        ·intro _ _
         try simp only[I,B,D,RX,↓KW,Nat.reduceBEq,Nat.reduceAdd,Nat.reduceLeDiff,Int.reduceNe,Int.reduceBEq,Int.reduceEq,reduceCtorEq,Nat.reduceMul,Int.reduceLT,Int.reduceLE,Int.reduceToNat,hgs,bw,hrow0]
         refine bp ?_;try simp only[I,B,D,RX,↓KW,Nat.reduceBEq,Nat.reduceAdd,Nat.reduceLeDiff,Int.reduceNe,Int.reduceBEq,Int.reduceEq,reduceCtorEq,Nat.reduceMul,Int.reduceLT,Int.reduceLE,Int.reduceToNat,hgs,AZ]
         refine cu () trivial ?_
         refine ai (by decide) ?_ ?_ ?_ ?_<;>simp[LX,I,B,D,hgs,bw,aR,aO]
       ·have hz:¬m0=0:=by simpa using hz
        have hcn:fr1=(n1:Int):=by rw[hcn0,if_neg (fun hh=>hz hh.2)];omega
        refine iu (.exit 4) (fun _:Unit=>(⟨[(9,.dat (I 1) none),(6,.dat (I (p+m0+bh n1 (p+m0) (bN G g):Nat)) none),(5,.dat (I G) none),(7,.dat (I g) none),(8,.ptr 403 0),(1,.dat (aJ aG l) none),(0,.ptr 0 0)],[(403,⟨[aJ aG (bw (dm p m0)),aJ aG (bw (dm (p+m0) (bh n1 (p+m0) (bN G g))))],[]⟩),(0,⟨({t with groups:=bw gs}:Tb).cells,if gs=[]then[]else[(104,0)]⟩)],bW gs 0 eR,1000⟩:S)) (fun _=>True) (fun _=>rfl) ?_ ?_
        ·refine aP (fun i:Nat=>(⟨[(11,.dat (I i) none),(10,.dat (I n1) none),(6,.dat (I (p+m0+i:Nat)) none),(5,.dat (I G) none),(7,.dat (I g) none),(9,.dat (I 1) none),(8,.ptr 403 0),(1,.dat (aJ aG l) none),(0,.ptr 0 0)],[(403,⟨[aJ aG (bw (dm p m0)),aJ aG (bw (dm (p+m0) i))],if dm (p+m0) i=[]then[]else[(1,1)]⟩),(0,⟨({t with groups:=bw gs}:Tb).cells,if gs=[]then[]else[(104,0)]⟩)],bW (dm (p+m0) i) 1 e++bW gs 0 eR,1000⟩:S)) (fun i=>bh n1 (p+m0) (bN G g)-i) (fun i=>i<=bh n1 (p+m0) (bN G g)) ?_ 0 (by omega) ?_
         ·intro i hi A1 back1
          have hfl:bh n1 (p+m0) (bN G g)<=8:=by simp only[bh,bN];omega
          have hw3:=aN (k:=i) (by omega)
          have hf:bh n1 (p+m0) (bN G g)=min n1 (bN G g-(p+m0)):=rfl
          have hp1:IntKind.i64.wrap (((p+m0+i:Nat):Int)+1)=((p+m0+(i+1):Nat):Int):=by rw[bq (by omega) (by omega)];omega
          have hrl:(dm (p+m0) i).length=i:=by simp[dm]
          by_cases hl:dm (p+m0) i=[]
          ·try simp only[I,B,D,RX,↓KW,Nat.reduceBEq,Nat.reduceAdd,Nat.reduceLeDiff,Int.reduceNe,Int.reduceBEq,Int.reduceEq,reduceCtorEq,Nat.reduceMul,Int.reduceLT,Int.reduceLE,Int.reduceToNat,hl,bW,bw,hlim,hgs,hrow0]
           repeat' (((first|refine bz ?_ ?_|refine ax ?_ ?_|refine cv ?_ ?_)<;>intro h)<;>try simp only[I,B,D,RX,↓KW,Nat.reduceBEq,Nat.reduceAdd,Nat.reduceLeDiff,Int.reduceNe,Int.reduceBEq,Int.reduceEq,reduceCtorEq,Nat.reduceMul,Int.reduceLT,Int.reduceLE,Int.reduceToNat,aR,aO,hlim,hl,hgs,hp1,hrow0,h])
           ·have h1:=of_decide_eq_true h
            refine⟨by decide,?_⟩
            refine⟨by decide,?_⟩
            have h2:(i:Int)<n1:=by rename_i h2;exact of_decide_eq_true h2
            refine back1 (i+1) _ (by omega) (by omega) (ai (by decide) ?_ ?_ ?_ ?_)<;>simp[LX,I,B,D,hw3,jz,hl,bw,aR,aO,hgs,hrow0]
           ·have h1:=of_decide_eq_false h
            have:i=bh n1 (p+m0) (bN G g):=by omega
            rw[<-this];refine cu () trivial ?_
            refine ai (by decide) ?_ ?_ ?_ ?_<;>simp[LX,I,B,D,hl,bw,aR,aO,hgs,hrow0]
           ·have h1:=of_decide_eq_false h
            have:i=bh n1 (p+m0) (bN G g):=by omega
            rw[<-this];refine cu () trivial ?_
            refine ai (by decide) ?_ ?_ ?_ ?_<;>simp[LX,I,B,D,hl,bw,aR,aO,hgs,hrow0]
          ·try simp only[I,B,D,RX,↓KW,Nat.reduceBEq,Nat.reduceAdd,Nat.reduceLeDiff,Int.reduceNe,Int.reduceBEq,Int.reduceEq,reduceCtorEq,Nat.reduceMul,Int.reduceLT,Int.reduceLE,Int.reduceToNat,hl,bW,bw,hlim,hgs,hrow0]
           repeat' (((first|refine bz ?_ ?_|refine ax ?_ ?_|refine cv ?_ ?_)<;>intro h)<;>try simp only[I,B,D,RX,↓KW,Nat.reduceBEq,Nat.reduceAdd,Nat.reduceLeDiff,Int.reduceNe,Int.reduceBEq,Int.reduceEq,reduceCtorEq,Nat.reduceMul,Int.reduceLT,Int.reduceLE,Int.reduceToNat,aR,aO,hlim,hl,hgs,hp1,hrow0,h])
           ·have h1:=of_decide_eq_true h
            refine⟨by decide,by omega,by decide,?_⟩
            have h2:(i:Int)<n1:=by rename_i h2;exact of_decide_eq_true h2
            refine back1 (i+1) _ (by omega) (by omega) (ai (by decide) ?_ ?_ ?_ ?_)<;>simp[LX,I,B,D,hw3,jz,hl,bw,aR,aO,hgs,hrow0]
           ·have h1:=of_decide_eq_false h
            have:i=bh n1 (p+m0) (bN G g):=by omega
            rw[<-this];refine cu () trivial ?_
            refine ai (by decide) ?_ ?_ ?_ ?_<;>simp[LX,I,B,D,hl,bw,aR,aO,hgs,hrow0]
           ·have h1:=of_decide_eq_false h
            have:i=bh n1 (p+m0) (bN G g):=by omega
            rw[<-this];refine cu () trivial ?_
            refine ai (by decide) ?_ ?_ ?_ ?_<;>simp[LX,I,B,D,hl,bw,aR,aO,hgs,hrow0]
         ·refine ai (by decide) ?_ ?_ ?_ ?_<;>simp[LX,I,B,D,dm,bw,aR,aO,hgs,hrow0,hcn]
        ·intro _ _
         try simp only[I,B,D,RX,↓KW,Nat.reduceBEq,Nat.reduceAdd,Nat.reduceLeDiff,Int.reduceNe,Int.reduceBEq,Int.reduceEq,reduceCtorEq,Nat.reduceMul,Int.reduceLT,Int.reduceLE,Int.reduceToNat,hgs,bw,hrow0]
         refine bp ?_;try simp only[I,B,D,RX,↓KW,Nat.reduceBEq,Nat.reduceAdd,Nat.reduceLeDiff,Int.reduceNe,Int.reduceBEq,Int.reduceEq,reduceCtorEq,Nat.reduceMul,Int.reduceLT,Int.reduceLE,Int.reduceToNat,hgs,AZ]
         refine cu () trivial ?_
         refine ai (by decide) ?_ ?_ ?_ ?_<;>simp[LX,I,B,D,hgs,bw,aR,aO]
      ·have hfr:¬fr1=0:=by simpa using h
       have hcn:fr1=(n1:Int):=by rw[hcn0,if_neg (fun hh=>hfr (by omega))];omega
       refine iu (.exit 4) (fun _:Unit=>(⟨[(9,.dat (I 1) none),(6,.dat (I (p+m0+bh n1 (p+m0) (bN G g):Nat)) none),(5,.dat (I G) none),(7,.dat (I g) none),(8,.ptr 403 0),(1,.dat (aJ aG l) none),(0,.ptr 0 0)],[(403,⟨[aJ aG (bw (dm p m0)),aJ aG (bw (dm (p+m0) (bh n1 (p+m0) (bN G g))))],[]⟩),(0,⟨({t with groups:=bw gs}:Tb).cells,if gs=[]then[]else[(104,0)]⟩)],bW gs 0 eR,1000⟩:S)) (fun _=>True) (fun _=>rfl) ?_ ?_
       ·refine aP (fun i:Nat=>(⟨[(11,.dat (I i) none),(10,.dat (I n1) none),(6,.dat (I (p+m0+i:Nat)) none),(5,.dat (I G) none),(7,.dat (I g) none),(9,.dat (I 1) none),(8,.ptr 403 0),(1,.dat (aJ aG l) none),(0,.ptr 0 0)],[(403,⟨[aJ aG (bw (dm p m0)),aJ aG (bw (dm (p+m0) i))],if dm (p+m0) i=[]then[]else[(1,1)]⟩),(0,⟨({t with groups:=bw gs}:Tb).cells,if gs=[]then[]else[(104,0)]⟩)],bW (dm (p+m0) i) 1 e++bW gs 0 eR,1000⟩:S)) (fun i=>bh n1 (p+m0) (bN G g)-i) (fun i=>i<=bh n1 (p+m0) (bN G g)) ?_ 0 (by omega) ?_
        ·intro i hi A1 back1
         have hfl:bh n1 (p+m0) (bN G g)<=8:=by simp only[bh,bN];omega
         have hw3:=aN (k:=i) (by omega)
         have hf:bh n1 (p+m0) (bN G g)=min n1 (bN G g-(p+m0)):=rfl
         have hp1:IntKind.i64.wrap (((p+m0+i:Nat):Int)+1)=((p+m0+(i+1):Nat):Int):=by rw[bq (by omega) (by omega)];omega
         have hrl:(dm (p+m0) i).length=i:=by simp[dm]
         by_cases hl:dm (p+m0) i=[]
         ·try simp only[I,B,D,RX,↓KW,Nat.reduceBEq,Nat.reduceAdd,Nat.reduceLeDiff,Int.reduceNe,Int.reduceBEq,Int.reduceEq,reduceCtorEq,Nat.reduceMul,Int.reduceLT,Int.reduceLE,Int.reduceToNat,hl,bW,bw,hlim,hgs,hrow0]
          repeat' (((first|refine bz ?_ ?_|refine ax ?_ ?_|refine cv ?_ ?_)<;>intro h)<;>try simp only[I,B,D,RX,↓KW,Nat.reduceBEq,Nat.reduceAdd,Nat.reduceLeDiff,Int.reduceNe,Int.reduceBEq,Int.reduceEq,reduceCtorEq,Nat.reduceMul,Int.reduceLT,Int.reduceLE,Int.reduceToNat,aR,aO,hlim,hl,hgs,hp1,hrow0,h])
          ·have h1:=of_decide_eq_true h
           refine⟨by decide,?_⟩
           refine⟨by decide,?_⟩
           have h2:(i:Int)<n1:=by rename_i h2;exact of_decide_eq_true h2
           refine back1 (i+1) _ (by omega) (by omega) (ai (by decide) ?_ ?_ ?_ ?_)<;>simp[LX,I,B,D,hw3,jz,hl,bw,aR,aO,hgs,hrow0]
          ·have h1:=of_decide_eq_false h
           have:i=bh n1 (p+m0) (bN G g):=by omega
           rw[<-this];refine cu () trivial ?_
           refine ai (by decide) ?_ ?_ ?_ ?_<;>simp[LX,I,B,D,hl,bw,aR,aO,hgs,hrow0]
          ·have h1:=of_decide_eq_false h
           have:i=bh n1 (p+m0) (bN G g):=by omega
           rw[<-this];refine cu () trivial ?_
           refine ai (by decide) ?_ ?_ ?_ ?_<;>simp[LX,I,B,D,hl,bw,aR,aO,hgs,hrow0]
         ·try simp only[I,B,D,RX,↓KW,Nat.reduceBEq,Nat.reduceAdd,Nat.reduceLeDiff,Int.reduceNe,Int.reduceBEq,Int.reduceEq,reduceCtorEq,Nat.reduceMul,Int.reduceLT,Int.reduceLE,Int.reduceToNat,hl,bW,bw,hlim,hgs,hrow0]
          repeat' (((first|refine bz ?_ ?_|refine ax ?_ ?_|refine cv ?_ ?_)<;>intro h)<;>try simp only[I,B,D,RX,↓KW,Nat.reduceBEq,Nat.reduceAdd,Nat.reduceLeDiff,Int.reduceNe,Int.reduceBEq,Int.reduceEq,reduceCtorEq,Nat.reduceMul,Int.reduceLT,Int.reduceLE,Int.reduceToNat,aR,aO,hlim,hl,hgs,hp1,hrow0,h])
          ·have h1:=of_decide_eq_true h
           refine⟨by decide,by omega,by decide,?_⟩
           have h2:(i:Int)<n1:=by rename_i h2;exact of_decide_eq_true h2
           refine back1 (i+1) _ (by omega) (by omega) (ai (by decide) ?_ ?_ ?_ ?_)<;>simp[LX,I,B,D,hw3,jz,hl,bw,aR,aO,hgs,hrow0]
          ·have h1:=of_decide_eq_false h
           have:i=bh n1 (p+m0) (bN G g):=by omega
           rw[<-this];refine cu () trivial ?_
           refine ai (by decide) ?_ ?_ ?_ ?_<;>simp[LX,I,B,D,hl,bw,aR,aO,hgs,hrow0]
          ·have h1:=of_decide_eq_false h
           have:i=bh n1 (p+m0) (bN G g):=by omega
           rw[<-this];refine cu () trivial ?_
           refine ai (by decide) ?_ ?_ ?_ ?_<;>simp[LX,I,B,D,hl,bw,aR,aO,hgs,hrow0]
        ·refine ai (by decide) ?_ ?_ ?_ ?_<;>simp[LX,I,B,D,dm,bw,aR,aO,hgs,hrow0,hcn]
       ·intro _ _
        try simp only[I,B,D,RX,↓KW,Nat.reduceBEq,Nat.reduceAdd,Nat.reduceLeDiff,Int.reduceNe,Int.reduceBEq,Int.reduceEq,reduceCtorEq,Nat.reduceMul,Int.reduceLT,Int.reduceLE,Int.reduceToNat,hgs,bw,hrow0]
        refine bp ?_;try simp only[I,B,D,RX,↓KW,Nat.reduceBEq,Nat.reduceAdd,Nat.reduceLeDiff,Int.reduceNe,Int.reduceBEq,Int.reduceEq,reduceCtorEq,Nat.reduceMul,Int.reduceLT,Int.reduceLE,Int.reduceToNat,hgs,AZ]
        refine cu () trivial ?_
        refine ai (by decide) ?_ ?_ ?_ ?_<;>simp[LX,I,B,D,hgs,bw,aR,aO]
    ·intro _ _
     have hgc:=Tb.yl (t:={t with groups:=bw gs}) ht.phases
     have hln:=Tb.len' (t:={t with groups:=bw gs}) ht.phases ht.conflict ht.bA
     have hset:=Tb.ym (t:={t with groups:=bw gs}) ht.phases (some (gs++[⟨bw (dm p (bh n0 p (bN G g))),bw (dm (p+bh n0 p (bN G g)) (bh (cnt l g 1 (bh n0 p (bN G g))) (p+bh n0 p (bN G g)) (bN G g)))⟩]))
     simp only[hgs,bw,if_true,if_false]at hgc hln hset;try simp only[I,B,D,RX,↓KW,Nat.reduceBEq,Nat.reduceAdd,Nat.reduceLeDiff,Int.reduceNe,Int.reduceBEq,Int.reduceEq,reduceCtorEq,Nat.reduceMul,Int.reduceLT,Int.reduceLE,Int.reduceToNat,hgc,aR,aO,Gr.len,hgl,hgs,bw]
     try refine⟨by omega,?_⟩
     try refine⟨by simp[bW,hgs,dU],?_⟩
     try refine⟨by omega,?_⟩
     simp[aO,Gr.cells,hgs]at hset
     refine back (g+1) _ (by omega) (by omega) (ai (by decide) ?_ ?_ ?_ ?_)<;>simp[LX,I,B,D,hn2,hw,hgs,bw,aO,aR,Gr.cells,hset]
     trace_state
   ·have hgG:g=G:=by have:=of_decide_eq_false h;omega
    subst hgG
    first
     |(exfalso;rw[hgs]at hgl;simp at hgl;omega)
     |exact⟨by rw[hR],by rw[hR]⟩
 ·have:({t with groups:=none}:Tb)=t:=by cases t;simp_all
  refine ai (by decide) ?_ ?_ ?_ ?_<;>simp[LX,I,B,D,bn,bw,this]
end
end Go.Eng
