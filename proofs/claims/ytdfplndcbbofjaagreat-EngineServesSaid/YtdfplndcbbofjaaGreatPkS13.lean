/- Part 13 of the engine and its library. -/
import Derived.Test.YtdfplndcbbofjaaGreatPkS12
set_option linter.all false
set_option maxRecDepth 10000
set_option maxHeartbeats 4000000
namespace Go.Eng
open Ieee
set_option exponentiation.threshold 4000
section
variable (x:Nat) (op:BinOp) {a b c k s v:Nat} (y:Nat)
def sB:Nat:=4652006429231887155
def pT:Nat:=4584304132692975288
def Mt:Bool:=DF.order x y==some .gt||DF.order x y==some .eq
def LY:Bool:=DF.order x y==some .lt||DF.order x y==some .eq
def ltF:Bool:=DF.order x y==some .lt
def Tk:Bool:=DF.order x y==some .gt
def eqF:Bool:=DF.order x y==some .eq
def Xc:Option Int->Option Int->Bool
 |some a,some b=>decide (a<=b)
 |_,_=>false
def Xd:Option Int->Option Int->Bool
 |some a,some b=>decide (a<b)
 |_,_=>false
theorem RO:LY x y=Xc (key x) (key y):=by
 unfold LY;rw[tN]
 cases key x<;>cases key y<;>try rfl
 rename_i a b;simp only[EJ,Xc]
 rcases Pi a b with h|h|h
 ·rw[vg h];simp;omega
 ·rw[yp h];simp;omega
 ·rw[vh h];simp;omega
theorem RQ:Mt x y=Xc (key y) (key x):=by
 unfold Mt;rw[tN]
 cases key x<;>cases key y<;>try rfl
 rename_i a b;simp only[EJ,Xc]
 rcases Pi a b with h|h|h
 ·rw[vg h];simp;omega
 ·rw[yp h];simp;omega
 ·rw[vh h];simp;omega
theorem RR:ltF x y=Xd (key x) (key y):=by
 unfold ltF;rw[tN]
 cases key x<;>cases key y<;>try rfl
 rename_i a b;simp only[EJ,Xd]
 rcases Pi a b with h|h|h
 ·rw[vg h];simp;omega
 ·rw[yp h];simp;omega
 ·rw[vh h];simp;omega
theorem RS:Tk x y=Xd (key y) (key x):=by
 unfold Tk;rw[tN]
 cases key x<;>cases key y<;>try rfl
 rename_i a b;simp only[EJ,Xd]
 rcases Pi a b with h|h|h
 ·rw[vg h];simp;omega
 ·rw[yp h];simp;omega
 ·rw[vh h];simp;omega
theorem Zq:Fin 0:=by unfold Fin;omega
theorem RU:Fin sB:=by unfold Fin sB;omega
theorem z7:Fin pT:=by unfold Fin pT;omega
theorem aby:rV 0=0:=by simp[rV]
theorem J2:key 0=some 0:=by rw[nA Zq,aby];rfl
theorem J3:key sB=some (rV sB:Int):=nA RU
theorem RZ{r:Nat} (h:rV r=0):r=0:=by
 unfold rV at h;split at h
 ·exact h
 ·have:=Nat.mul_pos (show 0<2^52+r%2^52 by omega) (bT (r/2^52-1))
  omega
theorem Oh(hs:s<2^64) {a:Int} (hk:key s=some a) (R:0<=a) (O:a<=(rV sB:Int)):(Fin s/\a=(rV s:Int))\/(s=2^63/\a=0):=by
 have aa:(rV sB:Int)<((2^2200:Nat):Int):=by
  have:rV sB<2^2200:=by decide+kernel
  omega
 by_cases Z:s<2^63
 ·by_cases B:Fin s
  ·left
   rw[nA B]at hk;exact⟨B,(vx hk).symm⟩
  ·exfalso
   unfold Fin at B;unfold key Format.read at hk;dsimp only at hk
   have D:s%DF.signWeight=s:=by rw[ke];omega
   have L:s/DF.signWeight%2=0:=by rw[ke];omega
   rw[D,L,jY,ym]at hk
   rw[fx ST,fx B]at hk
   split at hk
   ·cases hk
   ·rename_i M A
    split at A<;>try(cases A;done)
    cases A;cases hk;simp only[show((0:Nat)==1)=false from rfl,eQ,ik]at O
    omega
   ·rename_i A
    split at A<;>cases A
 ·obtain⟨r,rfl⟩:∃r,s=2^63+r:=⟨s-2^63,ST⟩
  by_cases B:Fin r
  ·right
   rw[J1 B]at hk
   have:=vx hk
   have V:rV r=0:=ST
   have:=RZ V
   subst this
   exact⟨rfl,ST⟩
  ·exfalso
   unfold Fin at B;unfold key Format.read at hk;dsimp only at hk
   have D:(2^63+r)%DF.signWeight=r:=by rw[ke];omega
   have L:(2^63+r)/DF.signWeight%2=1:=by rw[ke];omega
   rw[D,L,jY,ym]at hk
   rw[fx ST,fx B]at hk
   split at hk
   ·cases hk
   ·rename_i M A
    split at A<;>try(cases A;done)
    cases A;cases hk;simp only[show((1:Nat)==1)=true from rfl,kv]at R
    have:=bT 2200
    omega
   ·rename_i A
    split at A<;>cases A
def V6(a:Nat):Nat:=Rg (10*a*2^1126)
def LZ(a:Nat):Nat:=tM (rV (V6 a)) 1074
theorem Gx(h:a<=b):V6 a<=V6 b:=EG (io _ (xv _ h))
theorem Oi(h:a<=b):LZ a<=LZ b:=wL (EF (Gx h)) _
theorem R5:LZ (rV sB)=9999:=by decide+kernel
theorem R6:V6 (rV sB)<2047*2^52:=by decide+kernel
theorem R7(h:a<=rV sB):Fin (V6 a):=by
 have A:=Gx h
 have B:=R6
 unfold Fin;omega
theorem V7(h:a<=rV sB):LZ a<=9999:=by rw[<-R5];exact Oi h
theorem Tl:LZ 0=0:=by decide+kernel
def PM(s:Nat):Bool:=Mt s 0&&LY s sB
def tk(s:Nat):Nat:=LZ ((key s).getD 0).toNat
theorem z8:PM s=true↔∃a:Nat,key s=some (a:Int)/\a<=rV sB:=by
 unfold PM;rw[RQ,RO,J2,J3]
 cases hk:key s with
 |none=>simp[Xc]
 |some a=>
  simp only[Xc,dT,gn,gg];constructor
  ·rintro⟨A,B⟩;exact⟨a.toNat,ST,ST⟩
  ·rintro⟨b,rfl,h⟩;omega
theorem J4(h:key s=some (a:Int)):tk s=LZ a:=by simp[tk,h]
theorem V8{x:Nat} (h:Fin x):D4 x=some (.float .f64 (LS (tM (rV x) 1074))):=by
 have A:FloatKind.f64.decode x=.number false (yo x) (-1074+(jv x:Int)):=gx h
 unfold D4;rw[A];dsimp only
 have:=RM h
 rw[gx h]at this
 exact pb (λn=>some (AV.float .f64 n)) this
theorem J5{x n:Nat} (h:(DF.read x).toInt .zero=some (n:Int)) (B:n<2^53):yK .i64 (.float .f64 x)=some (.int .i64 n):=by
 have A:(FloatKind.f64.decode x).toInt .zero=some (n:Int):=h
 simp only[yK,A];rw[gc];constructor
 ·have:IntKind.i64.min=-(2^63):=Ts
  omega
 ·have:IntKind.i64.max=2^63-1:=Ts
  omega
theorem z_1:DF.mul PL (2^63)=some (2^63):=by decide+kernel
theorem z_4:(DF.read (2^63)).toInt .zero=some ((0:Nat):Int):=by decide+kernel
theorem abz:FloatKind.f64.decode (2^63)=.number true 0 (-1074):=by decide+kernel
theorem abA:FloatKind.f64.encode ((Datum.number true 0 (-1074)).integral .even)=2^63:=by decide+kernel
theorem z_3:D4 (2^63)=some (.float .f64 (2^63)):=by
 unfold D4;rw[abz]
 show some (AV.float .f64 (FloatKind.f64.encode ((Datum.number true 0 (-1074)).integral .even)))=_
 rw[abA]
theorem L0(O:s<2^64) (h:PM s=true):∃x y,DF.mul PL s=some x/\D4 x=some (.float .f64 y)/\yK .i64 (.float .f64 y)=some (.int .i64 (tk s)):=by
 obtain⟨a,L,D⟩:=z8.1 h
 have ht:=J4 L
 rcases Oh O L ST ST with⟨M,A⟩|⟨rfl,A⟩
 ·have A:a=rV s:=ST
  subst A
  have hX:=R7 D
  have B:=V7 D
  refine⟨V6 (rV s),LS (tM (rV (V6 (rV s))) 1074),(V3 M).1,V8 hX,?_⟩;rw[ht]
  exact J5 (LV (by unfold LZ at B;omega)) ST
 ·have A:a=0:=ST
  subst A;refine⟨2^63,2^63,z_1,z_3,?_⟩;rw[ht,Tl]
  exact J5 z_4 ST
theorem J6{d:Nat} (h:a<=b) (A:d<=c):a-c<=b-d:=by omega
theorem BB{x y:Nat} (h:x*2^c<=y*2^c):x<=y:=LE h (bT c)
theorem V9(hk:1<=k) (am:k<=9999) (h1:10*a<=1024*k) (h2:1024*k<=10*(a+1)):∃s,DF.div (LS k) PL=some s/\Fin s/\a*2^1064<=rV s/\rV s<=(a+1)*2^1064:=by
 obtain⟨f1,f2⟩:=J0 (n:=k) ST
 generalize LS k=r at*
 have hd:=V2 r
 rw[kZ]at f2
 -- the number is a normal one
 have al:2^52<=r:=by
  refine Nat.le_of_not_lt λh=>?_
  have e1:yo r=r:=by unfold yo;rw[gc h]
  have e2:jv r=0:=by unfold jv;rw[gc h]
  rw[e1,e2,H3,px]at f2
  have:1*2^1074<=k*2^1074:=io _ hk
  have:(2:Nat)^52<=2^1074:=nb ST ST
  omega
 have L:2^52<=yo r:=by unfold yo;rw[fx ST];omega
 have aa:(yo r).log2=52:=by
  have O:yo r≠0:=ST
  have a1:(yo r).log2<53:=(Nat.log2_lt O).2 hd
  have a2:52<=(yo r).log2:=(Nat.le_log2 O).2 L
  omega
 have hp:jv r<=1036:=by
  refine Nat.le_of_not_lt λh=>?_
  have b1:2^52*2^1037<=yo r*2^jv r:=Nat.mul_le_mul L (nb ST h)
  rw[f2,<-kw]at b1
  have b2:k*2^1074<2^15*2^1074:=Do ST (bT _)
  rw[<-kw]at b2;omega
 have ab:(5*2^50:Nat).log2=52:=Ts
 have M:54+(5*2^50:Nat).log2-(yo r).log2=54:=by rw[aa,ab]
 have A:DF.div r PL=some (Rg ((2*(yo r*2^54/(5*2^50))+(yo r*2^54%(5*2^50) !=0).toNat)*2^(jv r+1120))):=by
  unfold Format.div;rw[EH,gx f1]
  have ac:DF.fractionBits+2=54:=rfl
  rw[ac];unfold Datum.quotient;dsimp only
  rw[fx ST,M,pC,mi]
  have:((-1074+(jv r:Int))- -49-(54:Nat)-1+2200).toNat=jv r+1120:=ST
  rw[show(false^^false)=false from rfl,lW _ _ ST,this]
 obtain⟨n,hn⟩:∃n:Nat,n=5*2^50:=⟨_,rfl⟩
 rw[<-hn]at A
 obtain⟨D,R⟩:∃D:Nat,D=yo r*2^54:=⟨_,rfl⟩
 rw[<-R]at A;refine⟨_,A,?_⟩
 -- the floor against a V4 number
 have B:∀z:Nat,(z*2^(1069-jv r))*n*2^jv r=5*z*2^1119:=by
  intro z;rw[hn]
  have:z*2^(1069-jv r)*(5*2^50)*2^jv r=5*z*(2^(1069-jv r)*2^50*2^jv r):=by
   simp only[mn,Nat.mul_left_comm,p4]
  rw[this,<-kw,<-kw]
  rw[show 1069-jv r+50+jv r=1119 by omega]
 have hD:D*2^jv r=512*k*2^1119:=by
  rw[R]
  have:yo r*2^54*2^jv r=yo r*2^jv r*2^54:=by exact Nat.mul_right_comm _ _ _
  rw[this,f2,mn,<-kw,show 1074+54=9+1119 by omega,kw,<-mn,p4 k]
 have V:0<n:=ST
 have lo:∀z,5*z<=512*k->z*2^(1069-jv r)<=D/n:=by
  intro z hz;rw[QQ V]
  refine BB (c:=jv r) ?_
  rw[B,hD];exact io _ hz
 have hi:∀z,512*k<=5*z->2*(D/n)+(D%n !=0).toNat<=2*(z*2^(1069-jv r)):=by
  intro z hz
  have ak:D<=z*2^(1069-jv r)*n:=by
   refine BB (c:=jv r) ?_
   rw[B,hD];exact io _ hz
  generalize z*2^(1069-jv r)=Z at*
  have ad:=Hd D n
  have h3:D/n<=Z:=by
   rw[<-Kp Z V];exact Nat.div_le_div_right ak
  by_cases O:D%n=0
  ·simp[O];omega
  ·have h4:D/n<Z:=by
    refine Nat.lt_of_le_of_ne h3 λe=>?_
    rw[e,p4]at ad;omega
   have h5:(D%n !=0).toNat=1:=by simp[O]
   omega
 have sc:∀z:Nat,z*2^1064*2^1126=2*(z*2^(1069-jv r))*2^(jv r+1120):=by
  intro z
  have:2*(z*2^(1069-jv r))*2^(jv r+1120)=z*(2^1*2^(1069-jv r)*2^(jv r+1120)):=by
   simp only[Nat.mul_left_comm,p4,Nat.pow_one]
  rw[this,<-kw,<-kw,mn,<-kw]
  rw[show 1+(1069-jv r)+(jv r+1120)=1064+1126 by omega]
 have ag:a*2^1064*2^1126<=(2*(D/n)+(D%n !=0).toNat)*2^(jv r+1120):=by
  rw[sc]
  have:=lo a ST
  exact io _ ST
 have ae:(2*(D/n)+(D%n !=0).toNat)*2^(jv r+1120)<=(a+1)*2^1064*2^1126:=by
  rw[sc]
  exact io _ (hi (a+1) ST)
 have hb:a+1<2^53:=ST
 exact z6 ag ae hb
theorem Gy(A:1024*k<c+512) (B:c<1024*k+512):tM c 10=k:=by
 unfold tM;split<;>omega
theorem Oj(c:Nat):tM (c*2^1064) 1074=tM c 10:=lV c 10 1064
theorem EK(B:a*2^1064<=v) (A:v<=b*2^1064) (hb:b<2^40) (h3:1024*k<10*a+512) (h4:10*b<1024*k+512):LZ v=k:=by
 have e:∀z:Nat,10*(z*2^1064)=10*z*2^1064:=λz=>by rw[mn]
 have R:=z6 (N:=10*v*2^1126) (a:=10*a) (b:=10*b) (by rw[<-e];exact io _ (xv _ B)) (by rw[<-e];exact io _ (xv _ A)) ST
 obtain⟨_,L,D⟩:=R
 have O:=wL L 1074
 have M:=wL D 1074
 rw[Oj]at O M
 have V:a<=b:=BB (kf B A)
 have r1:=Gy (c:=10*a) (k:=k) ST ST
 have Z:=Gy (c:=10*b) (k:=k) ST ST
 have:LZ v=tM (rV (Rg (10*v*2^1126))) 1074:=rfl
 omega
theorem J7:30*2^1064<=rV pT:=by decide+kernel
theorem EL:rV pT<=31*2^1064:=by decide+kernel
theorem abB:1023897*2^1064<=rV sB:=by decide+kernel
theorem Ol:DF.div (LS 9999) PL=some sB:=by decide+kernel
theorem Zr:DF.div (LS 0) PL=some 0:=by decide+kernel
theorem R8:LZ (rV pT)=0:=by decide+kernel
def near(off k:Nat):Prop:=ltF off 0=false->Tk off sB=false->PM off=true/\tk off=k
theorem EM(A:Fin v) (ht:LZ (rV v)=k):near v k:=by
 intro D B;rw[RS,nA A,J3]at B;simp only[Xd,lL]at B
 exact⟨z8.2 ⟨rV v,nA A,ST⟩,by rw[J4 (nA A)];exact ht⟩
theorem back(hk:k<=9999):∃s u d,DF.div (LS k) PL=some s/\DF.add s pT=some u/\DF.sub s pT=some d/\s<2^64/\u<2^64/\PM s=true/\tk s=k/\near u k/\near d k/\d<2^64:=by
 by_cases h0:k=0
 ·subst h0
  have hd:DF.sub 0 pT=some (2^63+pT):=by decide+kernel
  have hu:DF.add 0 pT=some pT:=by decide+kernel
  refine⟨0,pT,2^63+pT,Zr,hu,hd,ST,by unfold pT;omega,z8.2 ⟨0,J2,ST⟩,by rw[J4 (a:=0) J2];exact Tl,EM z7 R8,?_,by unfold pT;omega⟩
  intro B;rw[RR,J1 z7,J2]at B;simp only[Xd,lL]at B
  have:0<rV pT:=by decide+kernel
  omega
 ·obtain⟨s,B,D,O,M⟩:=V9 (k:=k) (a:=1024*k/10) ST hk ST ST
  generalize ha:1024*k/10=a at*
  have aa:10*a<=1024*k:=ST
  have ab:1024*k<=10*a+9:=ST
  have A:rV s<=rV sB:=by
   by_cases Z:k=9999
   ·subst Z
    rw[Ol]at B;cases B;exact im _
   ·refine kf M (kf (io _ ST) abB)
  have V:LZ (rV s)=k:=EK O M ST ST ST
  have L:rV pT<=rV s:=kf EL (kf (io _ ST) O)
  have R:=z6 (N:=(rV s+rV pT)*2^1126) (a:=a+30) (b:=a+1+31) (io _ (by rw[Nat.add_mul];exact Nat.add_le_add O J7)) (io _ (by rw[Nat.add_mul (a+1)];exact Nat.add_le_add M EL)) ST
  have hD:=z6 (N:=(rV s-rV pT)*2^1126) (a:=a-31) (b:=a+1-30) (io _ (by rw[Nat.sub_mul];exact J6 O EL)) (io _ (by rw[Nat.sub_mul];exact J6 M J7)) ST
  refine⟨s,_,_,B,add_pos D z7,sub_pos D z7 L,?_,?_,z8.2 ⟨rV s,nA D,A⟩,by rw[J4 (nA D)];exact V,?_,?_,?_⟩
  ·unfold Fin at D;omega
  ·have:=R.1;unfold Fin at this;omega
  ·exact EM R.1 (EK R.2.1 R.2.2 ST ST ST)
  ·exact EM hD.1 (EK hD.2.1 hD.2.2 ST ST ST)
  ·have:=hD.1;unfold Fin at this;omega
abbrev Fl (x:Nat):AV:=.float .f64 x
theorem Zs:dO .geq (.float .f64 x) (.float .f64 y)=some (.bool (Mt x y)):=rfl
theorem Zt:dO .leq (.float .f64 x) (.float .f64 y)=some (.bool (LY x y)):=rfl
theorem Zu:dO .gtr (.float .f64 x) (.float .f64 y)=some (.bool (Tk x y)):=rfl
theorem Zv:dO .lss (.float .f64 x) (.float .f64 y)=some (.bool (ltF x y)):=rfl
theorem Zw:dO .eql (.float .f64 x) (.float .f64 y)=some (.bool (eqF x y)):=rfl
theorem Zx:dO .neq (.float .f64 x) (.float .f64 y)=some (.bool (!eqF x y)):=rfl
theorem Zy:dO .mul (.float .f64 x) (.float .f64 y)=HM .f64 (DF.mul x y):=rfl
theorem Zz:dO .sub (.float .f64 x) (.float .f64 y)=HM .f64 (DF.sub x y):=rfl
theorem ZA:dO .add (.float .f64 x) (.float .f64 y)=HM .f64 (DF.add x y):=rfl
theorem ZB:dO .quo (.float .f64 x) (.float .f64 y)=HM .f64 (DF.div x y):=rfl
theorem ZC:TP .neg (.float .f64 x)=some (.float .f64 (Op.negFloat .f64 x)):=rfl
theorem R9(r:Nat):HM .f64 (some r)=some (.float .f64 r):=rfl
theorem n_l:dO op .d8 (.float .f64 y)=uJ op:=by cases op<;>rfl
theorem n_r:dO op (.float .f64 y) .d8=uJ op:=by cases op<;>rfl
theorem n_b:dO op .d8 .d8=uJ op:=by cases op<;>rfl
theorem ZD:uJ .neq=some (.bool true):=rfl
theorem ZE:uJ .eql=some (.bool false):=rfl
theorem ZF:uJ .sub=some .d8:=rfl
theorem ZG:uJ .leq=some (.bool false):=rfl
theorem ZH:uJ .lss=some (.bool false):=rfl
theorem ZI:uJ .geq=some (.bool false):=rfl
theorem ZJ:uJ .gtr=some (.bool false):=rfl
def NAN:=cG @n_l (cG @n_r (cG @n_b (cG ZD (cG ZE (cG ZF (cG ZG (cG ZH (cG ZI ZJ))))))))
def Tm:=cG @R9 (cG @Zs (cG @Zt (cG @Zu (cG @Zv (cG @Zw (cG @Zx (cG @Zy (cG @Zz (cG @ZA (cG @ZB @ZC))))))))))
def L1(s:Nat):AV:=.cU [I (if PM s then(tk s:Int)else 0),B (PM s)]
def BC.Spec(C:bk) (f:Nat):Prop:=∀s:Nat,s<2^64->C.c f [Fl s] (L1 s) none
end
section
variable{P:Program} (hm:P.follows .mixedOrders=true) {f:Nat}
include hm
theorem BC.ok(hc:bY P f=some ux):BC.Spec (Pure P) f:=by
 intro s V
 have M:PM s=(Mt s 0&&LY s 4652006429231887155):=rfl
 obtain⟨b1,A⟩:∃b,Mt s 0=b:=⟨_,rfl⟩
 obtain⟨b2,L⟩:∃b,LY s 4652006429231887155=b:=⟨_,rfl⟩
 rw[A,L]at M
 have O:=λh=>L0 (s:=s) V h
 clear V;refine aq hm hc [] rfl ?_;try simp only[I,B,D,RX,↓KW,seval,ux,Z.H,Tm]
 cases b1<;>cases b2
 ·try simp only[I,B,D,RX,↓KW,seval,Tm,A,L]
  rw[L1,M];rfl
 ·try simp only[I,B,D,RX,↓KW,seval,Tm,A,L]
  rw[L1,M];rfl
 ·try simp only[I,B,D,RX,↓KW,seval,Tm,A,L]
  rw[L1,M];rfl
 ·obtain⟨x,y,e1,e2,e3⟩:=O M
  have R:DF.mul 4621819117588971520 s=some x:=e1
  try simp only[I,B,D,RX,↓KW,seval,Tm,A,L,R,e2,e3]
  rw[L1,M];rfl
end
section
open Z
def cQ:List AV:=(⟨_,by conv=>lhs;cbv⟩:cB (PK [(0,7),(1,2),(0,10),(1,2),(0,10),(1,2),(0,10),(1,2),(0,10),(1,2),(0,10),(1,2),(0,10),(1,2),(0,10),(1,2),(0,6),(1,1),(0,16),(2,1)])).1
def zu(A:Nat):cj:=(⟨_,by conv=>lhs;cbv⟩:cB (cM 4 [.tmp 2] [] [] 0xa0800e200d81a20 [] [.ie] [.xN (.func A) [] [.t 1]])).1
end
structure Sh where
 ay:List Int
 time:List Int
 dz:List Int
 bu:List Int
 entry:Bool
 deriving Inhabited,DecidableEq
def Sh.cells(s:Sh):List AV:=s.ay.map I++(s.time.map I++(s.dz.map I++(s.bu.map I++[B s.entry])))
section
variable (s:Sh) (p:Nat)
structure Sh.Ok (s:Sh):Prop where
 ay:s.ay.length=8
 time:s.time.length=8
 dz:s.dz.length=8
 bu:s.bu.length=8
def Sh.c:Int:=s.ay.getD p 0
def Sh.t:Int:=s.time.getD p 0
def Sh.f:Int:=s.dz.getD p 0
def Sh.ft:Int:=s.bu.getD p 0
end
section
variable (C:bk) {p:Nat} {s:Sh} {t:Tb} (f:Nat)
theorem Sh.len(h:s.Ok):s.cells.length=33:=by simp[Sh.cells,h.ay,h.time,h.dz,h.bu]
theorem Sh.at(h:s.Ok) (A:p<8):s.cells[p]? =some (I (s.c p))/\s.cells[8+p]? =some (I (s.t p))/\s.cells[16+p]? =some (I (s.f p))/\s.cells[24+p]? =some (I (s.ft p)):=by
 have B:=h.ay;have D:=h.time;have L:=h.dz;have M:=h.bu
 refine⟨?_,?_,?_,?_⟩
 ·simp[Sh.cells,Sh.c,B,A,sh]
 ·simp[Sh.cells,Sh.t,B,D,sh,A,show ¬(8+p<8)by omega]
 ·simp[Sh.cells,Sh.f,B,D,L,sh,A,show ¬(16+p<8)by omega,show ¬(16+p-8<8)by omega,show 16+p-8-8=p by omega]
 ·simp[Sh.cells,Sh.ft,B,D,L,M,sh,A,show ¬(24+p<8)by omega,show ¬(24+p-8<8)by omega,show ¬(24+p-8-8<8)by omega,show 24+p-8-8-8=p by omega]
theorem Sh.whole(h:s.Ok):aH s.cells 0 (some 33)=some (.agg s.cells):=by
 have:=Sh.len h
 simp[aH,this];rw[<-this,l0]
structure ac6 (t:Tb) (a b:Sh):Prop where
 t:t.Ln
 a:a.Ok
 b:b.Ok
theorem Tb.Ln.BD(h:t.Ln) {k:Nat} (hk:k<8):t.phases[k]? =some (aD t k):=by
 have:k<t.phases.length:=by rw[h.phases];exact hk
 simp[aD,this]
def fj(t:Tb) (p:Nat):Int:=t.conflict.getD p 0
theorem Tb.Ln.Om(h:t.Ln) (A:p<8):t.cells[105+p]? =some (I (fj t p)):=by
 refine h.nq ?_
 have:p<t.conflict.length:=by rw[h.conflict];exact A
 simp[fj,this]
def bh(n:Int):Int:=IntKind.i64.wrap (iO n 0 9999+1)
def vk.Spec:Prop:=∀s:Int,∃g,C.c f [I s] (.fn (.func g) [] [.ref [I s]]) none/\C.i (.fn (.func g) [] [.ref [I s]]) (((List.range 8).filter λp=>tb s p).map λ(p:Nat)=>[I p])
def sC.Spec:Prop:=∀s:Int,C.i (.fn (.func f) [] [.ref [I s]]) (((List.range 8).filter λp=>tb s p).map λ(p:Nat)=>[I p])
end
section
variable{P:Program} (hm:P.follows .mixedOrders=true) {f:Nat}
include hm
theorem setEach.ok{f1:Nat} (B:bY P f=some (zu f1)) (A:sC.Spec (Pure P) f1):vk.Spec (Pure P) f:=by
 intro s;refine⟨f1,?_,A s⟩;refine aq hm B [] rfl ?_;try simp only[I,RX,↓KW,Nat.reduceBEq,Nat.reduceAdd,zu,Z.H]
 simp
end
section
open Z
def BE(A:Nat):cj:=⟨19,[.tmp 2],r [o 1 (w 0),V 2 (i 0)] (r [V 3 (i 0)] (j (r [o 6 (f 1 0),o 7 (L 6 104),V 8 (i 0)] (u 0 (.loop (r [o 9 (bb .lss 8 (i 8))] (j (c 9 z (.exit 0)) (j (u 1 (r [M 10 8,o 11 (.HL (t 7) (t 8) 8 13 (some 13)),o 5 (.alloc f8),M 4 10,n (s 5 11 13)] (r [o 12 (f 5 0),o 13 (l 12)] (c 13 (R [M 14 3,M 15 4,o 16 (.call A [t 14,t 15]),M 3 16]) z)))) (R [o 17 (bb .add 8 (i 1)),M 8 17]))))))) (r [M 18 3,M 2 18] y)))⟩
def nZ(A B:Nat):cj:=(⟨_,by conv=>lhs;cbv⟩:cB (cM 51 [.tmp 4,.tmp 5,.tmp 6,.tmp 7] [A,B] [0,2,1] 0xa642fe13117f0980bf85a01f85b857853978bc1000545e023805c2f2af9081b17808e0168bcabe420845e022422fe02c17957c858256158bf84a85fc29019c35c31c2e0080541f1e104c2f018128bf8560010522a42a0ae692c08641a3108470181403e2f0180f0bf84d001c42806e652c086243462104e030a78d0be0404322fe9e51717f8004bc824922a42c02e612c08641a31080701814046817d1217cd00d8d4c85fc2622fe13017f0b403f0b70af0a72f1782000a8bc04700b85e55f210362f011c02d17957c84108bc044845fc0582f2af90b04ac2b17f0950bf85203386b86385c0100a83e3c20985e0302517f0ac0020a45485415cd25810c83462108e0302807c5e0301e17f09a00388500dcca5810c4868c4209c0614f1a17c0808645fd3ca2e2ff000979049245485805cc25810c83462100e0302808d02fa242f9a018071b2cc0180300442002010a0f80898044223fb808061b300600c011005b50 [[.bF,.bF]] [] [.HL (.t 26) (.t 27) 2 1 none])).1
def Dy(A:Nat):cj:=(⟨_,by conv=>lhs;cbv⟩:cB (cM 18 [.tmp 2] [A] [0,1] 0x5040a222f010080098e01017957c84180118602065e1580510a004126a980b984b0219068c4201c06051b00c0c0608004810)).1
end
section
variable{t:Tb} (h:t.Ln)
include h
theorem Wa:t.cells[104]? =some (aI Gr.cells t.groups):=by
 simp[Tb.cells,sh,aM Ph.len,h.phases,h.conflict,h.dc,List.getElem?_cons]
end
section
variable (x:Nat)
def lvl:Bool:=Tk x 0&&LY x 4696837146684686336
def abC:Bool:=decide (IntKind.i64.wrap (x:Int)<0)
def BF:Bool:=PM x&& !abC x
def xP.Fw(d:xP):Prop:=d.on<2^64/\d.off<2^64/\d.delay<2^64/\d.extend<2^64
def Tb.Fw(t:Tb):Prop:=∀d∈t.aQ.getD [],d.Fw
def Sh.ZK(s:Sh) (k:Nat) (x:Int):Sh:={s with time:=s.time.set k x}
end
section
variable{s:Sh} (h:s.Ok) {k:Nat} (hk:k<8) (x:Int)
include h
theorem Sh.CF:(s.ZK k x).Ok:=⟨h.ay,by simp[Sh.ZK,h.time],h.dz,h.bu⟩
include hk
end
structure d4 where
 group:Int
 a0:Int
 a1:Int
 dF:Bool
 deriving Inhabited,DecidableEq
def d4.cells(r:d4):List AV:=[I r.group,I r.a0,I r.a1,B r.dF]
structure Pr where
 ax:Int
 which:Int
 time:Int
 held:List Int
 dR:Int
 deriving Inhabited,DecidableEq
def Pr.cells(p:Pr):List AV:=I p.ax::I p.which::I p.time::(p.held.map I++[I p.dR])
structure Ch where
 on:Bool
 cJ:Int
 PN:Int
 CT:Int
 held:Int
 tail:Int
 out:Bool
 deriving Inhabited,DecidableEq
def Ch.cells(c:Ch):List AV:=[B c.on,I c.cJ,I c.PN,I c.CT,I c.held,I c.tail,B c.out]
structure bA where
 runs:List Rn
 rings:d4
 jZ:Rd
 pre:Pr
 calls:Cs
 iq:Option (List Ch)
 deriving Inhabited,DecidableEq
def bA.cells(s:bA):List AV:=cE s.runs++(s.rings.cells++(s.jZ.cells++(s.pre.cells++(s.calls.cells++[aI Ch.cells s.iq]))))
structure bA.Ok (s:bA):Prop where
 runs:s.runs.length=8
 lock:s.jZ.lock.length=4
 held:s.pre.held.length=4
def bA.rn(s:bA) (k:Nat):Rn:=s.runs.getD k default
section
variable{s:bA} (h:s.Ok)
include h
theorem bA.len:s.cells.length=117:=by
 simp[bA.cells,c7 h.runs,d4.cells,Rd.cells,Pr.cells,Cs.cells,h.lock,h.held]
theorem bA.whole:aH s.cells 0 (some 117)=some (.agg s.cells):=by
 have:=bA.len h
 simp[aH,this];rw[<-this,l0]
theorem bA.L2:aH s.cells 0 (some 96)=some (.agg (cE s.runs)):=by
 have:=gq (pre:=[]) (mid:=cE s.runs) (post:=s.rings.cells++(s.jZ.cells++(s.pre.cells++(s.calls.cells++[aI Ch.cells s.iq])))) (off:=0) (z:=96) rfl (c7 h.runs)
 exact this
theorem bA.IG{k j:Nat} (hk:k<8) (A:j<12):s.cells[k*12+j]? =(s.rn k).cells[j]?:=by
 rw[bA.cells,km (by rw[c7 h.runs];omega)]
 exact j8 (jm h.runs hk) A
end
section
variable {c:List Int} {k p q:Nat} (t:Tb)
theorem bA.Tn{s:bA} (h:s.Ok) (hk:k<8) (r:Rn):setCells s.cells (k*12) r.cells={s with runs:=s.runs.set k r}.cells:=by
 have B:=h.runs
 have A:s.runs[k]? =some (s.rn k):=by
  have:k<s.runs.length:=ST
  simp[bA.rn,this]
 unfold bA.cells cE;simp only;rw[NR A,IR,xo]
 conv=>lhs;rw[jT A]
 rw[List.append_assoc,List.append_assoc,List.append_assoc,List.append_assoc]
 exact pL (by rw[aM Rn.len,kB A]) rfl
def BG(x:Ph):Rn:=⟨0,9999,0,0,0,0,0,false,false,x.max,0,0⟩
def jC(k:Nat):bA:=⟨(List.range 8).map λp=>if p<k then BG (aD t p)else default,⟨0,0,0,false⟩,⟨[0,0,0,0],0,0⟩,⟨0,0,0,[0,0,0,0],0⟩,⟨0,0⟩,none⟩
def tY:bA:={jC t 8 with rings:=⟨0,-1,-1,false⟩}
theorem Oo(k:Nat):(jC t k).Ok:=⟨by simp[jC],rfl,rfl⟩
theorem lO:(tY t).Ok:=⟨by simp[tY,jC],rfl,rfl⟩
theorem II(hk:k<8):{jC t k with runs:=(jC t k).runs.set k (BG (aD t k))}=jC t (k+1):=by
 have:k=0\/k=1\/k=2\/k=3\/k=4\/k=5\/k=6\/k=7:=ST
 rcases this with rfl|rfl|rfl|rfl|rfl|rfl|rfl|rfl<;>simp[jC,lm]
def z9.Spec(C:bk) (f:Nat):Prop:=∀t:Tb,t.Ln->C.c f [.agg t.cells] (.agg (tY t).cells) none
theorem BH(A:Rn->Bool) (l:List Rn):∀k,k<=8->∀i,tb (iw A l k) i=(decide (i<k)&&A (l.getD i default))
 |0,_,i=>by simp[iw,bX]
 |k+1,h,i=>by
  have B:=BH A l k ST i
  simp only[iw];split
  ·rename_i hk
   rw[jl ST,B]
   by_cases e:i=k
   ·subst e;simp only[Hk,H4,show i<i+1 from Nat.lt_succ_self i,na];exact hk.symm
   ·have:(i<k+1)↔i<k:=ST
    simp[e,this];omega
  ·rename_i hk
   rw[B]
   by_cases e:i=k
   ·subst e
    simp only[P0]at hk;rw[hk];simp
   ·have:(i<k+1)↔i<k:=ST
    simp[this]
theorem sD{s:Int} (B:p<8) (i:Nat):tb (gw s p) i=(decide (i<8)&&(tb s i||decide (i=p))):=by
 rw[gw,Dw]
 by_cases h:i<8
 ·have:((i:Int)∈iC s++[(p:Int)])↔(tb s i=true\/i=p):=by
   simp only[iC,ka,sa,kp,ib,nz];rw[z5 h];constructor
   ·rintro(⟨_,A⟩|A)
    ·exact .inl A
    ·exact .inr ST
   ·rintro(A|A)
    ·exact .inl ⟨⟨i,h,rfl⟩,A⟩
    ·exact .inr ST
  simp[h,this]
 ·simp[h]
theorem Gz(l:List Rn):∀k,k<=8->∀i,tb (tL l k) i=(decide (i<k)&&(l.getD i default).ay==1)
 |0,_,i=>by simp[tL,bX]
 |k+1,h,i=>by
  have A:=Gz l k ST i
  simp only[tL];split
  ·rename_i hk
   rw[sD ST,A]
   by_cases e:i=k
   ·subst e;simp only[Hk,H4,show i<i+1 from Nat.lt_succ_self i,na,hk];simp;omega
   ·have:(i<k+1)↔i<k:=ST
    simp[e,this];omega
  ·rename_i hk
   rw[A]
   by_cases e:i=k
   ·subst e
    simpa using hk
   ·have:(i<k+1)↔i<k:=ST
    simp[this]
theorem L3{t:Tb} {s:Rd} {A:List Rn} {ask:Int} (L:p<8) (h:tb (wJ t s A ask) p=true):
  tb (dh .i64 ((ij t (oB t s ask)).foldl (Gq t) 0) (tL A 8)) p=true/\(A.getD p default).extra<t.extend:=by
 unfold wJ at h;split at h
 ·rw[bX]at h;cases h
 ·rw[kY,BH _ _ 8 ST,dT]at h
  rw[kY,Gz _ 8 ST,dT]
  obtain⟨D,B⟩:=h;simp only[L,Hk,na,Bw,dT,gn]at B⊢;exact⟨⟨D,B.1⟩,B.2⟩
structure ac7 (t:Tb) (s:Rd):Prop where
 len:s.lock.length=4
 dR:s.dR=0
 lo:∀k,0<=pS s k/\pS s k<=30
 off:∀k,mG t<=k->pS s k=0
 was:∀k,tb s.was k=true->k<mG t
def Oq(c:List Int):Prop:=∀i j:Nat,i<8->j<8->tb (uv c i) j=tb (uv c j) i
theorem Aa{i:Nat} {v:Int} (A:p<c.length):uv (c.set p v) i=if i=p then v else uv c i:=by
 simp only[uv,fi,List.getElem?_set]
 by_cases h:p=i
 ·subst h;simp[A]
 ·have:¬i=p:=λe=>h e.symm
  simp[h,this]
theorem L4{t:Tb} {l:Option (List Int)} (hc:c.length=8) (O:p<8) (R:q<p) (h:Oq c):Oq (eO t l p q c):=by
 unfold eO;split
 ·intro i j M L
  have A:p<c.length:=ST
  have B:q<(c.set p (gw (uv c p) q)).length:=by simp;omega
  have D:¬q=p:=ST
  simp only[Aa B,Aa A,D,ik]
  have hs:=h i j M L
  by_cases h1:i=q<;>by_cases V:j=q<;>by_cases h3:i=p<;>by_cases Z:j=p<;>
   simp_all [sD,show q<8 by omega]<;>omega
 ·exact h
theorem GA{t:Tb} {l:Option (List Int)} {p:Nat} {c:List Int} (B:c.length=8) (A:p<8) (h:Oq c):∀q,q<=p->Oq (gW t l p q c)
 |0,_=>h
 |q+1,D=>L4 (by rw[kC,B]) A ST (GA B A h q ST)
theorem J8{t:Tb} {l:Option (List Int)}:∀p,p<=8->Oq (eE t l p)
 |0,_=>by
  intro i j B D
  have:∀i:Nat,uv (eE t l 0) i=0:=by
   intro i
   simp only[uv,eE,fi,PP];split<;>rfl
  rw[this,this,bX,bX]
 |p+1,A=>GA (cX p) ST (J8 p ST) p (im p)
theorem L5(l:Option (List Int)) (A:p<8) (B:q<8):tb (fj (aR l) p) q=tb (fj (aR l) q) p:=
 J8 (dn l).2 (tI l) p q A B
end
section
variable{t:Tb} (h:t.Ln)
include h
theorem Wb:aH t.cells 0 (some 104)=some (.agg (t.phases.flatMap Ph.cells)):=by
 have e:(t.phases.flatMap Ph.cells).length=104:=by rw[aM Ph.len,h.phases]
 have l:=h.len
 simp only[aH]
 rw[gc ST,l3,Tb.cells,IO e]
end
section
variable (C:bk) {i k m n p:Nat} {t:Tb} {x:Int} (f:Nat) (l:List Int) (s:Int)
def Can:Prop:=0<=s/\s<256
theorem oE{s:Int} (h:Can s) (D:8<=i) (A:i<64):tb s i=false:=by
 rw[ve s A]
 have L:(2:Int)^8<=2^i:=by
  have e:(2:Int)^i=2^8*2^(i-8):=by rw[<-Int.pow_add];congr 1;omega
  have:(1:Int)<=2^(i-8):=by have:=Int.pow_pos (n:=(2:Int)) (m:=i-8) Ts;omega
  rw[e];have B:(2:Int)^8=256:=rfl
  rw[B];omega
 have:s.fdiv (2^i)=0:=by
  rw[LT _ ST]
  exact Int.ediv_eq_zero_of_lt h.1 (by have:=h.2;omega)
 rw[this];rfl
theorem lP{y:Int} (O:Can x) (M:Can y) (h:∀i,i<8->tb x i=tb y i):x=y:=by
 have R:bv x=bv y:=by
  apply Hn
  intro i V
  have A:i<64:=V
  rcases ix i 8 with B|B
  ·exact h i B
  ·have a:=oE O B A
   have b:=oE M B A
   simp only[tb]at a b;rw[a,b]
 have:=pb BitVec.toNat R
 simp only[bv,M2]at this
 have D:=O;have L:=M
 unfold Can at D L
 have e:((2^64:Nat):Int)=18446744073709551616:=Ts
 rw[e]at this;omega
theorem Wc(B:0<=x) (M:x<18446744073709551616) (h:∀i,8<=i->i<64->tb x i=false):Can x:=by
 refine⟨B,?_⟩
 have L:(bv x).toNat=x.toNat:=by
  simp only[bv,M2]
  have e:((2^64:Nat):Int)=18446744073709551616:=Ts
  rw[e];omega
 have:x.toNat<2^8:=by
  apply Nat.lt_pow_two_of_testBit
  intro i D
  rcases ix i 64 with A|A
  ·have:=h i D A
   simp only[tb,BitVec.getLsbD]at this;rw[<-L];exact this
  ·apply QP
   have:x.toNat<2^64:=by
    omega
   exact po this (nb Ts A)
 omega
theorem BI(b:BitVec 64) (h:b.getLsbD 63=false):IntKind.i64.wrap (b.toNat:Int)=b.toNat/\(b.toNat:Int)<9223372036854775808:=by
 have:b.toNat<2^63:=by
  apply Nat.lt_pow_two_of_testBit
  intro i B
  rcases ix i 64 with A|A
  ·have:i=63:=ST
   subst this;exact h
  ·apply QP
   exact po b.isLt (nb Ts A)
 refine⟨aT ST ST,ST⟩
theorem sE{b:BitVec 64} (h:∀i,8<=i->i<64->b.getLsbD i=false):Can (IntKind.i64.wrap (b.toNat:Int)):=by
 obtain⟨D,L⟩:=BI b (h 63 Ts Ts)
 rw[D]
 refine Wc ST ST λi B A=>?_
 simp only[tb,EC];exact h i B A
theorem sF{s:Int} (A:p<8):Can (dr s p):=by
 have:dr s p=IntKind.i64.wrap (((bv (dh .i64 s 255))|||bv (jc p)).toNat:Int):=rfl
 rw[this]
 refine sE λi L D=>?_
 rw[BitVec.getLsbD_or]
 have a:=kY s 255 i
 have b:=Bt A i
 simp only[tb]at a b;rw[a,b]
 have c:=nW i
 simp only[tb]at c;rw[c]
 have:¬i<8:=ST
 have B:¬i=p:=ST
 simp[this,B]
theorem GB(l:List Int):∀k,k<=8->Can (u7 l k)
 |0,_=>by show Can 0;exact⟨Ts,Ts⟩
 |k+1,h=>by
  have B:=GB l k ST
  simp only[u7];split
  ·have e:qV .i64 (u7 l k) (2^k)=IntKind.i64.wrap ((bv (u7 l k)|||bv (2^k)).toNat:Int):=rfl
   rw[e]
   refine sE λi D A=>?_
   rw[BitVec.getLsbD_or]
   have a:=oE B D A
   have b:=ID (p:=k) ST i
   simp only[tb]at a b;rw[a,b]
   have:¬i=k:=ST
   simp[this]
  ·exact B
theorem Ab:Can (RE l):=GB l 8 ST
theorem L6(p:Int):Can (gw s p):=Ab _
theorem Sa(h:t.Ln) (A:p<8):aH (t.phases.flatMap Ph.cells) (p*13) (some 13)=some (.agg (aD t p).cells):=by
 rw[jT (h.BD A)]
 exact gq (by rw[aM Ph.len,kB (h.BD A)]) rfl
def oF(t:Tb):Nat->Int
 |0=>0
 |k+1=>if(aD t k).on then dr (oF t k) k else oF t k
theorem Dz(t:Tb):∀k,k<=8->Can (oF t k)
 |0,_=>by show Can 0;exact⟨Ts,Ts⟩
 |k+1,h=>by
  simp only[oF];split
  ·exact sF ST
  ·exact Dz t k ST
theorem GC(t:Tb) (i:Nat):∀k,k<=8->tb (oF t k) i=(decide (i<k)&&(aD t i).on)
 |0,_=>by simp[oF,bX]
 |k+1,h=>by
  have B:=GC t i k ST
  simp only[oF];split
  ·rename_i hk
   rw[jl ST,B]
   by_cases e:i=k
   ·subst e;simp[hk]
   ·have D:(i<k+1)↔i<k:=ST
    have L:i<k->i<8:=ST
    by_cases A:i<k
    ·simp[D,A,L A,e]
    ·simp[D,A,e]
  ·rename_i hk
   rw[B]
   by_cases e:i=k
   ·subst e;simp[hk]
   ·have:(i<k+1)↔i<k:=ST
    simp[this]
theorem EN(t:Tb) (i:Nat):tb (qW t) i=(decide (i<8)&&(aD t i).on):=by
 rw[qW,Dw]
 by_cases h:i<8
 ·have:(i:Int)∈tX t 8↔(aD t i).on=true:=by
   simp only[tX,sa,kp,ib,Int.natCast_inj];constructor
   ·rintro⟨_,A⟩;exact A
   ·intro A;exact⟨⟨i,h,rfl⟩,A⟩
  simp[h,this]
 ·simp[h]
theorem Wd(t:Tb):oF t 8=qW t:=lP (Dz t 8 ST) (Ab _) λi A=>by rw[GC t i 8 ST,EN]
theorem GD(l:List Gr) (h:n<=m) (hm:m<=l.length):∃r,bS l m=bS l n++r:=by
 induction m with
 |zero=>exact⟨[],by rw[show n=0 by omega];simp⟩
 |succ m B=>
  rcases ix n (m+1)with h1|h1
  ·obtain⟨r,D⟩:=B ST ST
   obtain⟨gr,A⟩:∃x,l[m]? =some x:=⟨_,et ST⟩
   exact⟨r++bH gr m 2,by rw[gk A,D,List.append_assoc]⟩
  ·exact⟨[],by rw[show n=m+1 by omega];simp⟩
theorem GF(gr:Gr) (g:Nat) (hk:k<2):∃r,bH gr g 2=bH gr g k++(bl g k ((gr.row k).getD [])++r):=by
 have:k=0\/k=1:=ST
 rcases this with rfl|rfl
 ·exact⟨bl g 1 ((gr.row 1).getD []),by rw[dm,dm,List.append_assoc]⟩
 ·exact⟨[],by rw[dm];simp⟩
theorem EO(g k:Nat) (row:List Int) (h:n<=m) (hm:m<=row.length):∃r,bl g k (row.take m)=bl g k (row.take n)++r:=by
 induction m with
 |zero=>exact⟨[],by rw[show n=0 by omega];simp⟩
 |succ m L=>
  rcases ix n (m+1)with h1|h1
  ·obtain⟨r,B⟩:=L ST ST
   obtain⟨x,M⟩:∃x,row[m]? =some x:=⟨_,et ST⟩
   have D:=iD (g:=g) (k:=k) M
   by_cases A:0<=x/\x<8
   ·exact⟨r++[⟨g,k,m,x⟩],by rw[D.1 A,B,List.append_assoc]⟩
   ·exact⟨r,by rw[D.2 A,B]⟩
  ·exact⟨[],by rw[show n=m+1 by omega];simp⟩
theorem GG{p:Int} {g:Nat} {gr:Gr} (O:0<=p/\p<8) (D:(t.groups.getD [])[g]? =some gr) (hk:k<2) (L:((gr.row k).getD [])[i]? =some p) (A:∀x∈bS (t.groups.getD []) g++bH gr g k++bl g k (((gr.row k).getD []).take i),x.p≠p):aA t p=(⟨g,k,i,p⟩,true):=by
 have aa:=(e9.1 D).1
 have ab:=(e9.1 L).1
 obtain⟨r1,h1⟩:=GD (t.groups.getD []) (n:=g+1) (m:=(t.groups.getD []).length) ST (im _)
 obtain⟨M,Z⟩:=GF gr g hk
 obtain⟨V,B⟩:=EO g k ((gr.row k).getD []) (n:=i+1) (m:=((gr.row k).getD []).length) ST (im _)
 rw[l0]at B
 have h4:=(iD (g:=g) (k:=k) L).1 O
 have hs:aO t=(bS (t.groups.getD []) g++bH gr g k++bl g k (((gr.row k).getD []).take i))++(⟨g,k,i,p⟩::(V++M++r1)):=by
  rw[aO,h1,gk D,Z,B,h4];simp only[List.append_assoc,ws,lr]
 have R:(aO t).find? (λx=>x.p==p)=some ⟨g,k,i,p⟩:=by
  rw[hs,List.find?_append]
  have:(bS (t.groups.getD []) g++bH gr g k++bl g k (((gr.row k).getD []).take i)).find? (λx=>x.p==p)=none:=by
   rw[se];intro x hx;simpa using A x hx
  rw[this];simp
 simp[aA,R]
theorem DA{p:Int} (h:∀x∈aO t,x.p≠p):aA t p=(⟨0,0,0,0⟩,false):=by
 have:(aO t).find? (λx=>x.p==p)=none:=by
  rw[se];intro x A;simpa using h x A
 simp[aA,this]
theorem gO{x:Sp} (h:x∈aO t):0<=x.p/\x.p<8:=by
 simp only[aO,bS,bH,bl,ui,yr]at h;obtain⟨⟨gr,g⟩,_,k,_,⟨y,i⟩,_,h⟩:=h;simp only at h;split at h
 ·rename_i A;cases h;exact A
 ·cases h
def PO:Int:=l.foldl (λs p=>qV .i64 s (jc p)) 0
def setOf.Spec:Prop:=∀l:Option (List Int),(l.getD []).length<=1000000000->C.c f [aI aE l] (I (PO (l.getD []))) none
def ZL.Spec:Prop:=∀t:Tb,t.Ln->C.c f [.agg t.cells] (I (qW t)) none
def vl.Spec:Prop:=∀(t:Tb) (p:Int),t.Ok->C.c f [.agg t.cells,I p] (.cU [I (aA t p).1.group,I (aA t p).1.ring,I (aA t p).1.pos,B (aA t p).2]) none
theorem EP(p:Int):(PO [p]==0)=!(decide (0<=p)&&decide (p<8)):=by
 simp only[PO,ns,List.foldl_nil]
 by_cases h:0<=p/\p<8
 ·obtain⟨n,rfl⟩:∃n:Nat,p=n:=⟨p.toNat,ST⟩
  have A:n<8:=ST
  have:n=0\/n=1\/n=2\/n=3\/n=4\/n=5\/n=6\/n=7:=ST
  rcases this with rfl|rfl|rfl|rfl|rfl|rfl|rfl|rfl<;>decide
 ·have e:jc p=0:=by unfold jc;rw[gc ST]
  rw[e]
  have:(decide (0<=p)&&decide (p<8))=false:=by
   rw[Bool.and_eq_false_iff];simp only[lL];omega
  rw[this];decide
end
section
variable{P:Program} (hm:P.follows .mixedOrders=true) {f:Nat}
include hm
theorem setOf.ok{D:Nat} (R:bY P f=some (Dy D)) (hB:bit.Spec (Pure P) D):setOf.Spec (Pure P) f:=by
 intro l hl;refine aq hm R [] rfl ?_;try simp only[I,RX,↓KW,Nat.reduceBEq,Nat.reduceAdd,Dy,Z.H]
 refine aN (λk:Nat=>(⟨[(8,.dat (I k) none),(7,.dat (I ((l.getD []).length:Nat)) none),(6,.dat (aI aE l) none),(3,.dat (I (((l.getD []).take k).foldl (λs p=>qV .i64 s (jc p)) 0)) none)],[],[],400⟩:S)) (λk=>(l.getD []).length-k) (λk=>k<=(l.getD []).length) ?_ 0 ST ?_
 rotate_left
 ·refine ai Ts ?_ ?_ ?_ ?_<;>simp[LX,I]
 intro k hk A back
 have B:=aG (k:=k) ST
 try simp only[I,RX,↓KW,Nat.reduceBEq,Nat.reduceAdd]
 cases L:decide ((k:Int)<(((l.getD []).length:Nat):Int))
 ·have e:k=(l.getD []).length:=by have:=dC L;omega
  subst e;rw[l0];try simp only[RX,↓KW,Nat.reduceBEq,Nat.reduceAdd]
  rfl
 ·have O:k<(l.getD []).length:=by have:=dE L;omega
  obtain⟨x,M⟩:∃x,(l.getD [])[k]? =some x:=⟨_,et O⟩
  have V:=lU (f:=λs p=>qV .i64 s (jc p)) (b:=0) M
  try simp only[I,RX,↓KW,Nat.reduceBEq,Nat.reduceAdd,M,aE]
  refine⟨ST,?_⟩
  refine ah (hB x) ?_;try simp only[I,RX,↓KW,Nat.reduceBEq,Nat.reduceAdd]
  refine back (k+1) _ ST ST ?_
  simp only[V]
  refine ai Ts ?_ ?_ ?_ ?_<;>simp[LX,I,B]
theorem ZL.ok{V:Nat} (hc:bY P f=some (BE V)) (hW:gC.Spec (Pure P) V):ZL.Spec (Pure P) f:=by
 intro t h
 have hp:=Wb h
 rw[<-Wd];refine aq hm hc [] rfl ?_;try simp only[I,RY,↓KW,Nat.reduceBEq,Nat.reduceAdd,BE,Z.H,hp]
 refine aN (λk:Nat=>(⟨[(8,.dat (I k) none),(7,.dat (.agg (t.phases.flatMap Ph.cells)) none),(3,.dat (I (oF t k)) none)],[],[],400⟩:S)) (λk=>8-k) (λk=>k<=8) ?_ 0 ST ?_
 rotate_left
 ·refine ai Ts ?_ ?_ ?_ ?_<;>simp[LX,I,oF]
 intro k hk A back
 have L:=aG (k:=k) ST
 try simp only[I,RY,↓KW,Nat.reduceBEq,Nat.reduceAdd]
 cases h2:decide ((k:Int)<8)
 ·have e:k=8:=by have:=dC h2;omega
  subst e;try simp only[RY,↓KW,Nat.reduceBEq,Nat.reduceAdd]
 ·have h8:k<8:=by have:=dE h2;omega
  have hx:0<=(k:Int)/\(k:Int)<(8:Nat):=ST
  have R:=Sa h h8
  have hz:setCells f8 0 (aD t k).cells=(aD t k).cells:=gB rfl
  have O:f8.length=13:=rfl
  have p0:(aD t k).cells[0]? =some (AV.bool (aD t k).on):=rfl
  have M:oF t (k+1)=if(aD t k).on then dr (oF t k) k else oF t k:=rfl
  have B:=cG hx (cG R (cG hz (cG O (cG Ph.len (p0)))))
  try simp only[RY,↓KW,Nat.reduceBEq,Nat.reduceAdd,B]
  cases D:(aD t k).on
  ·try simp only[RY,↓KW,Nat.reduceBEq,Nat.reduceAdd,B]
   refine back (k+1) _ ST ST ?_
   rw[D]at M;simp only[M]
   refine ai Ts ?_ ?_ ?_ ?_<;>simp[LX,I,L]
  ·try simp only[RY,↓KW,Nat.reduceBEq,Nat.reduceAdd,B]
   refine ah (hW _ _) ?_;try simp only[I,RY,↓KW,Nat.reduceBEq,Nat.reduceAdd]
   refine back (k+1) _ ST ST ?_
   rw[D]at M;simp only[M]
   refine ai Ts ?_ ?_ ?_ ?_<;>simp[LX,I,L]
theorem vl.ok{e fO:Nat} (hc:bY P f=some (nZ e fO)) (hO:setOf.Spec (Pure P) fO):vl.Spec (Pure P) f:=by
 intro t p ht
 have hg:=Wa ht.ln
 have c1:=hO (some [p]) TB
 simp only[tt]at c1;refine aq hm hc [] rfl ?_;try simp only[I,B,RY,↓KW,Nat.reduceBEq,Nat.reduceAdd,nZ,Z.H]
 refine ah c1 ?_;cases M:PO [p]==0;rotate_left
 ·have aa:aA t p=(⟨0,0,0,0⟩,false):=by
   rw[EP]at M
   refine DA λx hx e=>?_
   have:=gO hx
   rw[e]at this;simp[this]at M
  try simp only[I,RY,↓KW,Nat.reduceBEq,Nat.reduceAdd,M,aa]
 have hp:0<=p/\p<8:=by rw[EP]at M;simpa using M
 try simp only[I,RY,↓KW,Nat.reduceBEq,Nat.reduceAdd,M,hg]
 refine aN (λg:Nat=>(⟨[(21,.dat (I g) none),(20,.dat (I ((t.groups.getD []).length:Nat)) none),(19,.dat (aI Gr.cells t.groups) none),(1,.dat (I p) none),(4,.dat (I 0) none),(5,.dat (I 0) none),(6,.dat (I 0) none),(7,.dat (B false) none)],[],[],400⟩:S)) (λg=>(t.groups.getD []).length-g) (λg=>g<=(t.groups.getD []).length/\∀x∈bS (t.groups.getD []) g,x.p≠p) ?_ 0 (by simp[bS]) ?_
 rotate_left
 ·refine ai Ts ?_ ?_ ?_ ?_<;>simp[LX,I,B]
 rintro g ⟨a2,ad⟩ A back
 have hb:=ht.groups
 have hw:=aG (k:=g) ST
 try simp only[I,B,RY,↓KW,Nat.reduceBEq,Nat.reduceAdd]
 cases h2:decide ((g:Int)<(((t.groups.getD []).length:Nat):Int))
 ·have e:g=(t.groups.getD []).length:=by have:=dC h2;omega
  subst e
  have aa:=DA (t:=t) (p:=p) ad
  try simp only[RY,↓KW,Nat.reduceBEq,Nat.reduceAdd,aa]
 have ak:g<(t.groups.getD []).length:=by have:=dE h2;omega
 obtain⟨gr,O⟩:∃x,(t.groups.getD [])[g]? =some x:=⟨_,et ak⟩
 have ae:=ht.rows gr (ev O)
 have hpart:aH (Gr.cells gr) 0 (some 2)=some (.agg (Gr.cells gr)):=rfl
 have V:∀c:List AV,c.length=2->setCells c 0 (Gr.cells gr)=Gr.cells gr:=λc h=>gB (by rw[h];rfl)
 try simp only[RY,↓KW,Nat.reduceBEq,Nat.reduceAdd,O,Gr.len,hpart,V]
 refine⟨ST,?_⟩
 try simp only[I,B,D,RY,↓KW,Nat.reduceBEq,Nat.reduceAdd,Nat.reduceLeDiff,Int.reduceNe,Int.reduceBEq,Int.reduceEq,reduceCtorEq,Nat.reduceMul,Int.reduceLT,Int.reduceLE,Int.reduceToNat,V,Gr.len,hpart]
 refine aN (λk:Nat=>(⟨[(27,.dat (I k) none),(26,.dat (.agg (Gr.cells gr)) none),(1,.dat (I p) none),(8,.dat (I g) none),(21,.dat (I g) none),(20,.dat (I ((t.groups.getD []).length:Nat)) none),(19,.dat (aI Gr.cells t.groups) none),(4,.dat (I 0) none),(5,.dat (I 0) none),(6,.dat (I 0) none),(7,.dat (B false) none)],[],[],500⟩:S)) (λk=>2-k) (λk=>k<=2/\∀x∈bS (t.groups.getD []) g++bH gr g k,x.p≠p) ?_ 0 ⟨ST,by simpa[bH]using ad⟩ ?_
 rotate_left
 ·refine ai Ts ?_ ?_ ?_ ?_<;>simp[LX,I,B]
 rintro k ⟨hk,R⟩ A1 ac
 have ar:=aG (k:=k) ST
 try simp only[I,B,RY,↓KW,Nat.reduceBEq,Nat.reduceAdd]
 cases h3:decide ((k:Int)<2)
 ·have e:k=2:=by have:=dC h3;omega
  subst e;try simp only[RY,↓KW,Nat.reduceBEq,Nat.reduceAdd]
  refine back (g+1) _ ⟨ST,by rw[gk O];exact R⟩ ST ?_
  refine ai Ts ?_ ?_ ?_ ?_<;>simp[LX,I,B,hw]
 have al:k<2:=by have:=dE h3;omega
 have am:0<=(k:Int)/\(k:Int)<(2:Nat):=ST
 have ag:(Gr.cells gr)[k]? =some (aI aE (gr.row k)):=by
  have:k=0\/k=1:=ST
  rcases this with rfl|rfl<;>rfl
 have a3:((gr.row k).getD []).length<=1048576:=by
  have:k=0\/k=1:=ST
  rcases this with rfl|rfl
  exact ae.1;exact ae.2
 try simp only[RY,↓KW,Nat.reduceBEq,Nat.reduceAdd,am,ag]
 refine aN (λi:Nat=>(⟨[(33,.dat (I i) none),(32,.dat (I (((gr.row k).getD []).length:Nat)) none),(31,.dat (aI aE (gr.row k)) none),(1,.dat (I p) none),(8,.dat (I g) none),(10,.dat (I k) none),(27,.dat (I k) none),(26,.dat (.agg (Gr.cells gr)) none),(21,.dat (I g) none),(20,.dat (I ((t.groups.getD []).length:Nat)) none),(19,.dat (aI Gr.cells t.groups) none),(4,.dat (I 0) none),(5,.dat (I 0) none),(6,.dat (I 0) none),(7,.dat (B false) none)],[],[],600⟩:S)) (λi=>((gr.row k).getD []).length-i) (λi=>i<=((gr.row k).getD []).length/\∀x∈bS (t.groups.getD []) g++bH gr g k++bl g k (((gr.row k).getD []).take i),x.p≠p) ?_ 0 ⟨ST,by simpa[bl]using R⟩ ?_
 rotate_left
 ·refine ai Ts ?_ ?_ ?_ ?_<;>simp[LX,I,B]
 rintro i ⟨hi,L⟩ A2 ab
 have an:=aG (k:=i) ST
 try simp only[I,B,RY,↓KW,Nat.reduceBEq,Nat.reduceAdd]
 cases h4:decide ((i:Int)<((((gr.row k).getD []).length:Nat):Int))
 ·have e:i=((gr.row k).getD []).length:=by have:=dC h4;omega
  subst e;rw[l0]at L;try simp only[RY,↓KW,Nat.reduceBEq,Nat.reduceAdd]
  refine ac (k+1) _ ⟨ST,by rw[dm,<-List.append_assoc];exact L⟩ ST ?_
  refine ai Ts ?_ ?_ ?_ ?_<;>simp[LX,I,B,ar]
 have au:i<((gr.row k).getD []).length:=by have:=dE h4;omega
 obtain⟨x,hx⟩:∃x,((gr.row k).getD [])[i]? =some x:=⟨_,et au⟩
 try simp only[I,RY,↓KW,Nat.reduceBEq,Nat.reduceAdd,hx,aE]
 refine⟨ST,?_⟩
 cases h5:x==p
 ·have ao:x≠p:=by simpa using h5
  have hr:=iD (g:=g) (k:=k) hx
  try simp only[RY,↓KW,Nat.reduceBEq,Nat.reduceAdd]
  refine ab (i+1) _ ⟨ST,?_⟩ ST ?_
  ·by_cases h8:0<=x/\x<8
   ·rw[hr.1 h8,<-List.append_assoc]
    intro y hy
    rcases ka.1 hy with hy|hy
    ·exact L y hy
    ·rw[nz]at hy;subst hy;exact ao
   ·rw[hr.2 h8];exact L
  ·refine ai Ts ?_ ?_ ?_ ?_<;>simp[LX,I,B,an]
 ·have ex:x=p:=by simpa using h5
  subst ex
  have hfound:=GG hp O al hx L
  try simp only[RY,↓KW,Nat.reduceBEq,Nat.reduceAdd,hfound]
end
section
variable (l:Option (List Int)) (a:Int) (t:Tb) {g:Nat} {gr:Gr} {n p q:Nat} (b i:Int) (k:Nat) (s:Int)
def d9:List Nat:=(List.range 8).filter λp=>tb s p
theorem jn{s:Int} (h:p∈d9 s):p<8:=by simp only[d9,sa,ib]at h;exact h.1
theorem nB{s:Int} (h:p∈d9 s):tb s p=true:=by simp only[d9,sa,ib]at h;exact h.2
theorem oG{s:Int} (A:p<8) (h:tb s p=true):p∈d9 s:=by simp only[d9,sa,ib];exact⟨A,h⟩
def GH:xP:=(t.aQ.getD []).getD k default
def Ot:Rl:=(t.bp.getD []).getD k default
theorem vm(p q:Int):cL t p q=cL t q p:=by
 simp only[cL];generalize(aA t p).2=b1;generalize(aA t q).2=b2;generalize(aA t p).1=s1;generalize(aA t q).1=s2;rw[Bool.and_comm b1 b2]
 congr 1
 ·congr 1
  rw[xn];simp only[lc];exact eq_comm
 ·rw[xn];simp only[bne_iff_ne];exact ne_comm
theorem IJ:(d9 s).Nodup:=List.Pairwise.filter _ List.nodup_range
theorem ER{a b:Int} (D:Can a) (L:Can b):Can (qV .i64 a b):=by
 have e:qV .i64 a b=IntKind.i64.wrap ((bv a|||bv b).toNat:Int):=rfl
 rw[e]
 refine sE λi B A=>?_
 rw[BitVec.getLsbD_or]
 have x:=oE D B A
 have y:=oE L B A
 simp only[tb]at x y;rw[x,y];rfl
theorem pU{g k:Nat} {row:List Int} (h:∀x∈row,0<=x/\x<8):∀i,i<=row.length->(bl g k (row.take i)).map Sp.p=row.take i
 |0,_=>by simp[bl]
 |i+1,B=>by
  obtain⟨x,A⟩:∃x,row[i]? =some x:=⟨_,et ST⟩
  rw[(iD A).1 (h x (ev A)),np,pU h i ST,gV A];rfl
theorem GI(h:∀x∈gr.a.getD []++gr.b.getD [],0<=x/\x<8):(bH gr g 2).map Sp.p=gr.a.getD []++gr.b.getD []:=by
 have D:=pU (g:=g) (k:=0) (row:=gr.a.getD []) (λx A=>h x (List.mem_append_left _ A)) _ (im _)
 have B:=pU (g:=g) (k:=1) (row:=gr.b.getD []) (λx A=>h x (List.mem_append_right _ A)) _ (im _)
 rw[l0]at D B
 have L:bH gr g 0=[]:=rfl
 rw[dm,dm,L,lr,np]
 show(bl g 0 (gr.a.getD [])).map Sp.p++(bl g 1 (gr.b.getD [])).map Sp.p=_
 rw[D,B]
theorem n9{k:Nat} {x:Sp} (h:x∈bH gr g k):x.group=g:=by
 simp only[bH,bl,ui,yr]at h;obtain⟨k,_,⟨y,i⟩,_,h⟩:=h;simp only at h;split at h
 ·cases h;rfl
 ·cases h
theorem sG{l:List Gr} {g:Nat} {gr:Gr} (L:l[g]? =some gr):∀n,n<=l.length->(bS l n).filter (λx=>x.group==(g:Int))=if g<n then bH gr g 2 else[]
 |0,_=>by simp[bS]
 |n+1,M=>by
  obtain⟨D,A⟩:∃x,l[n]? =some x:=⟨_,et ST⟩
  rw[gk A,yv,sG L n ST]
  by_cases e:g=n
  ·subst e
   rw[L]at A;cases A
   rw[fx ST,gc ST,lr,List.filter_eq_self]
   intro x B;rw[n9 B];simp
  ·have:(bH D n 2).filter (λx=>x.group==(g:Int))=[]:=by
    rw[List.filter_eq_nil_iff];intro x B;rw[n9 B];simp;omega
   rw[this,ts]
   by_cases h:g<n
   ·rw[gc h,gc ST]
   ·rw[fx h,fx ST]
theorem Ad(n:Int):gU n=min (max n 0) 2147483647:=by
 simp only[gU,iO];split<;>(try split)<;>omega
theorem tO:ye a b=min (gU a+gU b) 2147483647:=by
 have A:=ei a
 have B:=ei b
 rw[ye,Ad];omega
def wN(l:List Int):Int:=(l.map gU).sum
theorem ES:∀l,0<=wN l
 |[]=>kt _
 |x::l=>by
  have:=ei x
  have:=ES l
  simp only[wN,l4,pd]at*;omega
theorem GJ:∀(l:List Int) (a:Int),0<=a->a<=2147483647->l.foldl ye a=min (a+wN l) 2147483647
 |[],a,D,B=>by simp only[List.foldl_nil,wN,s9,List.sum_nil];omega
 |x::l,a,D,B=>by
  have L:=ei x
  have M:=ES l
  have A:gU a=a:=by rw[Ad];omega
  rw[ns,GJ l _ (by rw[tO];have:=ei a;omega) (by rw[tO];omega),tO,A]
  simp only[wN,l4,pd]at*;omega
theorem kg(l:List Int):gF l=min (wN l) 2147483647:=by
 rw[gF,GJ l 0 ST ST,Int.zero_add]
theorem Ou(l:List Int):0<=gF l/\gF l<=2147483647:=by
 have:=ES l
 rw[kg];omega
theorem ET:gF [a,b]=ye a b:=by
 have A:=ei a
 have B:=ei b
 rw[kg,tO];simp only[wN,l4,s9,pd,List.sum_nil];omega
theorem EU:∀(l:List Int) (a:Int),0<=a->l.foldl (λn x=>if x>n then x else n) a=max a (gh l)
 |[],a,h=>by show a=max a 0;omega
 |x::l,a,h=>by
  have e:gh (x::l)=max (if x>0 then x else 0) (gh l):=EU l _ (by show 0<=if x>0 then x else 0;split<;>omega)
  rw[ns,EU l _ (by split<;>omega),e]
  split<;>split<;>omega
theorem BJ(x:Int) (l:List Int):gh (x::l)=max (max 0 x) (gh l):=by
 have:gh (x::l)=max (if x>0 then x else 0) (gh l):=EU l _ (by show 0<=if x>0 then x else 0;split<;>omega)
 rw[this];split<;>omega
theorem L7:gh []=0:=rfl
def pre(gr:Gr) (i:Nat):List Int:=(List.range i).flatMap λk=>(gr.row k).getD []
theorem sH(g:Int):0<=dX t g/\dX t g<=2147483647:=by
 rw[dX];split
 ·omega
 ·exact Ou _
theorem oH{α:Type} {l:List α} {p:α->Bool} (h:∀x∈l,p x=false):l.find? p=none:=by
 rw[se];intro x A;simp[h x A]
theorem We(n:Int):(gL l i n).Fw:=by
 have r1:=aJ l (bO (i+1)) (n:=4) Ts Ts
 have V:=aJ l (bO (i+2)) (n:=3) Ts Ts
 have Z:=aJ l (bO (i+3)) (n:=4) Ts Ts
 have R:=aJ l (bO (i+4)) (n:=6) Ts Ts
 obtain⟨a,B⟩:∃m:Nat,bU l (bO (i+1)) 4=m:=⟨(bU l (bO (i+1)) 4).toNat,ST⟩
 obtain⟨b,M⟩:∃m:Nat,bU l (bO (i+2)) 3=m:=⟨(bU l (bO (i+2)) 3).toNat,ST⟩
 obtain⟨c,O⟩:∃m:Nat,bU l (bO (i+3)) 4=m:=⟨(bU l (bO (i+3)) 4).toNat,ST⟩
 obtain⟨d,hd⟩:∃m:Nat,bU l (bO (i+4)) 6=m:=⟨(bU l (bO (i+4)) 6).toNat,ST⟩
 have D:∀a:Nat,a<4->uu a<2^64:=Ts
 have L:∀a:Nat,a<4->∀b:Nat,b<3->rY a b<2^64:=by decide+kernel
 have A:∀c:Nat,c<6->wE c<2^64:=by decide+kernel
 refine⟨?_,?_,?_,?_⟩
 ·show uu _<_;rw[B];exact D a ST
 ·show rY _ _<_;rw[B,M];exact L a ST b ST
 ·show wE _<_;rw[O];exact A c ST
 ·show wE _<_;rw[hd];exact A d ST
theorem Ov:(aR l).Fw:=by
 intro d hd
 have e:(aR l).aQ=dB (jA l (dn l).2 (bU l 175 9) (bU l 175 9).toNat):=rfl
 rw[e,de,jA,kp]at hd;obtain⟨k,_,rfl⟩:=hd;exact We _ _ _
theorem gP{n:Int} (A:-9223372036854775808<=n) (B:n<=9223372036854775807):bO n=n:=aT A B
structure Ow (x:Ph):Prop where
 min:1<=x.min/\x.min<=12
 max:x.min<=x.max/\x.max<=36
 top:x.max<=x.top/\x.top<=50
 LF:0<=x.LF/\x.LF<=8
 step:1<=x.step/\x.step<=6
 bQ:10<=x.bQ/\x.bQ<=13
 red:0<=x.red/\x.red<=4
 walk:(x.walk=0/\x.bR=0)\/(1<=x.walk/\x.walk<=10/\1<=x.bR/\x.bR<=10)
 kU:0<=x.kU/\x.kU<=3/\(x.kU=3->x.walk≠0)
 on:x.on=true
theorem J9:Ow (iK l i):=by
 have r0:=aJ l i (n:=12) Ts Ts
 have r1:=aJ l (bO (i+1)) (n:=9) Ts Ts
 have r2:=aJ l (bO (i+2)) (n:=6) Ts Ts
 have r3:=aJ l (bO (i+3)) (n:=4) Ts Ts
 have r4:=aJ l (bO (i+4)) (n:=5) Ts Ts
 have r5:=aJ l (bO (i+5)) (n:=25) Ts Ts
 have r6:=aJ l (bO (i+6)) (n:=15) Ts Ts
 have r8:=aJ l (bO (i+8)) (n:=10) Ts Ts
 have R:=aJ l (bO (i+8)) (n:=97) Ts Ts
 have ra:=aJ l (bO (i+9)) (n:=7) Ts Ts
 have rt:0<=(bU l (bO (i+8)) 97).tdiv 10/\(bU l (bO (i+8)) 97).tdiv 10<=9:=by
  rw[Int.tdiv_eq_ediv_of_nonneg R.1];omega
 have A:=gP (n:=1+bU l i 12) ST ST
 have B:=gP (n:=1+bU l i 12+bU l (bO (i+5)) 25) ST ST
 have D:=gP (n:=1+bU l i 12+bU l (bO (i+5)) 25+bU l (bO (i+6)) 15) ST ST
 have O:=gP (n:=1+bU l (bO (i+8)) 10) ST ST
 have Z:=gP (n:=(bU l (bO (i+8)) 97).tdiv 10) ST ST
 have M:=gP (n:=1+(bU l (bO (i+8)) 97).tdiv 10) ST ST
 have V:=gP (n:=1+bU l (bO (i+2)) 6) ST ST
 have L:=gP (n:=10+bU l (bO (i+3)) 4) ST ST
 refine⟨?_,?_,?_,?_,?_,?_,?_,?_,?_,rfl⟩<;>simp only[iK,A,B,D,O,Z,M,V,L]
 ·omega
 ·omega
 ·omega
 ·omega
 ·omega
 ·omega
 ·omega
 ·split
  ·right;omega
  ·left;exact⟨rfl,rfl⟩
 ·split<;>split<;>omega
theorem Ka(l:Option (List Int)):∀(k i:Nat),k<=8->i<8->(Ex l k).getD i default=if i<k then iK l (10+12*i)else default
 |0,i,_,A=>by rw[Ex,fi,PP,gc A,fx ST];rfl
 |k+1,i,hk,A=>by
  have D:=Ka l k i ST A
  rw[Ex,fi,List.getElem?_set]
  by_cases e:k=i
  ·subst e
   rw[gc rfl,gc (by rw[dV];omega),gc ST];rfl
  ·rw[fx e,<-fi,D]
   by_cases B:i<k
   ·rw[gc B,gc ST]
   ·rw[fx B,fx ST]
def nT:Nat:=(dn l).2
theorem kE:1<=nT l/\nT l<=8:=⟨Bp l,tI l⟩
theorem tph{i:Nat} (A:i<8):aD (aR l) i=if i<nT l then iK l (10+12*i)else default:=by
 rw[<-ED];exact Ka l (nT l) i (kE l).2 A
theorem BK(l:Option (List Int)) (G:Nat) (hG:G<=8):∀g,g<=G->1<=g->(aW l G g).2<=8-(G-g)
 |0,_,h=>by omega
 |g+1,h,_=>by
  have B:(aW l G g).2<=8-(G-1-g):=by
   rcases sd g with rfl|A
   ·simp[aW]
   ·have:=BK l G hG g ST A;omega
  simp only[aW,aX,bN];omega
theorem BL(G:Nat) (hG:G<=8) (R:g<G):∃(gr:Gr) (m:Nat),1<=m/\(aW l G (g+1)).1=(aW l G g).1++[gr]/\(aW l G (g+1)).2=(aW l G g).2+m/\gr.a.getD []++gr.b.getD []=cN (aW l G g).2 m:=by
 have O:(aW l G g).2+1<=bN G g:=by
  unfold bN
  rcases sd g with rfl|D
  ·simp[aW];omega
  ·have:=BK l G hG g ST D;omega
 refine⟨_,aX (cnt l g 0 0) (aW l G g).2 (bN G g)+aX (cnt l g 1 (aX (cnt l g 0 0) (aW l G g).2 (bN G g))) ((aW l G g).2+aX (cnt l g 0 0) (aW l G g).2 (bN G g)) (bN G g),?_,rfl,?_,?_⟩
 ·generalize M:aX (cnt l g 0 0) (aW l G g).2 (bN G g)=m0
  rcases sd m0 with A|A
  ·have L:1<=cnt l g 1 m0:=by
    simp only[cnt]
    by_cases B:(bU l (1+2*(g:Int)+((1:Nat):Int)) 3).toNat=0
    ·rw[gc ⟨trivial,B,A⟩];exact im _
    ·rw[fx (λh=>B h.2.1)];omega
   rw[A]at L⊢;simp only[aX];omega
  ·omega
 ·simp only[aW];omega
 ·simp only[de]
  generalize aX (cnt l g 0 0) (aW l G g).2 (bN G g)=m0;generalize aX (cnt l g 1 m0) ((aW l G g).2+m0) (bN G g)=m1;simp only[cN,List.range_add,np,List.map_map]
  congr 1
  apply ti
  intro j _;simp only[Function.comp];omega
theorem wO{t A:Tb} (h:t.groups=A.groups) (p q:Int):cL t p q=cL A p q:=by
 simp only[cL,aA,aO,h]
def Ox(c:List Int):Prop:=∀i j:Nat,i<8->j<8->tb (uv c i) j=true->i≠j/\cL t i j=false
theorem L8{t:Tb} {l:Option (List Int)} {c:List Int} (hc:c.length=8) (hp:p<8) (hq:q<p) (h:Ox t c):Ox t (eO t l p q c):=by
 unfold eO;split
 ·rename_i A
  have hb:cL t p q=false:=by
   simp only[nu,dT,pA]at A;exact A.1
  have M:cL t q p=false:=by rw[vm];exact hb
  intro i j D B
  have L:p<c.length:=ST
  have O:q<(c.set p (gw (uv c p) q)).length:=by simp;omega
  have R:¬q=p:=ST
  simp only[Aa O,Aa L,R,ik];intro ht
  by_cases V:i=q
  ·subst V
   rw[gc rfl,sD ST]at ht
   simp only[dT,ml,gn]at ht
   rcases ht.2 with ht|rfl
   ·exact h i j D B ht
   ·exact⟨ST,M⟩
  ·rw[fx V]at ht
   by_cases Z:i=p
   ·subst Z
    rw[gc rfl,sD ST]at ht
    simp only[dT,ml,gn]at ht
    rcases ht.2 with ht|rfl
    ·exact h i j D B ht
    ·exact⟨ST,hb⟩
   ·rw[fx Z]at ht
    exact h i j D B ht
 ·exact h
theorem GK{t:Tb} {l:Option (List Int)} {p:Nat} {c:List Int} (B:c.length=8) (A:p<8) (h:Ox t c):∀q,q<=p->Ox t (gW t l p q c)
 |0,_=>h
 |q+1,D=>L8 (by rw[kC,B]) A ST (GK B A h q ST)
theorem Kb{t:Tb} {l:Option (List Int)}:∀p,p<=8->Ox t (eE t l p)
 |0,_=>by
  intro i j B D ht
  have:uv (eE t l 0) i=0:=by
   simp only[uv,eE,fi,PP];split<;>rfl
  rw[this,bX]at ht;cases ht
 |p+1,A=>GK (cX p) ST (Kb p ST) p (im p)
theorem L9(A:p<8) (B:q<8) (h:tb (fj (aR l) p) q=true):p≠q/\cL (aR l) p q=false:=by
 have:=Kb (t:={lu with groups:=some (dn l).1}) (l:=l) (dn l).2 (tI l) p q A B h
 refine⟨this.1,?_⟩;rw[<-this.2];exact wO rfl _ _
theorem BM(l:Option (List Int)) (G:Nat) (hG:G<=8):∀g,g<=G->∀gr∈(aW l G g).1,∀x∈gr.a.getD []++gr.b.getD [],0<=x/\x<8
 |0,_,gr,h=>by simp[aW]at h
 |g+1,V,gr,h=>by
  obtain⟨M,m,O,D,R,L⟩:=BL l G hG (g:=g) ST
  rw[D]at h
  rcases ka.1 h with h|h
  ·exact BM l G hG g ST gr h
  ·rw[nz]at h;subst h
   intro x A;rw[L,cN,kp]at A;obtain⟨j,B,rfl⟩:=A
   have:=tH l G (g+1)
   have:=ib.1 B
   omega
structure Oy (n:Nat) (d:xP):Prop where
 phase:0<=d.phase/\d.phase<n
 may:lvl d.on=true/\lvl d.off=true/\BF d.delay=true/\BF d.extend=true
 most:0<=d.maxOn/\d.maxOn<=80/\0<=d.rM/\d.rM<=360
 order:Tk d.off d.on=false
theorem Sb(hn:1<=n) (h8:n<=8):Oy n (gL l i n):=by
 have R:=aJ l i (n:=(n:Int)) ST ST
 have r1:=aJ l (bO (i+1)) (n:=4) Ts Ts
 have r2:=aJ l (bO (i+2)) (n:=3) Ts Ts
 have r3:=aJ l (bO (i+3)) (n:=4) Ts Ts
 have r4:=aJ l (bO (i+4)) (n:=6) Ts Ts
 have r6:=aJ l (bO (i+6)) (n:=60) Ts Ts
 have r7:=aJ l (bO (i+7)) (n:=300) Ts Ts
 obtain⟨a,A⟩:∃m:Nat,bU l (bO (i+1)) 4=m:=⟨(bU l (bO (i+1)) 4).toNat,ST⟩
 obtain⟨b,L⟩:∃m:Nat,bU l (bO (i+2)) 3=m:=⟨(bU l (bO (i+2)) 3).toNat,ST⟩
 obtain⟨c,Z⟩:∃m:Nat,bU l (bO (i+3)) 4=m:=⟨(bU l (bO (i+3)) 4).toNat,ST⟩
 obtain⟨d,hd⟩:∃m:Nat,bU l (bO (i+4)) 6=m:=⟨(bU l (bO (i+4)) 6).toNat,ST⟩
 have M:∀a:Nat,a<4->lvl (uu a)=true:=by decide+kernel
 have B:∀a:Nat,a<4->∀b:Nat,b<3->lvl (rY a b)=true/\Tk (rY a b) (uu a)=false:=by decide+kernel
 have D:∀c:Nat,c<6->BF (wE c)=true:=by decide+kernel
 have O:=gP (n:=20+bU l (bO (i+6)) 60) ST ST
 have V:=gP (n:=60+bU l (bO (i+7)) 300) ST ST
 refine⟨R,⟨?_,?_,?_,?_⟩,?_,?_⟩
 ·show lvl (uu _)=true;rw[A];exact M a ST
 ·show lvl (rY _ _)=true;rw[A,L];exact(B a ST b ST).1
 ·show BF (wE _)=true;rw[Z];exact D c ST
 ·show BF (wE _)=true;rw[hd];exact D d ST
 ·simp only[gL,O,V]
  split<;>split<;>omega
 ·show Tk (rY _ _) (uu _)=false;rw[A,L];exact(B a ST b ST).2
theorem ZM:((aR l).aQ.getD []).length<=8/\∀d∈(aR l).aQ.getD [],Oy (nT l) d:=by
 have e:(aR l).aQ=dB (jA l (dn l).2 (bU l 175 9) (bU l 175 9).toNat):=rfl
 have r:=aJ l 175 (n:=9) Ts Ts
 rw[e,de]
 refine⟨by rw[yh];omega,λd hd=>?_⟩
 rw[jA,kp]at hd;obtain⟨k,_,rfl⟩:=hd;exact Sb _ _ (kE l).1 (kE l).2
theorem Oz(A:p<8) (i:Nat):tb (RE [(p:Int)]) i=decide (i=p):=by
 rw[Dw]
 by_cases h:i=p
 ·subst h;simp[A]
 ·have:¬(i:Int)=(p:Int):=ST
  simp[h,this]
theorem BN(A:p<8) (D:q<8) (i:Nat):tb (mC t p q) i=(decide (i=p)||(cL t p q&&decide (i=q))):=by
 unfold mC;cases cL t p q
 ·rw[fx TB,Oz A];simp
 ·rw[gc rfl,sD D,Oz A]
  by_cases B:i<8
  ·simp[B]
  ·have M:¬i=p:=ST
   have L:¬i=q:=ST
   simp[B,M,L]
theorem Ma(p q:Int):Can (mC t p q):=by
 unfold mC;split
 ·exact L6 _ _
 ·exact Ab _
theorem Kc:∀n:Nat,n<9->1<=n->∀i:Nat,i<64->tb (bO (bO (1*2^min (IntKind.u64.wrap (n:Int)).toNat 64)-1)) i=decide (i<n):=by decide+kernel
def To(n:Nat) (s:Int):Prop:=Can s/\(∀i,i<8->tb s i=true->i<n)/\∀i j,i<8->j<8->tb s i=true->tb s j=true->i≠j->cL t i j=true
theorem wP{t A:Tb} (R:t.groups=A.groups) (h8:n<=8) (hp:p<n) (hq:q<n):To t n (mC A p q)/\mC A p q≠0:=by
 have V:=wO R
 refine⟨⟨Ma _ _ _,λi Z h=>?_,λi j Z hj M L B=>?_⟩,λe=>?_⟩
 ·rw[BN A ST ST]at h
  simp only[ml,dT,gn]at h;omega
 ·rw[BN A ST ST]at M L
  simp only[ml,dT,gn]at M L;rw[V]
  rcases M with rfl|⟨O,rfl⟩
  ·rcases L with rfl|⟨D,rfl⟩
   ·exact absurd rfl B
   ·exact D
  ·rcases L with rfl|⟨D,rfl⟩
   ·rw[vm];exact O
   ·exact absurd rfl B
 ·have:=BN A (p:=p) (q:=q) ST ST p
  rw[e,bX]at this;simp at this
theorem OA(n:Nat):To t n 0:=⟨⟨Ts,Ts⟩,(λi _ h=>by rw[bX]at h;cases h),(λi j _ _ h=>by rw[bX]at h;cases h)⟩
structure EX (t:Tb) (n:Nat) (r:Rl):Prop where
 bars:Can r.bars/\∀i,i<64->tb r.bars i=true->i<n/\tb r.gI i=false
 clear:To t n r.clear
 gI:To t n r.gI/\r.gI≠0
 exit:To t n r.exit/\r.exit≠0
 hold:(1<=r.hold/\r.hold<=10/\r.clear≠0)\/(r.hold=0/\r.clear=0)
 ac8:0<=r.delay/\r.delay<=3/\1<=r.green/\r.green<=6/\0<=r.dz/\r.dz<=5/\1<=r.stay/\r.stay<=15
 most:r.most=0\/(r.stay<=r.most/\r.most<=44)
 limit:r.delay<r.limit/\r.limit<=10004
theorem Sd{t L:Tb} (O:t.groups=L.groups) (l:Option (List Int)) (i:Int) (hn:1<=n) (R:n<=8):EX t n (nV L l i n):=by
 have A:∀j:Int,∃m:Nat,bU l j (n:Int)=m/\m<n:=λj=>by
  have:=aJ l j (n:=(n:Int)) ST ST
  exact⟨(bU l j n).toNat,ST,ST⟩
 obtain⟨a0,e0,k0⟩:=A i
 obtain⟨a1,e1,k1⟩:=A (bO (i+1))
 obtain⟨a2,e2,k2⟩:=A (bO (i+2))
 obtain⟨a3,e3,k3⟩:=A (bO (i+3))
 obtain⟨a5,e5,k5⟩:=A (bO (i+5))
 have en:bO ((n:Int)+1)=(n:Int)+1:=gP ST ST
 have r4:=aJ l (bO (i+4)) (n:=(n:Int)+1) ST ST
 have r6:=aJ l (bO (i+6)) (n:=10) Ts Ts
 have r8:=aJ l (bO (i+8)) (n:=4) Ts Ts
 have r9:=aJ l (bO (i+9)) (n:=6) Ts Ts
 have ra:=aJ l (bO (i+10)) (n:=6) Ts Ts
 have rb:=aJ l (bO (i+11)) (n:=15) Ts Ts
 have rd:=aJ l (bO (i+13)) (n:=30) Ts Ts
 have re:=aJ l (bO (i+14)) (n:=3) Ts Ts
 have w6:=gP (n:=1+bU l (bO (i+6)) 10) ST ST
 have w9:=gP (n:=1+bU l (bO (i+9)) 6) ST ST
 have wb:=gP (n:=1+bU l (bO (i+11)) 15) ST ST
 have wd:=gP (n:=1+bU l (bO (i+11)) 15+bU l (bO (i+13)) 30) ST ST
 have w8:=gP (n:=bU l (bO (i+8)) 4+1) ST ST
 have M:∃v:Int,[10000,400,20].getD (bU l (bO (i+14)) 3).toNat 0=v/\20<=v/\v<=10000:=by
  have:(bU l (bO (i+14)) 3).toNat=0\/(bU l (bO (i+14)) 3).toNat=1\/(bU l (bO (i+14)) 3).toNat=2:=ST
  rcases this with h|h|h<;>rw[h]
  ·exact⟨10000,rfl,Ts,Ts⟩
  ·exact⟨400,rfl,Ts,Ts⟩
  ·exact⟨20,rfl,Ts,Ts⟩
 obtain⟨v,hv,v1,v2⟩:=M
 have wl:=gP (n:=bU l (bO (i+8)) 4+1+v) ST ST
 have td:=wP O R k0 k1
 have te:=wP O R k2 k3
 refine⟨?_,?_,?_,?_,?_,?_,?_,?_⟩<;>simp only[nV,e0,e1,e2,e3,e5,en,w6,w9,wb,wd,w8,hv,wl]
 ·have D:∀j,j<64->tb (bg .i64 (dh .i64 (bU l (bO (i+7)) 256) (bO (bO (1*2^min (IntKind.u64.wrap (n:Int)).toNat 64)-1))) (mC L a0 a1)) j=true->j<n/\tb (mC L a0 a1) j=false:=by
   intro j hj h
   rw[gX _ _ _ hj,kY,Kc n ST hn j hj]at h
   simp only[dT,pA,gn]at h;exact⟨h.1.2,h.2⟩
  refine⟨?_,D⟩
  have e:bg .i64 (dh .i64 (bU l (bO (i+7)) 256) (bO (bO (1*2^min (IntKind.u64.wrap (n:Int)).toNat 64)-1))) (mC L a0 a1)=IntKind.i64.wrap ((bv (dh .i64 (bU l (bO (i+7)) 256) (bO (bO (1*2^min (IntKind.u64.wrap (n:Int)).toNat 64)-1)))&&& ~~~bv (mC L a0 a1)).toNat:Int):=rfl
  rw[e]
  refine sE λj h1 h2=>?_
  have h4:=Kc n ST hn j h2
  have h5:¬j<n:=ST
  have V:=kY (bU l (bO (i+7)) 256) (bO (bO (1*2^min (IntKind.u64.wrap (n:Int)).toNat 64)-1)) j
  rw[h4]at V;simp only[h5,decide_false,nf]at V;simp only[tb]at V;rw[BitVec.getLsbD_and,V];rfl
 ·split
  ·rename_i Z
   obtain⟨p,B⟩:∃p:Nat,bU l (bO (i+4)) ((n:Int)+1)=p:=⟨(bU l (bO (i+4)) ((n:Int)+1)).toNat,ST⟩
   rw[B]at Z⊢
   exact(wP O R ST k5).1
  ·exact OA _ _
 ·exact td
 ·exact te
 ·split
  ·rename_i Z
   obtain⟨p,B⟩:∃p:Nat,bU l (bO (i+4)) ((n:Int)+1)=p:=⟨(bU l (bO (i+4)) ((n:Int)+1)).toNat,ST⟩
   rw[B]at Z⊢
   exact .inl ⟨ST,ST,(wP O R ST k5).2⟩
  ·exact .inr ⟨rfl,rfl⟩
 ·omega
 ·split
  ·right;omega
  ·left;rfl
 ·omega
theorem Wf:((aR l).bp.getD []).length<=2/\∀r∈(aR l).bp.getD [],EX (aR l) (nT l) r:=by
 have e:(aR l).bp=dB (eP {lu with groups:=some (dn l).1} l (dn l).2 ((bU l 176 4).tmod 3) ((bU l 176 4).tmod 3).toNat):=rfl
 have h:=zr (bU l 176 4) (b:=3) Ts
 rw[e,de]
 refine⟨by rw[vc];omega,λd hd=>?_⟩
 rw[eP,kp]at hd;obtain⟨k,_,rfl⟩:=hd;exact Sd rfl _ _ (kE l).1 (kE l).2
theorem OB(a b:Nat):cN 0 (a+b)=cN 0 a++cN a b:=by
 simp only[cN,List.range_add,np,List.map_map]
 congr 1
 apply ti
 intro j _;simp only[Function.comp];omega
theorem DB(l:Option (List Int)) (G:Nat) (hG:G<=8):∀g,g<=G->∀L:List Gr,(∀(j:Nat) (gr:Gr),(aW l G g).1[j]? =some gr->L[j]? =some gr)->(bS L g).map Sp.p=cN 0 (aW l G g).2
 |0,_,L,_=>by simp[bS,aW,cN]
 |g+1,hg,L,hL=>by
  obtain⟨gr,m,h1,B,h3,V⟩:=BL l G hG (g:=g) ST
  have A:=jX l G g
  have O:L[g]? =some gr:=hL g gr (by rw[B,ll ST,A];simp)
  have Z:=DB l G hG g ST L λj D R=>hL j D (by rw[B,km (e9.1 R).1,R])
  have M:=BM l G hG (g+1) hg gr (by rw[B];simp)
  rw[gk O,np,Z,GI M,V,h3,OB]
theorem Ae:(aO (aR l)).map Sp.p=cN 0 (nT l):=by
 have hG:=mE l
 have e:(aR l).groups.getD []=(aW l (eA l) (eA l)).1:=rfl
 rw[aO,e,jX]
 exact DB l _ ST _ (im _) _ λ_ _ h=>h
theorem GL:(aO (aR l)).length<=8:=by
 have h:=pb List.length (Ae l)
 have:=(kE l).2
 rw[wa]at h;rw[h,cN,wa,List.length_range];exact this
theorem EY:1<=((aR l).groups.getD []).length/\((aR l).groups.getD []).length<=3:=by
 have hG:=mE l
 have e:(aR l).groups.getD []=(aW l (eA l) (eA l)).1:=rfl
 rw[e,jX];exact hG
theorem Wg:(0<=(aR l).extend/\(aR l).extend<=11)/\(0<=(aR l).revert/\(aR l).revert<=7)/\(0<=(aR l).share/\(aR l).share<=3):=by
 have M:=aJ l 178 (n:=12) Ts Ts
 have A:=aJ l 181 (n:=8) Ts Ts
 have B:=aJ l 183 (n:=4) Ts Ts
 have D:(aR l).extend=bU l 178 12:=rfl
 have O:(aR l).revert=bU l 181 8:=rfl
 have L:(aR l).share=bU l 183 4:=rfl
 omega
end
section
open Z
def oI:List AV:=(⟨_,by conv=>lhs;cbv⟩:cB (PK [(3,12)])).1
def pV:List AV:=(⟨_,by conv=>lhs;cbv⟩:cB (PK [(1,1),(0,10),(1,3),(0,10),(1,3),(0,10),(1,3),(0,10),(1,3),(0,10),(1,3),(0,10),(1,3),(0,10),(1,3),(0,10),(1,2),(2,1),(0,8),(2,3),(0,30),(1,2),(0,10),(1,2),(0,10),(1,2),(0,10),(1,2),(0,10),(1,2),(0,10),(1,2),(0,10),(1,2),(0,10),(1,2),(0,3)])).1
def qB(Z V D g3 B O:Nat):cj:=⟨147,[.cell 8 (some 8),.cell 9 (some 5)],r [o 4 (w 0),o 5 (w 1),o 7 (w 3),o 8 (.alloc [i 0,i 0,i 0,i 0,i 0,i 0,i 0,i 0]),o 9 (.alloc [i 0,i 0,i 0,F,F])] (r [o 16 (L 4 131),o 17 (L 4 131),o 18 (L 5 8),M 19 2,o 20 (.call Z [t 17,t 18,t 19]),o 21 (L 7 96),o 22 (.build pV [(0,131,t 16),(131,8,t 20),(139,96,t 21)]),o 23 (w 22),M 10 23] (r [o 24 (.call V []),o 11 (.alloc oI),n (s 11 24 12)] (j (r [M 25 10,o 26 (.nc (t 25)),o 27 (f 26 131),o 28 (f 27 0),o 29 (l 28),o 30 (bb .lss 29 (i 0)),M 31 30,q 32 (m 10) 31,q 33 (.nc (t 32)) 31,q 34 (f 33 131) 31,q 35 (f 34 0) 31,q 36 (l 35) 31,q 37 (bb .geq 36 (i 6)) 31,o 38 (Q 31 37)] (c 38 (R [M 39 10,o 40 (.nc (t 39)),o 41 (f 40 131),o 42 (f 41 0),n (ss 42 (i 0) 1)]) z)) (r [M 43 10,o 44 (.nc (t 43)),o 45 (f 44 131),o 46 (f 45 0),o 47 (l 46),M 12 47] (j (r [o 48 (L 4 131),M 49 10,o 50 (.nc (t 49)),o 51 (f 50 131),o 52 (L 51 8),o 53 (.call D [t 48,t 52]),M 13 53] (r [M 54 13,o 55 (bb .geq 54 (i 0)),M 56 55,p 57 (m 12) 56,p 58 (bb .eql 57 (i 0)) 56,p 59 (m 58) 56,q 60 (m 12) 59,q 61 (bb .eql 60 (i 5)) 59,p 62 (Q 59 61) 56,p 63 (m 62) 56,q 64 (m 13) 63,q 65 (m 10) 63,q 66 (.nc (t 65)) 63,q 67 (f 66 131) 63,q 68 (f 67 1) 63,q 69 (l 68) 63,q 70 (b .lss 64 69) 63,p 71 (Q 63 70) 56,o 72 (P 56 71)] (c 72 (r [M 73 10,M 74 10,M 75 10,M 76 13,o 77 (.nc (t 73)),o 78 (f 77 131),o 79 (f 78 0),n (ss 79 (i 1) 1),o 80 (.nc (t 74)),o 81 (f 80 131),o 82 (f 81 1),n (s 82 76 1),o 83 (.nc (t 75)),o 84 (f 83 131),o 85 (f 84 2),n (ss 85 (i 0) 1)] (.seq (.Aq [M 86 10,o 87 (.nc (t 86)),o 88 (f 87 131),o 89 (L 88 8),M 90 10,o 91 (.dD g3 [t 90]),n (s 8 89 8),n (s 9 91 5)] [(3,5)]) y)) z))) (r [M 92 12,o 93 (A 11 92 6 2),o 94 (f 93 0),o 95 (l 94),M 96 10,o 97 (.fQ (t 95) [t 96]),M 14 97] (j (r [M 98 12,o 99 (bb .eql 98 (i 5)),M 100 99,p 101 (m 14) 100,p 102 (bb .eql 101 (i 0)) 100,o 103 (P 100 102)] (c 103 (r [M 104 10,o 105 (.dD B [t 104]),o 15 (.alloc [i 0,i 0,i 0,F,F]),n (s 15 105 5)] (r [M 106 10,M 107 10,M 108 10,o 109 (.nc (t 106)),o 110 (f 109 131),o 111 (f 110 0),n (ss 111 (i 0) 1),o 112 (.nc (t 107)),o 113 (f 112 131),o 114 (f 113 1),n (ss 114 (i 0) 1),o 115 (.nc (t 108)),o 116 (f 115 131),o 117 (f 116 2),n (ss 117 (i 0) 1)] (.seq (.Aq [M 118 10,o 119 (.nc (t 118)),o 120 (f 119 131),o 121 (L 120 8),o 122 (L 15 5),n (s 8 121 8),n (s 9 122 5)] [(4,5)]) y))) z)) (r [M 123 10,M 124 14,o 125 (.nc (t 123)),o 126 (f 125 131),o 127 (f 126 0),n (s 127 124 1)] (r [M 128 10,M 129 10,M 130 14,M 131 12,o 132 (b .neq 130 131),o 133 (.dD O [t 129,t 132]),o 134 (.nc (t 128)),o 135 (f 134 131),o 136 (f 135 2),n (s 136 133 1)] (.seq (.Aq [M 137 10,o 138 (.nc (t 137)),o 139 (f 138 131),o 140 (L 139 8),M 141 14,o 142 (A 11 141 6 2),o 143 (f 142 1),o 144 (l 143),M 145 10,o 146 (.fQ (t 144) [t 145]),n (s 8 140 8),n (s 9 146 5)] [(3,9)]) y))))))))))⟩
def oJ(A:Nat):cj:=(⟨_,by conv=>lhs;ext y0;cbv⟩:cB λ(y0:List AV)=>cM 32 [.tmp 4] [A] [0,1,-1] 0x14844080a009ae01f17957c85942017848012861c085a3f89059202a725e960b5cf850082787c6088dc4082841133e21e1f0787c2fb9b973a8019f6136915216017309604320d18840380c0a0081a0c5e9e0806030b405b30 [y0]).1 cm
def oK(A:Nat):cj:=(⟨_,by conv=>lhs;cbv⟩:cB (cM 43 [.cell 6 (some 8)] [A] [0,1] 0xb00dcb09d240280ae9c4940a69c404a37e10474e24a462f8480d009de0190b09028a0c8bfa3a2240062e07020a1044d38a78678c8bc1421c008c3013239e17e1500412141f120a302a1cf0971017814048084805cc25810c83462100e0302802068317da82018f4400608033d3407b30 [[.int .i64 0,.int .i64 0,.int .i64 0,.int .i64 0,.int .i64 0,.int .i64 0,.int .i64 0,.int .i64 0],[.int .i64 0,.int .i64 0,.int .i64 0,.int .i64 0]] [] [.mm true [.t 29,.k (.int .i64 0)],.mm false [.t 30,.k (.int .i64 2147483646)]])).1
def nC(V R L g3 D O M g7 g8 Z B A:Nat):cj:=⟨8,[.cell 0 (some 12)],r [o 0 (.alloc oI)] (r [o 1 (.build [.ie,.ie] [(0,1,k (.fn (.func V) [] [])),(1,1,k (.fn (.func R) [] []))]),o 2 (.build [.ie,.ie] [(0,1,k (.fn (.func L) [] [])),(1,1,k (.fn (.func g3) [] []))]),o 3 (.build [.ie,.ie] [(0,1,k (.fn (.func D) [] [])),(1,1,k (.fn (.func O) [] []))]),o 4 (.build [.ie,.ie] [(0,1,k (.fn (.func M) [] [])),(1,1,k (.fn (.func g7) [] []))]),o 5 (.build [.ie,.ie] [(0,1,k (.fn (.func g8) [] [])),(1,1,k (.fn (.func Z) [] []))]),o 6 (.build [.ie,.ie] [(0,1,k (.fn (.func B) [] [])),(1,1,k (.fn (.func A) [] []))]),o 7 (.build oI [(0,2,t 1),(2,2,t 2),(4,2,t 3),(6,2,t 4),(8,2,t 5),(10,2,t 6)]),n (s 0 7 12)] y)⟩
def kF(B D A:Nat):cj:=(⟨_,by conv=>lhs;cbv⟩:cB (cM 10 [.cell 2 (some 5)] [B,D,A] [] 0xaa05ca0d464e1f07008b87e84041c3ec2830004f10 [[.int .i64 0,.int .i64 0,.int .i64 0,.bool false,.bool false]] [] [.D2 (.t 7) 5 none])).1
def lz(B D A:Nat):cj:=(⟨_,by conv=>lhs;cbv⟩:cB (cM 9 [.cell 2 (some 5)] [B,D] [] 0x2a86280831420c07063170f838041c3ec282e004f10 [[.int .i64 0,.int .i64 0,.int .i64 0,.bool false,.bool false]] [.fn (.func A) [] []] [.D2 (.t 5) 3 none])).1
def lA(A B D:Nat):cj:=⟨53,[.tmp 4],r [V 4 (i 0)] (j (u 0 (j (r [M 6 1,M 5 6] (c 5 z (R [M 7 0,o 8 (.nc (t 7)),o 9 (f 8 131),o 10 (f 9 0),o 11 (l 10),o 12 (bb .eql 11 (i 0)),M 5 12]))) (c 5 (r [V 4 (i 0)] y) (j (r [M 14 0,o 15 (.nc (t 14)),o 16 (f 15 131),o 17 (f 16 0),o 18 (l 17),o 19 (bb .eql 18 (i 2)),M 20 19,p 21 (m 0) 20,p 22 (m 0) 20,p 23 (.dD A [t 22]) 20,p 24 (.D2 (t 23) 1 none) 20,p 25 (.dD B [t 21,t 24]) 20,p 26 (.un .not (t 25)) 20,o 27 (P 20 26),M 13 27] (c 13 z (R [M 28 0,o 29 (.nc (t 28)),o 30 (f 29 131),o 31 (f 30 0),o 32 (l 31),o 33 (bb .eql 32 (i 4)),M 34 33,p 35 (m 0) 34,p 36 (m 0) 34,p 37 (.dD A [t 36]) 34,p 38 (.D2 (t 37) 2 none) 34,p 39 (.dD B [t 35,t 38]) 34,p 40 (.un .not (t 39)) 34,o 41 (P 34 40),M 13 41]))) (c 13 (r [M 42 0,o 43 (.nc (t 42)),o 44 (f 43 131),o 45 (f 44 2),o 46 (l 45),M 4 46] y) z))))) (r [M 47 0,o 48 (.nc (t 47)),o 49 (f 48 131),o 50 (f 49 2),o 51 (l 50),o 52 (.call D [t 51]),M 4 52] y))⟩
def oL:cj:=(⟨_,by conv=>lhs;cbv⟩:cB (cM 10 [.tmp 2] [] [] 0xa0802e0705011c85ec408e42f22800d81a20 [] [.bF] [.mm false [.t 7,.k (.int .i64 4)],.SZ 11 (.t 4) none (some (.t 8))])).1
def lB:cj:=(⟨_,by conv=>lhs;cbv⟩:cB (cM 3 [.tmp 2] [] [0] 0x1402408004810)).1
def lC:cj:=(⟨_,by conv=>lhs;cbv⟩:cB (cM 4 [.cell 2 (some 5)] [] [] 0xaa04ac4c4304004f10 [[.int .i64 0,.int .i64 0,.int .i64 0,.bool false,.bool false]])).1
def jD(B D A:Nat):cj:=(⟨_,by conv=>lhs;cbv⟩:cB (cM 15 [.tmp 2] [B,D,A] [0,255,1,2,4] 0xa81204194c2408020a0010c1838049c3eac0a0a41204010180243e0c42e1f0130301070fc0a4038039804810 [] [] [.D2 (.t 12) 1 none])).1
def jE(A:Nat):cj:=(⟨_,by conv=>lhs;cbv⟩:cB (cM 12 [.tmp 2] [A] [0,3,2] 0x29048106510902008c820c202f1838041c3e1c208405062f02098fa0cd91804810 [] [] [.D2 (.t 9) 7 none])).1
def kG(A B:Nat):cj:=(⟨_,by conv=>lhs;cbv⟩:cB (cM 9 [.cell 2 (some 5)] [A,B] [] 0xaa18a020218062170f838041c3ec282e004f10 [[.int .i64 0,.int .i64 0,.int .i64 0,.bool false,.bool false]] [] [.D2 (.t 5) 1 none])).1
def i4(A B:Nat):cj:=(⟨_,by conv=>lhs;cbv⟩:cB (cM 9 [.tmp 2] [A,B] [0,255,4,3] 0x5309020ca412040102085c3e026060e01070fb0a0b01804810 [] [] [.D2 (.t 5) 2 none])).1
def jo(B L A D:Nat):cj:=(⟨_,by conv=>lhs;cbv⟩:cB (cM 18 [.cell 2 (some 5)] [B,L,D] [0,255] 0xaa05caa7d240a8a6a4a2a040c240a27c405464e1f27009818b8041c3e3c8a44bf364402b1c0a06f020c62e1f07008387d90a097dec83a1a20 [[.int .i64 0,.int .i64 0,.int .i64 0,.bool false,.bool false]] [] [.D2 (.t 6) 2 none,.D2 (.t 11) 2 none,.xN (.func A) [] [.t 1]])).1
def jF(A B:Nat):cj:=(⟨_,by conv=>lhs;ext y0;cbv⟩:cB λ(y0:List AV)=>cM 100 [.tmp 2] [A,B] [0,4,1,5] 0x5309020ca412040581440a0c5e04531f6e10e16004020202f185d1780803002084d013062f02098f870c18bc24008263e1c3406c2c0ae05062f024517f4c7c31860464608205062f02098f87082381418bc08263e1c2202f104a0474e1602bd045e0403651090200940d05fc7066c2fe3417f43f8269b0bff86e41fb613841da0c5e1580ce7c38b82b4e1602121f0642f0787c0c2828140bf8e08202f2817f90cd93f54234835418bc25019bf870b01021e1f182492517cf807c5e362f1f178b0bc7c5fa3e2f61b1788b0bc585c905fc371c0a06fa02e2fe3810f0f8b8bfc80b8bfb451805c5fd6fe605c5fd5062f02e2feaad37f15a222a0c5e1a814dfc395870b01a187121b64234435418bc25019bf870b01020202f182081418bc08263e1c2020e1f4e02117d9004810 [y0]).1 cm
def kH(A B:Nat):cj:=(⟨_,by conv=>lhs;cbv⟩:cB (cM 9 [.cell 2 (some 5)] [A,B] [] 0xaa18a020218062170f838041c3ec282e004f10 [[.int .i64 0,.int .i64 0,.int .i64 0,.bool false,.bool false]] [] [.D2 (.t 5) 2 none])).1
def jG(B L A D:Nat):cj:=(⟨_,by conv=>lhs;cbv⟩:cB (cM 22 [.tmp 2] [B,A,D] [0,255,5] 0x5209020ca01204012841c11d1fc482a91f2b4e16020844e1f013033e17825fa030800243170f8ba854097d401801c020e1f2a25f400181a20 [] [] [.D2 (.t 6) 3 none,.xN (.func L) [] [.t 1]])).1
def kI(B D A:Nat):cj:=(⟨_,by conv=>lhs;cbv⟩:cB (cM 11 [.cell 2 (some 5)] [B,A] [255] 0x2aa29a928a81032817280888600a8c5c3e2e0030307008387d10926c83a1a20 [[.int .i64 0,.int .i64 0,.int .i64 0,.bool false,.bool false]] [] [.D2 (.t 5) 3 none,.xN (.func D) [] [.t 1]])).1
def lD(B D A:Nat):cj:=(⟨_,by conv=>lhs;cbv⟩:cB (cM 17 [.cell 6 (some 5)] [D] [255] 0x1551cd8d4cc8c4c1d41b9404a0448301c10c1c3e006063c27c804c60e1f0700181e0b25d907497607b30 [[.int .i64 0,.int .i64 0,.int .i64 0,.bool false,.bool false]] [.fn (.func A) [] []] [.xN (.func B) [] [.t 5,.t 3]])).1
def jH(A:Nat):cj:=(⟨_,by conv=>lhs;ext y0;cbv⟩:cB λ(y0:List AV)=>cM 13 [.tmp 2] [A] [0] 0xa0800847ee660ca080083446008043060821a66076bc0a06f01070fa4020004810 [y0]).1 cm
def lE(A:Nat):cj:=(⟨_,by conv=>lhs;ext y0;cbv⟩:cB λ(y0:List AV)=>cM 34 [.cell 2 (some 11)] [A] [0] 0x16c0b9403040cb605cb61361550410283178104c7c384f8640128787f8e09be1ff20cc7f3f56234435418bc25019bf870b01020202f182081418bc08263ee40202f00600103418bc24008263e900c0604f10 [y0]).1 cm
def kJ(A B:Nat):cj:=(⟨_,by conv=>lhs;cbv⟩:cB (cM 25 [.tmp 6] [A,B] [0] 0x50c07e4206107e502213470bf2208203b02721023162f02298fe09f240bc12fc80bdf80088b8bc585e2a2f1417898bc485e222f1017f87fb722fac4301c040da40406204143a4003097607b30 [[.int .i64 0]] [] [.jx (.t 12) [.t 13,.t 19]])).1
def oM(A:Nat):cj:=(⟨_,by conv=>lhs;cbv⟩:cB (cM 7 [.tmp 4] [A] [] 0xa1000206c2930983c7b20)).1
def jI(A B:Nat):cj:=(⟨_,by conv=>lhs;cbv⟩:cB (cM 11 [.tmp 4] [A] [255] 0x508004a0f81051e087023070fc0c0b848810 [] [.fn (.func B) [] []])).1
def qC:cj:=(⟨_,by conv=>lhs;cbv⟩:cB (cM 7 [.tmp 2] [] [0,1] 0xa080240062e0720a8004810 [] [] [.mm true [.t 3,.k (.int .i64 0)],.mm false [.t 4,.k (.int .i64 9999)]])).1
def lF(A B:Nat):cj:=(⟨_,by conv=>lhs;cbv⟩:cB (cM 11 [.tmp 4] [A] [255] 0x508004a0f81051e087023070fc0c0b848810 [] [.fn (.func B) [] []])).1
def jJ(A B:Nat):cj:=(⟨_,by conv=>lhs;cbv⟩:cB (cM 9 [.tmp 4] [B] [0] 0x14200090c1c3e0e814450011005b20 [] [] [.xN (.func A) [] [.t 2]])).1
def iG(A:Nat):cj:=(⟨_,by conv=>lhs;cbv⟩:cB (cM 15 [.tmp 5] [A] [1] 0xa141420e0840dcfe410dfcb15170d0102141f04022a0983c9b20)).1
def lG(A:Nat):cj:=(⟨_,by conv=>lhs;cbv⟩:cB (cM 21 [.tmp 4] [A] [1,2] 0x16e6d6c4c2028471c1e4743f83080bef825a7c041ba7c3ab83c13e2c1ac4862902d0a14020430608044222fb2983c7b20 [] [] [.D2 (.t 16) 6 none])).1
def i5(A:Nat):cj:=(⟨_,by conv=>lhs;cbv⟩:cB (cM 23 [.tmp 5] [A] [1] 0x142801cf1e8674f44f85080bf3c866bb8bc55008a0737f2e9a0b45385057010269fca073e0204283e08044242f0983c9b20)).1
def sI:cj:=(⟨_,by conv=>lhs;cbv⟩:cB (cM 16 [.tmp 2] [] [1,2,3] 0x14102831c8862902d01e1403418e24314816850a010218304022e0981a20)).1
def jq:cj:=(⟨_,by conv=>lhs;cbv⟩:cB (cM 37 [.tmp 5] [] [1,2] 0x50a0a0870327f6e160340505fc701617f080bc505fe40505fda20505fd5b0c0282feb7f019402a8a4dfc3b5974d05a29c280408507c101088be62a2f00c00707120e93e17001b127160102141f0400222f3b0983c9b20)).1
def jK(A:Nat):cj:=(⟨_,by conv=>lhs;cbv⟩:cB (cM 22 [.tmp 6] [A] [1] 0x50c0a10704206e7f2086fe4bca8f8680d08381080bdc8ba682d1a140204283e08044202f0983cbb20)).1
def nD:cj:=(⟨_,by conv=>lhs;cbv⟩:cB (cM 9 [.tmp 4] [] [1] 0x508002141f0400222250983c7b20)).1
def mH:cj:=(⟨_,by conv=>lhs;cbv⟩:cB (cM 8 [.tmp 4] [] [1] 0x508002141f0402240983c7b20)).1
def i6(A B:Nat):cj:=(⟨_,by conv=>lhs;cbv⟩:cB (cM 29 [.tmp 5] [A,B] [] 0x14545fc2a2f91517a8a8bd0545e0a14140485fc701317f10890bfb9fc090bfb461832dfda45e2a8045139bf874b2e5a5c34068471c28405f1e4335dc5e2a8045039bf974d05a302804040d852302fb2983c9b20)).1
end
end Go.Eng
