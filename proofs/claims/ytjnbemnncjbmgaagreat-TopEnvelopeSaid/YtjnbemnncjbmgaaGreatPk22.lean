/- Part 22 of the engine and its library. -/
import Derived.Test.YtjnbemnncjbmgaaGreatPk20
import Derived.Test.YtjnbemnncjbmgaaGreatPk21
set_option linter.all false
set_option maxRecDepth 10000
set_option maxHeartbeats 4000000
namespace Go.Eng
open Go
section
variable (C:aT) (f:Nat)
def OT:List AV:=[B true,I 50,I 20,I 200,I 300,I 50,I 35,I 10,I 0,I 0,I 0,B true,B false,B true,I 50,I 20,I 200,I 300,I 50,I 35,I 10,I 70,I 80,I 1,B true,B false,B true,I 50,I 20,I 200,I 300,I 50,I 35,I 10,I 0,I 0,I 0,B true,B false,B true,I 50,I 20,I 200,I 300,I 50,I 35,I 10,I 70,I 80,I 0,B true,B false,B true,I 50,I 20,I 200,I 300,I 50,I 35,I 10,I 0,I 0,I 0,B true,B false,B true,I 50,I 20,I 200,I 300,I 50,I 35,I 10,I 70,I 80,I 1,B true,B false,B true,I 50,I 20,I 200,I 300,I 50,I 35,I 10,I 0,I 0,I 0,B true,B false,B true,I 50,I 20,I 200,I 300,I 50,I 35,I 10,I 70,I 80,I 0,B true,B false,(.sl [[(.sl ([0,1].map λn=>[I n])),(.sl ([4,5].map λn=>[I n]))],[(.sl ([2,3].map λn=>[I n])),(.sl ([6,7].map λn=>[I n]))]]),I 206,I 205,I 59,I 55,I 236,I 220,I 179,I 115,(.sl [[I 0,(.float .f64 4621819117588971520),(.float .f64 4617315517961601024),(.float .f64 0),(.float .f64 4602678819172646912),I 6000,I 0],[I 1,(.float .f64 4621819117588971520),(.float .f64 4617315517961601024),(.float .f64 0),(.float .f64 4602678819172646912),I 6000,I 0],[I 2,(.float .f64 4621819117588971520),(.float .f64 4617315517961601024),(.float .f64 0),(.float .f64 4602678819172646912),I 6000,I 0],[I 3,(.float .f64 4621819117588971520),(.float .f64 4617315517961601024),(.float .f64 0),(.float .f64 4602678819172646912),I 6000,I 0],[I 4,(.float .f64 4621819117588971520),(.float .f64 4617315517961601024),(.float .f64 0),(.float .f64 4602678819172646912),I 6000,I 0],[I 5,(.float .f64 4621819117588971520),(.float .f64 4617315517961601024),(.float .f64 0),(.float .f64 4602678819172646912),I 6000,I 0],[I 6,(.float .f64 4621819117588971520),(.float .f64 4617315517961601024),(.float .f64 0),(.float .f64 4602678819172646912),I 6000,I 0],[I 7,(.float .f64 4621819117588971520),(.float .f64 4617315517961601024),(.float .f64 0),(.float .f64 4602678819172646912),I 6000,I 0]]),(.sl [[I 204,I 136,I 34,I 68,I 5,I 20,I 30,I 100,I 100,I 3000,I 4000]]),(.sl [[I 34,I 600]]),I 100,I 200,I 60,I 20,I 100,I 1,I 2,I 1,I 1,I 1,I 2,I 1,I 1,I 8640000,I 600]
def IF:AV:=.agg OT
def acs:AV:=.sl ([88,66,1,1,0,50,0,20,0,200,1,44,0,50,0,35,0,10,0,0,0,0,0,1,0,1,0,50,0,20,0,200,1,44,0,50,0,35,0,10,0,70,0,80,1,1,0,1,0,50,0,20,0,200,1,44,0,50,0,35,0,10,0,0,0,0,0,1,0,1,0,50,0,20,0,200,1,44,0,50,0,35,0,10,0,70,0,80,0,1,0,1,0,50,0,20,0,200,1,44,0,50,0,35,0,10,0,0,0,0,0,1,0,1,0,50,0,20,0,200,1,44,0,50,0,35,0,10,0,70,0,80,1,1,0,1,0,50,0,20,0,200,1,44,0,50,0,35,0,10,0,0,0,0,0,1,0,1,0,50,0,20,0,200,1,44,0,50,0,35,0,10,0,70,0,80,0,1,0,2,2,0,1,2,4,5,2,2,3,2,6,7,206,205,59,55,236,220,179,115,8,0,64,36,0,0,0,0,0,0,64,20,0,0,0,0,0,0,0,0,0,0,0,0,0,0,63,224,0,0,0,0,0,0,23,112,0,0,1,64,36,0,0,0,0,0,0,64,20,0,0,0,0,0,0,0,0,0,0,0,0,0,0,63,224,0,0,0,0,0,0,23,112,0,0,2,64,36,0,0,0,0,0,0,64,20,0,0,0,0,0,0,0,0,0,0,0,0,0,0,63,224,0,0,0,0,0,0,23,112,0,0,3,64,36,0,0,0,0,0,0,64,20,0,0,0,0,0,0,0,0,0,0,0,0,0,0,63,224,0,0,0,0,0,0,23,112,0,0,4,64,36,0,0,0,0,0,0,64,20,0,0,0,0,0,0,0,0,0,0,0,0,0,0,63,224,0,0,0,0,0,0,23,112,0,0,5,64,36,0,0,0,0,0,0,64,20,0,0,0,0,0,0,0,0,0,0,0,0,0,0,63,224,0,0,0,0,0,0,23,112,0,0,6,64,36,0,0,0,0,0,0,64,20,0,0,0,0,0,0,0,0,0,0,0,0,0,0,63,224,0,0,0,0,0,0,23,112,0,0,7,64,36,0,0,0,0,0,0,64,20,0,0,0,0,0,0,0,0,0,0,0,0,0,0,63,224,0,0,0,0,0,0,23,112,0,0,1,204,136,34,68,0,5,0,20,0,30,0,100,0,100,11,184,0,0,15,160,1,34,2,88,0,100,0,200,0,60,0,20,0,100,1,2,1,1,1,2,1,1,0,131,214,0,0,0,2,88,54,198].map λn=>[.int .u8 n])
def alK:AV:=.agg [I 3983427,I 3983427,I 3983427,I 3983427,I 3983427,I 3983427,I 3983427,I 3983427,I 580,I 0,I 0,I 0]
theorem acu:OT.length=131:=rfl
noncomputable def mdE(a b f:Nat):Nat:=Bool.rec (Nat.land 1 (Nat.shiftRight a f)) 2 (Nat.beq (Nat.land 1 (Nat.shiftRight b f)) 1)
def itE(D:Nat):AV->Option (List (List AV))
 | .fn (.func f) [] [.ref [.int .i64 s]]=>if f=D then some (((List.range 8).filter λp=>tb s p).map λ(p:Nat)=>[I p])else none
 |_=>none
theorem ahz{C:aT} {L:Nat} (h:iY.Spec C L):∀g xs,itE L g=some xs->C.i g xs:=by
 intro g xs D;unfold itE at D;split at D
 ·split at D
  ·rename_i s M;subst M;cases D;exact h s
  ·cases D
 ·cases D
def yS.Spec:Prop:=C.c f [] IF none
def L5.Spec:Prop:=C.c f [IF] (.dP [alK,.agg [I 0,I 0]]) none
def L6.Spec:Prop:=C.c f [IF] (.dP [acs,I 0]) none
def L7.Spec:Prop:=C.c f [acs] (.dP [IF,.agg [I 0,I 0]]) none
def FM.Spec:Prop:=C.c f [IF,IF] (B true) none
def jw.Spec:Prop:=C.c f [] (B true) none
theorem IG{P:Program} (hm:P.follows .mixedOrders=true) {D a b f:Nat} {as:List AV} {r:AV} (hE:iY.Spec (Pure P) D) (h:evF (itE D) (mdE a b) 10000 P 100 f [] (as.map some)=some (.ret r none [])):(Pure P).c f as r none:=alJ hm (ahz hE) h
end
section
variable{P:Program} (hm:P.follows .mixedOrders=true) {f:Nat}
include hm
theorem jw.ok{V R fE fD fM:Nat} (hc:bK P f=some (CC V R fE fD fM)) (hS:yS.Spec (Pure P) V) (hA:L5.Spec (Pure P) R) (hE:L6.Spec (Pure P) fE) (hD:L7.Spec (Pure P) fD) (hM:FM.Spec (Pure P) fM):jw.Spec (Pure P) f:=by
 have D:setCells bL 0 OT=OT:=rfl
 have L:aB OT 0 (some 131)=some (.agg OT):=rfl
 have O:bL.length=131:=rfl
 have z4:OT[0]? =some (B true):=rfl
 have z5:=acu
 have z6:iI acs none=true:=rfl
 have z7:JM.length=12:=rfl
 obtain⟨w,hw,M⟩:∃w,alK=.agg w/\w.length=12:=⟨_,rfl,rfl⟩
 rw[yS.Spec,IF]at hS;rw[L5.Spec,hw,IF]at hA;rw[L6.Spec,IF]at hE;rw[L7.Spec,IF]at hD;rw[FM.Spec,IF]at hM;generalize OT=l at*;generalize acs=b at*
 have z8:setCells [.int .i64 0,.int .i64 0] 0 [.int .i64 0,.int .i64 0]=[.int .i64 0,.int .i64 0]:=rfl
 have z9:([.int .i64 0,.int .i64 0]:List AV)[0]? =some (.int .i64 0):=rfl
 refine aq hm hc [] rfl ?_;try simp only[B,RY,↓KW,seval,CC,Z.H]
 refine af hS ?_;try simp only[RY,↓KW,seval,D,L,O,z5]
 refine af hA ?_;try simp only[I,RY,↓KW,seval,D,L,z7,M]
 refine af hE ?_;try simp only[I,RY,↓KW,seval,z8]
 refine af hD ?_;try simp only[I,RY,↓KW,seval,D,L,O,z5,z8,z9]
 refine af hM ?_;try simp only[B,RY,↓KW,seval,D,z4]
end
section
variable (t:Tb) (b:Bx) (l:List Int) (x:Fr)
structure CI (t:Tb) (n:Nat) (b:Bx):Prop where
 inv:Inv t b
 si:SI t n b.st
theorem L8:(gz t b x).st=b.st\/(gz t b x).st=pW t\/∃i,(gz t b x).st=rC t b.st i:=by
 unfold gz;split
 ·unfold yY;split<;>exact .inl rfl
 ·split
  ·unfold LS;split
   ·exact .inr (.inl rfl)
   ·exact .inr (.inr ⟨_,rfl⟩)
  ·unfold yZ;split<;>exact .inl rfl
theorem CI.Qq{t:Tb} {n:Nat}:CI t n (jQ t):=⟨Inv.Qq t,Ol⟩
theorem CI.step{t:Tb} {n:Nat} (g:TG t n) (D:vT t) {b:Bx} (h:CI t n b) {x:Fr} (L:(x.samples.getD []).length<=1000000):CI t n (gz t b x):=by
 refine⟨h.inv.step D L,?_⟩
 rcases L8 t b x with e|e|⟨i,e⟩<;>rw[e]
 ·exact h.si
 ·exact Ol
 ·exact Si g h.si i
theorem CI.run{t:Tb} {n:Nat} (g:TG t n) (L:vT t) {D:List Fr} (M:Qm D):∀i,i<=D.length->CI t n (eO t D i)
 |0,_=>CI.Qq
 |i+1,h=>by
  have e:D.getD i default=D[i]:=by simp[show i<D.length by omega]
  exact(CI.run g L M i ado).step g L (by rw[e];exact M _ (FS _))
theorem qj{t:Tb} {b:Bx} {x:Fr} (D:b.mode=2) (h:(gz t b x).mode=2):(gz t b x).st=rC t b.st (gE x b.lines).LH/\vM t b x=uH (gz t b x).st.runs:=by
 have M:¬b.mode=1:=by rw[D];decide
 have L:gz t b x=LS t (Mm b (gE x b.lines).lines) (gE x b.lines):=by unfold gz;rw[fb M,fp D]
 have R:vM t b x=U4 t (Mm b (gE x b.lines).lines) (gE x b.lines):=by unfold vM;rw[fb M,fp D]
 rw[L]at h;rw[L,R];unfold LS at h⊢;unfold U4;split at h
 ·exact absurd (show(3:Int)=2 from h) adp
 ·rename_i O
  rw[fb O,fb O];exact⟨rfl,rfl⟩
theorem II:vM t b x=rdL\/vM t b x=gS t\/(b.mode=2/\(gz t b x).mode=2/\vM t b x=uH (gz t b x).st.runs):=by
 by_cases M:b.mode=1
 ·left;unfold vM;rw[fp M]
 by_cases L:b.mode=2
 ·by_cases D:(gz t b x).mode=2
  ·exact .inr (.inr ⟨L,D,(qj L D).2⟩)
  ·right;left
   have O:gz t b x=LS t (Mm b (gE x b.lines).lines) (gE x b.lines):=by unfold gz;rw[fb M,fp L]
   have V:vM t b x=U4 t (Mm b (gE x b.lines).lines) (gE x b.lines):=by unfold vM;rw[fb M,fp L]
   rw[O]at D;rw[V];unfold LS at D;unfold U4;split
   ·rfl
   ·rename_i R
    rw[fb R]at D;exact absurd L D
 ·right;left;unfold vM;rw[fb M,fb L]
theorem AN:(vM t b x).length=8:=by
 rcases II t b x with h|h|⟨_,_,h⟩<;>rw[h]
 ·rfl
 ·simp[gS,je]
 ·exact oZ _
def U5(p:Nat):Bool:=bT .i64 (mz l p) 6 !=0
def IJ(l:List Int):Nat->Int
 |0=>0
 |k+1=>if U5 l k then AW .i64 (IJ l k) (2^k)else IJ l k
def UJ:Int:=IJ l 8
theorem L9(l:List Int) (i:Nat):∀k,k<=8->tb (IJ l k) i=(decide (i<k)&&U5 l i)
 |0,_=>by simp[IJ,ef]
 |k+1,h=>by
  have D:=L9 l i k ado
  simp only[IJ];split
  ·rename_i hk
   rw[JG,D,K9 ado]
   by_cases e:i=k
   ·subst e;simp[hk]
   ·have:(i<k+1)↔i<k:=ado
    simp[e,this]
  ·rename_i hk
   rw[D]
   by_cases e:i=k
   ·subst e;simp[hk]
   ·have:(i<k+1)↔i<k:=ado
    simp[this]
structure FG (t:Tb) (n:Nat):Prop where
 one:∃q:Nat,∀p,p<8->EE t p=if q<n/\p=q then 2 else if p<n then 1 else 0
theorem IK(l:Option (List Int)):FG (bk l) (nT l):=⟨am9 l⟩
theorem FN{r:Rn} (h:0<=r.az/\r.az<=3):((bT .i64 (iM r) 6 !=0)=true->dN r=false)/\((bT .i64 (iM r) 8 !=0)=true->dN r=false)/\(bT .i64 (iM r) 7==0)=false:=by
 unfold iM
 rcases mY h with⟨e,D⟩|⟨e,D⟩|⟨e,D⟩|⟨e,D⟩
 ·rw[e];exact⟨λh=>absurd (show(bT .i64 1 6 !=0)=true from h) (by decide+kernel),λh=>absurd (show(bT .i64 1 8 !=0)=true from h) (by decide+kernel),show(bT .i64 1 7==0)=false by decide+kernel⟩
 ·rw[e,D]
  refine⟨λ_=>rfl,λ_=>rfl,?_⟩
  split
  ·split
   ·decide+kernel
   ·split<;>decide+kernel
  ·rename_i h;exact absurd rfl h
 ·rw[e,D];exact⟨λ_=>rfl,λ_=>rfl,show(bT .i64 2 7==0)=false by decide+kernel⟩
 ·rw[e];exact⟨λh=>absurd (show(bT .i64 1 6 !=0)=true from h) (by decide+kernel),λh=>absurd (show(bT .i64 1 8 !=0)=true from h) (by decide+kernel),show(bT .i64 1 7==0)=false by decide+kernel⟩
def DM.Spec(C:aT) (f:Nat):Prop:=∀l:List Int,l.length=8->C.c f [.agg (l.map I)] (I (UJ l)) none
end
section
variable{P:Program} (hm:P.follows .mixedOrders=true) {f:Nat}
include hm
theorem DM.ok(hc:bK P f=some xQ):DM.Spec (Pure P) f:=by
 intro l hl
 have h8:(l.map I).length=8:=by simp[hl]
 have hw:aB (l.map I) 0 (some 8)=some (.agg (l.map I)):=by
  simp only[aB,h8,kb]
  rw[fp ado,<-h8,io]
 refine aq hm hc [] rfl ?_;try simp only[I,RX,↓KW,seval,xQ,Z.H,hw]
 refine aG (λk:Nat=>(⟨[(7,.dat (I k) none),(6,.dat (.agg (l.map I)) none),(3,.dat (I (IJ l k)) none)],[(4,⟨l.map I,[]⟩)],[],400⟩:S)) (λk=>8-k) (λk=>k<=8) ?_ 0 ado ?_
 rotate_left
 ·refine ai adp ?_ ?_ ?_ ?_<;>simp[LX,I,IJ]
 intro k hk A back
 have O:=aC (k:=k) ado
 rcases bf (decide ((k:Int)<8))with h|h
 ·have:k=8:=by have:=dT h;omega
  subst this;try simp only[I,RX,↓KW,seval]
  try rfl
 ·have aa:k<8:=by have:=dE h;omega
  have hb:0<=(k:Int)/\(k:Int)<8:=ado
  have M:(l.map I)[k]? =some (I (mz l k)):=PZ hl aa
  have hm:min k IntKind.i64.bits=k:=by simp[IntKind.bits];omega
  have D:IJ l (k+1)=if U5 l k then AW .i64 (IJ l k) (2^k)else IJ l k:=rfl
  have V:IntKind.i64.wrap (1*2^k)=2^k:=by
   have e:k=0\/k=1\/k=2\/k=3\/k=4\/k=5\/k=6\/k=7:=ado
   rcases e with rfl|rfl|rfl|rfl|rfl|rfl|rfl|rfl<;>rfl
  have L:(bT .i64 (mz l k) 6 !=0)=U5 l k:=rfl
  rcases bf (U5 l k)with R|R
  ·rw[R]at D L
   try simp only[I,RX,↓KW,seval,hb,M,L]
   refine back (k+1) _ ado ado ?_
   refine ai adp ?_ ?_ ?_ ?_<;>simp[LX,I,O,D]
  ·rw[R]at D L
   try simp only[I,RX,↓KW,seval,hb,M,hm,L,V]
   refine back (k+1) _ ado ado ?_
   refine ai adp ?_ ?_ ?_ ?_<;>simp[LX,I,O,D]
end
section
variable {b:Bx} {c:Cu} {k:Nat->Int} {n:Int} {p:Ph} {r:Rn} {t:Tb} {x:Fr}
structure NI (p:Ph) (r:Rn) (n:Int):Prop where
 time:r.az≠0->r.time=n+1
 yel:r.az=2->r.time<=p.dD
 clr:r.az=3->r.time<=p.red
def adM(p:Ph) (was D:Int) (n:Int) (e:Bool):Prop:=
 (was=0/\D=1)\/(was=1/\D=2/\(e=true\/p.min<=n+1))\/(was=2/\D=3/\n+1=p.dD/\0<p.red)\/(was=2/\D=0/\n+1=p.dD/\p.red=0)\/(was=3/\D=0/\n+1=p.red)
theorem uR(h:0<=n) (D:n<=1501):bt n=n+1:=by
 have e:gM n 0 9999=n:=by
  unfold gM
  split<;>(try split)<;>omega
 unfold bt;rw[e]
 exact aU ado ado
theorem UK(h:c.fin=false):(gx p r c).az=1/\(gx p r c).time=bt r.time:=by
 unfold gx;rw[h];simp only[eQ,il];split
 ·exact⟨rfl,rfl⟩
 ·split<;>exact⟨rfl,rfl⟩
theorem Kq(h:c.fin=true):(gx p r c).az=2/\(gx p r c).time=1:=by
 unfold gx;rw[h];simp only[kw]
 split<;>exact⟨rfl,rfl⟩
theorem YQ{e:Bool} (hc:0<=r.az/\r.az<=3) (N:NI p r n) (hn:0<=n/\n<=1500) (V:r.az≠0->1<=p.dD/\0<=p.red) (hf:c.fin=true->r.az=1->p.min<=r.time\/e=true):
  ((bG p r c).az=r.az/\NI p (bG p r c) (n+1))\/((bG p r c).az≠r.az/\NI p (bG p r c) 0/\adM p r.az (bG p r c).az n e):=by
 have O:r.az=0\/r.az=1\/r.az=2\/r.az=3:=ado
 rcases O with h|h|h|h
 ·have L:bG p r c=Fg p r c:=by simp[bG,h]
  rw[L,h];unfold Fg;split
  ·right
   exact⟨by simp[qG],⟨λ_=>rfl,λh=>absurd h (by simp[qG]),λh=>absurd h (by simp[qG])⟩,.inl ⟨rfl,rfl⟩⟩
  ·left
   exact⟨rfl,⟨λh=>absurd rfl h,λh=>absurd h (by simp[qG]),λh=>absurd h (by simp[qG])⟩⟩
 ·have L:bG p r c=gx p r c:=by simp[bG,h]
  have Z:=N.time ado
  rw[L,h]
  cases D:c.fin with
  |false=>
   obtain⟨M,R⟩:=UK (p:=p) (r:=r) D
   rw[uR ado ado]at R
   left
   exact⟨M,⟨λ_=>ado,λh=>ado,λh=>ado⟩⟩
  |true=>
   obtain⟨M,R⟩:=Kq (p:=p) (r:=r) D
   right
   refine⟨ado,⟨λ_=>ado,λ_=>by have:=V ado;omega,λh=>ado⟩,.inr (.inl ⟨rfl,M,?_⟩)⟩
   rcases hf D h with h|h
   ·right;omega
   ·left;exact h
 ·have L:bG p r c=lP p r:=by simp[bG,h]
  have Z:=N.time ado
  have t2:=N.yel h
  have t3:=V ado
  rw[L,h];unfold lP;split
  ·left
   have m:=uR (n:=r.time) ado ado
   exact⟨rfl,⟨λ_=>by show bt r.time=_;omega,λ_=>by show bt r.time<=_;omega,λh=>absurd h (by simp[qG])⟩⟩
  ·split
   ·right
    exact⟨by simp[qG],⟨λ_=>rfl,λh=>absurd h (by simp[qG]),λ_=>by show(1:Int)<=_;omega⟩,.inr (.inr (.inl ⟨rfl,rfl,ado,ado⟩))⟩
   ·right
    exact⟨by simp[qG],⟨λh=>absurd rfl h,λh=>absurd h (by simp[qG]),λh=>absurd h (by simp[qG])⟩,.inr (.inr (.inr (.inl ⟨rfl,rfl,ado,ado⟩)))⟩
 ·have L:bG p r c=sg p r:=by simp[bG,h]
  have Z:=N.time ado
  have t2:=N.clr h
  rw[L,h];unfold sg;split
  ·left
   have m:=uR (n:=r.time) ado ado
   exact⟨rfl,⟨λ_=>by show bt r.time=_;omega,λh=>absurd h (by simp[qG]),λ_=>by show bt r.time<=_;omega⟩⟩
  ·right
   exact⟨by simp[qG],⟨λh=>absurd rfl h,λh=>absurd h (by simp[qG]),λh=>absurd h (by simp[qG])⟩,.inr (.inr (.inr (.inr ⟨rfl,rfl,ado⟩)))⟩
def RI(b:Bx):Prop:=b.mode≠2->∀p:Nat,p<8->(b.st.rn p).az=0
theorem Ma(t:Tb):∀p:Nat,p<8->((pW t).rn p).az=0:=λp D=>by rw[AI t D];rfl
theorem Mb(h:RI b):(b.mode=2/\(gz t b x).mode=2)\/∀p:Nat,p<8->((gz t b x).st.rn p).az=0:=by
 by_cases M:b.mode=1
 ·right
  have D:gz t b x=yY t b (gE x b.lines).lines:=by unfold gz;rw[fp M]
  rw[D];unfold yY
  split<;>exact h (by rw[M];decide)
 ·by_cases L:b.mode=2
  ·have D:gz t b x=LS t (Mm b (gE x b.lines).lines) (gE x b.lines):=by unfold gz;rw[fb M,fp L]
   rw[D];unfold LS;split
   ·right;exact Ma t
   ·left;exact⟨L,L⟩
  ·right
   have D:gz t b x=yZ t b (gE x b.lines).lines (gE x b.lines).reset:=by unfold gz;rw[fb M,fb L]
   rw[D];unfold yZ
   split<;>exact h L
theorem RI.next(h:RI b):RI (gz t b x):=λL=>by
 rcases Mb (t:=t) (x:=x) h with⟨_,D⟩|D
 ·exact absurd D L
 ·exact D
def AO(b:Bx):Bool:=b.st.pre.ax==1||b.st.pre.ax==3
def nxt(b D:Bx) (n:Nat->Int) (p:Nat):Int:=if b.mode=2/\D.mode=2 then(if(b.st.rn p).az=(D.st.rn p).az then n p+1 else 0)else 0
def NIs(t:Tb) (b:Bx) (n:Nat->Int):Prop:=∀p:Nat,p<8->NI (aK t p) (b.st.rn p) (n p)
theorem NI.red(h:r.az=0):NI p r n:=⟨λD=>absurd h D,λD=>ado,λD=>ado⟩
theorem SR{n:Nat} (g:TG t n) (I:CI t n b) (N:NIs t b k) (hk:∀p,0<=k p/\k p<=1500) (Z:b.mode=2) (V:(gz t b x).mode=2):∀p:Nat,p<8->
  (((gz t b x).st.rn p).az=(b.st.rn p).az/\NI (aK t p) ((gz t b x).st.rn p) (k p+1))\/
  (((gz t b x).st.rn p).az≠(b.st.rn p).az/\NI (aK t p) ((gz t b x).st.rn p) 0/\adM (aK t p) (b.st.rn p).az ((gz t b x).st.rn p).az (k p) (AO (gz t b x))):=λp D=>by
 obtain⟨e,_⟩:=qj (x:=x) Z V
 obtain⟨_,o⟩:=LK g I.si (gE x b.lines).LH
 unfold AO;rw[e,lS t b.st _ D]
 refine YQ (I.si.run p D).col (N p D) (hk p) (λh=>?_) (λM R=>?_)
 ·have L:p<n:=by
   by_cases h4:p<n
   ·exact h4
   ·have:=I.si.off p D ado
    unfold dN at this
    have O:=(I.si.run p D).col
    have:(b.st.rn p).az=0:=by
     simp only[ed,bne_iff_ne,ne_eq]at this;omega
    exact absurd this h
  have:=g.ph p L
  have h5:=this.dD
  have h6:=this.red
  omega
 ·rw[(lT t b.st _ D).2.1]at M
  rcases o.fin p D M R with h|h|h
  ·left;exact h.1
  ·right
   show((jS t b.st (gE x b.lines).LH).1.ax==1||(jS t b.st (gE x b.lines).LH).1.ax==3)=true
   rw[h];rfl
  ·right
   show((jS t b.st (gE x b.lines).LH).1.ax==1||(jS t b.st (gE x b.lines).LH).1.ax==3)=true
   rw[h];rfl
theorem YR{n:Nat} (g:TG t n) (I:CI t n b) (R:RI b) (N:NIs t b k) (hk:∀p,0<=k p/\k p<=1500):NIs t (gz t b x) (nxt b (gz t b x) k):=λp O=>by
 rcases Mb (t:=t) (x:=x) R with⟨M,D⟩|D
 ·unfold nxt
  rw[fp ⟨M,D⟩]
  rcases SR g I N hk M D p O with⟨h4,L⟩|⟨h4,L,_⟩
  ·rw[fp h4.symm];exact L
  ·rw[fb (λh=>h4 h.symm)];exact L
 ·exact NI.red (D p O)
def DN(t:Tb) (D:List Fr):Nat->Nat->Int
 |0,_=>0
 |i+1,p=>nxt (eO t D i) (eO t D (i+1)) (DN t D i) p
theorem uS(t:Tb) (D:List Fr):∀i p,0<=DN t D i p/\DN t D i p<=i
 |0,_=>⟨pu _,pu _⟩
 |i+1,p=>by
  have:=uS t D i p
  unfold DN nxt;split
  ·split<;>omega
  ·omega
structure KI (t:Tb) (b:Bx) (k:Nat->Int):Prop where
 red:RI b
 ns:NIs t b k
theorem KI.run{t:Tb} {n:Nat} (g:TG t n) (L:vT t) {D:List Fr} (M:Qm D) (O:D.length<=1500):∀i,i<=D.length->KI t (eO t D i) (DN t D i)
 |0,_=>⟨λ_=>Ma t,λp R=>NI.red (Ma t p R)⟩
 |i+1,h=>by
  have K:=KI.run g L M O i ado
  have I:=CI.run g L M i ado
  exact⟨K.red.next,YR g I K.red K.ns (λp=>by have:=uS t D i p;omega)⟩
theorem Bx.YS(h:b.Ok) {j:Nat} (L:j<117):b.cells[3+j]? =b.st.cells[j]?:=by
 have e:b.st.cells.length=117:=bD.len h.st
 have D:b.cells=[I b.mode,I b.time,I b.fault]++(b.st.cells++(b.cH.cells++[I b.lines,I b.tick])):=rfl
 rw[D,im adI]
 rw[show 3+j-[I b.mode,I b.time,I b.fault].length=j by simp,iv ado]
theorem Bx.pV(h:b.Ok):b.cells[109]? =some (I b.st.pre.ax):=by
 rw[show 109=3+106 from rfl,Bx.YS h adp]
 rw[bD.Qg]
 rw[im (by rw[bD.abN h.st];decide),bD.abN h.st]
 rfl
end
section
variable {p:Nat} {α:Type} {a:α} {l:List α} {β:Type} {R:α->β->Prop} {m:List β} (t:Tb)
def vW(k D:Nat->Int) (p:Nat):List AV:=(List.range 8).map λq=>I (if q<p then D q else k q)
theorem CQ(k D:Nat->Int) (p:Nat):(vW k D p).length=8:=by simp[vW]
theorem YT(k D:Nat->Int) (L:p<8):(vW k D p)[p]? =some (I (k p)):=by
 rw[vW,ka,kv L];simp
theorem CR(k D:Nat->Int) (M:p<8) (v:Int) (L:v=D p):setCells (vW k D p) p [I v]=vW k D (p+1):=by
 have e:p=0\/p=1\/p=2\/p=3\/p=4\/p=5\/p=6\/p=7:=ado
 subst L
 rcases e with rfl|rfl|rfl|rfl|rfl|rfl|rfl|rfl<;>simp[vW,setCells,lj]
theorem SS(l:List AV) (v w:AV) (D:p<l.length):setCells (setCells l p [v]) p [w]=setCells l p [w]:=by
 simp only[setCells,WF]
 rw[wn (by simp;omega)]
 simp[xi,ab7 (Nat.le_of_lt D)]
theorem OU(k D:Nat->Int):vW k D 8=vW D D 0:=by simp[vW,lj]
def ahA(y:Pr):Prop:=0<=aQ t y->y.ax≠0/\y.ax≠5/\y.which<=aQ t y
theorem Kr{t:Tb} {x:Pr} (lines:Int) (l:List Rn) (h:X0 t x):ahA t (iH t x lines l).1/\
  ((iH t x lines l).1.ax=4->(iH t x lines l).1.which=x.which/\(x.ax=4\/mA l (bC .i64 255 (bn t (iH t x lines l).1).fe)=true)):=by
 have hx:=h.rng
 have hu:HY (iE t x lines)=iE t x lines:=fb (by show ¬(x.ax<0\/6<=x.ax);omega)
 have V:(iE t x lines).ax=x.ax:=rfl
 have e2:(iE t x lines).which=x.which:=rfl
 have Z:iH t x lines l=jK t (iE t x lines) l:=by rw[iH,XF,hu]
 rw[Z];generalize iE t x lines=u at*;rw[<-V]at hx;rw[<-V,<-e2];clear V e2 Z hu;unfold jK;split
 ·exact⟨λ_=>⟨by show(1:Int)≠0;omega,by show(1:Int)≠5;omega,pu _⟩,λe=>(by cases e)⟩
 ·rename_i hk
  have O:0<=aQ t u->u.ax≠0/\u.ax≠5/\u.which<=aQ t u:=λL=>by
   simp only[iw,ed,na,ii,l4,not_and,not_or]at hk
   have:=hk L
   omega
  split
  ·rename_i h5
   have e:aF t u l=(gC t u l,u):=by rw[aF,fb ado,fb ado,fb ado,fb ado,fb ado]
   rw[e]
   exact⟨λL=>absurd h5.1 (O L).2.1,λe=>absurd (show(0:Int)=4 from e) adp⟩
  ·rename_i h5
   have hs:u.ax=0\/u.ax=1\/u.ax=2\/u.ax=3\/u.ax=4\/u.ax=5:=ado
   rcases hs with e|e|e|e|e|e
   ·have M:aF t u l=(0,u):=by simp[aF,e]
    rw[M]
    exact⟨λL=>absurd e (O L).1,λe=>absurd (show(0:Int)=4 from e) adp⟩
   ·have M:aF t u l=(jf t u l,u):=by simp[aF,e]
    rw[M]
    refine⟨λL=>⟨?_,?_,(O L).2.2⟩,λD=>⟨rfl,.inr ?_⟩⟩
    ·show jf t u l≠0
     unfold jf;split
     ·split<;>decide
     ·decide
    ·show jf t u l≠5
     unfold jf;split
     ·split<;>decide
     ·decide
    ·have D:jf t u l=4:=D
     show mA l (bC .i64 255 (bn t u).fe)=true
     unfold jf at D;split at D
     ·rename_i R
      split at D
      ·rename_i h7
       rw[tgt,fp h7]at R;exact R
      ·exact absurd D adp
     ·exact absurd D adp
   ·have M:aF t u l=(iS t u,u):=by simp[aF,e]
    rw[M]
    refine⟨λL=>⟨?_,?_,(O L).2.2⟩,λD=>?_⟩
    ·show iS t u≠0
     unfold iS;split<;>decide
    ·show iS t u≠5
     unfold iS;split<;>decide
    ·have D:iS t u=4:=D
     unfold iS at D
     split at D<;>exact absurd D adp
   ·have M:aF t u l=(gH t u l,u):=by simp[aF,e]
    rw[M]
    refine⟨λL=>⟨?_,?_,(O L).2.2⟩,λD=>⟨rfl,.inr ?_⟩⟩
    ·show gH t u l≠0
     unfold gH;split<;>decide
    ·show gH t u l≠5
     unfold gH;split<;>decide
    ·have D:gH t u l=4:=D
     show mA l (bC .i64 255 (bn t u).fe)=true
     unfold gH at D;split at D
     ·assumption
     ·exact absurd D adp
   ·have M:aF t u l=iT t u:=by simp[aF,e]
    rw[M];unfold iT;split
    ·exact⟨λL=>⟨by show(4:Int)≠0;decide,by show(4:Int)≠5;decide,(O L).2.2⟩,λ_=>⟨rfl,.inl e⟩⟩
    ·split
     ·exact⟨λ_=>⟨by show(1:Int)≠0;decide,by show(1:Int)≠5;decide,pu _⟩,λe=>absurd (show(1:Int)=4 from e) adp⟩
     ·rename_i R
      exact⟨λL=>absurd (show 0<=aQ t (iu t u)from L) R,λe=>absurd (show(5:Int)=4 from e) adp⟩
   ·have M:aF t u l=(gC t u l,u):=by rw[aF,fb ado,fb ado,fb ado,fb ado,fb ado]
    rw[M]
    refine⟨λL=>absurd e (O L).2.1,λD=>?_⟩
    have D:gC t u l=4:=D
    unfold gC at D
    split at D<;>exact absurd D adp
def DI(s:bD):Prop:=s.pre.ax=4->∀p:Nat,p<8->tb (bn t s.pre).fe p=false->dN (s.rn p)=true
theorem acw{t:Tb} {n:Nat} {s:bD} (I:SI t n s) (D:DI t s) (x:E0):DI t (rC t s x):=by
 intro h4 p L hd
 have h4:(jS t s x).1.ax=4:=h4
 have hd:tb (bn t (jS t s x).1).fe p=false:=hd
 obtain⟨O,M⟩:=(Kr x.lines s.runs I.pre).2 h4
 have O:(jS t s x).1.which=s.pre.which:=O
 have R:dN (s.rn p)=true:=by
  rcases M with M|M
  ·refine D M p L ?_
   rw[<-DG O];exact hd
  ·exact nN.1 M p L (by rw[Qj L];rw[show tb (bn t (iH t s.pre x.lines s.runs).1).fe p=false from hd];rfl)
 rw[lS t s x L];refine Ii R ?_;rw[(lT t s x L).1]
 rcases(Cx x.lines s.runs I.pre).2 with⟨_,_,h⟩|⟨_,_,h,_⟩|⟨_,_,h⟩
 ·have h:(jS t s x).1.ax=0:=h
  omega
 ·have h:(jS t s x).1.ax=0:=h
  omega
 ·have h:(jS t s x).2=mD t (jS t s x).1 s.runs (jS t s x).1.ax:=h
  have V:=AF t (jS t s x).1 s.runs (to:=(jS t s x).1.ax) ado
  have Z:(jS t s x).2.free=false:=by rw[h,V.1];simp;omega
  rw[E1,Z];simp only[eQ,il];rw[h,h4]
  have:(mD t (jS t s x).1 s.runs 4).start=xz (bn t (jS t s x).1).fe (ju t s.runs):=rfl
  rw[this,H7 L,hd];rfl
structure alL (t:Tb) (b':Bx) (L:List Int):Prop where
 ao0:ahA t b'.st.pre
 fe:b'.st.pre.ax=4->bC .i64 (UJ L) (bn t b'.st.pre).fe=0/\bT .i64 (UJ L) (bn t b'.st.pre).bars=0
def DIb(b:Bx):Prop:=DI t b.st
theorem DI.Qq:DI t (pW t):=λh=>absurd (show(0:Int)=4 from h) adp
theorem DIb.next{t:Tb} {n:Nat} {b:Bx} {x:Fr} (h:CI t n b) (D:DIb t b):DIb t (gz t b x):=by
 unfold DIb
 rcases L8 t b x with e|e|⟨i,e⟩<;>rw[e]
 ·exact D
 ·exact DI.Qq t
 ·exact acw h.si D i
theorem DIb.run{t:Tb} {n:Nat} (g:TG t n) (L:vT t) {D:List Fr} (M:Qm D):∀i,i<=D.length->DIb t (eO t D i)
 |0,_=>DI.Qq t
 |i+1,h=>(DIb.run g L M i ado).next (CI.run g L M i ado)
def Al{α β:Type} (R:α->β->Prop):List α->List β->Prop
 |[],[]=>True
 |a::l,b::m=>R a b/\Al R l m
 |_,_=>False
theorem Al.len{α β:Type} {R:α->β->Prop}:∀{l:List α} {m:List β},Al R l m->l.length=m.length
 |[],[],_=>rfl
 |a::l,b::m,h=>by simp[Al.len h.2]
 |[],b::m,h=>h.elim
 |a::l,[],h=>h.elim
theorem Al.get{α β:Type} {R:α->β->Prop}:∀{l:List α} {m:List β},Al R l m->∀(i:Nat) (a:α) (b:β),l[i]? =some a->m[i]? =some b->R a b
 |a::l,b::m,h,0,x,y,D,L=>by simp at D L;subst D;subst L;exact h.1
 |a::l,b::m,h,i+1,x,y,D,L=>Al.get h.2 i x y (by simpa using D) (by simpa using L)
 |[],_,_,i,_,_,D,_=>by simp at D
theorem Al.mk{α β:Type} {R:α->β->Prop}:∀{l:List α} {m:List β},l.length=m.length->(∀(i:Nat) (a:α) (b:β),l[i]? =some a->m[i]? =some b->R a b)->Al R l m
 |[],[],_,_=>trivial
 |a::l,b::m,h,f=>⟨f 0 a b rfl rfl,Al.mk (by simpa using h) λi x y D L=>f (i+1) x y (by simpa using D) (by simpa using L)⟩
theorem Al.append{α β:Type} {R:α->β->Prop}:∀{l:List α} {m:List β} {L:List α} {D:List β},Al R l m->Al R L D->Al R (l++L) (m++D)
 |[],[],_,_,_,h=>h
 |a::l,b::m,_,_,h,M=>⟨h.1,Al.append h.2 M⟩
theorem Al.n:Al R ([]:List α) ([]:List β):=trivial
theorem Al.c{b:β} (h:R a b) (t:Al R l m):Al R (a::l) (b::m):=⟨h,t⟩
theorem Al.oQ(h:Al R [] m):m=[]:=by
 cases m with
 |nil=>rfl
 |cons b m=>exact h.elim
theorem Al.cons_inv(h:Al R (a::l) m):∃b D,m=b::D/\R a b/\Al R l D:=by
 cases m with
 |nil=>exact h.elim
 |cons b m=>exact⟨b,m,rfl,h.1,h.2⟩
inductive Z' where
 |bool
 |int (k:IntKind)
 |flt (k:FloatKind)
 |str
inductive Ty where
 |sc (s:Z')
 |sl (l:List Ty)
def yT(D:TypeId->Nat) (F:TypeId->Option (List Ty)):Nat->List (Nat×TypeId)->Option (List Ty)
 |_,[]=>some []
 |o,f::r=>if f.1=o then match F f.2 with
   |some l=>if D f.2=l.length then match yT D F (o+l.length) r with
    |some m=>some (l++m)
    |none=>none
    else none
   |none=>none
  else none
def Qz(P:Program):Nat->TypeId->Option (List Ty)
 |0,_=>none
 |n+1,t=>match P.underlying t with
  |some .bool=>some [.sc .bool]
  |some (.int k)=>some [.sc (.int k)]
  |some (.float k)=>some [.sc (.flt k)]
  |some .string=>some [.sc .str]
  |some (.slice e)=>match Qz P n e with
   |some l=>if P.cellsOf e=l.length/\0<l.length then some [.sl l]else none
   |none=>none
  |some (.struct D)=>match yT P.cellsOf (Qz P n) 0 (D.toList.map λf=>(f.offset,f.type))with
   |some l=>if P.cellsOf t=l.length then some l else none
   |none=>none
  |some (.array k e)=>match yT P.cellsOf (Qz P n) 0 ((List.range k).map λi=>(i*P.cellsOf e,e))with
   |some l=>if P.cellsOf t=l.length then some l else none
   |none=>none
  |_=>none
def ScV:Z'->AV->Prop
 | .bool,.bool _=>True
 | .int k,.int D n=>D=k/\(Lit.int k n).wf=true
 | .flt k,.float D b=>D=k/\(Lit.float k b).wf=true
 | .str,.str s=>s.size<=maxLen
 |_,_=>False
mutual
def DO:Ty->AV->Prop
 | .sc s,a=>ScV s a
 | .sl _,.aZ=>True
 | .sl l,.sl xs=>xs.length<=maxLen/\∀r∈xs,OV l r
 |_,_=>False
def OV:List Ty->List AV->Prop
 |[],[]=>True
 |t::l,a::r=>DO t a/\OV l r
 |_,_=>False
end
theorem Mc:∀{l:List Ty} {as:List AV},OV l as↔Al DO l as
 |[],[]=>by simp[OV,Al]
 |t::l,a::r=>by simp only[OV,Al];rw[Mc (l:=l) (as:=r)]
 |[],a::r=>by simp[OV,Al]
 |t::l,[]=>by simp[OV,Al]
def IL(W:World):Nat->Nat->Prop:=λb _=>b<W.heap.size
theorem acz{W:World} {a:Addr} {v:Value} (h:W.cell? a=some v):a.block<W.heap.size:=by
 unfold World.cell? at h;split at h
 ·rename_i D;exact qL D
 ·cases h
theorem ScV.scalar{s:Z'} {a:AV} (h:ScV s a):a.scalar=true:=by cases s<;>cases a<;>first|exact h.elim|rfl
theorem DO.scalar{s:Ty} {a:AV} (h:DO s a):a.scalar=true:=by
 cases s with
 |sc s=>exact ScV.scalar (by simpa[DO]using h)
 |sl l=>cases a<;>first|rfl|(simp[DO]at h)
end
section
variable{H:Type} {enc:TypeId×Value->H} {P:Program} {W:World} {base:Nat}
open Go.ChangeShapes Go.WideShapes Go.ChangeAt Go.RowKit
section
variable {a:AV} {k:IntKind} {n:Nat} {t:TypeId} {v:Value}
theorem QB{M:Nat->Bool} {held:Bool} {O D:Nat} {cs:List Value} {x:DataW H×List MemPlace} {k:FloatKind} (L:P.underlying t=some (.float k)) (h:DataW.trod enc P W O M held D t cs=some x):∃n,cs=[.float k n]/\(Lit.float k n).wf=true:=by
 cases D with
 |zero=>simp[DataW.trod]at h
 |succ n=>
  unfold DataW.trod at h;rw[L]at h
  split at h<;>simp_all
theorem AP{sp:TypeId->Nat} {G:TypeId->Option (List Ty)} {Tr:TypeId->List Value->Prop}
  (each:∀t l cs,G t=some l->Tr t cs->∃as,Al DO l as/\Al (DV W (IL W)) as cs):∀(ps:List (Nat×TypeId)) (o:Nat) (l:List Ty) (cs:List Value),yT sp G o ps=some l->cs.length=o+l.length->
   (∀(i:Nat) (f:Nat×TypeId),ps[i]? =some f->Tr f.2 ((cs.drop f.1).take (sp f.2)))->∃as,Al DO l as/\Al (DV W (IL W)) as (cs.drop o)
 |[],o,l,cs,h,L,_=>by
  simp only[yT,fx]at h;subst h;refine⟨[],trivial,?_⟩
  rw[ml (by simp at L;omega)];trivial
 |f::ps,o,l,cs,h,L,D=>by
  simp only[yT]at h
  split at h<;>try(cases h;done)
  rename_i ho
  split at h<;>try(cases h;done)
  rename_i l1 Z
  split at h<;>try(cases h;done)
  rename_i O
  split at h<;>try(cases h;done)
  rename_i m hm;cases h
  have h0:=D 0 f rfl
  rw[ho,O]at h0;obtain⟨ab,ac,V⟩:=each f.2 l1 _ Z h0
  obtain⟨M,R,aa⟩:=AP each ps (o+l1.length) m cs hm (by rw[L];simp;omega) (λi g hg=>D (i+1) g (by simpa using hg))
  refine⟨ab++M,ac.append R,?_⟩
  have:=V.append aa
  rw[<-ul,List.take_append_drop]at this;exact this
omit H enc P W base in
theorem QC{w:World} {b o:Nat} {D:Option Nat} (h:w.cell? ⟨b,o,D⟩=some v):D=none:=by
 cases D with
 |none=>rfl
 |some x=>unfold World.cell? at h;split at h<;>simp at h
theorem Md{a:Addr} (h:a.spot=none):a.add n=⟨a.block,a.off+n,none⟩:=by
 obtain⟨b,o,s⟩:=a;simp only at h;subst h;unfold Addr.add;split
 ·rename_i D;subst D;rfl
 ·rfl
theorem FO:∀(n:Nat) (t:TypeId) (l:List Ty),Qz P n t=some l->∀(cs:List Value) (x:DataW H×List MemPlace) (D:Nat),
  DataW.trod enc P W 0 (λ_=>true) true D t cs=some x->∃as,Al DO l as/\Al (DV W (IL W)) as cs
 |0,t,l,h,cs,x,D,hx=>by cases h
 |n+1,t,l,h,cs,x,D,hx=>by
  simp only[Qz]at h;split at h
  ·rename_i R;cases h
   obtain⟨b,rfl,_⟩:=DataW.trod_bool R hx
   exact⟨[.bool b],⟨by simp[DO,ScV],trivial⟩,⟨.bool b,trivial⟩⟩
  ·rename_i k R;cases h
   obtain⟨m,rfl,_,hw⟩:=DataW.trod_int R hx
   exact⟨[.int k m],⟨by simp only[DO];exact⟨rfl,hw⟩,trivial⟩,⟨.int k m,trivial⟩⟩
  ·rename_i k R;cases h
   obtain⟨m,rfl,hw⟩:=QB R hx
   exact⟨[.float k m],⟨by simp only[DO];exact⟨rfl,hw⟩,trivial⟩,⟨.float k m,trivial⟩⟩
  ·rename_i R;cases h
   obtain⟨s,rfl,_,hw⟩:=DataW.trod_string R hx
   exact⟨[.str s],⟨by simp only[DO];exact hw,trivial⟩,⟨.str s,trivial⟩⟩
  ·rename_i e R
   split at h<;>try(cases h;done)
   rename_i le au
   split at h<;>try(cases h;done)
   rename_i aa;cases h;obtain⟨aa,a4⟩:=aa
   rcases DataW.trod_slice R hx with⟨rfl,_⟩|⟨a,len,cap,elems,rest,k,_,rfl,_,_,a6,a8,a5,ak,ag,_⟩
   ·exact⟨[.aZ],⟨by simp[DO],trivial⟩,⟨.aZ,trivial⟩⟩
   have Z:∀(y:DataW H×List MemPlace),(W.cells? 0 (a.add (0*P.cellsOf e)) (P.cellsOf e)).bind (DataW.trod enc P W 0 (λ_=>true) true k e)=some y->a.spot=none:=by
    intro y hy;rw[jp]at hy;obtain⟨cs,ae,_⟩:=hy
    obtain⟨_,ad,hcell⟩:=World.cells?_some ae
    have h0:=hcell 0 ado
    obtain⟨v,hv⟩:∃v,cs[0]? =some v:=⟨_,eh ado⟩
    rw[hv]at h0;obtain⟨b,o,sp⟩:=a;simp only[Nat.zero_mul,Addr.add,kw]at h0;exact QC h0
   have L:cap=0\/a.spot=none:=by
    rcases xc cap with h|h
    ·exact .inl h
    right
    rcases xc len with h'|h'
    ·obtain⟨a7,an⟩:=ag rfl
     have:=an 0 ado
     obtain⟨y,hy⟩:∃y,rest[0]? =some y:=⟨_,eh ado⟩
     rw[hy,h',lc]at this;exact Z y this
    ·have:=ak 0 h'
     obtain⟨y,hy⟩:∃y,elems[0]? =some y:=⟨_,eh ado⟩
     rw[hy]at this;exact Z y this
   rcases L with rfl|L
   ·have:len=0:=ado
    subst this
    exact⟨[.sl []],⟨by simp[DO],trivial⟩,⟨.S5 a,trivial⟩⟩
   have each:∀i,i<len->∃as cs,Al DO le as/\Al (DV W (IL W)) as cs/\∀j,j<le.length->W.cell? ⟨a.block,a.off+i*le.length+j,none⟩=cs[j]?:=by
    intro i V
    have he:=ak i V
    have:elems[i]?≠none:=by simp;omega
    obtain⟨y,hy⟩:=act.1 this;rw[hy,jp]at he;obtain⟨cs,ae,a2⟩:=he
    obtain⟨_,ad,hcell⟩:=World.cells?_some ae
    obtain⟨as,ar,am⟩:=FO n e le au cs y k a2
    refine⟨as,cs,ar,am,λj hj=>?_⟩
    have:=hcell j ado
    rw[<-this,Md (a:=a.add _) (by rw[Md L]),Md L,aa]
   obtain⟨rows,al,ac,hr⟩:∃rows:List (List AV),rows.length=len/\(∀r∈rows,Al DO le r)/\∀i r,rows[i]? =some r->∃cs,Al (DV W (IL W)) r cs/\∀j,j<le.length->W.cell? ⟨a.block,a.off+i*le.length+j,none⟩=cs[j]?:=by
    refine⟨(List.range len).map λi=>if h:i<len then(each i h).choose else[],adI,?_,?_⟩
    ·intro r hr
     obtain⟨i,V,rfl⟩:=mi.1 hr;rw[ip]at V;rw[dif_pos V];exact(each i V).choose_spec.choose_spec.1
    ·intro i r hr
     rw[ka,eg]at hr;obtain⟨k,hk,rfl⟩:=hr
     have V:=(eo.1 hk).1
     simp at V;rw[kv V]at hk;cases hk;rw[dif_pos V];exact⟨_,(each i V).choose_spec.choose_spec.2⟩
   obtain⟨b,off,a3⟩:=a;simp only at L hr;subst L
   refine⟨[.sl rows],⟨by simp only[DO];exact⟨ado,λr hr=>Mc.2 (ac r hr)⟩,trivial⟩,?_,trivial⟩
   have hz:∀(i:Nat) (r:List AV),rows[i]? =some r->r.length=le.length:=λi r h=>(ac r (er h)).len.symm
   have at_:∀(i j:Nat) (r:List AV) (x:AV),rows[i]? =some r->r[j]? =some x->∃v,W.cell? ⟨b,off+i*le.length+j,none⟩=some v/\DV W (IL W) x v:=by
    intro i j r x O h2;obtain⟨cs,hd,hc⟩:=hr i r O
    have hj:j<le.length:=by have:=(eo.1 h2).1;have:=hz i r O;omega
    obtain⟨v,hv⟩:∃v,cs[j]? =some v:=⟨_,eh (by have:=hd.len;have:=hz i r O;omega)⟩
    exact⟨v,(hc j hj).trans hv,hd.get j x v h2 hv⟩
   have key:=DV.sl (w:=W) (π:=IL W) rows b off cap le.length (λi j=>(W.cell? ⟨b,off+i*le.length+j,none⟩).getD default) ado hz
    (λi j r x O h2=>by
     obtain⟨t,R⟩:∃t,le[j]? =some t:=⟨_,eh (by have:=(eo.1 h2).1;have:=hz i r O;omega)⟩
     exact DO.scalar ((ac r (er O)).get j t x R h2))
    (λi j r x O h2=>by obtain⟨v,hv,_⟩:=at_ i j r x O h2;exact acz hv)
    (λi j r x O h2=>by obtain⟨v,hv,_⟩:=at_ i j r x O h2;rw[hv];rfl)
    (λi j r x O h2=>by obtain⟨v,hv,hd⟩:=at_ i j r x O h2;rw[hv];exact hd)
   rw[al]at key;exact key
  ·rename_i fs R
   split at h<;>try(cases h;done)
   rename_i l' ab
   split at h<;>try(cases h;done)
   rename_i aa;cases h;obtain⟨xs,k,_,_,ad,ao,hf⟩:=DataW.trod_struct R hx
   have:=AP (W:=W) (Tr:=λt cs=>∃x D,DataW.trod enc P W 0 (λ_=>true) true D t cs=some x) (λt l cs O ⟨x,D,h3⟩=>FO n t l O cs x D h3) _ 0 l cs ab ado (λi f M=>by
    rw[ka,eg]at M;obtain⟨f,M,rfl⟩:=M
    have O:=hf i f (by simpa using M)
    have:xs[i]?≠none:=by
     have:=(eo.1 M).1
     simp at this⊢;omega
    obtain⟨y,hy⟩:=act.1 this
    exact⟨y,k,O.trans hy⟩)
   simpa using this
  ·rename_i q e R
   split at h<;>try(cases h;done)
   rename_i l' ab
   split at h<;>try(cases h;done)
   rename_i aa;cases h;obtain⟨xs,k,_,_,ad,ao,hf⟩:=DataW.trod_array R hx
   have:=AP (W:=W) (Tr:=λt cs=>∃x D,DataW.trod enc P W 0 (λ_=>true) true D t cs=some x) (λt l cs O ⟨x,D,h3⟩=>FO n t l O cs x D h3) _ 0 l cs ab ado (λi f M=>by
    rw[ka,eg]at M;obtain⟨f,M,rfl⟩:=M
    have V:=(eo.1 M).1
    simp at V;rw[kv V]at M;cases M
    have O:=hf i V
    have:xs[i]?≠none:=by simp;omega
    obtain⟨y,hy⟩:=act.1 this
    exact⟨y,k,O.trans hy⟩)
   simpa using this
  ·cases h
def isAgg(P:Program) (t:TypeId):Bool:=match P.underlying t with
 |some (.struct _)|some (.array _ _)=>true
 |_=>false
theorem UM{k:Ty} {d:DataW H} {p:List MemPlace} (hl:Qz P n t=some [k]) (L:isAgg P t=false) (D:Value.okWide P W .any base t v) (h:DataW.Trod enc P W 0 (λ_=>true) true t v d p):∃a,DO k a/\DV W (IL W) a v:=by
 obtain⟨V,hf⟩:=h
 obtain⟨as,Z,hd⟩:=FO n t [k] hl _ _ _ hf
 obtain⟨a,aa,rfl,hk,O⟩:=Z.cons_inv;cases O.oQ;obtain⟨u,us,e,M,_⟩:=hd.cons_inv
 have R:∀cs,v≠.agg cs:=by
  rintro cs rfl
  unfold isAgg at L;unfold Value.okWide at D;split at D
  ·rename_i e;rw[e]at L;cases L
  ·rename_i e;rw[e]at L;cases L
  ·unfold Cell.okWide at D
   split at D<;>simp_all [Cell.ok]
 refine⟨a,hk,?_⟩
 cases v<;>simp[Value.cells]at e
 case agg cs=>exact absurd rfl (R cs)
 all_goals(obtain⟨rfl,rfl⟩:=e;exact M)
theorem acA(h:DO (.sc (.int k)) a):∃n,a=.int k n/\(Lit.int k n).wf=true:=by
 simp only[DO]at h
 cases a<;>first|exact h.elim|(obtain⟨rfl,D⟩:=h;exact⟨_,rfl,D⟩)
theorem ahB{α:Type} {f:α->List AV} {Q:α->Prop} {l:List Ty} (row:∀r,Al DO l r->∃x,r=f x/\Q x) (h:DO (.sl l) a):∃xs:Option (List α),a=aI f xs/\(xs.getD []).length<=maxLen/\∀x∈xs.getD [],Q x:=by
 cases a<;>simp only[DO]at h
 ·exact⟨none,rfl,adI,adI⟩
 rename_i xs
 have:∀(xs:List (List AV)),(∀r∈xs,OV l r)->∃m:List α,xs=m.map f/\∀x∈m,Q x:=by
  intro xs
  induction xs with
  |nil=>intro _;exact⟨[],rfl,adI⟩
  |cons r xs D=>
   intro h
   obtain⟨m,rfl,hm⟩:=D (λr M=>h r (lw _ M))
   obtain⟨x,rfl,L⟩:=row _ (Mc.1 (h _ nb))
   exact⟨x::m,rfl,by simpa using⟨L,hm⟩⟩
 obtain⟨m,rfl,hm⟩:=this xs h.2
 exact⟨some m,rfl,by simpa using h.1,hm⟩
theorem ig(h:DO (.sl [.sc (.int k)]) a):∃l:Option (List Int),a=aI (λn=>[.int k n]) l/\(l.getD []).length<=maxLen/\∀n∈l.getD [],(Lit.int k n).wf=true:=
 ahB (λr D=>by
  obtain⟨a,as,rfl,M,L⟩:=D.cons_inv;cases L.oQ;obtain⟨n,rfl,O⟩:=acA M
  exact⟨n,rfl,O⟩) h
theorem qk{P:Program} {f:Nat} {args:List AV} {W:World} {vs:List Value} (h:(Pure P).c f args (.bool true) none) (hd:Al (DV W (IL W)) args vs):
  Calls P f vs.toArray W λe w'=>e=.returned (.bool true)/\Go.RowKit.Below W.heap.size W w':=by
 refine(h.2 W (IL W) vs (λ_ _ h=>h) ⟨hd.len,hd.get⟩).mono λe w' ⟨v,π',M,L,_,_,_,D,_⟩=>?_
 cases D;exact⟨M,L⟩
end
end
section
variable{H:Type} {enc:TypeId×Value->H} {P:Program} {W:World} {base:Nat}
open Go.ChangeShapes Go.WideShapes Go.ChangeAt Go.RowKit
def alN(enc:TypeId×Value->H) (P:Program) (W:World) (base:Nat) (t:TypeId) (v:Value):Prop:=
 Value.okWide P W .any base t v/\∃d p,DataW.Trod enc P W 0 (λ_=>true) true t v d p
theorem kZ:∀{D:List TypeId} {vs:List Value} {ds:List (DataW H)} {ps:List MemPlace},DataW.TrodAll enc P W 0 (λ_=>true) true D vs ds ps->
  (∀(j:Nat) t v,D[j]? =some t->vs[j]? =some v->Value.okWide P W .any base t v)->Al (alN enc P W base) D vs
 |[],vs,ds,ps,h,_=>by obtain⟨rfl,_,_⟩:=trodAll_nil h;trivial
 |t::D,vs,ds,ps,h,M=>by
  obtain⟨v,V,d,Z,p,q,rfl,rfl,rfl,O,L⟩:=trodAll_cons h
  exact⟨⟨M 0 t v rfl rfl,d,p,O⟩,kZ L λj t v L R=>M (j+1) t v (by simpa using L) (by simpa using R)⟩
theorem jx{W':World} (O:laidOutB P=true):∀{L:List TypeId} {vs:List Value} {ds:List (DataW H)} {ps:List MemPlace},(L.all λt=>P.readableRec t&&decide (t<P.types.size))=true->
  DataW.TrodAll enc P W 0 (λ_=>true) true L vs ds ps->Below W.heap.size W W'->DataW.TrodAll enc P W' 0 (λb=>decide (b<W.heap.size)) true L vs ds ps
 |[],vs,ds,ps,_,h,_=>by obtain⟨rfl,rfl,rfl⟩:=trodAll_nil h;exact trodAll_mk0
 |t::L,vs,ds,ps,D,h,R=>by
  have M:=DataW.TrodAll.lt h
  obtain⟨v,aa,d,ab,p,q,rfl,rfl,rfl,Z,V⟩:=trodAll_cons h;simp only[List.all_cons,ed,ii]at D
  exact trodAll_cons_mk (Below.trod O D.1.1 D.1.2 Z R λx hx=>M x (by simp[hx])) (jx O D.2 V R)
theorem ij{n:Nat} {t:TypeId} {k:Ty} {v:Value} (D:Qz P n t=some [k]) (L:isAgg P t=false) (h:alN enc P W base t v):∃a,DO k a/\DV W (IL W) a v:=by
 obtain⟨M,d,p,O⟩:=h;exact UM D L M O
theorem iq{M:Nat->Bool} {held:Bool} {O:Nat}:∀{D:List TypeId} {vs:List Value} {ds:List (DataW H)} {ps:List MemPlace},DataW.TrodAll enc P W O M held D vs ds ps->ds.length=D.length
 |[],vs,ds,ps,h=>by obtain⟨_,rfl,_⟩:=trodAll_nil h;rfl
 |t::D,vs,ds,ps,h=>by
  obtain⟨v,R,d,V,p,q,rfl,rfl,rfl,Z,L⟩:=trodAll_cons h;simp[iq L]
end
section
variable {α:Type} {l:List α}
theorem adN{n:Nat} (h:l.length=n+1):∃a m,l=a::m/\m.length=n:=by
 cases l with
 |nil=>cases h
 |cons a m=>exact⟨a,m,rfl,by simpa using h⟩
theorem alO(h:l.length=1):∃a,l=[a]:=by obtain⟨a,m,rfl,D⟩:=adN h;exact⟨a,by rw[List.length_eq_zero_iff.1 D]⟩
theorem IM(h:l.length=2):∃a b,l=[a,b]:=by obtain⟨a,m,rfl,D⟩:=adN h;obtain⟨b,rfl⟩:=alO D;exact⟨a,b,rfl⟩
end
end Go.Eng
