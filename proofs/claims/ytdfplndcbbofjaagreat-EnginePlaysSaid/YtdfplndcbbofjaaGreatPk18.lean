/- Part 18 of the engine and its library. -/
import Derived.Test.YtdfplndcbbofjaaGreatPk17
set_option linter.all false
set_option maxRecDepth 10000
set_option maxHeartbeats 4000000
namespace Go.Eng
open Go
section
variable (C:aY) {p:Ph} (f:Nat) (n:Int)
def gnR(p:Ph) (r:Rn) (c:Cu):Rn:=
 if dR p (gT p r c) c&&c.hold then{gT p r c with extra:=bz (gT p r c).extra}
 else if dR p (gT p r c) c then{gT p r c with done:=true,eU:=decide ((gT p r c).left>0)&&bR p (gT p r c)}else gT p r c
theorem Sg{r:Rn} {c:Cu} (h:c.fin=false):iw p r c=gnR p r c:=by
 unfold iw gnR;rw[h];rfl
def VF(p:Ph):Prop:=0<=p.max/\p.max<=p.top/\p.top<=100000/\0<=p.step/\p.step<=100000
def AK.Spec:Prop:=∀(p:Ph) (x:Tr) (eU:Bool),VF p->C.c f [.agg p.cells,.agg x.cells,B eU] (.agg (LQ p x eU).cells) none
def qY.Spec:Prop:=∀(p:Ph) (r:Rn) (c:Cu),r.aH=1->C.c f [.agg p.cells,.agg r.cells,.agg c.cells] (.dF [.agg (gnR p r c).cells,B (dR p (gT p r c) c)]) none
def AL.Spec:Prop:=∀(p:Ph) (r:Rn) (c:Cu),VF p->C.c f [.agg p.cells,.agg r.cells,.agg c.cells] (.agg (dz p r c).cells) none
def AM.Spec:Prop:=∀(p:Ph) (r:Rn) (c:Cu),C.c f [.agg p.cells,.agg r.cells,.agg c.cells] (B (lM p r c)) none
theorem L8(h:VF p) (x:Int):p.max<=o7 p x/\o7 p x<=p.top:=by
 have:=h.2.1
 unfold o7
 repeat' split
 all_goals omega
theorem VG(h:VF p) (x:Int):o7 p (o7 p x)=o7 p x:=by
 have:=L8 h x
 generalize o7 p x=y at*;unfold o7
 repeat' split
 all_goals omega
theorem Si:Vh n=d7 n 0 1+1:=by
 unfold Vh d7
 repeat' split
 all_goals omega
theorem Nt:d7 n 0 1=0\/d7 n 0 1=1:=by
 unfold d7
 repeat' split
 all_goals omega
theorem ac5{a b:Int} (R:0<=a/\a<=100000) (V:0<=b/\b<=100000):Z8 a b=a+b/\Z9 a b=a-b:=by
 have B:IntKind.i64.wrap (9223372036854775807-b)=9223372036854775807-b:=aU ST ST
 have Z:IntKind.i64.wrap (-9223372036854775808-b)=if b=0 then -9223372036854775808 else IntKind.i64.wrap (-9223372036854775808-b):=by
  split
  ·rename_i h;subst h;rfl
  ·rfl
 have D:IntKind.i64.wrap (-9223372036854775808+b)=-9223372036854775808+b:=aU ST ST
 have A:IntKind.i64.wrap (a+b)=a+b:=aU ST ST
 have E:IntKind.i64.wrap (a-b)=a-b:=aU ST ST
 unfold Z8 Z9;rw[B,D,A,E]
 have L:decide (b<0)=false:=kd ST
 have M:decide (a>9223372036854775807-b)=false:=kd ST
 have O:decide (a< -9223372036854775808+b)=false:=kd ST
 rw[L,M,O];simp
theorem ac6(h:VF p) (x:Tr) (eU:Bool):LQ p x eU=
  if eU then(if d7 x.up 0 1=1 then⟨o7 p (o7 p x.limit+p.step),0,0⟩else⟨o7 p x.limit,1,0⟩)
  else if d7 x.down 0 1=1 then⟨o7 p (o7 p x.limit-p.step),0,0⟩else⟨o7 p x.limit,0,1⟩:=by
 have E:=L8 h x.limit
 have A:=VG h x.limit
 obtain⟨B,D⟩:=ac5 (a:=o7 p x.limit) (b:=p.step) (by have:=h;unfold VF at this;omega) (by have:=h;unfold VF at this;omega)
 unfold LQ Zd Zc
 cases eU with
 |true=>
  simp only[kh,Si]
  rcases Nt x.up with e|e<;>rw[e]
  ·simp[A]
  ·simp[B]
 |false=>
  simp only[ev,ib,Si]
  rcases Nt x.down with e|e<;>rw[e]
  ·simp[A]
  ·simp[D]
end
section
variable{P:Program} (hm:P.follows .mixedOrders=true) {f:Nat}
include hm
theorem AK.ok{R M:Nat} (hc:bu P f=some (xH R M)) (hL:oo.Spec (Pure P) R) (hC:vD.Spec (Pure P) M):AK.Spec (Pure P) f:=by
 intro p x eU h;rw[ac6 h]
 have A:aF p.cells 0 (some 13)=some (.agg p.cells)/\p.cells[5]? =some (I p.step)/\p.cells.length=13:=⟨rfl,rfl,rfl⟩
 have hr:=L8 h x.limit
 unfold VF at h
 have V:IntKind.i64.wrap (o7 p x.limit+p.step)=o7 p x.limit+p.step:=aU ST ST
 have w2:IntKind.i64.wrap (o7 p x.limit-p.step)=o7 p x.limit-p.step:=aU ST ST
 have L:=hL p x
 have O:=hL p ⟨o7 p x.limit+p.step,0,0⟩
 have E:=hL p ⟨o7 p x.limit-p.step,0,0⟩
 simp only[Tr.cells]at L O E;generalize o7 p x.limit=m at*;refine aj hm hc [] rfl ?_;try simp only[I,B,D,RX,↓KW,seval,xH,Z.H,A,Tr.cells]
 refine af L ?_
 cases eU<;>simp only[ev,ib,kh]
 ·try simp only[I,B,D,RX,↓KW,seval,A,Tr.cells]
  refine af (hC x.down 0 1 Ts) ?_
  rcases Nt x.down with e|e<;>rw[e]
  ·try simp only[I,B,D,RX,↓KW,seval,A]
   try rfl
  ·try simp only[I,B,D,RX,↓KW,seval,A,w2]
   refine af E ?_;try simp only[I,B,D,RX,↓KW,seval,A]
   try rfl
 ·try simp only[I,B,D,RX,↓KW,seval,A,Tr.cells]
  refine af (hC x.up 0 1 Ts) ?_
  rcases Nt x.up with e|e<;>rw[e]
  ·try simp only[I,B,D,RX,↓KW,seval,A]
   try rfl
  ·try simp only[I,B,D,RX,↓KW,seval,A,V]
   refine af O ?_;try simp only[I,B,D,RX,↓KW,seval,A]
   try rfl
theorem qY.ok{fM fC fF fI fL fX:Nat} (hc:bu P f=some (vA fM fC fF fI fL fX)) (hM:iy.Spec (Pure P) fM) (hC:uW.Spec (Pure P) fC) (hF:lV.Spec (Pure P) fF) (hI:o9.Spec (Pure P) fI) (hL:CU.Spec (Pure P) fL) (hX:oo.Spec (Pure P) fX):qY.Spec (Pure P) f:=by
 intro p r c V
 have qp:aF p.cells 0 (some 13)=some (.agg p.cells)/\p.cells[1]? =some (I p.min)/\p.cells.length=13:=⟨rfl,rfl,rfl⟩
 have qc:c.cells[2]? =some (B c.here)/\c.cells[3]? =some (B c.push)/\c.cells[4]? =some (B c.bL)/\c.cells[5]? =some (B c.hold)/\c.cells[6]? =some (B c.early)/\c.cells[7]? =some (B c.cut)/\c.cells.length=8:=⟨rfl,rfl,rfl,rfl,rfl,rfl,rfl⟩
 obtain⟨a,b,R⟩:∃a b,F2 p r c=(a,b):=⟨_,_,rfl⟩
 obtain⟨dn,L⟩:∃d,(if bN p r c then false else r.done)=d:=⟨_,rfl⟩
 obtain⟨mx,E⟩:∃d,(if bN p r c then false else r.eU)=d:=⟨_,rfl⟩
 obtain⟨pr,O⟩:∃d,(if c.bL then bz r.ie else r.ie)=d:=⟨_,rfl⟩
 have hg:gT p r c=⟨1,bz r.time,a,b,KU p r.left c.here,pr,r.extra,dn,mx,r.limit,r.up,r.down⟩:=by
  unfold gT;rw[R,L,E,O]
 have ae:=hM r.time
 have ak:=hM r.ie
 have ab:=hM r.extra
 have ag:=hL p r.left c.here
 have aa:=hX p ⟨r.limit,r.up,r.down⟩
 simp only[Tr.cells]at aa;unfold gnR;rw[hg]
 have A:=cB qp (qc)
 refine aj hm hc [0,1,2] rfl ?_;try simp only[I,B,D,RX,↓KW,seval,vA,Z.H,A,Rn.cells,bw]
 refine af ae ?_;generalize bz r.time=m at*;generalize KU p r.left c.here=lf at*;try simp only[I,B,D,RX,↓KW,seval,A,Rn.cells]
 apply yK (λ_:Unit=>(⟨[(4,.ptr 5 0),(8,.ptr 10 0),(3,.ptr 4 0),(5,.ptr 6 0),(6,.ptr 7 0)],[(4,⟨p.cells,[]⟩),(5,⟨r.cells,[]⟩),(6,⟨c.cells,[]⟩),(7,⟨[I 0,I 0,I 0,I 0,I 0,I 0,I 0,B false,B false,I 0,I 0,I 0],[]⟩),(10,⟨[I r.aH,I m,I a,I b,I r.left,I r.ie,I r.extra,B r.done,B r.eU,I r.limit,I r.up,I r.down],[]⟩)],[],60⟩:S)) (λ_=>True)
 ·intro back
  rcases bf (c.cut&&r.fst==1)with k|k
  ·have e:Ig p r.fst r.cn (c.push&& !c.bL)=(a,b):=by unfold F2 at R;rw[ek (by rw[k];decide)]at R;exact R
   have cF:=hF p r.fst r.cn (c.push&& !c.bL)
   rw[e]at cF
   rcases bf c.cut with k1|k1
   ·rcases bf c.push with M|M
    ·rw[M]at cF
     try simp only[I,B,D,RX,↓KW,seval,k1,M,A,Rn.cells]
     refine af cF ?_;try simp only[I,B,D,RX,↓KW,seval,A,Rn.cells]
     refine back () _ trivial ?_
     refine ai Ts ?_ ?_ ?_ ?_<;>simp[LX,I,B,D,Rn.cells]
    rcases bf c.bL with k3|k3
    all_goals
     rw[M,k3]at cF;try simp only[I,B,D,RX,↓KW,seval,k1,M,k3,A,Rn.cells]
     refine af cF ?_;try simp only[I,B,D,RX,↓KW,seval,A,Rn.cells]
     refine back () _ trivial ?_
     refine ai Ts ?_ ?_ ?_ ?_<;>simp[LX,I,B,D,Rn.cells]
   ·have k4:(r.fst==1)=false:=by rw[k1]at k;simpa using k
    rcases bf c.push with M|M
    ·rw[M]at cF
     try simp only[I,B,D,RX,↓KW,seval,k1,M,k4,A,Rn.cells]
     refine af cF ?_;try simp only[I,B,D,RX,↓KW,seval,A,Rn.cells]
     refine back () _ trivial ?_
     refine ai Ts ?_ ?_ ?_ ?_<;>simp[LX,I,B,D,Rn.cells]
    rcases bf c.bL with k3|k3
    all_goals
     rw[M,k3]at cF;try simp only[I,B,D,RX,↓KW,seval,k1,M,k3,k4,A,Rn.cells]
     refine af cF ?_;try simp only[I,B,D,RX,↓KW,seval,A,Rn.cells]
     refine back () _ trivial ?_
     refine ai Ts ?_ ?_ ?_ ?_<;>simp[LX,I,B,D,Rn.cells]
  ·have k1:c.cut=true/\(r.fst==1)=true:=by simpa only[ed]using k
   have e:Kb r.fst r.cn=(a,b):=by unfold F2 at R;rw[et k]at R;exact R
   have cC:=hC r.fst r.cn
   rw[e]at cC;try simp only[I,B,D,RX,↓KW,seval,k1,A,Rn.cells]
   refine af cC ?_;try simp only[I,B,D,RX,↓KW,seval,A,Rn.cells]
   refine back () _ trivial ?_
   refine ai Ts ?_ ?_ ?_ ?_<;>simp[LX,I,B,D,Rn.cells]
 rintro _ _
 try simp only[I,B,D,RX,↓KW,seval,A,Rn.cells]
 refine af (hI r.fst r.cn) ?_
 apply yK (λ_:Unit=>(⟨[(4,.ptr 5 0),(8,.ptr 10 0),(3,.ptr 4 0),(5,.ptr 6 0),(6,.ptr 7 0)],[(4,⟨p.cells,[]⟩),(5,⟨r.cells,[]⟩),(6,⟨c.cells,[]⟩),(7,⟨[I 0,I 0,I 0,I 0,I 0,I 0,I 0,B false,B false,I 0,I 0,I 0],[]⟩),(10,⟨[I r.aH,I m,I a,I b,I r.left,I r.ie,I r.extra,B dn,B mx,I r.limit,I r.up,I r.down],[]⟩)],[],90⟩:S)) (λ_=>True)
 ·intro back
  have al:bN p r c=(!dQ r.fst&&a==1):=by unfold bN;rw[R]
  rw[al]at L E
  rcases bf (dQ r.fst)with k|k
  ·rcases bf (a==1)with M|M
   ·rw[k,M]at L E
    have L:r.done=dn:=L
    have E:r.eU=mx:=E
    try simp only[I,B,D,RX,↓KW,seval,k,M,fx,gs,A,Rn.cells]
    refine back () _ trivial ?_
    refine ai Ts ?_ ?_ ?_ ?_<;>simp[LX,I,B,D,Rn.cells,L,E]
   ·rw[k,M]at L E
    have L:false=dn:=L
    have E:false=mx:=E
    try simp only[I,B,D,RX,↓KW,seval,k,M,fx,gs,A,Rn.cells]
    refine back () _ trivial ?_
    refine ai Ts ?_ ?_ ?_ ?_<;>simp[LX,I,B,D,Rn.cells,<-L,<-E]
  ·rw[k]at L E
   have L:r.done=dn:=L
   have E:r.eU=mx:=E
   try simp only[I,B,D,RX,↓KW,seval,k,fx,gs,A,Rn.cells]
   refine back () _ trivial ?_
   refine ai Ts ?_ ?_ ?_ ?_<;>simp[LX,I,B,D,Rn.cells,L,E]
 rintro _ _
 try simp only[I,B,D,RX,↓KW,seval,A,Rn.cells]
 refine af ag ?_;try simp only[I,B,D,RX,↓KW,seval,A,Rn.cells]
 apply yK (λ_:Unit=>(⟨[(4,.ptr 5 0),(8,.ptr 10 0),(3,.ptr 4 0),(5,.ptr 6 0),(6,.ptr 7 0)],[(4,⟨p.cells,[]⟩),(5,⟨r.cells,[]⟩),(6,⟨c.cells,[]⟩),(7,⟨[I 0,I 0,I 0,I 0,I 0,I 0,I 0,B false,B false,I 0,I 0,I 0],[]⟩),(10,⟨[I r.aH,I m,I a,I b,I lf,I pr,I r.extra,B dn,B mx,I r.limit,I r.up,I r.down],[]⟩)],[],120⟩:S)) (λ_=>True)
 ·intro back
  rcases bf c.bL with k|k
  ·rw[k]at O
   have O:r.ie=pr:=O
   try simp only[I,B,D,RX,↓KW,seval,k,A,Rn.cells]
   refine back () _ trivial ?_
   refine ai Ts ?_ ?_ ?_ ?_<;>simp[LX,I,B,D,Rn.cells,O]
  ·rw[k]at O
   have O:bz r.ie=pr:=O
   try simp only[I,B,D,RX,↓KW,seval,k,A,Rn.cells]
   refine af ak ?_;try simp only[I,B,D,RX,↓KW,seval,A,Rn.cells]
   refine back () _ trivial ?_
   refine ai Ts ?_ ?_ ?_ ?_<;>simp[LX,I,B,D,Rn.cells,O]
 rintro _ _
 try simp only[I,B,D,RX,↓KW,seval,A,Rn.cells]
 refine af aa ?_;try simp only[I,B,D,RX,↓KW,seval,A,Rn.cells]
 have ac:dR p ⟨1,m,a,b,lf,pr,r.extra,dn,mx,r.limit,r.up,r.down⟩ c=((((c.bL&& !dn)&&decide (m>=p.min))&& !dQ a)&&((lf==0||decide (pr>=o7 p r.limit))||c.early)):=rfl
 rw[ac]
 have ad:=hI a b
 rcases bf c.bL with k1|k1
 ·try simp only[I,B,D,RX,↓KW,seval,k1,A,Rn.cells]
  show AV.dF _=AV.dF _;simp[bR,Rn.cells,V, *]
 rcases bf dn with M|M
 rotate_left
 ·try simp only[I,B,D,RX,↓KW,seval,k1,M,A,Rn.cells]
  show AV.dF _=AV.dF _;simp[bR,Rn.cells,V, *]
 rcases bf (decide (m>=p.min))with k3|k3
 ·try simp only[I,B,D,RX,↓KW,seval,k1,M,k3,A,Rn.cells]
  show AV.dF _=AV.dF _;simp[bR,Rn.cells,V, *]
 try simp only[I,B,D,RX,↓KW,seval,k1,M,k3,A,Rn.cells]
 refine af ad ?_
 rcases bf (dQ a)with k4|k4
 rotate_left
 ·try simp only[I,B,D,RX,↓KW,seval,k4,gs,A,Rn.cells]
  show AV.dF _=AV.dF _;simp[bR,Rn.cells,V, *]
 rcases bf (lf==0)with k5|k5<;>rcases bf (decide (pr>=o7 p r.limit))with k6|k6<;>rcases bf c.early with k7|k7<;>rcases bf c.hold with k8|k8<;>rcases bf (decide (lf>0))with k9|k9
 all_goals
  try simp only[I,B,D,RX,↓KW,seval,k4,k5,k6,k7,k8,k9,fx,A,Rn.cells]
  try(refine af ab ?_;try simp only[I,B,D,RX,↓KW,seval,k4,k5,k6,k7,k8,k9,A,Rn.cells])
  show AV.dF _=AV.dF _;simp[bR,Rn.cells,V, *]
theorem AM.ok{R:Nat} (hc:bu P f=some (xz R)) (hG:qY.Spec (Pure P) R):AM.Spec (Pure P) f:=by
 intro p r c
 have qp:aF p.cells 0 (some 13)=some (.agg p.cells)/\p.cells.length=13:=⟨rfl,rfl⟩
 have qr:aF r.cells 0 (some 12)=some (.agg r.cells)/\r.cells[0]? =some (I r.aH)/\r.cells.length=12:=⟨rfl,rfl,rfl⟩
 have V:aF c.cells 0 (some 8)=some (.agg c.cells)/\c.cells[1]? =some (B c.fin)/\c.cells[5]? =some (B c.hold)/\c.cells.length=8:=⟨rfl,rfl,rfl,rfl⟩
 have z:∀x:Rn,setCells bw 0 x.cells=x.cells:=λ_=>rfl
 have z2:bw.length=12:=rfl
 have q3:∀x:Rn,x.cells.length=12:=λ_=>rfl
 have A:=cB qp (cB qr (cB V (cB z (cB z2 (q3)))))
 refine aj hm hc [] rfl ?_;try simp only[I,B,D,RY,↓KW,seval,xz,Z.H,A]
 unfold lM
 rcases bf (r.aH !=1)with E|E
 ·rcases bf c.fin with L|L
  ·have O:=hG p r c (by simpa using E)
   try simp only[I,B,D,RY,↓KW,seval,E,L,A]
   refine af O ?_;generalize dR p (gT p r c) c=d at*
   rcases bf d with M|M<;>rcases bf c.hold with k4|k4
   all_goals
    try simp only[I,B,D,RY,↓KW,seval,M,k4,A]
    try simp[E,L,M,k4]
  ·try simp only[I,B,D,RY,↓KW,seval,E,L,A]
   try simp[E,L]
 ·try simp only[I,B,D,RY,↓KW,seval,E,A]
  try simp[E]
theorem AL.ok{fG fg fM fF:Nat} (hc:bu P f=some (xA fG fg fM fF)) (hG:AK.Spec (Pure P) fG) (hg:qY.Spec (Pure P) fg) (hM:iy.Spec (Pure P) fM) (hF:lV.Spec (Pure P) fF):AL.Spec (Pure P) f:=by
 intro p r c h
 have qp:aF p.cells 0 (some 13)=some (.agg p.cells)/\p.cells[2]? =some (I p.Pf)/\p.cells[6]? =some (I p.eZ)/\p.cells[7]? =some (I p.red)/\p.cells.length=13:=⟨rfl,rfl,rfl,rfl,rfl⟩
 have qr:aF r.cells 0 (some 12)=some (.agg r.cells)/\aF r.cells 9 (some 3)=some (.agg (Tr.cells ⟨r.limit,r.up,r.down⟩))/\r.cells[0]? =some (I r.aH)/\r.cells[1]? =some (I r.time)/\r.cells[7]? =some (B r.done)/\r.cells[8]? =some (B r.eU)/\r.cells.length=12:=⟨rfl,rfl,rfl,rfl,rfl,rfl,rfl⟩
 have qc:aF c.cells 0 (some 8)=some (.agg c.cells)/\c.cells[0]? =some (B c.start)/\c.cells[1]? =some (B c.fin)/\c.cells[3]? =some (B c.push)/\c.cells.length=8:=⟨rfl,rfl,rfl,rfl,rfl⟩
 have q3:∀x:Rn,x.cells.length=12:=λ_=>rfl
 have R:=hM r.time
 unfold dz
 have A:=cB qp (cB qr (cB qc (q3)))
 refine aj hm hc [] rfl ?_;try simp only[I,B,D,RX,↓KW,seval,xA,Z.H,A,bw,Tr.cells]
 rcases bf (r.aH==1)with O|O
 rotate_left
 ·simp only[O,kh]
  rcases bf c.fin with L|L
  ·rw[Sg L]
   have V:=hg p r c (by simpa using O)
   try simp only[I,B,D,RX,↓KW,seval,O,L,A]
   refine af V ?_;generalize gnR p r c=g at*;try simp only[I,B,D,RX,↓KW,seval,A,Rn.cells]
   try rfl
  ·have e:iw p r c=if r.done then{th r 2 1 with limit:=(LQ p ⟨r.limit,r.up,r.down⟩ r.eU).limit,up:=(LQ p ⟨r.limit,r.up,r.down⟩ r.eU).up,down:=(LQ p ⟨r.limit,r.up,r.down⟩ r.eU).down}else th r 2 1:=by unfold iw;rw[L];rfl
   rw[e]
   rcases bf r.done with E|E
   ·try simp only[I,B,D,RX,↓KW,seval,O,L,E,A,Tr.cells]
    try simp[E,th,Rn.cells]
   ·have cG:=hG p ⟨r.limit,r.up,r.down⟩ r.eU h
    try simp only[I,B,D,RX,↓KW,seval,O,L,E,A,Tr.cells]
    refine af cG ?_;generalize LQ p ⟨r.limit,r.up,r.down⟩ r.eU=g at*;try simp only[I,B,D,RX,↓KW,seval,A,Tr.cells]
    try simp[E,th,Rn.cells]
 rcases bf (r.aH==2)with L|L
 rotate_left
 ·simp only[O,L,ev,ib,kh]
  unfold ny
  rcases bf (decide (r.time<p.eZ))with E|E
  ·rw[ek (dE E)]
   rcases bf (decide (p.red>0))with M|M
   ·rw[ek (dE M)]
    try simp only[I,B,D,RX,↓KW,seval,O,L,E,M,A,Tr.cells]
    try simp[th,Rn.cells]
   ·rw[et (dC M)]
    try simp only[I,B,D,RX,↓KW,seval,O,L,E,M,A,Tr.cells]
    try simp[th,Rn.cells]
  ·rw[et (dC E)]
   try simp only[I,B,D,RX,↓KW,seval,O,L,E,A,Tr.cells]
   refine af R ?_;try simp only[I,B,D,RX,↓KW,seval,A,Tr.cells]
   try simp[th,Rn.cells]
 rcases bf (r.aH==3)with E|E
 rotate_left
 ·simp only[O,L,E,ev,ib,kh]
  unfold uV
  rcases bf (decide (r.time<p.red))with M|M
  ·rw[ek (dE M)]
   try simp only[I,B,D,RX,↓KW,seval,O,L,E,M,A,Tr.cells]
   try simp[th,Rn.cells]
  ·rw[et (dC M)]
   try simp only[I,B,D,RX,↓KW,seval,O,L,E,M,A,Tr.cells]
   refine af R ?_;try simp only[I,B,D,RX,↓KW,seval,A,Tr.cells]
   try simp[th,Rn.cells]
 simp only[O,L,E,ev,ib];unfold F3
 rcases bf c.start with M|M
 ·try simp only[I,B,D,RX,↓KW,seval,O,L,E,M,A,Tr.cells]
  refine af R ?_;try simp only[I,B,D,RX,↓KW,seval,A,Tr.cells]
  try simp[M,th,Rn.cells]
 ·try simp only[I,B,D,RX,↓KW,seval,O,L,E,M,A,Tr.cells]
  refine af (hF p 0 0 c.push) ?_;try simp only[I,B,D,RX,↓KW,seval,A,Tr.cells]
  try simp[M,th,Rn.cells]
end
section
variable (s:Int) (t:Tb) (g:Int->Bool) (c:Cs) {C:aY} {f j:Nat} {x:Int} (l:List Int) (p:Int)
theorem Sj:pM s p=bD s p:=by
 by_cases h:0<=p/\p<8
 ·obtain⟨k,rfl⟩:∃k:Nat,p=k:=⟨p.toNat,ST⟩
  rw[nr ST,kz ST]
 ·have B:pM s p=false:=by
   unfold pM
   by_cases D:0<=p
   ·rw[kd (p:=p<8) ST];simp
   ·rw[kd D];simp
  have A:jt p=0:=by unfold jt;rw[et ST]
  have E:bK .i64 s 0=0:=by
   rw[and_zero];intro i _;rw[dr];simp
  rw[B];unfold bD;rw[A,E];rfl
theorem BN:gz s p=bJ s p:=by
 by_cases h:0<=p/\p<8
 ·obtain⟨k,rfl⟩:∃k:Nat,p=k:=⟨p.toNat,ST⟩
  exact M8 ST
 ·have D:jt p=0:=by unfold jt;rw[et ST]
  have L:Can (bJ s p):=by
   unfold bJ;rw[D];exact EL (sq zR) qM
  refine iM (Bx _ _) L λi A=>?_
  unfold gz bJ;rw[D,Gz,Cy,jK,iX,dr]
  have E:((i:Int)∈dM s++[p])↔tb s i=true:=by
   simp only[il,lm,dM,px,i8,fp];constructor
   ·rintro(⟨⟨k,hk,e⟩,B⟩|e)
    ·have:k=i:=ST
     subst this
     rwa[nr A]at B
    ·exact absurd e ST
   ·intro B
    exact .inl ⟨⟨i,A,rfl⟩,by rw[nr A];exact B⟩
  simp only[E]
  cases tb s i<;>simp[A]
def O3:Int:=l.foldl (λs p=>if g p then bJ s p else s) 0
theorem Fs{l:List Int} (h:l[j]? =some x):O3 g (l.take (j+1))=if g x then bJ (O3 g (l.take j)) x else O3 g (l.take j):=by
 unfold O3;rw[eO h,tt];rfl
theorem Dq(A:Int->Ph->Bool) (t:Tb):∀k,fy A t.phases k=O3 (λp=>A p (aO t p)) (ic t k)
 |0=>rfl
 |k+1=>by
  rw[fy,vY,Dq A t k,HQ];cases h:(aO t k).on
  ·simp
  ·simp only[kt,kh]
   unfold O3;rw[tt];rfl
theorem Ir:dM (oS t)=ic t 8:=by
 unfold dM ic
 refine List.filter_congr λx A=>?_
 simp only[i8,fp]at A;obtain⟨k,hk,rfl⟩:=A;rw[nr hk,US];simp[hk]
theorem Ft{t:Tb} (h:(ic t 8)[j]? =some x):∃k:Nat,x=k/\k<8:=by
 have:=em h
 simp only[ic,px,i8,fp]at this;obtain⟨⟨k,hk,e⟩,_⟩:=this;exact⟨k,e.symm,hk⟩
theorem Fu:(ic t 8).length<=8:=by
 have:=pc (λp=>(aO t p).on) ((List.range 8).map λ(k:Nat)=>(k:Int))
 simpa[ic]using this
def vE:Int:=l.foldl (λs p=>if g p then bJ s p else s) s
theorem vF{l:List Int} (h:l[j]? =some x):vE s g (l.take (j+1))=if g x then bJ (vE s g (l.take j)) x else vE s g (l.take j):=by
 unfold vE;rw[eO h,tt];rfl
theorem Sk(t:Tb) {s:Int} (E:Can s) (g:Int->Bool):∀k,k<=8->Can (vE s g (ic t k))/\∀i,i<8->tb (vE s g (ic t k)) i=(tb s i||(decide (i<k)&&((aO t i).on&&g i)))
 |0,_=>⟨E,λi _=>by simp[ic,vE]⟩
 |k+1,hk=>by
  obtain⟨L,D⟩:=Sk t E g k ST
  have e:vE s g (ic t (k+1))=if(aO t k).on&&g k then bJ (vE s g (ic t k)) k else vE s g (ic t k):=by
   rw[vY];cases h:(aO t k).on
   ·simp
   ·simp only[kt,kh]
    unfold vE;rw[tt];rfl
  rw[e];cases h:((aO t k).on&&g k)
  ·refine⟨L,λi B=>?_⟩
   rw[ek TB,D i B]
   by_cases A:i=k
   ·subst A;simp[h]
   ·have:(i<k+1)↔i<k:=ST
    simp[this]
  ·refine⟨jz ST,λi B=>?_⟩
   rw[et rfl,jE ST,D i B]
   by_cases A:i=k
   ·subst A;simp[h]
   ·have:(i<k+1)↔i<k:=ST
    simp[this,A,B]
theorem L9(A:Int->Ph->Bool) (ps:List Ph):∀k,k<=8->Can (fy A ps k)
 |0,_=>qM
 |k+1,h=>by
  rw[fy];split
  ·exact jz ST
  ·exact L9 A ps k ST
def O4:Bool:=bD c.QN p||bD c.dZ p&&decide (0<(aO t p).walk)
theorem VH(here:Int):Ei t c here=vE (mU t here) (O4 t c) (ic t 8):=by
 have E:Can (mU t here):=L9 _ _ _ ST
 obtain⟨L,B⟩:=Sk t E (O4 t c) 8 ST
 refine iM (L9 _ _ _ ST) L λi A=>?_
 have M:tb (Ei t c here) i=(decide (i<8)&&((aO t i).on&&Bo c (mU t here) i (aO t i))):=by unfold Ei;rw[Ex _ _ 8 ST,HQ]
 rw[B i A,M];unfold Bo O4
 have O:bD (mU t here) i=tb (mU t here) i:=kz A
 have D:tb (mU t here) i=(decide (i<8)&&((aO t i).on&&rT here i (aO t i))):=by unfold mU;rw[Ex _ _ 8 ST,HQ]
 rw[O,D]
 cases(aO t i).on<;>cases rT here i (aO t i)<;>cases bD c.QN i<;>simp[A]
theorem mF(h:jm.Spec C f):lE.Spec C f:=λs p=>by rw[<-Sj];exact h s p
theorem gH(h:fJ.Spec C f):iq.Spec C f:=λs p=>by rw[<-BN];exact h s p
end
section
variable{P:Program} (hm:P.follows .mixedOrders=true) {f:Nat}
include hm
section
variable {e fH fL fO fW:Nat}
theorem VI.ok(hc:bu P f=some (xq fO fL fH fW)) (hO:Y3.Spec (Pure P) fO) (hL:gE.Spec (Pure P) fL e) (hH:jm.Spec (Pure P) fH) (hW:fJ.Spec (Pure P) fW):FY.Spec (Pure P) f:=by
 intro t here R
 have hH:=mF hH
 have hW:=gH hW
 have hl:=Tb.len R
 have hp:=R.ln.whole
 have aa:=Ir t
 have ab:=Fu t
 have V:=hL (oS t) none (.inl rfl)
 unfold mU;rw[Dq];rw[aa]at V
 generalize hg:(λp=>rT here p (aO t p))=g
 have ac:∀p,g p=rT here p (aO t p):=λp=>by rw[<-hg]
 clear hg
 obtain⟨l,M⟩:∃l,ic t 8=l:=⟨_,rfl⟩
 have O:∀(j:Nat) (x:Int),l[j]? =some x->∃k:Nat,x=(k:Int)/\k<8:=λj x h=>Ft (t:=t) (j:=j) (by rw[M];exact h)
 rw[M]at ab V⊢;refine aj hm hc [] rfl ?_;try simp only[I,B,D,RX,↓KW,seval,xq,Z.H,hp,hl]
 refine af (hO t R.ln) ?_;try simp only[I,B,D,RX,↓KW,seval]
 refine af V ?_;try simp only[I,B,D,RX,↓KW,seval,dS,aT]
 refine aD (λj:Nat=>(⟨[(12,.dat (I j) none),(11,.dat (I l.length) none),(10,.dat (aI aC (dJ l)) none),(1,.dat (I here) none),(2,.ptr 4 0),(5,.dat (I (O3 g (l.take j))) none)],[(4,⟨t.cells,[]⟩)],[],400⟩:S)) (λj=>l.length-j) (λj=>j<=l.length) ?_ 0 ST ?_
 ·intro j hj A back
  have hw:=aA (k:=j) ST
  try simp only[I,B,D,RX,↓KW,seval]
  rcases bc (decide ((j:Int)<(l.length:Int)))with h|h
  ·have:j=l.length:=by have:=dE h;omega
   subst this;try simp only[I,B,D,RX,↓KW,seval,h]
   rw[gn]
  ·have h1:j<l.length:=by have:=dC h;omega
   obtain⟨x,hx⟩:∃x,l[j]? =some x:=⟨_,dT h1⟩
   obtain⟨k,rfl,hk⟩:=O _ _ hx
   have hn:=Fs g hx
   have L:=Tb.pN (R.ln.jL hk)
   have hy:0<=(j:Int)/\(j:Int)<(l.length:Int):=ST
   have E:0<=(k:Int)/\(k:Int)<8:=ST
   try simp only[I,B,D,RX,↓KW,seval,h,hx,hy,c7,aC,aT]
   refine af (hH here k) ?_
   have e:=ac k
   unfold rT at e
   rcases bc (bD here k)with a1|a1
   ·rcases bc ((aO t k).iR==2)with a2|a2
    all_goals
     rw[a1,a2]at e;try simp only[I,B,D,RX,↓KW,seval,a1,a2,E,L]
     try(refine af (hW _ _) ?_;try simp only[I,B,D,RX,↓KW,seval])
     refine back (j+1) _ ST ST ?_
     refine ai Ts ?_ ?_ ?_ ?_<;>simp[LX,I,B,D,hw,hn,e]
   ·rw[a1,ti]at e
    try simp only[I,B,D,RX,↓KW,seval,a1,E,L]
    refine af (hW _ _) ?_;try simp only[I,B,D,RX,↓KW,seval]
    refine back (j+1) _ ST ST ?_
    refine ai Ts ?_ ?_ ?_ ?_<;>simp[LX,I,B,D,hw,hn,e]
 ·refine ai Ts ?_ ?_ ?_ ?_<;>simp[LX,I,B,D,O3]
theorem VJ.ok{fD:Nat} (hc:bu P f=some (xw fD fO fL fH fW)) (hD:FY.Spec (Pure P) fD) (hO:Y3.Spec (Pure P) fO) (hL:gE.Spec (Pure P) fL e) (hH:jm.Spec (Pure P) fH) (hW:fJ.Spec (Pure P) fW):Want.Spec (Pure P) f:=by
 intro t c here E
 have hH:=mF hH
 have hW:=gH hW
 have hl:=Tb.len E
 have hp:=E.ln.whole
 have aa:=Ir t
 have ac:=Fu t
 have cL:=hL (oS t) none (.inl rfl)
 rw[aa]at cL
 have cD:=hD t here E
 rw[VH];generalize mU t here=hd at*;generalize hg:O4 t c=g
 have ad:∀p,g p=O4 t c p:=λp=>by rw[<-hg]
 clear hg
 obtain⟨l,R⟩:∃l,ic t 8=l:=⟨_,rfl⟩
 have V:∀(j:Nat) (x:Int),l[j]? =some x->∃k:Nat,x=(k:Int)/\k<8:=λj x h=>Ft (t:=t) (j:=j) (by rw[R];exact h)
 rw[R]at ac cL⊢
 have qc:c.cells[0]? =some (I c.QN)/\c.cells[1]? =some (I c.dZ)/\c.cells.length=2:=⟨rfl,rfl,rfl⟩
 refine aj hm hc [] rfl ?_;try simp only[I,B,D,RX,↓KW,seval,xw,Z.H,hp,hl,qc]
 refine af cD ?_;try simp only[I,B,D,RX,↓KW,seval,hp,hl]
 refine af (hO t E.ln) ?_;try simp only[I,B,D,RX,↓KW,seval]
 refine af cL ?_;try simp only[I,B,D,RX,↓KW,seval,dS,aT]
 refine aD (λj:Nat=>(⟨[(17,.dat (I j) none),(16,.dat (I l.length) none),(15,.dat (aI aC (dJ l)) none),(4,.ptr 5 0),(3,.ptr 4 0),(7,.dat (I (vE hd g (l.take j))) none)],[(4,⟨t.cells,[]⟩),(5,⟨c.cells,[]⟩)],[],400⟩:S)) (λj=>l.length-j) (λj=>j<=l.length) ?_ 0 ST ?_
 ·intro j hj A back
  have hw:=aA (k:=j) ST
  try simp only[I,B,D,RX,↓KW,seval]
  rcases bc (decide ((j:Int)<(l.length:Int)))with h|h
  ·have:j=l.length:=by have:=dE h;omega
   subst this;try simp only[I,B,D,RX,↓KW,seval,h]
   rw[gn]
  ·have h1:j<l.length:=by have:=dC h;omega
   obtain⟨x,hx⟩:∃x,l[j]? =some x:=⟨_,dT h1⟩
   obtain⟨k,rfl,hk⟩:=V _ _ hx
   have hn:=vF hd g hx
   have O:=Tb.pN (E.ln.jL hk)
   have hy:0<=(j:Int)/\(j:Int)<(l.length:Int):=ST
   have M:0<=(k:Int)/\(k:Int)<8:=ST
   try simp only[I,B,D,RX,↓KW,seval,h,hx,hy,c7,aC,aT,qc]
   refine af (hH c.QN k) ?_
   have e:=ad k
   unfold O4 at e
   rcases bc (bD c.QN k)with a1|a1
   ·try simp only[I,B,D,RX,↓KW,seval,a1,qc]
    refine af (hH c.dZ k) ?_
    rcases bc (bD c.dZ k)with L|L
    ·rw[a1,L]at e
     try simp only[I,B,D,RX,↓KW,seval,L]
     refine back (j+1) _ ST ST ?_
     refine ai Ts ?_ ?_ ?_ ?_<;>simp[LX,I,B,D,hw,hn,e]
    ·rcases bc (decide ((aO t k).walk>0))with a3|a3
     all_goals
      have ab:decide (0<(aO t k).walk)=_:=a3
      rw[a1,L,ab]at e;try simp only[I,B,D,RX,↓KW,seval,L,a3,M,O]
      try(refine af (hW _ _) ?_;try simp only[I,B,D,RX,↓KW,seval])
      refine back (j+1) _ ST ST ?_
      refine ai Ts ?_ ?_ ?_ ?_<;>simp[LX,I,B,D,hw,hn,e]
   ·rw[a1,ti]at e
    try simp only[I,B,D,RX,↓KW,seval,a1,M,O]
    refine af (hW _ _) ?_;try simp only[I,B,D,RX,↓KW,seval]
    refine back (j+1) _ ST ST ?_
    refine ai Ts ?_ ?_ ?_ ?_<;>simp[LX,I,B,D,hw,hn,e]
 ·refine ai Ts ?_ ?_ ?_ ?_<;>simp[LX,I,B,D,vE]
theorem Sl.ok(hc:bu P f=some (vo fO fL fH fW)) (hO:Y3.Spec (Pure P) fO) (hL:gE.Spec (Pure P) fL e) (L:jm.Spec (Pure P) fH) (hW:fJ.Spec (Pure P) fW):Step.Spec (Pure P) f:=by
 intro t c here push green walk O
 have L:=mF L
 have hW:=gH hW
 have hl:=Tb.len O
 have hp:=O.ln.whole
 have ad:=Ir t
 have ag:=Fu t
 have cL:=hL (oS t) none (.inl rfl)
 rw[ad]at cL;unfold Jr;rw[Dq,Dq]
 generalize R:(λp=>Eh green c here p (aO t p))=g
 have am:∀p,g p=Eh green c here p (aO t p):=λp=>by rw[<-R]
 clear R
 generalize R:(λp=>yj walk c push p (aO t p))=g2
 have aa:∀p,g2 p=yj walk c push p (aO t p):=λp=>by rw[<-R]
 clear R
 obtain⟨l,V⟩:∃l,ic t 8=l:=⟨_,rfl⟩
 have ab:∀(j:Nat) (x:Int),l[j]? =some x->∃k:Nat,x=(k:Int)/\k<8:=λj x h=>Ft (t:=t) (j:=j) (by rw[V];exact h)
 rw[V]at ag cL⊢
 have qc:c.cells[0]? =some (I c.QN)/\c.cells[1]? =some (I c.dZ)/\c.cells.length=2:=⟨rfl,rfl,rfl⟩
 have qx:∀x:Ph,x.cells[8]? =some (I x.walk)/\x.cells[10]? =some (I x.iR)/\x.cells[11]? =some (B x.lock)/\x.cells.length=13:=λ_=>⟨rfl,rfl,rfl,rfl⟩
 refine aj hm hc [3] rfl ?_;try simp only[I,B,D,RX,↓KW,seval,vo,Z.H,hp,hl,qc]
 refine af (hO t O.ln) ?_;try simp only[I,B,D,RX,↓KW,seval]
 refine af cL ?_;try simp only[I,B,D,RX,↓KW,seval,dS,aT]
 refine aD (λj:Nat=>(⟨[(23,.dat (I j) none),(22,.dat (I l.length) none),(21,.dat (aI aC (dJ l)) none),(6,.ptr 4 0),(7,.ptr 5 0),(2,.dat (I here) none),(3,.dat (I push) none),(4,.dat (I green) none),(5,.dat (I walk) none),(13,.ptr 7 0),(12,.ptr 6 0)],[(4,⟨t.cells,[]⟩),(5,⟨c.cells,[]⟩),(6,⟨[I 0,I 0],[]⟩),(7,⟨[I (O3 g (l.take j)),I (O3 g2 (l.take j))],[]⟩)],[],400⟩:S)) (λj=>l.length-j) (λj=>j<=l.length) ?_ 0 ST ?_
 ·intro j hj A back
  have hw:=aA (k:=j) ST
  try simp only[I,B,D,RX,↓KW,seval]
  rcases bc (decide ((j:Int)<(l.length:Int)))with h|h
  ·have:j=l.length:=by have:=dE h;omega
   subst this;try simp only[I,B,D,RX,↓KW,seval,h]
   rw[gn];rfl
  ·have h1:j<l.length:=by have:=dC h;omega
   obtain⟨x,hx⟩:∃x,l[j]? =some x:=⟨_,dT h1⟩
   obtain⟨k,rfl,hk⟩:=ab _ _ hx
   have hn:=Fs g hx
   have al:=Fs g2 hx
   have an:=Tb.pN (O.ln.jL hk)
   have ac:=Tb.ij (O.ln.jL hk)
   have hy:0<=(j:Int)/\(j:Int)<(l.length:Int):=ST
   have ae:0<=(k:Int)/\(k:Int)<8:=ST
   have e:=am k
   have e2:=aa k
   unfold Eh at e;unfold yj at e2;generalize aO t k=ph at*
   have hz:List.drop 13 eN=[]:=rfl
   have E:=cB qc (cB ae (cB qx (hz)))
   try simp only[I,B,D,RX,↓KW,seval,h,hx,hy,c7,aC,aT,ac,E]
   apply yK (λ_:Unit=>(⟨[(7,.ptr 5 0),(15,.dat (I k) none),(3,.dat (I push) none),(16,.ptr 408 0),(5,.dat (I walk) none),(13,.ptr 7 0),(23,.dat (I j) none),(22,.dat (I l.length) none),(21,.dat (aI aC (dJ l)) none),(6,.ptr 4 0),(2,.dat (I here) none),(4,.dat (I green) none),(12,.ptr 6 0)],[(4,⟨t.cells,[]⟩),(5,⟨c.cells,[]⟩),(6,⟨[I 0,I 0],[]⟩),(7,⟨[I (O3 g (l.take (j+1))),I (O3 g2 (l.take j))],[]⟩),(408,⟨ph.cells,[]⟩)],[],800⟩:S)) (λ_=>True)
   ·intro M
    refine⟨Ts,?_⟩
    refine af (L c.QN k) ?_
    rcases bc (bD c.QN k)with a1|a1<;>rcases bc ph.lock with a2|a2<;>rcases bc (bD here k)with a3|a3<;>rcases bc (ph.iR==1)with a4|a4<;>rcases bc (ph.iR==2)with a5|a5<;>rcases bc (bD green k)with a6|a6
    all_goals
     rw[a1,a2,a3,a4,a5,a6]at e;try simp only[I,B,D,RX,↓KW,seval,a1,a2,a3,a4,a5,a6,E]
     try(refine af (L here k) ?_;try simp only[I,B,D,RX,↓KW,seval,a3,a4,a5,E])
     try(refine af (L green k) ?_;try simp only[I,B,D,RX,↓KW,seval,a6,gs,fx])
     try(refine af (hW _ _) ?_;try simp only[I,B,D,RX,↓KW,seval])
     refine M () _ trivial ?_
     refine ai Ts ?_ ?_ ?_ ?_<;>simp[LX,I,B,D,hn,e]
   rintro _ _
   try simp only[I,B,D,RX,↓KW,seval,E]
   refine af (L c.dZ k) ?_
   rcases bc (bD c.dZ k)with a1|a1<;>rcases bc (bD push k)with a2|a2<;>rcases bc (ph.iR==3)with a3|a3<;>rcases bc (decide (ph.walk>0))with a4|a4<;>rcases bc (bD walk k)with a5|a5
   all_goals
    have ak:decide (0<ph.walk)=_:=a4
    rw[a1,a2,a3,ak,a5]at e2;try simp only[I,B,D,RX,↓KW,seval,a1,a2,a3,a4,a5,E]
    try(refine af (L push k) ?_;try simp only[I,B,D,RX,↓KW,seval,a2,a3,a4,a5,E])
    try(refine af (L walk k) ?_;try simp only[I,B,D,RX,↓KW,seval,a5,gs,fx])
    try(refine af (hW _ _) ?_;try simp only[I,B,D,RX,↓KW,seval])
    refine back (j+1) _ ST ST ?_
    refine ai Ts ?_ ?_ ?_ ?_<;>simp[LX,I,B,D,hw,al,e2]
 ·refine ai Ts ?_ ?_ ?_ ?_<;>simp[LX,I,B,D,O3]
end
end
section
variable{P:Program} (hm:P.follows .mixedOrders=true) {f:Nat}
include hm
theorem O5.ok{fN fT fL fS fG fY e:Nat} (hc:bu P f=some (mR fN fT fL fS fG fY e)) (hN:LW.Spec (Pure P) fN) (hT:EC.Spec (Pure P) fT) (hL:u9.Spec (Pure P) fL) (hS:vc.Spec (Pure P) fS) (hG:ve.Spec (Pure P) fG) (hY:vf.Spec (Pure P) fY):vg.Spec (Pure P) f:=by
 intro t l x ht ae an am
 have hl:=Tb.len ht
 have hp:=ht.ln.whole
 have hd:=ht.ln.JA
 have ao:=ht.UP
 refine aj hm hc [3,4] rfl ?_;try simp only[I,B,D,RX,↓KW,seval,mR,Z.H,hl,hp]
 refine aD (λk:Nat=>(⟨[(8,.dat (I k) none),(3,.ptr 4 0),(1,.dat (aI Ch.cells l) none),(2,.dat (aI j4 x) none),(7,aZ Ch.cells (iE t (l.getD []) (x.getD []) k) 0)],[(4,⟨t.cells,[]⟩)],bA (iE t (l.getD []) (x.getD []) k) 0 e,400⟩:S)) (λk=>(t.aL.getD []).length-k) (λk=>k<=(t.aL.getD []).length) ?_ 0 ST ?_
 ·intro k hk A back
  have al:=aA (k:=k) ST
  have ab:iE t (l.getD []) (x.getD []) (k+1)=iE t (l.getD []) (x.getD []) k++[Ff (By t k) (tG (l.getD []) k) (BF (x.getD []) k)]:=by simp[iE,io]
  try simp only[I,B,D,RX,↓KW,seval,hd,dS]
  rcases bc (decide ((k:Int)<((t.aL.getD []).length:Int)))with h|h
  ·have ad:k=(t.aL.getD []).length:=by have:=dE h;omega
   subst ad
   by_cases E:iE t (l.getD []) (x.getD []) (t.aL.getD []).length=[]
   ·try simp only[I,B,D,RX,↓KW,seval,h,aZ,bA,E]
    rfl
   ·try simp only[I,B,D,RX,↓KW,seval,h,aZ,bA,E]
    simp[aI,dJ,E]
  ·have L:k<(t.aL.getD []).length:=by have:=dC h;omega
   obtain⟨d,hx⟩:∃d,(t.aL.getD [])[k]? =some d:=⟨_,dT L⟩
   have ac:By t k=d:=by rw[By,eh,hx];rfl
   have aa:d.Fw:=ae d (em hx)
   have V:0<=(k:Int)/\(k:Int)<((t.aL.getD []).length:Int):=ST
   have O:d.cells.length=7/\aF d.cells 0 (some 7)=some (.agg d.cells)/\d.cells.take 7=d.cells/\d.cells[3]? =some (Fl d.delay)/\d.cells[4]? =some (Fl d.extend):=⟨rfl,rfl,rfl,rfl,rfl⟩
   generalize ak:iE t (l.getD []) (x.getD []) k=cs at*
   obtain⟨c,R⟩:∃c,tG (l.getD []) k=c:=⟨_,rfl⟩
   obtain⟨v,hv⟩:∃v,BF (x.getD []) k=v:=⟨_,rfl⟩
   have ag:∀x:Ch,x.cells.length=7/\aF x.cells 0 (some 7)=some (.agg x.cells)/\x.cells.take 7=x.cells:=λ_=>⟨rfl,rfl,rfl⟩
   rw[ac,R,hv]at ab
   by_cases E:cs=[]
   all_goals
    try simp only[I,B,D,RX,↓KW,seval,h,aZ,bA,E,hd,dS]
    apply yK (λ_:Unit=>(⟨[(8,.dat (I k) none),(2,.dat (aI j4 x) none),(3,.ptr 4 0),(9,.ptr 405 0),(7,aZ Ch.cells cs 0),(1,.dat (aI Ch.cells l) none)],[(4,⟨t.cells,[]⟩),(405,⟨c.cells,[]⟩)],bA cs 0 e,800⟩:S)) (λ_=>True)
    ·intro b2
     rcases bc (decide ((k:Int)<((l.getD []).length:Int)))with h|h
     ·have L:(l.getD []).length<=k:=by have:=dE h;omega
      have M:tG (l.getD []) k=default:=by simp[tG,L]
      rw[R]at M;try simp only[I,B,D,RX,↓KW,seval,h,dS]
      refine b2 () _ trivial ?_
      refine ai Ts ?_ ?_ ?_ ?_<;>simp[LX,I,B,D,aZ,bA,E,M]
      rfl
     ·have L:k<(l.getD []).length:=by have:=dC h;omega
      have M:(l.getD [])[k]? =some c:=by rw[dT L,<-R,tG,eh,dT L];rfl
      have V:0<=(k:Int)/\(k:Int)<((l.getD []).length:Int):=ST
      try simp only[I,B,D,RX,↓KW,seval,h,M,V,ag,c7]
      refine b2 () _ trivial ?_
      refine ai Ts ?_ ?_ ?_ ?_<;>simp[LX,I,B,D,aZ,bA,E]
    rintro _ _
    try simp only[I,B,D,RX,↓KW,seval,E,dS]
    refine af hN ?_;try simp only[I,B,D,RX,↓KW,seval,E,dS]
    apply yK (λ_:Unit=>(⟨[(8,.dat (I k) none),(2,.dat (aI j4 x) none),(3,.ptr 4 0),(9,.ptr 405 0),(10,.dat (fv v) none),(7,aZ Ch.cells cs 0),(1,.dat (aI Ch.cells l) none)],[(4,⟨t.cells,[]⟩),(405,⟨c.cells,[]⟩)],bA cs 0 e,1200⟩:S)) (λ_=>True)
    ·intro b2
     rcases bc (decide ((k:Int)<((x.getD []).length:Int)))with h|h
     ·have L:(x.getD []).length<=k:=by have:=dE h;omega
      have M:BF (x.getD []) k=none:=by simp[BF,L]
      rw[hv]at M;subst M;try simp only[I,B,D,RX,↓KW,seval,h,dS]
      refine b2 () _ trivial ?_
      refine ai Ts ?_ ?_ ?_ ?_<;>simp[LX,I,B,D,aZ,bA,E,fv]
     ·have L:k<(x.getD []).length:=by have:=dC h;omega
      have M:(x.getD [])[k]? =some v:=by rw[dT L,<-hv,BF,eh,dT L];rfl
      have V:0<=(k:Int)/\(k:Int)<((x.getD []).length:Int):=ST
      try simp only[I,B,D,RX,↓KW,seval,h,M,V,j4,c7]
      refine b2 () _ trivial ?_
      refine ai Ts ?_ ?_ ?_ ?_<;>simp[LX,I,B,D,aZ,bA,E]
    rintro _ _
    have q5:c.cells[0]? =some (B c.on)/\c.cells[4]? =some (I c.held):=⟨rfl,rfl⟩
    try simp only[I,B,D,RX,↓KW,seval,hd,hx,V,O,E]
    refine af (hT d.delay (by obtain⟨_,_,h,_⟩:=aa;exact h)) ?_
    try simp only[I,B,D,RX,↓KW,seval,Bv,O]
    refine af (hT d.extend (by obtain⟨_,_,_,h⟩:=aa;exact h)) ?_
    try simp only[I,B,D,RX,↓KW,seval,Bv,O,Ch.cells]
    refine af (hL d c.on c.dc v) ?_;try simp only[I,B,D,RX,↓KW,seval,Ch.cells,O]
    refine af (hS _ _) ?_;try simp only[I,B,D,RX,↓KW,seval,Ch.cells,O]
    refine af (hG _ _ _) ?_;try simp only[I,B,D,RX,↓KW,seval,Ch.cells,O]
    refine af (hS _ _) ?_;try simp only[I,B,D,RX,↓KW,seval,Ch.cells,O]
    refine af (hY _ _ _ _ _ _) ?_;try simp only[I,B,D,RX,↓KW,seval,Ch.cells,O,E,aZ,bA]
    first
     |refine back (k+1) _ ST ST ?_
     |(have ar:cs.length=k:=by{rw[<-ak];simp[iE]}
       refine⟨ST,back (k+1) _ ST ST ?_⟩)
    refine ai Ts ?_ ?_ ?_ ?_<;>simp[LX,I,B,D,ab,E,al,aZ,bA,Ff,Kj,Ch.cells]
 ·refine ai Ts ?_ ?_ ?_ ?_<;>simp[LX,I,B,D,aZ,bA,iE]
theorem VK.ok{fF fS fW:Nat} (hc:bu P f=some (xu fF fS fW)) (hF:pX.Spec (Pure P) fF) (hS:o8.Spec (Pure P) fS) (hW:fJ.Spec (Pure P) fW):vh.Spec (Pure P) f:=by
 intro t l ht ae
 have hW:=gH hW
 have hl:=Tb.len ht
 have hp:=ht.ln.whole
 have hd:=ht.ln.JA
 have ak:=ht.UP
 refine aj hm hc [] rfl ?_;try simp only[I,B,D,RX,↓KW,seval,xu,Z.H,hl,hp]
 refine aD (λk:Nat=>(⟨[(6,.dat (I k) none),(2,.ptr 4 0),(1,.dat (aI Ch.cells l) none),(5,.dat (I (ga t (l.getD []) k)) none)],[(4,⟨t.cells,[]⟩)],[],400⟩:S)) (λk=>(l.getD []).length-k) (λk=>k<=(l.getD []).length/\k<=(t.aL.getD []).length) ?_ 0 ST ?_
 ·rintro k ⟨hk,ag⟩ A back
  have L:=aA (k:=k) ST
  try simp only[I,B,D,RX,↓KW,seval,hd,dS]
  rcases bc (decide ((k:Int)<((t.aL.getD []).length:Int)))with R|R
  ·have O:tj t (l.getD [])=k:=by have:=dE R;unfold tj;omega
   try simp only[I,B,D,RX,↓KW,seval,R]
   rw[O]
  rcases bc (decide ((k:Int)<((l.getD []).length:Int)))with h|h
  ·have O:tj t (l.getD [])=k:=by have:=dE h;unfold tj;omega
   try simp only[I,B,D,RX,↓KW,seval,R,h,dS]
   rw[O]
  have h1:k<(l.getD []).length:=by have:=dC h;omega
  obtain⟨c,hx⟩:∃c,(l.getD [])[k]? =some c:=⟨_,dT h1⟩
  have ad:tG (l.getD []) k=c:=by rw[tG,eh,hx];rfl
  have hy:0<=(k:Int)/\(k:Int)<((l.getD []).length:Int):=ST
  have h3:k<(t.aL.getD []).length:=by have:=dC R;omega
  obtain⟨d,aa⟩:∃d,(t.aL.getD [])[k]? =some d:=⟨_,dT h3⟩
  have ab:By t k=d:=by rw[By,eh,aa];rfl
  have ac:0<=(k:Int)/\(k:Int)<((t.aL.getD []).length:Int):=ST
  have M:d.cells.length=7/\aF d.cells 0 (some 7)=some (.agg d.cells)/\d.cells.take 7=d.cells/\d.cells[0]? =some (I d.phase)/\d.cells[5]? =some (I d.maxOn)/\d.cells[6]? =some (I d.nV):=⟨rfl,rfl,rfl,rfl,rfl,rfl⟩
  have hE:ga t (l.getD []) (k+1)=if u7 d c then bJ (ga t (l.getD []) k) d.phase else ga t (l.getD []) k:=by rw[ga,ab,ad]
  try simp only[I,B,D,RX,↓KW,seval,R,h,hd,aa,ac,hx,hy,M,c7,dS,Ch.cells]
  rcases bc c.out with a1|a1
  ·try simp only[I,B,D,RX,↓KW,seval,a1,hx,hy,c7,dS,Ch.cells]
   refine af (hF c.on c.dc) ?_;try simp only[I,B,D,RX,↓KW,seval,M]
   rcases bc (decide (c.dc>=3))with V|V
   ·try simp only[I,B,D,RX,↓KW,seval,V,hx,hy,c7,dS,Ch.cells,M]
    refine af (hS d.maxOn d.nV c.Pk c.C9) ?_
    rcases bc (OX d.maxOn d.nV c.Pk c.C9)with a3|a3
    ·try simp only[I,B,D,RX,↓KW,seval,a3,Ch.cells,M]
     have E:ga t (l.getD []) (k+1)=ga t (l.getD []) k:=by rw[hE];simp only[u7,a1,V,a3,wn,ev,ib]
     refine back (k+1) _ ST ST ?_
     refine ai Ts ?_ ?_ ?_ ?_<;>simp[LX,I,B,D,L,E]
    ·try simp only[I,B,D,RX,↓KW,seval,a3,Ch.cells,M]
     have E:ga t (l.getD []) (k+1)=bJ (ga t (l.getD []) k) d.phase:=by rw[hE];simp only[u7,a1,V,a3,wi,ti,wn,nz,kh]
     refine af (hW _ _) ?_;try simp only[I,B,D,RX,↓KW,seval]
     refine back (k+1) _ ST ST ?_
     refine ai Ts ?_ ?_ ?_ ?_<;>simp[LX,I,B,D,L,E]
   ·try simp only[I,B,D,RX,↓KW,seval,V,Ch.cells,M]
    have E:ga t (l.getD []) (k+1)=bJ (ga t (l.getD []) k) d.phase:=by rw[hE];simp only[u7,a1,V,wi,ti,wn,nz,kh]
    refine af (hW _ _) ?_;try simp only[I,B,D,RX,↓KW,seval]
    refine back (k+1) _ ST ST ?_
    refine ai Ts ?_ ?_ ?_ ?_<;>simp[LX,I,B,D,L,E]
  ·try simp only[I,B,D,RX,↓KW,seval,a1,Ch.cells,M]
   have E:ga t (l.getD []) (k+1)=bJ (ga t (l.getD []) k) d.phase:=by rw[hE];simp only[u7,a1,wi,ti,wn,nz,kh]
   refine af (hW _ _) ?_;try simp only[I,B,D,RX,↓KW,seval]
   refine back (k+1) _ ST ST ?_
   refine ai Ts ?_ ?_ ?_ ?_<;>simp[LX,I,B,D,L,E]
 ·refine ai Ts ?_ ?_ ?_ ?_<;>simp[LX,I,B,D,ga]
end
section
variable (t:Tb) (s:Int) (k:Nat)
theorem vG(l:List Rn):∀k,ez l k=gb iL l k
 |0=>rfl
 |k+1=>by
  rw[ez,gb,vG l k,BN];unfold iL
  by_cases h:(l.getD k default).aH=1
  ·rw[et h,et (by simpa using h)]
  ·rw[ek h,ek (by simpa using h)]
theorem BO(l:List Rn):∀k,ez l k=iH (λp=>dX (aE l p)) k
 |0=>rfl
 |k+1=>by
  rw[ez,iH,BO l k,BN]
  by_cases h:(l.getD k default).aH=1
  ·rw[et h,et (by unfold dX aE;simpa using h)]
  ·rw[ek h,ek (by unfold dX aE;simpa using h)]
def pY.Spec(C:aY) (f:Nat):Prop:=∀(s:Int) (k:Nat),k<8->C.c f [I s,I k] (B (tb s k)) none
def Sm(t:Tb) (s:Int) (k:Nat):List Nat:=(List.range k).filter λk=>tb s k
theorem Fv{α:Type} (F:α->Nat->α) (b:α):(Sm t s (k+1)).foldl F b=if tb s k then F ((Sm t s k).foldl F b) k else(Sm t s k).foldl F b:=by
 unfold Sm;rw[io,rf,tt]
 cases h:tb s k<;>simp[h]
theorem VL:Sm t s (eF t)=iY t s:=rfl
end
section
variable{P:Program} (hm:P.follows .mixedOrders=true) {f:Nat}
include hm
theorem pY.ok(A:bu P f=some AF):pY.Spec (Pure P) f:=by
 intro s k hk
 have e:=Dj s hk
 refine aj hm A [] rfl ?_
 try simp only[I,B,D,RX,↓KW,seval,AF,Z.H,wrap_u64 (show k<18446744073709551616 by omega)]
 rw[e]
 cases tb s k<;>simp
theorem VM.ok{fB:Nat} (hc:bu P f=some (xG fB)) (hB:pY.Spec (Pure P) fB):Live.Spec (Pure P) f:=by
 intro t s ask R hs
 have hl:=Tb.len R
 have hp:=Tb.whole R
 have aa:=Rd.whole hs
 have hd:=R.ln.JB
 have ac:=R.f9
 refine aj hm hc [] rfl ?_;try simp only[I,B,D,RX,↓KW,seval,xG,Z.H,hp,aa]
 refine aD (λk:Nat=>(⟨[(8,.dat (I k) none),(3,.ptr 4 0),(2,.dat (I ask) none),(4,.ptr 5 0),(7,.dat (I ((Sm t ask k).foldl (CB s) 0)) none)],[(4,⟨t.cells,[]⟩),(5,⟨s.cells,[]⟩)],[],400⟩:S)) (λk=>eF t-k) (λk=>k<=eF t) ?_ 0 ST ?_
 ·intro k hk A back
  have hw:=aA (k:=k) (by unfold eF at hk;omega)
  have L:=Fv t ask k (CB s) 0
  try simp only[I,B,D,RX,↓KW,seval,hd,dS]
  rcases bc (decide ((k:Int)<((t.f9.getD []).length:Int)))with O|O
  ·have:k=eF t:=by have:=dE O;unfold eF at*;omega
   subst this;try simp only[I,B,D,RX,↓KW,seval,O]
   rfl
  rcases bc (decide ((k:Int)<4))with M|M
  ·have:k=eF t:=by have:=dE M;unfold eF at*;omega
   subst this;try simp only[I,B,D,RX,↓KW,seval,O,M]
   rfl
  have h3:k<eF t:=by have:=dC O;have:=dC M;unfold eF;omega
  have h4:k<4:=by have:=dC M;omega
  have ab:=Rd.at hs h4
  have E:=zJ (k:=k) ST
  have hu:=wrap_u64 (show k<18446744073709551616 by omega)
  have hy:0<=(k:Int)/\(k:Int)<4:=ST
  try simp only[I,B,D,RX,↓KW,seval,O,M]
  refine af (hB ask k ST) ?_
  rcases bc (tb ask k)with a1|a1
  ·rw[a1,ek Ts]at L
   try simp only[I,B,D,RX,↓KW,seval,a1]
   refine back (k+1) _ ST ST ?_
   refine ai Ts ?_ ?_ ?_ ?_<;>simp[LX,I,B,D,hw,L]
  rcases bc (decide (mM s k<=0))with V|V
  all_goals
   rw[a1]at L;rw[et rfl,CB]at L
   first|rw[et (dC V)]at L|rw[ek (dE V)]at L
   try simp only[I,B,D,RX,↓KW,seval,a1,V,ab,hy,hu,E]
   refine back (k+1) _ ST ST ?_
   refine ai Ts ?_ ?_ ?_ ?_<;>simp[LX,I,B,D,hw,L,hu,E]
 ·refine ai Ts ?_ ?_ ?_ ?_<;>simp[LX,I,B,D,Sm]
theorem Sn.ok{fL fB fG:Nat} (hc:bu P f=some (vr fL fB fG)) (hL:Live.Spec (Pure P) fL) (hB:pY.Spec (Pure P) fB) (hG:jF.Spec (Pure P) fG):Early.Spec (Pure P) f:=by
 intro t s l ask R hs aa
 have hl:=Tb.len R
 have hp:=Tb.whole R
 have ab:=Rd.whole hs
 have ac:=bQ aa
 have hd:=R.ln.JB
 have ae:=R.f9
 have cG:=hG l aa
 rw[vG]at cG
 have cL:=hL t s ask R hs
 show(Pure P).c f _ (I ((iY t (kB t s ask)).foldl (si t (gb iL l 8)) 0)) none
 generalize gb iL l 8=G at*;generalize kB t s ask=L at*;refine aj hm hc [] rfl ?_;try simp only[I,B,D,RX,↓KW,seval,vr,Z.H,hp,ab]
 refine aD (λk:Nat=>(⟨[(10,.dat (I k) none),(4,.ptr 4 0),(5,.ptr 5 0),(3,.dat (I ask) none),(6,.ptr 6 0),(9,.dat (I ((Sm t L k).foldl (si t G) 0)) none)],[(4,⟨t.cells,[]⟩),(5,⟨s.cells,[]⟩),(6,⟨aQ l,[]⟩)],[],400⟩:S)) (λk=>eF t-k) (λk=>k<=eF t) ?_ 0 ST ?_
 ·intro k hk A back
  have hw:=aA (k:=k) (by unfold eF at hk;omega)
  have M:=Fv t L k (si t G) 0
  try simp only[I,B,D,RX,↓KW,seval,hd,dS]
  rcases bc (decide ((k:Int)<((t.f9.getD []).length:Int)))with E|E
  ·have:k=eF t:=by have:=dE E;unfold eF at*;omega
   subst this;try simp only[I,B,D,RX,↓KW,seval,E]
   rfl
  rcases bc (decide ((k:Int)<4))with O|O
  ·have:k=eF t:=by have:=dE O;unfold eF at*;omega
   subst this;try simp only[I,B,D,RX,↓KW,seval,E,O]
   rfl
  have h3:k<eF t:=by have:=dC E;have:=dC O;unfold eF;omega
  have h4:k<4:=by have:=dC O;omega
  have h5:k<(t.f9.getD []).length:=by have:=dC E;omega
  obtain⟨b,hx⟩:∃b,(t.f9.getD [])[k]? =some b:=⟨_,dT h5⟩
  have ad:gY t k=b:=by rw[gY,eh,hx];rfl
  have hy:0<=(k:Int)/\(k:Int)<((t.f9.getD []).length:Int):=ST
  try simp only[I,B,D,RX,↓KW,seval,E,O,hp,ab]
  refine af cL ?_;try simp only[I,B,D,RX,↓KW,seval]
  refine af (hB L k ST) ?_
  rcases bc (tb L k)with a1|a1
  ·rw[a1,ek Ts]at M
   try simp only[I,B,D,RX,↓KW,seval,a1]
   refine back (k+1) _ ST ST ?_
   refine ai Ts ?_ ?_ ?_ ?_<;>simp[LX,I,B,D,hw,M]
  rw[a1,et rfl,si,ad]at M;try simp only[I,B,D,RX,↓KW,seval,a1,hd,hx,hy,c7,Bs.cells,ac]
  refine af cG ?_
  rcases bc (bK .i64 b.set G==0)with V|V
  ·rw[V,ek Ts]at M
   try simp only[I,B,D,RX,↓KW,seval,V]
   refine back (k+1) _ ST ST ?_
   refine ai Ts ?_ ?_ ?_ ?_<;>simp[LX,I,B,D,hw,M]
  ·rw[V,et rfl]at M
   try simp only[I,B,D,RX,↓KW,seval,V,hd,hx,hy,c7,Bs.cells]
   refine back (k+1) _ ST ST ?_
   refine ai Ts ?_ ?_ ?_ ?_<;>simp[LX,I,B,D,hw,M]
 ·refine ai Ts ?_ ?_ ?_ ?_<;>simp[LX,I,B,D,Sm]
omit hm in
theorem Nu(n:Int):bz n=JP n:=by
 have A:(if 9999<(if 0>n then 0 else n)then 9999 else(if 0>n then 0 else n))=d7 n 0 9999:=by
  unfold d7;split<;>split<;>(try split)<;>omega
 unfold bz JP bZ;rw[A]
theorem VN.ok{fL fM fB:Nat} (hc:bu P f=some (xB fL fM fB)) (hL:Live.Spec (Pure P) fL) (hM:sg.Spec (Pure P) fM) (hB:pY.Spec (Pure P) fB):uE.Spec (Pure P) f:=by
 intro t s ask held round ht hs
 have hl:=Tb.len ht
 have hp:=Tb.whole ht
 have an:=Rd.whole hs
 have ac:s.cells[5]? =some (AV.int .i64 s.bF):=Rd.jy hs
 have al:s.cells[4]? =some (AV.int .i64 s.was):=Rd.Rf hs
 have hd:=ht.ln.JB
 have au:=ht.f9
 obtain⟨M,E⟩:∃M,M=Bw s held round:=⟨_,rfl⟩
 obtain⟨zz,hZ⟩:∃zz,(kC t s ask held round).cells=zz:=⟨_,rfl⟩
 have am:Bw s held round=M:=E.symm
 rw[hZ]
 have cL:=hL t s ask ht hs
 have oC:kD t s ask M 0=[I 0,I 0,I 0,I 0,I (kB t s ask),I M]:=by simp[kD,Rd.cells,pT,io]
 obtain⟨L,ar⟩:∃L,kB t s ask=L:=⟨_,rfl⟩
 rw[ar]at cL oC;refine aj hm hc [0,1] rfl ?_;try simp only[I,B,D,RX,↓KW,seval,xB,Z.H,hp,an]
 refine af cL ?_;try simp only[I,B,D,RX,↓KW,seval,ac]
 apply yK (λ_:Unit=>(⟨[(3,.dat (B held) none),(11,.ptr 12 0),(5,.ptr 4 0),(6,.ptr 5 0),(2,.dat (I ask) none),(10,.ptr 6 0)],[(4,⟨t.cells,[]⟩),(5,⟨s.cells,[]⟩),(6,⟨[I 0,I 0,I 0,I 0,I 0,I 0],[]⟩),(12,⟨[I 0,I 0,I 0,I 0,I L,I (if round then 0 else s.bF)],[]⟩)],[],60⟩:S)) (λ_=>True)
 ·intro back
  rcases bc round with a1|a1
  ·try simp only[I,B,D,RX,↓KW,seval,ac,a1,fx]
   refine back () _ trivial ?_
   refine ai Ts ?_ ?_ ?_ ?_<;>simp[LX,I,B,D,a1]
  ·try simp only[I,B,D,RX,↓KW,seval,ac,a1,gs]
   refine back () _ trivial ?_
   refine ai Ts ?_ ?_ ?_ ?_<;>simp[LX,I,B,D,a1]
 rintro _ _
 try simp only[I,B,D,RX,↓KW,seval]
 apply yK (λ_:Unit=>(⟨[(11,.ptr 12 0),(5,.ptr 4 0),(6,.ptr 5 0),(2,.dat (I ask) none),(10,.ptr 6 0)],[(4,⟨t.cells,[]⟩),(5,⟨s.cells,[]⟩),(6,⟨[I 0,I 0,I 0,I 0,I 0,I 0],[]⟩),(12,⟨kD t s ask M 0,[]⟩)],[],90⟩:S)) (λ_=>True)
 ·intro back
  unfold Bw at E
  rcases bc held with a1|a1
  ·rw[a1,ek Ts]at E
   try simp only[I,B,D,RX,↓KW,seval,a1]
   refine back () _ trivial ?_
   refine ai Ts ?_ ?_ ?_ ?_<;>simp[LX,I,B,D,oC,<-E]
  ·rw[a1,et rfl,<-Nu]at E
   try simp only[I,B,D,RX,↓KW,seval,a1]
   refine af (hM _) ?_;try simp only[I,B,D,RX,↓KW,seval]
   refine back () _ trivial ?_
   refine ai Ts ?_ ?_ ?_ ?_<;>simp[LX,I,B,D,oC,<-E]
 rintro _ _
 try simp only[I,B,D,RY,↓KW,seval]
 refine aD (λk:Nat=>(⟨[(12,.dat (I k) none),(5,.ptr 4 0),(6,.ptr 5 0),(11,.ptr 12 0),(2,.dat (I ask) none),(10,.ptr 6 0)],[(4,⟨t.cells,[]⟩),(5,⟨s.cells,[]⟩),(6,⟨[I 0,I 0,I 0,I 0,I 0,I 0],[]⟩),(12,⟨kD t s ask M k,[]⟩)],[],400⟩:S)) (λk=>eF t-k) (λk=>k<=eF t) ?_ 0 ST ?_
 ·intro k hk A back
  have hw:=aA (k:=k) (by unfold eF at hk;omega)
  try simp only[I,B,D,RY,↓KW,seval,hd,dS]
  have fin:k=eF t->(kD t s ask M k)=zz:=by
   rw[<-hZ]
   rintro rfl;simp[kD,kC,am]
  have R:=uF t s ask M k
  have ab:(kD t s ask M k).take 6=kD t s ask M k:=by rw[l4];omega
  have ae:setCells [AV.int .i64 0,AV.int .i64 0,AV.int .i64 0,AV.int .i64 0,AV.int .i64 0,AV.int .i64 0] 0 (kD t s ask M k)=kD t s ask M k:=eI (by rw[R];rfl)
  have ad:aF (kD t s ask M k) 0 (some 6)=some (.agg (kD t s ask M k)):=by simp[aF,R,ab]
  rcases bc (decide ((k:Int)<((t.f9.getD []).length:Int)))with h1|h1
  ·have:=fin (by have:=dE h1;unfold eF at*;omega)
   try simp only[I,B,D,RY,↓KW,seval,h1,ad,ae,ab,R]
   rw[this]
  rcases bc (decide ((k:Int)<4))with h2|h2
  ·have:=fin (by have:=dE h2;unfold eF at*;omega)
   try simp only[I,B,D,RY,↓KW,seval,h1,h2,ad,ae,ab,R]
   rw[this]
  have h3:k<eF t:=by have:=dC h1;have:=dC h2;unfold eF;omega
  have h4:k<4:=by have:=dC h2;omega
  have h5:k<(t.f9.getD []).length:=by have:=dC h1;omega
  obtain⟨b,hx⟩:∃b,(t.f9.getD [])[k]? =some b:=⟨_,dT h5⟩
  have ao:gY t k=b:=by rw[gY,eh,hx];rfl
  have hy:(0<=(k:Int)/\(k:Int)<((t.f9.getD []).length:Int))/\(0<=(k:Int)/\(k:Int)<4):=ST
  have ag:=Rd.at hs h4
  have O:=JR t s ask M h4
  have ak:=GH t s ask M h4
  try simp only[I,B,D,RY,↓KW,seval,h1,h2,ag,hy]
  rcases bc (decide (mM s k>0))with a1|a1
  ·have h':=dE a1
   have V:sR t s ask k=if tb s.was k&& !tb ask k then(gY t k).lock else 0:=by simp[sR,h']
   try simp only[I,B,D,RY,↓KW,seval,a1,al]
   refine af (hB s.was k ST) ?_
   rcases bc (tb s.was k)with a2|a2
   ·rw[a2]at V
    have aa:=ak V
    try simp only[I,B,D,RY,↓KW,seval,a2]
    refine back (k+1) _ ST ST ?_
    refine ai Ts ?_ ?_ ?_ ?_<;>simp[LX,I,B,D,hw,aa]
   try simp only[I,B,D,RY,↓KW,seval,a2]
   refine af (hB ask k ST) ?_
   rcases bc (tb ask k)with a3|a3
   ·rw[a2,a3]at V
    have V:sR t s ask k=(gY t k).lock:=V
    rw[V,ao]at O;try simp only[I,B,D,RY,↓KW,seval,a3,fx,hd,hx,hy,c7,Bs.cells,O,R]
    refine⟨ST,back (k+1) _ ST ST ?_⟩
    refine ai Ts ?_ ?_ ?_ ?_<;>simp[LX,I,B,D,hw,O]
   ·rw[a2,a3]at V
    have aa:=ak V
    try simp only[I,B,D,RY,↓KW,seval,a3,gs]
    refine back (k+1) _ ST ST ?_
    refine ai Ts ?_ ?_ ?_ ?_<;>simp[LX,I,B,D,hw,aa]
  ·have V:sR t s ask k=IntKind.i64.wrap (mM s k-1):=by simp[sR,bZ,dC a1]
   rw[V]at O;try simp only[I,B,D,RY,↓KW,seval,a1,ag,hy,O,R]
   refine⟨ST,back (k+1) _ ST ST ?_⟩
   refine ai Ts ?_ ?_ ?_ ?_<;>simp[LX,I,B,D,hw,O]
 ·refine ai Ts ?_ ?_ ?_ ?_<;>simp[LX,I,B,D]
end
theorem Fx{A:Int} (L:Can A) (g:Int->Bool) (s:Int):∀k,k<=8->Can (vE A g (gN s k))/\∀i,i<8->tb (vE A g (gN s k)) i=(tb A i||(decide (i<k)&&(tb s i&&g i)))
 |0,_=>⟨L,λi _=>by simp[gN,vE]⟩
 |k+1,hk=>by
  obtain⟨M,E⟩:=Fx L g s k ST
  have e:vE A g (gN s (k+1))=if tb s k&&g k then bJ (vE A g (gN s k)) k else vE A g (gN s k):=by
   rw[Cp,nr ST]
   cases h:tb s k
   ·simp
   ·simp only[kt,kh]
    unfold vE;rw[tt];rfl
  rw[e];cases h:(tb s k&&g k)
  ·refine⟨M,λi D=>?_⟩
   rw[ek TB,E i D]
   by_cases B:i=k
   ·subst B;simp[h]
   ·have:(i<k+1)↔i<k:=ST
    simp[this]
  ·refine⟨jz ST,λi D=>?_⟩
   rw[et rfl,jE ST,E i D]
   by_cases B:i=k
   ·subst B;simp[h]
   ·have:(i<k+1)↔i<k:=ST
    simp[this,B,D]
theorem lP{s:Int} {j:Nat} {x:Int} (h:(dM s)[j]? =some x):∃k:Nat,x=k/\k<8/\tb s k=true:=by
 have:=em h
 simp only[dM,px,i8,fp]at this;obtain⟨⟨k,hk,e⟩,A⟩:=this;subst e
 exact⟨k,rfl,hk,by rwa[nr hk]at A⟩
theorem Fy(A:Rn->Bool) (l:List Rn):∀k,k<=8->Can (gb A l k)
 |0,_=>qM
 |k+1,h=>by
  rw[gb];split
  ·exact jz ST
  ·exact Fy A l k ST
def hG(t:Tb) (L:Int) (l:List Rn) (k:Nat) (p:Int):Bool:=tb L k&&decide ((aE l p.toNat).extra<t.extend)
def BP(t:Tb) (L G:Int) (l:List Rn):Nat->Int
 |0=>0
 |k+1=>vE (BP t L G l k) (hG t L l k) (dM (bK .i64 (gY t k).set G))
theorem Nv(t:Tb) (L:Int) (i:Nat):∀k,tb ((Sm t L k).foldl (GD t) 0) i=(List.range k).any λj=>tb L j&&tb (gY t j).set i
 |0=>by simp[Sm,dr]
 |k+1=>by
  rw[Fv,io,List.any_append,<-Nv t L i k];cases h:tb L k
  ·simp[h]
  ·simp[h,GD,Cy]
theorem Nw(t:Tb) (L G:Int) (l:List Rn):∀k,Can (BP t L G l k)/\∀i,i<8->tb (BP t L G l k) i=(((List.range k).any λj=>tb L j&&tb (gY t j).set i)&&(tb G i&&decide ((aE l i).extra<t.extend)))
 |0=>⟨qM,λi _=>by simp[BP,dr]⟩
 |k+1=>by
  obtain⟨E,B⟩:=Nw t L G l k
  obtain⟨M,D⟩:=Fx E (hG t L l k) (bK .i64 (gY t k).set G) 8 ST
  refine⟨M,λi A=>?_⟩
  have e:BP t L G l (k+1)=vE (BP t L G l k) (hG t L l k) (gN (bK .i64 (gY t k).set G) 8):=rfl
  rw[e,D i A,B i A,jK,io,List.any_append];simp only[hG,ix,A,xr,kt,List.any_cons,List.any_nil,Bool.or_false]
  cases((List.range k).any λj=>tb L j&&tb (gY t j).set i)<;>cases tb G i<;>cases decide ((aE l i).extra<t.extend)<;>cases tb L k<;>cases tb (gY t k).set i<;>rfl
theorem VO(t:Tb) (s:Rd) (l:List Rn) (ask:Int):wV t s l ask=if s.bF>=t.gW then 0 else BP t (kB t s ask) (gb iL l 8) l (eF t):=by
 unfold wV;split
 ·rfl
 obtain⟨B,D⟩:=Nw t (kB t s ask) (gb iL l 8) l (eF t)
 refine iM (sq (Fy _ _ _ ST)) B λi A=>?_
 rw[D i A,jK,<-VL,Nv,yC _ _ 8 ST,yC _ _ 8 ST]
 simp only[A,xr,kt,EG,iL];rfl
section
variable{P:Program} (hm:P.follows .mixedOrders=true) {f:Nat}
include hm
theorem VP.ok{fG fI e fL fB fW:Nat} (hc:bu P f=some (xy fG fI fL fB fW)) (hG:jF.Spec (Pure P) fG) (hI:gE.Spec (Pure P) fI e) (hL:Live.Spec (Pure P) fL) (hB:pY.Spec (Pure P) fB) (hW:fJ.Spec (Pure P) fW):JN.Spec (Pure P) f:=by
 intro t s l ask O hs aa
 have hW:=gH hW
 have hl:=Tb.len O
 have hp:=Tb.whole O
 have ad:=Rd.whole hs
 have ao:s.cells[5]? =some (AV.int .i64 s.bF):=Rd.jy hs
 have al:t.cells[117]? =some (AV.int .i64 t.gW):=Tb.GG O
 have am:t.cells[116]? =some (AV.int .i64 t.extend):=Tb.GF O
 have ak:=bQ aa
 have hd:=O.ln.JB
 have ar:=O.f9
 have cG:=hG l aa
 rw[vG]at cG
 have cL:=hL t s ask O hs
 rw[VO];generalize gb iL l 8=G at*;generalize kB t s ask=L at*;refine aj hm hc [] rfl ?_;try simp only[I,B,D,RX,↓KW,seval,xy,Z.H,hp,ad,ao,al]
 rcases bc (decide (s.bF>=t.gW))with a0|a0
 rotate_left
 ·rw[et (dC a0)]
  try simp only[I,B,D,RX,↓KW,seval,a0]
 rw[ek (dE a0)];try simp only[I,B,D,RX,↓KW,seval,a0]
 refine aD (λk:Nat=>(⟨[(10,.dat (I k) none),(4,.ptr 4 0),(6,.ptr 6 0),(5,.ptr 5 0),(3,.dat (I ask) none),(9,.dat (I (BP t L G l k)) none)],[(4,⟨t.cells,[]⟩),(5,⟨s.cells,[]⟩),(6,⟨aQ l,[]⟩)],[],400⟩:S)) (λk=>eF t-k) (λk=>k<=eF t) ?_ 0 ST ?_
 ·intro k hk A back
  have hw:=aA (k:=k) (by unfold eF at hk;omega)
  try simp only[I,B,D,RX,↓KW,seval,hd,dS]
  rcases bc (decide ((k:Int)<((t.f9.getD []).length:Int)))with R|R
  ·have:k=eF t:=by have:=dE R;unfold eF at*;omega
   subst this;try simp only[I,B,D,RX,↓KW,seval,R]
  rcases bc (decide ((k:Int)<4))with h2|h2
  ·have:k=eF t:=by have:=dE h2;unfold eF at*;omega
   subst this;try simp only[I,B,D,RX,↓KW,seval,R,h2]
  have h3:k<eF t:=by have:=dC R;have:=dC h2;unfold eF;omega
  have h4:k<4:=by have:=dC h2;omega
  have h5:k<(t.f9.getD []).length:=by have:=dC R;omega
  obtain⟨b,hx⟩:∃b,(t.f9.getD [])[k]? =some b:=⟨_,dT h5⟩
  have an:gY t k=b:=by rw[gY,eh,hx];rfl
  have hy:0<=(k:Int)/\(k:Int)<((t.f9.getD []).length:Int):=ST
  have hn:BP t L G l (k+1)=vE (BP t L G l k) (Eng.hG t L l k) (dM (bK .i64 b.set G)):=by rw[BP,an]
  try simp only[I,B,D,RX,↓KW,seval,R,h2,hd,hx,hy,c7,Bs.cells,ak]
  refine af cG ?_;try simp only[I,B,D,RX,↓KW,seval]
  have cI:=hI (bK .i64 b.set G) none (.inl rfl)
  have ag:=λ(j:Nat) (x:Int) (h:(dM (bK .i64 b.set G))[j]? =some x)=>lP h
  have au:=jV (bK .i64 b.set G)
  generalize dM (bK .i64 b.set G)=q at*;refine af cI ?_;try simp only[I,B,D,RX,↓KW,seval,dS,aT]
  generalize BP t L G l k=acc at*
  refine aD (λj:Nat=>(⟨[(40,.dat (I j) none),(39,.dat (I q.length) none),(38,.dat (aI aC (dJ q)) none),(4,.ptr 4 0),(5,.ptr 5 0),(3,.dat (I ask) none),(10,.dat (I k) none),(6,.ptr 6 0),(9,.dat (I (vE acc (Eng.hG t L l k) (q.take j))) none)],[(4,⟨t.cells,[]⟩),(5,⟨s.cells,[]⟩),(6,⟨aQ l,[]⟩)],[],400⟩:S)) (λj=>q.length-j) (λj=>j<=q.length) ?_ 0 ST ?_
  ·intro j hj A2 E
   have ac:=aA (k:=j) ST
   try simp only[I,B,D,RX,↓KW,seval]
   rcases bc (decide ((j:Int)<(q.length:Int)))with g1|g1
   ·have:j=q.length:=by have:=dE g1;omega
    subst this;rw[gn,<-hn];try simp only[I,B,D,RX,↓KW,seval,g1]
    refine back (k+1) _ ST ST ?_
    refine ai Ts ?_ ?_ ?_ ?_<;>simp[LX,I,B,D,hw]
   have g2:j<q.length:=by have:=dC g1;omega
   obtain⟨x,V⟩:∃x,q[j]? =some x:=⟨_,dT g2⟩
   obtain⟨i,rfl,hi,_⟩:=ag _ _ V
   have ae:=vF acc (Eng.hG t L l k) V
   have M:Eng.hG t L l k i=(tb L k&&decide ((aE l i).extra<t.extend)):=rfl
   have hr:(aQ l)[i*12+6]? =some (I (aE l i).extra):=OG aa hi
   have ab:(0<=(j:Int)/\(j:Int)<(q.length:Int))/\(0<=(i:Int)/\(i:Int)<8):=ST
   try simp only[I,B,D,RX,↓KW,seval,g1,V,ab,c7,aC,aT,hp,ad]
   refine af cL ?_;try simp only[I,B,D,RX,↓KW,seval]
   refine af (hB L k ST) ?_
   rcases bc (tb L k)with c1|c1
   ·rw[c1]at M
    try simp only[I,B,D,RX,↓KW,seval,c1]
    refine E (j+1) _ ST ST ?_
    refine ai Ts ?_ ?_ ?_ ?_<;>simp[LX,I,B,D,ac,ae,M]
   rcases bc (decide ((aE l i).extra<t.extend))with c2|c2
   all_goals
    rw[c1,c2]at M;try simp only[I,B,D,RX,↓KW,seval,c1,c2,ab,hr,am]
    try(refine af (hW _ _) ?_;try simp only[I,B,D,RX,↓KW,seval])
    refine E (j+1) _ ST ST ?_
    refine ai Ts ?_ ?_ ?_ ?_<;>simp[LX,I,B,D,ac,ae,M]
  ·refine ai Ts ?_ ?_ ?_ ?_<;>simp[LX,I,B,D,vE]
 ·refine ai Ts ?_ ?_ ?_ ?_<;>simp[LX,I,B,D,BP]
end
section
variable (C:aY) (g:Nat->Bool) (l:List Rn) (x:Int) {i:Nat} (f:Nat) (s:Int) (t:Tb) (y:Int)
theorem Ma(s:Pr) (l:List Rn) {to:Int} (h:0<=to/\to<6):(lq t s l to).free=(to==0)/\(lq t s l to).back=false:=by
 have e:to=0\/to=1\/to=2\/to=3\/to=4\/to=5:=ST
 rcases e with rfl|rfl|rfl|rfl|rfl|rfl<;>exact⟨rfl,rfl⟩
theorem Mb{t:Tb} {s:Pr} (h:cQ t s=true):0<=aK t s/\(s.aq=0\/s.aq=5\/aK t s<s.which):=by
 simp only[cQ,ed,mi,gc,kb]at h;exact h
def aeL:Prop:=∀i,i<8->tb x i=true->tb y i=true
def ac7:Prop:=∀i,i<8->tb x i=true->tb y i=false
theorem Mc{s:Int} {f:Nat->Bool} (A:i<8):tb (kH s f) i=(tb s i&&f i):=by rw[kH,mN];simp[A]
theorem Zu{b:Int} (A:i<8):tb (aJ .i64 255 b) i=!tb b i:=by rw[gX _ _ _ ST,iX];simp[A]
structure afb (t:Tb) (l:List Rn) (to:Int) (a:Ac):Prop where
 cs:Can a.start
 cf:Can a.fin
 cc:Can a.cut
 start:∀p,p<8->tb a.start p=true->gm t l p=true
 sub:aeL a.start to
 cut:∀p,p<8->tb a.cut p=true->nw (aE l p)=true
 fin:∀p,p<8->tb a.fin p=true->dX (aE l p)=true
 afc:ac7 a.fin to
 afd:ac7 a.cut to
theorem BQ(s:Pr):aK t s=-1\/(0<=aK t s/\aK t s<(nR t:Int)):=by
 unfold aK;split
 ·rename_i k hk
  have:=vd hk
  rw[fp]at this
  right;omega
 ·left;rfl
theorem Nx{l:List Rn} {k:Nat} (h:l.length=8) (hk:k<8):(aQ l)[k*12+2]? =some (I (aE l k).fst):=by
 have:=jD (gl h hk) (j:=2) ST
 rw[this];rfl
theorem Md:vE 0 (λp=>g p.toNat) (dM s)=kH s g:=by
 obtain⟨B,D⟩:=Fx qM (λp=>g p.toNat) s 8 ST
 refine Ia B λi A=>?_
 have e:vE 0 (λp=>g p.toNat) (dM s)=vE 0 (λp=>g p.toNat) (gN s 8):=rfl
 rw[D i A,dr];simp[A]
theorem Kt:(dM s).all (λp=>g p.toNat)=Da s g:=by
 rw[np,kG,lj];constructor
 ·intro h p B A
  have:=h (p:Int) (by
   simp only[dM,px,i8,fp]
   exact⟨⟨p,B,rfl⟩,by rw[nr B];exact A⟩)
  simpa using this
 ·intro h x D
  obtain⟨j,E⟩:=l3.1 D
  obtain⟨k,rfl,hk,A⟩:=lP E;exact h k hk A
theorem Ku(g:Int->Bool) {l:List Int} {j:Nat} {x:Int} (h:l[j]? =some x) (A:g x=false):l.all g=false:=by
 rw[List.all_eq_false]
 exact⟨x,em h,by simp[A]⟩
theorem Ny(L:Can x):(aJ .i64 x (yL l)==0)=gQ l x:=by
 rw[np,gQ,kG,kb,Cx];constructor
 ·intro h p D A
  have:=h p ST
  rw[A,yL,mN]at this
  simpa[D]using this
 ·intro h i E
  rw[yL,mN]
  by_cases B:i<8
  ·cases A:tb x i
   ·simp
   ·simp[B,h i B A]
  ·rw[mb L ST E];simp
theorem ac8:gQ l (bK .i64 x 255)=gQ l x:=by
 unfold gQ;rw[np,kG,kG]
 refine forall_congr' λi=>imp_congr_right λA=>?_
 rw[jK,iX];simp[A]
def Zv(r:Rl):Int:=if bK .i64 r.clear 255 !=0 then r.clear else r.ep
def GX(l:List Rn) (p:Nat):Bool:=decide ((aE l p).time>=(aO t p).min)&& !dQ (aE l p).fst
def AN(least dZ:Int) (p:Nat):Bool:=decide ((aE l p).time>=least)&&qO dZ (aE l p).fst (aE l p).cn
def Fz.Spec:Prop:=∀(l:List Rn) (s:Int),l.length=8->C.c f [.agg (aQ l),I s] (B (qP l s)) none
def GY.Spec:Prop:=∀r:Rl,C.c f [.agg r.cells] (I (Zv r)) none
def AO.Spec:Prop:=∀(l:List Rn) (s:Int),l.length=8->C.c f [.agg (aQ l),I s] (B (gQ l (aJ .i64 255 s))) none
def AP.Spec:Prop:=∀(t:Tb) (l:List Rn) (s:Int),t.Ok->l.length=8->C.c f [.agg t.cells,.agg (aQ l),I s] (B (Da s λp=>iI t (aE l p))) none
def qZ.Spec:Prop:=∀(t:Tb) (l:List Rn) (s:Int),t.Ok->l.length=8->C.c f [.agg t.cells,.agg (aQ l),I s] (I (su t l s)) none
def AQ.Spec:Prop:=∀(l:List Rn) (s least dZ:Int),l.length=8->C.c f [.agg (aQ l),I s,I least,I dZ] (I (kH (aJ .i64 (ez l 8) s) (AN l least dZ))) none
def AR.Spec:Prop:=∀(l:List Rn) (s:Int),l.length=8->C.c f [.agg (aQ l),I s] (I (A8 λp=>nw (aE l p)&& !bD s p)) none
def ri.Spec:Prop:=∀(t:Tb) (l:List Rn) (s:Int),t.Ok->l.length=8->C.c f [.agg t.cells,.agg (aQ l),I s] (I (kH (aJ .i64 (ez l 8) s) (GX t l))) none
def vH.Spec:Prop:=∀l:List Rn,l.length=8->C.c f [.agg (aQ l)] (I (A8 λp=>nw (aE l p))) none
end
section
variable{P:Program} (hm:P.follows .mixedOrders=true) {f:Nat}
include hm
theorem GY.ok(A:bu P f=some C1):GY.Spec (Pure P) f:=by
 intro r
 have q:r.cells[1]? =some (I r.clear)/\r.cells[2]? =some (I r.ep):=⟨rfl,rfl⟩
 unfold Zv;refine aj hm A [] rfl ?_;try simp only[I,B,D,RX,↓KW,seval,C1,Z.H,q]
 rcases bc (bK .i64 r.clear 255 !=0)with h|h
 all_goals
  try simp only[I,B,D,RX,↓KW,seval,h,q]
  try simp[h]
theorem AO.ok{A:Nat} (M:bu P f=some (xK A)) (hR:vl.Spec (Pure P) A):AO.Spec (Pure P) f:=by
 intro l s E
 have L:=bQ E
 have e:=Ny l (aJ .i64 255 s) (LM zR)
 refine aj hm M [] rfl ?_;try simp only[I,B,D,RX,↓KW,seval,xK,Z.H,L]
 refine af (hR l E) ?_;try simp only[I,B,D,RX,↓KW,seval]
 rw[e]
theorem Fz.ok{fI e:Nat} (hc:bu P f=some (AG fI)) (hI:gE.Spec (Pure P) fI e):Fz.Spec (Pure P) f:=by
 intro l s hl
 have cI:=hI s none (.inl rfl)
 have O:=λ(j:Nat) (x:Int) (h:(dM s)[j]? =some x)=>lP h
 have aa:=jV s
 unfold qP;rw[<-Kt];generalize dM s=q at*;refine aj hm hc [] rfl ?_;try simp only[I,B,D,RX,↓KW,seval,AG,Z.H]
 refine af cI ?_;try simp only[I,B,D,RX,↓KW,seval,dS,aT]
 refine aD (λj:Nat=>(⟨[(10,.dat (I j) none),(9,.dat (I q.length) none),(8,.dat (aI aC (dJ q)) none),(2,.ptr 4 0)],[(4,⟨aQ l,[]⟩)],[],400⟩:S)) (λj=>q.length-j) (λj=>j<=q.length/\∀x∈q.take j,dX (aE l x.toNat)=true) ?_ 0 TB ?_
 ·rintro j ⟨hj,V⟩ A back
  have hw:=aA (k:=j) ST
  try simp only[I,B,D,RX,↓KW,seval]
  rcases bc (decide ((j:Int)<(q.length:Int)))with L|L
  ·have:j=q.length:=by have:=dE L;omega
   subst this;rw[gn]at V
   have e:q.all (λp=>dX (aE l p.toNat))=true:=lj.2 V
   try simp only[I,B,D,RX,↓KW,seval,L]
   rw[e]
  have g2:j<q.length:=by have:=dC L;omega
  obtain⟨x,R⟩:∃x,q[j]? =some x:=⟨_,dT g2⟩
  obtain⟨i,rfl,hi,_⟩:=O _ _ R
  have hr:(aQ l)[i*12]? =some (I (aE l i).aH):=yB hl hi
  have E:(0<=(j:Int)/\(j:Int)<(q.length:Int))/\(0<=(i:Int)/\(i:Int)<8):=ST
  try simp only[I,B,D,RX,↓KW,seval,L,R,E,c7,aC,aT,hr]
  rcases bc ((aE l i).aH !=1)with M|M
  ·have h1:dX (aE l (i:Int).toNat)=true:=by unfold dX;simpa using M
   try simp only[I,B,D,RX,↓KW,seval,M]
   refine back (j+1) _ ⟨ST,λy E=>?_⟩ ST ?_
   ·rw[eO R,il]at E
    rcases E with E|E
    ·exact V y E
    ·rw[lm.1 E];exact h1
   refine ai Ts ?_ ?_ ?_ ?_<;>simp[LX,I,B,D,hw]
  ·have h1:dX (aE l (i:Int).toNat)=false:=by unfold dX;simpa using M
   have e:=Ku (λp=>dX (aE l p.toNat)) R h1
   try simp only[I,B,D,RX,↓KW,seval,M]
   rw[e]
 ·refine ai Ts ?_ ?_ ?_ ?_<;>simp[LX,I,B,D]
end
section
variable {k:Nat} {l:List Rn}
theorem AS(h:l.length=8) (hk:k<8):(aQ l)[k*12+1]? =some (I (aE l k).time):=by
 have:=jD (gl h hk) (j:=1) ST
 rw[this];rfl
theorem Kv(h:l.length=8) (hk:k<8):aF (aQ l) (k*12+2) (some 2)=some (.agg [I (aE l k).fst,I (aE l k).cn]):=by
 have A:=gl h hk
 have D:=c8 h
 simp only[aF]at A⊢
 rw[et ST]at A
 rw[et ST]
 have e:((aQ l).drop (k*12)).take 12=(aE l k).cells:=by
  simp only[fo,AV.agg.injEq]at A;exact A
 have B:((aQ l).drop (k*12+2)).take 2=((((aQ l).drop (k*12)).take 12).drop 2).take 2:=by
  rw[List.drop_take,List.take_take,xf];rfl
 rw[B,e];rfl
end
section
variable{P:Program} (hm:P.follows .mixedOrders=true) {f:Nat}
include hm
section
variable {e fG fI fO fW fr:Nat}
theorem Zw.ok{fR:Nat} (hc:bu P f=some (AE fr fR)) (hr:C0.Spec (Pure P) fr) (hR:vl.Spec (Pure P) fR):Ai.Spec (Pure P) f:=by
 intro t l p ht R V
 have hw:=bQ R
 have aa:=Tb.whole ht
 have M:aF (aQ l) (p*12) (some 12)=some (.agg (aE l p).cells):=gl R V
 have A:(aQ l)[p*12+1]? =some (I (aE l p).time):=AS R V
 have E:t.cells[119]? =some (I t.revert):=Tb.tail_at ht 3 ST
 have O:=ht.ln.LI V
 have hy:0<=(p:Int)/\(p:Int)<8:=ST
 have e:=Ny l (bK .i64 (gG t p) 255) (sq zR)
 rw[ac8]at e;refine aj hm hc [] rfl ?_;try simp only[I,B,D,RX,↓KW,seval,AE,Z.H,hw,aa,hy,M]
 refine af (hr _) ?_;unfold gm
 rcases bc (de (aE l p))with a1|a1
 ·try simp only[I,B,D,RX,↓KW,seval,a1]
  try simp[a1]
 rcases bc (decide ((aE l p).time>=t.revert))with L|L
 ·try simp only[I,B,D,RX,↓KW,seval,a1,L,hy,A,E]
  try simp[a1,L]
 try simp only[I,B,D,RX,↓KW,seval,a1,L,hy,A,E,O,hw]
 refine af (hR l R) ?_;try simp only[I,B,D,RX,↓KW,seval]
 simp[e,a1,L]
theorem AP.ok(hc:bu P f=some (xM fI fr)) (hI:gE.Spec (Pure P) fI e) (hr:C0.Spec (Pure P) fr):AP.Spec (Pure P) f:=by
 intro t l s ht hl
 have ak:=bQ hl
 have ad:=Tb.whole ht
 have M:t.cells[119]? =some (I t.revert):=Tb.tail_at ht 3 ST
 have cI:=hI s none (.inl rfl)
 have ab:=λ(j:Nat) (x:Int) (h:(dM s)[j]? =some x)=>lP h
 have ag:=jV s
 rw[<-Kt];generalize dM s=q at*;refine aj hm hc [] rfl ?_;try simp only[I,B,D,RX,↓KW,seval,xM,Z.H,ad]
 refine af cI ?_;try simp only[I,B,D,RX,↓KW,seval,dS,aT]
 refine aD (λj:Nat=>(⟨[(12,.dat (I j) none),(11,.dat (I q.length) none),(10,.dat (aI aC (dJ q)) none),(4,.ptr 5 0),(3,.ptr 4 0)],[(4,⟨t.cells,[]⟩),(5,⟨aQ l,[]⟩)],[],400⟩:S)) (λj=>q.length-j) (λj=>j<=q.length/\∀x∈q.take j,iI t (aE l x.toNat)=true) ?_ 0 TB ?_
 ·rintro j ⟨hj,ha⟩ A back
  have hw:=aA (k:=j) ST
  try simp only[I,B,D,RX,↓KW,seval]
  rcases bc (decide ((j:Int)<(q.length:Int)))with V|V
  ·have:j=q.length:=by have:=dE V;omega
   subst this;rw[gn]at ha
   have e:q.all (λp=>iI t (aE l p.toNat))=true:=lj.2 ha
   try simp only[I,B,D,RX,↓KW,seval,V]
   rw[e]
  have g2:j<q.length:=by have:=dC V;omega
  obtain⟨x,hx⟩:∃x,q[j]? =some x:=⟨_,dT g2⟩
  obtain⟨i,rfl,hi,_⟩:=ab _ _ hx
  have ae:(aQ l)[i*12]? =some (I (aE l i).aH):=yB hl hi
  have aa:(aQ l)[i*12+1]? =some (I (aE l i).time):=AS hl hi
  have ac:aF (aQ l) (i*12) (some 12)=some (.agg (aE l i).cells):=gl hl hi
  have E:(0<=(j:Int)/\(j:Int)<(q.length:Int))/\(0<=(i:Int)/\(i:Int)<8):=ST
  have hE:iI t (aE l (i:Int).toNat)=(!((aE l i).aH !=1)||de (aE l i)&&decide ((aE l i).time>=t.revert)):=by
   unfold iI dX;simp only[bne,Bool.not_not];rfl
  have L:iI t (aE l (i:Int).toNat)=true->∀y∈q.take (j+1),iI t (aE l y.toNat)=true:=by
   intro h1 y E;rw[eO hx,il]at E
   rcases E with E|E
   ·exact ha y E
   ·rw[lm.1 E];exact h1
  have dc:=λh1:iI t (aE l (i:Int).toNat)=false=>Ku (λp=>iI t (aE l p.toNat)) hx h1
  try simp only[I,B,D,RX,↓KW,seval,V,hx,E,c7,aC,aT,ae]
  rcases bc ((aE l i).aH !=1)with O|O
  ·rw[O]at hE
   try simp only[I,B,D,RX,↓KW,seval,O]
   refine back (j+1) _ ⟨ST,L hE⟩ ST ?_
   refine ai Ts ?_ ?_ ?_ ?_<;>simp[LX,I,B,D,hw]
  try simp only[I,B,D,RX,↓KW,seval,O,E,ac]
  refine af (hr _) ?_
  rcases bc (de (aE l i))with R|R
  ·rw[O,R]at hE
   try simp only[I,B,D,RX,↓KW,seval,R,fx,dc hE]
  rcases bc (decide ((aE l i).time>=t.revert))with c3|c3
  ·rw[O,R,c3]at hE
   try simp only[I,B,D,RX,↓KW,seval,R,c3,E,aa,M,fx,dc hE]
  ·rw[O,R,c3]at hE
   try simp only[I,B,D,RX,↓KW,seval,R,c3,E,aa,M,gs]
   refine back (j+1) _ ⟨ST,L hE⟩ ST ?_
   refine ai Ts ?_ ?_ ?_ ?_<;>simp[LX,I,B,D,hw]
 ·refine ai Ts ?_ ?_ ?_ ?_<;>simp[LX,I,B,D]
theorem qZ.ok{fM:Nat} (hc:bu P f=some (tu fI fM fW)) (hI:gE.Spec (Pure P) fI e) (hM:Ai.Spec (Pure P) fM) (hW:fJ.Spec (Pure P) fW):qZ.Spec (Pure P) f:=by
 intro t l s ht hl
 have hW:=gH hW
 have O:=bQ hl
 have M:=Tb.whole ht
 have cI:=hI s none (.inl rfl)
 have R:=λ(j:Nat) (x:Int) (h:(dM s)[j]? =some x)=>lP h
 have aa:=jV s
 unfold su;rw[<-Md]
 have hg:∀i:Nat,(λp:Int=>gm t l p.toNat) (i:Int)=gm t l i:=λi=>rfl
 generalize(λp:Int=>gm t l p.toNat)=g at*
 generalize dM s=q at*;refine aj hm hc [] rfl ?_;try simp only[I,B,D,RX,↓KW,seval,tu,Z.H,M,O]
 refine af cI ?_;try simp only[I,B,D,RX,↓KW,seval,dS,aT]
 refine aD (λj:Nat=>(⟨[(13,.dat (I j) none),(12,.dat (I q.length) none),(11,.dat (aI aC (dJ q)) none),(3,.ptr 4 0),(4,.ptr 5 0),(7,.dat (I (vE 0 g (q.take j))) none)],[(4,⟨t.cells,[]⟩),(5,⟨aQ l,[]⟩)],[],400⟩:S)) (λj=>q.length-j) (λj=>j<=q.length) ?_ 0 TB ?_
 ·rintro j hj A back
  have hw:=aA (k:=j) ST
  try simp only[I,B,D,RX,↓KW,seval]
  rcases bc (decide ((j:Int)<(q.length:Int)))with E|E
  ·have:j=q.length:=by have:=dE E;omega
   subst this;try simp only[I,B,D,RX,↓KW,seval,E]
   rw[gn]
  have g2:j<q.length:=by have:=dC E;omega
  obtain⟨x,hx⟩:∃x,q[j]? =some x:=⟨_,dT g2⟩
  obtain⟨i,rfl,hi,_⟩:=R _ _ hx
  have hn:=vF 0 g hx
  have L:=hg i
  have hy:(0<=(j:Int)/\(j:Int)<(q.length:Int))/\(0<=(i:Int)/\(i:Int)<8):=ST
  try simp only[I,B,D,RX,↓KW,seval,E,hx,hy,c7,aC,aT,M,O]
  refine af (hM t l i ht hl hi) ?_
  rcases bc (gm t l i)with V|V
  all_goals
   rw[V]at L;try simp only[I,B,D,RX,↓KW,seval,V]
   try(refine af (hW _ _) ?_;try simp only[I,B,D,RX,↓KW,seval])
   refine back (j+1) _ ST ST ?_
   refine ai Ts ?_ ?_ ?_ ?_<;>simp[LX,I,B,D,hw,hn,L]
 ·refine ai Ts ?_ ?_ ?_ ?_<;>simp[LX,I,B,D,vE]
theorem AQ.ok(hc:bu P f=some (xD fG fI fO fW)) (hG:jF.Spec (Pure P) fG) (hI:gE.Spec (Pure P) fI e) (hO:AI.Spec (Pure P) fO) (hW:fJ.Spec (Pure P) fW):AQ.Spec (Pure P) f:=by
 intro l s least dZ R
 have hW:=gH hW
 have ab:=bQ R
 have cG:=hG l R
 generalize ez l 8=G at*
 have cI:=hI (aJ .i64 G s) none (.inl rfl)
 have O:=λ(j:Nat) (x:Int) (h:(dM (aJ .i64 G s))[j]? =some x)=>lP h
 have ad:=jV (aJ .i64 G s)
 rw[<-Md]
 have hg:∀i:Nat,(λp:Int=>AN l least dZ p.toNat) (i:Int)=(decide ((aE l i).time>=least)&&qO dZ (aE l i).fst (aE l i).cn):=λi=>rfl
 generalize(λp:Int=>AN l least dZ p.toNat)=g at*
 generalize dM (aJ .i64 G s)=q at*;refine aj hm hc [] rfl ?_;try simp only[I,B,D,RX,↓KW,seval,xD,Z.H,ab]
 refine af cG ?_;try simp only[I,B,D,RX,↓KW,seval]
 refine af cI ?_;try simp only[I,B,D,RX,↓KW,seval,dS,aT]
 refine aD (λj:Nat=>(⟨[(18,.dat (I j) none),(17,.dat (I q.length) none),(16,.dat (aI aC (dJ q)) none),(4,.ptr 4 0),(2,.dat (I least) none),(3,.dat (I dZ) none),(9,.dat (I (vE 0 g (q.take j))) none)],[(4,⟨aQ l,[]⟩)],[],400⟩:S)) (λj=>q.length-j) (λj=>j<=q.length) ?_ 0 TB ?_
 ·rintro j hj A back
  have hw:=aA (k:=j) ST
  try simp only[I,B,D,RX,↓KW,seval]
  rcases bc (decide ((j:Int)<(q.length:Int)))with M|M
  ·have:j=q.length:=by have:=dE M;omega
   subst this;try simp only[I,B,D,RX,↓KW,seval,M]
   rw[gn]
  have g2:j<q.length:=by have:=dC M;omega
  obtain⟨x,hx⟩:∃x,q[j]? =some x:=⟨_,dT g2⟩
  obtain⟨i,rfl,hi,_⟩:=O _ _ hx
  have hn:=vF 0 g hx
  have E:=hg i
  have ac:(aQ l)[i*12+1]? =some (I (aE l i).time):=AS R hi
  have aa:aF (aQ l) (i*12+2) (some 2)=some (.agg [I (aE l i).fst,I (aE l i).cn]):=Kv R hi
  have hy:(0<=(j:Int)/\(j:Int)<(q.length:Int))/\(0<=(i:Int)/\(i:Int)<8):=ST
  try simp only[I,B,D,RX,↓KW,seval,M,hx,hy,c7,aC,aT,ac]
  rcases bc (decide ((aE l i).time>=least))with L|L
  ·rw[L]at E
   try simp only[I,B,D,RX,↓KW,seval,L]
   refine back (j+1) _ ST ST ?_
   refine ai Ts ?_ ?_ ?_ ?_<;>simp[LX,I,B,D,hw,hn,E]
  try simp only[I,B,D,RX,↓KW,seval,L,hy,aa]
  refine af (hO _ _ _) ?_
  rcases bc (qO dZ (aE l i).fst (aE l i).cn)with V|V
  all_goals
   rw[L,V]at E;try simp only[I,B,D,RX,↓KW,seval,V]
   try(refine af (hW _ _) ?_;try simp only[I,B,D,RX,↓KW,seval])
   refine back (j+1) _ ST ST ?_
   refine ai Ts ?_ ?_ ?_ ?_<;>simp[LX,I,B,D,hw,hn,E]
 ·refine ai Ts ?_ ?_ ?_ ?_<;>simp[LX,I,B,D,vE]
theorem ri.ok(hc:bu P f=some (tw fG fI fO fW)) (hG:jF.Spec (Pure P) fG) (hI:gE.Spec (Pure P) fI e) (hO:o9.Spec (Pure P) fO) (hW:fJ.Spec (Pure P) fW):ri.Spec (Pure P) f:=by
 intro t l s ht R
 have hW:=gH hW
 have ad:=bQ R
 have aa:=Tb.whole ht
 have cG:=hG l R
 generalize ez l 8=G at*
 have cI:=hI (aJ .i64 G s) none (.inl rfl)
 have O:=λ(j:Nat) (x:Int) (h:(dM (aJ .i64 G s))[j]? =some x)=>lP h
 have ag:=jV (aJ .i64 G s)
 rw[<-Md]
 have hg:∀i:Nat,(λp:Int=>GX t l p.toNat) (i:Int)=(decide ((aE l i).time>=(aO t i).min)&& !dQ (aE l i).fst):=λi=>rfl
 generalize(λp:Int=>GX t l p.toNat)=g at*
 generalize dM (aJ .i64 G s)=q at*;refine aj hm hc [] rfl ?_;try simp only[I,B,D,RX,↓KW,seval,tw,Z.H,ad,aa]
 refine af cG ?_;try simp only[I,B,D,RX,↓KW,seval]
 refine af cI ?_;try simp only[I,B,D,RX,↓KW,seval,dS,aT]
 refine aD (λj:Nat=>(⟨[(16,.dat (I j) none),(15,.dat (I q.length) none),(14,.dat (aI aC (dJ q)) none),(4,.ptr 5 0),(3,.ptr 4 0),(7,.dat (I (vE 0 g (q.take j))) none)],[(4,⟨t.cells,[]⟩),(5,⟨aQ l,[]⟩)],[],400⟩:S)) (λj=>q.length-j) (λj=>j<=q.length) ?_ 0 TB ?_
 ·rintro j hj A back
  have hw:=aA (k:=j) ST
  try simp only[I,B,D,RX,↓KW,seval]
  rcases bc (decide ((j:Int)<(q.length:Int)))with M|M
  ·have:j=q.length:=by have:=dE M;omega
   subst this;try simp only[I,B,D,RX,↓KW,seval,M]
   rw[gn]
  have g2:j<q.length:=by have:=dC M;omega
  obtain⟨x,hx⟩:∃x,q[j]? =some x:=⟨_,dT g2⟩
  obtain⟨i,rfl,hi,_⟩:=O _ _ hx
  have hn:=vF 0 g hx
  have E:=hg i
  have ae:(aQ l)[i*12+1]? =some (I (aE l i).time):=AS R hi
  have ac:aF (aQ l) (i*12+2) (some 2)=some (.agg [I (aE l i).fst,I (aE l i).cn]):=Kv R hi
  have ab:=Tb.pN (ht.ln.jL hi)
  have hy:(0<=(j:Int)/\(j:Int)<(q.length:Int))/\(0<=(i:Int)/\(i:Int)<8):=ST
  try simp only[I,B,D,RX,↓KW,seval,M,hx,hy,c7,aC,aT,ae,ab]
  rcases bc (decide ((aE l i).time>=(aO t i).min))with L|L
  ·rw[L]at E
   try simp only[I,B,D,RX,↓KW,seval,L]
   refine back (j+1) _ ST ST ?_
   refine ai Ts ?_ ?_ ?_ ?_<;>simp[LX,I,B,D,hw,hn,E]
  try simp only[I,B,D,RX,↓KW,seval,L,hy,ac]
  refine af (hO _ _) ?_
  rcases bc (dQ (aE l i).fst)with V|V
  all_goals
   rw[L,V]at E;try simp only[I,B,D,RX,↓KW,seval,V,gs,fx]
   try(refine af (hW _ _) ?_;try simp only[I,B,D,RX,↓KW,seval])
   refine back (j+1) _ ST ST ?_
   refine ai Ts ?_ ?_ ?_ ?_<;>simp[LX,I,B,D,hw,hn,E]
 ·refine ai Ts ?_ ?_ ?_ ?_<;>simp[LX,I,B,D,vE]
theorem AR.ok{fH:Nat} (hc:bu P f=some (xE fH fW)) (R:jm.Spec (Pure P) fH) (hW:fJ.Spec (Pure P) fW):AR.Spec (Pure P) f:=by
 intro l s hl
 have R:=mF R
 have hW:=gH hW
 have V:=bQ hl
 unfold A8
 have hg:∀i:Nat,(λp=>nw (aE l p)&& !bD s p) i=(((aE l i).fst==1)&& !bD s i):=λi=>rfl
 generalize(λp:Nat=>nw (aE l p)&& !bD s p)=g at*
 refine aj hm hc [] rfl ?_;try simp only[I,B,D,RX,↓KW,seval,xE,Z.H,V]
 refine aD (λk:Nat=>(⟨[(6,.dat (I k) none),(2,.ptr 4 0),(1,.dat (I s) none),(5,.dat (I (iH g k)) none)],[(4,⟨aQ l,[]⟩)],[],400⟩:S)) (λk=>8-k) (λk=>k<=8) ?_ 0 ST ?_
 ·intro k hk A back
  have hw:=aA (k:=k) ST
  try simp only[I,B,D,RX,↓KW,seval]
  rcases bc (decide ((k:Int)<8))with L|L
  ·have:k=8:=by have:=dE L;omega
   subst this;try simp only[I,B,D,RX,↓KW,seval,L]
  have h8:k<8:=by have:=dC L;omega
  have hf:=Nx hl h8
  have hn:iH g (k+1)=if g k then bJ (iH g k) k else iH g k:=rfl
  have E:=hg k
  have hy:0<=(k:Int)/\(k:Int)<8:=ST
  try simp only[I,B,D,RX,↓KW,seval,L,hy,hf]
  rcases bc ((aE l k).fst==1)with M|M
  ·rw[M]at E
   try simp only[I,B,D,RX,↓KW,seval,M]
   refine back (k+1) _ ST ST ?_
   refine ai Ts ?_ ?_ ?_ ?_<;>simp[LX,I,B,D,hw,hn,E]
  try simp only[I,B,D,RX,↓KW,seval,M]
  refine af (R s k) ?_
  rcases bc (bD s k)with O|O
  all_goals
   rw[M,O]at E;try simp only[I,B,D,RX,↓KW,seval,O,gs,fx]
   try(refine af (hW _ _) ?_;try simp only[I,B,D,RX,↓KW,seval])
   refine back (k+1) _ ST ST ?_
   refine ai Ts ?_ ?_ ?_ ?_<;>simp[LX,I,B,D,hw,hn,E]
 ·refine ai Ts ?_ ?_ ?_ ?_<;>simp[LX,I,B,D,iH]
theorem vH.ok{R:Nat} (hc:bu P f=some (vp R)) (hW:fJ.Spec (Pure P) R):vH.Spec (Pure P) f:=by
 intro l V
 have hW:=gH hW
 have O:=bQ V
 unfold A8
 have hg:∀i:Nat,(λp=>nw (aE l p)) i=((aE l i).fst==1):=λi=>rfl
 generalize(λp:Nat=>nw (aE l p))=g at*
 refine aj hm hc [] rfl ?_;try simp only[I,B,D,RX,↓KW,seval,vp,Z.H,O]
 refine aD (λk:Nat=>(⟨[(4,.dat (I k) none),(1,.ptr 4 0),(3,.dat (I (iH g k)) none)],[(4,⟨aQ l,[]⟩)],[],400⟩:S)) (λk=>8-k) (λk=>k<=8) ?_ 0 ST ?_
 ·intro k hk A back
  have hw:=aA (k:=k) ST
  try simp only[I,B,D,RX,↓KW,seval]
  rcases bc (decide ((k:Int)<8))with E|E
  ·have:k=8:=by have:=dE E;omega
   subst this;try simp only[I,B,D,RX,↓KW,seval,E]
  have h8:k<8:=by have:=dC E;omega
  have hf:=Nx V h8
  have hn:iH g (k+1)=if g k then bJ (iH g k) k else iH g k:=rfl
  have L:=hg k
  have hy:0<=(k:Int)/\(k:Int)<8:=ST
  try simp only[I,B,D,RX,↓KW,seval,E,hy,hf]
  rcases bc ((aE l k).fst==1)with M|M
  all_goals
   rw[M]at L;try simp only[I,B,D,RX,↓KW,seval,M]
   try(refine af (hW _ _) ?_;try simp only[I,B,D,RX,↓KW,seval])
   refine back (k+1) _ ST ST ?_
   refine ai Ts ?_ ?_ ?_ ?_<;>simp[LX,I,B,D,hw,hn,L]
 ·refine ai Ts ?_ ?_ ?_ ?_<;>simp[LX,I,B,D,iH]
end
end
end Go.Eng
