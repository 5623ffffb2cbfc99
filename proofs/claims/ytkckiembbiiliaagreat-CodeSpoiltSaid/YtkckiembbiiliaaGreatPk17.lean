/- The engine and the library,part 17 of 18: what the proofs of this seat need of them. -/
import Derived.Test.YtkckiembbiiliaaGreatPk16
set_option linter.unnecessarySimpa false
set_option linter.unusedSimpArgs false
set_option linter.unusedVariables false
set_option linter.defProp false
set_option maxRecDepth 10000
set_option maxHeartbeats 4000000
namespace Go.Eng
open Go
def CM.Spec(C:bt) (e f:Nat):Prop:=(∀c0 c1:List AV,C.d f .eH [c0,c1] [none,none] [c0,c1])/\∀(c a:Int) (c0:List AV) (x y:AV),c0.length=131->C.d f (.iface e (.agg [I c,I a])) [c0,[x,y]] [none,none] [cR.cells,[I c,I a]]
def oT.Spec(C:bt) (f:Nat):Prop:=ER.Spec C f
def Be:Cd Int:=pz 3 16777215 (by decide) (by decide)
theorem CN{l:List Int} (hb:nE l) (h:l.length=3):ff l=5784065↔l=[88,66,1]:=by
 constructor
 ·intro e
  have:=qK l hb (by omega)
  rw[e,h]at this;rw[<-this];decide+kernel
 ·rintro rfl;decide+kernel
section
variable{P:Program} (hm:P.follows .mixedOrders=true) {f:Nat}
include hm
theorem CM.ok{e:Nat} (hc:F0 P f=some (kj e)):CM.Spec (Pure P) e f:=by
 have z3:cq=cR.cells:=rfl
 have z0:cR.cells.length=131:=rfl
 have z4:∀x y u v:AV,setCells [u,v] 0 [x,y]=[x,y]:=fun _ _ _ _=>rfl
 have y3:∀x y:AV,bF [x,y] 0 (some 2)=some (.agg [x,y]):=fun _ _=>rfl
 have z1:bF cR.cells 0 (some 131)=some (.agg cR.cells):=rfl
 refine⟨fun c0 c1=>?_,fun c a c0 x y hl=>?_⟩
 ·refine nY hm hc rfl (by show 2<=12;decide) rfl (by simp) ?_
  try simp only[I,B,D,RY,aB,aC,aE,↓KW,↓aD,seval,kj,Z.H,z4,y3]
 ·have z2:setCells c0 0 cR.cells=cR.cells:=gu (by rw[hl];rfl)
  refine nY hm hc rfl (by show 2<=12;decide) rfl (by simp) ?_
  try simp only[I,B,D,RY,aB,aC,aE,↓KW,↓aD,seval,kj,Z.H,z4,y3,z3,z2,z0,z1,hl]
  refine BZ rfl ?_;try simp only[I,B,D,RY,aB,aC,aE,↓KW,↓aD,seval,z4,y3,z3,z2,z0,z1,hl]
theorem oT.ok{fD e fW fN fT fA fC fL:Nat} (hc:F3 P f=some (eN fD e fW fN fT fA fC fL)) (hD:CM.Spec (Pure P) e fD) (hW:Cl.Spec (Pure P) fW) (hN:wj.Spec (Pure P) e fN) (hT:Jc.Spec (Pure P) e fT) (hA:L8.Spec (Pure P) fA) (hC:zV.Spec (Pure P) fC) (hL:vP.Spec (Pure P) fL):oT.Spec (Pure P) f:=by
 intro b hb hB
 obtain⟨l,hl⟩:∃l,l=b.getD []:=⟨_,rfl⟩
 rw[<-hl]at hB⊢;refine DC ?_
 have z3:cq=cR.cells:=rfl
 have z0:cR.cells.length=131:=rfl
 have z1:bF cR.cells 0 (some 131)=some (.agg cR.cells):=rfl
 have z2:setCells cR.cells 0 cR.cells=cR.cells:=gu rfl
 have z4:∀x y u v:AV,setCells [u,v] 0 [x,y]=[x,y]:=fun _ _ _ _=>rfl
 have y3:∀x y:AV,bF [x,y] 0 (some 2)=some (.agg [x,y]):=fun _ _=>rfl
 by_cases h1:l.length>2048
 ·have e:lS l=(cR,1,0):=by unfold lS;rw[if_pos h1]
  rw[e]
  have s1:decide (2048<(l.length:Int))=true:=by simp;omega
  refine ie hm hc (by show 1<=47;decide) rfl (by simp) (ic (keep:=[]) ?_)
  try simp only[I,B,D,RY,aB,aC,aE,↓KW,↓aD,seval,eN,Z.H,List.map_cons,List.map_nil,<-hl,z3,z0,z1,z2,s1,qP]
  refine fZ rfl (gM (hD.2 _ _ _ _ _ z0) rfl rfl rfl ?_);try simp only[I,B,D,RY,aB,aC,aE,↓KW,↓aD,seval,z3,z0,z1,z2,z4,y3,qP]
 have s1:decide (2048<(l.length:Int))=false:=by simp;omega
 have hok:(aY.mk b 0 0 0).Ok:=⟨by show(0:Int)<=0;omega,by show(0:Int)<=((b.getD []).length:Int);omega,by show((b.getD []).length:Int)<=1000000;omega⟩
 have hby:(aY.mk b 0 0 0).nE:=by show nE (b.getD []);rw[<-hl];exact hB
 have hrl:(aY.mk b 0 0 0).rest'=l:=by show(b.getD []).drop 0=l;rw[<-hl];rfl
 obtain⟨n,r0,e0⟩:∃n r0,Be.m ⟨b,0,0,0⟩=(n,r0):=⟨_,_,rfl⟩
 have k0:r0.Ok:=by have:=Be.ok _ hok;rw[e0]at this;exact this
 have p0:=(hN 3 16777215 (by decide) (by decide)).step hok rfl e0
 have cW:=hW b hb
 by_cases h2:l.length<3
 ·have e:lS l=(cR,2,(l.length:Int)):=by unfold lS;rw[if_neg h1,if_pos h2]
  rw[e]
  have hn:r0.code=2/\r0.Ip=l.length:=by
   have hm':Be.m ⟨b,0,0,0⟩=(0,⟨b,0,2,l.length⟩):=by
    have:(aY.mk b 0 0 0).len=l.length:=by show((b.getD []).length:Int)=_;rw[<-hl]
    show eW ⟨b,0,0,0⟩ (3:Nat) 0 16777215=_
    simp only[eW,CB (show 3<=7 by decide),this]
    rw[if_pos (by simp;omega)]
    simp[aY.fail]
   rw[hm']at e0;cases e0;exact⟨rfl,rfl⟩
  obtain⟨cs,q0⟩:=p0.2 (by rw[hn.1];decide)
  refine ie hm hc (by show 1<=47;decide) rfl (by simp) (ic (keep:=[]) ?_)
  try simp only[I,B,D,RY,aB,aC,aE,↓KW,↓aD,seval,eN,Z.H,List.map_cons,List.map_nil,<-hl,z3,z0,z1,z2,s1,qP]
  refine jy cW ?_;try simp only[I,B,D,RY,aB,aC,aE,↓KW,↓aD,seval,bf,aY.cells]
  refine⟨rfl,aA q0 ?_⟩;try simp only[I,B,D,RY,aB,aC,aE,↓KW,↓aD,seval,bf,up,aY.fault,hn]
  refine fZ rfl (gM (hD.2 _ _ _ _ _ z0) rfl rfl rfl ?_);try simp only[I,B,D,RY,aB,aC,aE,↓KW,↓aD,seval,z3,z0,z1,z2,z4,y3,qP]
 have h3l:((l.take 3).length)=3:=by simp;omega
 have hB3:nE (l.take 3):=fun x hx=>hB x (List.mem_of_mem_take hx)
 have hin:=wM hB3 (by omega)
 rw[h3l,show(256:Int)^3=16777216 by decide]at hin
 have hm':Be.m ⟨b,0,0,0⟩=(ff (l.take 3),⟨b,3,0,0⟩):=by
  have h4:(aY.mk b 0 0 0).len=l.length:=by show((b.getD []).length:Int)=_;rw[<-hl]
  show eW ⟨b,0,0,0⟩ (3:Nat) 0 16777215=_
  simp only[eW,CB (show 3<=7 by decide),h4,oc _ hok,hrl,bq (n:=ff (l.take 3)) (by omega) (by omega)]
  rw[if_neg (by simp;omega),if_neg (by omega)]
  rfl
 rw[hm']at e0;cases e0
 have p0:=p0.1 rfl
 by_cases h3:l.take 3≠[88,66,1]
 ·have e:lS l=(cR,3,0):=by unfold lS;rw[if_neg h1,if_neg h2,if_pos h3]
  rw[e]
  have s3:(ff (l.take 3) !=5784065)=true:=by simp only[bne_iff_ne,ne_eq];rw[CN hB3 h3l];exact h3
  refine ie hm hc (by show 1<=47;decide) rfl (by simp) (ic (keep:=[]) ?_)
  try simp only[I,B,D,RY,aB,aC,aE,↓KW,↓aD,seval,eN,Z.H,List.map_cons,List.map_nil,<-hl,z3,z0,z1,z2,s1,qP]
  refine jy cW ?_;try simp only[I,B,D,RY,aB,aC,aE,↓KW,↓aD,seval,bf,aY.cells]
  refine⟨rfl,aq p0 ?_⟩;try simp only[I,B,D,RY,aB,aC,aE,↓KW,↓aD,seval,bf,s3,aY.cells]
  refine fZ rfl (gM (hD.2 _ _ _ _ _ z0) rfl rfl rfl ?_);try simp only[I,B,D,RY,aB,aC,aE,↓KW,↓aD,seval,z3,z0,z1,z2,z4,y3,qP]
 have h3':l.take 3=[88,66,1]:=Classical.not_not.1 h3
 have s3:(ff (l.take 3) !=5784065)=false:=by rw[bne_eq_false_iff_eq,CN hB3 h3l];exact h3'
 have hbl:b=some l:=by
  cases b with
  |none=>exfalso;rw[hl]at h2;simp at h2
  |some y=>rw[show l=y from hl]
 obtain⟨t,r1,e1⟩:∃t r1,o6.m ⟨b,3,0,0⟩=(t,r1):=⟨_,_,rfl⟩
 have k1:r1.Ok:=by have:=o6.ok _ k0;rw[e1]at this;exact this
 have hr1:r1.b=some l:=by have:=o6.keep ⟨b,3,0,0⟩;rw[e1]at this;rw[<-hbl];exact this
 have hln:t.Ln:=by have:=Qj ⟨b,3,0,0⟩;rw[e1]at this;exact this
 have p1:=pF.step hT k0 rfl e1
 obtain⟨s,r2,e2⟩:∃s r2,qO.m r1=(s,r2):=⟨_,_,rfl⟩
 have k2:r2.Ok:=by have:=qO.ok _ k1;rw[e2]at this;exact this
 have hr2:r2.b=some l:=by have:=qO.keep r1;rw[e2]at this;rw[<-hr1];exact this
 have hd:lS l=if r2.code≠0 then(cR,r2.code,r2.Ip)else if s≠((kZ 0xffff#16 (l.take r1.fm.toNat)).toNat:Int)then(cR,5,r1.fm)else if r2.fm<l.length then(cR,6,r2.fm)else(t,0,0):=by
  unfold lS;rw[if_neg h1,if_neg h2,if_neg h3];rw[hbl]at e1;simp only[e1,e2]
 have hlen:=hln.len
 have hwh:=hln.whole
 have y1:setCells cR.cells 0 t.cells=t.cells:=gu (by rw[hlen];rfl)
 have y2:setCells t.cells 0 t.cells=t.cells:=gu rfl
 have hat:0<=r1.fm/\r1.fm<=(l.length:Int):=⟨k1.1,by have:=k1.2.1;rw[aY.len,hr1]at this;exact this⟩
 by_cases z5:r1.code=0
 rotate_left
 ·obtain⟨cs,q1⟩:=p1.2 z5
  have hst:=qO.stay r1 z5
  rw[e2]at hst;simp only at hst;subst hst;rw[hd,if_pos z5]
  refine ie hm hc (by show 1<=47;decide) rfl (by simp) (ic (keep:=[]) ?_)
  try simp only[I,B,D,RY,aB,aC,aE,↓KW,↓aD,seval,eN,Z.H,List.map_cons,List.map_nil,<-hl,z3,z0,z1,z2,s1,qP]
  refine jy cW ?_;try simp only[I,B,D,RY,aB,aC,aE,↓KW,↓aD,seval,bf,aY.cells]
  refine⟨rfl,aq p0 ?_⟩;try simp only[I,B,D,RY,aB,aC,aE,↓KW,↓aD,seval,bf,s3,aY.cells]
  refine⟨rfl,aA q1 ?_⟩;try simp only[I,B,D,RY,aB,aC,aE,↓KW,↓aD,seval,bf,up,aY.fault]
  refine fZ rfl (gM (hD.2 _ _ _ _ _ z0) rfl rfl rfl ?_);try simp only[I,B,D,RY,aB,aC,aE,↓KW,↓aD,seval,z3,z0,z1,z2,z4,y3,qP]
 have p1:=p1.1 z5
 have p2:=(hN 2 65535 (by decide) (by decide)).step k1 z5 e2
 by_cases z6:r2.code=0
 rotate_left
 ·obtain⟨cs,q2⟩:=p2.2 z6
  rw[hd,if_pos z6]
  refine ie hm hc (by show 1<=47;decide) rfl (by simp) (ic (keep:=[]) ?_)
  try simp only[I,B,D,RY,aB,aC,aE,↓KW,↓aD,seval,eN,Z.H,List.map_cons,List.map_nil,<-hl,z3,z0,z1,z2,s1,qP]
  refine jy cW ?_;try simp only[I,B,D,RY,aB,aC,aE,↓KW,↓aD,seval,bf,aY.cells]
  refine⟨rfl,aq p0 ?_⟩;try simp only[I,B,D,RY,aB,aC,aE,↓KW,↓aD,seval,bf,s3,aY.cells]
  refine⟨rfl,aq p1 ?_⟩;try simp only[I,B,D,RY,aB,aC,aE,↓KW,↓aD,seval,bf,y1,hlen,z0]
  refine⟨rfl,aq (hA r1) ?_⟩;try simp only[I,B,D,RY,aB,aC,aE,↓KW,↓aD,seval,bf,y1,hlen,z0]
  refine xS rfl ?_;try simp only[I,B,D,RY,aB,aC,aE,↓KW,↓aD,seval,bf]
  refine⟨rfl,mh q2 ?_⟩;try simp only[I,B,D,RY,aB,aC,aE,↓KW,↓aD,seval,bf,up,aY.fault]
  refine⟨by rw[<-hl];exact hat,fun _ _=>rfl,?_⟩
  refine fZ rfl (gM (hD.2 _ _ _ _ _ hlen) rfl rfl rfl ?_);try simp only[I,B,D,RY,aB,aC,aE,↓KW,↓aD,seval,z3,z0,z1,z2,z4,y3,qP]
 have p2:=p2.1 z6
 rw[hd,if_neg (by simp[z6])]
 have cC:=hC (some (l.take r1.fm.toNat)) (by simp;rw[<-hl]at hb;omega) (fun x hx=>hB x (List.mem_of_mem_take hx))
 rw[Option.getD_some]at cC
 have hcut:C5 (aJ gP (some l)) (List.map gP l) 0 r1.fm=aJ gP (some (l.take r1.fm.toNat)):=by simp[C5,aJ,List.map_take]
 obtain⟨w,hw⟩:∃w,w=kZ 0xffff#16 (l.take r1.fm.toNat):=⟨_,rfl⟩
 rw[<-hw]at cC⊢
 have hwr:IntKind.i64.wrap (w.toNat:Int)=w.toNat:=lA (by omega) (by have:=w.isLt;omega)
 refine ie hm hc (by show 1<=47;decide) rfl (by simp) (ic (keep:=[]) ?_)
 try simp only[I,B,D,RY,aB,aC,aE,↓KW,↓aD,seval,eN,Z.H,List.map_cons,List.map_nil,<-hl,z3,z0,z1,z2,s1,qP]
 refine jy cW ?_;try simp only[I,B,D,RY,aB,aC,aE,↓KW,↓aD,seval,bf,aY.cells]
 refine⟨rfl,aq p0 ?_⟩;try simp only[I,B,D,RY,aB,aC,aE,↓KW,↓aD,seval,bf,s3,aY.cells]
 refine⟨rfl,aq p1 ?_⟩;try simp only[I,B,D,RY,aB,aC,aE,↓KW,↓aD,seval,bf,y1,hlen,z0]
 refine⟨rfl,aq (hA r1) ?_⟩;try simp only[I,B,D,RY,aB,aC,aE,↓KW,↓aD,seval,bf,y1,hlen,z0]
 refine xR rfl ?_;try simp only[I,B,D,RY,aB,aC,aE,↓KW,↓aD,seval,bf]
 refine⟨rfl,bg p2 ?_⟩;try simp only[I,B,D,RY,aB,aC,aE,↓KW,↓aD,seval,bf,<-hl]
 refine⟨hat,fun _ _=>rfl,?_⟩
 rw[hbl,hcut];refine aj cC ?_;try simp only[I,B,D,RY,aB,aC,aE,↓KW,↓aD,seval,bf,U,hwr]
 by_cases q2:s=(w.toNat:Int)
 ·have q2':(s !=(w.toNat:Int))=false:=by simp[q2]
  rw[if_neg (by simp[q2])]
  have cL:=hL r2 k2
  have hr2l:r2.len=l.length:=by rw[aY.len,hr2];rfl
  rw[hr2l]at cL;try simp only[I,B,D,RY,aB,aC,aE,↓KW,↓aD,seval,bf,q2']
  refine⟨rfl,aq cL ?_⟩
  by_cases q3:r2.fm<l.length
  ·have q3':decide ((l.length:Int)-r2.fm>0)=true:=by simp;omega
   rw[if_pos q3];try simp only[I,B,D,RY,aB,aC,aE,↓KW,↓aD,seval,bf,q3']
   refine⟨rfl,aq (hA r2) ?_⟩;try simp only[I,B,D,RY,aB,aC,aE,↓KW,↓aD,seval,bf]
   refine fZ rfl (gM (hD.2 _ _ _ _ _ hlen) rfl rfl rfl ?_);try simp only[I,B,D,RY,aB,aC,aE,↓KW,↓aD,seval,z3,z0,z1,z2,z4,y3,qP]
  ·have q3':decide ((l.length:Int)-r2.fm>0)=false:=by simp;omega
   rw[if_neg q3];try simp only[I,B,D,RY,aB,aC,aE,↓KW,↓aD,seval,bf,q3',hwh,hlen,y1,y2,z0,z1,z2,z4,y3,qP]
   refine gM (hD.1 _ _) rfl rfl rfl ?_;try simp only[I,B,D,RY,aB,aC,aE,↓KW,↓aD,seval,z3,z0,z1,z2,z4,y3,qP,hlen,hwh]
 ·have q2':(s !=(w.toNat:Int))=true:=by simp[q2]
  rw[if_pos q2];try simp only[I,B,D,RY,aB,aC,aE,↓KW,↓aD,seval,bf,q2']
  refine fZ rfl (gM (hD.2 _ _ _ _ _ hlen) rfl rfl rfl ?_);try simp only[I,B,D,RY,aB,aC,aE,↓KW,↓aD,seval,z3,z0,z1,z2,z4,y3,qP]
end
def ct(k:Nat) (l:List Int):List Int:=l.flatMap fun n=>mJ n k
def oe(l:List Nat):List Int:=l.flatMap fun(x:Nat)=>mJ (IntKind.i64.wrap (x:Int)) 8
def ew(l:List Bool):List Int:=l.map DL
def kn(b:Option (List Int)) (x:List Int):Option (List Int):=if x=[]then b else some (b.getD []++x)
def Wr.Spec(α:Type) (row:α->List AV) (pre:List (Option AV)) (by':List α->List Int) (C:bt) (f:Nat):Prop:=∀(b:Option (List Int)) (o:Option (List α)) (l:List α),o.getD []=l->l.length<=1000000->(b.getD []).length+(by' l).length<=1000000->C.p f [[aJ gP b]] (none::pre++[some (aJ row o)]) (.o7 []) none [[aJ gP (kn b (by' l))]]
def vU.Spec(C:bt) (f:Nat):Prop:=∀k:Nat,1<=k->k<=8->Wr.Spec Int aG [some (I k)] (ct k) C f
def zX.Spec(C:bt) (f:Nat):Prop:=Wr.Spec Bool (fun b=>[B b]) [] (fun l=>ct 1 (ew l)) C f
def zY.Spec(C:bt) (f:Nat):Prop:=Wr.Spec Nat (fun x=>[Fl x]) [] oe C f
theorem CP(b:Option (List Int)) (x y:List Int):kn (kn b x) y=kn b (x++y):=by
 unfold kn
 by_cases hx:x=[]
 ·subst hx;simp
 ·by_cases hy:y=[]
  ·subst hy;simp[hx]
  ·simp[hx,hy]
theorem og(b:Option (List Int)) (x:List Int):(kn b x).getD []=b.getD []++x:=by
 unfold kn
 by_cases hx:x=[]
 ·subst hx;simp
 ·simp[hx]
theorem Mh(l:List Int) {k:Nat} (h:k<=8) (n:Int):DD l k n=l++mJ n k:=by
 have:(kU (k:Int) 0 8).toNat=k:=by unfold kU;split<;>(try split)<;>omega
 unfold DD;rw[this]
theorem Jd(k:Nat) (l m:List Int):ct k (l++m)=ct k l++ct k m:=by simp[ct]
theorem br(k:Nat) (l:List Int):(ct k l).length=k*l.length:=by
 induction l with
 |nil=>simp[ct]
 |cons x l ih=>
  have:ct k (x::l)=mJ x k++ct k l:=by simp[ct]
  rw[this,List.length_append,eP,ih,List.length_cons,Nat.mul_succ];omega
theorem CQ{b:Option (List Int)} {x:List Int} {k:Nat} (h1:1<=k) (h:k<=8) (n:Int):AV.sl ((DD ((kn b x).getD []) k n).map gP)=aJ gP (kn b (x++mJ n k)):=by
 have hn:mJ n k≠[]:=by intro e;have:=congrArg List.length e;rw[eP]at this;simp at this;omega
 rw[Mh _ h,og];unfold kn
 rw[if_neg (by simp[hn])]
 simp[aJ]
theorem Gg{k:Nat} {l:List Int} {i:Nat} {x:Int} (h:l[i]? =some x):ct k (l.take (i+1))=ct k (l.take i)++mJ x k:=by
 rw[List.take_add_one,h];simp[ct]
theorem Mi(k:Nat) (l:List Int) (i:Nat):(ct k (l.take i)).length<=(ct k l).length:=by
 rw[br,br,List.length_take];exact Nat.mul_le_mul_left k (Nat.min_le_right _ _)
theorem Gh{l:List Nat} {i:Nat} {x:Nat} (h:l[i]? =some x):oe (l.take (i+1))=oe (l.take i)++mJ (IntKind.i64.wrap (x:Int)) 8:=by
 rw[List.take_add_one,h];simp[oe]
theorem ei(l:List Nat):(oe l).length=8*l.length:=by
 induction l with
 |nil=>simp[oe]
 |cons x l ih=>
  have:oe (x::l)=mJ (IntKind.i64.wrap (x:Int)) 8++oe l:=by simp[oe]
  rw[this,List.length_append,eP,ih,List.length_cons];omega
def zZ.Spec(C:bt) (f:Nat):Prop:=∀(b:Option (List Int)) (l:Option (List Int)),(b.getD []).length+(l.getD []).length<=900000->C.p f [[aJ gP b]] [none,some (aJ aG l)] (.o7 []) none [[aJ gP (kn b (lR.e (l.getD [])))]]
theorem Je(l:List Int):lR.e l=ct 1 [(l.length:Int)]++ct 1 l:=by
 unfold lR;rw[yB];simp[ct,dV,pz]
section
variable{P:Program} (hm:P.follows .mixedOrders=true) {f:Nat}
include hm
theorem vU.ok{fP:Nat} (hc:dY P f=some (lE fP)) (hP:DE.Spec (Pure P) fP):vU.Spec (Pure P) f:=by
 intro k k1 k8 b o l ho hl hb
 refine fK hm hc (by show 3<=25;decide) rfl (by simp) (ay (keep:=[]) (i:=0) ?_)
 try simp only[I,B,D,RX,↓KW,seval,lE,Z.H,List.cons_append,List.nil_append,ho]
 refine aP (fun i:Nat=>(⟨[(10,.dat (I i) none),(9,.dat (I l.length) none),(8,.dat (aJ aG o) none),(2,.dat (aJ aG o) none),(1,.dat (I k) none),(0,.ptr 0 0)],[(0,⟨[aJ gP (kn b (ct k (l.take i)))],[]⟩)],[],400⟩:S)) (fun i=>l.length-i) (fun i=>i<=l.length) ?_ 0 (by omega) ?_
 ·intro i hi A back
  have hw:=aN (k:=i) (by omega)
  try simp only[I,B,D,RX,↓KW,seval]
  refine ax (fun h=>?_) (fun h=>?_)<;>try simp only[I,B,D,RX,↓KW,seval,h]
  ·have h3:i<l.length:=by have:=of_decide_eq_true h;omega
   obtain⟨x,hx⟩:∃x,l[i]? =some x:=⟨l[i],by simp[h3]⟩
   have hle:=Mi k l i
   have cP:=hP (kn b (ct k (l.take i))) k x (by rw[og,List.length_append];omega)
   rw[CQ k1 k8,<-Gg hx]at cP
   have hb2:(0:Int)<=(i:Int)/\(i:Int)<(l.length:Int):=by omega
   have u1:∀v w:AV,setCells [v] 0 [w]=[w]:=fun _ _=>rfl
   try simp only[I,B,D,RX,↓KW,seval,ho,hx,hb2,aG]
   refine aj cP ?_;try simp only[I,B,D,RX,↓KW,seval,u1,bB,eU]
   refine back (i+1) _ (by omega) (by omega) (ai (by decide) ?_ ?_ ?_ ?_)<;>simp[LX,I,B,D,hw]
  ·have h3:i=l.length:=by have:=of_decide_eq_false h;omega
   subst h3;try simp only[I,B,D,RX,↓KW,seval,List.take_length]
 ·have z9:kn b (ct k [])=b:=by simp[ct,kn]
  refine ai (by decide) ?_ ?_ ?_ ?_<;>simp[LX,I,B,D,z9]
theorem zY.ok{fP:Nat} (hc:dY P f=some (j0 fP)) (hP:Cm.Spec (Pure P) fP):zY.Spec (Pure P) f:=by
 intro b o l ho hl hb
 refine fK hm hc (by show 2<=22;decide) rfl (by simp) (ay (keep:=[]) (i:=0) ?_)
 try simp only[I,B,D,RX,↓KW,seval,j0,Z.H,List.cons_append,List.nil_append,ho]
 refine aP (fun i:Nat=>(⟨[(8,.dat (I i) none),(7,.dat (I l.length) none),(6,.dat (aJ (fun x=>[Fl x]) o) none),(1,.dat (aJ (fun x=>[Fl x]) o) none),(0,.ptr 0 0)],[(0,⟨[aJ gP (kn b (oe (l.take i)))],[]⟩)],[],400⟩:S)) (fun i=>l.length-i) (fun i=>i<=l.length) ?_ 0 (by omega) ?_
 ·intro i hi A back
  have hw:=aN (k:=i) (by omega)
  try simp only[I,B,D,RX,↓KW,seval]
  refine ax (fun h=>?_) (fun h=>?_)<;>try simp only[I,B,D,RX,↓KW,seval,h]
  ·have h3:i<l.length:=by have:=of_decide_eq_true h;omega
   obtain⟨x,hx⟩:∃x,l[i]? =some x:=⟨l[i],by simp[h3]⟩
   have hle:(oe (l.take i)).length<=(oe l).length:=by rw[ei,ei,List.length_take];omega
   have cP:=hP (kn b (oe (l.take i))) x (by rw[og,List.length_append];omega)
   have ps:=CQ (b:=b) (x:=oe (l.take i)) (k:=8) (by omega) (by omega) (IntKind.i64.wrap (x:Int))
   rw[show((8:Nat):Int)=8 from rfl]at ps
   rw[ps,<-Gh hx]at cP
   have hb2:(0:Int)<=(i:Int)/\(i:Int)<(l.length:Int):=by omega
   have u1:∀v w:AV,setCells [v] 0 [w]=[w]:=fun _ _=>rfl
   try simp only[I,B,D,RX,↓KW,seval,ho,hx,hb2,Fl]
   refine aj cP ?_;try simp only[I,B,D,RX,↓KW,seval,u1,bB,eU]
   refine back (i+1) _ (by omega) (by omega) (ai (by decide) ?_ ?_ ?_ ?_)<;>simp[LX,I,B,D,hw]
  ·have h3:i=l.length:=by have:=of_decide_eq_false h;omega
   subst h3;try simp only[I,B,D,RX,↓KW,seval,List.take_length]
 ·have z9:kn b (oe [])=b:=by simp[oe,kn]
  refine ai (by decide) ?_ ?_ ?_ ?_<;>simp[LX,I,B,D,z9]
theorem zX.ok{fP e:Nat} (hc:dY P f=some (jt e fP)) (hP:vU.Spec (Pure P) fP):zX.Spec (Pure P) f:=by
 intro b o l ho hl hb
 refine fK hm hc (by show 2<=19;decide) rfl (by simp) (ay (keep:=[]) (i:=0) ?_)
 try simp only[I,B,D,RX,↓KW,seval,jt,Z.H,List.cons_append,List.nil_append,ho]
 refine aP (fun i:Nat=>(⟨[(9,.dat (I i) none),(8,.dat (I l.length) none),(7,.dat (aJ (fun b=>[B b]) o) none),(1,.dat (aJ (fun b=>[B b]) o) none),(0,.ptr 0 0)],[(0,⟨[aJ gP (kn b (ct 1 (ew (l.take i))))],[]⟩)],[],400⟩:S)) (fun i=>l.length-i) (fun i=>i<=l.length) ?_ 0 (by omega) ?_
 ·intro i hi A back
  have hw:=aN (k:=i) (by omega)
  try simp only[I,B,D,RX,↓KW,seval]
  refine ax (fun h=>?_) (fun h=>?_)<;>try simp only[I,B,D,RX,↓KW,seval,h]
  ·have h3:i<l.length:=by have:=of_decide_eq_true h;omega
   obtain⟨x,hx⟩:∃x,l[i]? =some x:=⟨l[i],by simp[h3]⟩
   have hx2:ew (l.take (i+1))=ew (l.take i)++[DL x]:=by rw[List.take_add_one,hx];simp[ew]
   have hle:(ct 1 (ew (l.take i))).length+1<=(ct 1 (ew l)).length:=by rw[br,br];simp only[ew,List.length_map,List.length_take];omega
   have cP:=hP 1 (by omega) (by omega) (kn b (ct 1 (ew (l.take i)))) (some [DL x]) [DL x] rfl (by simp) (by rw[og,List.length_append,br 1 [DL x]];simp only[List.length_singleton];simp only at hb;omega)
   rw[CP,<-Jd,<-hx2]at cP
   have hb2:(0:Int)<=(i:Int)/\(i:Int)<(l.length:Int):=by omega
   try simp only[I,B,D,RX,↓KW,seval,ho,hx,hb2]
   cases x with
   |true=>
    try simp only[I,B,D,RX,↓KW,seval]
    refine⟨rfl,bg cP ?_⟩;try simp only[I,B,D,RX,↓KW,seval]
    refine back (i+1) _ (by omega) (by omega) (ai (by decide) ?_ ?_ ?_ ?_)<;>simp[LX,I,B,D,hw]
   |false=>
    try simp only[I,B,D,RX,↓KW,seval]
    refine⟨rfl,bg cP ?_⟩;try simp only[I,B,D,RX,↓KW,seval]
    refine back (i+1) _ (by omega) (by omega) (ai (by decide) ?_ ?_ ?_ ?_)<;>simp[LX,I,B,D,hw]
  ·have h3:i=l.length:=by have:=of_decide_eq_false h;omega
   subst h3;try simp only[I,B,D,RX,↓KW,seval,List.take_length]
 ·have z9:kn b (ct 1 (ew []))=b:=by simp[ct,kn,ew]
  refine ai (by decide) ?_ ?_ ?_ ?_<;>simp[LX,I,B,D,z9]
theorem zZ.ok{fP e:Nat} (hc:dY P f=some (ju e fP)) (hP:vU.Spec (Pure P) fP):zZ.Spec (Pure P) f:=by
 intro b l hb
 refine fK hm hc (by show 2<=12;decide) rfl (by simp) (ay (keep:=[]) (i:=0) ?_)
 try simp only[I,B,D,RX,↓KW,seval,ju,Z.H]
 have c1:=hP 1 (by omega) (by omega) b (some [((l.getD []).length:Int)]) [((l.getD []).length:Int)] rfl (by simp) (by rw[br];simp;omega)
 have c2:=hP 1 (by omega) (by omega) (kn b (ct 1 [((l.getD []).length:Int)])) l _ rfl (by omega) (by rw[og,List.length_append,br,br];simp;omega)
 rw[CP]at c2;refine⟨rfl,bg c1 ?_⟩;try simp only[I,B,D,RX,↓KW,seval]
 refine⟨rfl,bg c2 ?_⟩;try simp only[I,B,D,RX,↓KW,seval,Je]
end
structure Rd where
 lock:List Int
 was:Int
 CR:Int
 deriving Inhabited,DecidableEq
def Rd.cells(s:Rd):List AV:=s.lock.map I++[I s.was,I s.CR]
structure Rn where
 qG:Int
 time:Int
 fst:Int
 yu:Int
 left:Int
 UI:Int
 extra:Int
 done:Bool
 UJ:Bool
 limit:Int
 up:Int
 down:Int
 deriving Inhabited,DecidableEq
def Rn.cells(r:Rn):List AV:=[I r.qG,I r.time,I r.fst,I r.yu,I r.left,I r.UI,I r.extra,B r.done,B r.UJ,I r.limit,I r.up,I r.down]
theorem Rn.len(r:Rn):r.cells.length=12:=rfl
def Jf(l:List Rn):List AV:=l.flatMap Rn.cells
theorem Gi{l:List Rn} (h:l.length=8):(Jf l).length=96:=by rw[Jf,aV Rn.len,h]
def DO(s:Rd) (k:Nat):Int:=s.lock.getD k 0
def UK(t:Tb):Nat:=min (t.bS.getD []).length 4
theorem Rd.len{s:Rd} (h:s.lock.length=4):s.cells.length=6:=by simp[Rd.cells,h]
theorem Rd.whole{s:Rd} (h:s.lock.length=4):bF s.cells 0 (some 6)=some (.agg s.cells):=by
 have:=Rd.len h
 simp[bF,this];rw[<-this,List.take_length]
def Sh.UM(s:Sh) (k:Nat) (x:Int):Sh:={s with time:=s.time.set k x}
section
variable{s:Sh} (h:s.Ok) {k:Nat} (hk:k<8) (x:Int)
include h
theorem Sh.yU:(s.UM k x).Ok:=⟨h.qG,by simp[Sh.UM,h.time],h.kT,h.yu⟩
include hk
end
structure Vr where
 group:Int
 a0:Int
 a1:Int
 UN:Bool
 deriving Inhabited,DecidableEq
def Vr.cells(r:Vr):List AV:=[I r.group,I r.a0,I r.a1,B r.UN]
structure Pr where
 UO:Int
 which:Int
 time:Int
 held:List Int
 CR:Int
 deriving Inhabited,DecidableEq
def Pr.cells(p:Pr):List AV:=I p.UO::I p.which::I p.time::(p.held.map I++[I p.CR])
structure Ch where
 on:Bool
 dr:Int
 Xi:Int
 Wp:Int
 held:Int
 tail:Int
 out:Bool
 deriving Inhabited,DecidableEq
def Ch.cells(c:Ch):List AV:=[B c.on,I c.dr,I c.Xi,I c.Wp,I c.held,I c.tail,B c.out]
structure Mj where
 runs:List Rn
 rings:Vr
 UP:Rd
 pre:Pr
 calls:Cs
 UQ:Option (List Ch)
 deriving Inhabited,DecidableEq
def Mj.cells(s:Mj):List AV:=Jf s.runs++(s.rings.cells++(s.UP.cells++(s.pre.cells++(s.calls.cells++[aJ Ch.cells s.UQ]))))
structure Mj.Ok (s:Mj):Prop where
 runs:s.runs.length=8
 lock:s.UP.lock.length=4
 held:s.pre.held.length=4
section
variable{s:Mj} (h:s.Ok)
include h
theorem Mj.len:s.cells.length=117:=by
 simp[Mj.cells,Gi h.runs,Vr.cells,Rd.cells,Pr.cells,Cs.cells,h.lock,h.held]
theorem Mj.whole:bF s.cells 0 (some 117)=some (.agg s.cells):=by
 have:=Mj.len h
 simp[bF,this];rw[<-this,List.take_length]
end
theorem Jg{s:Int} {p:Nat} (hp:p<8) (i:Nat):tb (iO s p) i=(decide (i<8)&&(tb s i||decide (i=p))):=by
 rw[iO,MR]
 by_cases h:i<8
 ·have:((i:Int)∈jc s++[(p:Int)])↔(tb s i=true\/i=p):=by
   simp only[jc,jL,List.mem_append,List.mem_filter,List.mem_map,List.mem_range,List.mem_singleton];rw[Mb h];constructor
   ·rintro(⟨_,h2⟩|h2)
    ·exact .inl h2
    ·exact .inr (by omega)
   ·rintro(h2|h2)
    ·exact .inl ⟨⟨i,h,rfl⟩,h2⟩
    ·exact .inr (by omega)
  simp[h,this]
 ·simp[h]
structure Xj (t:Tb) (s:Rd):Prop where
 len:s.lock.length=4
 CR:s.CR=0
 lo:∀k,0<=DO s k/\DO s k<=30
 off:∀k,UK t<=k->DO s k=0
 was:∀k,tb s.was k=true->k<UK t
structure Mn where
 last:List Int
 ticks:List Int
 deriving Inhabited,DecidableEq
def Mn.cells(m:Mn):List AV:=m.last.map I++m.ticks.map I
structure Mn.Ok (m:Mn):Prop where
 last:m.last.length=8
 ticks:m.ticks.length=8
theorem Mn.len{m:Mn} (h:m.Ok):m.cells.length=16:=by simp[Mn.cells,h.last,h.ticks]
theorem Mn.whole{m:Mn} (h:m.Ok):bF m.cells 0 (some 16)=some (.agg m.cells):=by
 have:=Mn.len h
 simp[bF,this];rw[<-this,List.take_length]
structure Xk (t:Tb) (m:Mn) (l:List Int):Prop where
 t:t.Ln
 m:m.Ok
 l:l.length=8
def Tb.nm(t:Tb):Tb:={t with groups:=some ((t.groups.getD []).map fun g=>⟨some (g.a.getD []),some (g.b.getD [])⟩),aI:=some (t.aI.getD []),aZ:=some (t.aZ.getD []),bS:=some (t.bS.getD [])}
def Jh(t u:Tb):Bool:=decide (t.nm=u.nm)
def iG(t:Tb):List Int:=[88,66,1]++o6.e t
def j4(b:List Int):List Int:=b++mJ ((kZ 0xffff#16 b).toNat:Int) 2
def CS(t:Tb):AV:=if oP t=true then .o7 [aJ gP (some (j4 (iG t))),I 0]else .o7 [aJ gP none,I 4]
def oU.Spec(C:bt) (f:Nat):Prop:=∀t:Tb,t.Ln->t.Fw->C.c f [.agg t.cells] (CS t) none
theorem rG(L x:List Int):kn (some L) x=some (L++x):=by
 unfold kn
 by_cases hx:x=[]
 ·subst hx;simp
 ·simp[hx]
def Wq(α:Type) (row:α->List AV) (pre:List (Option AV)) (by':List α->List Int) (C:bt) (f:Nat):Prop:=∀(L:List Int) (o:Option (List α)) (l:List α),o.getD []=l->l.length<=1000->L.length<=5000->C.p f [[aJ gP (some L)]] (none::pre++[some (aJ row o)]) (.o7 []) none [[aJ gP (some (L++by' l))]]
theorem j5{C:bt} {f:Nat} (h:vU.Spec C f) (k:Nat) (h1:1<=k) (h8:k<=8):Wq Int aG [some (I k)] (ct k) C f:=by
 intro L o l ho hl hL
 have:=h k h1 h8 (some L) o l ho (by omega) (by rw[br,Option.getD_some];have:k*l.length<=8*1000:=Nat.mul_le_mul h8 hl;omega)
 rw[rG]at this;exact this
theorem UR{C:bt} {f:Nat} (h:zX.Spec C f):Wq Bool (fun b=>[B b]) [] (fun l=>ct 1 (ew l)) C f:=by
 intro L o l ho hl hL
 have:=h (some L) o l ho (by omega) (by simp only[br,Option.getD_some,ew,List.length_map];omega)
 rw[rG]at this;exact this
theorem Ws{C:bt} {f:Nat} (h:zY.Spec C f):Wq Nat (fun x=>[Fl x]) [] oe C f:=by
 intro L o l ho hl hL
 have:=h (some L) o l ho (by omega) (by rw[ei,Option.getD_some];omega)
 rw[rG]at this;exact this
theorem US{C:bt} {f:Nat} (h:zZ.Spec C f) (L:List Int) (l:Option (List Int)) (hl:(l.getD []).length<=1000) (hL:L.length<=5000):C.p f [[aJ gP (some L)]] [none,some (aJ aG l)] (.o7 []) none [[aJ gP (some (L++lR.e (l.getD [])))]]:=by
 have:=h (some L) l (by rw[Option.getD_some];omega)
 rw[rG]at this;exact this
theorem MT(p:Ph):zS.e p=ct 1 (ew [p.on])++(ct 2 [p.min,p.B5,p.max,p.top,p.step,p.d8,p.red,p.walk,p.ep]++(ct 1 [p.gY]++ct 1 (ew [p.lock,p.rest]))):=by
 simp only[ct,ew,List.map_cons,List.map_nil,List.flatMap_cons,List.flatMap_nil,List.append_nil,List.append_assoc];rfl
theorem MU(g:Gr):CD.e g=lR.e (g.a.getD [])++lR.e (g.b.getD []):=rfl
theorem Ji(d:gQ):qL.e d=ct 1 [d.phase]++(oe [d.on,d.off,d.delay,d.extend]++ct 2 [d.maxOn,d.kS]):=by
 simp only[ct,oe,List.flatMap_cons,List.flatMap_nil,List.append_nil,List.append_assoc];rfl
theorem MV(r:Rl):CE.e r=ct 1 [r.bars,r.clear,r.jK,r.exit]++(ct 2 [r.delay,r.green,r.kT,r.hold,r.stay,r.most]++ct 4 [r.limit]):=by
 simp only[ct,List.flatMap_cons,List.flatMap_nil,List.append_nil,List.append_assoc];rfl
theorem MW(r:Bs):CF.e r=ct 1 [r.set]++ct 2 [r.lock]:=by
 simp only[ct,List.flatMap_cons,List.flatMap_nil,List.append_nil,List.append_assoc];rfl
theorem MX{t:Tb} (h:t.Ln):o6.e t=t.phases.flatMap zS.e++(ct 1 [((t.groups.getD []).length:Int)]++((t.groups.getD []).flatMap CD.e++(ct 1 t.conflict++(ct 1 [((t.aI.getD []).length:Int)]++((t.aI.getD []).flatMap qL.e++
  (ct 1 [((t.aZ.getD []).length:Int)]++((t.aZ.getD []).flatMap CE.e++(ct 1 [((t.bS.getD []).length:Int)]++((t.bS.getD []).flatMap CF.e++(ct 2 [t.extend,t.dB,t.start,t.revert,t.least]++(ct 1 t.bA++ct 4 [t.d9,t.share]))))))))))):=by
 have e:o6.e t=(zS.rep 8).e t.phases++(y9.e (t.groups.getD [])++((kL.rep 8).e t.conflict++(nj.e (t.aI.getD [])++(rL.e (t.aZ.getD [])++(pE.e (t.bS.getD [])++(aQ.e t.extend++(aQ.e t.dB++(aQ.e t.start++(aQ.e t.revert++(aQ.e t.least++
  (((dV 2 (by decide)).rep 8).e t.bA++(dO.e t.d9++dO.e t.share)))))))))))):=rfl
 rw[e,CA _ _ _ h.phases,CA _ _ _ h.conflict,CA _ _ _ h.bA];unfold y9 nj rL pE;rw[yB,yB,yB,yB];simp only[ct,List.flatMap_cons,List.flatMap_nil,List.append_nil,List.append_assoc];rfl
theorem ET{α:Type} (row:α->List AV) (z:Nat) (hz:∀a,(row a).length=z):∀(l:List α) (i:Nat) (x:α),l[i]? =some x->bF (l.flatMap row) (i*z) (some z)=some (.agg (row x))
 |[],i,x,h=>by simp at h
 |y::l,0,x,h=>by
  have e:y=x:=by simpa using h
  subst e
  have:=B6 (pre:=[]) (mid:=row y) (post:=l.flatMap row) (off:=0) (z:=z) rfl (hz y)
  simpa using this
 |y::l,i+1,x,h=>by
  have ih:=ET row z hz l i x (by simpa using h)
  rw[List.flatMap_cons,Nat.succ_mul];simp only[bF]at ih⊢;rw[List.length_append,hz]
  have:(row y++l.flatMap row).drop (i*z+z)=(l.flatMap row).drop (i*z):=by rw[Nat.add_comm,<-List.drop_drop,List.drop_left' (hz y)]
  rw[this]
  by_cases hc:i*z+z<=(l.flatMap row).length
  ·rw[if_pos hc]at ih;rw[if_pos (by omega)];exact ih
  ·rw[if_neg hc]at ih;cases ih
theorem ux{α:Type} {e:α->List Int} {l:List α} {i:Nat} {x:α} (h:l[i]? =some x) (S:List Int):S++(l.take (i+1)).flatMap e=(S++(l.take i).flatMap e)++e x:=by
 rw[List.take_add_one,h,List.append_assoc];simp
theorem iY{α:Type} {e:α->List Int} {z:Nat}:∀{l:List α} (_:∀x∈l,(e x).length<=z) (i:Nat),((l.take i).flatMap e).length<=z*l.length
 |[],_,i=>by simp
 |x::l,h,0=>by simp
 |x::l,h,i+1=>by
  have h1:=h x List.mem_cons_self
  have h2:=iY (l:=l) (fun y hy=>h y (List.mem_cons_of_mem _ hy)) i
  rw[List.take_succ_cons,List.flatMap_cons,List.length_append,List.length_cons,Nat.mul_succ];omega
theorem Bf(p:Ph):(zS.e p).length=22:=by rw[MT];simp[br,ew]
theorem yH(p:gQ):(qL.e p).length=37:=by rw[Ji];simp[br,ei]
theorem Bg(p:Rl):(CE.e p).length=20:=by rw[MV];simp[br]
theorem Bh(p:Bs):(CF.e p).length=3:=by rw[MW];simp[br]
theorem uy(l:List Int):(lR.e l).length=1+l.length:=by rw[Je];simp[br]
theorem Bi{g:Gr} (h:ni g=true):(CD.e g).length<=18:=by
 simp only[ni,kY,Bool.and_eq_true,decide_eq_true_eq]at h;rw[MU,List.length_append,uy,uy]
 have h1:=h.1.1
 have h2:=h.2.1
 omega
theorem Aa{g:Gr} (h:ni g=true):(g.a.getD []).length<=8/\(g.b.getD []).length<=8:=by
 simp only[ni,kY,Bool.and_eq_true,decide_eq_true_eq]at h
 have h1:=h.1.1
 have h2:=h.2.1
 omega
theorem oh(t:Tb):nE (iG t):=by
 intro x hx
 rcases List.mem_append.1 hx with hx|hx
 ·have:x=88\/x=66\/x=1:=by simpa using hx
  omega
 ·exact o6.Mc t x hx
section
variable{P:Program} (hm:P.follows .mixedOrders=true) {f:Nat}
include hm
theorem oU.ok{fM eI fP eB fY fW eF fF fC:Nat} (hc:dY P f=some (jT fM eI fP eB fY fW eF fF fC)) (hM:Ga.Spec (Pure P) fM) (hP:vU.Spec (Pure P) fP) (hY:zX.Spec (Pure P) fY) (hW:zZ.Spec (Pure P) fW) (hF:zY.Spec (Pure P) fF) (hC:zV.Spec (Pure P) fC):oU.Spec (Pure P) f:=by
 intro t h hfw
 have cM:=hM t h hfw
 have hl:=h.len
 have hw:=h.whole
 by_cases hmay:oP t=true
 rotate_left
 ·have hb:oP t=false:=by simpa using hmay
  have e:CS t=.o7 [aJ gP none,I 4]:=by unfold CS;rw[if_neg hmay]
  rw[e];rw[hb]at cM
  refine aH hm hc (by show 1<=236;decide) (ay (keep:=[1,4,7,10,13]) (i:=0) ?_)
  try simp only[I,B,D,RY,↓KW,seval,jT,Z.H,hl,hw]
  refine aj cM ?_;try simp only[I,B,D,RY,↓KW,seval,hl,hw]
  rfl
 rw[hmay]at cM
 have e:CS t=.o7 [aJ gP (some (j4 (iG t))),I 0]:=by unfold CS;rw[if_pos hmay]
 have hmay2:=hmay
 simp only[oP,Bool.and_eq_true,List.all_eq_true,decide_eq_true_eq]at hmay2;obtain⟨⟨⟨⟨⟨⟨⟨⟨_,hg1,hg2⟩,_⟩,hd1,_⟩,hr1,_⟩,hb1,_⟩,_⟩,_⟩,_⟩:=hmay2
 have g1:=IV h
 have g2:=h.EF
 have g3:=h.Ct
 have g4:=h.EG
 obtain⟨n1,n2,n3,n4,n5,n6,n7⟩:=EK h
 have dg1:=dH g1
 have dg2:=dH g2
 have dg3:=dH g3
 have dg4:=dH g4
 have dn1:=dH n1
 have dn2:=dH n2
 have dn3:=dH n3
 have dn4:=dH n4
 have dn5:=dH n5
 have dn6:=dH n6
 have dn7:=dH n7
 have k2:=IT h
 have k3:=IU h
 rw[e]
 have u1:∀v w:AV,setCells [v] 0 [w]=[w]:=fun _ _=>rfl
 refine aH hm hc (by show 1<=236;decide) (ay (keep:=[1,4,7,10,13]) (i:=0) ?_)
 try simp only[I,B,D,RY,↓KW,seval,jT,Z.H,hl,hw]
 refine aj cM ?_;try simp only[I,B,D,RY,↓KW,seval,hl,hw]
 have c0:=hP 3 (by omega) (by omega) none (some [5784065]) [5784065] rfl (by decide) (by decide)
 obtain⟨S0,hS0⟩:∃S:List Int,S=[88,66,1]:=⟨_,rfl⟩
 have z0:kn none (ct 3 [5784065])=some S0:=by rw[hS0];decide+kernel
 have l0:S0.length<=3:=by rw[hS0];decide
 rw[z0]at c0;refine⟨rfl,bg c0 ?_⟩;try simp only[I,B,D,RY,↓KW,seval,hl,hw]
 have hph:t.cells.take 104=t.phases.flatMap Ph.cells:=List.take_left' (by rw[aV Ph.len,h.phases])
 have hp8:=h.phases
 try simp only[I,B,D,RY,↓KW,seval,hl,hw,hph]
 have z13:eE.length=13:=rfl
 have u2:∀p:Gr,setCells [AV.bI,AV.bI] 0 p.cells=p.cells:=fun p=>rfl
 have z11:eY.length=11:=rfl
 have u11:∀p:Rl,setCells eY 0 p.cells=p.cells:=fun p=>gu rfl
 have u7:∀p:gQ,setCells [.int .i64 0,.float .f64 0,.float .f64 0,.float .f64 0,.float .f64 0,.int .i64 0,.int .i64 0] 0 p.cells=p.cells:=fun p=>gu rfl
 have u2b:∀p:Bs,setCells [.int .i64 0,.int .i64 0] 0 p.cells=p.cells:=fun p=>gu rfl
 have u13:∀p:Ph,setCells eE 0 p.cells=p.cells:=fun p=>gu rfl
 refine iu (.exit 0) (fun _:Unit=>(⟨[(1,.ptr 4 0),(4,.ptr 11 0)],[(11,⟨[aJ gP (some (S0++(t.phases).flatMap zS.e))],[]⟩),(4,⟨t.cells,[]⟩)],[],400⟩:S)) (fun _=>True) (fun _=>rfl) ?_ ?_
 ·refine aP (fun i:Nat=>(⟨[(25,.dat (I i) none),(24,.dat (.agg (t.phases.flatMap Ph.cells)) none),(1,.ptr 4 0),(4,.ptr 11 0)],[(11,⟨[aJ gP (some (S0++((t.phases).take i).flatMap zS.e))],[]⟩),(4,⟨t.cells,[]⟩)],[],400⟩:S)) (fun i=>8-i) (fun i=>i<=8) ?_ 0 (by omega) ?_
  ·intro i hi A back
   have hwi:=aN (k:=i) (by omega)
   have hlen:=iY (e:=zS.e) (z:=22) (l:=t.phases) (fun x _=>by rw[Bf];omega) i
   rw[h.phases]at hlen;try simp only[I,B,D,RY,↓KW,seval]
   refine ax (fun h2=>?_) (fun h2=>?_)<;>try simp only[I,B,D,RY,↓KW,seval,h2]
   ·have h3:i<8:=by have:=of_decide_eq_true h2;omega
    obtain⟨p,hp⟩:∃x,(t.phases)[i]? =some x:=⟨(t.phases)[i]'(by omega),List.getElem?_eq_getElem _⟩
    have hn:=ux (e:=zS.e) hp S0
    obtain⟨L,hL⟩:∃L,L=S0++((t.phases).take i).flatMap zS.e:=⟨_,rfl⟩
    have hL2:L.length<=179:=by rw[hL,List.length_append];omega
    have hb2:(0:Int)<=(i:Int)/\(i:Int)<8:=by omega
    have hpa:=ET Ph.cells 13 Ph.len t.phases i p hp
    have w1:=u13 p
    simp only[Ph.cells,I,B,Fl]at w1;rw[<-hL,MT]at hn;rw[<-hL]
    have c0:=UR hY (L) (some [p.on]) [p.on] rfl (Nat.le_of_ble_eq_true rfl) (by first|omega|(simp only[List.length_append,br,ei,ew,List.length_map,List.length_cons,List.length_nil];omega))
    have c1:=j5 hP 2 (by omega) (by omega) ((L)++(fun l=>ct 1 (ew l)) [p.on]) (some [p.min,p.B5,p.max,p.top,p.step,p.d8,p.red,p.walk,p.ep]) [p.min,p.B5,p.max,p.top,p.step,p.d8,p.red,p.walk,p.ep] rfl (Nat.le_of_ble_eq_true rfl) (by first|omega|(simp only[List.length_append,br,ei,ew,List.length_map,List.length_cons,List.length_nil];omega))
    have c2:=j5 hP 1 (by omega) (by omega) (((L)++(fun l=>ct 1 (ew l)) [p.on])++ct 2 [p.min,p.B5,p.max,p.top,p.step,p.d8,p.red,p.walk,p.ep]) (some [p.gY]) [p.gY] rfl (Nat.le_of_ble_eq_true rfl) (by first|omega|(simp only[List.length_append,br,ei,ew,List.length_map,List.length_cons,List.length_nil];omega))
    have c3:=UR hY ((((L)++(fun l=>ct 1 (ew l)) [p.on])++ct 2 [p.min,p.B5,p.max,p.top,p.step,p.d8,p.red,p.walk,p.ep])++ct 1 [p.gY]) (some [p.lock,p.rest]) [p.lock,p.rest] rfl (Nat.le_of_ble_eq_true rfl) (by first|omega|(simp only[List.length_append,br,ei,ew,List.length_map,List.length_cons,List.length_nil];omega))
    try simp only[List.append_assoc]at c0
    try simp only[List.append_assoc]at c1
    try simp only[List.append_assoc]at c2
    try simp only[List.append_assoc]at c3
    try simp only[I,B,D,RY,↓KW,seval,hb2,z13,Ph.len,hpa]
    try simp only[I,B,D,RY,↓KW,seval,w1,Ph.cells]
    refine⟨rfl,bg c0 ?_⟩;try simp only[I,B,D,RY,↓KW,seval,w1,Ph.cells]
    refine⟨rfl,bg c1 ?_⟩;try simp only[I,B,D,RY,↓KW,seval,w1,Ph.cells]
    refine⟨rfl,bg c2 ?_⟩;try simp only[I,B,D,RY,↓KW,seval,w1,Ph.cells]
    refine⟨rfl,bg c3 ?_⟩;try simp only[I,B,D,RY,↓KW,seval,w1,Ph.cells]
    refine back (i+1) _ (by omega) (by omega) ?_
    refine ai (by decide) ?_ ?_ ?_ ?_<;>simp[LX,I,B,D,hwi,hn,cK]
   ·have h3:i=8:=by have:=of_decide_eq_false h2;omega
    have ht:(t.phases).take i=t.phases:=by rw[h3];exact List.take_of_length_le (by omega)
    refine cu () trivial ?_
    refine ai (by decide) ?_ ?_ ?_ ?_<;>simp[LX,I,B,D,ht,cK]
  ·refine ai (by decide) ?_ ?_ ?_ ?_<;>simp[LX,I,B,D,cK]
 ·intro _ _
  obtain⟨S1,hS1⟩:∃S,S=S0++(t.phases).flatMap zS.e:=⟨_,rfl⟩
  rw[<-hS1]
  have lS1:S1.length<=179:=by rw[hS1,List.length_append];have:=iY (e:=zS.e) (z:=22) (l:=t.phases) (fun x _=>by rw[Bf];omega) (t.phases).length;rw[List.take_length]at this;omega
  have c:=j5 hP 1 (by omega) (by omega) S1 (some [((t.groups.getD []).length:Int)]) [((t.groups.getD []).length:Int)] rfl (Nat.le_of_ble_eq_true rfl) (by omega)
  try simp only[I,B,D,RY,↓KW,seval,hl,g1,dg1]
  refine⟨rfl,bg c ?_⟩
  obtain⟨S2,hS2⟩:∃S,S=S1++ct 1 [((t.groups.getD []).length:Int)]:=⟨_,rfl⟩
  have lS2:S2.length<=180:=by rw[hS2,List.length_append,br];simp only[List.length_cons,List.length_nil,h.conflict,h.bA];omega
  rw[<-hS2];try simp only[I,B,D,RY,↓KW,seval,hl,g1,dg1]
  refine iu (.exit 2) (fun _:Unit=>(⟨[(1,.ptr 4 0),(4,.ptr 11 0)],[(11,⟨[aJ gP (some (S2++(t.groups.getD []).flatMap CD.e))],[]⟩),(4,⟨t.cells,[]⟩)],[],400⟩:S)) (fun _=>True) (fun _=>rfl) ?_ ?_
  ·refine aP (fun i:Nat=>(⟨[(76,.dat (I i) none),(75,.dat (I ((t.groups.getD []).length:Int)) none),(74,.dat (aJ Gr.cells t.groups) none),(1,.ptr 4 0),(4,.ptr 11 0)],[(11,⟨[aJ gP (some (S2++((t.groups.getD []).take i).flatMap CD.e))],[]⟩),(4,⟨t.cells,[]⟩)],[],400⟩:S)) (fun i=>(t.groups.getD []).length-i) (fun i=>i<=(t.groups.getD []).length) ?_ 0 (by omega) ?_
   ·intro i hi A back
    have hwi:=aN (k:=i) (by omega)
    have hlen:=iY (e:=CD.e) (z:=18) (l:=t.groups.getD []) (fun x hx=>Bi (hg2 x hx)) i
    skip;try simp only[I,B,D,RY,↓KW,seval]
    refine ax (fun h2=>?_) (fun h2=>?_)<;>try simp only[I,B,D,RY,↓KW,seval,h2]
    ·have h3:i<(t.groups.getD []).length:=by have:=of_decide_eq_true h2;omega
     obtain⟨p,hp⟩:∃x,(t.groups.getD [])[i]? =some x:=⟨(t.groups.getD [])[i]'(by omega),List.getElem?_eq_getElem _⟩
     have hn:=ux (e:=CD.e) hp S2
     obtain⟨L,hL⟩:∃L,L=S2++((t.groups.getD []).take i).flatMap CD.e:=⟨_,rfl⟩
     have hL2:L.length<=252:=by rw[hL,List.length_append];omega
     have hb2:(0:Int)<=(i:Int)/\(i:Int)<((t.groups.getD []).length:Int):=by omega
     have hpl:=Aa (hg2 p (List.mem_of_getElem? hp))
     have w1:=u2 p
     simp only[Gr.cells,I,B,Fl]at w1;rw[<-hL,MU]at hn;rw[<-hL]
     have c0:=US hW (L) p.a (by omega) (by first|omega|(simp only[List.length_append,br,uy];omega))
     have c1:=US hW ((L)++lR.e (p.a.getD [])) p.b (by omega) (by first|omega|(simp only[List.length_append,br,uy];omega))
     try simp only[List.append_assoc]at c0
     try simp only[List.append_assoc]at c1
     try simp only[I,B,D,RY,↓KW,seval,hb2,hp]
     try simp only[I,B,D,RY,↓KW,seval,w1,Gr.cells]
     refine⟨rfl,bg c0 ?_⟩;try simp only[I,B,D,RY,↓KW,seval,w1,Gr.cells]
     refine⟨rfl,bg c1 ?_⟩;try simp only[I,B,D,RY,↓KW,seval,w1,Gr.cells]
     refine back (i+1) _ (by omega) (by omega) ?_
     refine ai (by decide) ?_ ?_ ?_ ?_<;>simp[LX,I,B,D,hwi,hn,cK]
    ·have h3:i=(t.groups.getD []).length:=by have:=of_decide_eq_false h2;omega
     have ht:(t.groups.getD []).take i=t.groups.getD []:=by rw[h3];exact List.take_of_length_le (by omega)
     refine cu () trivial ?_
     refine ai (by decide) ?_ ?_ ?_ ?_<;>simp[LX,I,B,D,ht,cK]
   ·refine ai (by decide) ?_ ?_ ?_ ?_<;>simp[LX,I,B,D,cK]
  ·intro _ _
   obtain⟨S3,hS3⟩:∃S,S=S2++(t.groups.getD []).flatMap CD.e:=⟨_,rfl⟩
   rw[<-hS3]
   have lS3:S3.length<=252:=by rw[hS3,List.length_append];have:=iY (e:=CD.e) (z:=18) (l:=t.groups.getD []) (fun x hx=>Bi (hg2 x hx)) (t.groups.getD []).length;rw[List.take_length]at this;omega
   have c:=j5 hP 1 (by omega) (by omega) S3 (some t.conflict) t.conflict rfl (by rw[h.conflict];omega) (by omega)
   try simp only[I,B,D,RY,↓KW,seval,hl,k2,List.length_drop]
   refine⟨rfl,bg c ?_⟩
   obtain⟨S4,hS4⟩:∃S,S=S3++ct 1 t.conflict:=⟨_,rfl⟩
   have lS4:S4.length<=260:=by rw[hS4,List.length_append,br];simp only[List.length_cons,List.length_nil,h.conflict,h.bA];omega
   rw[<-hS4];try simp only[I,B,D,RY,↓KW,seval,hl,g2,dg2]
   have c:=j5 hP 1 (by omega) (by omega) S4 (some [((t.aI.getD []).length:Int)]) [((t.aI.getD []).length:Int)] rfl (Nat.le_of_ble_eq_true rfl) (by omega)
   try simp only[I,B,D,RY,↓KW,seval,hl,g2,dg2]
   refine⟨rfl,bg c ?_⟩
   obtain⟨S5,hS5⟩:∃S,S=S4++ct 1 [((t.aI.getD []).length:Int)]:=⟨_,rfl⟩
   have lS5:S5.length<=261:=by rw[hS5,List.length_append,br];simp only[List.length_cons,List.length_nil,h.conflict,h.bA];omega
   rw[<-hS5];try simp only[I,B,D,RY,↓KW,seval,hl,g2,dg2]
   refine iu (.exit 4) (fun _:Unit=>(⟨[(1,.rp t.cells),(4,.ptr 11 0)],[(11,⟨[aJ gP (some (S5++(t.aI.getD []).flatMap qL.e))],[]⟩)],[],400⟩:S)) (fun _=>True) (fun _=>rfl) ?_ ?_
   ·refine aP (fun i:Nat=>(⟨[(102,.dat (I i) none),(101,.dat (I ((t.aI.getD []).length:Int)) none),(100,.dat (aJ gQ.cells t.aI) none),(1,.rp t.cells),(4,.ptr 11 0)],[(11,⟨[aJ gP (some (S5++((t.aI.getD []).take i).flatMap qL.e))],[]⟩)],[],400⟩:S)) (fun i=>(t.aI.getD []).length-i) (fun i=>i<=(t.aI.getD []).length) ?_ 0 (by omega) ?_
    ·intro i hi A back
     have hwi:=aN (k:=i) (by omega)
     have hlen:=iY (e:=qL.e) (z:=37) (l:=t.aI.getD []) (fun x _=>by rw[yH];omega) i
     skip;try simp only[I,B,D,RY,↓KW,seval]
     refine ax (fun h2=>?_) (fun h2=>?_)<;>try simp only[I,B,D,RY,↓KW,seval,h2]
     ·have h3:i<(t.aI.getD []).length:=by have:=of_decide_eq_true h2;omega
      obtain⟨p,hp⟩:∃x,(t.aI.getD [])[i]? =some x:=⟨(t.aI.getD [])[i]'(by omega),List.getElem?_eq_getElem _⟩
      have hn:=ux (e:=qL.e) hp S5
      obtain⟨L,hL⟩:∃L,L=S5++((t.aI.getD []).take i).flatMap qL.e:=⟨_,rfl⟩
      have hL2:L.length<=853:=by rw[hL,List.length_append];omega
      have hb2:(0:Int)<=(i:Int)/\(i:Int)<((t.aI.getD []).length:Int):=by omega
      skip
      have w1:=u7 p
      simp only[gQ.cells,I,B,Fl]at w1;rw[<-hL,Ji]at hn;rw[<-hL]
      have c0:=j5 hP 1 (by omega) (by omega) (L) (some [p.phase]) [p.phase] rfl (Nat.le_of_ble_eq_true rfl) (by first|omega|(simp only[List.length_append,br,ei,ew,List.length_map,List.length_cons,List.length_nil];omega))
      have c1:=Ws hF ((L)++ct 1 [p.phase]) (some [p.on,p.off,p.delay,p.extend]) [p.on,p.off,p.delay,p.extend] rfl (Nat.le_of_ble_eq_true rfl) (by first|omega|(simp only[List.length_append,br,ei,ew,List.length_map,List.length_cons,List.length_nil];omega))
      have c2:=j5 hP 2 (by omega) (by omega) (((L)++ct 1 [p.phase])++oe [p.on,p.off,p.delay,p.extend]) (some [p.maxOn,p.kS]) [p.maxOn,p.kS] rfl (Nat.le_of_ble_eq_true rfl) (by first|omega|(simp only[List.length_append,br,ei,ew,List.length_map,List.length_cons,List.length_nil];omega))
      try simp only[List.append_assoc]at c0
      try simp only[List.append_assoc]at c1
      try simp only[List.append_assoc]at c2
      try simp only[I,B,D,RY,↓KW,seval,hb2,hp]
      try simp only[I,B,D,RY,↓KW,seval,w1,gQ.cells]
      refine⟨rfl,bg c0 ?_⟩;try simp only[I,B,D,RY,↓KW,seval,w1,gQ.cells]
      refine⟨rfl,bg c1 ?_⟩;try simp only[I,B,D,RY,↓KW,seval,w1,gQ.cells]
      refine⟨rfl,bg c2 ?_⟩;try simp only[I,B,D,RY,↓KW,seval,w1,gQ.cells]
      refine back (i+1) _ (by omega) (by omega) ?_
      refine ai (by decide) ?_ ?_ ?_ ?_<;>simp[LX,I,B,D,hwi,hn,cK]
     ·have h3:i=(t.aI.getD []).length:=by have:=of_decide_eq_false h2;omega
      have ht:(t.aI.getD []).take i=t.aI.getD []:=by rw[h3];exact List.take_of_length_le (by omega)
      refine cu () trivial ?_
      refine ai (by decide) ?_ ?_ ?_ ?_<;>simp[LX,I,B,D,ht,cK]
    ·refine ai (by decide) ?_ ?_ ?_ ?_<;>simp[LX,I,B,D,cK]
   ·intro _ _
    obtain⟨S6,hS6⟩:∃S,S=S5++(t.aI.getD []).flatMap qL.e:=⟨_,rfl⟩
    rw[<-hS6]
    have lS6:S6.length<=853:=by rw[hS6,List.length_append];have:=iY (e:=qL.e) (z:=37) (l:=t.aI.getD []) (fun x _=>by rw[yH];omega) (t.aI.getD []).length;rw[List.take_length]at this;omega
    try simp only[I,B,D,RY,↓KW,seval,hl,g3,dg3]
    have c:=j5 hP 1 (by omega) (by omega) S6 (some [((t.aZ.getD []).length:Int)]) [((t.aZ.getD []).length:Int)] rfl (Nat.le_of_ble_eq_true rfl) (by omega)
    try simp only[I,B,D,RY,↓KW,seval,hl,g3,dg3]
    refine⟨rfl,bg c ?_⟩
    obtain⟨S7,hS7⟩:∃S,S=S6++ct 1 [((t.aZ.getD []).length:Int)]:=⟨_,rfl⟩
    have lS7:S7.length<=854:=by rw[hS7,List.length_append,br];simp only[List.length_cons,List.length_nil,h.conflict,h.bA];omega
    rw[<-hS7];try simp only[I,B,D,RY,↓KW,seval,hl,g3,dg3]
    refine iu (.exit 6) (fun _:Unit=>(⟨[(1,.rp t.cells),(4,.ptr 11 0)],[(11,⟨[aJ gP (some (S7++(t.aZ.getD []).flatMap CE.e))],[]⟩)],[],400⟩:S)) (fun _=>True) (fun _=>rfl) ?_ ?_
    ·refine aP (fun i:Nat=>(⟨[(139,.dat (I i) none),(138,.dat (I ((t.aZ.getD []).length:Int)) none),(137,.dat (aJ Rl.cells t.aZ) none),(1,.rp t.cells),(4,.ptr 11 0)],[(11,⟨[aJ gP (some (S7++((t.aZ.getD []).take i).flatMap CE.e))],[]⟩)],[],400⟩:S)) (fun i=>(t.aZ.getD []).length-i) (fun i=>i<=(t.aZ.getD []).length) ?_ 0 (by omega) ?_
     ·intro i hi A back
      have hwi:=aN (k:=i) (by omega)
      have hlen:=iY (e:=CE.e) (z:=20) (l:=t.aZ.getD []) (fun x _=>by rw[Bg];omega) i
      skip;try simp only[I,B,D,RY,↓KW,seval]
      refine ax (fun h2=>?_) (fun h2=>?_)<;>try simp only[I,B,D,RY,↓KW,seval,h2]
      ·have h3:i<(t.aZ.getD []).length:=by have:=of_decide_eq_true h2;omega
       obtain⟨p,hp⟩:∃x,(t.aZ.getD [])[i]? =some x:=⟨(t.aZ.getD [])[i]'(by omega),List.getElem?_eq_getElem _⟩
       have hn:=ux (e:=CE.e) hp S7
       obtain⟨L,hL⟩:∃L,L=S7++((t.aZ.getD []).take i).flatMap CE.e:=⟨_,rfl⟩
       have hL2:L.length<=934:=by rw[hL,List.length_append];omega
       have hb2:(0:Int)<=(i:Int)/\(i:Int)<((t.aZ.getD []).length:Int):=by omega
       skip
       have w1:=u11 p
       simp only[Rl.cells,I,B,Fl]at w1;rw[<-hL,MV]at hn;rw[<-hL]
       have c0:=j5 hP 1 (by omega) (by omega) (L) (some [p.bars,p.clear,p.jK,p.exit]) [p.bars,p.clear,p.jK,p.exit] rfl (Nat.le_of_ble_eq_true rfl) (by first|omega|(simp only[List.length_append,br,ei,ew,List.length_map,List.length_cons,List.length_nil];omega))
       have c1:=j5 hP 2 (by omega) (by omega) ((L)++ct 1 [p.bars,p.clear,p.jK,p.exit]) (some [p.delay,p.green,p.kT,p.hold,p.stay,p.most]) [p.delay,p.green,p.kT,p.hold,p.stay,p.most] rfl (Nat.le_of_ble_eq_true rfl) (by first|omega|(simp only[List.length_append,br,ei,ew,List.length_map,List.length_cons,List.length_nil];omega))
       have c2:=j5 hP 4 (by omega) (by omega) (((L)++ct 1 [p.bars,p.clear,p.jK,p.exit])++ct 2 [p.delay,p.green,p.kT,p.hold,p.stay,p.most]) (some [p.limit]) [p.limit] rfl (Nat.le_of_ble_eq_true rfl) (by first|omega|(simp only[List.length_append,br,ei,ew,List.length_map,List.length_cons,List.length_nil];omega))
       try simp only[List.append_assoc]at c0
       try simp only[List.append_assoc]at c1
       try simp only[List.append_assoc]at c2
       try simp only[I,B,D,RY,↓KW,seval,hb2,hp,z11]
       try simp only[I,B,D,RY,↓KW,seval,w1,Rl.cells,z11]
       refine⟨rfl,bg c0 ?_⟩;try simp only[I,B,D,RY,↓KW,seval,w1,Rl.cells,z11]
       refine⟨rfl,bg c1 ?_⟩;try simp only[I,B,D,RY,↓KW,seval,w1,Rl.cells,z11]
       refine⟨rfl,bg c2 ?_⟩;try simp only[I,B,D,RY,↓KW,seval,w1,Rl.cells,z11]
       refine back (i+1) _ (by omega) (by omega) ?_
       refine ai (by decide) ?_ ?_ ?_ ?_<;>simp[LX,I,B,D,hwi,hn,cK]
      ·have h3:i=(t.aZ.getD []).length:=by have:=of_decide_eq_false h2;omega
       have ht:(t.aZ.getD []).take i=t.aZ.getD []:=by rw[h3];exact List.take_of_length_le (by omega)
       refine cu () trivial ?_
       refine ai (by decide) ?_ ?_ ?_ ?_<;>simp[LX,I,B,D,ht,cK]
     ·refine ai (by decide) ?_ ?_ ?_ ?_<;>simp[LX,I,B,D,cK]
    ·intro _ _
     obtain⟨S8,hS8⟩:∃S,S=S7++(t.aZ.getD []).flatMap CE.e:=⟨_,rfl⟩
     rw[<-hS8]
     have lS8:S8.length<=934:=by rw[hS8,List.length_append];have:=iY (e:=CE.e) (z:=20) (l:=t.aZ.getD []) (fun x _=>by rw[Bg];omega) (t.aZ.getD []).length;rw[List.take_length]at this;omega
     try simp only[I,B,D,RY,↓KW,seval,hl,g4,dg4]
     have c:=j5 hP 1 (by omega) (by omega) S8 (some [((t.bS.getD []).length:Int)]) [((t.bS.getD []).length:Int)] rfl (Nat.le_of_ble_eq_true rfl) (by omega)
     try simp only[I,B,D,RY,↓KW,seval,hl,g4,dg4]
     refine⟨rfl,bg c ?_⟩
     obtain⟨S9,hS9⟩:∃S,S=S8++ct 1 [((t.bS.getD []).length:Int)]:=⟨_,rfl⟩
     have lS9:S9.length<=935:=by rw[hS9,List.length_append,br];simp only[List.length_cons,List.length_nil,h.conflict,h.bA];omega
     rw[<-hS9];try simp only[I,B,D,RY,↓KW,seval,hl,g4,dg4]
     refine iu (.exit 8) (fun _:Unit=>(⟨[(1,.rp t.cells),(4,.ptr 11 0)],[(11,⟨[aJ gP (some (S9++(t.bS.getD []).flatMap CF.e))],[]⟩)],[],400⟩:S)) (fun _=>True) (fun _=>rfl) ?_ ?_
     ·refine aP (fun i:Nat=>(⟨[(184,.dat (I i) none),(183,.dat (I ((t.bS.getD []).length:Int)) none),(182,.dat (aJ Bs.cells t.bS) none),(1,.rp t.cells),(4,.ptr 11 0)],[(11,⟨[aJ gP (some (S9++((t.bS.getD []).take i).flatMap CF.e))],[]⟩)],[],400⟩:S)) (fun i=>(t.bS.getD []).length-i) (fun i=>i<=(t.bS.getD []).length) ?_ 0 (by omega) ?_
      ·intro i hi A back
       have hwi:=aN (k:=i) (by omega)
       have hlen:=iY (e:=CF.e) (z:=3) (l:=t.bS.getD []) (fun x _=>by rw[Bh];omega) i
       skip;try simp only[I,B,D,RY,↓KW,seval]
       refine ax (fun h2=>?_) (fun h2=>?_)<;>try simp only[I,B,D,RY,↓KW,seval,h2]
       ·have h3:i<(t.bS.getD []).length:=by have:=of_decide_eq_true h2;omega
        obtain⟨p,hp⟩:∃x,(t.bS.getD [])[i]? =some x:=⟨(t.bS.getD [])[i]'(by omega),List.getElem?_eq_getElem _⟩
        have hn:=ux (e:=CF.e) hp S9
        obtain⟨L,hL⟩:∃L,L=S9++((t.bS.getD []).take i).flatMap CF.e:=⟨_,rfl⟩
        have hL2:L.length<=947:=by rw[hL,List.length_append];omega
        have hb2:(0:Int)<=(i:Int)/\(i:Int)<((t.bS.getD []).length:Int):=by omega
        skip
        have w1:=u2b p
        simp only[Bs.cells,I,B,Fl]at w1;rw[<-hL,MW]at hn;rw[<-hL]
        have c0:=j5 hP 1 (by omega) (by omega) (L) (some [p.set]) [p.set] rfl (Nat.le_of_ble_eq_true rfl) (by first|omega|(simp only[List.length_append,br,ei,ew,List.length_map,List.length_cons,List.length_nil];omega))
        have c1:=j5 hP 2 (by omega) (by omega) ((L)++ct 1 [p.set]) (some [p.lock]) [p.lock] rfl (Nat.le_of_ble_eq_true rfl) (by first|omega|(simp only[List.length_append,br,ei,ew,List.length_map,List.length_cons,List.length_nil];omega))
        try simp only[List.append_assoc]at c0
        try simp only[List.append_assoc]at c1
        try simp only[I,B,D,RY,↓KW,seval,hb2,hp]
        try simp only[I,B,D,RY,↓KW,seval,w1,Bs.cells]
        refine⟨rfl,bg c0 ?_⟩;try simp only[I,B,D,RY,↓KW,seval,w1,Bs.cells]
        refine⟨rfl,bg c1 ?_⟩;try simp only[I,B,D,RY,↓KW,seval,w1,Bs.cells]
        refine back (i+1) _ (by omega) (by omega) ?_
        refine ai (by decide) ?_ ?_ ?_ ?_<;>simp[LX,I,B,D,hwi,hn,cK]
       ·have h3:i=(t.bS.getD []).length:=by have:=of_decide_eq_false h2;omega
        have ht:(t.bS.getD []).take i=t.bS.getD []:=by rw[h3];exact List.take_of_length_le (by omega)
        refine cu () trivial ?_
        refine ai (by decide) ?_ ?_ ?_ ?_<;>simp[LX,I,B,D,ht,cK]
      ·refine ai (by decide) ?_ ?_ ?_ ?_<;>simp[LX,I,B,D,cK]
     ·intro _ _
      obtain⟨S10,hS10⟩:∃S,S=S9++(t.bS.getD []).flatMap CF.e:=⟨_,rfl⟩
      rw[<-hS10]
      have lS10:S10.length<=947:=by rw[hS10,List.length_append];have:=iY (e:=CF.e) (z:=3) (l:=t.bS.getD []) (fun x _=>by rw[Bh];omega) (t.bS.getD []).length;rw[List.take_length]at this;omega
      try simp only[I,B,D,RY,↓KW,seval,hl,n1,dn1,n2,dn2,n3,dn3,n4,dn4,n5,dn5]
      have c:=j5 hP 2 (by omega) (by omega) S10 (some [t.extend,t.dB,t.start,t.revert,t.least]) [t.extend,t.dB,t.start,t.revert,t.least] rfl (Nat.le_of_ble_eq_true rfl) (by omega)
      try simp only[I,B,D,RY,↓KW,seval,hl,n1,dn1,n2,dn2,n3,dn3,n4,dn4,n5,dn5]
      refine⟨rfl,bg c ?_⟩
      obtain⟨S11,hS11⟩:∃S,S=S10++ct 2 [t.extend,t.dB,t.start,t.revert,t.least]:=⟨_,rfl⟩
      have lS11:S11.length<=957:=by rw[hS11,List.length_append,br];simp only[List.length_cons,List.length_nil,h.conflict,h.bA];omega
      rw[<-hS11];try simp only[I,B,D,RY,↓KW,seval,hl,k3]
      have c:=j5 hP 1 (by omega) (by omega) S11 (some t.bA) t.bA rfl (by rw[h.bA];omega) (by omega)
      try simp only[I,B,D,RY,↓KW,seval,hl,k3,List.length_drop]
      refine⟨rfl,bg c ?_⟩
      obtain⟨S12,hS12⟩:∃S,S=S11++ct 1 t.bA:=⟨_,rfl⟩
      have lS12:S12.length<=965:=by rw[hS12,List.length_append,br];simp only[List.length_cons,List.length_nil,h.conflict,h.bA];omega
      rw[<-hS12];try simp only[I,B,D,RY,↓KW,seval,hl,n6,dn6,n7,dn7]
      have c:=j5 hP 4 (by omega) (by omega) S12 (some [t.d9,t.share]) [t.d9,t.share] rfl (Nat.le_of_ble_eq_true rfl) (by omega)
      try simp only[I,B,D,RY,↓KW,seval,hl,n6,dn6,n7,dn7]
      refine⟨rfl,bg c ?_⟩
      obtain⟨S13,hS13⟩:∃S,S=S12++ct 4 [t.d9,t.share]:=⟨_,rfl⟩
      have lS13:S13.length<=973:=by rw[hS13,List.length_append,br];simp only[List.length_cons,List.length_nil,h.conflict,h.bA];omega
      rw[<-hS13];try simp only[I,B,D,RY,↓KW,seval,hl]
      have hS:S13=iG t:=by
       unfold iG;rw[MX h,hS13,hS12,hS11,hS10,hS9,hS8,hS7,hS6,hS5,hS4,hS3,hS2,hS1,hS0];simp only[List.append_assoc]
      have cC:=hC (some S13) (by rw[Option.getD_some];omega) (by rw[Option.getD_some,hS];exact oh t)
      rw[Option.getD_some]at cC;refine aj cC ?_
      have hwr:IntKind.i64.wrap ((kZ 0xffff#16 S13).toNat:Int)=(kZ 0xffff#16 S13).toNat:=lA (by omega) (by have:=(kZ 0xffff#16 S13).isLt;omega)
      try simp only[I,B,D,RY,↓KW,seval,U,hwr]
      have c:=j5 hP 2 (by omega) (by omega) S13 (some [((kZ 0xffff#16 S13).toNat:Int)]) [((kZ 0xffff#16 S13).toNat:Int)] rfl (Nat.le_of_ble_eq_true rfl) (by omega)
      refine⟨rfl,bg c ?_⟩
      have hf:S13++ct 2 [((kZ 0xffff#16 S13).toNat:Int)]=j4 (iG t):=by rw[hS];unfold j4 ct;simp
      rw[hf];try simp only[I,B,D,RY,↓KW,seval]
end
def UT.Spec(C:bt) (f:Nat):Prop:=∀t u:Tb,t.Ok->u.Ln->C.c f [.agg t.cells,.agg u.cells] (B (Jh t u)) none
def UU.Spec(C:bt) (f:Nat):Prop:=∀b:Option (List Int),(b.getD []).length<=900000->nE (b.getD [])->C.c f [aJ gP b] (aJ gP (some (j4 (b.getD [])))) none
theorem Wt(b:Bool):b=false\/b=true:=by cases b<;>simp
def Can(s:Int):Prop:=0<=s/\s<256
theorem Jj{s:Int} (h:Can s) {i:Nat} (h8:8<=i) (h64:i<64):tb s i=false:=by
 rw[DK s h64]
 have hp:(2:Int)^8<=2^i:=by
  have e:(2:Int)^i=2^8*2^(i-8):=by rw[<-Int.pow_add];congr 1;omega
  have:(1:Int)<=2^(i-8):=by have:=Int.pow_pos (n:=(2:Int)) (m:=i-8) (by decide);omega
  rw[e];have h2:(2:Int)^8=256:=rfl
  rw[h2];omega
 have h2:(2:Int)^8=256:=rfl
 have:s.fdiv (2^i)=0:=by
  rw[Int.fdiv_eq_ediv_of_nonneg _ (by omega)]
  exact Int.ediv_eq_zero_of_lt h.1 (by have:=h.2;omega)
 rw[this];rfl
theorem Qp{x:Int} (h0:0<=x) (h1:x<18446744073709551616) (h:∀i,8<=i->i<64->tb x i=false):Can x:=by
 refine⟨h0,?_⟩
 have hn:(bv x).toNat=x.toNat:=by
  simp only[bv,BitVec.toNat_ofInt]
  have e:((2^64:Nat):Int)=18446744073709551616:=by decide
  rw[e];omega
 have:x.toNat<2^8:=by
  apply Nat.lt_pow_two_of_testBit
  intro i hi
  rcases Nat.lt_or_ge i 64 with h64|h64
  ·have:=h i hi h64
   simp only[tb,BitVec.getLsbD]at this;rw[<-hn];exact this
  ·apply Nat.testBit_lt_two_pow
   have:x.toNat<2^64:=by
    have e:(2:Nat)^64=18446744073709551616:=by decide
    omega
   exact Nat.lt_of_lt_of_le this (Nat.pow_le_pow_right (by decide) h64)
 omega
theorem yI(b:BitVec 64) (h:b.getLsbD 63=false):IntKind.i64.wrap (b.toNat:Int)=b.toNat/\(b.toNat:Int)<9223372036854775808:=by
 have:b.toNat<2^63:=by
  apply Nat.lt_pow_two_of_testBit
  intro i hi
  rcases Nat.lt_or_ge i 64 with h64|h64
  ·have:i=63:=by omega
   subst this;exact h
  ·apply Nat.testBit_lt_two_pow
   exact Nat.lt_of_lt_of_le b.isLt (Nat.pow_le_pow_right (by decide) h64)
 have e:(2:Nat)^63=9223372036854775808:=by decide
 refine⟨bq (by omega) (by omega),by omega⟩
theorem yJ{b:BitVec 64} (h:∀i,8<=i->i<64->b.getLsbD i=false):Can (IntKind.i64.wrap (b.toNat:Int)):=by
 obtain⟨h1,h2⟩:=yI b (h 63 (by decide) (by decide))
 rw[h1]
 refine Qp (by omega) (by omega) fun i h8 h64=>?_
 simp only[tb,A6];exact h i h8 h64
theorem CT(l:List Int):∀k,k<=8->Can (s6 l k)
 |0,_=>by show Can 0;exact⟨by decide,by decide⟩
 |k+1,h=>by
  have ih:=CT l k (by omega)
  simp only[s6];split
  ·have e:Jy .i64 (s6 l k) (2^k)=IntKind.i64.wrap ((bv (s6 l k)|||bv (2^k)).toNat:Int):=rfl
   rw[e]
   refine yJ fun i h8 h64=>?_
   rw[BitVec.getLsbD_or]
   have a:=Jj ih h8 h64
   have b:=Iv (p:=k) (by omega) i
   simp only[tb]at a b;rw[a,b]
   have:¬i=k:=by omega
   simp[this]
  ·exact ih
theorem EU(l:List Int):Can (ML l):=CT l 8 (by omega)
theorem vf(s p:Int):Can (iO s p):=EU _
def Mk(t:Tb) (p:Nat):Int:=t.bA.getD p 0
theorem DP(t:Tb) (p q:Int):fy t p q=fy t q p:=by
 simp only[fy];generalize(fh t p).2=b1;generalize(fh t q).2=b2;generalize(fh t p).1=s1;generalize(fh t q).1=s2;rw[Bool.and_comm b1 b2]
 congr 1
 ·congr 1
  rw[Bool.eq_iff_iff];simp only[beq_iff_eq];exact eq_comm
 ·rw[Bool.eq_iff_iff];simp only[bne_iff_ne];exact ne_comm
theorem Qq:cR.Ok:=⟨rfl,rfl,rfl,by simp[cR],by simp[cR],by simp[cR],by simp[cR],by simp[cR]⟩
theorem Qr(l:Option (List Int)) (i n:Int):(ir l i n).Fw:=by
 have r1:=aL l (bL (i+1)) (n:=4) (by decide) (by decide)
 have r2:=aL l (bL (i+2)) (n:=3) (by decide) (by decide)
 have r3:=aL l (bL (i+3)) (n:=4) (by decide) (by decide)
 have r4:=aL l (bL (i+4)) (n:=6) (by decide) (by decide)
 obtain⟨a,ha⟩:∃m:Nat,bG l (bL (i+1)) 4=m:=⟨(bG l (bL (i+1)) 4).toNat,by omega⟩
 obtain⟨b,hb⟩:∃m:Nat,bG l (bL (i+2)) 3=m:=⟨(bG l (bL (i+2)) 3).toNat,by omega⟩
 obtain⟨c,hc⟩:∃m:Nat,bG l (bL (i+3)) 4=m:=⟨(bG l (bL (i+3)) 4).toNat,by omega⟩
 obtain⟨d,hd⟩:∃m:Nat,bG l (bL (i+4)) 6=m:=⟨(bG l (bL (i+4)) 6).toNat,by omega⟩
 have k1:∀a:Nat,a<4->sw a<2^64:=by decide
 have k2:∀a:Nat,a<4->∀b:Nat,b<3->qC a b<2^64:=by decide+kernel
 have k3:∀c:Nat,c<6->uo c<2^64:=by decide+kernel
 refine⟨?_,?_,?_,?_⟩
 ·show sw _<_;rw[ha];exact k1 a (by omega)
 ·show qC _ _<_;rw[ha,hb];exact k2 a (by omega) b (by omega)
 ·show uo _<_;rw[hc];exact k3 c (by omega)
 ·show uo _<_;rw[hd];exact k3 d (by omega)
theorem Jk(l:Option (List Int)):(aU l).Fw:=by
 intro d hd
 have e:(aU l).aI=bw (jX l (bK l).2 (bG l 175 9) (bG l 175 9).toNat):=rfl
 rw[e,cm,jX,List.mem_map]at hd;obtain⟨k,_,rfl⟩:=hd;exact Qr _ _ _
theorem gz{n:Int} (h1:-9223372036854775808<=n) (h2:n<=9223372036854775807):bL n=n:=bq h1 h2
structure Jl (x:Ph):Prop where
 min:1<=x.min/\x.min<=12
 max:x.min<=x.max/\x.max<=36
 top:x.max<=x.top/\x.top<=50
 B5:0<=x.B5/\x.B5<=8
 step:1<=x.step/\x.step<=6
 d8:10<=x.d8/\x.d8<=13
 red:0<=x.red/\x.red<=4
 walk:(x.walk=0/\x.ep=0)\/(1<=x.walk/\x.walk<=10/\1<=x.ep/\x.ep<=10)
 gY:0<=x.gY/\x.gY<=3/\(x.gY=3->x.walk≠0)
 on:x.on=true
theorem Ml(l:Option (List Int)) (i:Int):Jl (jj l i):=by
 have r0:=aL l i (n:=12) (by decide) (by decide)
 have r1:=aL l (bL (i+1)) (n:=9) (by decide) (by decide)
 have r2:=aL l (bL (i+2)) (n:=6) (by decide) (by decide)
 have r3:=aL l (bL (i+3)) (n:=4) (by decide) (by decide)
 have r4:=aL l (bL (i+4)) (n:=5) (by decide) (by decide)
 have r5:=aL l (bL (i+5)) (n:=25) (by decide) (by decide)
 have r6:=aL l (bL (i+6)) (n:=15) (by decide) (by decide)
 have r8:=aL l (bL (i+8)) (n:=10) (by decide) (by decide)
 have r9:=aL l (bL (i+8)) (n:=97) (by decide) (by decide)
 have ra:=aL l (bL (i+9)) (n:=7) (by decide) (by decide)
 have rt:0<=(bG l (bL (i+8)) 97).tdiv 10/\(bG l (bL (i+8)) 97).tdiv 10<=9:=by
  rw[Int.tdiv_eq_ediv_of_nonneg r9.1];omega
 have e0:=gz (n:=1+bG l i 12) (by omega) (by omega)
 have e5:=gz (n:=1+bG l i 12+bG l (bL (i+5)) 25) (by omega) (by omega)
 have e6:=gz (n:=1+bG l i 12+bG l (bL (i+5)) 25+bG l (bL (i+6)) 15) (by omega) (by omega)
 have e8:=gz (n:=1+bG l (bL (i+8)) 10) (by omega) (by omega)
 have e9:=gz (n:=(bG l (bL (i+8)) 97).tdiv 10) (by omega) (by omega)
 have ea:=gz (n:=1+(bG l (bL (i+8)) 97).tdiv 10) (by omega) (by omega)
 have e2:=gz (n:=1+bG l (bL (i+2)) 6) (by omega) (by omega)
 have e3:=gz (n:=10+bG l (bL (i+3)) 4) (by omega) (by omega)
 refine⟨?_,?_,?_,?_,?_,?_,?_,?_,?_,rfl⟩<;>simp only[jj,e0,e5,e6,e8,e9,ea,e2,e3]
 ·omega
 ·omega
 ·omega
 ·omega
 ·omega
 ·omega
 ·omega
 ·split
  ·right;omega
  ·left;exact⟨rfl,rfl⟩
 ·split<;>split<;>omega
theorem EX(l:Option (List Int)):∀(k i:Nat),k<=8->i<8->(A0 l k).getD i default=if i<k then jj l (10+12*i)else default
 |0,i,_,hi=>by rw[A0,List.getD_eq_getElem?_getD,List.getElem?_replicate,if_pos hi,if_neg (by omega)];rfl
 |k+1,i,hk,hi=>by
  have ih:=EX l k i (by omega) hi
  rw[A0,List.getD_eq_getElem?_getD,List.getElem?_set]
  by_cases e:k=i
  ·subst e
   rw[if_pos rfl,if_pos (by rw[dM];omega),if_pos (by omega)];rfl
  ·rw[if_neg e,<-List.getD_eq_getElem?_getD,ih]
   by_cases h2:i<k
   ·rw[if_pos h2,if_pos (by omega)]
   ·rw[if_neg h2,if_neg (by omega)]
def nT(l:Option (List Int)):Nat:=(bK l).2
theorem kM(l:Option (List Int)):1<=nT l/\nT l<=8:=⟨yp l,uZ l⟩
theorem Xl(l:Option (List Int)) {i:Nat} (hi:i<8):dS (aU l) i=if i<nT l then jj l (10+12*i)else default:=by
 rw[<-P7];exact EX l (nT l) i (kM l).2 hi
theorem yK(l:Option (List Int)) (G:Nat) (hG:G<=8):∀g,g<=G->1<=g->(bn l G g).2<=8-(G-g)
 |0,_,h=>by omega
 |g+1,h,_=>by
  have ih:(bn l G g).2<=8-(G-1-g):=by
   rcases Nat.eq_zero_or_pos g with rfl|h1
   ·simp[bn]
   ·have:=yK l G hG g (by omega) h1;omega
  simp only[bn,bh,bN];omega
theorem DQ(l:Option (List Int)) (G:Nat) (hG:G<=8) {g:Nat} (hg:g<G):∃(gr:Gr) (m:Nat),1<=m/\(bn l G (g+1)).1=(bn l G g).1++[gr]/\(bn l G (g+1)).2=(bn l G g).2+m/\gr.a.getD []++gr.b.getD []=dm (bn l G g).2 m:=by
 have hp:(bn l G g).2+1<=bN G g:=by
  unfold bN
  rcases Nat.eq_zero_or_pos g with rfl|h1
  ·simp[bn];omega
  ·have:=yK l G hG g (by omega) h1;omega
 refine⟨_,bh (cnt l g 0 0) (bn l G g).2 (bN G g)+bh (cnt l g 1 (bh (cnt l g 0 0) (bn l G g).2 (bN G g))) ((bn l G g).2+bh (cnt l g 0 0) (bn l G g).2 (bN G g)) (bN G g),?_,rfl,?_,?_⟩
 ·generalize hm0:bh (cnt l g 0 0) (bn l G g).2 (bN G g)=m0
  rcases Nat.eq_zero_or_pos m0 with h0|h0
  ·have hc:1<=cnt l g 1 m0:=by
    simp only[cnt]
    by_cases hz:(bG l (1+2*(g:Int)+((1:Nat):Int)) 3).toNat=0
    ·rw[if_pos ⟨trivial,hz,h0⟩];exact Nat.le_refl _
    ·rw[if_neg (fun h=>hz h.2.1)];omega
   rw[h0]at hc⊢;simp only[bh];omega
  ·omega
 ·simp only[bn];omega
 ·simp only[cm]
  generalize bh (cnt l g 0 0) (bn l G g).2 (bN G g)=m0;generalize bh (cnt l g 1 m0) ((bn l G g).2+m0) (bN G g)=m1;simp only[dm,List.range_add,List.map_append,List.map_map]
  congr 1
  apply List.map_congr_left
  intro j _;simp only[Function.comp];omega
theorem Bj{t t':Tb} (h:t.groups=t'.groups) (p q:Int):fy t p q=fy t' p q:=by
 simp only[fy,fh,ef,h]
theorem yL(l:List Int):0<=jM l/\jM l<=2147483647:=by
 rcases List.eq_nil_or_concat l with rfl|⟨l',x,rfl⟩
 ·exact⟨by decide,by decide⟩
 ·rw[jM,List.concat_eq_append,List.foldl_append];exact mw _
theorem CU(t:Tb) (p:Int):0<=o3 t p/\o3 t p<=2147483647:=by
 unfold o3;split
 ·exact yL _
 ·exact⟨by decide,by decide⟩
theorem CV(t:Tb) (p:Int):0<=lp t p/\lp t p<=2147483647:=by
 unfold lp;split
 ·exact CU _ _
 ·exact yL _
theorem vV(t:Tb):∀k,0<=jY t k/\jY t k<=2147483647
 |0=>⟨by simp[jY],by simp[jY]⟩
 |k+1=>by
  have:=vV t k
  have h2:=CV t k
  rw[jY];split<;>omega
theorem yM(l:Option (List Int)) (G:Nat) (hG:G<=8):∀g,g<=G->∀gr∈(bn l G g).1,∀x∈gr.a.getD []++gr.b.getD [],0<=x/\x<8
 |0,_,gr,h=>by simp[bn]at h
 |g+1,hg,gr,h=>by
  obtain⟨gr',m,h1,h2,h3,h4⟩:=DQ l G hG (g:=g) (by omega)
  rw[h2]at h
  rcases List.mem_append.1 h with h|h
  ·exact yM l G hG g (by omega) gr h
  ·rw[List.mem_singleton]at h;subst h
   intro x hx;rw[h4,dm,List.mem_map]at hx;obtain⟨j,hj,rfl⟩:=hx
   have:=rC l G (g+1)
   have:=List.mem_range.1 hj
   omega
theorem Bk:∀(k i:Nat),k<=8->i<8->(tr k).getD i 0=if i<k then 1 else 0
 |0,i,_,hi=>by rw[tr,List.getD_eq_getElem?_getD,List.getElem?_replicate,if_pos hi,if_neg (by omega)];rfl
 |k+1,i,hk,hi=>by
  have ih:=Bk k i (by omega) hi
  rw[tr,List.getD_eq_getElem?_getD,List.getElem?_set]
  by_cases e:k=i
  ·subst e
   rw[if_pos rfl,if_pos (by rw[jO];omega),if_pos (by omega)];rfl
  ·rw[if_neg e,<-List.getD_eq_getElem?_getD,ih]
   by_cases h2:i<k
   ·rw[if_pos h2,if_pos (by omega)]
   ·rw[if_neg h2,if_neg (by omega)]
theorem Wu(l:Option (List Int)):∃q:Nat,∀p,p<8->Mk (aU l) p=if q<nT l/\p=q then 2 else if p<nT l then 1 else 0:=by
 have r:=aL l 174 (n:=((bK l).2:Int)+1) (by omega) (by have:=uZ l;omega)
 refine⟨(bG l 174 (((bK l).2:Int)+1)).toNat,fun p hp=>?_⟩
 have hn:=(kM l).2
 have e:(aU l).bA=if bG l 174 (((bK l).2:Int)+1)<((bK l).2:Int)then(tr (bK l).2).set (bG l 174 (((bK l).2:Int)+1)).toNat 2 else tr (bK l).2:=rfl
 have hnT:nT l=(bK l).2:=rfl
 rw[Mk,e,hnT];rw[hnT]at hn;generalize(bK l).2=n at*;generalize bG l 174 ((n:Int)+1)=q at*;split
 ·rename_i hq
  rw[List.getD_eq_getElem?_getD,List.getElem?_set]
  by_cases e2:q.toNat=p
  ·rw[if_pos e2,if_pos (by rw[jO];omega),if_pos ⟨by omega,e2.symm⟩];rfl
  ·have:¬(q.toNat<n/\p=q.toNat):=fun h=>e2 h.2.symm
   rw[if_neg e2,<-List.getD_eq_getElem?_getD,Bk _ _ hn hp];simp only[this,if_false]
 ·rename_i hq
  have:¬(q.toNat<n/\p=q.toNat):=by omega
  rw[Bk _ _ hn hp];simp only[this,if_false]
theorem Mm{t:Tb} {l:Option (List Int)}:∀p,∀x∈gb t l p,Can x:=by
 have step:∀(p q:Nat) (c:List Int),(∀x∈c,Can x)->∀x∈ga t l p q c,Can x:=by
  intro p q c h x hx;unfold ga at hx;split at hx
  ·rcases List.mem_or_eq_of_mem_set hx with hx|rfl
   ·rcases List.mem_or_eq_of_mem_set hx with hx|rfl
    ·exact h x hx
    ·exact vf _ _
   ·exact vf _ _
  ·exact h x hx
 have row:∀(p q:Nat) (c:List Int),(∀x∈c,Can x)->∀x∈jk t l p q c,Can x:=by
  intro p q
  induction q with
  |zero=>intro c h;exact h
  |succ q ih=>intro c h;exact step p q _ (ih c h)
 intro p
 induction p with
 |zero=>
  intro x hx;rw[gb]at hx
  have:=List.eq_of_mem_replicate hx
  subst this;exact⟨by decide,by decide⟩
 |succ p ih=>exact row p p _ ih
theorem vg{x:Int} (h:Can x):wI 255 x=true:=by
 simp only[wI,Bool.and_eq_true,decide_eq_true_eq]
 exact⟨h.1,by have:=h.2;omega⟩
theorem CW{x:Ph} (h:Jl x):qJ x=true:=by
 obtain⟨a1,a2,a3,a4,a5,a6,a7,a8,a9,_⟩:=h;simp only[qJ,List.all_cons,List.all_nil,Bool.and_true,wI,Bool.and_eq_true,decide_eq_true_eq];omega
structure Jm (n:Nat) (d:gQ):Prop where
 phase:0<=d.phase/\d.phase<n
 may:lvl d.on=true/\lvl d.off=true/\eM d.delay=true/\eM d.extend=true
 most:0<=d.maxOn/\d.maxOn<=80/\0<=d.kS/\d.kS<=360
 order:Ly d.off d.on=false
theorem Mo(l:Option (List Int)) (i:Int) {n:Nat} (hn:1<=n) (h8:n<=8):Jm n (ir l i n):=by
 have r0:=aL l i (n:=(n:Int)) (by omega) (by omega)
 have r1:=aL l (bL (i+1)) (n:=4) (by decide) (by decide)
 have r2:=aL l (bL (i+2)) (n:=3) (by decide) (by decide)
 have r3:=aL l (bL (i+3)) (n:=4) (by decide) (by decide)
 have r4:=aL l (bL (i+4)) (n:=6) (by decide) (by decide)
 have r6:=aL l (bL (i+6)) (n:=60) (by decide) (by decide)
 have r7:=aL l (bL (i+7)) (n:=300) (by decide) (by decide)
 obtain⟨a,ha⟩:∃m:Nat,bG l (bL (i+1)) 4=m:=⟨(bG l (bL (i+1)) 4).toNat,by omega⟩
 obtain⟨b,hb⟩:∃m:Nat,bG l (bL (i+2)) 3=m:=⟨(bG l (bL (i+2)) 3).toNat,by omega⟩
 obtain⟨c,hc⟩:∃m:Nat,bG l (bL (i+3)) 4=m:=⟨(bG l (bL (i+3)) 4).toNat,by omega⟩
 obtain⟨d,hd⟩:∃m:Nat,bG l (bL (i+4)) 6=m:=⟨(bG l (bL (i+4)) 6).toNat,by omega⟩
 have k1:∀a:Nat,a<4->lvl (sw a)=true:=by decide+kernel
 have k2:∀a:Nat,a<4->∀b:Nat,b<3->lvl (qC a b)=true/\Ly (qC a b) (sw a)=false:=by decide+kernel
 have k3:∀c:Nat,c<6->eM (uo c)=true:=by decide+kernel
 have e6:=gz (n:=20+bG l (bL (i+6)) 60) (by omega) (by omega)
 have e7:=gz (n:=60+bG l (bL (i+7)) 300) (by omega) (by omega)
 refine⟨r0,⟨?_,?_,?_,?_⟩,?_,?_⟩
 ·show lvl (sw _)=true;rw[ha];exact k1 a (by omega)
 ·show lvl (qC _ _)=true;rw[ha,hb];exact(k2 a (by omega) b (by omega)).1
 ·show eM (uo _)=true;rw[hc];exact k3 c (by omega)
 ·show eM (uo _)=true;rw[hd];exact k3 d (by omega)
 ·simp only[ir,e6,e7]
  split<;>split<;>omega
 ·show Ly (qC _ _) (sw _)=false;rw[ha,hb];exact(k2 a (by omega) b (by omega)).2
theorem UW(l:Option (List Int)):((aU l).aI.getD []).length<=8/\∀d∈(aU l).aI.getD [],Jm (nT l) d:=by
 have e:(aU l).aI=bw (jX l (bK l).2 (bG l 175 9) (bG l 175 9).toNat):=rfl
 have r:=aL l 175 (n:=9) (by decide) (by decide)
 rw[e,cm]
 refine⟨by rw[vc];omega,fun d hd=>?_⟩
 rw[jX,List.mem_map]at hd;obtain⟨k,_,rfl⟩:=hd;exact Mo _ _ (kM l).1 (kM l).2
theorem Jn{p:Nat} (hp:p<8) (i:Nat):tb (ML [(p:Int)]) i=decide (i=p):=by
 rw[MR]
 by_cases h:i=p
 ·subst h;simp[hp]
 ·have:¬(i:Int)=(p:Int):=by omega
  simp[h,this]
theorem yN(t:Tb) {p q:Nat} (hp:p<8) (hq:q<8) (i:Nat):tb (lB t p q) i=(decide (i=p)||(fy t p q&&decide (i=q))):=by
 unfold lB;cases fy t p q
 ·rw[if_neg (by simp),Jn hp];simp
 ·rw[if_pos rfl,Jg hq,Jn hp]
  by_cases h8:i<8
  ·simp[h8]
  ·have h1:¬i=p:=by omega
   have h2:¬i=q:=by omega
   simp[h8,h1,h2]
theorem Gj(t:Tb) (p q:Int):Can (lB t p q):=by
 unfold lB;split
 ·exact vf _ _
 ·exact EU _
theorem wQ:∀n:Nat,n<9->1<=n->∀i:Nat,i<64->tb (bL (bL (1*2^min (IntKind.u64.wrap (n:Int)).toNat 64)-1)) i=decide (i<n):=by decide+kernel
def UX(t:Tb) (n:Nat) (s:Int):Prop:=Can s/\(∀i,i<8->tb s i=true->i<n)/\∀i j,i<8->j<8->tb s i=true->tb s j=true->i≠j->fy t i j=true
theorem uz{t t':Tb} (hg:t.groups=t'.groups) {n p q:Nat} (h8:n<=8) (hp:p<n) (hq:q<n):UX t n (lB t' p q)/\lB t' p q≠0:=by
 have hb:=Bj hg
 refine⟨⟨Gj _ _ _,fun i hi h=>?_,fun i j hi hj h1 h2 hne=>?_⟩,fun e=>?_⟩
 ·rw[yN t' (by omega) (by omega)]at h
  simp only[Bool.or_eq_true,Bool.and_eq_true,decide_eq_true_eq]at h;omega
 ·rw[yN t' (by omega) (by omega)]at h1 h2
  simp only[Bool.or_eq_true,Bool.and_eq_true,decide_eq_true_eq]at h1 h2;rw[hb]
  rcases h1 with rfl|⟨hb1,rfl⟩
  ·rcases h2 with rfl|⟨hb2,rfl⟩
   ·exact absurd rfl hne
   ·exact hb2
  ·rcases h2 with rfl|⟨hb2,rfl⟩
   ·rw[DP];exact hb1
   ·exact absurd rfl hne
 ·have:=yN t' (p:=p) (q:=q) (by omega) (by omega) p
  rw[e,wJ]at this;simp at this
theorem Jo(t:Tb) (n:Nat):UX t n 0:=⟨⟨by decide,by decide⟩,(fun i _ h=>by rw[wJ]at h;cases h),(fun i j _ _ h=>by rw[wJ]at h;cases h)⟩
structure Jp (t:Tb) (n:Nat) (r:Rl):Prop where
 bars:Can r.bars/\∀i,i<64->tb r.bars i=true->i<n/\tb r.jK i=false
 clear:UX t n r.clear
 jK:UX t n r.jK/\r.jK≠0
 exit:UX t n r.exit/\r.exit≠0
 hold:(1<=r.hold/\r.hold<=10/\r.clear≠0)\/(r.hold=0/\r.clear=0)
 Xm:0<=r.delay/\r.delay<=3/\1<=r.green/\r.green<=6/\0<=r.kT/\r.kT<=5/\1<=r.stay/\r.stay<=15
 most:r.most=0\/(r.stay<=r.most/\r.most<=44)
 limit:r.delay<r.limit/\r.limit<=10004
theorem Mp{t t':Tb} (hg:t.groups=t'.groups) (l:Option (List Int)) (i:Int) {n:Nat} (hn:1<=n) (h8:n<=8):Jp t n (nC t' l i n):=by
 have nat:∀j:Int,∃m:Nat,bG l j (n:Int)=m/\m<n:=fun j=>by
  have:=aL l j (n:=(n:Int)) (by omega) (by omega)
  exact⟨(bG l j n).toNat,by omega,by omega⟩
 obtain⟨a0,e0,k0⟩:=nat i
 obtain⟨a1,e1,k1⟩:=nat (bL (i+1))
 obtain⟨a2,e2,k2⟩:=nat (bL (i+2))
 obtain⟨a3,e3,k3⟩:=nat (bL (i+3))
 obtain⟨a5,e5,k5⟩:=nat (bL (i+5))
 have en:bL ((n:Int)+1)=(n:Int)+1:=gz (by omega) (by omega)
 have r4:=aL l (bL (i+4)) (n:=(n:Int)+1) (by omega) (by omega)
 have r6:=aL l (bL (i+6)) (n:=10) (by decide) (by decide)
 have r7:=aL l (bL (i+7)) (n:=256) (by decide) (by decide)
 have r8:=aL l (bL (i+8)) (n:=4) (by decide) (by decide)
 have r9:=aL l (bL (i+9)) (n:=6) (by decide) (by decide)
 have ra:=aL l (bL (i+10)) (n:=6) (by decide) (by decide)
 have rb:=aL l (bL (i+11)) (n:=15) (by decide) (by decide)
 have rd:=aL l (bL (i+13)) (n:=30) (by decide) (by decide)
 have re:=aL l (bL (i+14)) (n:=3) (by decide) (by decide)
 have w6:=gz (n:=1+bG l (bL (i+6)) 10) (by omega) (by omega)
 have w9:=gz (n:=1+bG l (bL (i+9)) 6) (by omega) (by omega)
 have wb:=gz (n:=1+bG l (bL (i+11)) 15) (by omega) (by omega)
 have wd:=gz (n:=1+bG l (bL (i+11)) 15+bG l (bL (i+13)) 30) (by omega) (by omega)
 have w8:=gz (n:=bG l (bL (i+8)) 4+1) (by omega) (by omega)
 have hlim:∃v:Int,[10000,400,20].getD (bG l (bL (i+14)) 3).toNat 0=v/\20<=v/\v<=10000:=by
  have:(bG l (bL (i+14)) 3).toNat=0\/(bG l (bL (i+14)) 3).toNat=1\/(bG l (bL (i+14)) 3).toNat=2:=by omega
  rcases this with h|h|h<;>rw[h]
  ·exact⟨10000,rfl,by decide,by decide⟩
  ·exact⟨400,rfl,by decide,by decide⟩
  ·exact⟨20,rfl,by decide,by decide⟩
 obtain⟨v,hv,v1,v2⟩:=hlim
 have wl:=gz (n:=bG l (bL (i+8)) 4+1+v) (by omega) (by omega)
 have td:=uz hg h8 k0 k1
 have te:=uz hg h8 k2 k3
 refine⟨?_,?_,?_,?_,?_,?_,?_,?_⟩<;>simp only[nC,e0,e1,e2,e3,e5,en,w6,w9,wb,wd,w8,hv,wl]
 ·have hbits:∀j,j<64->tb (mV .i64 (oC .i64 (bG l (bL (i+7)) 256) (bL (bL (1*2^min (IntKind.u64.wrap (n:Int)).toNat 64)-1))) (lB t' a0 a1)) j=true->j<n/\tb (lB t' a0 a1) j=false:=by
   intro j hj h
   rw[zR _ _ _ hj,DJ,wQ n (by omega) hn j hj]at h
   simp only[Bool.and_eq_true,Bool.not_eq_true',decide_eq_true_eq]at h;exact⟨h.1.2,h.2⟩
  refine⟨?_,hbits⟩
  have e:mV .i64 (oC .i64 (bG l (bL (i+7)) 256) (bL (bL (1*2^min (IntKind.u64.wrap (n:Int)).toNat 64)-1))) (lB t' a0 a1)=IntKind.i64.wrap ((bv (oC .i64 (bG l (bL (i+7)) 256) (bL (bL (1*2^min (IntKind.u64.wrap (n:Int)).toNat 64)-1)))&&& ~~~bv (lB t' a0 a1)).toNat:Int):=rfl
  rw[e]
  refine yJ fun j h1 h2=>?_
  have h3:=zR (oC .i64 (bG l (bL (i+7)) 256) (bL (bL (1*2^min (IntKind.u64.wrap (n:Int)).toNat 64)-1))) (lB t' a0 a1) j h2
  have h4:=wQ n (by omega) hn j h2
  have h5:¬j<n:=by omega
  have h6:=DJ (bG l (bL (i+7)) 256) (bL (bL (1*2^min (IntKind.u64.wrap (n:Int)).toNat 64)-1)) j
  rw[h4]at h6;simp only[h5,decide_false,Bool.and_false]at h6;simp only[tb]at h6;rw[BitVec.getLsbD_and,h6];rfl
 ·split
  ·rename_i hp
   obtain⟨p,hpn⟩:∃p:Nat,bG l (bL (i+4)) ((n:Int)+1)=p:=⟨(bG l (bL (i+4)) ((n:Int)+1)).toNat,by omega⟩
   rw[hpn]at hp⊢
   exact(uz hg h8 (by omega) k5).1
  ·exact Jo _ _
 ·exact td
 ·exact te
 ·split
  ·rename_i hp
   obtain⟨p,hpn⟩:∃p:Nat,bG l (bL (i+4)) ((n:Int)+1)=p:=⟨(bG l (bL (i+4)) ((n:Int)+1)).toNat,by omega⟩
   rw[hpn]at hp⊢
   exact .inl ⟨by omega,by omega,(uz hg h8 (by omega) k5).2⟩
  ·exact .inr ⟨rfl,rfl⟩
 ·omega
 ·split
  ·right;omega
  ·left;rfl
 ·omega
theorem Qs(l:Option (List Int)):((aU l).aZ.getD []).length<=2/\∀r∈(aU l).aZ.getD [],Jp (aU l) (nT l) r:=by
 have e:(aU l).aZ=bw (er {cR with groups:=some (bK l).1} l (bK l).2 ((bG l 176 4).tmod 3) ((bG l 176 4).tmod 3).toNat):=rfl
 have h:=Int.tmod_lt_of_pos (bG l 176 4) (b:=3) (by decide)
 rw[e,cm]
 refine⟨by rw[tu];omega,fun d hd=>?_⟩
 rw[er,List.mem_map]at hd;obtain⟨k,_,rfl⟩:=hd;exact Mp rfl _ _ (kM l).1 (kM l).2
theorem Qt(l:Option (List Int)):((aU l).bS.getD []).length<=2/\∀b∈(aU l).bS.getD [],(Can b.set/\b.set≠0/\∀i,i<64->tb b.set i=true->i<nT l)/\1<=b.lock/\b.lock<=30:=by
 have e:(aU l).bS=bw (lC l (bK l).2 (bG l 177 3) (bG l 177 3).toNat):=rfl
 have r:=aL l 177 (n:=3) (by decide) (by decide)
 rw[e,cm]
 refine⟨by rw[rD];omega,fun b hb=>?_⟩
 rw[lC,List.mem_map]at hb;obtain⟨k,_,rfl⟩:=hb
 have hnT:nT l=(bK l).2:=rfl
 have hn:=kM l
 rw[hnT]at hn⊢;generalize(bK l).2=n at*;generalize bG l 177 3-(k:Int)=i
 have r1:=aL l (331+2*i) (n:=30) (by decide) (by decide)
 have w1:=gz (n:=1+bG l (331+2*i) 30) (by omega) (by omega)
 have r0:=aL l (330+2*i) (n:=256) (by decide) (by decide)
 generalize hx:oC .i64 (bG l (330+2*i) 256) (bL (bL (1*2^min (IntKind.u64.wrap (n:Int)).toNat 64)-1))=x
 have hbits:∀j,j<64->tb x j=true->j<n:=by
  intro j hj h
  rw[<-hx,DJ,wQ n (by omega) hn.1 j hj]at h
  simp only[Bool.and_eq_true,decide_eq_true_eq]at h;exact h.2
 have hcan:Can x:=by
  have e:x=IntKind.i64.wrap ((bv (bG l (330+2*i) 256)&&&bv (bL (bL (1*2^min (IntKind.u64.wrap (n:Int)).toNat 64)-1))).toNat:Int):=hx.symm
  rw[e]
  refine yJ fun j h1 h2=>?_
  have h4:=wQ n (by omega) hn.1 j h2
  have h5:¬j<n:=by omega
  simp only[h5,decide_false,tb]at h4;rw[BitVec.getLsbD_and,h4,Bool.and_false]
 refine⟨?_,?_⟩
 ·simp only[zQ,hx]
  split
  ·exact⟨hcan,by omega,hbits⟩
  ·refine⟨⟨by decide,by decide⟩,by decide,fun j hj h=>?_⟩
   have:∀j,j<64->tb 1 j=decide (j=0):=by decide+kernel
   rw[this j hj]at h
   have:=of_decide_eq_true h;omega
 ·simp only[zQ,w1];omega
theorem MY(l:Option (List Int)):oP (aU l)=true:=by
 have hln:=(oM l).ln
 have hG:=oL l
 obtain⟨d1,d2⟩:=UW l;obtain⟨r1,r2⟩:=Qs l;obtain⟨b1,b2⟩:=Qt l
 have hn:=kM l
 have m1:(aU l).phases.all qJ=true:=by
  rw[List.all_eq_true];intro x hx
  obtain⟨i,hi⟩:=List.mem_iff_getElem?.1 hx
  have h8:i<8:=by have:=(List.getElem?_eq_some_iff.1 hi).1;rw[hln.phases]at this;exact this
  have e:=hln.P8 h8
  rw[hi]at e
  have e:=Option.some.inj e
  rw[e,Xl l h8];split
  ·exact CW (Ml _ _)
  ·decide
 have m2:(decide ((((aU l).groups.getD []).length:Int)<=4)&&((aU l).groups.getD []).all ni)=true:=by
  have e:(aU l).groups.getD []=(bn l (cX l) (cX l)).1:=rfl
  have h1:(((bn l (cX l) (cX l)).1).length:Int)<=4:=by rw[oI];omega
  rw[e,Bool.and_eq_true,decide_eq_true_eq]
  refine⟨h1,List.all_eq_true.2 fun g hg=>?_⟩
  have hs:=oK l (cX l) (cX l) g hg
  have he:=yM l (cX l) (by omega) (cX l) (Nat.le_refl _) g hg
  have hw:∀x∈g.a.getD []++g.b.getD [],wI 7 x=true:=fun x hx=>by
   have:=he x hx
   simp only[wI,Bool.and_eq_true,decide_eq_true_eq];omega
  simp only[ni,kY,Bool.and_eq_true,decide_eq_true_eq,List.all_eq_true,List.all_cons,List.all_nil,Bool.and_true]
  exact⟨⟨by omega,fun x hx=>hw x (List.mem_append_left _ hx)⟩,by omega,fun x hx=>hw x (List.mem_append_right _ hx)⟩
 have m3:(aU l).conflict.all (wI 255)=true:=List.all_eq_true.2 fun x hx=>vg (Mm _ x hx)
 have m4:(decide ((((aU l).aI.getD []).length:Int)<=16)&&((aU l).aI.getD []).all gi)=true:=by
  rw[Bool.and_eq_true,decide_eq_true_eq]
  refine⟨by omega,List.all_eq_true.2 fun d hd=>?_⟩
  obtain⟨g1,⟨g2,g3,g4,g5⟩,g6,_⟩:=d2 d hd;simp only[gi,g2,g3,g4,g5,List.all_cons,List.all_nil,Bool.and_true,Bool.true_and,wI,Bool.and_eq_true,decide_eq_true_eq];omega
 have m5:(decide ((((aU l).aZ.getD []).length:Int)<=4)&&((aU l).aZ.getD []).all sA)=true:=by
  rw[Bool.and_eq_true,decide_eq_true_eq]
  refine⟨by omega,List.all_eq_true.2 fun d hd=>?_⟩
  obtain⟨g1,g2,g3,g4,g5,g6,g7,g8⟩:=r2 d hd
  have k1:=vg g1.1
  have k2:=vg g2.1
  have k3:=vg g3.1.1
  have k4:=vg g4.1.1
  simp only[sA,k1,k2,k3,k4,List.all_cons,List.all_nil,Bool.and_true,Bool.true_and];simp only[wI,Bool.and_eq_true,decide_eq_true_eq];omega
 have m6:(decide ((((aU l).bS.getD []).length:Int)<=4)&&((aU l).bS.getD []).all sB)=true:=by
  rw[Bool.and_eq_true,decide_eq_true_eq]
  refine⟨by omega,List.all_eq_true.2 fun d hd=>?_⟩
  obtain⟨⟨g1,_⟩,g2⟩:=b2 d hd
  have k1:=vg g1
  simp only[sB,k1,List.all_cons,List.all_nil,Bool.and_true,Bool.true_and];simp only[wI,Bool.and_eq_true,decide_eq_true_eq];omega
 have m7:[(aU l).extend,(aU l).dB,(aU l).start,(aU l).revert,(aU l).least].all (wI 9999)=true:=by
  have q1:=aL l 178 (n:=12) (by decide) (by decide)
  have q2:=aL l 179 (n:=40) (by decide) (by decide)
  have q3:=aL l 180 (n:=8) (by decide) (by decide)
  have q4:=aL l 181 (n:=8) (by decide) (by decide)
  have q5:=aL l 182 (n:=12) (by decide) (by decide)
  have f1:(aU l).extend=bG l 178 12:=rfl
  have f2:(aU l).dB=bG l 179 40:=rfl
  have f3:(aU l).start=bG l 180 8:=rfl
  have f4:(aU l).revert=bG l 181 8:=rfl
  have f5:(aU l).least=bG l 182 12:=rfl
  rw[f1,f2,f3,f4,f5];simp only[List.all_cons,List.all_nil,Bool.and_true,wI,Bool.and_eq_true,decide_eq_true_eq];omega
 have m8:(aU l).bA.all (wI 2)=true:=by
  obtain⟨q,hq⟩:=Wu l;rw[List.all_eq_true];intro x hx
  obtain⟨i,hi⟩:=List.mem_iff_getElem?.1 hx
  have h8:i<8:=by have:=(List.getElem?_eq_some_iff.1 hi).1;rw[hln.bA]at this;exact this
  have e:Mk (aU l) i=x:=by rw[Mk,List.getD_eq_getElem?_getD,hi];rfl
  rw[<-e,hq i h8];split
  ·decide
  ·split<;>decide
 have m9:[(aU l).d9,(aU l).share].all (wI 2147483647)=true:=by
  have q1:=aL l 183 (n:=4) (by decide) (by decide)
  have f1:(aU l).share=bG l 183 4:=rfl
  have f2:0<=(aU l).d9/\(aU l).d9<=2147483647:=by
   have e:(aU l).d9=if(er {cR with groups:=some (bK l).1} l (bK l).2 ((bG l 176 4).tmod 3) ((bG l 176 4).tmod 3).toNat)=[]then 0 else jY (bk l) (bK l).2:=rfl
   rw[e];split
   ·exact⟨by decide,by decide⟩
   ·exact vV _ _
  rw[f1];simp only[List.all_cons,List.all_nil,Bool.and_true,wI,Bool.and_eq_true,decide_eq_true_eq];omega
 rw[oP,m1,m2,m3,m4,m5,m6,m7,m8,m9];rfl
theorem CX{t:Tb} (h:t.Ln) (hm:oP t=true):(iG t).length<=973:=by
 simp only[oP,Bool.and_eq_true,List.all_eq_true,decide_eq_true_eq]at hm;obtain⟨⟨⟨⟨⟨⟨⟨⟨_,hg1,hg2⟩,_⟩,hd1,_⟩,hr1,_⟩,hb1,_⟩,_⟩,_⟩,_⟩:=hm
 have f1:=iY (e:=zS.e) (z:=22) (l:=t.phases) (fun x _=>by rw[Bf];omega) t.phases.length
 have f2:=iY (e:=CD.e) (z:=18) (l:=t.groups.getD []) (fun x hx=>Bi (hg2 x hx)) (t.groups.getD []).length
 have f3:=iY (e:=qL.e) (z:=37) (l:=t.aI.getD []) (fun x _=>by rw[yH];omega) (t.aI.getD []).length
 have f4:=iY (e:=CE.e) (z:=20) (l:=t.aZ.getD []) (fun x _=>by rw[Bg];omega) (t.aZ.getD []).length
 have f5:=iY (e:=CF.e) (z:=3) (l:=t.bS.getD []) (fun x _=>by rw[Bh];omega) (t.bS.getD []).length
 rw[List.take_length]at f1 f2 f3 f4 f5;rw[h.phases]at f1;unfold iG;rw[MX h];simp only[List.length_append,br,List.length_cons,List.length_nil,h.conflict,h.bA];omega
theorem yO(b:List Int):(j4 b).length=b.length+2:=by unfold j4;rw[List.length_append,eP]
theorem Bl(t:Tb):3<=(iG t).length:=by unfold iG;simp
theorem Mq{a b:List Int} (h1:nE a) (h2:nE b):nE (a++b):=fun x hx=>(List.mem_append.1 hx).elim (h1 x) (h2 x)
theorem CY{b:List Int} (h:nE b):nE (j4 b):=Mq h (wN _ _)
def r3(l:List Int):aY:=⟨some l,3,0,0⟩
theorem UY{l:List Int} (h3:3<=l.length) (h:l.length<=2048):(r3 l).Ok:=⟨by show(0:Int)<=3;omega,by show(3:Int)<=(l.length:Int);omega,by show(l.length:Int)<=1000000;omega⟩
theorem Mr(l:List Int):(r3 l).rest'=l.drop 3:=rfl
theorem Jq{t:Tb} (h:t.Ln) (hm:oP t=true):t.Ok:=by
 simp only[oP,Bool.and_eq_true,List.all_eq_true,decide_eq_true_eq]at hm;obtain⟨⟨⟨⟨⟨⟨⟨⟨_,hg1,hg2⟩,_⟩,hd1,_⟩,hr1,_⟩,hb1,_⟩,_⟩,_⟩,_⟩:=hm
 exact⟨h.phases,h.conflict,h.bA,by omega,fun g hg=>by have:=Aa (hg2 g hg);omega,by omega,by omega,by omega⟩
theorem DR{l:List Int} (hB:nE l) {t:Tb} {a:Int} (h:lS l=(t,0,a)):o6.v t/\l=j4 (iG t):=by
 unfold lS at h
 by_cases h1:l.length>2048
 ·rw[if_pos h1]at h;simp at h
 rw[if_neg h1]at h
 by_cases h2:l.length<3
 ·rw[if_pos h2]at h;simp at h
 rw[if_neg h2]at h
 by_cases h3:l.take 3≠[88,66,1]
 ·rw[if_pos h3]at h;simp at h
 rw[if_neg h3]at h;simp only[]at h
 by_cases h4:(qO.m (o6.m ⟨some l,3,0,0⟩).2).2.code≠0
 ·rw[if_pos h4]at h
  simp only[Prod.mk.injEq]at h;exact absurd h.2.1 h4
 rw[if_neg h4]at h
 have h4:=Classical.not_not.1 h4
 by_cases h5:(qO.m (o6.m ⟨some l,3,0,0⟩).2).1≠((kZ 0xffff#16 (l.take (o6.m ⟨some l,3,0,0⟩).2.fm.toNat)).toNat:Int)
 ·rw[if_pos h5]at h;simp at h
 rw[if_neg h5]at h
 have h5:=Classical.not_not.1 h5
 by_cases h6:(qO.m (o6.m ⟨some l,3,0,0⟩).2).2.fm<(l.length:Int)
 ·rw[if_pos h6]at h;simp at h
 rw[if_neg h6]at h
 have h3:=Classical.not_not.1 h3
 have hok:(r3 l).Ok:=UY (by omega) (by omega)
 have ht:(o6.m (r3 l)).1=t:=by simp only[Prod.mk.injEq]at h;exact h.1
 have hc1:(o6.m (r3 l)).2.code=0:=by
  by_cases hc:(o6.m (r3 l)).2.code=0
  ·exact hc
  ·exfalso
   have:=qO.stay _ hc
   change (qO.m (o6.m (r3 l)).2).2.code=0 at h4
   rw[this]at h4;exact hc h4
 obtain⟨v1,tl1,e1,g1⟩:=o6.wrote (r3 l) hok hB rfl hc1
 have hok1:=o6.ok (r3 l) hok
 have hb1:(o6.m (r3 l)).2.nE:=by unfold aY.nE;rw[o6.keep];exact hB
 obtain⟨v2,tl2,e2,g2⟩:=qO.wrote (o6.m (r3 l)).2 hok1 hb1 hc1 h4
 rw[ht]at v1 e1 g1
 have hr1:(o6.m (r3 l)).2.rest'=tl1:=by rw[g1];exact wK hok e1
 rw[hr1]at e2
 have hl:l=iG t++tl1:=by
  have:l=l.take 3++l.drop 3:=(List.take_append_drop 3 l).symm
  rw[Mr]at e1;rw[h3,e1]at this;rw[this];unfold iG;simp
 have hat1:(o6.m (r3 l)).2.fm=((iG t).length:Int):=by
  rw[g1]
  show(3:Int)+((o6.e t).length:Int)=_
  unfold iG;simp;omega
 have htl2:tl2=[]:=by
  have hg:(qO.m (o6.m (r3 l)).2).2.fm=((iG t).length:Int)+2:=by
   rw[g2];show(o6.m (r3 l)).2.fm+((mJ _ 2).length:Int)=_;rw[eP,hat1];rfl
  change ¬(qO.m (o6.m (r3 l)).2).2.fm<(l.length:Int)at h6
  rw[hg,hl,e2]at h6
  have hbl:(qO.e (qO.m (o6.m (r3 l)).2).1).length=2:=eP _ 2
  simp only[List.length_append,hbl]at h6;refine List.length_eq_zero_iff.1 ?_;omega
 refine⟨v1,?_⟩
 have hs5:(qO.m (o6.m (r3 l)).2).1=((kZ 0xffff#16 (iG t)).toNat:Int):=by
  have:(qO.m (o6.m (r3 l)).2).1=((kZ 0xffff#16 (l.take (o6.m (r3 l)).2.fm.toNat)).toNat:Int):=h5
  rw[this,hat1,Int.toNat_natCast];rw[hl,List.take_left]
 rw[hs5,htl2,List.append_nil]at e2;rw[hl,e2];rfl
theorem Jr{l:List Int} (hB:nE l):(lS l).1.Ok/\(lS l).1.Ln:=by
 by_cases hc:(lS l).2.1=0
 ·obtain⟨v,_⟩:=DR hB (t:=(lS l).1) (a:=(lS l).2.2) (by rw[<-hc])
  obtain⟨a,b,c⟩:=I0 v;exact⟨Jq a c,a⟩
 ·have:(lS l).1=cR:=by
   unfold lS at hc⊢;simp only[]at hc⊢;split
   ·rfl
   ·split
    ·rfl
    ·split
     ·rfl
     ·split
      ·rfl
      ·split
       ·rfl
       ·split
        ·rfl
        ·exfalso;simp_all
  rw[this];exact⟨Qq,⟨rfl,rfl,rfl⟩⟩
end Go.Eng
