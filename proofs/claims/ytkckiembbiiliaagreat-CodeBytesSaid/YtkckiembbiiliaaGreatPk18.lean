/- The engine and the library,part 18 of 21: what the proofs of this seat need of them. -/
import Derived.Test.YtkckiembbiiliaaGreatPk17
set_option linter.unnecessarySimpa false
set_option linter.unusedSimpArgs false
set_option linter.unusedVariables false
set_option linter.defProp false
set_option maxRecDepth 10000
set_option maxHeartbeats 4000000
namespace Go.Eng
open Go
theorem jD:IntKind.i64.wrap 1=1/\IntKind.i64.wrap 2=2/\IntKind.i64.wrap 3=3/\IntKind.i64.wrap 4=4/\IntKind.i64.wrap 5=5/\IntKind.i64.wrap 6=6/\IntKind.i64.wrap 7=7/\IntKind.i64.wrap 8=8/\IntKind.i64.wrap 9=9:=by decide
section
variable{P:Program} (hm:P.follows .mixedOrders=true) {f:Nat}
include hm
theorem Kg.ok{fN fF f1 f2 f3 f4 fT e:Nat} (hc:ji true P f=some (gm fN fF f1 f2 f3 f4 fT)) (hN:xQ.Spec (Pure P) e fN) (hF:Ke.Spec (Pure P) e fF) (h1:Rv.Spec (Pure P) f1) (h2:Rw.Spec (Pure P) f2) (h3:Rx.Spec (Pure P) f3) (h4:Ry.Spec (Pure P) f4) (hT:xG.Spec (Pure P) e fT):Kg.Spec (Pure P) e f:=by
 refine om hm hc (by show 1<=26;decide) fun r hr hz Q hQ=>ax (keep:=[]) (i:=0) ?_
 unfold j0 at hQ;rw[rO]at hQ;try simp only[I,B,D,RX,aK,aL,aN,↓KW,↓aM,seval,gm,Z.H,bz]
 obtain⟨v0,r0,e0,k0,u0,hQ⟩:=aZ hQ hr
 have p0:=(hN 1 7 (by decide) (by decide)).step hr hz e0
 by_cases z0:r0.code=0
 rotate_left
 ·obtain⟨cs,hq⟩:=p0.2 z0
  refine⟨rfl,aI hq ?_⟩;try simp only[I,B,D,RX,aK,aL,aN,↓KW,↓aM,seval,bz]
  exact u0 z0 _ _ ⟨rfl,trivial⟩
 refine⟨rfl,aC (p0.1 z0) ?_⟩;try simp only[I,B,D,RX,aK,aL,aN,↓KW,↓aM,seval,bz,jD]
 obtain⟨v1,r1,e1,k1,u1,hQ⟩:=aZ hQ k0
 have p1:=(hF f1 1 true (.inl ⟨rfl,rfl⟩) h1).step k0 z0 e1
 by_cases z1:r1.code=0
 rotate_left
 ·obtain⟨cs,hq⟩:=p1.2 z1
  refine⟨rfl,aI hq ?_⟩;try simp only[I,B,D,RX,aK,aL,aN,↓KW,↓aM,seval,bz]
  exact u1 z1 _ _ ⟨rfl,trivial⟩
 refine⟨rfl,aC (p1.1 z1) ?_⟩;try simp only[I,B,D,RX,aK,aL,aN,↓KW,↓aM,seval,bz,jD]
 obtain⟨v2,r2,e2,k2,u2,hQ⟩:=aZ hQ k1
 have p2:=(hF f2 2 true (.inr (.inl ⟨rfl,rfl⟩)) h2).step k1 z1 e2
 by_cases z2:r2.code=0
 rotate_left
 ·obtain⟨cs,hq⟩:=p2.2 z2
  refine⟨rfl,aI hq ?_⟩;try simp only[I,B,D,RX,aK,aL,aN,↓KW,↓aM,seval,bz]
  exact u2 z2 _ _ ⟨rfl,trivial⟩
 refine⟨rfl,aC (p2.1 z2) ?_⟩;try simp only[I,B,D,RX,aK,aL,aN,↓KW,↓aM,seval,bz,jD]
 obtain⟨v3,r3,e3,k3,u3,hQ⟩:=aZ hQ k2
 have p3:=(hF f3 3 false (.inr (.inr (.inl ⟨rfl,rfl⟩))) h3).step k2 z2 e3
 by_cases z3:r3.code=0
 rotate_left
 ·obtain⟨cs,hq⟩:=p3.2 z3
  refine⟨rfl,aI hq ?_⟩;try simp only[I,B,D,RX,aK,aL,aN,↓KW,↓aM,seval,bz]
  exact u3 z3 _ _ ⟨rfl,trivial⟩
 refine⟨rfl,aC (p3.1 z3) ?_⟩;try simp only[I,B,D,RX,aK,aL,aN,↓KW,↓aM,seval,bz,jD]
 obtain⟨v4,r4,e4,k4,u4,hQ⟩:=aZ hQ k3
 have p4:=(hF f4 4 false (.inr (.inr (.inr ⟨rfl,rfl⟩))) h4).step k3 z3 e4
 by_cases z4:r4.code=0
 rotate_left
 ·obtain⟨cs,hq⟩:=p4.2 z4
  refine⟨rfl,aI hq ?_⟩;try simp only[I,B,D,RX,aK,aL,aN,↓KW,↓aM,seval,bz]
  exact u4 z4 _ _ ⟨rfl,trivial⟩
 refine⟨rfl,aC (p4.1 z4) ?_⟩;try simp only[I,B,D,RX,aK,aL,aN,↓KW,↓aM,seval,bz,jD]
 obtain⟨v5,r5,e5,k5,u5,hQ⟩:=aZ hQ k4
 have p5:=hT.step k4 z4 e5
 by_cases z5:r5.code=0
 rotate_left
 ·obtain⟨cs,hq⟩:=p5.2 z5
  refine⟨rfl,aI hq ?_⟩;try simp only[I,B,D,RX,aK,aL,aN,↓KW,↓aM,seval,bz]
  exact u5 z5 _ _ ⟨rfl,trivial⟩
 refine⟨rfl,aC (p5.1 z5) ?_⟩;try simp only[I,B,D,RX,aK,aL,aN,↓KW,↓aM,seval,bz,jD]
 obtain⟨v6,r6,e6,k6,u6,hQ⟩:=jX hQ k5
 have p6:=hT.step k5 z5 e6
 by_cases z6:r6.code=0
 rotate_left
 ·obtain⟨cs,hq⟩:=p6.2 z6
  refine⟨rfl,aI hq ?_⟩;try simp only[I,B,D,RX,aK,aL,aN,↓KW,↓aM,seval,bz]
  exact u6 z6 _ _ ⟨rfl,trivial⟩
 refine⟨rfl,aC (p6.1 z6) ?_⟩;try simp only[I,B,D,RX,aK,aL,aN,↓KW,↓aM,seval,bz,jD]
 refine iX hQ z6 ?_;try simp only[I,B,D,RX,aK,aL,aN,↓KW,↓aM,seval,gm,fy.cells]
theorem VG.ok{fY fT fN e:Nat} (hc:ji true P f=some (ic fY fT fN)) (hY:Kb.Spec (Pure P) e fY) (hT:xG.Spec (Pure P) e fT) (hN:xQ.Spec (Pure P) e fN):VG.Spec (Pure P) e f:=by
 refine om hm hc (by show 1<=39;decide) fun r hr hz Q hQ=>ax (keep:=[]) (i:=0) ?_
 unfold sY at hQ;rw[rO]at hQ;try simp only[I,B,D,RX,aK,aL,aN,↓KW,↓aM,seval,ic,Z.H,bz,dh]
 obtain⟨v0,r0,e0,k0,u0,hQ⟩:=aZ hQ hr
 have p0:=hY.step hr hz e0
 by_cases z0:r0.code=0
 rotate_left
 ·obtain⟨cs,hq⟩:=p0.2 z0
  refine⟨rfl,aI hq ?_⟩;try simp only[I,B,D,RX,aK,aL,aN,↓KW,↓aM,seval,bz]
  exact u0 z0 _ _ ⟨rfl,trivial⟩
 refine⟨rfl,aC (p0.1 z0) ?_⟩;try simp only[I,B,D,RX,aK,aL,aN,↓KW,↓aM,seval,bz,jD]
 refine br ?_;try simp only[I,B,D,RX,aK,aL,aN,↓KW,↓aM,seval,bz,jD]
 obtain⟨v1,r1,e1,k1,u1,hQ⟩:=aZ hQ k0
 have p1:=hT.step k0 z0 e1
 by_cases z1:r1.code=0
 rotate_left
 ·obtain⟨cs,hq⟩:=p1.2 z1
  refine⟨rfl,aI hq ?_⟩;try simp only[I,B,D,RX,aK,aL,aN,↓KW,↓aM,seval,bz]
  exact u1 z1 _ _ ⟨rfl,trivial⟩
 refine⟨rfl,aC (p1.1 z1) ?_⟩;try simp only[I,B,D,RX,aK,aL,aN,↓KW,↓aM,seval,bz,jD]
 refine br ?_;try simp only[I,B,D,RX,aK,aL,aN,↓KW,↓aM,seval,bz,jD]
 obtain⟨v2,r2,e2,k2,u2,hQ⟩:=aZ hQ k1
 have p2:=hT.step k1 z1 e2
 by_cases z2:r2.code=0
 rotate_left
 ·obtain⟨cs,hq⟩:=p2.2 z2
  refine⟨rfl,aI hq ?_⟩;try simp only[I,B,D,RX,aK,aL,aN,↓KW,↓aM,seval,bz]
  exact u2 z2 _ _ ⟨rfl,trivial⟩
 refine⟨rfl,aC (p2.1 z2) ?_⟩;try simp only[I,B,D,RX,aK,aL,aN,↓KW,↓aM,seval,bz,jD]
 refine br ?_;try simp only[I,B,D,RX,aK,aL,aN,↓KW,↓aM,seval,bz,jD]
 obtain⟨v3,r3,e3,k3,u3,hQ⟩:=aZ hQ k2
 have p3:=hT.step k2 z2 e3
 by_cases z3:r3.code=0
 rotate_left
 ·obtain⟨cs,hq⟩:=p3.2 z3
  refine⟨rfl,aI hq ?_⟩;try simp only[I,B,D,RX,aK,aL,aN,↓KW,↓aM,seval,bz]
  exact u3 z3 _ _ ⟨rfl,trivial⟩
 refine⟨rfl,aC (p3.1 z3) ?_⟩;try simp only[I,B,D,RX,aK,aL,aN,↓KW,↓aM,seval,bz,jD]
 refine br ?_;try simp only[I,B,D,RX,aK,aL,aN,↓KW,↓aM,seval,bz,jD]
 obtain⟨v4,r4,e4,k4,u4,hQ⟩:=aZ hQ k3
 have p4:=hT.step k3 z3 e4
 by_cases z4:r4.code=0
 rotate_left
 ·obtain⟨cs,hq⟩:=p4.2 z4
  refine⟨rfl,aI hq ?_⟩;try simp only[I,B,D,RX,aK,aL,aN,↓KW,↓aM,seval,bz]
  exact u4 z4 _ _ ⟨rfl,trivial⟩
 refine⟨rfl,aC (p4.1 z4) ?_⟩;try simp only[I,B,D,RX,aK,aL,aN,↓KW,↓aM,seval,bz,jD]
 refine br ?_;try simp only[I,B,D,RX,aK,aL,aN,↓KW,↓aM,seval,bz,jD]
 obtain⟨v5,r5,e5,k5,u5,hQ⟩:=aZ hQ k4
 have p5:=hT.step k4 z4 e5
 by_cases z5:r5.code=0
 rotate_left
 ·obtain⟨cs,hq⟩:=p5.2 z5
  refine⟨rfl,aI hq ?_⟩;try simp only[I,B,D,RX,aK,aL,aN,↓KW,↓aM,seval,bz]
  exact u5 z5 _ _ ⟨rfl,trivial⟩
 refine⟨rfl,aC (p5.1 z5) ?_⟩;try simp only[I,B,D,RX,aK,aL,aN,↓KW,↓aM,seval,bz,jD]
 refine br ?_;try simp only[I,B,D,RX,aK,aL,aN,↓KW,↓aM,seval,bz,jD]
 obtain⟨v6,r6,e6,k6,u6,hQ⟩:=aZ hQ k5
 have p6:=hT.step k5 z5 e6
 by_cases z6:r6.code=0
 rotate_left
 ·obtain⟨cs,hq⟩:=p6.2 z6
  refine⟨rfl,aI hq ?_⟩;try simp only[I,B,D,RX,aK,aL,aN,↓KW,↓aM,seval,bz]
  exact u6 z6 _ _ ⟨rfl,trivial⟩
 refine⟨rfl,aC (p6.1 z6) ?_⟩;try simp only[I,B,D,RX,aK,aL,aN,↓KW,↓aM,seval,bz,jD]
 refine br ?_;try simp only[I,B,D,RX,aK,aL,aN,↓KW,↓aM,seval,bz,jD]
 obtain⟨v7,r7,e7,k7,u7,hQ⟩:=aZ hQ k6
 have p7:=hT.step k6 z6 e7
 by_cases z7:r7.code=0
 rotate_left
 ·obtain⟨cs,hq⟩:=p7.2 z7
  refine⟨rfl,aI hq ?_⟩;try simp only[I,B,D,RX,aK,aL,aN,↓KW,↓aM,seval,bz]
  exact u7 z7 _ _ ⟨rfl,trivial⟩
 refine⟨rfl,aC (p7.1 z7) ?_⟩;try simp only[I,B,D,RX,aK,aL,aN,↓KW,↓aM,seval,bz,jD]
 refine br ?_;try simp only[I,B,D,RX,aK,aL,aN,↓KW,↓aM,seval,bz,jD]
 obtain⟨v8,r8,e8,k8,u8,hQ⟩:=aZ hQ k7
 have p8:=hT.step k7 z7 e8
 by_cases z8:r8.code=0
 rotate_left
 ·obtain⟨cs,hq⟩:=p8.2 z8
  refine⟨rfl,aI hq ?_⟩;try simp only[I,B,D,RX,aK,aL,aN,↓KW,↓aM,seval,bz]
  exact u8 z8 _ _ ⟨rfl,trivial⟩
 refine⟨rfl,aC (p8.1 z8) ?_⟩;try simp only[I,B,D,RX,aK,aL,aN,↓KW,↓aM,seval,bz,jD]
 refine br ?_;try simp only[I,B,D,RX,aK,aL,aN,↓KW,↓aM,seval,bz,jD]
 obtain⟨v9,r9,e9,k9,u9,hQ⟩:=aZ hQ k8
 have p9:=hT.step k8 z8 e9
 by_cases z9:r9.code=0
 rotate_left
 ·obtain⟨cs,hq⟩:=p9.2 z9
  refine⟨rfl,aI hq ?_⟩;try simp only[I,B,D,RX,aK,aL,aN,↓KW,↓aM,seval,bz]
  exact u9 z9 _ _ ⟨rfl,trivial⟩
 refine⟨rfl,aC (p9.1 z9) ?_⟩;try simp only[I,B,D,RX,aK,aL,aN,↓KW,↓aM,seval,bz,jD]
 refine br ?_;try simp only[I,B,D,RX,aK,aL,aN,↓KW,↓aM,seval,bz,jD]
 obtain⟨v10,r10,e10,k10,u10,hQ⟩:=aZ hQ k9
 have p10:=(hN 1 3 (by decide) (by decide)).step k9 z9 e10
 by_cases z10:r10.code=0
 rotate_left
 ·obtain⟨cs,hq⟩:=p10.2 z10
  refine⟨rfl,aI hq ?_⟩;try simp only[I,B,D,RX,aK,aL,aN,↓KW,↓aM,seval,bz]
  exact u10 z10 _ _ ⟨rfl,trivial⟩
 refine⟨rfl,aC (p10.1 z10) ?_⟩;try simp only[I,B,D,RX,aK,aL,aN,↓KW,↓aM,seval,bz,jD]
 obtain⟨v11,r11,e11,k11,u11,hQ⟩:=aZ hQ k10
 have p11:=hY.step k10 z10 e11
 by_cases z11:r11.code=0
 rotate_left
 ·obtain⟨cs,hq⟩:=p11.2 z11
  refine⟨rfl,aI hq ?_⟩;try simp only[I,B,D,RX,aK,aL,aN,↓KW,↓aM,seval,bz]
  exact u11 z11 _ _ ⟨rfl,trivial⟩
 refine⟨rfl,aC (p11.1 z11) ?_⟩;try simp only[I,B,D,RX,aK,aL,aN,↓KW,↓aM,seval,bz,jD]
 obtain⟨v12,r12,e12,k12,u12,hQ⟩:=jX hQ k11
 have p12:=hY.step k11 z11 e12
 by_cases z12:r12.code=0
 rotate_left
 ·obtain⟨cs,hq⟩:=p12.2 z12
  refine⟨rfl,aI hq ?_⟩;try simp only[I,B,D,RX,aK,aL,aN,↓KW,↓aM,seval,bz]
  exact u12 z12 _ _ ⟨rfl,trivial⟩
 refine⟨rfl,aC (p12.1 z12) ?_⟩;try simp only[I,B,D,RX,aK,aL,aN,↓KW,↓aM,seval,bz,jD]
 refine iX hQ z12 ?_;try simp only[I,B,D,RX,aK,aL,aN,↓KW,↓aM,seval,ic,Ph.cells]
theorem VH.ok{fS fT fN e:Nat} (hc:ji true P f=some (iQ fS fT fN)) (hS:Hr.Spec (Pure P) e fS) (hT:xG.Spec (Pure P) e fT) (hN:xQ.Spec (Pure P) e fN):VH.Spec (Pure P) e f:=by
 refine om hm hc (by show 1<=44;decide) fun r hr hz Q hQ=>ax (keep:=[]) (i:=0) ?_
 unfold uA at hQ;rw[rO]at hQ;try simp only[I,B,D,RX,aK,aL,aN,↓KW,↓aM,seval,iQ,Z.H,bz,dG]
 refine br ?_;try simp only[I,B,D,RX,aK,aL,aN,↓KW,↓aM,seval,bz,jD]
 obtain⟨v0,r0,e0,k0,u0,hQ⟩:=aZ hQ hr
 have p0:=hS.step hr hz e0
 by_cases z0:r0.code=0
 rotate_left
 ·obtain⟨cs,hq⟩:=p0.2 z0
  refine⟨rfl,aI hq ?_⟩;try simp only[I,B,D,RX,aK,aL,aN,↓KW,↓aM,seval,bz]
  exact u0 z0 _ _ ⟨rfl,trivial⟩
 refine⟨rfl,aC (p0.1 z0) ?_⟩;try simp only[I,B,D,RX,aK,aL,aN,↓KW,↓aM,seval,bz,jD]
 refine br ?_;try simp only[I,B,D,RX,aK,aL,aN,↓KW,↓aM,seval,bz,jD]
 obtain⟨v1,r1,e1,k1,u1,hQ⟩:=aZ hQ k0
 have p1:=hS.step k0 z0 e1
 by_cases z1:r1.code=0
 rotate_left
 ·obtain⟨cs,hq⟩:=p1.2 z1
  refine⟨rfl,aI hq ?_⟩;try simp only[I,B,D,RX,aK,aL,aN,↓KW,↓aM,seval,bz]
  exact u1 z1 _ _ ⟨rfl,trivial⟩
 refine⟨rfl,aC (p1.1 z1) ?_⟩;try simp only[I,B,D,RX,aK,aL,aN,↓KW,↓aM,seval,bz,jD]
 refine br ?_;try simp only[I,B,D,RX,aK,aL,aN,↓KW,↓aM,seval,bz,jD]
 obtain⟨v2,r2,e2,k2,u2,hQ⟩:=aZ hQ k1
 have p2:=hS.step k1 z1 e2
 by_cases z2:r2.code=0
 rotate_left
 ·obtain⟨cs,hq⟩:=p2.2 z2
  refine⟨rfl,aI hq ?_⟩;try simp only[I,B,D,RX,aK,aL,aN,↓KW,↓aM,seval,bz]
  exact u2 z2 _ _ ⟨rfl,trivial⟩
 refine⟨rfl,aC (p2.1 z2) ?_⟩;try simp only[I,B,D,RX,aK,aL,aN,↓KW,↓aM,seval,bz,jD]
 refine br ?_;try simp only[I,B,D,RX,aK,aL,aN,↓KW,↓aM,seval,bz,jD]
 obtain⟨v3,r3,e3,k3,u3,hQ⟩:=aZ hQ k2
 have p3:=hS.step k2 z2 e3
 by_cases z3:r3.code=0
 rotate_left
 ·obtain⟨cs,hq⟩:=p3.2 z3
  refine⟨rfl,aI hq ?_⟩;try simp only[I,B,D,RX,aK,aL,aN,↓KW,↓aM,seval,bz]
  exact u3 z3 _ _ ⟨rfl,trivial⟩
 refine⟨rfl,aC (p3.1 z3) ?_⟩;try simp only[I,B,D,RX,aK,aL,aN,↓KW,↓aM,seval,bz,jD]
 refine br ?_;try simp only[I,B,D,RX,aK,aL,aN,↓KW,↓aM,seval,bz,jD]
 refine br ?_;try simp only[I,B,D,RX,aK,aL,aN,↓KW,↓aM,seval,bz,jD]
 obtain⟨v4,r4,e4,k4,u4,hQ⟩:=aZ hQ k3
 have p4:=hT.step k3 z3 e4
 by_cases z4:r4.code=0
 rotate_left
 ·obtain⟨cs,hq⟩:=p4.2 z4
  refine⟨rfl,aI hq ?_⟩;try simp only[I,B,D,RX,aK,aL,aN,↓KW,↓aM,seval,bz]
  exact u4 z4 _ _ ⟨rfl,trivial⟩
 refine⟨rfl,aC (p4.1 z4) ?_⟩;try simp only[I,B,D,RX,aK,aL,aN,↓KW,↓aM,seval,bz,jD]
 refine br ?_;try simp only[I,B,D,RX,aK,aL,aN,↓KW,↓aM,seval,bz,jD]
 obtain⟨v5,r5,e5,k5,u5,hQ⟩:=aZ hQ k4
 have p5:=hT.step k4 z4 e5
 by_cases z5:r5.code=0
 rotate_left
 ·obtain⟨cs,hq⟩:=p5.2 z5
  refine⟨rfl,aI hq ?_⟩;try simp only[I,B,D,RX,aK,aL,aN,↓KW,↓aM,seval,bz]
  exact u5 z5 _ _ ⟨rfl,trivial⟩
 refine⟨rfl,aC (p5.1 z5) ?_⟩;try simp only[I,B,D,RX,aK,aL,aN,↓KW,↓aM,seval,bz,jD]
 refine br ?_;try simp only[I,B,D,RX,aK,aL,aN,↓KW,↓aM,seval,bz,jD]
 obtain⟨v6,r6,e6,k6,u6,hQ⟩:=aZ hQ k5
 have p6:=hT.step k5 z5 e6
 by_cases z6:r6.code=0
 rotate_left
 ·obtain⟨cs,hq⟩:=p6.2 z6
  refine⟨rfl,aI hq ?_⟩;try simp only[I,B,D,RX,aK,aL,aN,↓KW,↓aM,seval,bz]
  exact u6 z6 _ _ ⟨rfl,trivial⟩
 refine⟨rfl,aC (p6.1 z6) ?_⟩;try simp only[I,B,D,RX,aK,aL,aN,↓KW,↓aM,seval,bz,jD]
 refine br ?_;try simp only[I,B,D,RX,aK,aL,aN,↓KW,↓aM,seval,bz,jD]
 obtain⟨v7,r7,e7,k7,u7,hQ⟩:=aZ hQ k6
 have p7:=hT.step k6 z6 e7
 by_cases z7:r7.code=0
 rotate_left
 ·obtain⟨cs,hq⟩:=p7.2 z7
  refine⟨rfl,aI hq ?_⟩;try simp only[I,B,D,RX,aK,aL,aN,↓KW,↓aM,seval,bz]
  exact u7 z7 _ _ ⟨rfl,trivial⟩
 refine⟨rfl,aC (p7.1 z7) ?_⟩;try simp only[I,B,D,RX,aK,aL,aN,↓KW,↓aM,seval,bz,jD]
 refine br ?_;try simp only[I,B,D,RX,aK,aL,aN,↓KW,↓aM,seval,bz,jD]
 obtain⟨v8,r8,e8,k8,u8,hQ⟩:=aZ hQ k7
 have p8:=hT.step k7 z7 e8
 by_cases z8:r8.code=0
 rotate_left
 ·obtain⟨cs,hq⟩:=p8.2 z8
  refine⟨rfl,aI hq ?_⟩;try simp only[I,B,D,RX,aK,aL,aN,↓KW,↓aM,seval,bz]
  exact u8 z8 _ _ ⟨rfl,trivial⟩
 refine⟨rfl,aC (p8.1 z8) ?_⟩;try simp only[I,B,D,RX,aK,aL,aN,↓KW,↓aM,seval,bz,jD]
 refine br ?_;try simp only[I,B,D,RX,aK,aL,aN,↓KW,↓aM,seval,bz,jD]
 obtain⟨v9,r9,e9,k9,u9,hQ⟩:=aZ hQ k8
 have p9:=hT.step k8 z8 e9
 by_cases z9:r9.code=0
 rotate_left
 ·obtain⟨cs,hq⟩:=p9.2 z9
  refine⟨rfl,aI hq ?_⟩;try simp only[I,B,D,RX,aK,aL,aN,↓KW,↓aM,seval,bz]
  exact u9 z9 _ _ ⟨rfl,trivial⟩
 refine⟨rfl,aC (p9.1 z9) ?_⟩;try simp only[I,B,D,RX,aK,aL,aN,↓KW,↓aM,seval,bz,jD]
 refine br ?_;try simp only[I,B,D,RX,aK,aL,aN,↓KW,↓aM,seval,bz,jD]
 obtain⟨v10,r10,e10,k10,u10,hQ⟩:=jX hQ k9
 have p10:=(hN 4 2147483647 (by decide) (by decide)).step k9 z9 e10
 by_cases z10:r10.code=0
 rotate_left
 ·obtain⟨cs,hq⟩:=p10.2 z10
  refine⟨rfl,aI hq ?_⟩;try simp only[I,B,D,RX,aK,aL,aN,↓KW,↓aM,seval,bz]
  exact u10 z10 _ _ ⟨rfl,trivial⟩
 refine⟨rfl,aC (p10.1 z10) ?_⟩;try simp only[I,B,D,RX,aK,aL,aN,↓KW,↓aM,seval,bz,jD]
 refine iX hQ z10 ?_;try simp only[I,B,D,RX,aK,aL,aN,↓KW,↓aM,seval,iQ,Rl.cells]
end
theorem DO{α:Type} {e:Nat} {res:List gb} {Q:Exit->S->Prop} {c:Cd α} {enc:List α->AV} {n i:Nat} {r:bk} (hQ:Q=ie e res enc ((c.rep (n-i)).m r)) (h:i<n) (hr:r.Ok):
  ∃v r',c.m r=(v,r')/\r'.Ok/\(r'.code≠0->∀s cs,gi s.boxes 0 [cs]->Q (.panic (d8 (up e r'))) s)/\Q=ie e res (fun y=>enc (v::y)) ((c.rep (n-(i+1))).m r'):=by
 have hQ':Q=ie e res (fun x=>enc (x.1::x.2)) ((c.seq fun _=>c.rep (n-(i+1))).m r):=by
  rw[show n-i=(n-(i+1))+1 by omega]at hQ
  rw[hQ];funext ex s;cases ex<;>rfl
 exact aZ hQ' hr
theorem Bg{α:Type} {e:Nat} {res:List gb} {Q:Exit->S->Prop} {c:Cd α} {enc:List α->AV} {n i:Nat} {r:bk} (hQ:Q=ie e res enc ((c.rep (n-i)).m r)) (h:i=n):Q=ie e res enc ([],r):=by
 subst h;rw[Nat.sub_self]at hQ;exact hQ
section
variable{P:Program} (hm:P.follows .mixedOrders=true) {f:Nat}
include hm
theorem Kf.ok{fN eI e:Nat} (hc:ji true P f=some (dX fN eI)) (hN:xQ.Spec (Pure P) e fN):Kf.Spec (Pure P) e f:=by
 refine om hm hc (by show 1<=15;decide) fun r hr hz Q hQ=>ax (keep:=[]) (i:=0) ?_
 unfold lI Cd.many at hQ;rw[rO]at hQ;try simp only[I,B,D,RX,aK,aL,aN,↓KW,↓aM,seval,dX,Z.H,bz]
 obtain⟨v0,r0,e0,k0,u0,hQ⟩:=aZ hQ hr
 have p0:=(hN 1 8 (by decide) (by decide)).step hr hz e0
 by_cases z0:r0.code=0
 rotate_left
 ·obtain⟨cs,hq⟩:=p0.2 z0
  refine⟨rfl,aI hq ?_⟩;try simp only[I,B,D,RX,aK,aL,aN,↓KW,↓aM,seval,bz]
  exact u0 z0 _ _ ⟨rfl,trivial⟩
 refine⟨rfl,aC (p0.1 z0) ?_⟩;try simp only[I,B,D,RX,aK,aL,aN,↓KW,↓aM,seval,bz]
 have hb:0<=v0/\v0<=8:=by have:=sH r 1 8 (by decide);rw[show gI r 1 0 8=(v0,r0)from e0]at this;exact this
 obtain⟨N,rfl,hN8⟩:∃N:Nat,v0=(N:Int)/\N<=8:=⟨v0.toNat,by omega,by omega⟩
 simp only[Int.toNat_natCast]at hQ
 refine aH (fun x:List Int×bk=>(⟨[(5,.dat (I N) none),(6,.dat (I x.1.length) none),(3,bQ aA x.1 0),(1,.pt 2 [(0,0)])],[(0,⟨x.2.cells,[]⟩)],bq x.1 0 eI,400⟩:S)) (fun x=>N-x.1.length) (fun x=>x.1.length<=N/\x.2.Ok/\x.2.code=0/\Q=ie e (dX fN eI).res (fun y=>aD aA (bf (x.1++y))) (((cF 7 (by decide)).rep (N-x.1.length)).m x.2)) ?_ ([],r0) ⟨by simp,k0,z0,hQ⟩ ?_
 ·intro x hx A back
  obtain⟨L,q⟩:=x;obtain⟨hL,hq,hz,hQ⟩:=hx;simp only at hL hq hz hQ
  cases L with
  |nil=>
   try simp only[I,B,D,RX,aK,aL,aN,↓KW,↓aM,seval,bz,bQ,bq,List.length_nil]
   refine aq (fun h=>?_) (fun h=>?_)<;>try simp only[I,B,D,RX,aK,aL,aN,↓KW,↓aM,seval,h]
   ·have h3:0<N:=by have:=of_decide_eq_true h;simpa using this
    obtain⟨v1,r1,e1,k1,u1,hQ⟩:=DO hQ h3 hq
    have p1:=(hN 1 7 (by decide) (by decide)).step hq hz e1
    by_cases z1:r1.code=0
    rotate_left
    ·obtain⟨cs,hq'⟩:=p1.2 z1
     refine⟨rfl,aI hq' ?_⟩;try simp only[I,B,D,RX,aK,aL,aN,↓KW,↓aM,seval,bz]
     exact u1 z1 _ _ ⟨rfl,trivial⟩
    refine⟨rfl,aC (p1.1 z1) ?_⟩;try simp only[I,B,D,RX,aK,aL,aN,↓KW,↓aM,seval,bz]
    refine back ([v1],r1) _ ⟨by simp at h3⊢;omega,k1,z1,hQ⟩ (by simp at h3⊢;omega) ?_
    refine ah (by decide) ?_ ?_ ?_ ?_<;>simp[LX,I,B,D,bQ,bq,cR,aA,jD]
   ·have h3:0=N:=by have:=of_decide_eq_false h;omega
    have hQ:=Bg hQ h3
    refine iX hQ hz ?_;try simp only[I,B,D,RX,aK,aL,aN,↓KW,↓aM,seval,dX,List.append_nil,bf,aD]
  |cons y ys=>
   have hw1:IntKind.i64.wrap ((ys.length:Int)+1+1)=(ys.length:Int)+1+1:=bC (by omega) (by simp only[List.length_cons]at hL;omega)
   try simp only[I,B,D,RX,aK,aL,aN,↓KW,↓aM,seval,bz,bQ,bq,reduceCtorEq]
   refine aq (fun h=>?_) (fun h=>?_)<;>try simp only[I,B,D,RX,aK,aL,aN,↓KW,↓aM,seval,h]
   ·have h3:(y::ys).length<N:=by have:=of_decide_eq_true h;simp only[List.length_cons]at this⊢;omega
    obtain⟨v1,r1,e1,k1,u1,hQ⟩:=DO hQ h3 hq
    have p1:=(hN 1 7 (by decide) (by decide)).step hq hz e1
    by_cases z1:r1.code=0
    rotate_left
    ·obtain⟨cs,hq'⟩:=p1.2 z1
     refine⟨rfl,aI hq' ?_⟩;try simp only[I,B,D,RX,aK,aL,aN,↓KW,↓aM,seval,bz]
     exact u1 z1 _ _ ⟨rfl,trivial⟩
    refine⟨rfl,aC (p1.1 z1) ?_⟩;try simp only[I,B,D,RX,aK,aL,aN,↓KW,↓aM,seval,bz]
    repeat(refine And.intro (by first|omega|(simp at h3⊢;omega)) ?_)
    refine back ((y::ys)++[v1],r1) _ ⟨by simp at h3⊢;omega,k1,z1,by rw[hQ];simp⟩ (by simp at h3⊢;omega) ?_
    refine ah (by decide) ?_ ?_ ?_ ?_<;>simp[LX,I,B,D,bQ,bq,cR,aA,hw1]
   ·have h3:(y::ys).length=N:=by have:=of_decide_eq_false h;simp only[List.length_cons]at this hL⊢;omega
    have hQ:=Bg hQ h3
    refine iX hQ hz ?_;try simp only[I,B,D,RX,aK,aL,aN,↓KW,↓aM,seval,dX,List.append_nil,bf,aD,reduceCtorEq]
 ·refine ah (by decide) ?_ ?_ ?_ ?_<;>simp[LX,I,B,D,bQ,bq,cR]
end
section
variable{α β γ:Type} {e:Nat} {res:List gb} {Q:Exit->S->Prop}
theorem pV{a:Cd α} {b:α->Cd β} {c:α×β->Cd γ} {enc:(α×β)×γ->AV} {r:bk}:ie e res enc (((a.seq b).seq c).m r)=ie e res (fun x=>enc ((x.1,x.2.1),x.2.2)) ((a.seq fun x=>(b x).seq fun y=>c (x,y)).m r):=by
 funext ex s;cases ex<;>rfl
theorem sM{a:Cd α} {f:α->β} {g:β->α} {h:∀x,a.v x->g (f x)=x} {c:β->Cd γ} {enc:β×γ->AV} {r:bk}:ie e res enc (((a.map f g h).seq c).m r)=ie e res (fun x=>enc (f x.1,x.2)) ((a.seq fun x=>c (f x)).m r):=by
 funext ex s;cases ex<;>rfl
theorem gG{c:Cd α} {R:List α->Cd γ} {enc:List α×γ->AV} {n i:Nat} {r:bk} (hQ:Q=ie e res enc (((c.rep (n-i)).seq R).m r)) (h:i<n) (hr:r.Ok):
  ∃v r',c.m r=(v,r')/\r'.Ok/\(r'.code≠0->∀s cs,gi s.boxes 0 [cs]->Q (.panic (d8 (up e r'))) s)/\Q=ie e res (fun y=>enc (v::y.1,y.2)) (((c.rep (n-(i+1))).seq fun l=>R (v::l)).m r'):=by
 have hQ':Q=ie e res (fun x=>enc (x.1::x.2.1,x.2.2)) ((c.seq fun v=>(c.rep (n-(i+1))).seq fun l=>R (v::l)).m r):=by
  rw[show n-i=(n-(i+1))+1 by omega]at hQ
  rw[hQ];funext ex s;cases ex<;>rfl
 exact aZ hQ' hr
theorem fZ{c:Cd α} {R:List α->Cd γ} {enc:List α×γ->AV} {n i:Nat} {r:bk} (hQ:Q=ie e res enc (((c.rep (n-i)).seq R).m r)) (h:i=n):Q=ie e res (fun y=>enc ([],y)) ((R []).m r):=by
 subst h;rw[Nat.sub_self]at hQ;rw[hQ];funext ex s;cases ex<;>rfl
end
def VI{α:Type} (ex:Exit) (st:α->S) (J:α->Prop) (Q:Exit->S->Prop) (e:Exit) (s:S):Prop:=(e=ex/\∃y,J y/\Le s (st y))\/(e≠ex/\Q e s)
theorem gS{α:Type} {ex:Exit} {st:α->S} {J:α->Prop} {Q:Exit->S->Prop} {s:S} (y:α) (hy:J y) (hle:Le s (st y)):VI ex st J Q ex s:=.inl ⟨rfl,y,hy,hle⟩
theorem kB{C:bw} {c:bn} {Q:Exit->S->Prop} {s:S} {F:S->Prop} {α:Type} (ex:Exit) (st:α->S) (J:α->Prop) (hQ:∀s',Q ex s'=down F s') (h1:aw C c (VI ex st J Q) s) (h2:∀y,J y->F (st y)):aw C c Q s:=by
 refine ij (fun e s' h=>?_) h1
 rcases h with⟨rfl,y,hy,hle⟩|⟨_,h⟩
 ·rw[hQ];exact rS hle (h2 y hy)
 ·exact h
def Kh.Spec(C:bw) (e f:Nat):Prop:=qk ot (fun t=>.agg t.cells) [] C e f
section
variable{P:Program} (hm:P.follows .mixedOrders=true) {f:Nat}
include hm
theorem Kh.ok{fP fN fW eG fS fD eD fR eR fT eB e:Nat} (hc:ji true P f=some (ew fP fN fW eG fS fD eD fR eR fT eB)) (hP:VG.Spec (Pure P) e fP) (hN:xQ.Spec (Pure P) e fN) (hW:Kf.Spec (Pure P) e fW) (hS:Hr.Spec (Pure P) e fS) (hD:Kg.Spec (Pure P) e fD) (hR:VH.Spec (Pure P) e fR) (hT:xG.Spec (Pure P) e fT):Kh.Spec (Pure P) e f:=by
 refine om hm hc (by show 1<=118;decide) fun r hr hz Q hQ=>ax (keep:=[0,3,6,9,12,15,18,21]) (i:=0) ?_
 have z0:cV=aW (pad default []) [] (pad 0 []) [] [] [] 0 0 0 0 0 (pad 0 []) 0 0:=rfl
 have p0:(pad (0:Int) []).length=8:=rfl
 unfold ot at hQ;rw[rO]at hQ
 obtain⟨RES,hRES⟩:∃R,R=(ew fP fN fW eG fS fD eD fR eR fT eB).res:=⟨_,rfl⟩
 rw[<-hRES]at hQ;try simp only[I,B,D,RY,aK,aL,aN,↓KW,↓aM,seval,ew,Z.H,bz,Cc]
 refine kB (.exit 0) (fun y:List Ph×bk=>(⟨[(3,.ptr 6 0),(2,.ptr 5 0),(1,.pt 2 [(0,0)])],[(6,⟨(aW y.1 [] (pad 0 []) [] [] [] 0 0 0 0 0 (pad 0 []) 0 0).cells,[]⟩),(5,⟨cV.cells,[]⟩),(0,⟨y.2.cells,[]⟩)],[],400⟩:S)) (fun y=>y.1.length=8/\y.2.Ok/\y.2.code=0/\Q=ie e RES (fun(b,c,d,e,f,g,h,i,j,k,l,m,n)=>AV.agg (aW y.1 b c d e f g h i j k l m n).cells) ((zR.seq fun _=>(jO.rep 8).seq fun _=>nv.seq fun _=>rI.seq fun _=>pT.seq fun _=>aV.seq fun _=>aV.seq fun _=>aV.seq fun _=>aV.seq fun _=>aV.seq fun _=>((cF 2 (by decide)).rep 8).seq fun _=>dM.seq fun _=>dM).m y.2)) (fun _=>rfl) ?_ ?_
 ·refine aH (fun x:List Ph×bk=>(⟨[(11,.dat (I x.1.length) none),(3,.ptr 6 0),(2,.ptr 5 0),(1,.pt 2 [(0,0)])],[(6,⟨(aW (pad default x.1) [] (pad 0 []) [] [] [] 0 0 0 0 0 (pad 0 []) 0 0).cells,[]⟩),(5,⟨cV.cells,[]⟩),(0,⟨x.2.cells,[]⟩)],[],400⟩:S)) (fun x=>8-x.1.length) (fun x=>x.1.length<=8/\x.2.Ok/\x.2.code=0/\Q=ie e RES (fun y:List Ph×_=>(fun(b,c,d,e,f,g,h,i,j,k,l,m,n)=>AV.agg (aW (x.1++y.1) b c d e f g h i j k l m n).cells) y.2) (((sY.rep (8-x.1.length)).seq fun _=>zR.seq fun _=>(jO.rep 8).seq fun _=>nv.seq fun _=>rI.seq fun _=>pT.seq fun _=>aV.seq fun _=>aV.seq fun _=>aV.seq fun _=>aV.seq fun _=>aV.seq fun _=>((cF 2 (by decide)).rep 8).seq fun _=>dM.seq fun _=>dM).m x.2)) ?_ ([],r) ⟨by simp,hr,hz,by rw[hQ];rfl⟩ ?_
  ·intro x hx A back
   obtain⟨L,q⟩:=x;obtain⟨hL,hq,hz,hQ⟩:=hx;simp only at hL hq hz hQ
   have ln:(aW (pad default L) [] (pad 0 []) [] [] [] 0 0 0 0 0 (pad 0 []) 0 0).Ln:=cQ (sJ hL) p0 p0
   have hln:=ln.len
   have hw:=aF (k:=L.length) (by omega)
   try simp only[I,B,D,RY,aK,aL,aN,↓KW,↓aM,seval,bz]
   refine aq (fun h=>?_) (fun h=>?_)<;>try simp only[I,B,D,RY,aK,aL,aN,↓KW,↓aM,seval,h]
   ·have h3:L.length<8:=by have:=of_decide_eq_true h;omega
    obtain⟨a,q',ea,ka,ua,hQ⟩:=gG hQ h3 hq
    have pa:=qk.step hP hq hz ea
    have hs:setCells (aW (pad default L) [] (pad 0 []) [] [] [] 0 0 0 0 0 (pad 0 []) 0 0).cells (L.length*13) a.cells=(aW (pad default (L++[a])) [] (pad 0 []) [] [] [] 0 0 0 0 0 (pad 0 []) 0 0).cells:=by
     rw[ln.wE h3 a];simp only[aW,sK h3]
    by_cases za:q'.code=0
    rotate_left
    ·obtain⟨cs,hq'⟩:=pa.2 za
     refine⟨rfl,aI hq' ?_⟩;try simp only[I,B,D,RY,aK,aL,aN,↓KW,↓aM,seval,bz]
     refine .inr ⟨(by intro h;cases h),?_⟩
     exact ua za _ _ ⟨rfl,trivial⟩
    refine⟨rfl,aC (pa.1 za) ?_⟩;try simp only[I,B,D,RY,aK,aL,aN,↓KW,↓aM,seval,bz,hs,Ph.len]
    repeat(refine And.intro (by first|omega|(simp;omega)) ?_)
    try simp only[I,B,D,RY,aK,aL,aN,↓KW,↓aM,seval,bz,hs,Ph.len]
    refine back (L++[a],q') _ ⟨by show(L++[a]).length<=8;simp;omega,ka,za,?_⟩ (by show 8-(L++[a]).length<8-L.length;simp;omega) ?_
    ·rw[hQ];simp only[List.length_append,List.length_singleton,List.append_assoc,List.singleton_append]
    refine ah (by decide) ?_ ?_ ?_ ?_<;>simp[LX,I,B,D,hs,hw,List.length_append,cR]
   ·have h3:L.length=8:=by have:=of_decide_eq_false h;omega
    have hQ:=fZ hQ h3
    refine gS (L,q) ⟨h3,hq,hz,by rw[hQ];simp only[List.append_nil]⟩ ?_
    refine ah (by decide) ?_ ?_ ?_ ?_<;>simp[LX,I,B,D,sI h3,cR]
  ·refine ah (by decide) ?_ ?_ ?_ ?_<;>simp[LX,I,B,D,z0,cR]
 ·rintro⟨phs,r1⟩ ⟨l1,k1,z1,hQ⟩
  simp only at l1 k1 z1 hQ⊢;try simp only[I,B,D,RY,aK,aL,aN,↓KW,↓aM,seval,bz]
  have hQ:=hQ
  unfold zR Cd.many at hQ;rw[sM,pV]at hQ;obtain⟨n,r2,en,kr2,un,hQ⟩:=aZ hQ k1
  have pn:=(hN 1 4 (by decide) (by decide)).step k1 z1 en
  by_cases zr2:r2.code=0
  rotate_left
  ·obtain⟨cs,hq'⟩:=pn.2 zr2
   refine⟨rfl,aI hq' ?_⟩;try simp only[I,B,D,RY,aK,aL,aN,↓KW,↓aM,seval,bz]
   exact un zr2 _ _ ⟨rfl,trivial⟩
  refine⟨rfl,aC (pn.1 zr2) ?_⟩;try simp only[I,B,D,RY,aK,aL,aN,↓KW,↓aM,seval,bz]
  have hb:0<=n/\n<=4:=by have:=sH r1 1 4 (by decide);rw[show gI r1 1 0 4=(n,r2)from en]at this;exact this
  obtain⟨N1,rfl,hN1⟩:∃N:Nat,n=(N:Int)/\N<=4:=⟨n.toNat,by omega,by omega⟩
  simp only[Int.toNat_natCast]at hQ
  refine kB (.exit 2) (fun y:List Gr×bk=>(⟨[(3,.ptr 6 0),(2,.ptr 5 0),(1,.pt 2 [(0,0)])],[(6,⟨(aW phs y.1 (pad 0 []) [] [] [] 0 0 0 0 0 (pad 0 []) 0 0).cells,[]⟩),(5,⟨cV.cells,[]⟩),(0,⟨y.2.cells,[]⟩)],[],400⟩:S)) (fun y=>y.2.Ok/\y.2.code=0/\Q=ie e RES (fun(c,d,e,f,g,h,i,j,k,l,m,n)=>AV.agg (aW phs y.1 c d e f g h i j k l m n).cells) (((jO.rep 8).seq fun _=>nv.seq fun _=>rI.seq fun _=>pT.seq fun _=>aV.seq fun _=>aV.seq fun _=>aV.seq fun _=>aV.seq fun _=>aV.seq fun _=>((cF 2 (by decide)).rep 8).seq fun _=>dM.seq fun _=>dM).m y.2)) (fun _=>rfl) ?_ ?_
  ·refine aH (fun x:List Gr×bk=>(⟨[(22,.dat (I x.1.length) none),(21,.dat (I N1) none),(3,.ptr 6 0),(2,.ptr 5 0),(1,.pt 2 [(0,0)])],[(6,⟨(aW phs x.1 (pad 0 []) [] [] [] 0 0 0 0 0 (pad 0 []) 0 0).cells,if x.1=[]then[]else[(104,0)]⟩),(5,⟨cV.cells,[]⟩),(0,⟨x.2.cells,[]⟩)],bq x.1 0 eG,400⟩:S)) (fun x=>N1-x.1.length) (fun x=>x.1.length<=N1/\x.2.Ok/\x.2.code=0/\Q=ie e RES (fun y:List Gr×_=>(fun(c,d,e,f,g,h,i,j,k,l,m,n)=>AV.agg (aW phs (x.1++y.1) c d e f g h i j k l m n).cells) y.2) (((uu.rep (N1-x.1.length)).seq fun _=>(jO.rep 8).seq fun _=>nv.seq fun _=>rI.seq fun _=>pT.seq fun _=>aV.seq fun _=>aV.seq fun _=>aV.seq fun _=>aV.seq fun _=>aV.seq fun _=>((cF 2 (by decide)).rep 8).seq fun _=>dM.seq fun _=>dM).m x.2)) ?_ ([],r2) ⟨by simp,kr2,zr2,by rw[hQ];rfl⟩ ?_
   ·intro x hx A back
    obtain⟨L,q⟩:=x;obtain⟨hL,hq,hz,hQ⟩:=hx;simp only at hL hq hz hQ
    have ln:(aW phs L (pad 0 []) [] [] [] 0 0 0 0 0 (pad 0 []) 0 0).Ln:=cQ l1 p0 p0
    have hln:=ln.len
    have hat:=Tb.uj ln.phases
    have hset:∀a:Gr,setCells (aW phs L (pad 0 []) [] [] [] 0 0 0 0 0 (pad 0 []) 0 0).cells 104 [aD Gr.cells (some (L++[a]))]=(aW phs (L++[a]) (pad 0 []) [] [] [] 0 0 0 0 0 (pad 0 []) 0 0).cells:=fun a=>by
     rw[Tb.tJ ln.phases (some (L++[a]))];simp[aW,bf]
    have hatr:(aW phs L (pad 0 []) [] [] [] 0 0 0 0 0 (pad 0 []) 0 0).groups=bf L:=rfl
    rw[hatr]at hat;simp only[aJ,List.map_append,List.map_cons,List.map_nil]at hset
    cases L with
    |nil=>
     simp only[List.map_nil,List.nil_append,bf,if_true,aU]at hset hat
     have hw1:IntKind.i64.wrap 1=1:=by decide
     try simp only[I,B,D,RY,aK,aL,aN,↓KW,↓aM,seval,bz,bf,bq,List.length_nil]
     refine aq (fun h=>?_) (fun h=>?_)<;>try simp only[I,B,D,RY,aK,aL,aN,↓KW,↓aM,seval,hat,h]
     ·have h3:0<N1:=by have:=of_decide_eq_true h;simpa using this
      obtain⟨a,q',ea,ka,ua,hQ⟩:=gG hQ h3 hq
      obtain⟨x1,q1,ea1⟩:∃x1 q1,lI.m q=(x1,q1):=⟨_,_,rfl⟩
      obtain⟨x2,q2,ea2⟩:∃x2 q2,lI.m q1=(x2,q2):=⟨_,_,rfl⟩
      have ha:a=⟨bf x1,bf x2⟩/\q'=q2:=by have:=ea;simp only[uu,Cd.map,Cd.seq,ea1,ea2,Prod.mk.injEq]at this;exact⟨this.1.symm,this.2.symm⟩
      obtain⟨ha,rfl⟩:=ha
      have kq1:q1.Ok:=by have:=lI.ok q hq;rw[ea1]at this;exact this
      have pa1:=qk.step hW hq hz ea1
      by_cases za1:q1.code=0
      rotate_left
      ·have hst:=lI.stay q1 za1
       rw[ea2]at hst;simp only at hst;subst hst;obtain⟨cs,hq'⟩:=pa1.2 za1;refine⟨rfl,aI hq' ?_⟩;try simp only[I,B,D,RY,aK,aL,aN,↓KW,↓aM,seval,bz]
       refine .inr ⟨(by intro h;cases h),?_⟩
       exact ua za1 _ _ ⟨rfl,trivial⟩
      refine⟨rfl,aC (pa1.1 za1) ?_⟩;try simp only[I,B,D,RY,aK,aL,aN,↓KW,↓aM,seval,bz]
      have pa2:=qk.step hW kq1 za1 ea2
      have hset:=hset a
      have hac:a.cells=[aD aA (bf x1),aD aA (bf x2)]:=by rw[ha];rfl
      rw[hac]at hset
      by_cases za:q'.code=0
      rotate_left
      ·obtain⟨cs,hq'⟩:=pa2.2 za
       refine y6 rfl ?_;try simp only[I,B,D,RY,aK,aL,aN,↓KW,↓aM,seval,bz,hat,hln]
       refine⟨rfl,mW hq' ?_⟩;try simp only[I,B,D,RY,aK,aL,aN,↓KW,↓aM,seval,bz,hat,hln]
       refine .inr ⟨(by intro h;cases h),?_⟩
       exact ua za _ _ ⟨rfl,trivial⟩
      refine y5 rfl ?_;try simp only[I,B,D,RY,aK,aL,aN,↓KW,↓aM,seval,bz,hat,hln]
      refine⟨rfl,ay (pa2.1 za) ?_⟩;try simp only[I,B,D,RY,aK,aL,aN,↓KW,↓aM,seval,bz,hset,hat,hln,aO,cm,Gr.len']
      repeat(refine And.intro (by first|omega|(simp at h3⊢;omega)) ?_)
      try simp only[I,B,D,RY,aK,aL,aN,↓KW,↓aM,seval,bz,hset,hat,hln,aO,cm,Gr.len']
      refine back ([a],q') _ ⟨by simp at h3⊢;omega,ka,za,by rw[hQ];rfl⟩ (by simp at h3⊢;omega) ?_
      refine ah (by decide) ?_ ?_ ?_ ?_<;>simp[LX,I,B,D,hset,hw1,bf,aO,cR]
     ·have h3:0=N1:=by have:=of_decide_eq_false h;omega
      have hQ:=fZ hQ h3
      refine gS ([],q) ⟨hq,hz,by rw[hQ];simp only[List.append_nil]⟩ ?_
      refine ah (by decide) ?_ ?_ ?_ ?_<;>simp[LX,I,B,D,bf,cR]
    |cons y ys=>
     simp only[bf,reduceCtorEq,if_false,aJ]at hset hat
     have hw1:IntKind.i64.wrap ((ys.length:Int)+1+1)=(ys.length:Int)+1+1:=bC (by omega) (by simp only[List.length_cons]at hL;omega)
     try simp only[I,B,D,RY,aK,aL,aN,↓KW,↓aM,seval,bz,bf,bq,reduceCtorEq]
     refine aq (fun h=>?_) (fun h=>?_)<;>try simp only[I,B,D,RY,aK,aL,aN,↓KW,↓aM,seval,hat,h]
     ·have h3:(y::ys).length<N1:=by have:=of_decide_eq_true h;simp only[List.length_cons]at this⊢;omega
      obtain⟨a,q',ea,ka,ua,hQ⟩:=gG hQ h3 hq
      obtain⟨x1,q1,ea1⟩:∃x1 q1,lI.m q=(x1,q1):=⟨_,_,rfl⟩
      obtain⟨x2,q2,ea2⟩:∃x2 q2,lI.m q1=(x2,q2):=⟨_,_,rfl⟩
      have ha:a=⟨bf x1,bf x2⟩/\q'=q2:=by have:=ea;simp only[uu,Cd.map,Cd.seq,ea1,ea2,Prod.mk.injEq]at this;exact⟨this.1.symm,this.2.symm⟩
      obtain⟨ha,rfl⟩:=ha
      have kq1:q1.Ok:=by have:=lI.ok q hq;rw[ea1]at this;exact this
      have pa1:=qk.step hW hq hz ea1
      by_cases za1:q1.code=0
      rotate_left
      ·have hst:=lI.stay q1 za1
       rw[ea2]at hst;simp only at hst;subst hst;obtain⟨cs,hq'⟩:=pa1.2 za1;refine⟨rfl,aI hq' ?_⟩;try simp only[I,B,D,RY,aK,aL,aN,↓KW,↓aM,seval,bz]
       refine .inr ⟨(by intro h;cases h),?_⟩
       exact ua za1 _ _ ⟨rfl,trivial⟩
      refine⟨rfl,aC (pa1.1 za1) ?_⟩;try simp only[I,B,D,RY,aK,aL,aN,↓KW,↓aM,seval,bz]
      have pa2:=qk.step hW kq1 za1 ea2
      have hset:=hset a
      have hac:a.cells=[aD aA (bf x1),aD aA (bf x2)]:=by rw[ha];rfl
      rw[hac]at hset
      by_cases za:q'.code=0
      rotate_left
      ·obtain⟨cs,hq'⟩:=pa2.2 za
       refine y6 rfl ?_;try simp only[I,B,D,RY,aK,aL,aN,↓KW,↓aM,seval,bz,hat,hln]
       refine⟨rfl,mW hq' ?_⟩;try simp only[I,B,D,RY,aK,aL,aN,↓KW,↓aM,seval,bz,hat,hln]
       refine .inr ⟨(by intro h;cases h),?_⟩
       exact ua za _ _ ⟨rfl,trivial⟩
      refine y5 rfl ?_;try simp only[I,B,D,RY,aK,aL,aN,↓KW,↓aM,seval,bz,hat,hln]
      refine⟨rfl,ay (pa2.1 za) ?_⟩;try simp only[I,B,D,RY,aK,aL,aN,↓KW,↓aM,seval,bz,hset,hat,hln,aO,cm,Gr.len']
      repeat(refine And.intro (by first|omega|(simp at h3⊢;omega)) ?_)
      try simp only[I,B,D,RY,aK,aL,aN,↓KW,↓aM,seval,bz,hset,hat,hln,aO,cm,Gr.len']
      refine back ((y::ys)++[a],q') _ ⟨by simp at h3⊢;omega,ka,za,by rw[hQ];simp⟩ (by simp at h3⊢;omega) ?_
      refine ah (by decide) ?_ ?_ ?_ ?_<;>simp[LX,I,B,D,hset,hw1,bf,aO,cR]
     ·have h3:(y::ys).length=N1:=by have:=of_decide_eq_false h;simp only[List.length_cons]at this hL⊢;omega
      have hQ:=fZ hQ h3
      refine gS ((y::ys),q) ⟨hq,hz,by rw[hQ];simp only[List.append_nil]⟩ ?_
      refine ah (by decide) ?_ ?_ ?_ ?_<;>simp[LX,I,B,D,bf,cR]
   ·refine ah (by decide) ?_ ?_ ?_ ?_<;>simp[LX,I,B,D,bf,bq,z0,cR]
  ·rintro⟨grs,r3⟩ ⟨k3,z3,hQ⟩
   simp only at k3 z3 hQ⊢;try simp only[I,B,D,RY,aK,aL,aN,↓KW,↓aM,seval,bz]
   refine kB (.exit 4) (fun y:List Int×bk=>(⟨[(3,.ptr 6 0),(2,.ptr 5 0),(1,.pt 2 [(0,0)])],[(6,⟨(aW phs grs y.1 [] [] [] 0 0 0 0 0 (pad 0 []) 0 0).cells,[]⟩),(5,⟨cV.cells,[]⟩),(0,⟨y.2.cells,[]⟩)],[],400⟩:S)) (fun y=>y.1.length=8/\y.2.Ok/\y.2.code=0/\Q=ie e RES (fun(d,e,f,g,h,i,j,k,l,m,n)=>AV.agg (aW phs grs y.1 d e f g h i j k l m n).cells) ((nv.seq fun _=>rI.seq fun _=>pT.seq fun _=>aV.seq fun _=>aV.seq fun _=>aV.seq fun _=>aV.seq fun _=>aV.seq fun _=>((cF 2 (by decide)).rep 8).seq fun _=>dM.seq fun _=>dM).m y.2)) (fun _=>rfl) ?_ ?_
   ·refine aH (fun x:List Int×bk=>(⟨[(36,.dat (I x.1.length) none),(3,.ptr 6 0),(2,.ptr 5 0),(1,.pt 2 [(0,0)])],[(6,⟨(aW phs grs (pad 0 x.1) [] [] [] 0 0 0 0 0 (pad 0 []) 0 0).cells,[]⟩),(5,⟨cV.cells,[]⟩),(0,⟨x.2.cells,[]⟩)],[],400⟩:S)) (fun x=>8-x.1.length) (fun x=>x.1.length<=8/\x.2.Ok/\x.2.code=0/\Q=ie e RES (fun y:List Int×_=>(fun(d,e,f,g,h,i,j,k,l,m,n)=>AV.agg (aW phs grs (x.1++y.1) d e f g h i j k l m n).cells) y.2) (((jO.rep (8-x.1.length)).seq fun _=>nv.seq fun _=>rI.seq fun _=>pT.seq fun _=>aV.seq fun _=>aV.seq fun _=>aV.seq fun _=>aV.seq fun _=>aV.seq fun _=>((cF 2 (by decide)).rep 8).seq fun _=>dM.seq fun _=>dM).m x.2)) ?_ ([],r3) ⟨by simp,k3,z3,by rw[hQ];rfl⟩ ?_
    ·intro x hx A back
     obtain⟨L,q⟩:=x;obtain⟨hL,hq,hz,hQ⟩:=hx;simp only at hL hq hz hQ
     have ln:(aW phs grs (pad 0 L) [] [] [] 0 0 0 0 0 (pad 0 []) 0 0).Ln:=cQ l1 (sJ hL) p0
     have hln:=ln.len
     have hw:=aF (k:=L.length) (by omega)
     try simp only[I,B,D,RY,aK,aL,aN,↓KW,↓aM,seval,bz]
     refine aq (fun h=>?_) (fun h=>?_)<;>try simp only[I,B,D,RY,aK,aL,aN,↓KW,↓aM,seval,h]
     ·have h3:L.length<8:=by have:=of_decide_eq_true h;omega
      obtain⟨a,q',ea,ka,ua,hQ⟩:=gG hQ h3 hq
      have pa:=qk.step hS hq hz ea
      have hs:setCells (aW phs grs (pad 0 L) [] [] [] 0 0 0 0 0 (pad 0 []) 0 0).cells (105+L.length) [I a]=(aW phs grs (pad 0 (L++[a])) [] [] [] 0 0 0 0 0 (pad 0 []) 0 0).cells:=by
       rw[ln.mF h3 a];simp only[aW,sK h3]
      by_cases za:q'.code=0
      rotate_left
      ·obtain⟨cs,hq'⟩:=pa.2 za
       refine⟨rfl,aI hq' ?_⟩;try simp only[I,B,D,RY,aK,aL,aN,↓KW,↓aM,seval,bz]
       refine .inr ⟨(by intro h;cases h),?_⟩
       exact ua za _ _ ⟨rfl,trivial⟩
      refine⟨rfl,aC (pa.1 za) ?_⟩;try simp only[I,B,D,RY,aK,aL,aN,↓KW,↓aM,seval,bz,hs,Ph.len]
      repeat(refine And.intro (by first|omega|(simp;omega)) ?_)
      try simp only[I,B,D,RY,aK,aL,aN,↓KW,↓aM,seval,bz,hs,Ph.len]
      refine back (L++[a],q') _ ⟨by show(L++[a]).length<=8;simp;omega,ka,za,?_⟩ (by show 8-(L++[a]).length<8-L.length;simp;omega) ?_
      ·rw[hQ];simp only[List.length_append,List.length_singleton,List.append_assoc,List.singleton_append]
      refine ah (by decide) ?_ ?_ ?_ ?_<;>simp[LX,I,B,D,hs,hw,List.length_append,cR]
     ·have h3:L.length=8:=by have:=of_decide_eq_false h;omega
      have hQ:=fZ hQ h3
      refine gS (L,q) ⟨h3,hq,hz,by rw[hQ];simp only[List.append_nil]⟩ ?_
      refine ah (by decide) ?_ ?_ ?_ ?_<;>simp[LX,I,B,D,sI h3,cR]
    ·refine ah (by decide) ?_ ?_ ?_ ?_<;>simp[LX,I,B,D,z0,cR]
   ·rintro⟨cf,r4⟩ ⟨l4,k4,z4,hQ⟩
    simp only at l4 k4 z4 hQ⊢;try simp only[I,B,D,RY,aK,aL,aN,↓KW,↓aM,seval,bz]
    have hQ:=hQ
    unfold nv Cd.many at hQ;rw[sM,pV]at hQ;obtain⟨n,r5,en,kr5,un,hQ⟩:=aZ hQ k4
    have pn:=(hN 1 16 (by decide) (by decide)).step k4 z4 en
    by_cases zr5:r5.code=0
    rotate_left
    ·obtain⟨cs,hq'⟩:=pn.2 zr5
     refine⟨rfl,aI hq' ?_⟩;try simp only[I,B,D,RY,aK,aL,aN,↓KW,↓aM,seval,bz]
     exact un zr5 _ _ ⟨rfl,trivial⟩
    refine⟨rfl,aC (pn.1 zr5) ?_⟩;try simp only[I,B,D,RY,aK,aL,aN,↓KW,↓aM,seval,bz]
    have hb:0<=n/\n<=16:=by have:=sH r4 1 16 (by decide);rw[show gI r4 1 0 16=(n,r5)from en]at this;exact this
    obtain⟨N2,rfl,hN2⟩:∃N:Nat,n=(N:Int)/\N<=16:=⟨n.toNat,by omega,by omega⟩
    simp only[Int.toNat_natCast]at hQ
    refine kB (.exit 6) (fun y:List fy×bk=>(⟨[(3,.ptr 6 0),(2,.ptr 5 0),(1,.pt 2 [(0,0)])],[(6,⟨(aW phs grs cf y.1 [] [] 0 0 0 0 0 (pad 0 []) 0 0).cells,[]⟩),(5,⟨cV.cells,[]⟩),(0,⟨y.2.cells,[]⟩)],[],400⟩:S)) (fun y=>y.2.Ok/\y.2.code=0/\Q=ie e RES (fun(e,f,g,h,i,j,k,l,m,n)=>AV.agg (aW phs grs cf y.1 e f g h i j k l m n).cells) ((rI.seq fun _=>pT.seq fun _=>aV.seq fun _=>aV.seq fun _=>aV.seq fun _=>aV.seq fun _=>aV.seq fun _=>((cF 2 (by decide)).rep 8).seq fun _=>dM.seq fun _=>dM).m y.2)) (fun _=>rfl) ?_ ?_
    ·refine aH (fun x:List fy×bk=>(⟨[(47,.dat (I x.1.length) none),(46,.dat (I N2) none),(3,.ptr 6 0),(2,.ptr 5 0),(1,.pt 2 [(0,0)])],[(6,⟨(aW phs grs cf x.1 [] [] 0 0 0 0 0 (pad 0 []) 0 0).cells,if x.1=[]then[]else[(113,0)]⟩),(5,⟨cV.cells,[]⟩),(0,⟨x.2.cells,[]⟩)],bq x.1 0 eD,400⟩:S)) (fun x=>N2-x.1.length) (fun x=>x.1.length<=N2/\x.2.Ok/\x.2.code=0/\Q=ie e RES (fun y:List fy×_=>(fun(e,f,g,h,i,j,k,l,m,n)=>AV.agg (aW phs grs cf (x.1++y.1) e f g h i j k l m n).cells) y.2) (((j0.rep (N2-x.1.length)).seq fun _=>rI.seq fun _=>pT.seq fun _=>aV.seq fun _=>aV.seq fun _=>aV.seq fun _=>aV.seq fun _=>aV.seq fun _=>((cF 2 (by decide)).rep 8).seq fun _=>dM.seq fun _=>dM).m x.2)) ?_ ([],r5) ⟨by simp,kr5,zr5,by rw[hQ];rfl⟩ ?_
     ·intro x hx A back
      obtain⟨L,q⟩:=x;obtain⟨hL,hq,hz,hQ⟩:=hx;simp only at hL hq hz hQ
      have ln:(aW phs grs cf L [] [] 0 0 0 0 0 (pad 0 []) 0 0).Ln:=cQ l1 l4 p0
      have hln:=ln.len
      have hat:=ln.xC
      have hset:∀a:fy,setCells (aW phs grs cf L [] [] 0 0 0 0 0 (pad 0 []) 0 0).cells 113 [aD fy.cells (some (L++[a]))]=(aW phs grs cf (L++[a]) [] [] 0 0 0 0 0 (pad 0 []) 0 0).cells:=fun a=>by
       rw[ln.vA (some (L++[a]))];simp[aW,bf]
      have hatr:(aW phs grs cf L [] [] 0 0 0 0 0 (pad 0 []) 0 0).az=bf L:=rfl
      rw[hatr]at hat;simp only[aJ,List.map_append,List.map_cons,List.map_nil]at hset
      cases L with
      |nil=>
       simp only[List.map_nil,List.nil_append,bf,if_true,aU]at hset hat
       have hw1:IntKind.i64.wrap 1=1:=by decide
       try simp only[I,B,D,RY,aK,aL,aN,↓KW,↓aM,seval,bz,bf,bq,List.length_nil]
       refine aq (fun h=>?_) (fun h=>?_)<;>try simp only[I,B,D,RY,aK,aL,aN,↓KW,↓aM,seval,hat,h]
       ·have h3:0<N2:=by have:=of_decide_eq_true h;simpa using this
        obtain⟨a,q',ea,ka,ua,hQ⟩:=gG hQ h3 hq
        have pa:=qk.step hD hq hz ea
        have hset:=hset a
        by_cases za:q'.code=0
        rotate_left
        ·obtain⟨cs,hq'⟩:=pa.2 za
         refine y6 rfl ?_;try simp only[I,B,D,RY,aK,aL,aN,↓KW,↓aM,seval,bz,hat,hln]
         refine⟨rfl,mW hq' ?_⟩;try simp only[I,B,D,RY,aK,aL,aN,↓KW,↓aM,seval,bz,hat,hln]
         refine .inr ⟨(by intro h;cases h),?_⟩
         exact ua za _ _ ⟨rfl,trivial⟩
        refine y5 rfl ?_;try simp only[I,B,D,RY,aK,aL,aN,↓KW,↓aM,seval,bz,hat,hln]
        refine⟨rfl,ay (pa.1 za) ?_⟩;try simp only[I,B,D,RY,aK,aL,aN,↓KW,↓aM,seval,bz,hset,hat,hln,aO,cm,fy.len']
        repeat(refine And.intro (by first|omega|(simp at h3⊢;omega)) ?_)
        try simp only[I,B,D,RY,aK,aL,aN,↓KW,↓aM,seval,bz,hset,hat,hln,aO,cm,fy.len']
        refine back ([a],q') _ ⟨by simp at h3⊢;omega,ka,za,by rw[hQ];rfl⟩ (by simp at h3⊢;omega) ?_
        refine ah (by decide) ?_ ?_ ?_ ?_<;>simp[LX,I,B,D,hset,hw1,bf,aO,cR]
       ·have h3:0=N2:=by have:=of_decide_eq_false h;omega
        have hQ:=fZ hQ h3
        refine gS ([],q) ⟨hq,hz,by rw[hQ];simp only[List.append_nil]⟩ ?_
        refine ah (by decide) ?_ ?_ ?_ ?_<;>simp[LX,I,B,D,bf,cR]
      |cons y ys=>
       simp only[bf,reduceCtorEq,if_false,aJ]at hset hat
       have hw1:IntKind.i64.wrap ((ys.length:Int)+1+1)=(ys.length:Int)+1+1:=bC (by omega) (by simp only[List.length_cons]at hL;omega)
       try simp only[I,B,D,RY,aK,aL,aN,↓KW,↓aM,seval,bz,bf,bq,reduceCtorEq]
       refine aq (fun h=>?_) (fun h=>?_)<;>try simp only[I,B,D,RY,aK,aL,aN,↓KW,↓aM,seval,hat,h]
       ·have h3:(y::ys).length<N2:=by have:=of_decide_eq_true h;simp only[List.length_cons]at this⊢;omega
        obtain⟨a,q',ea,ka,ua,hQ⟩:=gG hQ h3 hq
        have pa:=qk.step hD hq hz ea
        have hset:=hset a
        by_cases za:q'.code=0
        rotate_left
        ·obtain⟨cs,hq'⟩:=pa.2 za
         refine y6 rfl ?_;try simp only[I,B,D,RY,aK,aL,aN,↓KW,↓aM,seval,bz,hat,hln]
         refine⟨rfl,mW hq' ?_⟩;try simp only[I,B,D,RY,aK,aL,aN,↓KW,↓aM,seval,bz,hat,hln]
         refine .inr ⟨(by intro h;cases h),?_⟩
         exact ua za _ _ ⟨rfl,trivial⟩
        refine y5 rfl ?_;try simp only[I,B,D,RY,aK,aL,aN,↓KW,↓aM,seval,bz,hat,hln]
        refine⟨rfl,ay (pa.1 za) ?_⟩;try simp only[I,B,D,RY,aK,aL,aN,↓KW,↓aM,seval,bz,hset,hat,hln,aO,cm,fy.len']
        repeat(refine And.intro (by first|omega|(simp at h3⊢;omega)) ?_)
        try simp only[I,B,D,RY,aK,aL,aN,↓KW,↓aM,seval,bz,hset,hat,hln,aO,cm,fy.len']
        refine back ((y::ys)++[a],q') _ ⟨by simp at h3⊢;omega,ka,za,by rw[hQ];simp⟩ (by simp at h3⊢;omega) ?_
        refine ah (by decide) ?_ ?_ ?_ ?_<;>simp[LX,I,B,D,hset,hw1,bf,aO,cR]
       ·have h3:(y::ys).length=N2:=by have:=of_decide_eq_false h;simp only[List.length_cons]at this hL⊢;omega
        have hQ:=fZ hQ h3
        refine gS ((y::ys),q) ⟨hq,hz,by rw[hQ];simp only[List.append_nil]⟩ ?_
        refine ah (by decide) ?_ ?_ ?_ ?_<;>simp[LX,I,B,D,bf,cR]
     ·refine ah (by decide) ?_ ?_ ?_ ?_<;>simp[LX,I,B,D,bf,bq,z0,cR]
    ·rintro⟨ds,r6⟩ ⟨k6,z6,hQ⟩
     simp only at k6 z6 hQ⊢;try simp only[I,B,D,RY,aK,aL,aN,↓KW,↓aM,seval,bz]
     have hQ:=hQ
     unfold rI Cd.many at hQ;rw[sM,pV]at hQ;obtain⟨n,r7,en,kr7,un,hQ⟩:=aZ hQ k6
     have pn:=(hN 1 4 (by decide) (by decide)).step k6 z6 en
     by_cases zr7:r7.code=0
     rotate_left
     ·obtain⟨cs,hq'⟩:=pn.2 zr7
      refine⟨rfl,aI hq' ?_⟩;try simp only[I,B,D,RY,aK,aL,aN,↓KW,↓aM,seval,bz]
      exact un zr7 _ _ ⟨rfl,trivial⟩
     refine⟨rfl,aC (pn.1 zr7) ?_⟩;try simp only[I,B,D,RY,aK,aL,aN,↓KW,↓aM,seval,bz]
     have hb:0<=n/\n<=4:=by have:=sH r6 1 4 (by decide);rw[show gI r6 1 0 4=(n,r7)from en]at this;exact this
     obtain⟨N3,rfl,hN3⟩:∃N:Nat,n=(N:Int)/\N<=4:=⟨n.toNat,by omega,by omega⟩
     simp only[Int.toNat_natCast]at hQ
     refine kB (.exit 8) (fun y:List Rl×bk=>(⟨[(3,.ptr 6 0),(2,.ptr 5 0),(1,.pt 2 [(0,0)])],[(6,⟨(aW phs grs cf ds y.1 [] 0 0 0 0 0 (pad 0 []) 0 0).cells,[]⟩),(5,⟨cV.cells,[]⟩),(0,⟨y.2.cells,[]⟩)],[],400⟩:S)) (fun y=>y.2.Ok/\y.2.code=0/\Q=ie e RES (fun(f,g,h,i,j,k,l,m,n)=>AV.agg (aW phs grs cf ds y.1 f g h i j k l m n).cells) ((pT.seq fun _=>aV.seq fun _=>aV.seq fun _=>aV.seq fun _=>aV.seq fun _=>aV.seq fun _=>((cF 2 (by decide)).rep 8).seq fun _=>dM.seq fun _=>dM).m y.2)) (fun _=>rfl) ?_ ?_
     ·refine aH (fun x:List Rl×bk=>(⟨[(59,.dat (I x.1.length) none),(58,.dat (I N3) none),(3,.ptr 6 0),(2,.ptr 5 0),(1,.pt 2 [(0,0)])],[(6,⟨(aW phs grs cf ds x.1 [] 0 0 0 0 0 (pad 0 []) 0 0).cells,if x.1=[]then[]else[(114,0)]⟩),(5,⟨cV.cells,[]⟩),(0,⟨x.2.cells,[]⟩)],bq x.1 0 eR,400⟩:S)) (fun x=>N3-x.1.length) (fun x=>x.1.length<=N3/\x.2.Ok/\x.2.code=0/\Q=ie e RES (fun y:List Rl×_=>(fun(f,g,h,i,j,k,l,m,n)=>AV.agg (aW phs grs cf ds (x.1++y.1) f g h i j k l m n).cells) y.2) (((uA.rep (N3-x.1.length)).seq fun _=>pT.seq fun _=>aV.seq fun _=>aV.seq fun _=>aV.seq fun _=>aV.seq fun _=>aV.seq fun _=>((cF 2 (by decide)).rep 8).seq fun _=>dM.seq fun _=>dM).m x.2)) ?_ ([],r7) ⟨by simp,kr7,zr7,by rw[hQ];rfl⟩ ?_
      ·intro x hx A back
       obtain⟨L,q⟩:=x;obtain⟨hL,hq,hz,hQ⟩:=hx;simp only at hL hq hz hQ
       have ln:(aW phs grs cf ds L [] 0 0 0 0 0 (pad 0 []) 0 0).Ln:=cQ l1 l4 p0
       have hln:=ln.len
       have hat:=ln.vz
       have hset:∀a:Rl,setCells (aW phs grs cf ds L [] 0 0 0 0 0 (pad 0 []) 0 0).cells 114 [aD Rl.cells (some (L++[a]))]=(aW phs grs cf ds (L++[a]) [] 0 0 0 0 0 (pad 0 []) 0 0).cells:=fun a=>by
        rw[ln.wF (some (L++[a]))];simp[aW,bf]
       have hatr:(aW phs grs cf ds L [] 0 0 0 0 0 (pad 0 []) 0 0).aR=bf L:=rfl
       rw[hatr]at hat;simp only[aJ,List.map_append,List.map_cons,List.map_nil]at hset
       cases L with
       |nil=>
        simp only[List.map_nil,List.nil_append,bf,if_true,aU]at hset hat
        have hw1:IntKind.i64.wrap 1=1:=by decide
        try simp only[I,B,D,RY,aK,aL,aN,↓KW,↓aM,seval,bz,bf,bq,List.length_nil]
        refine aq (fun h=>?_) (fun h=>?_)<;>try simp only[I,B,D,RY,aK,aL,aN,↓KW,↓aM,seval,hat,h]
        ·have h3:0<N3:=by have:=of_decide_eq_true h;simpa using this
         obtain⟨a,q',ea,ka,ua,hQ⟩:=gG hQ h3 hq
         have pa:=qk.step hR hq hz ea
         have hset:=hset a
         by_cases za:q'.code=0
         rotate_left
         ·obtain⟨cs,hq'⟩:=pa.2 za
          refine y6 rfl ?_;try simp only[I,B,D,RY,aK,aL,aN,↓KW,↓aM,seval,bz,hat,hln]
          refine⟨rfl,mW hq' ?_⟩;try simp only[I,B,D,RY,aK,aL,aN,↓KW,↓aM,seval,bz,hat,hln]
          refine .inr ⟨(by intro h;cases h),?_⟩
          exact ua za _ _ ⟨rfl,trivial⟩
         refine y5 rfl ?_;try simp only[I,B,D,RY,aK,aL,aN,↓KW,↓aM,seval,bz,hat,hln]
         refine⟨rfl,ay (pa.1 za) ?_⟩;try simp only[I,B,D,RY,aK,aL,aN,↓KW,↓aM,seval,bz,hset,hat,hln,aO,cm,Rl.len']
         repeat(refine And.intro (by first|omega|(simp at h3⊢;omega)) ?_)
         try simp only[I,B,D,RY,aK,aL,aN,↓KW,↓aM,seval,bz,hset,hat,hln,aO,cm,Rl.len']
         refine back ([a],q') _ ⟨by simp at h3⊢;omega,ka,za,by rw[hQ];rfl⟩ (by simp at h3⊢;omega) ?_
         refine ah (by decide) ?_ ?_ ?_ ?_<;>simp[LX,I,B,D,hset,hw1,bf,aO,cR]
        ·have h3:0=N3:=by have:=of_decide_eq_false h;omega
         have hQ:=fZ hQ h3
         refine gS ([],q) ⟨hq,hz,by rw[hQ];simp only[List.append_nil]⟩ ?_
         refine ah (by decide) ?_ ?_ ?_ ?_<;>simp[LX,I,B,D,bf,cR]
       |cons y ys=>
        simp only[bf,reduceCtorEq,if_false,aJ]at hset hat
        have hw1:IntKind.i64.wrap ((ys.length:Int)+1+1)=(ys.length:Int)+1+1:=bC (by omega) (by simp only[List.length_cons]at hL;omega)
        try simp only[I,B,D,RY,aK,aL,aN,↓KW,↓aM,seval,bz,bf,bq,reduceCtorEq]
        refine aq (fun h=>?_) (fun h=>?_)<;>try simp only[I,B,D,RY,aK,aL,aN,↓KW,↓aM,seval,hat,h]
        ·have h3:(y::ys).length<N3:=by have:=of_decide_eq_true h;simp only[List.length_cons]at this⊢;omega
         obtain⟨a,q',ea,ka,ua,hQ⟩:=gG hQ h3 hq
         have pa:=qk.step hR hq hz ea
         have hset:=hset a
         by_cases za:q'.code=0
         rotate_left
         ·obtain⟨cs,hq'⟩:=pa.2 za
          refine y6 rfl ?_;try simp only[I,B,D,RY,aK,aL,aN,↓KW,↓aM,seval,bz,hat,hln]
          refine⟨rfl,mW hq' ?_⟩;try simp only[I,B,D,RY,aK,aL,aN,↓KW,↓aM,seval,bz,hat,hln]
          refine .inr ⟨(by intro h;cases h),?_⟩
          exact ua za _ _ ⟨rfl,trivial⟩
         refine y5 rfl ?_;try simp only[I,B,D,RY,aK,aL,aN,↓KW,↓aM,seval,bz,hat,hln]
         refine⟨rfl,ay (pa.1 za) ?_⟩;try simp only[I,B,D,RY,aK,aL,aN,↓KW,↓aM,seval,bz,hset,hat,hln,aO,cm,Rl.len']
         repeat(refine And.intro (by first|omega|(simp at h3⊢;omega)) ?_)
         try simp only[I,B,D,RY,aK,aL,aN,↓KW,↓aM,seval,bz,hset,hat,hln,aO,cm,Rl.len']
         refine back ((y::ys)++[a],q') _ ⟨by simp at h3⊢;omega,ka,za,by rw[hQ];simp⟩ (by simp at h3⊢;omega) ?_
         refine ah (by decide) ?_ ?_ ?_ ?_<;>simp[LX,I,B,D,hset,hw1,bf,aO,cR]
        ·have h3:(y::ys).length=N3:=by have:=of_decide_eq_false h;simp only[List.length_cons]at this hL⊢;omega
         have hQ:=fZ hQ h3
         refine gS ((y::ys),q) ⟨hq,hz,by rw[hQ];simp only[List.append_nil]⟩ ?_
         refine ah (by decide) ?_ ?_ ?_ ?_<;>simp[LX,I,B,D,bf,cR]
      ·refine ah (by decide) ?_ ?_ ?_ ?_<;>simp[LX,I,B,D,bf,bq,z0,cR]
     ·rintro⟨rs,r8⟩ ⟨k8,z8,hQ⟩
      simp only at k8 z8 hQ⊢;try simp only[I,B,D,RY,aK,aL,aN,↓KW,↓aM,seval,bz]
      have hQ:=hQ
      unfold pT Cd.many at hQ;rw[sM,pV]at hQ;obtain⟨n,r9,en,kr9,un,hQ⟩:=aZ hQ k8
      have pn:=(hN 1 4 (by decide) (by decide)).step k8 z8 en
      by_cases zr9:r9.code=0
      rotate_left
      ·obtain⟨cs,hq'⟩:=pn.2 zr9
       refine⟨rfl,aI hq' ?_⟩;try simp only[I,B,D,RY,aK,aL,aN,↓KW,↓aM,seval,bz]
       exact un zr9 _ _ ⟨rfl,trivial⟩
      refine⟨rfl,aC (pn.1 zr9) ?_⟩;try simp only[I,B,D,RY,aK,aL,aN,↓KW,↓aM,seval,bz]
      have hb:0<=n/\n<=4:=by have:=sH r8 1 4 (by decide);rw[show gI r8 1 0 4=(n,r9)from en]at this;exact this
      obtain⟨N4,rfl,hN4⟩:∃N:Nat,n=(N:Int)/\N<=4:=⟨n.toNat,by omega,by omega⟩
      simp only[Int.toNat_natCast]at hQ
      refine kB (.exit 10) (fun y:List Bs×bk=>(⟨[(3,.ptr 6 0),(2,.ptr 5 0),(1,.pt 2 [(0,0)])],[(6,⟨(aW phs grs cf ds rs y.1 0 0 0 0 0 (pad 0 []) 0 0).cells,[]⟩),(5,⟨cV.cells,[]⟩),(0,⟨y.2.cells,[]⟩)],[],400⟩:S)) (fun y=>y.2.Ok/\y.2.code=0/\Q=ie e RES (fun(g,h,i,j,k,l,m,n)=>AV.agg (aW phs grs cf ds rs y.1 g h i j k l m n).cells) ((aV.seq fun _=>aV.seq fun _=>aV.seq fun _=>aV.seq fun _=>aV.seq fun _=>((cF 2 (by decide)).rep 8).seq fun _=>dM.seq fun _=>dM).m y.2)) (fun _=>rfl) ?_ ?_
      ·refine aH (fun x:List Bs×bk=>(⟨[(71,.dat (I x.1.length) none),(70,.dat (I N4) none),(3,.ptr 6 0),(2,.ptr 5 0),(1,.pt 2 [(0,0)])],[(6,⟨(aW phs grs cf ds rs x.1 0 0 0 0 0 (pad 0 []) 0 0).cells,if x.1=[]then[]else[(115,0)]⟩),(5,⟨cV.cells,[]⟩),(0,⟨x.2.cells,[]⟩)],bq x.1 0 eB,400⟩:S)) (fun x=>N4-x.1.length) (fun x=>x.1.length<=N4/\x.2.Ok/\x.2.code=0/\Q=ie e RES (fun y:List Bs×_=>(fun(g,h,i,j,k,l,m,n)=>AV.agg (aW phs grs cf ds rs (x.1++y.1) g h i j k l m n).cells) y.2) (((uv.rep (N4-x.1.length)).seq fun _=>aV.seq fun _=>aV.seq fun _=>aV.seq fun _=>aV.seq fun _=>aV.seq fun _=>((cF 2 (by decide)).rep 8).seq fun _=>dM.seq fun _=>dM).m x.2)) ?_ ([],r9) ⟨by simp,kr9,zr9,by rw[hQ];rfl⟩ ?_
       ·intro x hx A back
        obtain⟨L,q⟩:=x;obtain⟨hL,hq,hz,hQ⟩:=hx;simp only at hL hq hz hQ
        have ln:(aW phs grs cf ds rs L 0 0 0 0 0 (pad 0 []) 0 0).Ln:=cQ l1 l4 p0
        have hln:=ln.len
        have hat:=ln.xD
        have hset:∀a:Bs,setCells (aW phs grs cf ds rs L 0 0 0 0 0 (pad 0 []) 0 0).cells 115 [aD Bs.cells (some (L++[a]))]=(aW phs grs cf ds rs (L++[a]) 0 0 0 0 0 (pad 0 []) 0 0).cells:=fun a=>by
         rw[ln.wG (some (L++[a]))];simp[aW,bf]
        have hatr:(aW phs grs cf ds rs L 0 0 0 0 0 (pad 0 []) 0 0).aX=bf L:=rfl
        rw[hatr]at hat;simp only[aJ,List.map_append,List.map_cons,List.map_nil]at hset
        cases L with
        |nil=>
         simp only[List.map_nil,List.nil_append,bf,if_true,aU]at hset hat
         have hw1:IntKind.i64.wrap 1=1:=by decide
         try simp only[I,B,D,RY,aK,aL,aN,↓KW,↓aM,seval,bz,bf,bq,List.length_nil]
         refine aq (fun h=>?_) (fun h=>?_)<;>try simp only[I,B,D,RY,aK,aL,aN,↓KW,↓aM,seval,hat,h]
         ·have h3:0<N4:=by have:=of_decide_eq_true h;simpa using this
          obtain⟨a,q',ea,ka,ua,hQ⟩:=gG hQ h3 hq
          obtain⟨x1,q1,ea1⟩:∃x1 q1,jO.m q=(x1,q1):=⟨_,_,rfl⟩
          obtain⟨x2,q2,ea2⟩:∃x2 q2,aV.m q1=(x2,q2):=⟨_,_,rfl⟩
          have ha:a=⟨x1,x2⟩/\q'=q2:=by have:=ea;simp only[uv,Cd.map,Cd.seq,ea1,ea2,Prod.mk.injEq]at this;exact⟨this.1.symm,this.2.symm⟩
          obtain⟨ha,rfl⟩:=ha
          have kq1:q1.Ok:=by have:=jO.ok q hq;rw[ea1]at this;exact this
          have pa1:=qk.step hS hq hz ea1
          by_cases za1:q1.code=0
          rotate_left
          ·have hst:=aV.stay q1 za1
           rw[ea2]at hst;simp only at hst;subst hst;obtain⟨cs,hq'⟩:=pa1.2 za1;refine⟨rfl,aI hq' ?_⟩;try simp only[I,B,D,RY,aK,aL,aN,↓KW,↓aM,seval,bz]
           refine .inr ⟨(by intro h;cases h),?_⟩
           exact ua za1 _ _ ⟨rfl,trivial⟩
          have hb0:setCells [.int .i64 0,.int .i64 0] 0 [AV.int .i64 x1,.int .i64 0]=[AV.int .i64 x1,.int .i64 0]:=rfl
          have hb2:setCells [AV.int .i64 x1,.int .i64 0] 1 [AV.int .i64 x2]=[AV.int .i64 x1,AV.int .i64 x2]:=rfl
          refine⟨rfl,aC (pa1.1 za1) ?_⟩;try simp only[I,B,D,RY,aK,aL,aN,↓KW,↓aM,seval,bz,hb0]
          have pa2:=qk.step hT kq1 za1 ea2
          have hset:=hset a
          have hac:a.cells=[I x1,I x2]:=by rw[ha];rfl
          rw[hac]at hset
          by_cases za:q'.code=0
          rotate_left
          ·obtain⟨cs,hq'⟩:=pa2.2 za
           refine⟨rfl,aI hq' ?_⟩;try simp only[I,B,D,RY,aK,aL,aN,↓KW,↓aM,seval,bz]
           refine .inr ⟨(by intro h;cases h),?_⟩
           exact ua za _ _ ⟨rfl,trivial⟩
          refine⟨rfl,aC (pa2.1 za) ?_⟩;try simp only[I,B,D,RY,aK,aL,aN,↓KW,↓aM,seval,bz,hset,hat,hln,aO,cm,Bs.len',hb0,hb2]
          repeat(refine And.intro (by first|omega|(simp at h3⊢;omega)) ?_)
          try simp only[I,B,D,RY,aK,aL,aN,↓KW,↓aM,seval,bz,hset,hat,hln,aO,cm,Bs.len',hb0,hb2]
          refine back ([a],q') _ ⟨by simp at h3⊢;omega,ka,za,by rw[hQ];rfl⟩ (by simp at h3⊢;omega) ?_
          refine ah (by decide) ?_ ?_ ?_ ?_<;>simp[LX,I,B,D,hset,hw1,bf,aO,cR]
         ·have h3:0=N4:=by have:=of_decide_eq_false h;omega
          have hQ:=fZ hQ h3
          refine gS ([],q) ⟨hq,hz,by rw[hQ];simp only[List.append_nil]⟩ ?_
          refine ah (by decide) ?_ ?_ ?_ ?_<;>simp[LX,I,B,D,bf,cR]
        |cons y ys=>
         simp only[bf,reduceCtorEq,if_false,aJ]at hset hat
         have hw1:IntKind.i64.wrap ((ys.length:Int)+1+1)=(ys.length:Int)+1+1:=bC (by omega) (by simp only[List.length_cons]at hL;omega)
         try simp only[I,B,D,RY,aK,aL,aN,↓KW,↓aM,seval,bz,bf,bq,reduceCtorEq]
         refine aq (fun h=>?_) (fun h=>?_)<;>try simp only[I,B,D,RY,aK,aL,aN,↓KW,↓aM,seval,hat,h]
         ·have h3:(y::ys).length<N4:=by have:=of_decide_eq_true h;simp only[List.length_cons]at this⊢;omega
          obtain⟨a,q',ea,ka,ua,hQ⟩:=gG hQ h3 hq
          obtain⟨x1,q1,ea1⟩:∃x1 q1,jO.m q=(x1,q1):=⟨_,_,rfl⟩
          obtain⟨x2,q2,ea2⟩:∃x2 q2,aV.m q1=(x2,q2):=⟨_,_,rfl⟩
          have ha:a=⟨x1,x2⟩/\q'=q2:=by have:=ea;simp only[uv,Cd.map,Cd.seq,ea1,ea2,Prod.mk.injEq]at this;exact⟨this.1.symm,this.2.symm⟩
          obtain⟨ha,rfl⟩:=ha
          have kq1:q1.Ok:=by have:=jO.ok q hq;rw[ea1]at this;exact this
          have pa1:=qk.step hS hq hz ea1
          by_cases za1:q1.code=0
          rotate_left
          ·have hst:=aV.stay q1 za1
           rw[ea2]at hst;simp only at hst;subst hst;obtain⟨cs,hq'⟩:=pa1.2 za1;refine⟨rfl,aI hq' ?_⟩;try simp only[I,B,D,RY,aK,aL,aN,↓KW,↓aM,seval,bz]
           refine .inr ⟨(by intro h;cases h),?_⟩
           exact ua za1 _ _ ⟨rfl,trivial⟩
          have hb0:setCells [.int .i64 0,.int .i64 0] 0 [AV.int .i64 x1,.int .i64 0]=[AV.int .i64 x1,.int .i64 0]:=rfl
          have hb2:setCells [AV.int .i64 x1,.int .i64 0] 1 [AV.int .i64 x2]=[AV.int .i64 x1,AV.int .i64 x2]:=rfl
          refine⟨rfl,aC (pa1.1 za1) ?_⟩;try simp only[I,B,D,RY,aK,aL,aN,↓KW,↓aM,seval,bz,hb0]
          have pa2:=qk.step hT kq1 za1 ea2
          have hset:=hset a
          have hac:a.cells=[I x1,I x2]:=by rw[ha];rfl
          rw[hac]at hset
          by_cases za:q'.code=0
          rotate_left
          ·obtain⟨cs,hq'⟩:=pa2.2 za
           refine⟨rfl,aI hq' ?_⟩;try simp only[I,B,D,RY,aK,aL,aN,↓KW,↓aM,seval,bz]
           refine .inr ⟨(by intro h;cases h),?_⟩
           exact ua za _ _ ⟨rfl,trivial⟩
          refine⟨rfl,aC (pa2.1 za) ?_⟩;try simp only[I,B,D,RY,aK,aL,aN,↓KW,↓aM,seval,bz,hset,hat,hln,aO,cm,Bs.len',hb0,hb2]
          repeat(refine And.intro (by first|omega|(simp at h3⊢;omega)) ?_)
          try simp only[I,B,D,RY,aK,aL,aN,↓KW,↓aM,seval,bz,hset,hat,hln,aO,cm,Bs.len',hb0,hb2]
          refine back ((y::ys)++[a],q') _ ⟨by simp at h3⊢;omega,ka,za,by rw[hQ];simp⟩ (by simp at h3⊢;omega) ?_
          refine ah (by decide) ?_ ?_ ?_ ?_<;>simp[LX,I,B,D,hset,hw1,bf,aO,cR]
         ·have h3:(y::ys).length=N4:=by have:=of_decide_eq_false h;simp only[List.length_cons]at this hL⊢;omega
          have hQ:=fZ hQ h3
          refine gS ((y::ys),q) ⟨hq,hz,by rw[hQ];simp only[List.append_nil]⟩ ?_
          refine ah (by decide) ?_ ?_ ?_ ?_<;>simp[LX,I,B,D,bf,cR]
       ·refine ah (by decide) ?_ ?_ ?_ ?_<;>simp[LX,I,B,D,bf,bq,z0,cR]
      ·rintro⟨bs,r10⟩ ⟨k10,z10,hQ⟩
       simp only at k10 z10 hQ⊢;try simp only[I,B,D,RY,aK,aL,aN,↓KW,↓aM,seval,bz]
       refine br ?_;try simp only[I,B,D,RY,aK,aL,aN,↓KW,↓aM,seval,bz,jD]
       obtain⟨a0,r11,e11,k11,u11,hQ⟩:=aZ hQ k10
       have pa0:=qk.step hT k10 z10 e11
       by_cases z11:r11.code=0
       rotate_left
       ·obtain⟨cs,hq'⟩:=pa0.2 z11
        refine⟨rfl,aI hq' ?_⟩;try simp only[I,B,D,RY,aK,aL,aN,↓KW,↓aM,seval,bz]
        exact u11 z11 _ _ ⟨rfl,trivial⟩
       refine⟨rfl,aC (pa0.1 z11) ?_⟩
       have ln0:(aW phs grs cf ds rs bs 0 0 0 0 0 (pad 0 []) 0 0).Ln:=cQ l1 l4 p0
       have hs0:setCells (aW phs grs cf ds rs bs 0 0 0 0 0 (pad 0 []) 0 0).cells 116 [I a0]=(aW phs grs cf ds rs bs a0 0 0 0 0 (pad 0 []) 0 0).cells:=(ln0.fQ a0).1
       have hl0:=ln0.len
       try simp only[I,B,D,RY,aK,aL,aN,↓KW,↓aM,seval,bz,jD,hs0,hl0]
       refine br ?_;try simp only[I,B,D,RY,aK,aL,aN,↓KW,↓aM,seval,bz,jD]
       obtain⟨a1,r12,e12,k12,u12,hQ⟩:=aZ hQ k11
       have pa1:=qk.step hT k11 z11 e12
       by_cases z12:r12.code=0
       rotate_left
       ·obtain⟨cs,hq'⟩:=pa1.2 z12
        refine⟨rfl,aI hq' ?_⟩;try simp only[I,B,D,RY,aK,aL,aN,↓KW,↓aM,seval,bz]
        exact u12 z12 _ _ ⟨rfl,trivial⟩
       refine⟨rfl,aC (pa1.1 z12) ?_⟩
       have ln1:(aW phs grs cf ds rs bs a0 0 0 0 0 (pad 0 []) 0 0).Ln:=cQ l1 l4 p0
       have hs1:setCells (aW phs grs cf ds rs bs a0 0 0 0 0 (pad 0 []) 0 0).cells 117 [I a1]=(aW phs grs cf ds rs bs a0 a1 0 0 0 (pad 0 []) 0 0).cells:=(ln1.fQ a1).2.1
       have hl1:=ln1.len
       try simp only[I,B,D,RY,aK,aL,aN,↓KW,↓aM,seval,bz,jD,hs1,hl1]
       refine br ?_;try simp only[I,B,D,RY,aK,aL,aN,↓KW,↓aM,seval,bz,jD]
       obtain⟨a2,r13,e13,k13,u13,hQ⟩:=aZ hQ k12
       have pa2:=qk.step hT k12 z12 e13
       by_cases z13:r13.code=0
       rotate_left
       ·obtain⟨cs,hq'⟩:=pa2.2 z13
        refine⟨rfl,aI hq' ?_⟩;try simp only[I,B,D,RY,aK,aL,aN,↓KW,↓aM,seval,bz]
        exact u13 z13 _ _ ⟨rfl,trivial⟩
       refine⟨rfl,aC (pa2.1 z13) ?_⟩
       have ln2:(aW phs grs cf ds rs bs a0 a1 0 0 0 (pad 0 []) 0 0).Ln:=cQ l1 l4 p0
       have hs2:setCells (aW phs grs cf ds rs bs a0 a1 0 0 0 (pad 0 []) 0 0).cells 118 [I a2]=(aW phs grs cf ds rs bs a0 a1 a2 0 0 (pad 0 []) 0 0).cells:=(ln2.fQ a2).2.2.1
       have hl2:=ln2.len
       try simp only[I,B,D,RY,aK,aL,aN,↓KW,↓aM,seval,bz,jD,hs2,hl2]
       refine br ?_;try simp only[I,B,D,RY,aK,aL,aN,↓KW,↓aM,seval,bz,jD]
       obtain⟨a3,r14,e14,k14,u14,hQ⟩:=aZ hQ k13
       have pa3:=qk.step hT k13 z13 e14
       by_cases z14:r14.code=0
       rotate_left
       ·obtain⟨cs,hq'⟩:=pa3.2 z14
        refine⟨rfl,aI hq' ?_⟩;try simp only[I,B,D,RY,aK,aL,aN,↓KW,↓aM,seval,bz]
        exact u14 z14 _ _ ⟨rfl,trivial⟩
       refine⟨rfl,aC (pa3.1 z14) ?_⟩
       have ln3:(aW phs grs cf ds rs bs a0 a1 a2 0 0 (pad 0 []) 0 0).Ln:=cQ l1 l4 p0
       have hs3:setCells (aW phs grs cf ds rs bs a0 a1 a2 0 0 (pad 0 []) 0 0).cells 119 [I a3]=(aW phs grs cf ds rs bs a0 a1 a2 a3 0 (pad 0 []) 0 0).cells:=(ln3.fQ a3).2.2.2.1
       have hl3:=ln3.len
       try simp only[I,B,D,RY,aK,aL,aN,↓KW,↓aM,seval,bz,jD,hs3,hl3]
       refine br ?_;try simp only[I,B,D,RY,aK,aL,aN,↓KW,↓aM,seval,bz,jD]
       obtain⟨a4,r15,e15,k15,u15,hQ⟩:=aZ hQ k14
       have pa4:=qk.step hT k14 z14 e15
       by_cases z15:r15.code=0
       rotate_left
       ·obtain⟨cs,hq'⟩:=pa4.2 z15
        refine⟨rfl,aI hq' ?_⟩;try simp only[I,B,D,RY,aK,aL,aN,↓KW,↓aM,seval,bz]
        exact u15 z15 _ _ ⟨rfl,trivial⟩
       refine⟨rfl,aC (pa4.1 z15) ?_⟩
       have ln4:(aW phs grs cf ds rs bs a0 a1 a2 a3 0 (pad 0 []) 0 0).Ln:=cQ l1 l4 p0
       have hs4:setCells (aW phs grs cf ds rs bs a0 a1 a2 a3 0 (pad 0 []) 0 0).cells 120 [I a4]=(aW phs grs cf ds rs bs a0 a1 a2 a3 a4 (pad 0 []) 0 0).cells:=(ln4.fQ a4).2.2.2.2
       have hl4:=ln4.len
       try simp only[I,B,D,RY,aK,aL,aN,↓KW,↓aM,seval,bz,jD,hs4,hl4]
       clear ln0 hs0 hl0 ln1 hs1 hl1 ln2 hs2 hl2 ln3 hs3 hl3 ln4 hs4 hl4;refine br ?_;try simp only[I,B,D,RY,aK,aL,aN,↓KW,↓aM,seval,bz,jD]
       refine i5 ?_;try simp only[I,B,D,RY,aK,aL,aN,↓KW,↓aM,seval,bz]
       refine kB (.exit 14) (fun y:List Int×bk=>(⟨[(3,.ptr 6 0),(2,.ptr 5 0),(1,.pt 2 [(0,0)])],[(6,⟨(aW phs grs cf ds rs bs a0 a1 a2 a3 a4 y.1 0 0).cells,[]⟩),(5,⟨cV.cells,[]⟩),(0,⟨y.2.cells,[]⟩)],[],400⟩:S)) (fun y=>y.1.length=8/\y.2.Ok/\y.2.code=0/\Q=ie e RES (fun(m,n)=>AV.agg (aW phs grs cf ds rs bs a0 a1 a2 a3 a4 y.1 m n).cells) ((dM.seq fun _=>dM).m y.2)) (fun _=>rfl) ?_ ?_
       ·refine aH (fun x:List Int×bk=>(⟨[(102,.dat (I x.1.length) none),(3,.ptr 6 0),(2,.ptr 5 0),(1,.pt 2 [(0,0)])],[(6,⟨(aW phs grs cf ds rs bs a0 a1 a2 a3 a4 (pad 0 x.1) 0 0).cells,[]⟩),(5,⟨cV.cells,[]⟩),(0,⟨x.2.cells,[]⟩)],[],400⟩:S)) (fun x=>8-x.1.length) (fun x=>x.1.length<=8/\x.2.Ok/\x.2.code=0/\Q=ie e RES (fun y:List Int×_=>(fun(m,n)=>AV.agg (aW phs grs cf ds rs bs a0 a1 a2 a3 a4 (x.1++y.1) m n).cells) y.2) ((((cF 2 (by decide)).rep (8-x.1.length)).seq fun _=>dM.seq fun _=>dM).m x.2)) ?_ ([],r15) ⟨by simp,k15,z15,by rw[hQ];rfl⟩ ?_
        ·intro x hx A back
         obtain⟨L,q⟩:=x;obtain⟨hL,hq,hz,hQ⟩:=hx;simp only at hL hq hz hQ
         have ln:(aW phs grs cf ds rs bs a0 a1 a2 a3 a4 (pad 0 L) 0 0).Ln:=cQ l1 l4 (sJ hL)
         have hln:=ln.len
         have hw:=aF (k:=L.length) (by omega)
         try simp only[I,B,D,RY,aK,aL,aN,↓KW,↓aM,seval,bz]
         refine aq (fun h=>?_) (fun h=>?_)<;>try simp only[I,B,D,RY,aK,aL,aN,↓KW,↓aM,seval,h]
         ·have h3:L.length<8:=by have:=of_decide_eq_true h;omega
          obtain⟨a,q',ea,ka,ua,hQ⟩:=gG hQ h3 hq
          have pa:=qk.step (hN 1 2 (by decide) (by decide)) hq hz ea
          have hs:setCells (aW phs grs cf ds rs bs a0 a1 a2 a3 a4 (pad 0 L) 0 0).cells (121+L.length) [I a]=(aW phs grs cf ds rs bs a0 a1 a2 a3 a4 (pad 0 (L++[a])) 0 0).cells:=by
           rw[ln.sD h3 a];simp only[aW,sK h3]
          by_cases za:q'.code=0
          rotate_left
          ·obtain⟨cs,hq'⟩:=pa.2 za
           refine⟨rfl,aI hq' ?_⟩;try simp only[I,B,D,RY,aK,aL,aN,↓KW,↓aM,seval,bz]
           refine .inr ⟨(by intro h;cases h),?_⟩
           exact ua za _ _ ⟨rfl,trivial⟩
          refine⟨rfl,aC (pa.1 za) ?_⟩;try simp only[I,B,D,RY,aK,aL,aN,↓KW,↓aM,seval,bz,hs,Ph.len]
          repeat(refine And.intro (by first|omega|(simp;omega)) ?_)
          try simp only[I,B,D,RY,aK,aL,aN,↓KW,↓aM,seval,bz,hs,Ph.len]
          refine back (L++[a],q') _ ⟨by show(L++[a]).length<=8;simp;omega,ka,za,?_⟩ (by show 8-(L++[a]).length<8-L.length;simp;omega) ?_
          ·rw[hQ];simp only[List.length_append,List.length_singleton,List.append_assoc,List.singleton_append]
          refine ah (by decide) ?_ ?_ ?_ ?_<;>simp[LX,I,B,D,hs,hw,List.length_append,cR]
         ·have h3:L.length=8:=by have:=of_decide_eq_false h;omega
          have hQ:=fZ hQ h3
          refine gS (L,q) ⟨h3,hq,hz,by rw[hQ];simp only[List.append_nil]⟩ ?_
          refine ah (by decide) ?_ ?_ ?_ ?_<;>simp[LX,I,B,D,sI h3,cR]
        ·refine ah (by decide) ?_ ?_ ?_ ?_<;>simp[LX,I,B,D,z0,cR]
       ·rintro⟨fl,r16⟩ ⟨l16,k16,z16,hQ⟩
        simp only at l16 k16 z16 hQ⊢;try simp only[I,B,D,RY,aK,aL,aN,↓KW,↓aM,seval,bz]
        have ln:(aW phs grs cf ds rs bs a0 a1 a2 a3 a4 fl 0 0).Ln:=cQ l1 l4 l16
        have ln':∀w,(aW phs grs cf ds rs bs a0 a1 a2 a3 a4 fl w 0).Ln:=fun w=>cQ l1 l4 l16
        have hl:=ln.len
        obtain⟨w,r17,e17,k17,u17,hQ⟩:=aZ hQ k16
        have pa17:=qk.step (hN 4 2147483647 (by decide) (by decide)) k16 z16 e17
        by_cases z17:r17.code=0
        rotate_left
        ·obtain⟨cs,hq'⟩:=pa17.2 z17
         refine⟨rfl,aI hq' ?_⟩;try simp only[I,B,D,RY,aK,aL,aN,↓KW,↓aM,seval,bz]
         exact u17 z17 _ _ ⟨rfl,trivial⟩
        refine⟨rfl,aC (pa17.1 z17) ?_⟩
        have hs:setCells (aW phs grs cf ds rs bs a0 a1 a2 a3 a4 fl 0 0).cells 129 [I w]=(aW phs grs cf ds rs bs a0 a1 a2 a3 a4 fl w 0).cells:=(ln.oP w).1
        have hl':=(ln' w).len
        try simp only[I,B,D,RY,aK,aL,aN,↓KW,↓aM,seval,bz,hs,hl]
        obtain⟨s,r18,e18,k18,u18,hQ⟩:=jX hQ k17
        have pa18:=qk.step (hN 4 2147483647 (by decide) (by decide)) k17 z17 e18
        by_cases z18:r18.code=0
        rotate_left
        ·obtain⟨cs,hq'⟩:=pa18.2 z18
         refine⟨rfl,aI hq' ?_⟩;try simp only[I,B,D,RY,aK,aL,aN,↓KW,↓aM,seval,bz]
         exact u18 z18 _ _ ⟨rfl,trivial⟩
        refine⟨rfl,aC (pa18.1 z18) ?_⟩
        have hs':setCells (aW phs grs cf ds rs bs a0 a1 a2 a3 a4 fl w 0).cells 130 [I s]=(aW phs grs cf ds rs bs a0 a1 a2 a3 a4 fl w s).cells:=((ln' w).oP s).2
        have ln2:(aW phs grs cf ds rs bs a0 a1 a2 a3 a4 fl w s).Ln:=cQ l1 l4 l16
        have hl2:=ln2.len
        have hw2:=ln2.whole
        have hz:setCells cV.cells 0 (aW phs grs cf ds rs bs a0 a1 a2 a3 a4 fl w s).cells=(aW phs grs cf ds rs bs a0 a1 a2 a3 a4 fl w s).cells:=dP (by rw[hl2];rfl)
        have hz0:cV.cells.length=131:=rfl
        try simp only[I,B,D,RY,aK,aL,aN,↓KW,↓aM,seval,bz,hs',hl',hw2,hl2,hz,hz0]
        refine iX hQ z18 ?_;rw[hRES];try simp only[I,B,D,RY,aK,aL,aN,↓KW,↓aM,seval,ew,z0,hw2,hl2]
end
def DP.Spec(C:bw) (e f:Nat):Prop:=(∀c0 c1:List AV,C.d f .fJ [c0,c1] [none,none] [c0,c1])/\∀(c a:Int) (c0:List AV) (x y:AV),c0.length=131->C.d f (.iface e (.agg [I c,I a])) [c0,[x,y]] [none,none] [cV.cells,[I c,I a]]
def sN.Spec(C:bw) (f:Nat):Prop:=sL.Spec C f
def Cp:Cd Int:=oX 3 16777215 (by decide) (by decide)
theorem DQ{l:List Int} (hb:qd l) (h:l.length=3):eZ l=5784065↔l=[88,66,1]:=by
 constructor
 ·intro e
  have:=rH l hb (by omega)
  rw[e,h]at this;rw[<-this];decide+kernel
 ·rintro rfl;decide+kernel
section
variable{P:Program} (hm:P.follows .mixedOrders=true) {f:Nat}
include hm
theorem DP.ok{e:Nat} (hc:G3 P f=some (kQ e)):DP.Spec (Pure P) e f:=by
 have z3:bG=cV.cells:=rfl
 have z0:cV.cells.length=131:=rfl
 have z4:∀x y u v:AV,setCells [u,v] 0 [x,y]=[x,y]:=fun _ _ _ _=>rfl
 have y3:∀x y:AV,bF [x,y] 0 (some 2)=some (.agg [x,y]):=fun _ _=>rfl
 have z1:bF cV.cells 0 (some 131)=some (.agg cV.cells):=rfl
 refine⟨fun c0 c1=>?_,fun c a c0 x y hl=>?_⟩
 ·refine oM hm hc rfl (by show 2<=12;decide) rfl (by simp) ?_
  try simp only[I,B,D,RY,aK,aL,aN,↓KW,↓aM,seval,kQ,Z.H,z4,y3]
 ·have z2:setCells c0 0 cV.cells=cV.cells:=dP (by rw[hl];rfl)
  refine oM hm hc rfl (by show 2<=12;decide) rfl (by simp) ?_
  try simp only[I,B,D,RY,aK,aL,aN,↓KW,↓aM,seval,kQ,Z.H,z4,y3,z3,z2,z0,z1,hl]
  refine uW rfl ?_;try simp only[I,B,D,RY,aK,aL,aN,↓KW,↓aM,seval,z4,y3,z3,z2,z0,z1,hl]
theorem sN.ok{fD e fW fN fT fA fC fL:Nat} (hc:G6 P f=some (fX fD e fW fN fT fA fC fL)) (hD:DP.Spec (Pure P) e fD) (hW:JA.Spec (Pure P) fW) (hN:xQ.Spec (Pure P) e fN) (hT:Kh.Spec (Pure P) e fT) (hA:Sf.Spec (Pure P) fA) (hC:Be.Spec (Pure P) fC) (hL:A3.Spec (Pure P) fL):sN.Spec (Pure P) f:=by
 intro b hb hB
 obtain⟨l,hl⟩:∃l,l=b.getD []:=⟨_,rfl⟩
 rw[<-hl]at hB⊢;refine EM ?_
 have z3:bG=cV.cells:=rfl
 have z0:cV.cells.length=131:=rfl
 have z1:bF cV.cells 0 (some 131)=some (.agg cV.cells):=rfl
 have z2:setCells cV.cells 0 cV.cells=cV.cells:=dP rfl
 have z4:∀x y u v:AV,setCells [u,v] 0 [x,y]=[x,y]:=fun _ _ _ _=>rfl
 have y3:∀x y:AV,bF [x,y] 0 (some 2)=some (.agg [x,y]):=fun _ _=>rfl
 by_cases h1:l.length>2048
 ·have e:kC l=(cV,1,0):=by unfold kC;rw[if_pos h1]
  rw[e]
  have s1:decide (2048<(l.length:Int))=true:=by simp;omega
  refine iK hm hc (by show 1<=47;decide) rfl (by simp) (iJ (keep:=[]) ?_)
  try simp only[I,B,D,RY,aK,aL,aN,↓KW,↓aM,seval,fX,Z.H,List.map_cons,List.map_nil,<-hl,z3,z0,z1,z2,s1,lM]
  refine gA rfl (ir (hD.2 _ _ _ _ _ z0) rfl rfl rfl ?_);try simp only[I,B,D,RY,aK,aL,aN,↓KW,↓aM,seval,z3,z0,z1,z2,z4,y3,lM]
 have s1:decide (2048<(l.length:Int))=false:=by simp;omega
 have hok:(bk.mk b 0 0 0).Ok:=⟨by show(0:Int)<=0;omega,by show(0:Int)<=((b.getD []).length:Int);omega,by show((b.getD []).length:Int)<=1000000;omega⟩
 have hby:(bk.mk b 0 0 0).qd:=by show qd (b.getD []);rw[<-hl];exact hB
 have hrl:(bk.mk b 0 0 0).rest'=l:=by show(b.getD []).drop 0=l;rw[<-hl];rfl
 obtain⟨n,r0,e0⟩:∃n r0,Cp.m ⟨b,0,0,0⟩=(n,r0):=⟨_,_,rfl⟩
 have k0:r0.Ok:=by have:=Cp.ok _ hok;rw[e0]at this;exact this
 have p0:=(hN 3 16777215 (by decide) (by decide)).step hok rfl e0
 have cW:=hW b hb
 by_cases h2:l.length<3
 ·have e:kC l=(cV,2,(l.length:Int)):=by unfold kC;rw[if_neg h1,if_pos h2]
  rw[e]
  have hn:r0.code=2/\r0.EN=l.length:=by
   have hm':Cp.m ⟨b,0,0,0⟩=(0,⟨b,0,2,l.length⟩):=by
    have:(bk.mk b 0 0 0).len=l.length:=by show((b.getD []).length:Int)=_;rw[<-hl]
    show gI ⟨b,0,0,0⟩ (3:Nat) 0 16777215=_
    simp only[gI,DI (show 3<=7 by decide),this]
    rw[if_pos (by simp;omega)]
    simp[bk.fail]
   rw[hm']at e0;cases e0;exact⟨rfl,rfl⟩
  obtain⟨cs,q0⟩:=p0.2 (by rw[hn.1];decide)
  refine iK hm hc (by show 1<=47;decide) rfl (by simp) (iJ (keep:=[]) ?_)
  try simp only[I,B,D,RY,aK,aL,aN,↓KW,↓aM,seval,fX,Z.H,List.map_cons,List.map_nil,<-hl,z3,z0,z1,z2,s1,lM]
  refine oL cW ?_;try simp only[I,B,D,RY,aK,aL,aN,↓KW,↓aM,seval,bz,bk.cells]
  refine⟨rfl,aI q0 ?_⟩;try simp only[I,B,D,RY,aK,aL,aN,↓KW,↓aM,seval,bz,up,bk.fault,hn]
  refine gA rfl (ir (hD.2 _ _ _ _ _ z0) rfl rfl rfl ?_);try simp only[I,B,D,RY,aK,aL,aN,↓KW,↓aM,seval,z3,z0,z1,z2,z4,y3,lM]
 have h3l:((l.take 3).length)=3:=by simp;omega
 have hB3:qd (l.take 3):=fun x hx=>hB x (List.mem_of_mem_take hx)
 have hin:=x6 hB3 (by omega)
 rw[h3l,show(256:Int)^3=16777216 by decide]at hin
 have hm':Cp.m ⟨b,0,0,0⟩=(eZ (l.take 3),⟨b,3,0,0⟩):=by
  have h4:(bk.mk b 0 0 0).len=l.length:=by show((b.getD []).length:Int)=_;rw[<-hl]
  show gI ⟨b,0,0,0⟩ (3:Nat) 0 16777215=_
  simp only[gI,DI (show 3<=7 by decide),h4,oW _ hok,hrl,bC (n:=eZ (l.take 3)) (by omega) (by omega)]
  rw[if_neg (by simp;omega),if_neg (by omega)]
  rfl
 rw[hm']at e0;cases e0
 have p0:=p0.1 rfl
 by_cases h3:l.take 3≠[88,66,1]
 ·have e:kC l=(cV,3,0):=by unfold kC;rw[if_neg h1,if_neg h2,if_pos h3]
  rw[e]
  have s3:(eZ (l.take 3) !=5784065)=true:=by simp only[bne_iff_ne,ne_eq];rw[DQ hB3 h3l];exact h3
  refine iK hm hc (by show 1<=47;decide) rfl (by simp) (iJ (keep:=[]) ?_)
  try simp only[I,B,D,RY,aK,aL,aN,↓KW,↓aM,seval,fX,Z.H,List.map_cons,List.map_nil,<-hl,z3,z0,z1,z2,s1,lM]
  refine oL cW ?_;try simp only[I,B,D,RY,aK,aL,aN,↓KW,↓aM,seval,bz,bk.cells]
  refine⟨rfl,aC p0 ?_⟩;try simp only[I,B,D,RY,aK,aL,aN,↓KW,↓aM,seval,bz,s3,bk.cells]
  refine gA rfl (ir (hD.2 _ _ _ _ _ z0) rfl rfl rfl ?_);try simp only[I,B,D,RY,aK,aL,aN,↓KW,↓aM,seval,z3,z0,z1,z2,z4,y3,lM]
 have h3':l.take 3=[88,66,1]:=Classical.not_not.1 h3
 have s3:(eZ (l.take 3) !=5784065)=false:=by rw[bne_eq_false_iff_eq,DQ hB3 h3l];exact h3'
 have hbl:b=some l:=by
  cases b with
  |none=>exfalso;rw[hl]at h2;simp at h2
  |some y=>rw[show l=y from hl]
 obtain⟨t,r1,e1⟩:∃t r1,ot.m ⟨b,3,0,0⟩=(t,r1):=⟨_,_,rfl⟩
 have k1:r1.Ok:=by have:=ot.ok _ k0;rw[e1]at this;exact this
 have hr1:r1.b=some l:=by have:=ot.keep ⟨b,3,0,0⟩;rw[e1]at this;rw[<-hbl];exact this
 have hln:t.Ln:=by have:=Ka ⟨b,3,0,0⟩;rw[e1]at this;exact this
 have p1:=qk.step hT k0 rfl e1
 obtain⟨s,r2,e2⟩:∃s r2,oY.m r1=(s,r2):=⟨_,_,rfl⟩
 have k2:r2.Ok:=by have:=oY.ok _ k1;rw[e2]at this;exact this
 have hr2:r2.b=some l:=by have:=oY.keep r1;rw[e2]at this;rw[<-hr1];exact this
 have hd:kC l=if r2.code≠0 then(cV,r2.code,r2.EN)else if s≠((jR 0xffff#16 (l.take r1.eM.toNat)).toNat:Int)then(cV,5,r1.eM)else if r2.eM<l.length then(cV,6,r2.eM)else(t,0,0):=by
  unfold kC;rw[if_neg h1,if_neg h2,if_neg h3];rw[hbl]at e1;simp only[e1,e2]
 have hlen:=hln.len
 have hwh:=hln.whole
 have y1:setCells cV.cells 0 t.cells=t.cells:=dP (by rw[hlen];rfl)
 have y2:setCells t.cells 0 t.cells=t.cells:=dP rfl
 have hat:0<=r1.eM/\r1.eM<=(l.length:Int):=⟨k1.1,by have:=k1.2.1;rw[bk.len,hr1]at this;exact this⟩
 by_cases z5:r1.code=0
 rotate_left
 ·obtain⟨cs,q1⟩:=p1.2 z5
  have hst:=oY.stay r1 z5
  rw[e2]at hst;simp only at hst;subst hst;rw[hd,if_pos z5]
  refine iK hm hc (by show 1<=47;decide) rfl (by simp) (iJ (keep:=[]) ?_)
  try simp only[I,B,D,RY,aK,aL,aN,↓KW,↓aM,seval,fX,Z.H,List.map_cons,List.map_nil,<-hl,z3,z0,z1,z2,s1,lM]
  refine oL cW ?_;try simp only[I,B,D,RY,aK,aL,aN,↓KW,↓aM,seval,bz,bk.cells]
  refine⟨rfl,aC p0 ?_⟩;try simp only[I,B,D,RY,aK,aL,aN,↓KW,↓aM,seval,bz,s3,bk.cells]
  refine⟨rfl,aI q1 ?_⟩;try simp only[I,B,D,RY,aK,aL,aN,↓KW,↓aM,seval,bz,up,bk.fault]
  refine gA rfl (ir (hD.2 _ _ _ _ _ z0) rfl rfl rfl ?_);try simp only[I,B,D,RY,aK,aL,aN,↓KW,↓aM,seval,z3,z0,z1,z2,z4,y3,lM]
 have p1:=p1.1 z5
 have p2:=(hN 2 65535 (by decide) (by decide)).step k1 z5 e2
 by_cases z6:r2.code=0
 rotate_left
 ·obtain⟨cs,q2⟩:=p2.2 z6
  rw[hd,if_pos z6]
  refine iK hm hc (by show 1<=47;decide) rfl (by simp) (iJ (keep:=[]) ?_)
  try simp only[I,B,D,RY,aK,aL,aN,↓KW,↓aM,seval,fX,Z.H,List.map_cons,List.map_nil,<-hl,z3,z0,z1,z2,s1,lM]
  refine oL cW ?_;try simp only[I,B,D,RY,aK,aL,aN,↓KW,↓aM,seval,bz,bk.cells]
  refine⟨rfl,aC p0 ?_⟩;try simp only[I,B,D,RY,aK,aL,aN,↓KW,↓aM,seval,bz,s3,bk.cells]
  refine⟨rfl,aC p1 ?_⟩;try simp only[I,B,D,RY,aK,aL,aN,↓KW,↓aM,seval,bz,y1,hlen,z0]
  refine⟨rfl,aC (hA r1) ?_⟩;try simp only[I,B,D,RY,aK,aL,aN,↓KW,↓aM,seval,bz,y1,hlen,z0]
  refine y6 rfl ?_;try simp only[I,B,D,RY,aK,aL,aN,↓KW,↓aM,seval,bz]
  refine⟨rfl,mW q2 ?_⟩;try simp only[I,B,D,RY,aK,aL,aN,↓KW,↓aM,seval,bz,up,bk.fault]
  refine⟨by rw[<-hl];exact hat,fun _ _=>rfl,?_⟩
  refine gA rfl (ir (hD.2 _ _ _ _ _ hlen) rfl rfl rfl ?_);try simp only[I,B,D,RY,aK,aL,aN,↓KW,↓aM,seval,z3,z0,z1,z2,z4,y3,lM]
 have p2:=p2.1 z6
 rw[hd,if_neg (by simp[z6])]
 have cC:=hC (some (l.take r1.eM.toNat)) (by simp;rw[<-hl]at hb;omega) (fun x hx=>hB x (List.mem_of_mem_take hx))
 rw[Option.getD_some]at cC
 have hcut:Bz (aD dD (some l)) (List.map dD l) 0 r1.eM=aD dD (some (l.take r1.eM.toNat)):=by simp[Bz,aD,List.map_take]
 obtain⟨w,hw⟩:∃w,w=jR 0xffff#16 (l.take r1.eM.toNat):=⟨_,rfl⟩
 rw[<-hw]at cC⊢
 have hwr:IntKind.i64.wrap (w.toNat:Int)=w.toNat:=eO (by omega) (by have:=w.isLt;omega)
 refine iK hm hc (by show 1<=47;decide) rfl (by simp) (iJ (keep:=[]) ?_)
 try simp only[I,B,D,RY,aK,aL,aN,↓KW,↓aM,seval,fX,Z.H,List.map_cons,List.map_nil,<-hl,z3,z0,z1,z2,s1,lM]
 refine oL cW ?_;try simp only[I,B,D,RY,aK,aL,aN,↓KW,↓aM,seval,bz,bk.cells]
 refine⟨rfl,aC p0 ?_⟩;try simp only[I,B,D,RY,aK,aL,aN,↓KW,↓aM,seval,bz,s3,bk.cells]
 refine⟨rfl,aC p1 ?_⟩;try simp only[I,B,D,RY,aK,aL,aN,↓KW,↓aM,seval,bz,y1,hlen,z0]
 refine⟨rfl,aC (hA r1) ?_⟩;try simp only[I,B,D,RY,aK,aL,aN,↓KW,↓aM,seval,bz,y1,hlen,z0]
 refine y5 rfl ?_;try simp only[I,B,D,RY,aK,aL,aN,↓KW,↓aM,seval,bz]
 refine⟨rfl,ay p2 ?_⟩;try simp only[I,B,D,RY,aK,aL,aN,↓KW,↓aM,seval,bz,<-hl]
 refine⟨hat,fun _ _=>rfl,?_⟩
 rw[hbl,hcut];refine ai cC ?_;try simp only[I,B,D,RY,aK,aL,aN,↓KW,↓aM,seval,bz,U,hwr]
 by_cases q2:s=(w.toNat:Int)
 ·have q2':(s !=(w.toNat:Int))=false:=by simp[q2]
  rw[if_neg (by simp[q2])]
  have cL:=hL r2 k2
  have hr2l:r2.len=l.length:=by rw[bk.len,hr2];rfl
  rw[hr2l]at cL;try simp only[I,B,D,RY,aK,aL,aN,↓KW,↓aM,seval,bz,q2']
  refine⟨rfl,aC cL ?_⟩
  by_cases q3:r2.eM<l.length
  ·have q3':decide ((l.length:Int)-r2.eM>0)=true:=by simp;omega
   rw[if_pos q3];try simp only[I,B,D,RY,aK,aL,aN,↓KW,↓aM,seval,bz,q3']
   refine⟨rfl,aC (hA r2) ?_⟩;try simp only[I,B,D,RY,aK,aL,aN,↓KW,↓aM,seval,bz]
   refine gA rfl (ir (hD.2 _ _ _ _ _ hlen) rfl rfl rfl ?_);try simp only[I,B,D,RY,aK,aL,aN,↓KW,↓aM,seval,z3,z0,z1,z2,z4,y3,lM]
  ·have q3':decide ((l.length:Int)-r2.eM>0)=false:=by simp;omega
   rw[if_neg q3];try simp only[I,B,D,RY,aK,aL,aN,↓KW,↓aM,seval,bz,q3',hwh,hlen,y1,y2,z0,z1,z2,z4,y3,lM]
   refine ir (hD.1 _ _) rfl rfl rfl ?_;try simp only[I,B,D,RY,aK,aL,aN,↓KW,↓aM,seval,z3,z0,z1,z2,z4,y3,lM,hlen,hwh]
 ·have q2':(s !=(w.toNat:Int))=true:=by simp[q2]
  rw[if_pos q2];try simp only[I,B,D,RY,aK,aL,aN,↓KW,↓aM,seval,bz,q2']
  refine gA rfl (ir (hD.2 _ _ _ _ _ hlen) rfl rfl rfl ?_);try simp only[I,B,D,RY,aK,aL,aN,↓KW,↓aM,seval,z3,z0,z1,z2,z4,y3,lM]
end
end Go.Eng
