/- The library of TopRank. -/
import Derived.Test.YtjnbemnncjbmgaaGreatPk22
set_option linter.all false
set_option maxRecDepth 10000
set_option maxHeartbeats 4000000
namespace Go.Eng
open Go
section
open Z
def ya(M Z R O V L D:Nat):bJ:=(⟨_,by conv=>lhs;ext y0 y1;cbv⟩:bS λ(y0 y1:List AV)=>cE 116 [.tmp 4] [M,Z,R,O,V,L,D] [0,2,5,4,1] 0x1420019cc5e65f20100420038e302f018c50bc1f96285f3dc85f021665910200941605fc706c82fe5817f43f810c6417ff0330bf95905ffc1905ff801905fed6099b3e2f073cb07c7217af56015269f8ae073e1605fd60431605fe40b42fe85817f905817f6905817f558266bf8ad1cf141b5c85ebd28054e62b81bf80990a0f820675517cc745e0cb22040128240bf8e0f1205fd0fe0c202fbe08c9f0f8e42f5eac0f0738b06b021aa40b4738500990a0f820674517cc405e06cb220401281a8bf8e0e0d45fd0fe05e1f7edeae0f0738b03517f58363517f43f910549f07819c5835810547f05a19c280408080bc60cc5e01217818d001121a33a60c5ebd28009418e24151fc1684f0a0112141f040a502f9c01c138bf814b1f012d42f02344a2f9a8120bf8608c5fc0b142f2217f1297465e4342fe78f88d0bf9e3e00442f7af81a1780228cccc12c0558e16e18a17bf4c18bd78d8be0202f01730960404d1851b840a0bc080700e03040e285e262fe051778091a0c5e4485f0400c0a04268202f018418bfc3fc0a0af01034e02048810 [y0,y1,[.int .i64 0,.int .i64 0,.int .i64 0,.int .i64 0,.int .i64 0,.int .i64 0,.int .i64 0,.int .i64 0]]).1 bL aD
end
section
variable {b:Bx} {t:Tb}
theorem ahK{n:Nat} (g:TG t n) {x:Fr} (I:CI t n b) (D:DIb t (gz t b x)) (J:CI t n (gz t b x)) (Z:b.mode=2) (O:(gz t b x).mode=2):alL t (gz t b x) (vM t b x):=by
 obtain⟨e,M⟩:=qj (x:=x) Z O
 refine⟨?_,λh4=>?_⟩
 ·rw[e];exact(Kr _ _ I.si.pre).1
 ·have V:=Sg g (J.si.pre.which (by rw[h4];decide))
  have key:∀i,i<64->tb (UJ (vM t b x)) i=true->i<8/\tb (bn t (gz t b x).st.pre).fe i=true:=λi _ h=>by
   rw[UJ,L9 _ i 8 ado]at h
   simp only[ed,ii]at h;refine⟨h.1,?_⟩
   have hm:=h.2
   rw[M]at hm;unfold U5 at hm;rw[xO _ h.1]at hm
   have s1:=(FN (J.si.run i h.1).col).1 hm
   cases hd:tb (bn t (gz t b x).st.pre).fe i with
   |true=>rfl
   |false=>
    have:=D h4 i h.1 hd
    have s1:dN ((gz t b x).st.rn i)=false:=s1
    rw[s1]at this;cases this
  constructor
  ·refine nD.2 λi L=>?_
   cases h:tb (UJ (vM t b x)) i with
   |false=>rfl
   |true=>rw[(key i L h).2];rfl
  ·refine and_zero.2 λi L=>?_
   cases h:tb (UJ (vM t b x)) i with
   |false=>rfl
   |true=>
    have:=(key i L h).2
    cases R:tb (bn t (gz t b x).st.pre).bars i with
    |false=>rfl
    |true=>rw[(V.bars.2 i L R).2]at this;cases this
theorem Bx.Ir(h:b.Ok):aB b.cells 109 (some 8)=some (.agg b.st.pre.cells):=by
 have e:=bD.agS h.st
 have L:=bD.len h.st
 have M:=Bx.len h
 simp only[aB,L,M]at e⊢
 rw[fp ado]at e
 rw[fp ado]
 have D:b.cells=I b.mode::I b.time::I b.fault::(b.st.cells++(b.cH.cells++[I b.lines,I b.tick])):=rfl
 rw[D,show(109:Nat)=106+1+1+1 from rfl,mp,mp,mp,If ado,wn (by simp;omega)]
 exact e
theorem O6{k:Int} (h:0<=k/\k<(nR t:Int)):(0<=k/\k<((t.bE.getD []).length:Int))/\∃x,(t.bE.getD [])[k.toNat]? =some x/\∀s:Pr,s.which=k->bn t s=x:=by
 have:nR t<=(t.bE.getD []).length:=Nat.min_le_left _ _
 refine⟨ado,(t.bE.getD [])[k.toNat]' ado,eh ado,λs D=>?_⟩
 rw[bn,D,fp h,NA,em,eh ado];rfl
def FR.Spec(C:aT) (f:Nat):Prop:=∀l sc:Option (List Int),C.c f [aI aH l,aI aH sc] (B true) none
end
section
variable{P:Program} (hm:P.follows .mixedOrders=true) {f:Nat}
include hm
theorem FR.ok{fT fC fB fS fR fM fA:Nat} (hc:bK P f=some (ya fT fC fB fS fR fM fA)) (hT:Table.Spec (Pure P) fT) (hC:qg.Spec (Pure P) fC) (hB:lO.Spec (Pure P) fB) (hS:qi.Spec (Pure P) fS) (hR:Aw.Spec (Pure P) fR) (hM:DM.Spec (Pure P) fM) (hA:jw.Spec (Pure P) fA):FR.Spec (Pure P) f:=by
 intro l sc
 have ac:=vT.table l
 have hg:=Ie l
 have ba:=IK l
 obtain⟨t,ao⟩:∃t,bk l=t:=⟨_,rfl⟩
 obtain⟨M,al⟩:∃x,ez (gD false (sc.getD []))=x:=⟨_,rfl⟩
 have am:M.getD []=gD false (sc.getD []):=by rw[<-al,dB]
 have ad:Qm (M.getD []):=by rw[am];exact kM _ _
 have be:(M.getD []).length<=1500:=by rw[am];exact kN _ _
 have cT:=hT l
 rw[ao]at cT ac hg ba
 have cC:=hC sc false
 rw[al]at cC
 have ht:=ac.tok
 have a2:=Tb.len ht
 have a6:=Tb.whole ht
 have z1:bL.length=131:=rfl
 have z2:setCells bL 0 t.cells=t.cells:=aM (by rw[a2];rfl)
 have z3:aD.length=138:=rfl
 have ak:=λi (h:i<=(M.getD []).length)=>CI.run hg ac ad i h
 clear ao al am;generalize nT l=n at*
 have a8:=λi (h:i<=(M.getD []).length)=>DIb.run hg ac ad i h
 have ag:=dC a2 (dC a6 (dC z1 (dC z2 (z3))))
 refine aq hm hc [] rfl ?_;try simp only[B,RY,↓KW,seval,ya,Z.H]
 refine af cT ?_;try simp only[RY,↓KW,seval,ag]
 refine af cC ?_;try simp only[RY,↓KW,seval,ag]
 have a4:(jQ t).Ok:=nk t
 have b0:=Bx.len a4
 have b2:setCells aD 0 (jQ t).cells=(jQ t).cells:=aM (by rw[b0];rfl)
 refine af (hB t ht) ?_;try simp only[RY,↓KW,seval,b0,b2,ag]
 refine aG (λi:Nat=>(⟨[(8,.dat (I i) none),(6,.dat (aI Fr.cells M) none),(5,.ptr 7 0),(7,.ptr 14 0)],[(7,⟨t.cells,[]⟩),(14,⟨(eO t (M.getD []) i).cells,[]⟩)],[],400⟩:S)) (λi=>1500-i) (λi=>i<=(M.getD []).length) ?_ 0 ado ?_
 rotate_left
 ·refine ai adp ?_ ?_ ?_ ?_<;>simp[LX,I,eO]
 intro i hi A back
 have aa:=aC (k:=i) ado
 rcases bf (decide ((i:Int)<((M.getD []).length:Int)))with h|h
 ·try simp only[I,RY,↓KW,seval,h]
  refine af hA ?_;try simp only[B,RY,↓KW,seval]
 ·have h1:i<(M.getD []).length:=by have:=dE h;omega
  obtain⟨x,hx⟩:∃x,(M.getD [])[i]? =some x:=⟨_,eh h1⟩
  have a9:(M.getD []).getD i default=x:=by rw[em,hx];rfl
  have a5:(x.samples.getD []).length<=1000000:=ad x (er hx)
  have ae:eO t (M.getD []) (i+1)=gz t (eO t (M.getD []) i) x:=by rw[<-a9];rfl
  have hI:=ak i hi
  have hJ:=ak (i+1) ado
  have cS:=hS t (eO t (M.getD []) i) x (hI.inv.ins ac a5)
  rw[lX]at cS;rw[ae]at hJ
  have hy:0<=(i:Int)/\(i:Int)<((M.getD []).length:Int):=ado
  obtain⟨g1,g2,g3,g4,g5⟩:=Pc x
  have ar:=a8 (i+1) ado
  rw[ae]at ar
  have au:=ahK hg hI (x:=x) ar hJ
  rw[<-ae]at au
  have R:=AN t (eO t (M.getD []) i) x
  have b3:=Bx.len hI.inv.mZ
  have b4:=Bx.whole hI.inv.mZ
  have c1:=Bx.len hJ.inv.mZ
  have c4:=Bx.whole hJ.inv.mZ
  rw[<-ae]at cS c1 c4 hJ;generalize vM t (eO t (M.getD []) i) x=L at*;generalize Sm t (eO t (M.getD []) i) x=ev at*
  have c2:setCells aD 0 (eO t (M.getD []) (i+1)).cells=(eO t (M.getD []) (i+1)).cells:=aM (by rw[c1];rfl)
  have c3:setCells (eO t (M.getD []) i).cells 0 (eO t (M.getD []) (i+1)).cells=(eO t (M.getD []) (i+1)).cells:=aM (by rw[b3,c1])
  generalize bd:eO t (M.getD []) i=b at*;generalize V:eO t (M.getD []) (i+1)=b' at*
  have d1:(L.map I).length=8:=by simp[R]
  have d2:setCells [.int .i64 0,.int .i64 0,.int .i64 0,.int .i64 0,.int .i64 0,.int .i64 0,.int .i64 0,.int .i64 0] 0 (L.map I)=L.map I:=aM (by rw[d1];rfl)
  have d3:aB (L.map I) 0 (some 8)=some (.agg (L.map I)):=by
   simp only[aB,d1,kb]
   rw[fp ado,<-d1,io]
  have m1:b.cells[0]? =some (I b.mode):=rfl
  have m2:b'.cells[0]? =some (I b'.mode):=rfl
  have a3:=dC hy (dC hx (dC b3 (dC b4 (dC c1 (dC c2 (dC c3 (dC c4 (dC d1 (dC d2 (dC d3 (dC g1 (dC g2 (dC m1 (dC m2 (ag)))))))))))))))
  have s1:=Bx.Ir hJ.inv.mZ
  have a7:=hJ.si.pre
  have oh:=hJ.inv.mZ.st.held
  have s0:=Pr.len oh
  have sw:=Pr.whole oh
  have tr:=Tb.sK ht
  have cR:=hR t b'.st.pre ht oh
  have z8:setCells [.int .i64 0,.int .i64 0,.int .i64 0,.int .i64 0,.int .i64 0,.int .i64 0,.int .i64 0,.int .i64 0] 0 b'.st.pre.cells=b'.st.pre.cells:=aM (by rw[s0];rfl)
  have q0:b'.st.pre.cells[0]? =some (I b'.st.pre.ax):=rfl
  have q1:b'.st.pre.cells[1]? =some (I b'.st.pre.which):=rfl
  have D:=dC s1 (dC s0 (dC sw (dC tr (dC z8 (dC q0 (dC q1 (a3)))))))
  try simp only[I,RY,↓KW,seval,D]
  refine af cS ?_
  rcases bf (b.mode==2)with y1|y1
  ·try simp only[I,RY,↓KW,seval,y1,D]
   refine back (i+1) _ ado ado ?_
   refine ai adp ?_ ?_ ?_ ?_<;>simp[LX,I,aa,V]
  rcases bf (b'.mode==2)with y2|y2
  ·try simp only[I,RY,↓KW,seval,y1,y2,D]
   refine back (i+1) _ ado ado ?_
   refine ai adp ?_ ?_ ?_ ?_<;>simp[LX,I,aa,V]
  obtain⟨k1,k2⟩:=au (by simpa using y1) (by simpa using y2)
  unfold ahA at k1
  have an:=a7.which
  generalize hr:aQ t b'.st.pre=r at*;try simp only[I,RY,↓KW,seval,y1,y2,D]
  refine af cR ?_
  rcases bf (decide (r>=0))with u|u
  rotate_left
  ·obtain⟨v0,v5,vr⟩:=k1 (dE u)
   have v0:(b'.st.pre.ax==0)=false:=by simpa using v0
   have v5:(b'.st.pre.ax==5)=false:=by simpa using v5
   have vr:decide (b'.st.pre.which>r)=false:=ut ado
   try simp only[I,RY,↓KW,seval,u,v0,v5,vr,D]
   rcases bf (b'.st.pre.ax==4)with v4|v4
   ·try simp only[I,RY,↓KW,seval,v4,D]
    refine back (i+1) _ ado ado ?_
    refine ai adp ?_ ?_ ?_ ?_<;>simp[LX,I,aa,V]
   ·have ab:b'.st.pre.ax=4:=by simpa using v4
    obtain⟨z1,z2⟩:=k2 ab
    obtain⟨z3,rl,z4,z5⟩:=O6 (an (by rw[ab];decide))
    rw[z5 _ rfl]at z1 z2
    have z6:decide (b'.st.pre.which<0)=false:=ut ado
    have z7:decide (b'.st.pre.which>=((t.bE.getD []).length:Int))=false:=ut ado
    have z9:rl.cells.length=11/\rl.cells.drop 2=I rl.fe::rl.cells.drop 3/\rl.cells[2]? =some (I rl.fe)/\rl.cells[0]? =some (I rl.bars):=⟨rfl,rfl,rfl,rfl⟩
    have O:=dC v4 (dC z3 (dC z4 (dC z6 (dC z7 (dC z9 (dC z1 (dC z2 (D))))))))
    try simp only[I,RY,↓KW,seval,O]
    refine af (hM L R) ?_;try simp only[I,RY,↓KW,seval,O]
    try refine af (hM L R) ?_
    try simp only[I,RY,↓KW,seval,O]
    refine back (i+1) _ ado ado ?_
    refine ai adp ?_ ?_ ?_ ?_<;>simp[LX,I,aa,V]
  ·try simp only[I,RY,↓KW,seval,u,D]
   rcases bf (b'.st.pre.ax==4)with v4|v4
   ·try simp only[I,RY,↓KW,seval,v4,D]
    refine back (i+1) _ ado ado ?_
    refine ai adp ?_ ?_ ?_ ?_<;>simp[LX,I,aa,V]
   ·have ab:b'.st.pre.ax=4:=by simpa using v4
    obtain⟨z1,z2⟩:=k2 ab
    obtain⟨z3,rl,z4,z5⟩:=O6 (an (by rw[ab];decide))
    rw[z5 _ rfl]at z1 z2
    have z6:decide (b'.st.pre.which<0)=false:=ut ado
    have z7:decide (b'.st.pre.which>=((t.bE.getD []).length:Int))=false:=ut ado
    have z9:rl.cells.length=11/\rl.cells.drop 2=I rl.fe::rl.cells.drop 3/\rl.cells[2]? =some (I rl.fe)/\rl.cells[0]? =some (I rl.bars):=⟨rfl,rfl,rfl,rfl⟩
    have O:=dC v4 (dC z3 (dC z4 (dC z6 (dC z7 (dC z9 (dC z1 (dC z2 (D))))))))
    try simp only[I,RY,↓KW,seval,O]
    refine af (hM L R) ?_;try simp only[I,RY,↓KW,seval,O]
    try refine af (hM L R) ?_
    try simp only[I,RY,↓KW,seval,O]
    refine back (i+1) _ ado ado ?_
    refine ai adp ?_ ?_ ?_ ?_<;>simp[LX,I,aa,V]
end
end Go.Eng
