/- The engine and the library,part 12 of 18: what the proofs of this seat need of them. -/
import Derived.Test.YtdhlkekmkollhaaGreatPk11
set_option linter.unnecessarySimpa false
set_option linter.unusedSimpArgs false
set_option linter.unusedVariables false
set_option linter.defProp false
set_option maxRecDepth 10000
set_option maxHeartbeats 4000000
namespace Go.Eng
open Go
theorem VX {l:List Int} (h:l.length=8) {p:Nat} (hp:p < 8):l[p]? = some (mL l p):=by
 have:p < l.length:=by omega
 simp [mL,this]
def Mn.ux (m:Mn) (k:Nat) (x:Int):Mn:={ m with ticks:=m.ticks.set k x }
theorem Mn.z0 {m:Mn} (h:m.Ok) (k:Nat) (x:Int):(m.ux k x).Ok:=⟨h.last,by simp [Mn.ux,h.ticks]⟩
theorem Mn.wE {m:Mn} (h:m.Ok) {k:Nat} (hk:k < 8) (x:Int):setCells m.cells (8 + k) [I x]=(m.ux k x).cells:=by
 have:=wD (A:=m.last.map I) (B:=[]) (l:=m.ticks) (x:=x) (o:=8) (by simp [h.last]) (by rw [h.ticks]; exact hk)
 simpa [Mn.cells,Mn.ux] using this
def wK (m:Mn) (l:List Int) (p:Nat):Int:=if cn .i64 (mL l p) 7 == cn .i64 (mL m.last p) 7 then bD (mL m.ticks p) else 1
def wL (m:Mn) (l:List Int) (k:Nat):Mn:=⟨l,oD (wK m l) (fun _=>0) k⟩
def tc (m:Mn) (l:List Int):Mn:=wL m l 8
theorem uf {m:Mn} {l:List Int} (h:l.length=8) (k:Nat):(wL m l k).Ok:=⟨h,mT _ _ _⟩
theorem Mu {m:Mn} {l:List Int} {k:Nat} (hk:k < 8) (h:(cn .i64 (mL l k) 7 == cn .i64 (mL m.last k) 7)=true):((wL m l k).ux k 1).ux k (bD (mL m.ticks k))=wL m l (k + 1):=by
 simp only [wL,Mn.ux,List.set_set]
 have:bD (mL m.ticks k)=wK m l k:=by simp only [wK,h,if_true]
 rw [this,kJ (wK m l) _ hk]
theorem Pa {m:Mn} {l:List Int} {k:Nat} (hk:k < 8) (h:(cn .i64 (mL l k) 7 == cn .i64 (mL m.last k) 7)=false):(wL m l k).ux k 1=wL m l (k + 1):=by
 simp only [wL,Mn.ux]
 have:wK m l k=1:=by simp [wK,h]
 conv=>lhs; rw [← this]
 rw [kJ (wK m l) _ hk]
theorem CY (m:Mn) (l:List Int):(wL m l 0).cells=l.map I++List.replicate 8 (I 0):=rfl
def Bd.Spec (C:aZ) (f:Nat):Prop:=∀ n:Int,C.c f [I n] (I (bD n)) none
def yf.Spec (C:aZ) (f:Nat):Prop:=∀ (t:Tb) (m:Mn) (l:List Int),vn t m l→C.c f [.agg t.cells,.agg m.cells,.agg (l.map I)] (.cQ [.agg (tc m l).cells,I (jT t m l)]) none
theorem SC {z A B C:List AV} (hz:z.length=155) (hA:A.length=131) (hB:B.length=16) (hC:C.length=8) :
  List.take 147 (List.take 131 (A++List.drop 131 z)++B++List.drop 147 (A++List.drop 131 z))++C++List.drop 155 (List.take 131 (A++List.drop 131 z)++B++List.drop 147 (A++List.drop 131 z))=A++(B++C):=by
 rw [List.take_left' hA]
 generalize hY:List.drop 147 (A++List.drop 131 z)=Y
 have hYl:Y.length=8:=by rw [← hY]; simp; omega
 rw [List.take_left' (by simp; omega),List.drop_of_length_le (by simp; omega),List.append_nil,List.append_assoc]
section
variable {P:Program} (hm:P.follows .mixedOrders=true) {f:Nat}
include hm
theorem Bd.ok (hc:aE P f=some l7):Bd.Spec (Pure P) f:=by
 intro n
 have h1:(if 9999 < (if 0 > n then 0 else n) then 9999 else (if 0 > n then 0 else n))=j8 n 0 9999:=by
  unfold j8; split<;>split<;>(try split)<;>omega
 refine ak hm hc (by show 1≤7; decide) (aj (keep:=[]) (i:=0) ?_)
 try simp only [I,B,D,RX,↓ KW,Nat.reduceBEq,Nat.reduceAdd,Nat.reduceLeDiff,Int.reduceNe,Int.reduceBEq,Int.reduceEq,reduceCtorEq,Nat.reduceMul,Int.reduceLT,Int.reduceLE,Int.reduceToNat,l7,Z.H]
 rw [h1]; rfl
theorem yf.ok {fM fF:Nat} (hc:aE P f=some (l6 fM fF)) (hM:Bd.Spec (Pure P) fM) (hF:wJ.Spec (Pure P) fF):yf.Spec (Pure P) f:=by
 intro t m l h
 have wt:=h.t.whole
 have wm:=Mn.whole h.m
 have wl:=zc h.l
 have lt:=h.t.len
 have lm:=Mn.len h.m
 have ll:(l.map I).length=8:=by simp [h.l]
 have ll':(l.map (AV.int .i64)).length=8:=ll
 have z16l:cH.length=16:=rfl
 have z16d:cH.drop 8=List.replicate 8 (I 0):=rfl
 have hz0:setCells cH 0 (wL m l 0).cells=(wL m l 0).cells:=cz (by rw [Mn.len (uf h.l 0)]; rfl)
 rw [CY] at hz0
 refine ak hm hc (by show 3≤43; decide) (aj (keep:=[]) (i:=0) ?_)
 try simp only [I,B,D,RY,↓ KW,Nat.reduceBEq,Nat.reduceAdd,Nat.reduceLeDiff,Int.reduceNe,Int.reduceBEq,Int.reduceEq,reduceCtorEq,Nat.reduceMul,Int.reduceLT,Int.reduceLE,Int.reduceToNat,l6,Z.H,wt,wm,wl,lt,lm,ll,ll',z16l,z16d,hz0]
 refine ⟨by simp [h.l],?_⟩
 refine aF (fun k:Nat=>(⟨[(12,.dat (I k) none),(8,.ptr 11 0),(5,.ptr 6 0),(4,.ptr 5 0),(3,.ptr 4 0),(6,.ptr 7 0)],[(11,⟨(wL m l k).cells,[]⟩),(6,⟨l.map I,[]⟩),(5,⟨m.cells,[]⟩),(4,⟨t.cells,[]⟩),(7,⟨cH,[]⟩)],[],400⟩:S)) (fun k=>8 - k) (fun k=>k≤8) ?_ 0 (by omega) ?_
 ·intro k hk A back
  have hwr:=aD (k:=k) (by omega)
  try simp only [I,B,D,RY,↓ KW,Nat.reduceBEq,Nat.reduceAdd,Nat.reduceLeDiff,Int.reduceNe,Int.reduceBEq,Int.reduceEq,reduceCtorEq,Nat.reduceMul,Int.reduceLT,Int.reduceLE,Int.reduceToNat]
  refine ay (fun h2=>?_) (fun h2=>?_)<;>try simp only [I,B,D,RY,↓ KW,Nat.reduceBEq,Nat.reduceAdd,Nat.reduceLeDiff,Int.reduceNe,Int.reduceBEq,Int.reduceEq,reduceCtorEq,Nat.reduceMul,Int.reduceLT,Int.reduceLE,Int.reduceToNat,h2]
  ·have h8:k < 8:=by have:=of_decide_eq_true h2; omega
   have hx:0≤(k:Int)∧(k:Int) < (8:Nat):=by omega
   have o0:=uf (m:=m) h.l k
   have s1:=Mn.wE o0 h8 1
   have o1:=Mn.z0 o0 k 1
   have s2:=Mn.wE o1 h8 (bD (mL m.ticks k))
   have e0:=Mn.len o0
   have e1:=Mn.len o1
   obtain ⟨m1,m2⟩:=Mn.at h.m h8
   have l1:l[k]? = some (mL l k):=VX h.l h8
   try simp only [I,B,D,RY,↓ KW,Nat.reduceBEq,Nat.reduceAdd,Nat.reduceLeDiff,Int.reduceNe,Int.reduceBEq,Int.reduceEq,reduceCtorEq,Nat.reduceMul,Int.reduceLT,Int.reduceLE,Int.reduceToNat,hx,s1,e0,e1,m1,m2,l1,Option.map_some]
   refine ⟨by omega,?_⟩
   try simp only [I,B,D,RY,↓ KW,Nat.reduceBEq,Nat.reduceAdd,Nat.reduceLeDiff,Int.reduceNe,Int.reduceBEq,Int.reduceEq,reduceCtorEq,Nat.reduceMul,Int.reduceLT,Int.reduceLE,Int.reduceToNat,hx,s1,e0,e1,m1,m2,l1,Option.map_some]
   cases hq:cn .i64 (mL l k) 7 == cn .i64 (mL m.last k) 7
   ·try simp only [I,B,D,RY,↓ KW,Nat.reduceBEq,Nat.reduceAdd,Nat.reduceLeDiff,Int.reduceNe,Int.reduceBEq,Int.reduceEq,reduceCtorEq,Nat.reduceMul,Int.reduceLT,Int.reduceLE,Int.reduceToNat,hx,s1,e0,e1,m1,m2,l1,Option.map_some,hq]
    have hn:=Pa h8 hq
    refine back (k + 1) _ (by omega) (by omega) ?_
    refine ai (by decide) ?_ ?_ ?_ ?_<;>simp [LX,I,B,D,hwr,s1,hn]
   ·try simp only [I,B,D,RY,↓ KW,Nat.reduceBEq,Nat.reduceAdd,Nat.reduceLeDiff,Int.reduceNe,Int.reduceBEq,Int.reduceEq,reduceCtorEq,Nat.reduceMul,Int.reduceLT,Int.reduceLE,Int.reduceToNat,hx,s1,e0,e1,m1,m2,l1,Option.map_some,hq]
    refine af (hM _) ?_
    have hn:=Mu h8 hq
    try simp only [I,B,D,RY,↓ KW,Nat.reduceBEq,Nat.reduceAdd,Nat.reduceLeDiff,Int.reduceNe,Int.reduceBEq,Int.reduceEq,reduceCtorEq,Nat.reduceMul,Int.reduceLT,Int.reduceLE,Int.reduceToNat,hx,s1,e0,e1,m1,m2,l1,Option.map_some,s2]
    refine ⟨by omega,back (k + 1) _ (by omega) (by omega) ?_⟩
    refine ai (by decide) ?_ ?_ ?_ ?_<;>simp [LX,I,B,D,hwr,s1,s2,hn]
  ·have:k=8:=by have:=of_decide_eq_false h2; omega
   subst this
   have o8:=uf (m:=m) h.l 8
   have wo:=Mn.whole o8
   have lo:=Mn.len o8
   have hz:setCells cH 0 (wL m l 8).cells=(wL m l 8).cells:=cz (by rw [lo]; rfl)
   have hfill:List.take 147 (List.take 131 (t.cells++List.drop 131 jq)++m.cells++List.drop 147 (t.cells++List.drop 131 jq))++List.map I l++List.drop 155 (List.take 131 (t.cells++List.drop 131 jq)++m.cells++List.drop 147 (t.cells++List.drop 131 jq))=rR t m l:=SC (z:=jq) rfl lt lm ll
   have ht0:List.take 0 jq=[]:=rfl
   try simp only [I,B,D,RY,↓ KW,Nat.reduceBEq,Nat.reduceAdd,Nat.reduceLeDiff,Int.reduceNe,Int.reduceBEq,Int.reduceEq,reduceCtorEq,Nat.reduceMul,Int.reduceLT,Int.reduceLE,Int.reduceToNat,wt,wm,wl,lt,lm,ll,ll',z16l,z16d,hz0,wo,lo,hz,hfill,List.nil_append]
   refine mE (by rfl) ?_
   try simp only [I,B,D,RY,↓ KW,Nat.reduceBEq,Nat.reduceAdd,Nat.reduceLeDiff,Int.reduceNe,Int.reduceBEq,Int.reduceEq,reduceCtorEq,Nat.reduceMul,Int.reduceLT,Int.reduceLE,Int.reduceToNat,wt,wm,wl,lt,lm,ll,ll',z16l,z16d,hz0,wo,lo,hz,hfill,List.nil_append]
   refine af (hF t m l h) ?_
   try simp only [I,B,D,RY,↓ KW,Nat.reduceBEq,Nat.reduceAdd,Nat.reduceLeDiff,Int.reduceNe,Int.reduceBEq,Int.reduceEq,reduceCtorEq,Nat.reduceMul,Int.reduceLT,Int.reduceLE,Int.reduceToNat,wt,wm,wl,lt,lm,ll,ll',z16l,z16d,hz0,wo,lo,hz,hfill,List.nil_append]
   rfl
 ·refine ai (by decide) ?_ ?_ ?_ ?_<;>simp [LX,I,B,D,CY]
end
end Go.Eng
namespace Go.Eng
open Go
def Mv:Mn:=⟨List.replicate 8 0,List.replicate 8 0⟩
theorem Hu:Mv.Ok:=⟨rfl,rfl⟩
end Go.Eng
namespace Go.Eng
open Go
def wM.Spec (C:aZ) (f:Nat):Prop:=C.c f [] (B true) none
def Xj:Ph:={ (default:Ph) with on:=true,min:=1,max:=1,top:=1,cB:=10 }
def jU (k:Nat):Tb:={ kU with phases:=(List.range 8).map (fun p=>if p < k then (if p < 2 then Xj else default) else default),conflict:=(List.range 8).map fun p=>if p < k then (if p=0 then 2 else if p=1 then 1 else 0) else 0 }
theorem p8 (k:Nat):(jU k).Ln:=⟨by simp [jU],by simp [jU],rfl⟩
def Be.Spec (C:aZ) (f:Nat):Prop:=C.c f [] (.agg (jU 2).cells) none
section
variable {P:Program} (hm:P.follows .mixedOrders=true) {f:Nat}
include hm
theorem Be.ok (hc:aE P f=some o7):Be.Spec (Pure P) f:=by
 have h0:(jU 0).cells=cj:=rfl
 have hl:=(p8 2).len
 have hw:=(p8 2).whole
 have hz:setCells cj 0 (jU 2).cells=(jU 2).cells:=cz (by rw [hl]; rfl)
 have hzl:cj.length=131:=rfl
 refine ak hm hc (by show 0≤18; decide) (aj (keep:=[]) (i:=0) ?_)
 try simp only [I,B,D,RY,↓ KW,Nat.reduceBEq,Nat.reduceAdd,Nat.reduceLeDiff,Int.reduceNe,Int.reduceBEq,Int.reduceEq,reduceCtorEq,Nat.reduceMul,Int.reduceLT,Int.reduceLE,Int.reduceToNat,o7,Z.H]
 refine aF (fun k:Nat=>(⟨[(2,.dat (I k) none),(1,.ptr 5 0),(0,.ptr 4 0)],[(5,⟨(jU k).cells,[]⟩),(4,⟨cj,[]⟩)],[],400⟩:S)) (fun k=>2 - k) (fun k=>k≤2) ?_ 0 (by omega) ?_
 ·intro k hk A back
  have hwr:=aD (k:=k) (by omega)
  try simp only [I,B,D,RY,↓ KW,Nat.reduceBEq,Nat.reduceAdd,Nat.reduceLeDiff,Int.reduceNe,Int.reduceBEq,Int.reduceEq,reduceCtorEq,Nat.reduceMul,Int.reduceLT,Int.reduceLE,Int.reduceToNat]
  refine ay (fun h2=>?_) (fun h2=>?_)<;>try simp only [I,B,D,RY,↓ KW,Nat.reduceBEq,Nat.reduceAdd,Nat.reduceLeDiff,Int.reduceNe,Int.reduceBEq,Int.reduceEq,reduceCtorEq,Nat.reduceMul,Int.reduceLT,Int.reduceLE,Int.reduceToNat,h2]
  ·have h3:k < 2:=by have:=of_decide_eq_true h2; omega
   have h01:k=0∨k=1:=by omega
   rcases h01 with rfl|rfl
   ·try simp only [I,B,D,RY,↓ KW,Nat.reduceBEq,Nat.reduceAdd,Nat.reduceLeDiff,Int.reduceNe,Int.reduceBEq,Int.reduceEq,reduceCtorEq,Nat.reduceMul,Int.reduceLT,Int.reduceLE,Int.reduceToNat,cE]
    refine ⟨by omega,by decide +kernel,by decide,by omega,by decide +kernel,back 1 _ (by omega) (by omega) ?_⟩
    refine ai (by decide) ?_ ?_ ?_ ?_<;>simp [LX,I,B,D,hwr]
    all_goals rfl
   ·try simp only [I,B,D,RY,↓ KW,Nat.reduceBEq,Nat.reduceAdd,Nat.reduceLeDiff,Int.reduceNe,Int.reduceBEq,Int.reduceEq,reduceCtorEq,Nat.reduceMul,Int.reduceLT,Int.reduceLE,Int.reduceToNat,cE]
    refine ⟨by omega,by decide +kernel,by decide,by omega,by decide +kernel,back 2 _ (by omega) (by omega) ?_⟩
    refine ai (by decide) ?_ ?_ ?_ ?_<;>simp [LX,I,B,D,hwr]
    all_goals rfl
  ·have:k=2:=by have:=of_decide_eq_false h2; omega
   subst this
   try simp only [I,B,D,RY,↓ KW,Nat.reduceBEq,Nat.reduceAdd,Nat.reduceLeDiff,Int.reduceNe,Int.reduceBEq,Int.reduceEq,reduceCtorEq,Nat.reduceMul,Int.reduceLT,Int.reduceLE,Int.reduceToNat,hw,hz,hl,hzl]
 ·refine ai (by decide) ?_ ?_ ?_ ?_<;>simp [LX,I,B,D,h0]
theorem wM.ok {fP fS:Nat} (hc:aE P f=some (nK fP fS)) (hP:Be.Spec (Pure P) fP) (hS:yf.Spec (Pure P) fS):wM.Spec (Pure P) f:=by
 have s1:=hS (jU 2) Mv [4,4,0,0,0,0,0,0] ⟨p8 2,Hu,rfl⟩
 have s2:=hS (jU 2) Mv [4,1,0,0,0,0,0,0] ⟨p8 2,Hu,rfl⟩
 have s3:=hS (jU 2) Mv [4,0,0,0,0,0,0,0] ⟨p8 2,Hu,rfl⟩
 have e1:jT (jU 2) Mv [4,4,0,0,0,0,0,0]=3:=by decide +kernel
 have e2:jT (jU 2) Mv [4,1,0,0,0,0,0,0]=0:=by decide +kernel
 have e3:jT (jU 2) Mv [4,0,0,0,0,0,0,0]=1:=by decide +kernel
 have hz0:Mv.cells=cH:=rfl
 have sz:∀ l:List Int,l.length=8→setCells cH 0 (tc Mv l).cells=(tc Mv l).cells:=fun l hl=>cz (by rw [tc,Mn.len (uf hl 8)]; rfl)
 have sl:∀ l:List Int,l.length=8→(tc Mv l).cells.length=16:=fun l hl=>Mn.len (uf hl 8)
 have z1:=sz [4,4,0,0,0,0,0,0] rfl
 have z2:=sz [4,1,0,0,0,0,0,0] rfl
 have z3:=sz [4,0,0,0,0,0,0,0] rfl
 have l1:=sl [4,4,0,0,0,0,0,0] rfl
 have l2:=sl [4,1,0,0,0,0,0,0] rfl
 have l3:=sl [4,0,0,0,0,0,0,0] rfl
 have hzl:cH.length=16:=rfl
 rw [e1,hz0] at s1
 rw [e2,hz0] at s2
 rw [e3,hz0] at s3
 simp only [List.map_cons,List.map_nil] at s1 s2 s3
 refine ak hm hc (by show 0≤38; decide) (aj (keep:=[]) (i:=0) ?_)
 try simp only [I,B,D,RY,↓ KW,Nat.reduceBEq,Nat.reduceAdd,Nat.reduceLeDiff,Int.reduceNe,Int.reduceBEq,Int.reduceEq,reduceCtorEq,Nat.reduceMul,Int.reduceLT,Int.reduceLE,Int.reduceToNat,nK,Z.H,z1,z2,z3,l1,l2,l3,hzl]
 refine af hP ?_
 try simp only [I,B,D,RY,↓ KW,Nat.reduceBEq,Nat.reduceAdd,Nat.reduceLeDiff,Int.reduceNe,Int.reduceBEq,Int.reduceEq,reduceCtorEq,Nat.reduceMul,Int.reduceLT,Int.reduceLE,Int.reduceToNat,z1,z2,z3,l1,l2,l3,hzl]
 refine af s1 ?_
 try simp only [I,B,D,RY,↓ KW,Nat.reduceBEq,Nat.reduceAdd,Nat.reduceLeDiff,Int.reduceNe,Int.reduceBEq,Int.reduceEq,reduceCtorEq,Nat.reduceMul,Int.reduceLT,Int.reduceLE,Int.reduceToNat,z1,z2,z3,l1,l2,l3,hzl]
 refine af hP ?_
 try simp only [I,B,D,RY,↓ KW,Nat.reduceBEq,Nat.reduceAdd,Nat.reduceLeDiff,Int.reduceNe,Int.reduceBEq,Int.reduceEq,reduceCtorEq,Nat.reduceMul,Int.reduceLT,Int.reduceLE,Int.reduceToNat,z1,z2,z3,l1,l2,l3,hzl]
 refine af s2 ?_
 try simp only [I,B,D,RY,↓ KW,Nat.reduceBEq,Nat.reduceAdd,Nat.reduceLeDiff,Int.reduceNe,Int.reduceBEq,Int.reduceEq,reduceCtorEq,Nat.reduceMul,Int.reduceLT,Int.reduceLE,Int.reduceToNat,z1,z2,z3,l1,l2,l3,hzl]
 refine af hP ?_
 try simp only [I,B,D,RY,↓ KW,Nat.reduceBEq,Nat.reduceAdd,Nat.reduceLeDiff,Int.reduceNe,Int.reduceBEq,Int.reduceEq,reduceCtorEq,Nat.reduceMul,Int.reduceLT,Int.reduceLE,Int.reduceToNat,z1,z2,z3,l1,l2,l3,hzl]
 refine af s3 ?_
 try simp only [I,B,D,RY,↓ KW,Nat.reduceBEq,Nat.reduceAdd,Nat.reduceLeDiff,Int.reduceNe,Int.reduceBEq,Int.reduceEq,reduceCtorEq,Nat.reduceMul,Int.reduceLT,Int.reduceLE,Int.reduceToNat,z1,z2,z3,l1,l2,l3,hzl]
end
end Go.Eng
namespace Go.Eng
open Go
section
open Z
def vp (g0:Nat):bF:=⟨19,[.tmp 2],r [o 1 (w 0),V 2 (i 0)] (r [V 3 (i 0)] (j (r [o 6 (f 1 0),o 7 (L 6 104),V 8 (i 0)] (u 0 (.loop (r [o 9 (bb .lss 8 (i 8))] (j (c 9 z (.exit 0)) (j (u 1 (r [M 10 8,o 11 (.Cx (t 7) (t 8) 8 13 (some 13)),o 5 (.alloc cE),M 4 10,n (s 5 11 13)] (r [o 12 (f 5 0),o 13 (l 12)] (c 13 (R [M 14 3,M 15 4,o 16 (.call g0 [t 14,t 15]),M 3 16]) z)))) (R [o 17 (bb .add 8 (i 1)),M 8 17]))))))) (r [M 18 3,M 2 18] y)))⟩
def o9 (g0 g1:Nat):bF:=⟨51,[.tmp 4,.tmp 5,.tmp 6,.tmp 7],r [o 2 (w 0),V 4 (i 0),V 5 (i 0),V 6 (i 0),V 7 (F)] (.scope 0 (j (r [M 14 1,o 15 (.pL g0 1 [t 14]),o 16 (.call g1 [t 15]),o 17 (bb .eql 16 (i 0))] (c 17 (r [V 4 (i 0),V 5 (i 0),V 6 (i 0),V 7 (F)] y) z)) (j (.label 0) (j (r [o 18 (f 2 104),o 19 (l 18),o 20 (h 19),V 21 (i 0)] (u 0 (.loop (r [o 22 (b .lss 21 20)] (j (c 22 z (.exit 0)) (j (u 1 (r [M 23 21,o 24 (a 19 21 2),o 25 (L 24 2),o 9 (.alloc [.bl,.bl]),M 8 23,n (s 9 25 2)] (r [o 26 (L 9 2),V 27 (i 0)] (u 2 (.loop (r [o 28 (bb .lss 27 (i 2))] (j (c 28 z (.exit 2)) (j (u 3 (r [M 29 27,o 30 (.Cx (t 26) (t 27) 2 1 none),M 10 29,M 11 30] (r [M 31 11,o 32 (h 31),V 33 (i 0)] (u 4 (.loop (r [o 34 (b .lss 33 32)] (j (c 34 z (.exit 4)) (j (u 5 (r [M 35 33,o 36 (a 31 33 1),o 37 (l 36),M 12 35,M 13 37] (r [M 38 13,M 39 1,o 40 (b .eql 38 39)] (c 40 (r [M 41 8,M 42 10,M 43 12,M 4 41,M 5 42,M 6 43,V 7 (T)] (.exit 0)) z)))) (R [o 44 (bb .add 33 (i 1)),M 33 44]))))))))) (R [o 45 (bb .add 27 (i 1)),M 27 45]))))))))) (R [o 46 (bb .add 21 (i 1)),M 21 46]))))))) (r [M 47 4,M 48 5,M 49 6,M 50 7,M 4 47,M 5 48,M 6 49,M 7 50] y)))) (j z (j (r [o 18 (f 2 104),o 19 (l 18),o 20 (h 19),V 21 (i 0)] (u 0 (.loop (r [o 22 (b .lss 21 20)] (j (c 22 z (.exit 0)) (j (u 1 (r [M 23 21,o 24 (a 19 21 2),o 25 (L 24 2),o 9 (.alloc [.bl,.bl]),M 8 23,n (s 9 25 2)] (r [o 26 (L 9 2),V 27 (i 0)] (u 2 (.loop (r [o 28 (bb .lss 27 (i 2))] (j (c 28 z (.exit 2)) (j (u 3 (r [M 29 27,o 30 (.Cx (t 26) (t 27) 2 1 none),M 10 29,M 11 30] (r [M 31 11,o 32 (h 31),V 33 (i 0)] (u 4 (.loop (r [o 34 (b .lss 33 32)] (j (c 34 z (.exit 4)) (j (u 5 (r [M 35 33,o 36 (a 31 33 1),o 37 (l 36),M 12 35,M 13 37] (r [M 38 13,M 39 1,o 40 (b .eql 38 39)] (c 40 (r [M 41 8,M 42 10,M 43 12,M 4 41,M 5 42,M 6 43,V 7 (T)] (.exit 0)) z)))) (R [o 44 (bb .add 33 (i 1)),M 33 44]))))))))) (R [o 45 (bb .add 27 (i 1)),M 27 45]))))))))) (R [o 46 (bb .add 21 (i 1)),M 21 46]))))))) (r [M 47 4,M 48 5,M 49 6,M 50 7,M 4 47,M 5 48,M 6 49,M 7 50] y))))⟩
def yg (g0:Nat):bF:=⟨18,[.tmp 2],r [V 2 (i 0)] (r [V 3 (i 0)] (j (r [M 6 0,o 7 (h 6),V 8 (i 0)] (u 0 (.loop (r [o 9 (b .lss 8 7)] (j (c 9 z (.exit 0)) (j (u 1 (r [o 10 (a 6 8 1),o 11 (l 10),M 5 11] (R [M 12 3,M 13 5,o 14 (.call g0 [t 13]),o 15 (b .or 12 14),M 3 15]))) (R [o 16 (bb .add 8 (i 1)),M 8 16]))))))) (r [M 17 3,M 2 17] y)))⟩
end
end Go.Eng
namespace Go.Eng
open Go
section
variable {t:Tb} (h:t.Ln)
include h
theorem SD:t.cells[104]? = some (aG Gr.cells t.groups):=by
 simp [Tb.cells,List.getElem?_append,aH Ph.len,h.phases,h.conflict,h.dm,List.getElem?_cons]
end
def lvl (x:Nat):Bool:=P9 x 0 && J0 x 4696837146684686336
def Xk (x:Nat):Bool:=decide (IntKind.i64.wrap (x:Int) < 0)
def Bf (x:Nat):Bool:=Nm x && !Xk x
def vZ.Fw (d:vZ):Prop:=d.on < 2 ^ 64∧d.off < 2 ^ 64∧d.delay < 2 ^ 64∧d.extend < 2 ^ 64
def Tb.Fw (t:Tb):Prop:=∀ d∈t.aQ.getD [],d.Fw
end Go.Eng
namespace Go.Eng
open Go
section
variable {t:Tb} (h:t.Ln)
include h
theorem SE:aB t.cells 0 (some 104)=some (.agg (t.phases.flatMap Ph.cells)):=by
 have e:(t.phases.flatMap Ph.cells).length=104:=by rw [aH Ph.len,h.phases]
 have l:=h.len
 simp only [aB]
 rw [if_pos (by omega),List.drop_zero,Tb.cells,List.take_left' e]
end
end Go.Eng
namespace Go.Eng
open Go
def Can (s:Int):Prop:=0≤s∧s < 256
theorem wN {s:Int} (h:Can s) {i:Nat} (h8:8≤i) (h64:i < 64):tb s i=false:=by
 rw [u9 s h64]
 have hp:(2:Int) ^ 8≤2 ^ i:=by
  have e:(2:Int) ^ i=2 ^ 8 * 2 ^ (i - 8):=by rw [← Int.pow_add]; congr 1; omega
  have:(1:Int)≤2 ^ (i - 8):=by have:=Int.pow_pos (n:=(2:Int)) (m:=i - 8) (by decide); omega
  rw [e]; have h2:(2:Int) ^ 8=256:=rfl
  rw [h2]; omega
 have h2:(2:Int) ^ 8=256:=rfl
 have:s.fdiv (2 ^ i)=0:=by
  rw [Int.fdiv_eq_ediv_of_nonneg _ (by omega)]
  exact Int.ediv_eq_zero_of_lt h.1 (by have:=h.2; omega)
 rw [this]; rfl
theorem zK {x y:Int} (hx:Can x) (hy:Can y) (h:∀ i,i < 8→tb x i=tb y i):x=y:=by
 have hb:bv x=bv y:=by
  apply BitVec.eq_of_getLsbD_eq
  intro i hi
  have h64:i < 64:=hi
  rcases Nat.lt_or_ge i 8 with h8|h8
  ·exact h i h8
  ·have a:=wN hx h8 h64
   have b:=wN hy h8 h64
   simp only [tb] at a b
   rw [a,b]
 have:=congrArg BitVec.toNat hb
 simp only [bv,BitVec.toNat_ofInt] at this
 have hx':=hx; have hy':=hy
 unfold Can at hx' hy'
 have e:((2 ^ 64:Nat):Int)=18446744073709551616:=by decide
 rw [e] at this
 omega
theorem SF {x:Int} (h0:0≤x) (h1:x < 18446744073709551616) (h:∀ i,8≤i→i < 64→tb x i=false):Can x:=by
 refine ⟨h0,?_⟩
 have hn:(bv x).toNat=x.toNat:=by
  simp only [bv,BitVec.toNat_ofInt]
  have e:((2 ^ 64:Nat):Int)=18446744073709551616:=by decide
  rw [e]; omega
 have:x.toNat < 2 ^ 8:=by
  apply Nat.lt_pow_two_of_testBit
  intro i hi
  rcases Nat.lt_or_ge i 64 with h64|h64
  ·have:=h i hi h64
   simp only [tb,BitVec.getLsbD] at this
   rw [← hn]; exact this
  ·apply Nat.testBit_lt_two_pow
   have:x.toNat < 2 ^ 64:=by
    have e:(2:Nat) ^ 64=18446744073709551616:=by decide
    omega
   exact Nat.lt_of_lt_of_le this (Nat.pow_le_pow_right (by decide) h64)
 omega
theorem Bg (b:BitVec 64) (h:b.getLsbD 63=false):IntKind.i64.wrap (b.toNat:Int)=b.toNat∧(b.toNat:Int) < 9223372036854775808:=by
 have:b.toNat < 2 ^ 63:=by
  apply Nat.lt_pow_two_of_testBit
  intro i hi
  rcases Nat.lt_or_ge i 64 with h64|h64
  ·have:i=63:=by omega
   subst this; exact h
  ·apply Nat.testBit_lt_two_pow
   exact Nat.lt_of_lt_of_le b.isLt (Nat.pow_le_pow_right (by decide) h64)
 have e:(2:Nat) ^ 63=9223372036854775808:=by decide
 refine ⟨aV (by omega) (by omega),by omega⟩
theorem wO {b:BitVec 64} (h:∀ i,8≤i→i < 64→b.getLsbD i=false):Can (IntKind.i64.wrap (b.toNat:Int)):=by
 obtain ⟨h1,h2⟩:=Bg b (h 63 (by decide) (by decide))
 rw [h1]
 refine SF (by omega) (by omega) fun i h8 h64=>?_
 simp only [tb,DU]
 exact h i h8 h64
theorem tf {s:Int} {p:Nat} (hp:p < 8):Can (dn s p):=by
 have:dn s p=IntKind.i64.wrap (((bv (cn .i64 s 255)) ||| bv (pU p)).toNat:Int):=rfl
 rw [this]
 refine wO fun i h8 h64=>?_
 rw [BitVec.getLsbD_or]
 have a:=xY s 255 i
 have b:=DW hp i
 simp only [tb] at a b
 rw [a,b]
 have c:=AR i
 simp only [tb] at c
 rw [c]
 have:¬ i < 8:=by omega
 have h2:¬ i=p:=by omega
 simp [this,h2]
theorem FH (l:List Int):∀ k,k≤8→Can (uZ l k)
 | 0,_=>by show Can 0; exact ⟨by decide,by decide⟩
 | k + 1,h=>by
  have ih:=FH l k (by omega)
  simp only [uZ]
  split
  ·have e:zD .i64 (uZ l k) (2 ^ k)=IntKind.i64.wrap ((bv (uZ l k) ||| bv (2 ^ k)).toNat:Int):=rfl
   rw [e]
   refine wO fun i h8 h64=>?_
   rw [BitVec.getLsbD_or]
   have a:=wN ih h8 h64
   have b:=Hq (p:=k) (by omega) i
   simp only [tb] at a b
   rw [a,b]
   have:¬ i=k:=by omega
   simp [this]
  ·exact ih
theorem Eb (l:List Int):Can (P4 l):=FH l 8 (by omega)
theorem Kf (s p:Int):Can (gR s p):=Eb _
theorem Pb {t:Tb} (h:t.Ln) {p:Nat} (hp:p < 8):aB (t.phases.flatMap Ph.cells) (p * 13) (some 13)=some (.agg (aO t p).cells):=by
 rw [jl (h.o6 hp)]
 exact eE (by rw [aH Ph.len,jK (h.o6 hp)]) rfl
def p9 (t:Tb):Nat→Int
 | 0=>0
 | k + 1=>if (aO t k).on then dn (p9 t k) k else p9 t k
theorem CZ (t:Tb):∀ k,k≤8→Can (p9 t k)
 | 0,_=>by show Can 0; exact ⟨by decide,by decide⟩
 | k + 1,h=>by
  simp only [p9]; split
  ·exact tf (by omega)
  ·exact CZ t k (by omega)
theorem FI (t:Tb) (i:Nat):∀ k,k≤8→tb (p9 t k) i=(decide (i < k) && (aO t i).on)
 | 0,_=>by simp [p9,fc]
 | k + 1,h=>by
  have ih:=FI t i k (by omega)
  simp only [p9]
  split
  ·rename_i hk
   rw [qO (by omega),ih]
   by_cases e:i=k
   ·subst e; simp [hk]
   ·have h1:(i < k + 1)↔i < k:=by omega
    have h2:i < k→i < 8:=by omega
    by_cases h3:i < k
    ·simp [h1,h3,h2 h3,e]
    ·simp [h1,h3,e]
  ·rename_i hk
   rw [ih]
   by_cases e:i=k
   ·subst e; simp [hk]
   ·have:(i < k + 1)↔i < k:=by omega
    simp [this]
theorem SG (t:Tb) (i:Nat):tb (vF t) i=(decide (i < 8) && (aO t i).on):=by
 rw [vF,LV]
 by_cases h:i < 8
 ·have:(i:Int)∈v9 t 8↔(aO t i).on=true:=by
   simp only [v9,List.mem_filter,List.mem_map,List.mem_range,Int.natCast_inj]
   constructor
   ·rintro ⟨_,h2⟩; exact h2
   ·intro h2; exact ⟨⟨i,h,rfl⟩,h2⟩
  simp [h,this]
 ·simp [h]
theorem SH (t:Tb):p9 t 8=vF t:=zK (CZ t 8 (by omega)) (Eb _) fun i hi=>by rw [FI t i 8 (by omega),SG]
theorem FJ (l:List Gr) {n m:Nat} (h:n≤m) (hm:m≤l.length):∃ r,ck l m=ck l n++r:=by
 induction m with
 | zero=>exact ⟨[],by rw [show n=0 by omega]; simp⟩
 | succ m ih =>
  rcases Nat.lt_or_ge n (m + 1) with h1|h1
  ·obtain ⟨r,hr⟩:=ih (by omega) (by omega)
   obtain ⟨gr,hgr⟩:∃ x,l[m]? = some x:=⟨_,List.getElem?_eq_getElem (by omega)⟩
   exact ⟨r++cw gr m 2,by rw [iK hgr,hr,List.append_assoc]⟩
  ·exact ⟨[],by rw [show n=m + 1 by omega]; simp⟩
theorem FK (gr:Gr) (g:Nat) {k:Nat} (hk:k < 2):∃ r,cw gr g 2=cw gr g k++(bt g k ((gr.row k).getD [])++r):=by
 have:k=0∨k=1:=by omega
 rcases this with rfl|rfl
 ·exact ⟨bt g 1 ((gr.row 1).getD []),by rw [dS,dS,List.append_assoc]⟩
 ·exact ⟨[],by rw [dS]; simp⟩
theorem Ec (g k:Nat) (row:List Int) {n m:Nat} (h:n≤m) (hm:m≤row.length):∃ r,bt g k (row.take m)=bt g k (row.take n)++r:=by
 induction m with
 | zero=>exact ⟨[],by rw [show n=0 by omega]; simp⟩
 | succ m ih =>
  rcases Nat.lt_or_ge n (m + 1) with h1|h1
  ·obtain ⟨r,hr⟩:=ih (by omega) (by omega)
   obtain ⟨x,hx⟩:∃ x,row[m]? = some x:=⟨_,List.getElem?_eq_getElem (by omega)⟩
   have hn:=jb (g:=g) (k:=k) hx
   by_cases h8:0≤x∧x < 8
   ·exact ⟨r++[⟨g,k,m,x⟩],by rw [hn.1 h8,hr,List.append_assoc]⟩
   ·exact ⟨r,by rw [hn.2 h8,hr]⟩
  ·exact ⟨[],by rw [show n=m + 1 by omega]; simp⟩
theorem FL {t:Tb} {p:Int} {g k i:Nat} {gr:Gr} (hp:0≤p∧p < 8) (hg:(t.groups.getD [])[g]? = some gr) (hk:k < 2) (hi:((gr.row k).getD [])[i]? = some p)
  (hno:∀ x∈ck (t.groups.getD []) g++cw gr g k++bt g k (((gr.row k).getD []).take i),x.p≠p):az t p=(⟨g,k,i,p⟩,true):=by
 have hlt:=(List.getElem?_eq_some_iff.1 hg).1
 have hil:=(List.getElem?_eq_some_iff.1 hi).1
 obtain ⟨r1,h1⟩:=FJ (t.groups.getD []) (n:=g + 1) (m:=(t.groups.getD []).length) (by omega) (Nat.le_refl _)
 obtain ⟨r2,h2⟩:=FK gr g hk
 obtain ⟨r3,h3⟩:=Ec g k ((gr.row k).getD []) (n:=i + 1) (m:=((gr.row k).getD []).length) (by omega) (Nat.le_refl _)
 rw [List.take_length] at h3
 have h4:=(jb (g:=g) (k:=k) hi).1 hp
 have hs:bu t=(ck (t.groups.getD []) g++cw gr g k++bt g k (((gr.row k).getD []).take i))++(⟨g,k,i,p⟩ :: (r3++r2++r1)):=by
  rw [bu,h1,iK hg,h2,h3,h4]
  simp only [List.append_assoc,List.singleton_append,List.cons_append,List.nil_append]
 have hf:(bu t).find? (fun x=>x.p == p)=some ⟨g,k,i,p⟩:=by
  rw [hs,List.find?_append]
  have:(ck (t.groups.getD []) g++cw gr g k++bt g k (((gr.row k).getD []).take i)).find? (fun x=>x.p == p)=none:=by
   rw [List.find?_eq_none]; intro x hx; simpa using hno x hx
  rw [this]
  simp
 simp [az,hf]
theorem C0 {t:Tb} {p:Int} (h:∀ x∈bu t,x.p≠p):az t p=(⟨0,0,0,0⟩,false):=by
 have:(bu t).find? (fun x=>x.p == p)=none:=by
  rw [List.find?_eq_none]; intro x hx; simpa using h x hx
 simp [az,this]
theorem FM {t:Tb} {x:Sp} (h:x∈bu t):0≤x.p∧x.p < 8:=by
 simp only [bu,ck,cw,bt,List.mem_flatMap,List.mem_filterMap] at h
 obtain ⟨⟨gr,g⟩,_,k,_,⟨y,i⟩,_,h⟩:=h
 simp only at h
 split at h
 ·rename_i hy; cases h; exact hy
 ·cases h
def SJ (l:List Int):Int:=l.foldl (fun s p=>zD .i64 s (pU p)) 0
def setOf.Spec (C:aZ) (f:Nat):Prop:=∀ l:Option (List Int),(l.getD []).length≤1000000000→C.c f [aG aC l] (I (SJ (l.getD []))) none
def VY.Spec (C:aZ) (f:Nat):Prop:=∀ t:Tb,t.Ln→C.c f [.agg t.cells] (I (vF t)) none
def vq.Spec (C:aZ) (f:Nat):Prop:=∀ (t:Tb) (p:Int),t.Ok→C.c f [.agg t.cells,I p] (.cQ [I (az t p).1.group,I (az t p).1.ring,I (az t p).1.pos,B (az t p).2]) none
theorem Ed (p:Int):(SJ [p] == 0)=!(decide (0≤p) && decide (p < 8)):=by
 simp only [SJ,List.foldl_cons,List.foldl_nil]
 by_cases h:0≤p∧p < 8
 ·obtain ⟨n,rfl⟩:∃ n:Nat,p=n:=⟨p.toNat,by omega⟩
  have hn:n < 8:=by omega
  have:n=0∨n=1∨n=2∨n=3∨n=4∨n=5∨n=6∨n=7:=by omega
  rcases this with rfl|rfl|rfl|rfl|rfl|rfl|rfl|rfl<;>decide
 ·have e:pU p=0:=by unfold pU; rw [if_pos (by omega)]
  rw [e]
  have:(decide (0≤p) && decide (p < 8))=false:=by
   rw [Bool.and_eq_false_iff]; simp only [decide_eq_false_iff_not]; omega
  rw [this]; decide
section
variable {P:Program} (hm:P.follows .mixedOrders=true) {f:Nat}
include hm
theorem setOf.ok {fB:Nat} (hc:aE P f=some (yg fB)) (hB:bit.Spec (Pure P) fB):setOf.Spec (Pure P) f:=by
 intro l hl
 refine ak hm hc (by show 1≤18; decide) (aj (keep:=[]) (i:=0) ?_)
 try simp only [I,B,D,RX,↓ KW,Nat.reduceBEq,Nat.reduceAdd,Nat.reduceLeDiff,Int.reduceNe,Int.reduceBEq,Int.reduceEq,reduceCtorEq,Nat.reduceMul,Int.reduceLT,Int.reduceLE,Int.reduceToNat,yg,Z.H,rG]
 refine aF (fun k:Nat=>(⟨[(8,.dat (I k) none),(7,.dat (I ((l.getD []).length:Nat)) none),(6,.dat (aG aC l) none),(3,.dat (I (((l.getD []).take k).foldl (fun s p=>zD .i64 s (pU p)) 0)) none)],[],[],400⟩:S)) (fun k=>(l.getD []).length - k) (fun k=>k≤(l.getD []).length) ?_ 0 (by omega) ?_
 rotate_left
 ·refine ai (by decide) ?_ ?_ ?_ ?_<;>simp [LX,I,B,D]
 intro k hk A back
 have hwr:=aD (k:=k) (by omega)
 try simp only [I,B,D,RX,↓ KW,Nat.reduceBEq,Nat.reduceAdd,Nat.reduceLeDiff,Int.reduceNe,Int.reduceBEq,Int.reduceEq,reduceCtorEq,Nat.reduceMul,Int.reduceLT,Int.reduceLE,Int.reduceToNat]
 cases h2:decide ((k:Int) < (((l.getD []).length:Nat):Int))
 ·have e:k=(l.getD []).length:=by have:=of_decide_eq_false h2; omega
  subst e
  rw [List.take_length]
  try simp only [I,B,D,RX,↓ KW,Nat.reduceBEq,Nat.reduceAdd,Nat.reduceLeDiff,Int.reduceNe,Int.reduceBEq,Int.reduceEq,reduceCtorEq,Nat.reduceMul,Int.reduceLT,Int.reduceLE,Int.reduceToNat,h2]
  rfl
 ·have h8:k < (l.getD []).length:=by have:=of_decide_eq_true h2; omega
  obtain ⟨x,hx⟩:∃ x,(l.getD [])[k]? = some x:=⟨_,List.getElem?_eq_getElem h8⟩
  have hn:=mQ (f:=fun s p=>zD .i64 s (pU p)) (b:=0) hx
  try simp only [I,B,D,RX,↓ KW,Nat.reduceBEq,Nat.reduceAdd,Nat.reduceLeDiff,Int.reduceNe,Int.reduceBEq,Int.reduceEq,reduceCtorEq,Nat.reduceMul,Int.reduceLT,Int.reduceLE,Int.reduceToNat,h2,lQ,hx,aC]
  refine ⟨by omega,?_⟩
  refine af (hB x) ?_
  try simp only [I,B,D,RX,↓ KW,Nat.reduceBEq,Nat.reduceAdd,Nat.reduceLeDiff,Int.reduceNe,Int.reduceBEq,Int.reduceEq,reduceCtorEq,Nat.reduceMul,Int.reduceLT,Int.reduceLE,Int.reduceToNat]
  refine back (k + 1) _ (by omega) (by omega) ?_
  simp only [hn]
  refine ai (by decide) ?_ ?_ ?_ ?_<;>simp [LX,I,B,D,hwr]
theorem VY.ok {fW:Nat} (hc:aE P f=some (vp fW)) (hW:gP.Spec (Pure P) fW):VY.Spec (Pure P) f:=by
 intro t h
 have hp:=SE h
 rw [← SH]
 refine ak hm hc (by show 1≤19; decide) (aj (keep:=[]) (i:=0) ?_)
 try simp only [I,B,D,RY,↓ KW,Nat.reduceBEq,Nat.reduceAdd,Nat.reduceLeDiff,Int.reduceNe,Int.reduceBEq,Int.reduceEq,reduceCtorEq,Nat.reduceMul,Int.reduceLT,Int.reduceLE,Int.reduceToNat,vp,Z.H,hp]
 refine aF (fun k:Nat=>(⟨[(8,.dat (I k) none),(7,.dat (.agg (t.phases.flatMap Ph.cells)) none),(3,.dat (I (p9 t k)) none)],[],[],400⟩:S)) (fun k=>8 - k) (fun k=>k≤8) ?_ 0 (by omega) ?_
 rotate_left
 ·refine ai (by decide) ?_ ?_ ?_ ?_<;>simp [LX,I,B,D,p9]
 intro k hk A back
 have hwr:=aD (k:=k) (by omega)
 try simp only [I,B,D,RY,↓ KW,Nat.reduceBEq,Nat.reduceAdd,Nat.reduceLeDiff,Int.reduceNe,Int.reduceBEq,Int.reduceEq,reduceCtorEq,Nat.reduceMul,Int.reduceLT,Int.reduceLE,Int.reduceToNat]
 cases h2:decide ((k:Int) < 8)
 ·have e:k=8:=by have:=of_decide_eq_false h2; omega
  subst e
  try simp only [I,B,D,RY,↓ KW,Nat.reduceBEq,Nat.reduceAdd,Nat.reduceLeDiff,Int.reduceNe,Int.reduceBEq,Int.reduceEq,reduceCtorEq,Nat.reduceMul,Int.reduceLT,Int.reduceLE,Int.reduceToNat,h2]
 ·have h8:k < 8:=by have:=of_decide_eq_true h2; omega
  have hx:0≤(k:Int)∧(k:Int) < (8:Nat):=by omega
  have hat:=Pb h h8
  have hz:setCells cE 0 (aO t k).cells=(aO t k).cells:=cz rfl
  have hzl:cE.length=13:=rfl
  have p0:(aO t k).cells[0]? = some (AV.bool (aO t k).on):=rfl
  have hn:p9 t (k + 1)=if (aO t k).on then dn (p9 t k) k else p9 t k:=rfl
  try simp only [I,B,D,RY,↓ KW,Nat.reduceBEq,Nat.reduceAdd,Nat.reduceLeDiff,Int.reduceNe,Int.reduceBEq,Int.reduceEq,reduceCtorEq,Nat.reduceMul,Int.reduceLT,Int.reduceLE,Int.reduceToNat,hx,hat,hz,hzl,Ph.len,p0,h2]
  cases hon:(aO t k).on
  ·try simp only [I,B,D,RY,↓ KW,Nat.reduceBEq,Nat.reduceAdd,Nat.reduceLeDiff,Int.reduceNe,Int.reduceBEq,Int.reduceEq,reduceCtorEq,Nat.reduceMul,Int.reduceLT,Int.reduceLE,Int.reduceToNat,hx,hat,hz,hzl,Ph.len,p0,hon]
   refine back (k + 1) _ (by omega) (by omega) ?_
   rw [hon] at hn
   simp only [hn]
   refine ai (by decide) ?_ ?_ ?_ ?_<;>simp [LX,I,B,D,hwr]
  ·try simp only [I,B,D,RY,↓ KW,Nat.reduceBEq,Nat.reduceAdd,Nat.reduceLeDiff,Int.reduceNe,Int.reduceBEq,Int.reduceEq,reduceCtorEq,Nat.reduceMul,Int.reduceLT,Int.reduceLE,Int.reduceToNat,hx,hat,hz,hzl,Ph.len,p0,hon]
   refine af (hW _ _) ?_
   try simp only [I,B,D,RY,↓ KW,Nat.reduceBEq,Nat.reduceAdd,Nat.reduceLeDiff,Int.reduceNe,Int.reduceBEq,Int.reduceEq,reduceCtorEq,Nat.reduceMul,Int.reduceLT,Int.reduceLE,Int.reduceToNat]
   refine back (k + 1) _ (by omega) (by omega) ?_
   rw [hon] at hn
   simp only [hn]
   refine ai (by decide) ?_ ?_ ?_ ?_<;>simp [LX,I,B,D,hwr]
theorem vq.ok {e fO:Nat} (hc:aE P f=some (o9 e fO)) (hO:setOf.Spec (Pure P) fO):vq.Spec (Pure P) f:=by
 intro t p ht
 have hg:=SD ht.ln
 have c1:=hO (some [p]) (by simp)
 simp only [Option.getD_some] at c1
 refine ak hm hc (by show 2≤51; decide) (aj (keep:=[]) (i:=0) ?_)
 try simp only [I,B,D,RY,↓ KW,Nat.reduceBEq,Nat.reduceAdd,Nat.reduceLeDiff,Int.reduceNe,Int.reduceBEq,Int.reduceEq,reduceCtorEq,Nat.reduceMul,Int.reduceLT,Int.reduceLE,Int.reduceToNat,o9,Z.H,hg]
 refine af c1 ?_
 cases hin:SJ [p] == 0
 rotate_left
 ·have hne:az t p=(⟨0,0,0,0⟩,false):=by
   rw [Ed] at hin
   refine C0 fun x hx e=>?_
   have:=FM hx
   rw [e] at this
   simp [this] at hin
  try simp only [I,B,D,RY,↓ KW,Nat.reduceBEq,Nat.reduceAdd,Nat.reduceLeDiff,Int.reduceNe,Int.reduceBEq,Int.reduceEq,reduceCtorEq,Nat.reduceMul,Int.reduceLT,Int.reduceLE,Int.reduceToNat,hin,hne]
 have hp:0≤p∧p < 8:=by rw [Ed] at hin; simpa using hin
 try simp only [I,B,D,RY,↓ KW,Nat.reduceBEq,Nat.reduceAdd,Nat.reduceLeDiff,Int.reduceNe,Int.reduceBEq,Int.reduceEq,reduceCtorEq,Nat.reduceMul,Int.reduceLT,Int.reduceLE,Int.reduceToNat,hin,hg]
 refine aF (fun g:Nat=>(⟨[(21,.dat (I g) none),(20,.dat (I ((t.groups.getD []).length:Nat)) none),(19,.dat (aG Gr.cells t.groups) none),(1,.dat (I p) none),(4,.dat (I 0) none),(5,.dat (I 0) none),(6,.dat (I 0) none),(7,.dat (B false) none)],[],[],400⟩:S)) (fun g=>(t.groups.getD []).length - g) (fun g=>g≤(t.groups.getD []).length∧∀ x∈ck (t.groups.getD []) g,x.p≠p) ?_ 0 (by simp [ck]) ?_
 rotate_left
 ·refine ai (by decide) ?_ ?_ ?_ ?_<;>simp [LX,I,B,D,rG]
 rintro g ⟨hg1,hno⟩ A back
 have hb:=ht.groups
 have hw:=aD (k:=g) (by omega)
 try simp only [I,B,D,RY,↓ KW,Nat.reduceBEq,Nat.reduceAdd,Nat.reduceLeDiff,Int.reduceNe,Int.reduceBEq,Int.reduceEq,reduceCtorEq,Nat.reduceMul,Int.reduceLT,Int.reduceLE,Int.reduceToNat]
 cases h2:decide ((g:Int) < (((t.groups.getD []).length:Nat):Int))
 ·have e:g=(t.groups.getD []).length:=by have:=of_decide_eq_false h2; omega
  subst e
  have hne:=C0 (t:=t) (p:=p) hno
  try simp only [I,B,D,RY,↓ KW,Nat.reduceBEq,Nat.reduceAdd,Nat.reduceLeDiff,Int.reduceNe,Int.reduceBEq,Int.reduceEq,reduceCtorEq,Nat.reduceMul,Int.reduceLT,Int.reduceLE,Int.reduceToNat,h2,hne]
 have hlt:g < (t.groups.getD []).length:=by have:=of_decide_eq_true h2; omega
 obtain ⟨gr,hgr⟩:∃ x,(t.groups.getD [])[g]? = some x:=⟨_,List.getElem?_eq_getElem hlt⟩
 have hrs:=ht.rows gr (List.mem_of_getElem? hgr)
 have hpart:aB (Gr.cells gr) 0 (some 2)=some (.agg (Gr.cells gr)):=rfl
 have hset:∀ c:List AV,c.length=2→setCells c 0 (Gr.cells gr)=Gr.cells gr:=fun c h=>cz (by rw [h]; rfl)
 try simp only [I,B,D,RY,↓ KW,Nat.reduceBEq,Nat.reduceAdd,Nat.reduceLeDiff,Int.reduceNe,Int.reduceBEq,Int.reduceEq,reduceCtorEq,Nat.reduceMul,Int.reduceLT,Int.reduceLE,Int.reduceToNat,h2,lQ,hgr,Gr.len,hpart,hset]
 refine ⟨by omega,?_⟩
 try simp only [I,B,D,RY,↓ KW,Nat.reduceBEq,Nat.reduceAdd,Nat.reduceLeDiff,Int.reduceNe,Int.reduceBEq,Int.reduceEq,reduceCtorEq,Nat.reduceMul,Int.reduceLT,Int.reduceLE,Int.reduceToNat,hset,Gr.len,hpart]
 refine aF (fun k:Nat=>(⟨[(27,.dat (I k) none),(26,.dat (.agg (Gr.cells gr)) none),(1,.dat (I p) none),(8,.dat (I g) none),(21,.dat (I g) none),(20,.dat (I ((t.groups.getD []).length:Nat)) none),(19,.dat (aG Gr.cells t.groups) none),(4,.dat (I 0) none),(5,.dat (I 0) none),(6,.dat (I 0) none),(7,.dat (B false) none)],[],[],500⟩:S)) (fun k=>2 - k) (fun k=>k≤2∧∀ x∈ck (t.groups.getD []) g++cw gr g k,x.p≠p) ?_ 0 ⟨by omega,by simpa [cw] using hno⟩ ?_
 rotate_left
 ·refine ai (by decide) ?_ ?_ ?_ ?_<;>simp [LX,I,B,D]
 rintro k ⟨hk,hno1⟩ A1 back1
 have hw1:=aD (k:=k) (by omega)
 try simp only [I,B,D,RY,↓ KW,Nat.reduceBEq,Nat.reduceAdd,Nat.reduceLeDiff,Int.reduceNe,Int.reduceBEq,Int.reduceEq,reduceCtorEq,Nat.reduceMul,Int.reduceLT,Int.reduceLE,Int.reduceToNat]
 cases h3:decide ((k:Int) < 2)
 ·have e:k=2:=by have:=of_decide_eq_false h3; omega
  subst e
  try simp only [I,B,D,RY,↓ KW,Nat.reduceBEq,Nat.reduceAdd,Nat.reduceLeDiff,Int.reduceNe,Int.reduceBEq,Int.reduceEq,reduceCtorEq,Nat.reduceMul,Int.reduceLT,Int.reduceLE,Int.reduceToNat,h3]
  refine back (g + 1) _ ⟨by omega,by rw [iK hgr]; exact hno1⟩ (by omega) ?_
  refine ai (by decide) ?_ ?_ ?_ ?_<;>simp [LX,I,B,D,hw]
 have hk2:k < 2:=by have:=of_decide_eq_true h3; omega
 have hx2:0≤(k:Int)∧(k:Int) < (2:Nat):=by omega
 have hrow:(Gr.cells gr)[k]? = some (aG aC (gr.row k)):=by
  have:k=0∨k=1:=by omega
  rcases this with rfl|rfl<;>rfl
 have hrl:((gr.row k).getD []).length≤1048576:=by
  have:k=0∨k=1:=by omega
  rcases this with rfl|rfl
  exact hrs.1
  exact hrs.2
 try simp only [I,B,D,RY,↓ KW,Nat.reduceBEq,Nat.reduceAdd,Nat.reduceLeDiff,Int.reduceNe,Int.reduceBEq,Int.reduceEq,reduceCtorEq,Nat.reduceMul,Int.reduceLT,Int.reduceLE,Int.reduceToNat,h3,hx2,hrow,rG]
 refine aF (fun i:Nat=>(⟨[(33,.dat (I i) none),(32,.dat (I (((gr.row k).getD []).length:Nat)) none),(31,.dat (aG aC (gr.row k)) none),(1,.dat (I p) none),(8,.dat (I g) none),(10,.dat (I k) none),(27,.dat (I k) none),(26,.dat (.agg (Gr.cells gr)) none),(21,.dat (I g) none),(20,.dat (I ((t.groups.getD []).length:Nat)) none),(19,.dat (aG Gr.cells t.groups) none),(4,.dat (I 0) none),(5,.dat (I 0) none),(6,.dat (I 0) none),(7,.dat (B false) none)],[],[],600⟩:S)) (fun i=>((gr.row k).getD []).length - i) (fun i=>i≤((gr.row k).getD []).length∧∀ x∈ck (t.groups.getD []) g++cw gr g k++bt g k (((gr.row k).getD []).take i),x.p≠p) ?_ 0 ⟨by omega,by simpa [bt] using hno1⟩ ?_
 rotate_left
 ·refine ai (by decide) ?_ ?_ ?_ ?_<;>simp [LX,I,B,D]
 rintro i ⟨hi,hno2⟩ A2 back2
 have hw2:=aD (k:=i) (by omega)
 try simp only [I,B,D,RY,↓ KW,Nat.reduceBEq,Nat.reduceAdd,Nat.reduceLeDiff,Int.reduceNe,Int.reduceBEq,Int.reduceEq,reduceCtorEq,Nat.reduceMul,Int.reduceLT,Int.reduceLE,Int.reduceToNat]
 cases h4:decide ((i:Int) < ((((gr.row k).getD []).length:Nat):Int))
 ·have e:i=((gr.row k).getD []).length:=by have:=of_decide_eq_false h4; omega
  subst e
  rw [List.take_length] at hno2
  try simp only [I,B,D,RY,↓ KW,Nat.reduceBEq,Nat.reduceAdd,Nat.reduceLeDiff,Int.reduceNe,Int.reduceBEq,Int.reduceEq,reduceCtorEq,Nat.reduceMul,Int.reduceLT,Int.reduceLE,Int.reduceToNat,h4]
  refine back1 (k + 1) _ ⟨by omega,by rw [dS,← List.append_assoc]; exact hno2⟩ (by omega) ?_
  refine ai (by decide) ?_ ?_ ?_ ?_<;>simp [LX,I,B,D,hw1]
 have hil:i < ((gr.row k).getD []).length:=by have:=of_decide_eq_true h4; omega
 obtain ⟨x,hx⟩:∃ x,((gr.row k).getD [])[i]? = some x:=⟨_,List.getElem?_eq_getElem hil⟩
 try simp only [I,B,D,RY,↓ KW,Nat.reduceBEq,Nat.reduceAdd,Nat.reduceLeDiff,Int.reduceNe,Int.reduceBEq,Int.reduceEq,reduceCtorEq,Nat.reduceMul,Int.reduceLT,Int.reduceLE,Int.reduceToNat,h4,lQ,hx,aC]
 refine ⟨by omega,?_⟩
 cases h5:x == p
 ·have hnx:x≠p:=by simpa using h5
  have hr:=jb (g:=g) (k:=k) hx
  try simp only [I,B,D,RY,↓ KW,Nat.reduceBEq,Nat.reduceAdd,Nat.reduceLeDiff,Int.reduceNe,Int.reduceBEq,Int.reduceEq,reduceCtorEq,Nat.reduceMul,Int.reduceLT,Int.reduceLE,Int.reduceToNat,h5]
  refine back2 (i + 1) _ ⟨by omega,?_⟩ (by omega) ?_
  ·by_cases h8:0≤x∧x < 8
   ·rw [hr.1 h8,← List.append_assoc]
    intro y hy
    rcases List.mem_append.1 hy with hy|hy
    ·exact hno2 y hy
    ·rw [List.mem_singleton] at hy; subst hy; exact hnx
   ·rw [hr.2 h8]; exact hno2
  ·refine ai (by decide) ?_ ?_ ?_ ?_<;>simp [LX,I,B,D,hw2]
 ·have ex:x=p:=by simpa using h5
  subst ex
  have hfound:=FL hp hgr hk2 hx hno2
  try simp only [I,B,D,RY,↓ KW,Nat.reduceBEq,Nat.reduceAdd,Nat.reduceLeDiff,Int.reduceNe,Int.reduceBEq,Int.reduceEq,reduceCtorEq,Nat.reduceMul,Int.reduceLT,Int.reduceLE,Int.reduceToNat,h5,hfound]
end
end Go.Eng
namespace Go.Eng
open Go
def ep (s:Int):List Nat:=(List.range 8).filter fun p=>tb s p
theorem kY {s:Int} {p:Nat} (h:p∈ep s):p < 8:=by simp only [ep,List.mem_filter,List.mem_range] at h; exact h.1
theorem qU {s:Int} {p:Nat} (h:p∈ep s):tb s p=true:=by simp only [ep,List.mem_filter,List.mem_range] at h; exact h.2
theorem Bh {s:Int} {p:Nat} (h8:p < 8) (h:tb s p=true):p∈ep s:=by simp only [ep,List.mem_filter,List.mem_range]; exact ⟨h8,h⟩
end Go.Eng
namespace Go.Eng
open Go
def FN (t:Tb) (k:Nat):vZ:=(t.aQ.getD []).getD k default
def Mw (t:Tb) (k:Nat):Rl:=(t.bA.getD []).getD k default
end Go.Eng
namespace Go.Eng
open Go
theorem vr (t:Tb) (p q:Int):cK t p q=cK t q p:=by
 simp only [cK]
 generalize (az t p).2=b1
 generalize (az t q).2=b2
 generalize (az t p).1=s1
 generalize (az t q).1=s2
 rw [Bool.and_comm b1 b2]
 congr 1
 ·congr 1
  rw [Bool.eq_iff_iff]; simp only [beq_iff_eq]; exact eq_comm
 ·rw [Bool.eq_iff_iff]; simp only [bne_iff_ne]; exact ne_comm
theorem Hv (s:Int):(ep s).Nodup:=List.Pairwise.filter _ List.nodup_range
end Go.Eng
namespace Go.Eng
open Go
theorem qV {g k:Nat} {row:List Int} (h:∀ x∈row,0≤x∧x < 8):∀ i,i≤row.length→(bt g k (row.take i)).map Sp.p=row.take i
 | 0,_=>by simp [bt]
 | i + 1,hi=>by
  obtain ⟨x,hx⟩:∃ x,row[i]? = some x:=⟨_,List.getElem?_eq_getElem (by omega)⟩
  rw [(jb hx).1 (h x (List.mem_of_getElem? hx)),List.map_append,qV h i (by omega),iJ hx]; rfl
theorem FO {g:Nat} {gr:Gr} (h:∀ x∈gr.a.getD []++gr.b.getD [],0≤x∧x < 8):(cw gr g 2).map Sp.p=gr.a.getD []++gr.b.getD []:=by
 have h1:=qV (g:=g) (k:=0) (row:=gr.a.getD []) (fun x hx=>h x (List.mem_append_left _ hx)) _ (Nat.le_refl _)
 have h2:=qV (g:=g) (k:=1) (row:=gr.b.getD []) (fun x hx=>h x (List.mem_append_right _ hx)) _ (Nat.le_refl _)
 rw [List.take_length] at h1 h2
 have e0:cw gr g 0=[]:=rfl
 rw [dS,dS,e0,List.nil_append,List.map_append]
 show (bt g 0 (gr.a.getD [])).map Sp.p++(bt g 1 (gr.b.getD [])).map Sp.p=_
 rw [h1,h2]
end Go.Eng
namespace Go.Eng
open Go
theorem zL (n:Int):i9 n=min (max n 0) 2147483647:=by
 simp only [i9,j8]; split<;>(try split)<;>omega
theorem ug (a b:Int):DM a b=min (i9 a + i9 b) 2147483647:=by
 have ha:=ee a
 have hb:=ee b
 rw [DM,zL]; omega
def wP (l:List Int):Int:=(l.map i9).sum
theorem IJ:∀ l,0≤wP l
 | []=>Int.le_refl _
 | x :: l=>by
  have:=ee x
  have:=IJ l
  simp only [wP,List.map_cons,List.sum_cons] at *
  omega
theorem FP:∀ (l:List Int) (a:Int),0≤a→a≤2147483647→l.foldl DM a=min (a + wP l) 2147483647
 | [],a,h0,h1=>by simp only [List.foldl_nil,wP,List.map_nil,List.sum_nil]; omega
 | x :: l,a,h0,h1=>by
  have hx:=ee x
  have hn:=IJ l
  have ha:i9 a=a:=by rw [zL]; omega
  rw [List.foldl_cons,FP l _ (by rw [ug]; have:=ee a; omega) (by rw [ug]; omega),ug,ha]
  simp only [wP,List.map_cons,List.sum_cons] at *
  omega
theorem mM (l:List Int):jN l=min (wP l) 2147483647:=by
 rw [jN,FP l 0 (by omega) (by omega),Int.zero_add]
end Go.Eng
namespace Go.Eng
open Go
theorem Ee (a b:Int):jN [a,b]=DM a b:=by
 have ha:=ee a
 have hb:=ee b
 rw [mM,ug]; simp only [wP,List.map_cons,List.map_nil,List.sum_cons,List.sum_nil]; omega
theorem Ef:∀ (l:List Int) (a:Int),0≤a→l.foldl (fun n x=>if x > n then x else n) a=max a (f7 l)
 | [],a,h=>by show a=max a 0; omega
 | x :: l,a,h=>by
  have e:f7 (x :: l)=max (if x > 0 then x else 0) (f7 l):=Ef l _ (by show 0≤if x > 0 then x else 0; split<;>omega)
  rw [List.foldl_cons,Ef l _ (by split<;>omega),e]
  split<;>split<;>omega
theorem Bi (x:Int) (l:List Int):f7 (x :: l)=max (max 0 x) (f7 l):=by
 have:f7 (x :: l)=max (if x > 0 then x else 0) (f7 l):=Ef l _ (by show 0≤if x > 0 then x else 0; split<;>omega)
 rw [this]; split<;>omega
theorem Kg:f7 []=0:=rfl
end Go.Eng
namespace Go.Eng
open Go
def pre (gr:Gr) (i:Nat):List Int:=(List.range i).flatMap fun k=>(gr.row k).getD []
end Go.Eng
namespace Go.Eng
open Go
theorem qa {α:Type} {l:List α} {p:α→Bool} (h:∀ x∈l,p x=false):l.find? p=none:=by
 rw [List.find?_eq_none]; intro x hx; simp [h x hx]
end Go.Eng
namespace Go.Eng
open Go
theorem SK (l:Option (List Int)) (i n:Int):(gZ l i n).Fw:=by
 have r1:=aK l (bK (i + 1)) (n:=4) (by decide) (by decide)
 have r2:=aK l (bK (i + 2)) (n:=3) (by decide) (by decide)
 have r3:=aK l (bK (i + 3)) (n:=4) (by decide) (by decide)
 have r4:=aK l (bK (i + 4)) (n:=6) (by decide) (by decide)
 obtain ⟨a,ha⟩:∃ m:Nat,bR l (bK (i + 1)) 4=m:=⟨(bR l (bK (i + 1)) 4).toNat,by omega⟩
 obtain ⟨b,hb⟩:∃ m:Nat,bR l (bK (i + 2)) 3=m:=⟨(bR l (bK (i + 2)) 3).toNat,by omega⟩
 obtain ⟨c,hc⟩:∃ m:Nat,bR l (bK (i + 3)) 4=m:=⟨(bR l (bK (i + 3)) 4).toNat,by omega⟩
 obtain ⟨d,hd⟩:∃ m:Nat,bR l (bK (i + 4)) 6=m:=⟨(bR l (bK (i + 4)) 6).toNat,by omega⟩
 have k1:∀ a:Nat,a < 4→uG a < 2 ^ 64:=by decide
 have k2:∀ a:Nat,a < 4→∀ b:Nat,b < 3→sK a b < 2 ^ 64:=by decide +kernel
 have k3:∀ c:Nat,c < 6→we c < 2 ^ 64:=by decide +kernel
 refine ⟨?_,?_,?_,?_⟩
 ·show uG _ < _; rw [ha]; exact k1 a (by omega)
 ·show sK _ _ < _; rw [ha,hb]; exact k2 a (by omega) b (by omega)
 ·show we _ < _; rw [hc]; exact k3 c (by omega)
 ·show we _ < _; rw [hd]; exact k3 d (by omega)
theorem FQ (l:Option (List Int)):(bO l).Fw:=by
 intro d hd
 have e:(bO l).aQ=bX (kf l (c7 l).2 (bR l 175 9) (bR l 175 9).toNat):=rfl
 rw [e,bU,kf,List.mem_map] at hd
 obtain ⟨k,_,rfl⟩:=hd
 exact SK _ _ _
end Go.Eng
namespace Go.Eng
open Go
theorem iq {n:Int} (h1:-9223372036854775808≤n) (h2:n≤9223372036854775807):bK n=n:=aV h1 h2
structure Mx (x:Ph):Prop where
 min:1≤x.min∧x.min≤12
 max:x.min≤x.max∧x.max≤36
 top:x.max≤x.top∧x.top≤50
 Nk:0≤x.Nk∧x.Nk≤8
 step:1≤x.step∧x.step≤6
 cB:10≤x.cB∧x.cB≤13
 red:0≤x.red∧x.red≤4
 walk:(x.walk=0∧x.dG=0)∨(1≤x.walk∧x.walk≤10∧1≤x.dG∧x.dG≤10)
 lJ:0≤x.lJ∧x.lJ≤3∧(x.lJ=3→x.walk≠0)
 on:x.on=true
theorem IK (l:Option (List Int)) (i:Int):Mx (jf l i):=by
 have r0:=aK l i (n:=12) (by decide) (by decide)
 have r1:=aK l (bK (i + 1)) (n:=9) (by decide) (by decide)
 have r2:=aK l (bK (i + 2)) (n:=6) (by decide) (by decide)
 have r3:=aK l (bK (i + 3)) (n:=4) (by decide) (by decide)
 have r4:=aK l (bK (i + 4)) (n:=5) (by decide) (by decide)
 have r5:=aK l (bK (i + 5)) (n:=25) (by decide) (by decide)
 have r6:=aK l (bK (i + 6)) (n:=15) (by decide) (by decide)
 have r8:=aK l (bK (i + 8)) (n:=10) (by decide) (by decide)
 have r9:=aK l (bK (i + 8)) (n:=97) (by decide) (by decide)
 have ra:=aK l (bK (i + 9)) (n:=7) (by decide) (by decide)
 have rt:0≤(bR l (bK (i + 8)) 97).tdiv 10∧(bR l (bK (i + 8)) 97).tdiv 10≤9:=by
  rw [Int.tdiv_eq_ediv_of_nonneg r9.1]; omega
 have e0:=iq (n:=1 + bR l i 12) (by omega) (by omega)
 have e5:=iq (n:=1 + bR l i 12 + bR l (bK (i + 5)) 25) (by omega) (by omega)
 have e6:=iq (n:=1 + bR l i 12 + bR l (bK (i + 5)) 25 + bR l (bK (i + 6)) 15) (by omega) (by omega)
 have e8:=iq (n:=1 + bR l (bK (i + 8)) 10) (by omega) (by omega)
 have e9:=iq (n:=(bR l (bK (i + 8)) 97).tdiv 10) (by omega) (by omega)
 have ea:=iq (n:=1 + (bR l (bK (i + 8)) 97).tdiv 10) (by omega) (by omega)
 have e2:=iq (n:=1 + bR l (bK (i + 2)) 6) (by omega) (by omega)
 have e3:=iq (n:=10 + bR l (bK (i + 3)) 4) (by omega) (by omega)
 refine ⟨?_,?_,?_,?_,?_,?_,?_,?_,?_,rfl⟩<;>simp only [jf,e0,e5,e6,e8,e9,ea,e2,e3]
 ·omega
 ·omega
 ·omega
 ·omega
 ·omega
 ·omega
 ·omega
 ·split
  ·right; omega
  ·left; exact ⟨rfl,rfl⟩
 ·split<;>split<;>omega
theorem IL (l:Option (List Int)):∀ (k i:Nat),k≤8→i < 8→(DQ l k).getD i default=if i < k then jf l (10 + 12 * i) else default
 | 0,i,_,hi=>by rw [DQ,List.getD_eq_getElem?_getD,List.getElem?_replicate,if_pos hi,if_neg (by omega)]; rfl
 | k + 1,i,hk,hi=>by
  have ih:=IL l k i (by omega) hi
  rw [DQ,List.getD_eq_getElem?_getD,List.getElem?_set]
  by_cases e:k=i
  ·subst e
   rw [if_pos rfl,if_pos (by rw [dN]; omega),if_pos (by omega)]; rfl
  ·rw [if_neg e,← List.getD_eq_getElem?_getD,ih]
   by_cases h2:i < k
   ·rw [if_pos h2,if_pos (by omega)]
   ·rw [if_neg h2,if_neg (by omega)]
def nT (l:Option (List Int)):Nat:=(c7 l).2
theorem nL (l:Option (List Int)):1≤nT l∧nT l≤8:=⟨AP l,t5 l⟩
theorem Xl (l:Option (List Int)) {i:Nat} (hi:i < 8):aO (bO l) i=if i < nT l then jf l (10 + 12 * i) else default:=by
 rw [← Sm]
 exact IL l (nT l) i (nL l).2 hi
theorem Bj (l:Option (List Int)) (G:Nat) (hG:G≤8):∀ g,g≤G→1≤g→(aW l G g).2≤8 - (G - g)
 | 0,_,h=>by omega
 | g + 1,h,_=>by
  have ih:(aW l G g).2≤8 - (G - 1 - g):=by
   rcases Nat.eq_zero_or_pos g with rfl|h1
   ·simp [aW]
   ·have:=Bj l G hG g (by omega) h1; omega
  simp only [aW,aX,bM]
  omega
theorem Bk (l:Option (List Int)) (G:Nat) (hG:G≤8) {g:Nat} (hg:g < G):∃ (gr:Gr) (m:Nat),1≤m∧(aW l G (g + 1)).1=(aW l G g).1++[gr]∧(aW l G (g + 1)).2=(aW l G g).2 + m∧gr.a.getD []++gr.b.getD []=cI (aW l G g).2 m:=by
 have hp:(aW l G g).2 + 1≤bM G g:=by
  unfold bM
  rcases Nat.eq_zero_or_pos g with rfl|h1
  ·simp [aW]; omega
  ·have:=Bj l G hG g (by omega) h1; omega
 refine ⟨_,aX (cnt l g 0 0) (aW l G g).2 (bM G g) + aX (cnt l g 1 (aX (cnt l g 0 0) (aW l G g).2 (bM G g))) ((aW l G g).2 + aX (cnt l g 0 0) (aW l G g).2 (bM G g)) (bM G g),?_,rfl,?_,?_⟩
 ·generalize hm0:aX (cnt l g 0 0) (aW l G g).2 (bM G g)=m0
  rcases Nat.eq_zero_or_pos m0 with h0|h0
  ·have hc:1≤cnt l g 1 m0:=by
    simp only [cnt]
    by_cases hz:(bR l (1 + 2 * (g:Int) + ((1:Nat):Int)) 3).toNat=0
    ·rw [if_pos ⟨trivial,hz,h0⟩]; exact Nat.le_refl _
    ·rw [if_neg (fun h=>hz h.2.1)]; omega
   rw [h0] at hc ⊢
   simp only [aX]; omega
  ·omega
 ·simp only [aW]; omega
 ·simp only [bU]
  generalize aX (cnt l g 0 0) (aW l G g).2 (bM G g)=m0
  generalize aX (cnt l g 1 m0) ((aW l G g).2 + m0) (bM G g)=m1
  simp only [cI,List.range_add,List.map_append,List.map_map]
  congr 1
  apply List.map_congr_left
  intro j _
  simp only [Function.comp]; omega
theorem wQ {t t':Tb} (h:t.groups=t'.groups) (p q:Int):cK t p q=cK t' p q:=by
 simp only [cK,az,bu,h]
def My (t:Tb) (c:List Int):Prop:=∀ i j:Nat,i < 8→j < 8→tb (uH c i) j=true→i≠j∧cK t i j=false
theorem Kh {t:Tb} {l:Option (List Int)} {p q:Nat} {c:List Int} (hc:c.length=8) (hp:p < 8) (hq:q < p) (h:My t c):My t (ei t l p q c):=by
 unfold ei
 split
 ·rename_i hcl
  have hb:cK t p q=false:=by
   simp only [oz,Bool.and_eq_true,Bool.not_eq_true'] at hcl; exact hcl.1
  have hb2:cK t q p=false:=by rw [vr]; exact hb
  intro i j hi hj
  have hpl:p < c.length:=by omega
  have hql:q < (c.set p (gR (uH c p) q)).length:=by simp; omega
  have hqp:¬ q=p:=by omega
  simp only [zJ hql,zJ hpl,hqp,if_false]
  intro ht
  by_cases h1:i=q
  ·subst h1
   rw [if_pos rfl,wH (by omega)] at ht
   simp only [Bool.and_eq_true,Bool.or_eq_true,decide_eq_true_eq] at ht
   rcases ht.2 with ht|rfl
   ·exact h i j hi hj ht
   ·exact ⟨by omega,hb2⟩
  ·rw [if_neg h1] at ht
   by_cases h3:i=p
   ·subst h3
    rw [if_pos rfl,wH (by omega)] at ht
    simp only [Bool.and_eq_true,Bool.or_eq_true,decide_eq_true_eq] at ht
    rcases ht.2 with ht|rfl
    ·exact h i j hi hj ht
    ·exact ⟨by omega,hb⟩
   ·rw [if_neg h3] at ht
    exact h i j hi hj ht
 ·exact h
theorem FR {t:Tb} {l:Option (List Int)} {p:Nat} {c:List Int} (hc:c.length=8) (hp:p < 8) (h:My t c):∀ q,q≤p→My t (iL t l p q c)
 | 0,_=>h
 | q + 1,hq=>Kh (by rw [lu,hc]) hp (by omega) (FR hc hp h q (by omega))
theorem IM {t:Tb} {l:Option (List Int)}:∀ p,p≤8→My t (d6 t l p)
 | 0,_=>by
  intro i j hi hj ht
  have:uH (d6 t l 0) i=0:=by
   simp only [uH,d6,List.getD_eq_getElem?_getD,List.getElem?_replicate]; split<;>rfl
  rw [this,fc] at ht; cases ht
 | p + 1,hp=>FR (cV p) (by omega) (IM p (by omega)) p (Nat.le_refl p)
theorem Ki (l:Option (List Int)) {p q:Nat} (hp:p < 8) (hq:q < 8) (h:tb (dr (bO l) p) q=true):p≠q∧cK (bO l) p q=false:=by
 have:=IM (t:={ kU with groups:=some (c7 l).1 }) (l:=l) (c7 l).2 (t5 l) p q hp hq h
 refine ⟨this.1,?_⟩
 rw [← this.2]
 exact wQ rfl _ _
end Go.Eng
namespace Go.Eng
open Go
theorem Bl (l:Option (List Int)) (G:Nat) (hG:G≤8):∀ g,g≤G→∀ gr∈(aW l G g).1,∀ x∈gr.a.getD []++gr.b.getD [],0≤x∧x < 8
 | 0,_,gr,h=>by simp [aW] at h
 | g + 1,hg,gr,h=>by
  obtain ⟨gr',m,h1,h2,h3,h4⟩:=Bk l G hG (g:=g) (by omega)
  rw [h2] at h
  rcases List.mem_append.1 h with h|h
  ·exact Bl l G hG g (by omega) gr h
  ·rw [List.mem_singleton] at h; subst h
   intro x hx
   rw [h4,cI,List.mem_map] at hx
   obtain ⟨j,hj,rfl⟩:=hx
   have:=tZ l G (g + 1)
   have:=List.mem_range.1 hj
   omega
structure Mz (n:Nat) (d:vZ):Prop where
 phase:0≤d.phase∧d.phase < n
 may:lvl d.on=true∧lvl d.off=true∧Bf d.delay=true∧Bf d.extend=true
 most:0≤d.maxOn∧d.maxOn≤80∧0≤d.sD∧d.sD≤360
 order:P9 d.off d.on=false
theorem Pc (l:Option (List Int)) (i:Int) {n:Nat} (hn:1≤n) (h8:n≤8):Mz n (gZ l i n):=by
 have r0:=aK l i (n:=(n:Int)) (by omega) (by omega)
 have r1:=aK l (bK (i + 1)) (n:=4) (by decide) (by decide)
 have r2:=aK l (bK (i + 2)) (n:=3) (by decide) (by decide)
 have r3:=aK l (bK (i + 3)) (n:=4) (by decide) (by decide)
 have r4:=aK l (bK (i + 4)) (n:=6) (by decide) (by decide)
 have r6:=aK l (bK (i + 6)) (n:=60) (by decide) (by decide)
 have r7:=aK l (bK (i + 7)) (n:=300) (by decide) (by decide)
 obtain ⟨a,ha⟩:∃ m:Nat,bR l (bK (i + 1)) 4=m:=⟨(bR l (bK (i + 1)) 4).toNat,by omega⟩
 obtain ⟨b,hb⟩:∃ m:Nat,bR l (bK (i + 2)) 3=m:=⟨(bR l (bK (i + 2)) 3).toNat,by omega⟩
 obtain ⟨c,hc⟩:∃ m:Nat,bR l (bK (i + 3)) 4=m:=⟨(bR l (bK (i + 3)) 4).toNat,by omega⟩
 obtain ⟨d,hd⟩:∃ m:Nat,bR l (bK (i + 4)) 6=m:=⟨(bR l (bK (i + 4)) 6).toNat,by omega⟩
 have k1:∀ a:Nat,a < 4→lvl (uG a)=true:=by decide +kernel
 have k2:∀ a:Nat,a < 4→∀ b:Nat,b < 3→lvl (sK a b)=true∧P9 (sK a b) (uG a)=false:=by decide +kernel
 have k3:∀ c:Nat,c < 6→Bf (we c)=true:=by decide +kernel
 have e6:=iq (n:=20 + bR l (bK (i + 6)) 60) (by omega) (by omega)
 have e7:=iq (n:=60 + bR l (bK (i + 7)) 300) (by omega) (by omega)
 refine ⟨r0,⟨?_,?_,?_,?_⟩,?_,?_⟩
 ·show lvl (uG _)=true; rw [ha]; exact k1 a (by omega)
 ·show lvl (sK _ _)=true; rw [ha,hb]; exact (k2 a (by omega) b (by omega)).1
 ·show Bf (we _)=true; rw [hc]; exact k3 c (by omega)
 ·show Bf (we _)=true; rw [hd]; exact k3 d (by omega)
 ·simp only [gZ,e6,e7]
  split<;>split<;>omega
 ·show P9 (sK _ _) (uG _)=false; rw [ha,hb]; exact (k2 a (by omega) b (by omega)).2
theorem VZ (l:Option (List Int)):((bO l).aQ.getD []).length≤8∧∀ d∈(bO l).aQ.getD [],Mz (nT l) d:=by
 have e:(bO l).aQ=bX (kf l (c7 l).2 (bR l 175 9) (bR l 175 9).toNat):=rfl
 have r:=aK l 175 (n:=9) (by decide) (by decide)
 rw [e,bU]
 refine ⟨by rw [xW]; omega,fun d hd=>?_⟩
 rw [kf,List.mem_map] at hd
 obtain ⟨k,_,rfl⟩:=hd
 exact Pc _ _ (nL l).1 (nL l).2
theorem MA {p:Nat} (hp:p < 8) (i:Nat):tb (P4 [(p:Int)]) i=decide (i=p):=by
 rw [LV]
 by_cases h:i=p
 ·subst h; simp [hp]
 ·have:¬ (i:Int)=(p:Int):=by omega
  simp [h,this]
theorem Bm (t:Tb) {p q:Nat} (hp:p < 8) (hq:q < 8) (i:Nat):tb (mF t p q) i=(decide (i=p) || (cK t p q && decide (i=q))):=by
 unfold mF
 cases cK t p q
 ·rw [if_neg (by simp),MA hp]; simp
 ·rw [if_pos rfl,wH hq,MA hp]
  by_cases h8:i < 8
  ·simp [h8]
  ·have h1:¬ i=p:=by omega
   have h2:¬ i=q:=by omega
   simp [h8,h1,h2]
theorem Kj (t:Tb) (p q:Int):Can (mF t p q):=by
 unfold mF; split
 ·exact Kf _ _
 ·exact Eb _
theorem IP:∀ n:Nat,n < 9→1≤n→∀ i:Nat,i < 64→tb (bK (bK (1 * 2 ^ min (IntKind.u64.wrap (n:Int)).toNat 64) - 1)) i=decide (i < n):=by decide +kernel
def Qf (t:Tb) (n:Nat) (s:Int):Prop:=Can s∧(∀ i,i < 8→tb s i=true→i < n)∧∀ i j,i < 8→j < 8→tb s i=true→tb s j=true→i≠j→cK t i j=true
theorem wR {t t':Tb} (hg:t.groups=t'.groups) {n p q:Nat} (h8:n≤8) (hp:p < n) (hq:q < n):Qf t n (mF t' p q)∧mF t' p q≠0:=by
 have hb:=wQ hg
 refine ⟨⟨Kj _ _ _,fun i hi h=>?_,fun i j hi hj h1 h2 hne=>?_⟩,fun e=>?_⟩
 ·rw [Bm t' (by omega) (by omega)] at h
  simp only [Bool.or_eq_true,Bool.and_eq_true,decide_eq_true_eq] at h
  omega
 ·rw [Bm t' (by omega) (by omega)] at h1 h2
  simp only [Bool.or_eq_true,Bool.and_eq_true,decide_eq_true_eq] at h1 h2
  rw [hb]
  rcases h1 with rfl|⟨hb1,rfl⟩
  ·rcases h2 with rfl | ⟨hb2,rfl⟩
   ·exact absurd rfl hne
   ·exact hb2
  ·rcases h2 with rfl | ⟨hb2,rfl⟩
   ·rw [vr]; exact hb1
   ·exact absurd rfl hne
 ·have:=Bm t' (p:=p) (q:=q) (by omega) (by omega) p
  rw [e,fc] at this; simp at this
theorem MB (t:Tb) (n:Nat):Qf t n 0:=⟨⟨by decide,by decide⟩,(fun i _ h=>by rw [fc] at h; cases h),(fun i j _ _ h=>by rw [fc] at h; cases h)⟩
structure Eg (t:Tb) (n:Nat) (r:Rl):Prop where
 bars:Can r.bars∧∀ i,i < 64→tb r.bars i=true→i < n∧tb r.gX i=false
 clear:Qf t n r.clear
 gX:Qf t n r.gX∧r.gX≠0
 exit:Qf t n r.exit∧r.exit≠0
 hold:(1≤r.hold∧r.hold≤10∧r.clear≠0)∨(r.hold=0∧r.clear=0)
 Yp:0≤r.delay∧r.delay≤3∧1≤r.green∧r.green≤6∧0≤r.dR∧r.dR≤5∧1≤r.stay∧r.stay≤15
 most:r.most=0∨(r.stay≤r.most∧r.most≤44)
 limit:r.delay < r.limit∧r.limit≤10004
theorem Pd {t t':Tb} (hg:t.groups=t'.groups) (l:Option (List Int)) (i:Int) {n:Nat} (hn:1≤n) (h8:n≤8):Eg t n (oZ t' l i n):=by
 have nat:∀ j:Int,∃ m:Nat,bR l j (n:Int)=m∧m < n:=fun j=>by
  have:=aK l j (n:=(n:Int)) (by omega) (by omega)
  exact ⟨(bR l j n).toNat,by omega,by omega⟩
 obtain ⟨a0,e0,k0⟩:=nat i
 obtain ⟨a1,e1,k1⟩:=nat (bK (i + 1))
 obtain ⟨a2,e2,k2⟩:=nat (bK (i + 2))
 obtain ⟨a3,e3,k3⟩:=nat (bK (i + 3))
 obtain ⟨a5,e5,k5⟩:=nat (bK (i + 5))
 have en:bK ((n:Int) + 1)=(n:Int) + 1:=iq (by omega) (by omega)
 have r4:=aK l (bK (i + 4)) (n:=(n:Int) + 1) (by omega) (by omega)
 have r6:=aK l (bK (i + 6)) (n:=10) (by decide) (by decide)
 have r7:=aK l (bK (i + 7)) (n:=256) (by decide) (by decide)
 have r8:=aK l (bK (i + 8)) (n:=4) (by decide) (by decide)
 have r9:=aK l (bK (i + 9)) (n:=6) (by decide) (by decide)
 have ra:=aK l (bK (i + 10)) (n:=6) (by decide) (by decide)
 have rb:=aK l (bK (i + 11)) (n:=15) (by decide) (by decide)
 have rd:=aK l (bK (i + 13)) (n:=30) (by decide) (by decide)
 have re:=aK l (bK (i + 14)) (n:=3) (by decide) (by decide)
 have w6:=iq (n:=1 + bR l (bK (i + 6)) 10) (by omega) (by omega)
 have w9:=iq (n:=1 + bR l (bK (i + 9)) 6) (by omega) (by omega)
 have wb:=iq (n:=1 + bR l (bK (i + 11)) 15) (by omega) (by omega)
 have wd:=iq (n:=1 + bR l (bK (i + 11)) 15 + bR l (bK (i + 13)) 30) (by omega) (by omega)
 have w8:=iq (n:=bR l (bK (i + 8)) 4 + 1) (by omega) (by omega)
 have hlim:∃ v:Int,[10000,400,20].getD (bR l (bK (i + 14)) 3).toNat 0=v∧20≤v∧v≤10000:=by
  have:(bR l (bK (i + 14)) 3).toNat=0∨(bR l (bK (i + 14)) 3).toNat=1∨(bR l (bK (i + 14)) 3).toNat=2:=by omega
  rcases this with h|h|h<;>rw [h]
  ·exact ⟨10000,rfl,by decide,by decide⟩
  ·exact ⟨400,rfl,by decide,by decide⟩
  ·exact ⟨20,rfl,by decide,by decide⟩
 obtain ⟨v,hv,v1,v2⟩:=hlim
 have wl:=iq (n:=bR l (bK (i + 8)) 4 + 1 + v) (by omega) (by omega)
 have td:=wR hg h8 k0 k1
 have te:=wR hg h8 k2 k3
 refine ⟨?_,?_,?_,?_,?_,?_,?_,?_⟩<;>simp only [oZ,e0,e1,e2,e3,e5,en,w6,w9,wb,wd,w8,hv,wl]
 ·have hbits:∀ j,j < 64→tb (cJ .i64 (cn .i64 (bR l (bK (i + 7)) 256) (bK (bK (1 * 2 ^ min (IntKind.u64.wrap (n:Int)).toNat 64) - 1))) (mF t' a0 a1)) j=true→j < n∧tb (mF t' a0 a1) j=false:=by
   intro j hj h
   rw [xZ _ _ _ hj,xY,IP n (by omega) hn j hj] at h
   simp only [Bool.and_eq_true,Bool.not_eq_true',decide_eq_true_eq] at h
   exact ⟨h.1.2,h.2⟩
  refine ⟨?_,hbits⟩
  have e:cJ .i64 (cn .i64 (bR l (bK (i + 7)) 256) (bK (bK (1 * 2 ^ min (IntKind.u64.wrap (n:Int)).toNat 64) - 1))) (mF t' a0 a1)=IntKind.i64.wrap ((bv (cn .i64 (bR l (bK (i + 7)) 256) (bK (bK (1 * 2 ^ min (IntKind.u64.wrap (n:Int)).toNat 64) - 1))) &&& ~~~ bv (mF t' a0 a1)).toNat:Int):=rfl
  rw [e]
  refine wO fun j h1 h2=>?_
  have h3:=xZ (cn .i64 (bR l (bK (i + 7)) 256) (bK (bK (1 * 2 ^ min (IntKind.u64.wrap (n:Int)).toNat 64) - 1))) (mF t' a0 a1) j h2
  have h4:=IP n (by omega) hn j h2
  have h5:¬ j < n:=by omega
  have h6:=xY (bR l (bK (i + 7)) 256) (bK (bK (1 * 2 ^ min (IntKind.u64.wrap (n:Int)).toNat 64) - 1)) j
  rw [h4] at h6
  simp only [h5,decide_false,Bool.and_false] at h6
  simp only [tb] at h6
  rw [BitVec.getLsbD_and,h6]; rfl
 ·split
  ·rename_i hp
   obtain ⟨p,hpn⟩:∃ p:Nat,bR l (bK (i + 4)) ((n:Int) + 1)=p:=⟨(bR l (bK (i + 4)) ((n:Int) + 1)).toNat,by omega⟩
   rw [hpn] at hp ⊢
   exact (wR hg h8 (by omega) k5).1
  ·exact MB _ _
 ·exact td
 ·exact te
 ·split
  ·rename_i hp
   obtain ⟨p,hpn⟩:∃ p:Nat,bR l (bK (i + 4)) ((n:Int) + 1)=p:=⟨(bR l (bK (i + 4)) ((n:Int) + 1)).toNat,by omega⟩
   rw [hpn] at hp ⊢
   exact .inl ⟨by omega,by omega,(wR hg h8 (by omega) k5).2⟩
  ·exact .inr ⟨rfl,rfl⟩
 ·omega
 ·split
  ·right; omega
  ·left; rfl
 ·omega
theorem SL (l:Option (List Int)):((bO l).bA.getD []).length≤2∧∀ r∈(bO l).bA.getD [],Eg (bO l) (nT l) r:=by
 have e:(bO l).bA=bX (ej { kU with groups:=some (c7 l).1 } l (c7 l).2 ((bR l 176 4).tmod 3) ((bR l 176 4).tmod 3).toNat):=rfl
 have h:=Int.tmod_lt_of_pos (bR l 176 4) (b:=3) (by decide)
 rw [e,bU]
 refine ⟨by rw [u6]; omega,fun d hd=>?_⟩
 rw [ej,List.mem_map] at hd
 obtain ⟨k,_,rfl⟩:=hd
 exact Pd rfl _ _ (nL l).1 (nL l).2
end Go.Eng
namespace Go.Eng
open Go
theorem MC (a b:Nat):cI 0 (a + b)=cI 0 a++cI a b:=by
 simp only [cI,List.range_add,List.map_append,List.map_map]
 congr 1
 apply List.map_congr_left
 intro j _
 simp only [Function.comp]; omega
theorem C1 (l:Option (List Int)) (G:Nat) (hG:G≤8):∀ g,g≤G→∀ L:List Gr,(∀ (j:Nat) (gr:Gr),(aW l G g).1[j]? = some gr→L[j]? = some gr)→(ck L g).map Sp.p=cI 0 (aW l G g).2
 | 0,_,L,_=>by simp [ck,aW,cI]
 | g + 1,hg,L,hL=>by
  obtain ⟨gr,m,h1,h2,h3,h4⟩:=Bk l G hG (g:=g) (by omega)
  have hlen:=nD l G g
  have hat:L[g]? = some gr:=hL g gr (by rw [h2,List.getElem?_append_right (by omega),hlen]; simp)
  have ih:=C1 l G hG g (by omega) L fun j gr' hj=>hL j gr' (by rw [h2,List.getElem?_append_left (List.getElem?_eq_some_iff.1 hj).1,hj])
  have hel:=Bl l G hG (g + 1) hg gr (by rw [h2]; simp)
  rw [iK hat,List.map_append,ih,FO hel,h4,h3,MC]
theorem Eh (l:Option (List Int)):(bu (bO l)).map Sp.p=cI 0 (nT l):=by
 have hG:=qN l
 have e:(bO l).groups.getD []=(aW l (eF l) (eF l)).1:=rfl
 rw [bu,e,nD]
 exact C1 l _ (by omega) _ (Nat.le_refl _) _ fun _ _ h=>h
end Go.Eng
namespace Go.Eng
open Go
section
open Z
def qb:List AV:=[.dZ,.dZ,.dZ,.dZ,.dZ,.dZ,.dZ,.dZ,.dZ,.dZ,.dZ,.dZ]
def qW:List AV:=[.bool false,.int .i64 0,.int .i64 0,.int .i64 0,.int .i64 0,.int .i64 0,.int .i64 0,.int .i64 0,.int .i64 0,.int .i64 0,.int .i64 0,.bool false,.bool false,.bool false,.int .i64 0,.int .i64 0,.int .i64 0,.int .i64 0,.int .i64 0,.int .i64 0,.int .i64 0,.int .i64 0,.int .i64 0,.int .i64 0,.bool false,.bool false,.bool false,.int .i64 0,.int .i64 0,.int .i64 0,.int .i64 0,.int .i64 0,.int .i64 0,.int .i64 0,.int .i64 0,.int .i64 0,.int .i64 0,.bool false,.bool false,.bool false,.int .i64 0,.int .i64 0,.int .i64 0,.int .i64 0,.int .i64 0,.int .i64 0,.int .i64 0,.int .i64 0,.int .i64 0,.int .i64 0,.bool false,.bool false,.bool false,.int .i64 0,.int .i64 0,.int .i64 0,.int .i64 0,.int .i64 0,.int .i64 0,.int .i64 0,.int .i64 0,.int .i64 0,.int .i64 0,.bool false,.bool false,.bool false,.int .i64 0,.int .i64 0,.int .i64 0,.int .i64 0,.int .i64 0,.int .i64 0,.int .i64 0,.int .i64 0,.int .i64 0,.int .i64 0,.bool false,.bool false,.bool false,.int .i64 0,.int .i64 0,.int .i64 0,.int .i64 0,.int .i64 0,.int .i64 0,.int .i64 0,.int .i64 0,.int .i64 0,.int .i64 0,.bool false,.bool false,.bool false,.int .i64 0,.int .i64 0,.int .i64 0,.int .i64 0,.int .i64 0,.int .i64 0,.int .i64 0,.int .i64 0,.int .i64 0,.int .i64 0,.bool false,.bool false,.bl,.int .i64 0,.int .i64 0,.int .i64 0,.int .i64 0,.int .i64 0,.int .i64 0,.int .i64 0,.int .i64 0,.bl,.bl,.bl,.int .i64 0,.int .i64 0,.int .i64 0,.int .i64 0,.int .i64 0,.int .i64 0,.int .i64 0,.int .i64 0,.int .i64 0,.int .i64 0,.int .i64 0,.int .i64 0,.int .i64 0,.int .i64 0,.int .i64 0,.int .i64 0,.int .i64 0,.int .i64 0,.int .i64 0,.int .i64 0,.int .i64 0,.int .i64 0,.int .i64 0,.int .i64 0,.int .i64 0,.int .i64 0,.int .i64 0,.int .i64 0,.int .i64 0,.int .i64 0,.bool false,.bool false,.int .i64 0,.int .i64 0,.int .i64 0,.int .i64 0,.int .i64 0,.int .i64 0,.int .i64 0,.int .i64 0,.int .i64 0,.int .i64 0,.bool false,.bool false,.int .i64 0,.int .i64 0,.int .i64 0,.int .i64 0,.int .i64 0,.int .i64 0,.int .i64 0,.int .i64 0,.int .i64 0,.int .i64 0,.bool false,.bool false,.int .i64 0,.int .i64 0,.int .i64 0,.int .i64 0,.int .i64 0,.int .i64 0,.int .i64 0,.int .i64 0,.int .i64 0,.int .i64 0,.bool false,.bool false,.int .i64 0,.int .i64 0,.int .i64 0,.int .i64 0,.int .i64 0,.int .i64 0,.int .i64 0,.int .i64 0,.int .i64 0,.int .i64 0,.bool false,.bool false,.int .i64 0,.int .i64 0,.int .i64 0,.int .i64 0,.int .i64 0,.int .i64 0,.int .i64 0,.int .i64 0,.int .i64 0,.int .i64 0,.bool false,.bool false,.int .i64 0,.int .i64 0,.int .i64 0,.int .i64 0,.int .i64 0,.int .i64 0,.int .i64 0,.int .i64 0,.int .i64 0,.int .i64 0,.bool false,.bool false,.int .i64 0,.int .i64 0,.int .i64 0,.int .i64 0,.int .i64 0,.int .i64 0,.int .i64 0,.int .i64 0,.int .i64 0,.int .i64 0,.bool false,.bool false,.int .i64 0,.int .i64 0,.int .i64 0]
def l9 (g0 g1 g2 g3 g4 g5:Nat):bF:=⟨147,[.cell 8 (some 8),.cell 9 (some 5)],r [o 4 (w 0),o 5 (w 1),o 7 (w 3),o 8 (.alloc [i 0,i 0,i 0,i 0,i 0,i 0,i 0,i 0]),o 9 (.alloc [i 0,i 0,i 0,F,F])] (r [o 16 (L 4 131),o 17 (L 4 131),o 18 (L 5 8),M 19 2,o 20 (.call g0 [t 17,t 18,t 19]),o 21 (L 7 96),o 22 (.build qW [(0,131,t 16),(131,8,t 20),(139,96,t 21)]),o 23 (w 22),M 10 23] (r [o 24 (.call g1 []),o 11 (.alloc qb),n (s 11 24 12)] (j (r [M 25 10,o 26 (.nc (t 25)),o 27 (f 26 131),o 28 (f 27 0),o 29 (l 28),o 30 (bb .lss 29 (i 0)),M 31 30,q 32 (m 10) 31,q 33 (.nc (t 32)) 31,q 34 (f 33 131) 31,q 35 (f 34 0) 31,q 36 (l 35) 31,q 37 (bb .geq 36 (i 6)) 31,o 38 (Q 31 37)] (c 38 (R [M 39 10,o 40 (.nc (t 39)),o 41 (f 40 131),o 42 (f 41 0),n (ss 42 (i 0) 1)]) z)) (r [M 43 10,o 44 (.nc (t 43)),o 45 (f 44 131),o 46 (f 45 0),o 47 (l 46),M 12 47] (j (r [o 48 (L 4 131),M 49 10,o 50 (.nc (t 49)),o 51 (f 50 131),o 52 (L 51 8),o 53 (.call g2 [t 48,t 52]),M 13 53] (r [M 54 13,o 55 (bb .geq 54 (i 0)),M 56 55,p 57 (m 12) 56,p 58 (bb .eql 57 (i 0)) 56,p 59 (m 58) 56,q 60 (m 12) 59,q 61 (bb .eql 60 (i 5)) 59,p 62 (Q 59 61) 56,p 63 (m 62) 56,q 64 (m 13) 63,q 65 (m 10) 63,q 66 (.nc (t 65)) 63,q 67 (f 66 131) 63,q 68 (f 67 1) 63,q 69 (l 68) 63,q 70 (b .lss 64 69) 63,p 71 (Q 63 70) 56,o 72 (P 56 71)] (c 72 (r [M 73 10,M 74 10,M 75 10,M 76 13,o 77 (.nc (t 73)),o 78 (f 77 131),o 79 (f 78 0),n (ss 79 (i 1) 1),o 80 (.nc (t 74)),o 81 (f 80 131),o 82 (f 81 1),n (s 82 76 1),o 83 (.nc (t 75)),o 84 (f 83 131),o 85 (f 84 2),n (ss 85 (i 0) 1)] (.seq (.lF [M 86 10,o 87 (.nc (t 86)),o 88 (f 87 131),o 89 (L 88 8),M 90 10,o 91 (.bT g3 [t 90]),n (s 8 89 8),n (s 9 91 5)] [(3,5)]) y)) z))) (r [M 92 12,o 93 (A 11 92 6 2),o 94 (f 93 0),o 95 (l 94),M 96 10,o 97 (.gT (t 95) [t 96]),M 14 97] (j (r [M 98 12,o 99 (bb .eql 98 (i 5)),M 100 99,p 101 (m 14) 100,p 102 (bb .eql 101 (i 0)) 100,o 103 (P 100 102)] (c 103 (r [M 104 10,o 105 (.bT g4 [t 104]),o 15 (.alloc [i 0,i 0,i 0,F,F]),n (s 15 105 5)] (r [M 106 10,M 107 10,M 108 10,o 109 (.nc (t 106)),o 110 (f 109 131),o 111 (f 110 0),n (ss 111 (i 0) 1),o 112 (.nc (t 107)),o 113 (f 112 131),o 114 (f 113 1),n (ss 114 (i 0) 1),o 115 (.nc (t 108)),o 116 (f 115 131),o 117 (f 116 2),n (ss 117 (i 0) 1)] (.seq (.lF [M 118 10,o 119 (.nc (t 118)),o 120 (f 119 131),o 121 (L 120 8),o 122 (L 15 5),n (s 8 121 8),n (s 9 122 5)] [(4,5)]) y))) z)) (r [M 123 10,M 124 14,o 125 (.nc (t 123)),o 126 (f 125 131),o 127 (f 126 0),n (s 127 124 1)] (r [M 128 10,M 129 10,M 130 14,M 131 12,o 132 (b .neq 130 131),o 133 (.bT g5 [t 129,t 132]),o 134 (.nc (t 128)),o 135 (f 134 131),o 136 (f 135 2),n (s 136 133 1)] (.seq (.lF [M 137 10,o 138 (.nc (t 137)),o 139 (f 138 131),o 140 (L 139 8),M 141 14,o 142 (A 11 141 6 2),o 143 (f 142 1),o 144 (l 143),M 145 10,o 146 (.gT (t 144) [t 145]),n (s 8 140 8),n (s 9 146 5)] [(3,9)]) y))))))))))⟩
def kK (g0:Nat):bF:=⟨32,[.tmp 4],r [o 2 (w 0),o 3 (w 1),V 4 (i 0)] (j (r [o 7 (L 2 131),o 8 (.call g0 [t 7]),o 9 (h 8),V 10 (i 0)] (u 0 (.loop (r [o 11 (b .lss 10 9)] (j (c 11 z (.exit 0)) (j (u 1 (r [M 12 10,o 13 (a 8 10 11),o 14 (L 13 11),o 6 (.alloc bL),M 5 12,n (s 6 14 11)] (r [M 15 5,o 16 (f 3 3),o 17 (A 16 15 4 1),o 18 (l 17),o 19 (f 6 4),o 20 (l 19),o 21 (b .gtr 18 20),M 22 21,p 23 (f 3 7) 22,p 24 (l 23) 22,p 25 (m 5) 22,p 26 (b .shr 24 25) 22,p 27 (bb .and 26 (i 1)) 22,p 28 (bb .eql 27 (i 0)) 22,o 29 (P 22 28)] (c 29 (r [M 30 5,M 4 30] y) z)))) (R [o 31 (bb .add 10 (i 1)),M 10 31]))))))) (r [V 4 (i (-1))] y))⟩
def kL (g0:Nat):bF:=⟨43,[.cell 6 (some 8)],r [o 3 (w 0),o 4 (w 1),o 6 (.alloc [i 0,i 0,i 0,i 0,i 0,i 0,i 0,i 0])] (r [V 7 (i 0)] (r [o 8 (.alloc [i 0,i 0,i 0,i 0])] (j (r [o 10 (L 3 131),o 11 (.call g0 [t 10]),o 12 (h 11),V 13 (i 0)] (u 0 (.loop (r [o 14 (b .lss 13 12)] (j (c 14 z (.exit 0)) (j (u 1 (r [M 15 13,M 9 15] (r [M 16 2,M 17 9,o 18 (b .shr 16 17),o 19 (bb .and 18 (i 1)),o 20 (bb .eql 19 (i 1))] (c 20 (r [M 21 7,M 22 9,o 23 (.bin .shl (k (i 1)) (t 22)),o 24 (b .or 21 23),M 7 24] (R [M 25 9,M 26 9,o 27 (f 4 3),o 28 (A 27 26 4 1),o 29 (l 28),o 30 (.mm true [t 29,k (i 0)]),o 31 (.mm false [t 30,k (i 2147483646)]),o 32 (bb .add 31 (i 1)),o 33 (A 8 25 4 1),n (s 33 32 1)])) z)))) (R [o 34 (bb .add 13 (i 1)),M 13 34]))))))) (r [o 35 (L 8 4),o 36 (f 4 7),o 37 (l 36),M 38 7,o 39 (b .and 37 38),o 40 (f 4 3),n (s 40 35 4),o 41 (f 4 7),n (s 41 39 1)] (r [o 42 (L 4 8),n (s 6 42 8)] y)))))⟩
def jV (g0 g1 g2 g3 g4 g5 g6 g7 g8 g9 g10 g11:Nat):bF:=⟨8,[.cell 0 (some 12)],r [o 0 (.alloc qb)] (r [o 1 (.build [.dZ,.dZ] [(0,1,k (.fn (.func g0) [] [])),(1,1,k (.fn (.func g1) [] []))]),o 2 (.build [.dZ,.dZ] [(0,1,k (.fn (.func g2) [] [])),(1,1,k (.fn (.func g3) [] []))]),o 3 (.build [.dZ,.dZ] [(0,1,k (.fn (.func g4) [] [])),(1,1,k (.fn (.func g5) [] []))]),o 4 (.build [.dZ,.dZ] [(0,1,k (.fn (.func g6) [] [])),(1,1,k (.fn (.func g7) [] []))]),o 5 (.build [.dZ,.dZ] [(0,1,k (.fn (.func g8) [] [])),(1,1,k (.fn (.func g9) [] []))]),o 6 (.build [.dZ,.dZ] [(0,1,k (.fn (.func g10) [] [])),(1,1,k (.fn (.func g11) [] []))]),o 7 (.build qb [(0,2,t 1),(2,2,t 2),(4,2,t 3),(6,2,t 4),(8,2,t 5),(10,2,t 6)]),n (s 0 7 12)] y)⟩
def ir (g0 g1 g2:Nat):bF:=⟨10,[.cell 2 (some 5)],r [o 2 (.alloc [i 0,i 0,i 0,F,F])] (r [M 3 0,M 4 0,o 5 (.bT g0 [t 4]),M 6 0,o 7 (.bT g1 [t 6]),o 8 (.Dl (t 7) 5 none),o 9 (.bT g2 [t 3,t 5,t 8]),n (s 2 9 5)] y)⟩
def iU (g0 g1 g2:Nat):bF:=⟨9,[.cell 2 (some 5)],r [o 2 (.alloc [i 0,i 0,i 0,F,F])] (r [M 3 0,M 4 0,o 5 (.bT g0 [t 4]),o 6 (.Dl (t 5) 3 none),o 7 (.bT g1 [t 3,t 6,k (.fn (.func g2) [] [])]),o 8 (.build [i 0,i 0,i 0,F,F] [(4,1,k (T)),(0,1,t 7)]),n (s 2 8 5)] y)⟩
def iV (g0 g1 g2:Nat):bF:=⟨53,[.tmp 4],r [V 4 (i 0)] (j (u 0 (j (r [M 6 1,M 5 6] (c 5 z (R [M 7 0,o 8 (.nc (t 7)),o 9 (f 8 131),o 10 (f 9 0),o 11 (l 10),o 12 (bb .eql 11 (i 0)),M 5 12]))) (c 5 (r [V 4 (i 0)] y) (j (r [M 14 0,o 15 (.nc (t 14)),o 16 (f 15 131),o 17 (f 16 0),o 18 (l 17),o 19 (bb .eql 18 (i 2)),M 20 19,p 21 (m 0) 20,p 22 (m 0) 20,p 23 (.bT g0 [t 22]) 20,p 24 (.Dl (t 23) 1 none) 20,p 25 (.bT g1 [t 21,t 24]) 20,p 26 (.un .not (t 25)) 20,o 27 (P 20 26),M 13 27] (c 13 z (R [M 28 0,o 29 (.nc (t 28)),o 30 (f 29 131),o 31 (f 30 0),o 32 (l 31),o 33 (bb .eql 32 (i 4)),M 34 33,p 35 (m 0) 34,p 36 (m 0) 34,p 37 (.bT g0 [t 36]) 34,p 38 (.Dl (t 37) 2 none) 34,p 39 (.bT g1 [t 35,t 38]) 34,p 40 (.un .not (t 39)) 34,o 41 (P 34 40),M 13 41]))) (c 13 (r [M 42 0,o 43 (.nc (t 42)),o 44 (f 43 131),o 45 (f 44 2),o 46 (l 45),M 4 46] y) z))))) (r [M 47 0,o 48 (.nc (t 47)),o 49 (f 48 131),o 50 (f 49 2),o 51 (l 50),o 52 (.call g2 [t 51]),M 4 52] y))⟩
def kM:bF:=⟨10,[.tmp 2],r [o 1 (w 0),V 2 .bl] (r [o 3 (f 1 114),o 4 (l 3),o 5 (f 1 114),o 6 (l 5),o 7 (h 6),o 8 (.mm false [t 7,k (i 4)]),o 9 (.Qn 11 (t 4) none (some (t 8))),M 2 9] y)⟩
def iW:bF:=⟨3,[.tmp 2],r [V 2 (i 0)] (r [V 2 (i 0)] y)⟩
def iX:bF:=⟨4,[.cell 2 (some 5)],r [o 2 (.alloc [i 0,i 0,i 0,F,F])] (r [o 3 (.build [i 0,i 0,i 0,F,F] [(3,1,k (T))]),n (s 2 3 5)] y)⟩
def gF (g0 g1 g2:Nat):bF:=⟨15,[.tmp 2],r [V 2 (i 0)] (j (u 0 (r [M 4 0,M 5 0,o 6 (.bT g0 [t 5]),o 7 (.bin .andNot (k (i 255)) (t 6)),o 8 (.bT g1 [t 4,t 7]),o 9 (.un .not (t 8)),M 3 9] (c 3 (r [V 2 (i 1)] y) (r [M 11 0,o 12 (.bT g2 [t 11]),o 13 (.Dl (t 12) 1 none),o 14 (bb .neq 13 (i 0)),M 10 14] (c 10 (r [V 2 (i 2)] y) z))))) (r [V 2 (i 4)] y))⟩
def gG (g0:Nat):bF:=⟨12,[.tmp 2],r [V 2 (i 0)] (j (.seq (.lF [M 3 0,o 4 (.nc (t 3)),o 5 (f 4 131),o 6 (f 5 2),o 7 (l 6),M 8 0,o 9 (.bT g0 [t 8]),o 10 (.Dl (t 9) 7 none),o 11 (b .geq 7 10)] [(4,6)]) (c 11 (r [V 2 (i 3)] y) z)) (r [V 2 (i 2)] y))⟩
def iu (g0 g1:Nat):bF:=⟨9,[.cell 2 (some 5)],r [o 2 (.alloc [i 0,i 0,i 0,F,F])] (r [M 3 0,M 4 0,o 5 (.bT g0 [t 4]),o 6 (.Dl (t 5) 1 none),o 7 (.bT g1 [t 3,t 6]),o 8 (.build [i 0,i 0,i 0,F,F] [(0,1,t 7)]),n (s 2 8 5)] y)⟩
def fk (g0 g1:Nat):bF:=⟨9,[.tmp 2],r [V 2 (i 0)] (j (r [M 3 0,M 4 0,o 5 (.bT g0 [t 4]),o 6 (.Dl (t 5) 2 none),o 7 (.bin .andNot (k (i 255)) (t 6)),o 8 (.bT g1 [t 3,t 7])] (c 8 (r [V 2 (i 4)] y) z)) (r [V 2 (i 3)] y))⟩
def gl (g0 g1 g2 g3:Nat):bF:=⟨18,[.cell 2 (some 5)],r [o 1 (w 0),o 2 (.alloc [i 0,i 0,i 0,F,F])] (.seq (.lF [o 4 (l 1),o 5 (l 1),o 6 (.bT g0 [t 5]),o 7 (.Dl (t 6) 2 none),o 8 (.bT g1 [t 4,t 7,k (i 0)]),o 3 (.alloc [i 0,i 0,i 0,F,F]),n (s 3 8 5)] [(0,2)]) (.seq (.lF [o 9 (l 1),o 10 (l 1),o 11 (.bT g0 [t 10]),o 12 (.Dl (t 11) 2 none),o 13 (.bin .andNot (k (i 255)) (t 12)),o 14 (.rT (.func g2) [] [t 1]),o 15 (.bT g3 [t 9,t 13,t 14]),o 16 (f 3 1),n (s 16 15 1)] [(0,2),(0,5),(1,5),(2,5),(3,5),(4,5)]) (r [o 17 (L 3 5),n (s 2 17 5)] y)))⟩
def gH (g0 g1:Nat):bF:=⟨100,[.tmp 2],r [V 2 (i 0)] (.seq (.lF [M 7 0,o 8 (.bT g0 [t 7]),M 9 0,o 10 (.nc (t 9)),o 11 (f 10 131),o 12 (f 11 1),o 13 (l 12),o 14 (bb .geq 13 (i 0)),M 15 14,p 16 (m 0) 15,p 17 (.nc (t 16)) 15,p 18 (f 17 131) 15,p 19 (f 18 1) 15,p 20 (l 19) 15,p 21 (bb .lss 20 (i 4)) 15,o 22 (P 15 21),M 23 22,p 24 (m 0) 23,p 25 (m 0) 23,p 26 (.nc (t 25)) 23,p 27 (f 26 131) 23,p 28 (f 27 1) 23,p 29 (l 28) 23,p 30 (.nc (t 24)) 23,p 31 (f 30 131) 23,p 32 (f 31 3) 23,p 33 (A 32 29 4 1) 23,p 34 (l 33) 23,p 35 (bb .gtr 34 (i 0)) 23,o 36 (P 23 35),o 3 (.alloc bL),n (s 3 8 11),M 4 36] [(1,6),(1,22),(1,27),(6,31),(13,31),(22,31),(27,31)]) (r [o 37 (f 3 9),o 38 (l 37),o 39 (bb .gtr 38 (i 0)),M 40 39,p 41 (m 0) 40,p 42 (.nc (t 41)) 40,p 43 (f 42 131) 40,p 44 (f 43 2) 40,p 45 (l 44) 40,p 46 (f 3 9) 40,p 47 (l 46) 40,p 48 (b .geq 45 47) 40,o 49 (P 40 48),M 5 49] (j (r [M 50 5,o 51 (.un .not (t 50)),M 52 51,p 53 (m 4) 52,p 54 (m 53) 52,q 55 (m 0) 54,q 56 (.nc (t 55)) 54,q 57 (f 56 131) 54,q 58 (f 57 2) 54,q 59 (l 58) 54,q 60 (f 3 8) 54,q 61 (l 60) 54,q 62 (b .lss 59 61) 54,p 63 (Q 54 62) 52,o 64 (P 52 63)] (c 64 (r [V 2 (i 4)] y) z)) (j (r [M 65 5,M 66 65,p 67 (m 4) 66,o 68 (P 66 67)] (c 68 (R [M 69 0,o 70 (.nc (t 69)),o 71 (f 70 131),o 72 (f 71 7),o 73 (l 72),M 74 0,o 75 (.nc (t 74)),o 76 (f 75 131),o 77 (f 76 1),o 78 (l 77),o 79 (.bin .shl (k (i 1)) (t 78)),o 80 (b .or 73 79),o 81 (.nc (t 69)),o 82 (f 81 131),o 83 (f 82 7),n (s 83 80 1)]) z)) (j (r [M 84 0,o 85 (.nc (t 84)),o 86 (f 85 0),o 87 (L 86 131),M 88 0,o 89 (.nc (t 88)),o 90 (f 89 131),o 91 (L 90 8),o 92 (.call g1 [t 87,t 91]),M 6 92] (r [M 93 6,o 94 (bb .geq 93 (i 0))] (c 94 (r [M 95 0,M 96 6,o 97 (.nc (t 95)),o 98 (f 97 131),o 99 (f 98 1),n (s 99 96 1)] (r [V 2 (i 1)] y)) z))) (r [V 2 (i 5)] y))))))⟩
def iw (g0 g1:Nat):bF:=⟨9,[.cell 2 (some 5)],r [o 2 (.alloc [i 0,i 0,i 0,F,F])] (r [M 3 0,M 4 0,o 5 (.bT g0 [t 4]),o 6 (.Dl (t 5) 2 none),o 7 (.bT g1 [t 3,t 6]),o 8 (.build [i 0,i 0,i 0,F,F] [(0,1,t 7)]),n (s 2 8 5)] y)⟩
def gI (g0 g1 g2 g3:Nat):bF:=⟨22,[.tmp 2],r [o 1 (w 0),V 2 (i 0)] (r [o 5 (l 1),o 6 (.bT g0 [t 5]),o 7 (.Dl (t 6) 3 none),M 3 7] (r [o 8 (l 1),M 9 3,o 10 (.rT (.func g1) [] [t 1]),o 11 (.bT g2 [t 8,t 9,t 10]),M 4 11] (j (r [o 12 (l 1),M 13 3,o 14 (.bin .andNot (k (i 255)) (t 13)),o 15 (.bT g3 [t 12,t 14]),M 16 15,p 17 (m 4) 16,p 18 (m 3) 16,p 19 (bb .and 18 (i 255)) 16,p 20 (b .eql 17 19) 16,o 21 (P 16 20)] (c 21 (r [V 2 (i 0)] y) z)) (r [V 2 (i 5)] y))))⟩
def iy (g0 g1 g2:Nat):bF:=⟨11,[.cell 2 (some 5)],r [o 1 (w 0),o 2 (.alloc [i 0,i 0,i 0,F,F])] (.seq (.lF [o 3 (l 1),o 4 (l 1),o 5 (.bT g0 [t 4]),o 6 (.Dl (t 5) 3 none),o 7 (.bin .andNot (k (i 255)) (t 6)),o 8 (.rT (.func g1) [] [t 1]),o 9 (.bT g2 [t 3,t 7,t 8]),o 10 (.build [i 0,i 0,i 0,F,F] [(1,1,t 9)]),n (s 2 10 5)] [(0,2),(0,5),(1,5),(2,5),(3,5),(4,5)]) y)⟩
def iY (g0 g1 g2:Nat):bF:=⟨17,[.cell 6 (some 5)],r [o 3 (w 0),o 5 (w 2),o 6 (.alloc [i 0,i 0,i 0,F,F])] (.seq (.lF [o 7 (l 3),M 8 1,o 9 (.bin .andNot (k (i 255)) (t 8)),o 10 (.rT (.func g0) [] [t 5,t 3]),o 11 (.bT g1 [t 7,t 9,t 10]),o 12 (l 3),M 13 1,o 14 (.bin .andNot (k (i 255)) (t 13)),o 15 (.bT g1 [t 12,t 14,k (.fn (.func g2) [] [])]),o 16 (.build [i 0,i 0,i 0,F,F] [(1,1,t 11),(2,1,t 15)]),n (s 6 16 5)] [(0,3),(1,3),(2,3),(3,5),(3,6),(3,7),(4,5)]) y)⟩
def gJ (g0:Nat):bF:=⟨13,[.tmp 2],r [V 2 (i 0)] (r [M 4 0,o 5 (.bT g0 [t 4]),o 3 (.alloc bL),n (s 3 5 11)] (j (r [o 6 (f 3 1),o 7 (l 6),o 8 (bb .neq 7 (i 0))] (c 8 (r [o 9 (f 3 1),o 10 (l 9),M 2 10] y) z)) (r [o 11 (f 3 2),o 12 (l 11),M 2 12] y)))⟩
def iZ (g0:Nat):bF:=⟨34,[.cell 2 (some 11)],r [o 2 (.alloc bL)] (j (r [M 4 0,o 5 (.nc (t 4)),o 6 (f 5 0),o 7 (L 6 131),o 8 (.call g0 [t 7]),M 3 8] (r [M 9 0,o 10 (.nc (t 9)),o 11 (f 10 131),o 12 (f 11 1),o 13 (l 12),o 14 (bb .geq 13 (i 0)),M 15 14,p 16 (m 0) 15,p 17 (.nc (t 16)) 15,p 18 (f 17 131) 15,p 19 (f 18 1) 15,p 20 (l 19) 15,p 21 (m 3) 15,p 22 (h 21) 15,p 23 (b .lss 20 22) 15,o 24 (P 15 23)] (c 24 (r [M 25 3,M 26 0,o 27 (.nc (t 26)),o 28 (f 27 131),o 29 (f 28 1),o 30 (l 29),o 31 (a 25 30 11),o 32 (L 31 11),n (s 2 32 11)] y) z))) (r [o 33 (.build bL []),n (s 2 33 11)] y))⟩
def iz (g0 g1:Nat):bF:=⟨25,[.tmp 6],r [o 3 (w 0),o 5 (w 2),V 6 (i 0)] (r [o 7 (.alloc [i 0]),n (ss 7 (i 0) 1)] (j (r [M 9 1,o 10 (.call g0 [t 9])] (u 0 (.mW (t 10) [11] [11,8,12,13,14,15,16,17,18,19,20,21,22,23] (R [M 8 11]) (u 1 (r [o 12 (l 5),M 13 8,o 14 (l 3),M 15 8,o 16 (.nc (t 14)),o 17 (f 16 139),o 18 (A 17 15 8 12),o 19 (L 18 12),o 20 (.rD (t 12) [t 13,t 19])] (c 20 (R [o 21 (l 7),M 22 8,o 23 (.call g1 [t 21,t 22]),n (s 7 23 1)]) z)))))) (r [o 24 (l 7),M 6 24] y)))⟩
def kN (g0:Nat):bF:=⟨7,[.tmp 4],r [o 3 (w 1),V 4 (F)] (r [o 5 (L 3 12),o 6 (.call g0 [t 5]),M 4 6] y)⟩
def gK (g0 g1:Nat):bF:=⟨11,[.tmp 4],r [V 4 (F)] (r [M 5 0,M 6 1,o 7 (.bT g0 [t 5,t 6,k (.fn (.func g1) [] [])]),M 8 1,o 9 (bb .and 8 (i 255)),o 10 (b .eql 7 9),M 4 10] y)⟩
def mb:bF:=⟨7,[.tmp 2],r [V 2 (i 0)] (r [M 3 0,o 4 (.mm true [t 3,k (i 0)]),o 5 (.mm false [t 4,k (i 9999)]),o 6 (bb .add 5 (i 1)),M 2 6] y)⟩
def i0 (g0 g1:Nat):bF:=⟨11,[.tmp 4],r [V 4 (F)] (r [M 5 0,M 6 1,o 7 (.bT g0 [t 5,t 6,k (.fn (.func g1) [] [])]),M 8 1,o 9 (bb .and 8 (i 255)),o 10 (b .eql 7 9),M 4 10] y)⟩
def gL (g0 g1:Nat):bF:=⟨9,[.tmp 4],r [o 2 (w 0),V 4 (i 0)] (r [o 5 (l 2),M 6 1,o 7 (.rT (.func g0) [] [t 2]),o 8 (.bT g1 [t 5,t 6,t 7]),M 4 8] y)⟩
def eV (g0:Nat):bF:=⟨15,[.tmp 5],r [o 4 (w 1),V 5 (F)] (r [o 6 (f 4 0),o 7 (l 6),o 8 (bb .eql 7 (i 1)),M 9 8,p 10 (l 2) 9,p 11 (f 4 2) 9,p 12 (L 11 2) 9,p 13 (.bT g0 [t 10,t 12]) 9,o 14 (P 9 13),M 5 14] y)⟩
def i4 (g0:Nat):bF:=⟨21,[.tmp 4],r [o 3 (w 1),V 4 (F)] (.seq (.lF [o 5 (f 3 0),o 6 (l 5),o 7 (bb .neq 6 (i 1)),M 8 7,p 9 (f 3 0) 8,p 10 (l 9) 8,p 11 (bb .neq 10 (i 2)) 8,p 12 (m 11) 8,q 13 (f 3 1) 12,q 14 (l 13) 12,q 15 (m 0) 12,q 16 (.bT g0 [t 15]) 12,q 17 (.Dl (t 16) 6 none) 12,q 18 (b .geq 14 17) 12,p 19 (Q 12 18) 8,o 20 (P 8 19),M 4 20] [(1,11),(5,11),(9,11)]) y)⟩
def fm (g0:Nat):bF:=⟨23,[.tmp 5],r [o 4 (w 1),V 5 (F)] (r [o 6 (f 4 0),o 7 (l 6),o 8 (bb .eql 7 (i 1)),M 9 8,q 10 (L 4 12) 9,q 11 (.call g0 [t 10]) 9,q 12 (m 11) 9,p 13 (f 4 1) 12,p 14 (l 13) 12,p 15 (l 2) 12,p 16 (.nc (t 15)) 12,p 17 (f 16 0) 12,p 18 (f 17 119) 12,p 19 (l 18) 12,p 20 (b .geq 14 19) 12,q 21 (P 12 20) 9,o 22 (Q 9 21),M 5 22] y)⟩
def nM:bF:=⟨16,[.tmp 2],r [o 1 (w 0),V 2 (F)] (r [o 3 (f 1 0),o 4 (l 3),o 5 (bb .neq 4 (i 1)),M 6 5,p 7 (f 1 0) 6,p 8 (l 7) 6,p 9 (bb .neq 8 (i 2)) 6,o 10 (P 6 9),M 11 10,p 12 (f 1 0) 11,p 13 (l 12) 11,p 14 (bb .neq 13 (i 3)) 11,o 15 (P 11 14),M 2 15] y)⟩
def gm:bF:=⟨37,[.tmp 5],r [o 4 (w 1),V 5 (F)] (r [o 7 (f 4 2),o 8 (f 7 0),o 9 (l 8),o 10 (bb .eql 9 (i 1)),M 11 10,q 12 (f 4 2) 11,q 13 (f 12 0) 11,q 14 (l 13) 11,q 15 (bb .eql 14 (i 2)) 11,o 16 (Q 11 15),M 6 16] (r [o 17 (f 4 0),o 18 (l 17),o 19 (bb .eql 18 (i 1)),M 20 19,p 21 (f 4 1) 20,p 22 (l 21) 20,p 23 (l 2) 20,p 24 (m 0) 20,p 25 (.nc (t 23)) 20,p 26 (f 25 0) 20,p 27 (f 26 0) 20,p 28 (A 27 24 8 13) 20,p 29 (f 28 1) 20,p 30 (l 29) 20,p 31 (b .geq 22 30) 20,o 32 (P 20 31),M 33 32,p 34 (m 6) 33,p 35 (.un .not (t 34)) 33,o 36 (P 33 35),M 5 36] y))⟩
def gM (g0:Nat):bF:=⟨22,[.tmp 6],r [o 5 (w 1),V 6 (F)] (r [o 7 (f 5 0),o 8 (l 7),o 9 (bb .eql 8 (i 1)),M 10 9,p 11 (f 5 1) 10,p 12 (l 11) 10,p 13 (l 2) 10,p 14 (b .geq 12 13) 10,o 15 (P 10 14),M 16 15,p 17 (l 3) 16,p 18 (f 5 2) 16,p 19 (L 18 2) 16,p 20 (.bT g0 [t 17,t 19]) 16,o 21 (P 16 20),M 6 21] y)⟩
def jW:bF:=⟨9,[.tmp 4],r [o 3 (w 1),V 4 (F)] (r [o 5 (f 3 2),o 6 (f 5 0),o 7 (l 6),o 8 (bb .eql 7 (i 1)),M 4 8] y)⟩
def jr:bF:=⟨8,[.tmp 4],r [o 3 (w 1),V 4 (F)] (r [o 5 (f 3 0),o 6 (l 5),o 7 (bb .eql 6 (i 1)),M 4 7] y)⟩
def fq (g0 g1:Nat):bF:=⟨29,[.tmp 5],r [o 4 (w 1),V 5 (F)] (.seq (.lF [o 6 (L 4 12),o 7 (.call g0 [t 6]),M 8 7,p 9 (f 4 1) 8,p 10 (l 9) 8,p 11 (l 2) 8,p 12 (.nc (t 11)) 8,p 13 (f 12 0) 8,p 14 (f 13 119) 8,p 15 (l 14) 8,p 16 (b .geq 10 15) 8,o 17 (P 8 16),M 18 17,p 19 (l 2) 18,p 20 (l 2) 18,p 21 (m 0) 18,p 22 (.nc (t 20)) 18,p 23 (f 22 0) 18,p 24 (f 23 105) 18,p 25 (A 24 21 8 1) 18,p 26 (l 25) 18,p 27 (.bT g1 [t 19,t 26]) 18,o 28 (P 18 27),M 5 28] [(0,21),(4,21),(5,21),(9,21),(14,21)]) y)⟩
end
end Go.Eng
