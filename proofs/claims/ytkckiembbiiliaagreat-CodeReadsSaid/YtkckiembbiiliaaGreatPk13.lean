/- The engine and the library,part 13 of 20: what the proofs of this seat need of them. -/
import Derived.Test.YtkckiembbiiliaaGreatPk12
set_option linter.unnecessarySimpa false
set_option linter.unusedSimpArgs false
set_option linter.unusedVariables false
set_option linter.defProp false
set_option maxRecDepth 10000
set_option maxHeartbeats 4000000
namespace Go.Eng
open Go
def gk(n:Int):List AV:=[.int .u8 n]
structure aU where
 b:Option (List Int)
 dD:Int
 code:Int
 Eb:Int
def aU.cells(r:aU):List AV:=[aF gk r.b,I r.dD,I r.code,I r.Eb]
def aU.len(r:aU):Int:=((r.b.getD []).length:Int)
def aU.Ok(r:aU):Prop:=0<=r.dD/\r.dD<=r.len/\r.len<=1000000
def aU.fault(r:aU):AV:=.agg [I r.code,I r.Eb]
def aU.fail(r:aU) (c a:Int):aU:=if r.code=0 then{r with code:=c,Eb:=a}else r
def up(e:Nat) (r:aU):AV:=.iface e r.fault
def aU.part(r:aU) (n:Int):List Int:=((r.b.getD []).take (r.dD+n).toNat).drop r.dD.toNat
def jw(v c:Int):Int:=K0 .u64 (IntKind.u64.wrap (v*2^min 8 IntKind.u64.bits)) (IntKind.u64.wrap c)
def eH(l:List Int):Int:=l.foldl jw 0
def eP(r:aU) (size lo hi:Int):Int×aU:=
 let k:=jJ size 0 7
 if ¬(r.code=0/\k<=r.len-r.dD)then(0,r.fail 2 r.len)else
 let v:=IntKind.i64.wrap (eH (r.part k))
 if v<lo\/hi<v then(0,r.fail 4 r.dD)else(v,{r with dD:=r.dD+k})
def gl(r:aU):Nat×aU:=
 if ¬(r.code=0/\8<=r.len-r.dD)then(0,r.fail 2 r.len)else((eH (r.part 8)).toNat,{r with dD:=r.dD+8})
def Au(r:aU):Bool×aU:=((eP r 1 0 1).1==1,(eP r 1 0 1).2)
def wz.Spec(C:bz) (e f:Nat):Prop:=∀(r:aU) (c a:Int),C.q f [r.cells] [none,some (I c),some (I a)] (up e (r.fail c a)) [(r.fail c a).cells]
def xA.Spec(C:bz) (f:Nat):Prop:=∀r:aU,r.Ok->C.p f [r.cells] [none] (I (r.len-r.dD)) none [r.cells]
def No.Spec(C:bz) (f:Nat):Prop:=∀r:aU,C.p f [r.cells] [none] (I r.dD) none [r.cells]
def uo.Spec(C:bz) (f:Nat):Prop:=∀r:aU,C.p f [r.cells] [none] r.fault none [r.cells]
def Dk.Spec(C:bz) (e f:Nat):Prop:=
 (∀(r:aU) (n:Int),r.Ok->0<=n->n<=8->(r.code=0/\n<=r.len-r.dD)->C.p f [r.cells] [none,some (I n)] (aF gk (r.b.map fun _=>r.part n)) none [r.cells])/\
 ∀(r:aU) (n:Int),r.Ok->¬(r.code=0/\n<=r.len-r.dD)->C.q f [r.cells] [none,some (I n)] (up e (r.fail 2 r.len)) [(r.fail 2 r.len).cells]
def wA.Spec(C:bz) (e f:Nat):Prop:=
 (∀(r:aU) (n:Int),r.Ok->0<=n->n<=8->(r.code=0/\n<=r.len-r.dD)->C.p f [r.cells] [none,some (I n)] (.int .u64 (eH (r.part n))) none [r.cells])/\
 ∀(r:aU) (n:Int),r.Ok->¬(r.code=0/\n<=r.len-r.dD)->C.q f [r.cells] [none,some (I n)] (up e (r.fail 2 r.len)) [(r.fail 2 r.len).cells]
def Dl.Spec(C:bz) (e f:Nat):Prop:=(∀n:Int,C.d f .fq [[I n]] [none] [[I n]])/\∀(r:aU) (n:Int),C.d f (up e r) [[I n]] [none] [[I 0]]
def Dm.Spec(C:bz) (e f:Nat):Prop:=(∀n:Nat,C.d f .fq [[Fl n]] [none] [[Fl n]])/\∀(r:aU) (n:Nat),C.d f (up e r) [[Fl n]] [none] [[Fl 0]]
def BY.Spec(C:bz) (f:Nat):Prop:=∀(r:aU) (size lo hi:Int),r.Ok->C.p f [r.cells] [none,some (I size),some (I lo),some (I hi)] (I (eP r size lo hi).1) none [(eP r size lo hi).2.cells]
def uq.Spec(C:bz) (f:Nat):Prop:=∀r:aU,r.Ok->C.p f [r.cells] [none] (Fl (gl r).1) none [(gl r).2.cells]
def zx.Spec(C:bz) (f:Nat):Prop:=∀r:aU,r.Ok->C.p f [r.cells] [none] (B (Au r).1) none [(Au r).2.cells]
theorem EN(r:aU):((r.b.getD []).length:Int)=r.len:=rfl
theorem gm{n:Int} (h1:-1000000000<=n) (h2:n<=1000000000):IntKind.i64.wrap n=n:=by
 simp only[IntKind.wrap,IntKind.bits,IntKind.signed];simp;omega
theorem Dn{r:aU} {n:Int} (hr:r.Ok) (h0:0<=n) (hn:n<=r.len-r.dD):((r.part n).length:Int)=n:=by
 obtain⟨h1,h2,h3⟩:=hr;simp only[aU.len]at h2 h3 hn;simp[aU.part];omega
theorem A4(l:List Int) (i:Nat) (x:Int) (h:l[i]? =some x):eH (l.take (i+1))=jw (eH (l.take i)) x:=by
 rw[List.take_add_one,h];simp[eH]
section
variable{P:Program} (hm:P.follows .mixedOrders=true) {f:Nat}
include hm
theorem No.ok(hc:cZ P f=some nU):No.Spec (Pure P) f:=by
 intro r
 refine bK hm hc (by show 1<=7;decide) rfl (by simp) (ay (keep:=[]) (i:=0) ?_)
 try simp only[I,B,D,RX,aJ,aK,aM,↓KW,↓aL,seval,nU,Z.H,aU.cells]
theorem uo.ok(hc:cZ P f=some lB):uo.Spec (Pure P) f:=by
 intro r
 refine bK hm hc (by show 1<=7;decide) rfl (by simp) (ay (keep:=[]) (i:=0) ?_)
 try simp only[I,B,D,RX,aJ,aK,aM,↓KW,↓aL,seval,lB,Z.H,aU.cells,aU.fault]
theorem xA.ok(hc:cZ P f=some l9):xA.Spec (Pure P) f:=by
 intro r hr;obtain⟨h1,h2,h3⟩:=hr
 refine bK hm hc (by show 1<=13;decide) rfl (by simp) (ay (keep:=[]) (i:=0) ?_)
 try simp only[I,B,D,RX,aJ,aK,aM,↓KW,↓aL,seval,l9,Z.H,aU.cells,EN]
 rw[gm (by omega) (by omega)]
theorem wz.ok{e:Nat} (hc:iC true P f=some (lD e)):wz.Spec (Pure P) e f:=by
 intro r c a
 refine rD hm hc (by show 3<=23;decide) rfl (by simp) (ay (keep:=[]) (i:=0) ?_)
 try simp only[I,B,D,RX,aJ,aK,aM,↓KW,↓aL,seval,lD,Z.H,aU.cells]
 refine aq (fun h=>?_) (fun h=>?_)<;>try simp only[I,B,D,RX,aJ,aK,aM,↓KW,↓aL,seval,h]
 ·have h:r.code=0:=by simpa using h
  refine⟨?_,?_⟩
  ·simp[up,aU.fail,h,aU.fault]
  ·simp[gi,cm,aU.fail,h]
 ·have h:¬r.code=0:=by simpa using h
  refine⟨?_,?_⟩
  ·simp[up,aU.fail,h,aU.fault]
  ·simp[gi,cm,aU.fail,h]
theorem Dk.ok{e fL fF:Nat} (hc:iC true P f=some (jh fL fF)) (hL:xA.Spec (Pure P) fL) (hF:wz.Spec (Pure P) e fF):Dk.Spec (Pure P) e f:=by
 refine⟨fun r n hr h0 h8 hn=>?_,fun r n hr hn=>?_⟩
 ·obtain⟨hn1,hn2⟩:=hn
  obtain⟨b,q,c,a⟩:=r;simp only at hn1;subst hn1
  have hr':=hr
  obtain⟨h1,h2,h3⟩:=hr';simp only[aU.len]at h1 h2 h3 hn2
  have hw:=gm (n:=q+n) (by omega) (by omega)
  refine bK hm hc (by show 2<=39;decide) rfl (by simp) (ay (keep:=[]) (i:=0) ?_)
  try simp only[I,B,D,RX,aJ,aK,aM,↓KW,↓aL,seval,jh,Z.H,aU.cells]
  refine⟨rfl,az (hL ⟨b,q,0,a⟩ hr) ?_⟩;try simp only[I,B,D,RX,aJ,aK,aM,↓KW,↓aL,seval,aU.cells]
  try simp only[I,B,D,RX,aJ,aK,aM,↓KW,↓aL,seval,aU.len]
  refine aq (fun h=>?_) (fun h=>?_)<;>try simp only[I,B,D,RX,aJ,aK,aM,↓KW,↓aL,seval,h]
  ·exfalso;have:=of_decide_eq_true h;omega
  ·try simp only[I,B,D,RX,aJ,aK,aM,↓KW,↓aL,seval,hw]
   refine⟨⟨h1,by omega,by omega⟩,fun _ _=>rfl,?_⟩
   cases b<;>simp[yo,aF,aU.part,List.map_drop,List.map_take]
 ·have fin:∀{s:S},gi s.boxes 0 [(r.fail 2 r.len).cells]->Ni (up e (r.fail 2 r.len)) [(r.fail 2 r.len).cells] (.panic (dS (up e (r.fail 2 r.len)))) s:=fun h=>⟨rfl,h⟩
  refine rD hm hc (by show 2<=39;decide) rfl (by simp) (ay (keep:=[]) (i:=0) ?_)
  try simp only[I,B,D,RX,aJ,aK,aM,↓KW,↓aL,seval,jh,Z.H,aU.cells]
  refine bB (fun h=>?_) (fun h=>?_)
  ·try simp only[I,B,D,RX,aJ,aK,aM,↓KW,↓aL,seval,h]
   refine⟨rfl,aH (hF r 2 r.len) ?_⟩;try simp only[I,B,D,RX,aJ,aK,aM,↓KW,↓aL,seval,aU.cells]
  ·try simp only[I,B,D,RX,aJ,aK,aM,↓KW,↓aL,seval,h]
   refine⟨rfl,az (hL r hr) ?_⟩;try simp only[I,B,D,RX,aJ,aK,aM,↓KW,↓aL,seval,aU.cells,h]
   refine aq (fun h2=>?_) (fun h2=>?_)<;>try simp only[I,B,D,RX,aJ,aK,aM,↓KW,↓aL,seval,h2]
   ·refine⟨rfl,aH (hF r 2 r.len) ?_⟩
    try simp only[I,B,D,RX,aJ,aK,aM,↓KW,↓aL,seval,aU.cells]
   ·exfalso
    simp at h h2;exact hn ⟨h,h2⟩
theorem wA.ok{e fN:Nat} (hc:iC true P f=some (iO fN)) (hN:Dk.Spec (Pure P) e fN):wA.Spec (Pure P) e f:=by
 refine⟨fun r n hr h0 h8 hn=>?_,fun r n hr hn=>?_⟩
 ·have hl:=Dn hr h0 hn.2
  have hbd:(r.b.map fun _=>r.part n).getD []=r.part n:=by unfold aU.part;cases r.b<;>simp
  obtain⟨L,hL⟩:∃L,L=r.part n:=⟨_,rfl⟩
  refine bK hm hc (by show 2<=23;decide) rfl (by simp) (ay (keep:=[]) (i:=0) ?_)
  try simp only[I,B,D,RX,aJ,aK,aM,↓KW,↓aL,seval,iO,Z.H,aU.cells]
  refine⟨rfl,az (hN.1 r n hr h0 h8 hn) ?_⟩;try simp only[I,B,D,RX,aJ,aK,aM,↓KW,↓aL,seval,aU.cells]
  obtain⟨O,hO⟩:∃O,O=(r.b.map fun _=>r.part n):=⟨_,rfl⟩
  rw[<-hO]at hbd⊢;rw[<-hL]at hbd hl⊢;try simp only[I,B,D,RX,aJ,aK,aM,↓KW,↓aL,seval,hbd]
  refine aI (fun k:Nat=>(⟨[(12,.dat (I k) none),(11,.dat (I L.length) none),(10,.dat (aF gk O) none),(5,.dat (.int .u64 (eH (L.take k))) none)],[(0,⟨r.cells,[]⟩)],[],400⟩:S)) (fun k=>L.length-k) (fun k=>k<=L.length) ?_ 0 (by omega) ?_
  ·intro k hk A back
   try simp only[I,B,D,RX,aJ,aK,aM,↓KW,↓aL,seval,aU.cells]
   refine aq (fun h=>?_) (fun h=>?_)<;>try simp only[I,B,D,RX,aJ,aK,aM,↓KW,↓aL,seval,h]
   ·have hk2:k<L.length:=by have:=of_decide_eq_true h;omega
    obtain⟨x,hx⟩:∃x,L[k]? =some x:=⟨L[k],by simp[hk2]⟩
    have hw:=aG (k:=k) (by have:=hr.2.2;omega)
    refine⟨by rw[hbd];omega,?_⟩
    try simp only[I,B,D,RX,aJ,aK,aM,↓KW,↓aL,seval,hbd,hx,gk]
    refine back (k+1) _ (by omega) (by omega) (ah (by decide) ?_ ?_ ?_ ?_)<;>simp[LX,I,B,D,hx,A4 L k x hx,hw,aU.cells]
    rfl
   ·have:k=L.length:=by have:=of_decide_eq_false h;omega
    subst this;try simp only[I,B,D,RX,aJ,aK,aM,↓KW,↓aL,seval,List.take_length]
  ·refine ah (by decide) ?_ ?_ ?_ ?_<;>simp[LX,I,B,D,aU.cells,eH]
 ·refine rD hm hc (by show 2<=23;decide) rfl (by simp) (ay (keep:=[]) (i:=0) ?_)
  try simp only[I,B,D,RX,aJ,aK,aM,↓KW,↓aL,seval,iO,Z.H,aU.cells]
  refine⟨rfl,aH (hN.2 r n hr hn) ?_⟩;try simp only[I,B,D,RX,aJ,aK,aM,↓KW,↓aL,seval,aU.cells]
theorem Dl.ok{e:Nat} (hc:G4 P f=some (iN e)):Dl.Spec (Pure P) e f:=by
 refine⟨fun n=>?_,fun r n=>?_⟩
 ·refine oL hm hc rfl (by show 1<=9;decide) rfl (by simp) ?_
  try simp only[I,B,D,RX,aJ,aK,aM,↓KW,↓aL,seval,iN,Z.H]
 ·refine oL hm hc rfl (by show 1<=9;decide) rfl (by simp) ?_
  try simp only[I,B,D,RX,aJ,aK,aM,↓KW,↓aL,seval,iN,Z.H,up,aU.fault]
theorem Dm.ok{e:Nat} (hc:G4 P f=some (gS e)):Dm.Spec (Pure P) e f:=by
 refine⟨fun n=>?_,fun r n=>?_⟩
 ·refine oL hm hc rfl (by show 1<=9;decide) rfl (by simp) ?_
  try simp only[I,B,D,RX,aJ,aK,aM,↓KW,↓aL,seval,gS,Z.H]
 ·refine oL hm hc rfl (by show 1<=9;decide) rfl (by simp) ?_
  try simp only[I,B,D,RX,aJ,aK,aM,↓KW,↓aL,seval,gS,Z.H,up,aU.fault]
theorem BY.ok {e f1 fW fF:Nat} (hc:G7 P f=some (gR f1 fW fF)) (h1:Dl.Spec (Pure P) e f1) (hW:wA.Spec (Pure P) e fW) (hF:wz.Spec (Pure P) e fF):BY.Spec (Pure P) f:=by
  intro r size lo hi hr
  have hm7:(if 7 < (if 0 > size then 0 else size) then 7 else (if 0 > size then 0 else size))=jJ size 0 7:=by
    unfold jJ; split<;>split<;>(try split)<;>omega
  obtain ⟨k,hk⟩:∃ k,k=jJ size 0 7:=⟨_,rfl⟩
  have hk0:0≤k∧k≤7:=by rw [hk]; unfold jJ; split<;>(try split)<;>omega
  rw [← hk] at hm7
  by_cases hn:r.code=0∧k≤r.len - r.dD
  · obtain ⟨v,hv⟩:∃ v,v=IntKind.i64.wrap (eH (r.part k)):=⟨_,rfl⟩
    have hsum:IntKind.i64.wrap (r.dD + k)=r.dD + k:=by obtain ⟨g1,g2,g3⟩:=hr; exact gm (by omega) (by omega)
    by_cases hb:v < lo∨hi < v
    · have hR:eP r size lo hi=(0,r.fail 4 r.dD):=by simp [eP,← hk,← hv,hn,hb]
      rw [hR]
      refine iL hm hc (by show 4≤40; decide) rfl (by simp) (iK (keep:=[]) ?_)
      try simp only [I,B,D,RX,aJ,aK,aM,↓ KW,↓ aL,seval,gR,Z.H,aU.cells,hm7]
      refine ⟨rfl,az (hW.1 r k hr hk0.1 (by omega) hn) ?_⟩
      try simp only [I,B,D,RX,aJ,aK,aM,↓ KW,↓ aL,seval,aU.cells,← hv]
      refine bB (fun h=>?_) (fun h=>?_)
      · try simp only [I,B,D,RX,aJ,aK,aM,↓ KW,↓ aL,seval,h]
        refine ⟨rfl,aH (hF r 4 r.dD) ?_⟩
        try simp only [I,B,D,RX,aJ,aK,aM,↓ KW,↓ aL,seval,aU.cells]
        refine gE rfl (ir (h1.2 _ _) rfl rfl rfl ?_)
        try simp only [I,B,D,RX,aJ,aK,aM,↓ KW,↓ aL,seval,aU.cells]
      · try simp only [I,B,D,RX,aJ,aK,aM,↓ KW,↓ aL,seval,h]
        have h2:decide (v > hi)=true:=by
          have:=of_decide_eq_false h; simp; omega
        refine aq (fun h3=>?_) (fun h3=>?_)<;>try simp only [I,B,D,RX,aJ,aK,aM,↓ KW,↓ aL,seval,h3]
        · refine ⟨rfl,aH (hF r 4 r.dD) ?_⟩
          try simp only [I,B,D,RX,aJ,aK,aM,↓ KW,↓ aL,seval,aU.cells]
          refine gE rfl (ir (h1.2 _ _) rfl rfl rfl ?_)
          try simp only [I,B,D,RX,aJ,aK,aM,↓ KW,↓ aL,seval,aU.cells]
        · exfalso; have:=of_decide_eq_false h; have:=of_decide_eq_false h3; omega
    · have hR:eP r size lo hi=(v,{ r with dD:=r.dD + k }):=by simp [eP,← hk,← hv,hn,hb]
      rw [hR]
      refine iL hm hc (by show 4≤40; decide) rfl (by simp) (iK (keep:=[]) ?_)
      try simp only [I,B,D,RX,aJ,aK,aM,↓ KW,↓ aL,seval,gR,Z.H,aU.cells,hm7]
      refine ⟨rfl,az (hW.1 r k hr hk0.1 (by omega) hn) ?_⟩
      try simp only [I,B,D,RX,aJ,aK,aM,↓ KW,↓ aL,seval,aU.cells,← hv]
      refine bB (fun h=>?_) (fun h=>?_)
      · exfalso; have:=of_decide_eq_true h; omega
      · try simp only [I,B,D,RX,aJ,aK,aM,↓ KW,↓ aL,seval,h]
        refine aq (fun h3=>?_) (fun h3=>?_)<;>try simp only [I,B,D,RX,aJ,aK,aM,↓ KW,↓ aL,seval,h3]
        · exfalso; have:=of_decide_eq_true h3; omega
        · try simp only [I,B,D,RX,aJ,aK,aM,↓ KW,↓ aL,seval,hsum]
          refine ir (h1.1 _) rfl rfl rfl ?_
          try simp only [I,B,D,RX,aJ,aK,aM,↓ KW,↓ aL,seval,aU.cells]
  · have hR:eP r size lo hi=(0,r.fail 2 r.len):=by simp [eP,← hk,hn]
    rw [hR]
    refine iL hm hc (by show 4≤40; decide) rfl (by simp) (iK (keep:=[]) ?_)
    try simp only [I,B,D,RX,aJ,aK,aM,↓ KW,↓ aL,seval,gR,Z.H,aU.cells,hm7]
    refine ⟨rfl,aH (hW.2 r k hr hn) ?_⟩
    try simp only [I,B,D,RX,aJ,aK,aM,↓ KW,↓ aL,seval,aU.cells]
    refine gE rfl (ir (h1.2 _ _) rfl rfl rfl ?_)
    try simp only [I,B,D,RX,aJ,aK,aM,↓ KW,↓ aL,seval,aU.cells]
theorem uq.ok{e f1 fW:Nat} (hc:G7 P f=some (iM f1 fW)) (h1:Dm.Spec (Pure P) e f1) (hW:wA.Spec (Pure P) e fW):uq.Spec (Pure P) f:=by
 intro r hr
 by_cases hn:r.code=0/\8<=r.len-r.dD
 ·have hsum:IntKind.i64.wrap (r.dD+8)=r.dD+8:=by obtain⟨g1,g2,g3⟩:=hr;exact gm (by omega) (by omega)
  have hR:gl r=((eH (r.part 8)).toNat,{r with dD:=r.dD+8}):=by simp[gl,hn]
  rw[hR]
  refine iL hm hc (by show 1<=15;decide) rfl (by simp) (iK (keep:=[]) ?_)
  try simp only[I,B,D,RX,aJ,aK,aM,↓KW,↓aL,seval,iM,Z.H,aU.cells]
  refine⟨rfl,az (hW.1 r 8 hr (by omega) (by omega) hn) ?_⟩
  try simp only[I,B,D,RX,aJ,aK,aM,↓KW,↓aL,seval,aU.cells,hsum]
  refine ir (h1.1 _) rfl rfl rfl ?_;try simp only[I,B,D,RX,aJ,aK,aM,↓KW,↓aL,seval,aU.cells]
 ·have hR:gl r=(0,r.fail 2 r.len):=by simp[gl,hn]
  rw[hR]
  refine iL hm hc (by show 1<=15;decide) rfl (by simp) (iK (keep:=[]) ?_)
  try simp only[I,B,D,RX,aJ,aK,aM,↓KW,↓aL,seval,iM,Z.H,aU.cells]
  refine⟨rfl,aH (hW.2 r 8 hr hn) ?_⟩;try simp only[I,B,D,RX,aJ,aK,aM,↓KW,↓aL,seval,aU.cells]
  refine gE rfl (ir (h1.2 _ _) rfl rfl rfl ?_);try simp only[I,B,D,RX,aJ,aK,aM,↓KW,↓aL,seval,aU.cells]
theorem zx.ok{fN:Nat} (hc:cZ P f=some (l7 fN)) (hN:BY.Spec (Pure P) fN):zx.Spec (Pure P) f:=by
 intro r hr
 refine bK hm hc (by show 1<=6;decide) rfl (by simp) (ay (keep:=[]) (i:=0) ?_)
 try simp only[I,B,D,RX,aJ,aK,aM,↓KW,↓aL,seval,l7,Z.H,aU.cells]
 refine⟨rfl,ax (hN r 1 0 1 hr) ?_⟩;try simp only[I,B,D,RX,aJ,aK,aM,↓KW,↓aL,seval,aU.cells]
 exact⟨rfl,rfl⟩
end
def zy.Spec(C:bz) (f:Nat):Prop:=∀b:Option (List Int),(b.getD []).length<=1000000->C.c f [aF gk b] (aF gk b) none
def Dp.Spec(C:bz) (f:Nat):Prop:=∀b:Option (List Int),(b.getD []).length<=1000000->C.n f [aF gk b] (aU.cells ⟨b,0,0,0⟩)
def gY(n:Int) (k:Nat):Int:=IntKind.u8.wrap (n.fdiv (2^(8*k)))
def gV(n:Int):Nat->List Int
 |0=>[]
 |k+1=>gY n k::gV n k
def zz(l:List Int) (size n:Int):List Int:=l++gV n (jJ size 0 8).toNat
theorem Dq{n:Int} (h1:0<=n) (h2:n<=1000000000):IntKind.u64.wrap n=n:=by
 simp only[IntKind.wrap,IntKind.bits,IntKind.signed];simp;omega
theorem dz(n:Int):∀k,(gV n k).length=k
 |0=>rfl
 |k+1=>by simp[gV,dz n k]
section
variable{P:Program} (hm:P.follows .mixedOrders=true) {f:Nat}
include hm
theorem zy.ok{e:Nat} (hc:cZ P f=some (dX e)):zy.Spec (Pure P) f:=by
 intro b hb
 cases b with
 |none=>
  refine aC hm hc (by show 1<=8;decide) (ay (keep:=[]) (i:=0) ?_)
  try simp only[I,B,D,RX,aJ,aK,aM,↓KW,↓aL,seval,dX,Z.H,aF]
 |some l=>
  refine aC hm hc (by show 1<=8;decide) (ay (keep:=[]) (i:=0) ?_)
  try simp only[I,B,D,RX,aJ,aK,aM,↓KW,↓aL,seval,dX,Z.H,aF]
  refine⟨by simp at hb;omega,fun _ _=>rfl⟩
theorem Dp.ok{fC:Nat} (hc:cZ P f=some (xz fC)) (hC:zy.Spec (Pure P) fC):Dp.Spec (Pure P) f:=by
 intro b hb
 refine Jw hm hc (by show 1<=7;decide) (ay (keep:=[]) (i:=0) ?_)
 try simp only[I,B,D,RX,aJ,aK,aM,↓KW,↓aL,seval,xz,Z.H,List.map_cons,List.map_nil]
 refine ai (hC b hb) ?_;try simp only[I,B,D,RX,aJ,aK,aM,↓KW,↓aL,seval,aU.cells]
 cases b with
 |none=>
  try simp only[I,B,D,RX,aJ,aK,aM,↓KW,↓aL,seval,aF]
  exact⟨by decide,rfl⟩
 |some l=>
  try simp only[I,B,D,RX,aJ,aK,aM,↓KW,↓aL,seval,aF]
  exact⟨by decide,rfl⟩
def EO.Spec(C:bz) (f:Nat):Prop:=∀(b:Option (List Int)) (size n:Int),(b.getD []).length<=1000000->C.c f [aF gk b,I size,I n] (.sl ((zz (b.getD []) size n).map gk)) none
def Jz.Spec(C:bz) (f:Nat):Prop:=∀(b:Option (List Int)) (size n:Int),(b.getD []).length<=1000000->C.c f [aF gk b,I size,I n] (aF gk (bf (zz (b.getD []) size n))) none
theorem EO.ok{e:Nat} (hc:iC true P f=some (rG e)):EO.Spec (Pure P) f:=by
 intro b size n hb
 have hm8:(if 8<(if 0>size then 0 else size)then 8 else(if 0>size then 0 else size))=jJ size 0 8:=by
  unfold jJ;split<;>split<;>(try split)<;>omega
 obtain⟨K,hK,hK8⟩:∃K:Nat,jJ size 0 8=(K:Int)/\K<=8:=⟨(jJ size 0 8).toNat,by unfold jJ;split<;>(try split)<;>omega,by unfold jJ;split<;>(try split)<;>omega⟩
 have hpl:zz (b.getD []) size n=b.getD []++gV n K:=by simp[zz,hK]
 rw[hpl];rw[hK]at hm8
 obtain⟨l,hl⟩:∃l,l=b.getD []:=⟨_,rfl⟩
 have hsum:IntKind.i64.wrap ((l.length:Int)+K)=((l.length+K:Nat):Int):=by rw[gm (by omega) (by rw[hl];omega)];simp
 rw[<-hl]at hb⊢
 refine aC hm hc (by show 3<=37;decide) (ay (keep:=[]) (i:=0) ?_)
 try simp only[I,B,D,RX,aJ,aK,aM,↓KW,↓aL,seval,rG,Z.H,hm8,<-hl,hsum]
 refine⟨⟨by omega,by omega,by omega⟩,fun _ _=>rfl,?_⟩
 refine aI (fun x:Nat×List Int=>(⟨[(8,.dat (I ((x.1:Int)-1)) none),(7,.dat (.sl ((l++x.2).map gk)) (some 0)),(2,.dat (I n) none)],[],[(0,e)],400⟩:S)) (fun x=>x.1) (fun x=>x.1<=K/\x.2++gV n x.1=gV n K) ?_ (K,[]) ⟨by omega,rfl⟩ ?_
 ·intro x hx A back
  obtain⟨j,G⟩:=x
  have hj:j<=K:=hx.1
  have hD:G++gV n j=gV n K:=hx.2
  clear hx
  have hdl:G.length+j=K:=by have:=congrArg List.length hD;simpa[dz]using this
  try simp only[I,B,D,RX,aJ,aK,aM,↓KW,↓aL,seval]
  refine aq (fun h=>?_) (fun h=>?_)<;>try simp only[I,B,D,RX,aJ,aK,aM,↓KW,↓aL,seval,h]
  ·obtain⟨m,rfl⟩:∃m,j=m+1:=⟨j-1,by have:=of_decide_eq_true h;omega⟩
   have e1:((m+1:Nat):Int)-1=(m:Int):=by omega
   have e2:IntKind.i64.wrap (8*(m:Int))=8*(m:Int):=gm (by omega) (by omega)
   have e3:(8*(m:Int)).toNat=8*m:=by omega
   have e4:IntKind.i64.wrap ((m:Int)-1)=(m:Int)-1:=gm (by omega) (by omega)
   have hmin:min (8*(m:Int)).toNat IntKind.i64.bits=8*m:=by
    show min (8*(m:Int)).toNat 64=8*m
    omega
   try simp only[I,B,D,RX,aJ,aK,aM,↓KW,↓aL,seval,e1,e2]
   refine⟨by omega,by first|omega|(simp;omega),fun _ _=>rfl,?_⟩
   refine back (m,G++[gY n m]) _ ⟨by show m<=K;omega,by show G++[gY n m]++gV n m=_;rw[<-hD];simp[gV]⟩ (by show m<m+1;omega) ?_
   refine ah (by decide) ?_ ?_ ?_ ?_<;>simp[LX,I,B,D,e4,hmin,gY,gk]
  ·have:j=0:=by have:=of_decide_eq_false h;omega
   subst this;try simp only[I,B,D,RX,aJ,aK,aM,↓KW,↓aL,seval]
   have hD:G++[]=gV n K:=hD
   rw[List.append_nil]at hD;rw[hD]
 ·have e4:IntKind.i64.wrap ((K:Int)-1)=(K:Int)-1:=gm (by omega) (by omega)
  refine ah (by decide) ?_ ?_ ?_ ?_<;>simp[LX,I,B,D,e4]
theorem Jz.ok {e fC:Nat} (hc:cZ P f=some (pM e fC)) (hC:Cut.Spec (Pure P) fC):Jz.Spec (Pure P) f:=by
  intro b size n hb
  obtain ⟨K,hK,hK8⟩:∃ K:Nat,jJ size 0 8=(K:Int)∧K≤8:=⟨(jJ size 0 8).toNat,by unfold jJ; split<;>(try split)<;>omega,by unfold jJ; split<;>(try split)<;>omega⟩
  have hpl:zz (b.getD []) size n=b.getD []++gV n K:=by simp [zz,hK]
  rw [hpl]
  obtain ⟨l,hl⟩:∃ l,l=b.getD []:=⟨_,rfl⟩
  rw [← hl] at hb ⊢
  refine aC hm hc (by show 3≤28; decide) (ay (keep:=[]) (i:=0) ?_)
  try simp only [I,B,D,RX,aJ,aK,aM,↓ KW,↓ aL,seval,pM,Z.H,← hl]
  refine ⟨by omega,fun _ _=>rfl,?_⟩
  have e4:IntKind.i64.wrap ((K:Int) - 1)=(K:Int) - 1:=gm (by omega) (by omega)
  by_cases hl0:l=[]
  · subst hl0
    rw [if_pos (show List.map gk []=[] from rfl)]
    refine ai (hC _ _ _) ?_
    try simp only [I,B,D,RX,aJ,aK,aM,↓ KW,↓ aL,seval,hK,e4]
    refine aI (fun x:Nat × List Int=>(⟨[(8,.dat (I ((x.1:Int) - 1)) none),(7,cJ gk (x.2) 0),(2,.dat (I n) none)],[],bE (x.2) 0 e,400⟩:S)) (fun x=>x.1) (fun x=>x.1≤K∧x.2++gV n x.1=gV n K) ?_ (K,[]) ⟨by omega,rfl⟩ ?_
    · intro x hx A back
      obtain ⟨j,G⟩:=x
      have hj:j≤K:=hx.1
      have hD:G++gV n j=gV n K:=hx.2
      clear hx
      have hdl:G.length + j=K:=by have:=congrArg List.length hD; simpa [dz] using this
      by_cases hG:G=[]
      · try simp only [I,B,D,RX,aJ,aK,aM,↓ KW,↓ aL,seval,cJ,bE,hG]
        refine aq (fun h=>?_) (fun h=>?_)<;>try simp only [I,B,D,RX,aJ,aK,aM,↓ KW,↓ aL,seval,h]
        · obtain ⟨m,rfl⟩:∃ m,j=m + 1:=⟨j - 1,by have:=of_decide_eq_true h; omega⟩
          have e1:((m + 1:Nat):Int) - 1=(m:Int):=by omega
          have e2:IntKind.i64.wrap (8 * (m:Int))=8 * (m:Int):=gm (by omega) (by omega)
          have e5:IntKind.i64.wrap ((m:Int) - 1)=(m:Int) - 1:=gm (by omega) (by omega)
          have e6:IntKind.u64.wrap (8 * (m:Int))=8 * (m:Int):=Dq (by omega) (by omega)
          have hmin:min (8 * (m:Int)).toNat IntKind.i64.bits=8 * m:=by
            show min (8 * (m:Int)).toNat 64=8 * m
            omega
          try simp only [I,B,D,RX,aJ,aK,aM,↓ KW,↓ aL,seval,e1,e2,e6]
          refine ⟨by omega,?_⟩
          try simp only [I,B,D,RX,aJ,aK,aM,↓ KW,↓ aL,seval]
          refine back (m,G++[gY n m]) _ ⟨by show m≤K; omega,by show G++[gY n m]++gV n m=_; rw [← hD]; simp [gV]⟩ (by show m < m + 1; omega) ?_
          refine ah (by decide) ?_ ?_ ?_ ?_<;>simp [LX,I,B,D,e5,hmin,gY,gk,cJ,bE,hG]
        · have:j=0:=by have:=of_decide_eq_false h; omega
          subst this
          try simp only [I,B,D,RX,aJ,aK,aM,↓ KW,↓ aL,seval]
          have hD:G++[]=gV n K:=hD
          rw [List.append_nil] at hD
          rw [← hD,hG]
          rfl
      · try simp only [I,B,D,RX,aJ,aK,aM,↓ KW,↓ aL,seval,cJ,bE,hG]
        refine aq (fun h=>?_) (fun h=>?_)<;>try simp only [I,B,D,RX,aJ,aK,aM,↓ KW,↓ aL,seval,h]
        · obtain ⟨m,rfl⟩:∃ m,j=m + 1:=⟨j - 1,by have:=of_decide_eq_true h; omega⟩
          have e1:((m + 1:Nat):Int) - 1=(m:Int):=by omega
          have e2:IntKind.i64.wrap (8 * (m:Int))=8 * (m:Int):=gm (by omega) (by omega)
          have e5:IntKind.i64.wrap ((m:Int) - 1)=(m:Int) - 1:=gm (by omega) (by omega)
          have e6:IntKind.u64.wrap (8 * (m:Int))=8 * (m:Int):=Dq (by omega) (by omega)
          have hmin:min (8 * (m:Int)).toNat IntKind.i64.bits=8 * m:=by
            show min (8 * (m:Int)).toNat 64=8 * m
            omega
          try simp only [I,B,D,RX,aJ,aK,aM,↓ KW,↓ aL,seval,e1,e2,e6]
          refine ⟨by omega,by first | omega | (simp; omega),fun _ _=>rfl,?_⟩
          refine back (m,G++[gY n m]) _ ⟨by show m≤K; omega,by show G++[gY n m]++gV n m=_; rw [← hD]; simp [gV]⟩ (by show m < m + 1; omega) ?_
          refine ah (by decide) ?_ ?_ ?_ ?_<;>simp [LX,I,B,D,e5,hmin,gY,gk,cJ,bE]
        · have:j=0:=by have:=of_decide_eq_false h; omega
          subst this
          try simp only [I,B,D,RX,aJ,aK,aM,↓ KW,↓ aL,seval]
          have hD:G++[]=gV n K:=hD
          rw [List.append_nil] at hD
          rw [hD] at hG ⊢
          simp [aF,bf,hG]
    · refine ah (by decide) ?_ ?_ ?_ ?_<;>simp [LX,I,B,D,e4,cJ,bE]
  · have:¬ List.map gk l=[]:=by simpa using hl0
    rw [if_neg this]
    refine ai (hC _ _ _) ?_
    try simp only [I,B,D,RX,aJ,aK,aM,↓ KW,↓ aL,seval,hK,e4]
    refine aI (fun x:Nat × List Int=>(⟨[(8,.dat (I ((x.1:Int) - 1)) none),(7,cJ gk (l++x.2) 0),(2,.dat (I n) none)],[],bE (l++x.2) 0 e,400⟩:S)) (fun x=>x.1) (fun x=>x.1≤K∧x.2++gV n x.1=gV n K) ?_ (K,[]) ⟨by omega,rfl⟩ ?_
    · intro x hx A back
      obtain ⟨j,G⟩:=x
      have hj:j≤K:=hx.1
      have hD:G++gV n j=gV n K:=hx.2
      clear hx
      have hdl:G.length + j=K:=by have:=congrArg List.length hD; simpa [dz] using this
      by_cases hG:l++G=[]
      · try simp only [I,B,D,RX,aJ,aK,aM,↓ KW,↓ aL,seval,cJ,bE,hG]
        refine aq (fun h=>?_) (fun h=>?_)<;>try simp only [I,B,D,RX,aJ,aK,aM,↓ KW,↓ aL,seval,h]
        · obtain ⟨m,rfl⟩:∃ m,j=m + 1:=⟨j - 1,by have:=of_decide_eq_true h; omega⟩
          have e1:((m + 1:Nat):Int) - 1=(m:Int):=by omega
          have e2:IntKind.i64.wrap (8 * (m:Int))=8 * (m:Int):=gm (by omega) (by omega)
          have e5:IntKind.i64.wrap ((m:Int) - 1)=(m:Int) - 1:=gm (by omega) (by omega)
          have e6:IntKind.u64.wrap (8 * (m:Int))=8 * (m:Int):=Dq (by omega) (by omega)
          have hmin:min (8 * (m:Int)).toNat IntKind.i64.bits=8 * m:=by
            show min (8 * (m:Int)).toNat 64=8 * m
            omega
          try simp only [I,B,D,RX,aJ,aK,aM,↓ KW,↓ aL,seval,e1,e2,e6]
          refine ⟨by omega,?_⟩
          try simp only [I,B,D,RX,aJ,aK,aM,↓ KW,↓ aL,seval]
          refine back (m,G++[gY n m]) _ ⟨by show m≤K; omega,by show G++[gY n m]++gV n m=_; rw [← hD]; simp [gV]⟩ (by show m < m + 1; omega) ?_
          have hG':l=[]∧G=[]:=by simpa using hG
          obtain ⟨hl',hG''⟩:=hG'
          refine ah (by decide) ?_ ?_ ?_ ?_<;>simp [LX,I,B,D,e5,hmin,gY,gk,cJ,bE,hl',hG'']
        · have:j=0:=by have:=of_decide_eq_false h; omega
          subst this
          try simp only [I,B,D,RX,aJ,aK,aM,↓ KW,↓ aL,seval]
          have hD:G++[]=gV n K:=hD
          rw [List.append_nil] at hD
          rw [← hD,hG]
          rfl
      · try simp only [I,B,D,RX,aJ,aK,aM,↓ KW,↓ aL,seval,cJ,bE,hG]
        refine aq (fun h=>?_) (fun h=>?_)<;>try simp only [I,B,D,RX,aJ,aK,aM,↓ KW,↓ aL,seval,h]
        · obtain ⟨m,rfl⟩:∃ m,j=m + 1:=⟨j - 1,by have:=of_decide_eq_true h; omega⟩
          have e1:((m + 1:Nat):Int) - 1=(m:Int):=by omega
          have e2:IntKind.i64.wrap (8 * (m:Int))=8 * (m:Int):=gm (by omega) (by omega)
          have e5:IntKind.i64.wrap ((m:Int) - 1)=(m:Int) - 1:=gm (by omega) (by omega)
          have e6:IntKind.u64.wrap (8 * (m:Int))=8 * (m:Int):=Dq (by omega) (by omega)
          have hmin:min (8 * (m:Int)).toNat IntKind.i64.bits=8 * m:=by
            show min (8 * (m:Int)).toNat 64=8 * m
            omega
          try simp only [I,B,D,RX,aJ,aK,aM,↓ KW,↓ aL,seval,e1,e2,e6]
          refine ⟨by omega,by first | omega | (simp; omega),fun _ _=>rfl,?_⟩
          refine back (m,G++[gY n m]) _ ⟨by show m≤K; omega,by show G++[gY n m]++gV n m=_; rw [← hD]; simp [gV]⟩ (by show m < m + 1; omega) ?_
          refine ah (by decide) ?_ ?_ ?_ ?_<;>simp [LX,I,B,D,e5,hmin,gY,gk,cJ,bE]
        · have:j=0:=by have:=of_decide_eq_false h; omega
          subst this
          try simp only [I,B,D,RX,aJ,aK,aM,↓ KW,↓ aL,seval]
          have hD:G++[]=gV n K:=hD
          rw [List.append_nil] at hD
          rw [hD] at hG ⊢
          simp [aF,bf,hG]
    · refine ah (by decide) ?_ ?_ ?_ ?_<;>simp [LX,I,B,D,e4,cJ,bE,hl0]
def Dr.Spec(C:bz) (f:Nat):Prop:=∀(b:Option (List Int)) (x:Nat),(b.getD []).length<=1000000->C.c f [aF gk b,Fl x] (.sl ((zz (b.getD []) 8 (IntKind.i64.wrap x)).map gk)) none
theorem Dr.ok{fP:Nat} (hc:cZ P f=some (oM fP)) (hP:EO.Spec (Pure P) fP):Dr.Spec (Pure P) f:=by
 intro b x hb
 refine aC hm hc (by show 2<=10;decide) (ay (keep:=[]) (i:=0) ?_)
 try simp only[I,B,D,RX,aJ,aK,aM,↓KW,↓aL,seval,oM,Z.H,Dj]
 refine ai (hP b 8 _ hb) ?_;try simp only[I,B,D,RX,aJ,aK,aM,↓KW,↓aL,seval]
end
def oN(r:aU) (n:Int):Int×aU:=if r.len-r.dD<n then(0,{r with code:=2,Eb:=r.len})else(eH (r.part n),r)
def N8.Spec(C:bz) (f:Nat):Prop:=∀r:aU,C.p f [r.cells] [none] (B (r.code==0)) none [r.cells]
def A5.Spec(C:bz) (f:Nat):Prop:=∀(r:aU) (n:Int),r.Ok->0<=n->n<=8->C.p f [r.cells] [none,some (I n)] (.int .u64 (oN r n).1) none [(oN r n).2.cells]
section
variable{P:Program} (hm:P.follows .mixedOrders=true) {f:Nat}
include hm
theorem N8.ok(hc:cZ P f=some nq):N8.Spec (Pure P) f:=by
 intro r
 refine bK hm hc (by show 1<=9;decide) rfl (by simp) (ay (keep:=[]) (i:=0) ?_)
 try simp only[I,B,D,RX,↓KW,seval,nq,Z.H,aU.cells]
theorem A5.ok (hc:cZ P f=some lE):A5.Spec (Pure P) f:=by
  intro r n hr h0 h8
  have hr':=hr
  obtain ⟨h1,h2,h3⟩:=hr'
  have hw1:IntKind.i64.wrap (r.len - r.dD)=r.len - r.dD:=gm (by omega) (by omega)
  refine bK hm hc (by show 2≤50; decide) rfl (by simp) (ay (keep:=[]) (i:=0) ?_)
  try simp only [I,B,D,RX,↓ KW,seval,lE,Z.H,aU.cells,EN,hw1]
  refine aq (fun h=>?_) (fun h=>?_)<;>try simp only [I,B,D,RX,↓ KW,seval,h]
  · have h:r.len - r.dD < n:=of_decide_eq_true h
    simp [oN,h]
    rfl
  · have h:¬ r.len - r.dD < n:=of_decide_eq_false h
    have hb:oN r n=(eH (r.part n),r):=by simp [oN,h]
    rw [hb]
    have hl:=Dn hr h0 (by omega)
    obtain ⟨L,hL⟩:∃ L,L=r.part n:=⟨_,rfl⟩
    rw [← hL] at hl ⊢
    refine aI (fun k:Nat=>(⟨[(6,.dat (I k) none),(1,.dat (I n) none),(0,.ptr 0 0),(5,.dat (.int .u64 (eH (L.take k))) none)],[(0,⟨r.cells,[]⟩)],[],400⟩:S)) (fun k=>L.length - k) (fun k=>k≤L.length) ?_ 0 (by omega) ?_
    · intro k hk A back
      try simp only [I,B,D,RX,↓ KW,seval,aU.cells]
      refine aq (fun h5=>?_) (fun h5=>?_)<;>try simp only [I,B,D,RX,↓ KW,seval,h5]
      · have hk2:k < L.length:=by have:=of_decide_eq_true h5; omega
        obtain ⟨x,hx⟩:∃ x,L[k]? = some x:=⟨L[k],by simp [hk2]⟩
        have hx2:(r.b.getD [])[(r.dD + k).toNat]? = some x:=by
          rw [hL] at hx
          have e:(r.dD + k).toNat=r.dD.toNat + k:=by omega
          unfold aU.part at hx
          rw [List.getElem?_drop,List.getElem?_take] at hx
          rw [e]
          split at hx
          · exact hx
          · cases hx
        have hw:=aG (k:=k) (by omega)
        have hw2:IntKind.i64.wrap (r.dD + k)=r.dD + k:=gm (by omega) (by omega)
        try simp only [I,B,D,RX,↓ KW,seval,hw2]
        have hlen:r.dD + (k:Int) < ((r.b.getD []).length:Int):=by rw [EN]; omega
        refine ⟨⟨by omega,hlen⟩,?_⟩
        try simp only [I,B,D,RX,↓ KW,seval,hx2,gk]
        refine back (k + 1) _ (by omega) (by omega) (ah (by decide) ?_ ?_ ?_ ?_)<;>simp [LX,I,B,D,hx,A4 L k x hx,hw,aU.cells]
        rfl
      · have:k=L.length:=by have:=of_decide_eq_false h5; omega
        subst this
        try simp only [I,B,D,RX,↓ KW,seval,List.take_length]
    · refine ah (by decide) ?_ ?_ ?_ ?_<;>simp [LX,I,B,D,aU.cells,eH]
def vt.Spec(C:bz) (f:Nat):Prop:=∀(r:aU) (size lo hi:Int),r.Ok->C.p f [r.cells] [none,some (I size),some (I lo),some (I hi)] (I (eP r size lo hi).1) none [(eP r size lo hi).2.cells]
def wC.Spec(C:bz) (f:Nat):Prop:=∀r:aU,r.Ok->C.p f [r.cells] [none] (Fl (gl r).1) none [(gl r).2.cells]
def zA.Spec(C:bz) (f:Nat):Prop:=∀r:aU,r.Ok->C.p f [r.cells] [none] (B (Au r).1) none [(Au r).2.cells]
theorem vt.ok {fO fC fB:Nat} (hc:cZ P f=some (eV fO fC fB)) (hO:N8.Spec (Pure P) fO) (hC:Cut.Spec (Pure P) fC) (hB:A5.Spec (Pure P) fB):vt.Spec (Pure P) f:=by
  intro r size lo hi hr
  obtain ⟨k,hk⟩:∃ k,k=jJ size 0 7:=⟨_,rfl⟩
  have hk0:0≤k∧k≤7:=by rw [hk]; unfold jJ; split<;>(try split)<;>omega
  by_cases h0:r.code=0
  · obtain ⟨b,q,c,a⟩:=r
    simp only at h0
    subst h0
    have hr':=hr
    obtain ⟨g1,g2,g3⟩:=hr'
    simp only at g1 g2
    have ok0:=hO ⟨b,q,0,a⟩
    by_cases hn:(aU.mk b q 0 a).len - q < k
    · have hR:eP ⟨b,q,0,a⟩ size lo hi=(0,⟨b,q,2,(aU.mk b q 0 a).len⟩):=by
        have:¬ k≤(aU.mk b q 0 a).len - q:=by omega
        simp [eP,← hk,this,aU.fail]
      have hb:oN ⟨b,q,0,a⟩ k=(0,⟨b,q,2,(aU.mk b q 0 a).len⟩):=by simp [oN,hn]
      have hbs:=hB ⟨b,q,0,a⟩ k hr hk0.1 (by omega)
      rw [hb] at hbs
      rw [hR]
      refine bK hm hc (by show 4≤53; decide) rfl (by simp) (ay (keep:=[]) (i:=0) ?_)
      try simp only [I,B,D,RX,↓ KW,seval,eV,Z.H,aU.cells]
      refine ⟨rfl,ax ok0 ?_⟩
      try simp only [I,B,D,RX,↓ KW,seval,aU.cells]
      refine ai (hC _ _ _) ?_
      try simp only [I,B,D,RX,↓ KW,seval,← hk]
      refine ⟨rfl,ax hbs ?_⟩
      try simp only [I,B,D,RX,↓ KW,seval,aU.cells]
      refine ⟨rfl,ax (hO ⟨b,q,2,_⟩) ?_⟩
      try simp only [I,B,D,RX,↓ KW,seval,aU.cells]
      refine ⟨rfl,ax (hO ⟨b,q,2,_⟩) ?_⟩
      try simp only [I,B,D,RX,↓ KW,seval,aU.cells]
      rfl
    · have hb:oN ⟨b,q,0,a⟩ k=(eH ((aU.mk b q 0 a).part k),⟨b,q,0,a⟩):=by simp [oN,hn]
      have hbs:=hB ⟨b,q,0,a⟩ k hr hk0.1 (by omega)
      rw [hb] at hbs
      obtain ⟨v,hv⟩:∃ v,v=IntKind.i64.wrap (eH ((aU.mk b q 0 a).part k)):=⟨_,rfl⟩
      have hk':k≤(aU.mk b q 0 a).len - q:=by omega
      have hsum:IntKind.i64.wrap (q + k)=q + k:=gm (by omega) (by omega)
      have pre:(eP ⟨b,q,0,a⟩ size lo hi)=if v < lo∨hi < v then (0,⟨b,q,4,q⟩) else (v,⟨b,q + k,0,a⟩):=by
        simp [eP,← hk,hk',← hv,aU.fail]
      by_cases hbad:v < lo∨hi < v
      · rw [pre,if_pos hbad]
        refine bK hm hc (by show 4≤53; decide) rfl (by simp) (ay (keep:=[]) (i:=0) ?_)
        try simp only [I,B,D,RX,↓ KW,seval,eV,Z.H,aU.cells]
        refine ⟨rfl,ax ok0 ?_⟩
        try simp only [I,B,D,RX,↓ KW,seval,aU.cells]
        refine ai (hC _ _ _) ?_
        try simp only [I,B,D,RX,↓ KW,seval,← hk]
        refine ⟨rfl,ax hbs ?_⟩
        try simp only [I,B,D,RX,↓ KW,seval,aU.cells,← hv]
        refine ⟨rfl,ax ok0 ?_⟩
        try simp only [I,B,D,RX,↓ KW,seval,aU.cells]
        refine bB (fun h=>?_) (fun h=>?_)
        · try simp only [I,B,D,RX,↓ KW,seval,h]
          refine ⟨rfl,ax (hO ⟨b,q,4,q⟩) ?_⟩
          try simp only [I,B,D,RX,↓ KW,seval,aU.cells]
        · try simp only [I,B,D,RX,↓ KW,seval,h]
          have h2:hi < v:=by have:=of_decide_eq_false h; omega
          refine aq (fun h3=>?_) (fun h3=>?_)<;>try simp only [I,B,D,RX,↓ KW,seval,h3]
          · refine ⟨rfl,ax (hO ⟨b,q,4,q⟩) ?_⟩
            try simp only [I,B,D,RX,↓ KW,seval,aU.cells]
          · exfalso; have:=of_decide_eq_false h3; omega
      · rw [pre,if_neg hbad]
        refine bK hm hc (by show 4≤53; decide) rfl (by simp) (ay (keep:=[]) (i:=0) ?_)
        try simp only [I,B,D,RX,↓ KW,seval,eV,Z.H,aU.cells]
        refine ⟨rfl,ax ok0 ?_⟩
        try simp only [I,B,D,RX,↓ KW,seval,aU.cells]
        refine ai (hC _ _ _) ?_
        try simp only [I,B,D,RX,↓ KW,seval,← hk]
        refine ⟨rfl,ax hbs ?_⟩
        try simp only [I,B,D,RX,↓ KW,seval,aU.cells,← hv]
        refine ⟨rfl,ax ok0 ?_⟩
        try simp only [I,B,D,RX,↓ KW,seval,aU.cells]
        refine bB (fun h=>?_) (fun h=>?_)
        · exfalso; have:=of_decide_eq_true h; omega
        · try simp only [I,B,D,RX,↓ KW,seval,h]
          refine aq (fun h3=>?_) (fun h3=>?_)<;>try simp only [I,B,D,RX,↓ KW,seval,h3]
          · exfalso; have:=of_decide_eq_true h3; omega
          · refine ⟨rfl,ax ok0 ?_⟩
            try simp only [I,B,D,RX,↓ KW,seval,aU.cells,hsum]
  · have hz:(r.code == 0)=false:=by simpa using h0
    have hR:eP r size lo hi=(0,r):=by simp [eP,h0,aU.fail]
    rw [hR]
    refine bK hm hc (by show 4≤53; decide) rfl (by simp) (ay (keep:=[]) (i:=0) ?_)
    try simp only [I,B,D,RX,↓ KW,seval,eV,Z.H,aU.cells]
    refine ⟨rfl,ax (hO r) ?_⟩
    try simp only [I,B,D,RX,↓ KW,seval,aU.cells,hz]
theorem wC.ok{fO fB:Nat} (hc:cZ P f=some (fX fO fB)) (hO:N8.Spec (Pure P) fO) (hB:A5.Spec (Pure P) fB):wC.Spec (Pure P) f:=by
 intro r hr
 by_cases h0:r.code=0
 ·obtain⟨b,q,c,a⟩:=r
  simp only at h0;subst h0
  have hr':=hr
  obtain⟨g1,g2,g3⟩:=hr';simp only at g1 g2
  have ok0:=hO ⟨b,q,0,a⟩
  by_cases hn:(aU.mk b q 0 a).len-q<8
  ·have hR:gl ⟨b,q,0,a⟩=(0,⟨b,q,2,(aU.mk b q 0 a).len⟩):=by
    have:¬8<=(aU.mk b q 0 a).len-q:=by omega
    simp[gl,this,aU.fail]
   have hb:oN ⟨b,q,0,a⟩ 8=(0,⟨b,q,2,(aU.mk b q 0 a).len⟩):=by simp[oN,hn]
   have hbs:=hB ⟨b,q,0,a⟩ 8 hr (by omega) (by omega)
   rw[hb]at hbs;rw[hR]
   refine bK hm hc (by show 1<=22;decide) rfl (by simp) (ay (keep:=[]) (i:=0) ?_)
   try simp only[I,B,D,RX,↓KW,seval,fX,Z.H,aU.cells]
   refine⟨rfl,ax ok0 ?_⟩;try simp only[I,B,D,RX,↓KW,seval,aU.cells]
   refine⟨rfl,ax hbs ?_⟩;try simp only[I,B,D,RX,↓KW,seval,aU.cells]
   refine⟨rfl,ax (hO ⟨b,q,2,_⟩) ?_⟩;try simp only[I,B,D,RX,↓KW,seval,aU.cells]
   rfl
  ·have hb:oN ⟨b,q,0,a⟩ 8=(eH ((aU.mk b q 0 a).part 8),⟨b,q,0,a⟩):=by simp[oN,hn]
   have hbs:=hB ⟨b,q,0,a⟩ 8 hr (by omega) (by omega)
   rw[hb]at hbs
   have hk':8<=(aU.mk b q 0 a).len-q:=by omega
   have hsum:IntKind.i64.wrap (q+8)=q+8:=gm (by omega) (by omega)
   have pre:gl ⟨b,q,0,a⟩=((eH ((aU.mk b q 0 a).part 8)).toNat,⟨b,q+8,0,a⟩):=by simp[gl,hk']
   rw[pre]
   refine bK hm hc (by show 1<=22;decide) rfl (by simp) (ay (keep:=[]) (i:=0) ?_)
   try simp only[I,B,D,RX,↓KW,seval,fX,Z.H,aU.cells]
   refine⟨rfl,ax ok0 ?_⟩;try simp only[I,B,D,RX,↓KW,seval,aU.cells]
   refine⟨rfl,ax hbs ?_⟩;try simp only[I,B,D,RX,↓KW,seval,aU.cells]
   refine⟨rfl,ax ok0 ?_⟩;try simp only[I,B,D,RX,↓KW,seval,aU.cells,hsum]
 ·have hz:(r.code==0)=false:=by simpa using h0
  have hR:gl r=(0,r):=by simp[gl,h0,aU.fail]
  rw[hR]
  refine bK hm hc (by show 1<=22;decide) rfl (by simp) (ay (keep:=[]) (i:=0) ?_)
  try simp only[I,B,D,RX,↓KW,seval,fX,Z.H,aU.cells]
  refine⟨rfl,ax (hO r) ?_⟩;try simp only[I,B,D,RX,↓KW,seval,aU.cells,hz]
theorem zA.ok{fN:Nat} (hc:cZ P f=some (lC fN)) (hN:vt.Spec (Pure P) fN):zA.Spec (Pure P) f:=by
 intro r hr
 refine bK hm hc (by show 1<=6;decide) rfl (by simp) (ay (keep:=[]) (i:=0) ?_)
 try simp only[I,B,D,RX,↓KW,seval,lC,Z.H,aU.cells]
 refine⟨rfl,ax (hN r 1 0 1 hr) ?_⟩;try simp only[I,B,D,RX,↓KW,seval,aU.cells]
 exact⟨rfl,rfl⟩
end
theorem BZ{r:aU} (h:r.Ok) (c a:Int):(r.fail c a).Ok/\(r.fail c a).b=r.b:=by
 unfold aU.fail;split
 ·exact⟨h,rfl⟩
 ·exact⟨h,rfl⟩
theorem W8(n:Int):0<=jJ n 0 7/\jJ n 0 7<=7:=by unfold jJ;split<;>(try split)<;>omega
theorem xZ{r:aU} (h:r.Ok) (size lo hi:Int):(eP r size lo hi).2.Ok/\(eP r size lo hi).2.b=r.b:=by
 have hk:=W8 size
 unfold eP;simp only;split
 ·exact BZ h _ _
 ·rename_i hn
  split
  ·exact BZ h _ _
  ·obtain⟨h1,h2,h3⟩:=h
   refine⟨⟨?_,?_,h3⟩,rfl⟩
   ·show 0<=r.dD+_;omega
   ·show r.dD+_<=r.len;simp at hn;omega
theorem sH{r:aU} (h:r.Ok):(gl r).2.Ok/\(gl r).2.b=r.b:=by
 unfold gl;split
 ·exact BZ h _ _
 ·rename_i hn
  obtain⟨h1,h2,h3⟩:=h;refine⟨⟨?_,?_,h3⟩,rfl⟩
  ·show 0<=r.dD+_;omega
  ·show r.dD+_<=r.len;simp at hn;omega
theorem FO{r:aU} (h:r.Ok):(Au r).2.Ok/\(Au r).2.b=r.b:=xZ h 1 0 1
theorem EP{b:Option (List Int)} (h:(b.getD []).length<=1000000):(aU.mk b 0 0 0).Ok:=⟨by simp,by simp[aU.len],by simp only[aU.len];omega⟩
theorem Vj{α:Type} (f:α->List AV) (b:Option (List α)) (off:Nat) (ps:List (Nat×List AV)):FC off 1 (some (aF f b)) (some ps)=some ((off,[aF f b])::ps):=by cases b<;>rfl
theorem mF(a b:Int):bn [.i,.i] [.int .i64 a,.int .i64 b] [.int .i64 a,.int .i64 b]=some true:=by simp[bn,lP]
def x3.Spec(C:bz) (f:Nat):Prop:=C.c f [] (B true) none
section
variable{P:Program} (hm:P.follows .mixedOrders=true) {f:Nat}
include hm
theorem x3.ok{e fN fU fA fP:Nat} (hc:iC true P f=some (rE e fN fU fA fP)) (hN:Dp.Spec (Pure P) fN) (hU:BY.Spec (Pure P) fU) (hA:No.Spec (Pure P) fA) (hP:EO.Spec (Pure P) fP):x3.Spec (Pure P) f:=by
 have hn:eP ⟨some [1,2],0,0,0⟩ 2 0 300=(258,⟨some [1,2],2,0,0⟩):=by rfl
 have h1:=hU ⟨some [1,2],0,0,0⟩ 2 0 300 (EP (by simp))
 rw[hn]at h1
 refine aC hm hc (by show 0<=21;decide) (ay (keep:=[]) (i:=0) ?_)
 try simp only[I,B,D,RX,aJ,aK,aM,↓KW,↓aL,seval,rE,Z.H]
 refine jT (hN (some [1,2]) (by simp)) ?_
 try simp only[I,B,D,RX,aJ,aK,aM,↓KW,↓aL,seval,aU.cells]
 refine⟨rfl,az (h1) ?_⟩;try simp only[I,B,D,RX,aJ,aK,aM,↓KW,↓aL,seval,aU.cells]
 refine⟨rfl,az (hA ⟨some [1,2],2,0,0⟩) ?_⟩;try simp only[I,B,D,RX,aJ,aK,aM,↓KW,↓aL,seval,aU.cells]
 refine kq (hP none 2 258 (by simp)) ?_
 try simp only[I,B,D,RX,aJ,aK,aM,↓KW,↓aL,seval]
 rfl
structure XD where
 kind:Int
 size:Int
 low:Int
 high:Int
def Vk(d:XD):List AV:=[I d.kind,I d.size,I d.low,I d.high]
def A6.Spec(C:bz) (f:Nat):Prop:=∀(b:Option (List Int)) (l:Option (List XD)),C.c f [aF gk b,aF Vk l] (B true) none
theorem A6.ok {fW fN f1 f2 f3 f4 fA f5 f6 f7 f8 f9:Nat} (hc:iC true P f=some (nk fW fN f1 f2 f3 f4 fA f5 f6 f7 f8 f9)) (hW:x3.Spec (Pure P) fW) (hN:Dp.Spec (Pure P) fN)
    (h1:BY.Spec (Pure P) f1) (h2:vt.Spec (Pure P) f2) (h3:uq.Spec (Pure P) f3) (h4:wC.Spec (Pure P) f4) (hA:Qr.Spec (Pure P) fA) (h5:zx.Spec (Pure P) f5) (h6:zA.Spec (Pure P) f6) (h7:No.Spec (Pure P) f7) (h8:xA.Spec (Pure P) f8) (h9:uo.Spec (Pure P) f9):A6.Spec (Pure P) f:=by
  intro b l
  refine aC hm hc (by show 2≤114; decide) (ay (keep:=[]) (i:=0) ?_)
  try simp only [I,B,D,RX,aJ,aK,aM,↓ KW,↓ aL,seval,nk,Z.H]
  refine bB (fun h=>?_) (fun h=>?_)
  · try simp only [I,B,D,RX,aJ,aK,aM,↓ KW,↓ aL,seval,h]
    refine kq (hW) ?_
    try simp only [I,B,D,RX,aJ,aK,aM,↓ KW,↓ aL,seval]
  · try simp only [I,B,D,RX,aJ,aK,aM,↓ KW,↓ aL,seval,h]
    refine aq (fun h'=>?_) (fun h'=>?_)<;>try simp only [I,B,D,RX,aJ,aK,aM,↓ KW,↓ aL,seval,h']
    · refine kq (hW) ?_
      try simp only [I,B,D,RX,aJ,aK,aM,↓ KW,↓ aL,seval]
    · have hb:(b.getD []).length≤200:=by have:=of_decide_eq_false h; omega
      have hl:(l.getD []).length≤40:=by have:=of_decide_eq_false h'; omega
      obtain ⟨L,hL⟩:∃ L,L=l.getD []:=⟨_,rfl⟩
      rw [← hL] at hl
      refine jT (hN b (by omega)) ?_
      try simp only [I,B,D,RX,aJ,aK,aM,↓ KW,↓ aL,seval,aU.cells,Vj]
      refine aI (fun x:Nat × aU=>(⟨[(7,.dat (I x.1) none),(0,.dat (aF gk b) none),(1,.dat (aF Vk l) none),(5,.ptr 14 0),(6,.ptr 18 0)],[(18,⟨x.2.cells,[]⟩),(14,⟨x.2.cells,[]⟩)],[],400⟩:S)) (fun x=>L.length - x.1) (fun x=>x.1≤L.length∧x.2.Ok∧x.2.b=b) ?_ (0,⟨b,0,0,0⟩) ⟨by omega,EP (by omega),rfl⟩ ?_
      · intro x hx A back
        obtain ⟨i,r⟩:=x
        have hi:i≤L.length:=hx.1
        have hr:r.Ok:=hx.2.1
        have hrb:r.b=b:=hx.2.2
        clear hx
        try simp only [I,B,D,RX,aJ,aK,aM,↓ KW,↓ aL,seval,← hL]
        refine aq (fun h10=>?_) (fun h10=>?_)<;>try simp only [I,B,D,RX,aJ,aK,aM,↓ KW,↓ aL,seval,h10]
        · have hi2:i < L.length:=by have:=of_decide_eq_true h10; omega
          obtain ⟨d,hd⟩:∃ d,L[i]? = some d:=⟨L[i],by simp [hi2]⟩
          have hb0:0≤(i:Int):=by omega
          have hb1:(i:Int) < (L.length:Int):=by omega
          have hw:=aG (k:=i) (by omega)
          try simp only [I,B,D,RX,aJ,aK,aM,↓ KW,↓ aL,seval,hb0,hb1,← hL,hd,Vk]
          refine aq (fun h11=>?_) (fun h11=>?_)<;>try simp only [I,B,D,RX,aJ,aK,aM,↓ KW,↓ aL,seval,h11]
          · obtain ⟨r2,hr2e⟩:∃ r2,r2=(eP r d.size d.low d.high).2:=⟨_,rfl⟩
            have hr2:r2.Ok:=by rw [hr2e]; exact (xZ hr _ _ _).1
            have hrb2:r2.b=b:=by rw [hr2e,(xZ hr _ _ _).2,hrb]
            refine qf rfl ?_
            try simp only [I,B,D,RX,aJ,aK,aM,↓ KW,↓ aL,seval,hb0,hb1,← hL,hd,Vk]
            refine ⟨rfl,ax (h1 r d.size d.low d.high hr) ?_⟩
            try simp only [I,B,D,RX,aJ,aK,aM,↓ KW,↓ aL,seval,hb0,hb1,← hL,hd,Vk,← hr2e]
            refine ⟨rfl,ax (h2 r d.size d.low d.high hr) ?_⟩
            try simp only [I,B,D,RX,aJ,aK,aM,↓ KW,↓ aL,seval,bne_self_eq_false,← hr2e]
            have hw2:IntKind.i64.wrap (((b.getD []).length:Int) - r2.dD)=r2.len - r2.dD:=by
              have e:((b.getD []).length:Int)=r2.len:=by rw [← hrb2]; rfl
              obtain ⟨k1,k2,k3⟩:=hr2
              rw [e]; exact gm (by omega) (by omega)
            refine IP [1,9,21] rfl ?_
            try simp only [I,B,D,RX,aJ,aK,aM,↓ KW,↓ aL,seval,aU.cells]
            refine ⟨rfl,ke (h7 r2) ?_⟩
            try simp only [I,B,D,RX,aJ,aK,aM,↓ KW,↓ aL,seval,aU.cells,bne_self_eq_false]
            refine ⟨rfl,ke (h8 r2 hr2) ?_⟩
            try simp only [I,B,D,RX,aJ,aK,aM,↓ KW,↓ aL,seval,aU.cells,bne_self_eq_false,hw2]
            refine ⟨rfl,ke (h9 r2) ?_⟩
            try simp only [I,B,D,RX,aJ,aK,aM,↓ KW,↓ aL,seval,aU.cells,aU.fault,bne_self_eq_false,hw2,mF]
            refine back (i + 1,r2) _ ⟨by show i + 1≤L.length; omega,hr2,hrb2⟩ (by show L.length - (i + 1) < L.length - i; omega) ?_
            refine ah (by decide) ?_ ?_ ?_ ?_<;>simp [LX,I,B,D,hw,aU.cells]
          · try simp only [I,B,D,RX,aJ,aK,aM,↓ KW,↓ aL,seval]
            refine aq (fun h12=>?_) (fun h12=>?_)<;>try simp only [I,B,D,RX,aJ,aK,aM,↓ KW,↓ aL,seval,h12]
            · obtain ⟨r2,hr2e⟩:∃ r2,r2=(gl r).2:=⟨_,rfl⟩
              have hr2:r2.Ok:=by rw [hr2e]; exact (sH hr).1
              have hrb2:r2.b=b:=by rw [hr2e,(sH hr).2,hrb]
              refine ⟨rfl,az (h3 r hr) ?_⟩
              try simp only [I,B,D,RX,aJ,aK,aM,↓ KW,↓ aL,seval,← hr2e]
              refine ⟨rfl,az (h4 r hr) ?_⟩
              try simp only [I,B,D,RX,aJ,aK,aM,↓ KW,↓ aL,seval,← hr2e]
              refine kq (hA _ _) ?_
              try simp only [I,B,D,RX,aJ,aK,aM,↓ KW,↓ aL,seval,EJ,← hr2e]
              have hw2:IntKind.i64.wrap (((b.getD []).length:Int) - r2.dD)=r2.len - r2.dD:=by
                have e:((b.getD []).length:Int)=r2.len:=by rw [← hrb2]; rfl
                obtain ⟨k1,k2,k3⟩:=hr2
                rw [e]; exact gm (by omega) (by omega)
              refine IP [1,9,21] rfl ?_
              try simp only [I,B,D,RX,aJ,aK,aM,↓ KW,↓ aL,seval,aU.cells]
              refine ⟨rfl,ke (h7 r2) ?_⟩
              try simp only [I,B,D,RX,aJ,aK,aM,↓ KW,↓ aL,seval,aU.cells,bne_self_eq_false]
              refine ⟨rfl,ke (h8 r2 hr2) ?_⟩
              try simp only [I,B,D,RX,aJ,aK,aM,↓ KW,↓ aL,seval,aU.cells,bne_self_eq_false,hw2]
              refine ⟨rfl,ke (h9 r2) ?_⟩
              try simp only [I,B,D,RX,aJ,aK,aM,↓ KW,↓ aL,seval,aU.cells,aU.fault,bne_self_eq_false,hw2,mF]
              refine back (i + 1,r2) _ ⟨by show i + 1≤L.length; omega,hr2,hrb2⟩ (by show L.length - (i + 1) < L.length - i; omega) ?_
              refine ah (by decide) ?_ ?_ ?_ ?_<;>simp [LX,I,B,D,hw,aU.cells]
            · obtain ⟨r2,hr2e⟩:∃ r2,r2=(Au r).2:=⟨_,rfl⟩
              have hr2:r2.Ok:=by rw [hr2e]; exact (FO hr).1
              have hrb2:r2.b=b:=by rw [hr2e,(FO hr).2,hrb]
              refine ⟨rfl,az (h5 r hr) ?_⟩
              try simp only [I,B,D,RX,aJ,aK,aM,↓ KW,↓ aL,seval,← hr2e]
              refine ⟨rfl,az (h6 r hr) ?_⟩
              try simp only [I,B,D,RX,aJ,aK,aM,↓ KW,↓ aL,seval,← hr2e,bne_self_eq_false]
              have hw2:IntKind.i64.wrap (((b.getD []).length:Int) - r2.dD)=r2.len - r2.dD:=by
                have e:((b.getD []).length:Int)=r2.len:=by rw [← hrb2]; rfl
                obtain ⟨k1,k2,k3⟩:=hr2
                rw [e]; exact gm (by omega) (by omega)
              refine IP [1,9,21] rfl ?_
              try simp only [I,B,D,RX,aJ,aK,aM,↓ KW,↓ aL,seval,aU.cells]
              refine ⟨rfl,ke (h7 r2) ?_⟩
              try simp only [I,B,D,RX,aJ,aK,aM,↓ KW,↓ aL,seval,aU.cells,bne_self_eq_false]
              refine ⟨rfl,ke (h8 r2 hr2) ?_⟩
              try simp only [I,B,D,RX,aJ,aK,aM,↓ KW,↓ aL,seval,aU.cells,bne_self_eq_false,hw2]
              refine ⟨rfl,ke (h9 r2) ?_⟩
              try simp only [I,B,D,RX,aJ,aK,aM,↓ KW,↓ aL,seval,aU.cells,aU.fault,bne_self_eq_false,hw2,mF]
              refine back (i + 1,r2) _ ⟨by show i + 1≤L.length; omega,hr2,hrb2⟩ (by show L.length - (i + 1) < L.length - i; omega) ?_
              refine ah (by decide) ?_ ?_ ?_ ?_<;>simp [LX,I,B,D,hw,aU.cells]
        · refine kq (hW) ?_
          try simp only [I,B,D,RX,aJ,aK,aM,↓ KW,↓ aL,seval]
      · refine ah (by decide) ?_ ?_ ?_ ?_<;>simp [LX,I,B,D,aU.cells]
end
def Dt.Spec(C:bz) (f:Nat):Prop:=∀(b:Option (List Int)) (n lo hi:Int),C.c f [aF gk b,I n,I lo,I hi] (B true) none
theorem dead{r:aU} (h:r.code≠0):(∀s lo hi,eP r s lo hi=(0,r))/\gl r=(0,r)/\Au r=(false,r):=by
 have h1:∀s lo hi,eP r s lo hi=(0,r):=fun s lo hi=>by simp[eP,h,aU.fail]
 exact⟨h1,by simp[gl,h,aU.fail],by simp[Au,h1]⟩
theorem XE:(true !=false)=true:=rfl
theorem Q9(v:Int):0<=place v 8/\place v 8<8:=by
 have h:=Int.tmod_lt_of_pos v (b:=8) (by omega)
 have h3:-8<v.tmod 8:=by have:=Int.lt_tmod_of_pos v (b:=8) (by omega);omega
 simp only[place];split
 ·rw[bV,br (by omega) (by omega)];omega
 ·omega
section
variable{P:Program} (hm:P.follows .mixedOrders=true) {f:Nat}
include hm
theorem Dt.ok {fW fN fP f1 f9 f7 f3 f5 f8:Nat} (hc:iC true P f=some (nS fW fN fP f1 f9 f7 f3 f5 f8)) (hW:x3.Spec (Pure P) fW) (hN:Dp.Spec (Pure P) fN) (hP:Place.Spec (Pure P) fP)
    (h1:BY.Spec (Pure P) f1) (h9:uo.Spec (Pure P) f9) (h7:No.Spec (Pure P) f7) (h3:uq.Spec (Pure P) f3) (h5:zx.Spec (Pure P) f5) (h8:xA.Spec (Pure P) f8):Dt.Spec (Pure P) f:=by
  intro b n lo hi
  refine aC hm hc (by show 4≤132; decide) (ay (keep:=[]) (i:=0) ?_)
  try simp only [I,B,D,RX,aJ,aK,aM,↓ KW,↓ aL,seval,nS,Z.H]
  refine aq (fun h=>?_) (fun h=>?_)<;>try simp only [I,B,D,RX,aJ,aK,aM,↓ KW,↓ aL,seval,h]
  · refine kq (hW) ?_
    try simp only [I,B,D,RX,aJ,aK,aM,↓ KW,↓ aL,seval]
  · have hb:(b.getD []).length≤60:=by have:=of_decide_eq_false h; omega
    refine jT (hN b (by omega)) ?_
    try simp only [I,B,D,RX,aJ,aK,aM,↓ KW,↓ aL,seval,aU.cells]
    obtain ⟨k,hk⟩:∃ k,k=place n 8:=⟨_,rfl⟩
    have hk8:0≤k∧k≤7:=by
      rw [hk]; have:=Q9 n; omega
    refine kq (hP n 8 (by omega)) ?_
    try simp only [I,B,D,RX,aJ,aK,aM,↓ KW,↓ aL,seval,← hk]
    have hcut:jJ k 0 7=k:=by unfold jJ; split<;>(try split)<;>omega
    have hok:(aU.mk b 0 0 0).Ok:=EP (by omega)
    have e00:Ux 0 0=true:=by decide +kernel
    have e0l:((b.getD []).length:Int) - 0=((b.getD []).length:Int):=by omega
    have hlen:(aU.mk b 0 0 0).len=((b.getD []).length:Int):=rfl
    have c1:=h1 ⟨b,0,0,0⟩ k lo hi hok
    by_cases hn:k≤((b.getD []).length:Int)
    · obtain ⟨v,hv⟩:∃ v,v=IntKind.i64.wrap (eH ((aU.mk b 0 0 0).part k)):=⟨_,rfl⟩
      have hg1:decide (((b.getD []).length:Int) < k)=false:=by simp; omega
      by_cases hbad:v < lo∨hi < v
      · have hR:eP ⟨b,0,0,0⟩ k lo hi=(0,⟨b,0,4,0⟩):=by simp [eP,hcut,hlen,hn,← hv,hbad,aU.fail]
        rw [hR] at c1
        obtain ⟨d1,d2,d3⟩:=dead (r:=⟨b,0,4,0⟩) (show (4:Int)≠0 by decide)
        have hok4:(aU.mk b 0 4 0).Ok:=hok
        have c2:=h1 ⟨b,0,4,0⟩ 1 0 255 hok4
        have c3:=h3 ⟨b,0,4,0⟩ hok4
        have c5:=h5 ⟨b,0,4,0⟩ hok4
        have c8:=h8 ⟨b,0,4,0⟩ hok4
        rw [d1] at c2
        rw [d2] at c3
        rw [d3] at c5
        refine ⟨rfl,az (c1) ?_⟩
        try simp only [I,B,D,RX,aJ,aK,aM,↓ KW,↓ aL,seval,aU.cells]
        refine ⟨rfl,az (h9 ⟨b,0,4,0⟩) ?_⟩
        try simp only [I,B,D,RX,aJ,aK,aM,↓ KW,↓ aL,seval,aU.cells,aU.fault]
        refine ⟨rfl,az (c2) ?_⟩
        try simp only [I,B,D,RX,aJ,aK,aM,↓ KW,↓ aL,seval,aU.cells]
        refine ⟨rfl,az (c3) ?_⟩
        try simp only [I,B,D,RX,aJ,aK,aM,↓ KW,↓ aL,seval,aU.cells,Dj,e00]
        refine ⟨rfl,az (c5) ?_⟩
        try simp only [I,B,D,RX,aJ,aK,aM,↓ KW,↓ aL,seval,aU.cells]
        refine ⟨rfl,az (h7 ⟨b,0,4,0⟩) ?_⟩
        try simp only [I,B,D,RX,aJ,aK,aM,↓ KW,↓ aL,seval,aU.cells]
        refine ⟨rfl,az (c8) ?_⟩
        try simp only [I,B,D,RX,aJ,aK,aM,↓ KW,↓ aL,seval,aU.cells,aU.len,e0l,beq_self_eq_true]
        refine qf rfl ?_
        try simp only [I,B,D,RX,aJ,aK,aM,↓ KW,↓ aL,seval,aU.cells]
        refine bB (fun g5=>?_) (fun g5=>?_)<;>try simp only [I,B,D,RX,aJ,aK,aM,↓ KW,↓ aL,seval,g5]
        · refine ⟨rfl,ax (h9 ⟨b,0,4,0⟩) ?_⟩
          try simp only [I,B,D,RX,aJ,aK,aM,↓ KW,↓ aL,seval,aU.cells,aU.fault,mF,XE]
          refine ai (hW) ?_
          try simp only [I,B,D,RX,aJ,aK,aM,↓ KW,↓ aL,seval]
        · exfalso; have:=of_decide_eq_false g5; omega
      · have hR:eP ⟨b,0,0,0⟩ k lo hi=(v,⟨b,k,0,0⟩):=by simp [eP,hcut,hlen,hn,← hv,hbad]
        rw [hR] at c1
        refine ⟨rfl,az (c1) ?_⟩
        try simp only [I,B,D,RX,aJ,aK,aM,↓ KW,↓ aL,seval,aU.cells]
        refine ⟨rfl,az (h9 ⟨b,k,0,0⟩) ?_⟩
        try simp only [I,B,D,RX,aJ,aK,aM,↓ KW,↓ aL,seval,aU.cells,aU.fault]
        have e1:decide (lo≤v)=true:=by simp; omega
        have e2:decide (v≤hi)=true:=by simp; omega
        refine bB (fun g1=>?_) (fun g1=>?_)<;>try simp only [I,B,D,RX,aJ,aK,aM,↓ KW,↓ aL,seval,g1]
        · refine bB (fun g2=>?_) (fun g2=>?_)<;>try simp only [I,B,D,RX,aJ,aK,aM,↓ KW,↓ aL,seval,g2]
          · refine ⟨rfl,az (h7 ⟨b,k,0,0⟩) ?_⟩
            try simp only [I,B,D,RX,aJ,aK,aM,↓ KW,↓ aL,seval,aU.cells,beq_self_eq_true]
            refine bB (fun g3=>?_) (fun g3=>?_)<;>try simp only [I,B,D,RX,aJ,aK,aM,↓ KW,↓ aL,seval,g3]
            · refine kq (hW) ?_
              try simp only [I,B,D,RX,aJ,aK,aM,↓ KW,↓ aL,seval]
            · exfalso; have:=of_decide_eq_false g3; omega
          · exfalso; have:=of_decide_eq_false g2; omega
        · exfalso; have:=of_decide_eq_false g1; omega
    · have hR:eP ⟨b,0,0,0⟩ k lo hi=(0,⟨b,0,2,((b.getD []).length:Int)⟩):=by simp [eP,hcut,hlen,hn,aU.fail]
      rw [hR] at c1
      have hg1:decide (((b.getD []).length:Int) < k)=true:=by simp; omega
      refine ⟨rfl,az (c1) ?_⟩
      try simp only [I,B,D,RX,aJ,aK,aM,↓ KW,↓ aL,seval,aU.cells]
      refine ⟨rfl,az (h9 ⟨b,0,2,((b.getD []).length:Int)⟩) ?_⟩
      try simp only [I,B,D,RX,aJ,aK,aM,↓ KW,↓ aL,seval,aU.cells,aU.fault,beq_self_eq_true]
      refine bB (fun g1=>?_) (fun g1=>?_)<;>try simp only [I,B,D,RX,aJ,aK,aM,↓ KW,↓ aL,seval,g1]
      · obtain ⟨d1,d2,d3⟩:=dead (r:=⟨b,0,2,((b.getD []).length:Int)⟩) (show (2:Int)≠0 by decide)
        have hok2:(aU.mk b 0 2 ((b.getD []).length:Int)).Ok:=hok
        have c2:=h1 ⟨b,0,2,((b.getD []).length:Int)⟩ 1 0 255 hok2
        have c3:=h3 ⟨b,0,2,((b.getD []).length:Int)⟩ hok2
        have c5:=h5 ⟨b,0,2,((b.getD []).length:Int)⟩ hok2
        have c8:=h8 ⟨b,0,2,((b.getD []).length:Int)⟩ hok2
        rw [d1] at c2
        rw [d2] at c3
        rw [d3] at c5
        refine ⟨rfl,az (c2) ?_⟩
        try simp only [I,B,D,RX,aJ,aK,aM,↓ KW,↓ aL,seval,aU.cells]
        refine ⟨rfl,az (c3) ?_⟩
        try simp only [I,B,D,RX,aJ,aK,aM,↓ KW,↓ aL,seval,aU.cells,Dj,e00]
        refine ⟨rfl,az (c5) ?_⟩
        try simp only [I,B,D,RX,aJ,aK,aM,↓ KW,↓ aL,seval,aU.cells]
        refine ⟨rfl,az (h7 ⟨b,0,2,((b.getD []).length:Int)⟩) ?_⟩
        try simp only [I,B,D,RX,aJ,aK,aM,↓ KW,↓ aL,seval,aU.cells]
        refine ⟨rfl,az (c8) ?_⟩
        try simp only [I,B,D,RX,aJ,aK,aM,↓ KW,↓ aL,seval,aU.cells,aU.len,e0l,beq_self_eq_true]
        refine qf rfl ?_
        try simp only [I,B,D,RX,aJ,aK,aM,↓ KW,↓ aL,seval,aU.cells]
        refine ⟨rfl,ax (h9 ⟨b,0,2,((b.getD []).length:Int)⟩) ?_⟩
        try simp only [I,B,D,RX,aJ,aK,aM,↓ KW,↓ aL,seval,aU.cells,aU.fault,mF,XE]
        refine ai (hW) ?_
        try simp only [I,B,D,RX,aJ,aK,aM,↓ KW,↓ aL,seval]
      · exfalso; have:=of_decide_eq_false g1; omega
end
theorem Du(n:Int):IntKind.u64.wrap n=n%18446744073709551616:=rfl
theorem FP(n:Int):IntKind.u8.wrap n=n%256:=rfl
theorem vu{v c:Int} (hv:0<=v) (hv2:v<72057594037927936) (hc:0<=c) (hc2:c<256):jw v c=v*256+c:=by
 unfold jw K0
 have e1:IntKind.u64.wrap (v*2^min 8 IntKind.u64.bits)=v*256:=by
  show(v*2^8)%18446744073709551616=_
  omega
 have e2:IntKind.u64.wrap c=c:=by show c%18446744073709551616=_;omega
 rw[e1,e2];obtain⟨m,rfl⟩:=Int.eq_ofNat_of_zero_le hv;obtain⟨d,rfl⟩:=Int.eq_ofNat_of_zero_le hc
 have a1:(BitVec.ofInt 64 ((m:Int)*256)).toNat=m<<<8:=by
  rw[BitVec.toNat_ofInt,Nat.shiftLeft_eq]
  show((m:Int)*256%18446744073709551616).toNat=m*256
  omega
 have a2:(BitVec.ofInt 64 (d:Int)).toNat=d:=by
  rw[BitVec.toNat_ofInt]
  show((d:Int)%18446744073709551616).toNat=d
  omega
 show IntKind.u64.wrap ((BitVec.ofInt 64 ((m:Int)*256)|||BitVec.ofInt 64 (d:Int)).toNat:Int)=_
 rw[BitVec.toNat_or,a1,a2,<-Nat.shiftLeft_add_eq_or_of_lt (show d<2^8 by omega),Du,Nat.shiftLeft_eq]
 omega
theorem ur:∀k:Nat,0<(256:Int)^k
 |0=>by decide
 |k+1=>by have:=ur k;rw[Int.pow_succ];omega
theorem nr(n:Int) (k:Nat):gY n k=n/256^k%256:=by
 unfold gY;rw[FP]
 have:n.fdiv (2^(8*k))=n/256^k:=by
  rw[show(2:Int)^(8*k)=256^k by rw[Int.pow_mul];rfl]
  exact Int.fdiv_eq_ediv_of_nonneg _ (Int.le_of_lt (ur k))
 rw[this]
theorem zB(n:Int) (k:Nat):n/256^k%256*256^k+n%256^k=n%256^(k+1):=by
 have hp:=ur k
 rw[Int.pow_succ];generalize(256:Int)^k=b at hp⊢
 have h1:=Int.emod_add_mul_ediv n b
 have h2:=Int.emod_add_mul_ediv (n/b) 256
 have h3:=Int.emod_nonneg n (Int.ne_of_gt hp)
 have h4:=Int.emod_lt_of_pos n hp
 have h5:0<=n/b%256:=by omega
 have h6:n/b%256<=255:=by omega
 have h7:b*(n/b%256)<=b*255:=Int.mul_le_mul_of_nonneg_left h6 (by omega)
 have h8:0<=b*(n/b%256):=Int.mul_nonneg (by omega) h5
 have h9:n=(b*(n/b%256)+n%b)+(b*256)*(n/b/256):=by
  have:b*(n/b)=b*(n/b%256)+b*256*(n/b/256):=by
   rw[Int.mul_assoc,<-Int.mul_add,h2]
  omega
 have h10:n%(b*256)=b*(n/b%256)+n%b:=by
  rw[h9,Int.add_mul_emod_self_left];rw[<-h9]
  exact Int.emod_eq_of_lt (by omega) (by omega)
 rw[h10,Int.mul_comm b]
theorem Dv(n:Int):∀(k:Nat) (v:Int),0<=v->v*256^k+256^k<=18446744073709551616->(gV n k).foldl jw v=v*256^k+n%256^k
 |0,v,_,_=>by simp[gV,Int.emod_one]
 |k+1,v,hv,hb=>by
  have hp:=ur k
  have hm:=zB n k
  rw[Int.pow_succ]at hb hm⊢
  have hb1:0<=gY n k:=by rw[nr];omega
  have hb2:gY n k<256:=by rw[nr];omega
  have hby:=nr n k
  have ih:=Dv n k
  have e0:(gV n (k+1)).foldl jw v=(gV n k).foldl jw (jw v (gY n k)):=rfl
  rw[e0];generalize(256:Int)^k=b at hp hm hb hby ih⊢;generalize gY n k=c at hb1 hb2 hby ih⊢
  have h1:v*256<=v*(b*256):=Int.mul_le_mul_of_nonneg_left (by omega) hv
  have h2:(c+1)*b<=256*b:=Int.mul_le_mul_of_nonneg_right (by omega) (by omega)
  have e1:(v*256+c)*b=v*(b*256)+c*b:=by rw[Int.add_mul,Int.mul_assoc,Int.mul_comm 256 b]
  have e2:(c+1)*b=c*b+b:=by rw[Int.add_mul,Int.one_mul]
  have h3:v<72057594037927936:=by omega
  rw[vu hv h3 hb1 hb2,ih _ (by omega) (by omega),<-hm,<-hby]
  omega
theorem Dw(n:Int) (k:Nat) (hk:k<=8):eH (gV n k)=n%256^k:=by
 unfold eH
 rw[Dv n k 0 (by omega) ?_]
 ·simp
 ·have:k=0\/k=1\/k=2\/k=3\/k=4\/k=5\/k=6\/k=7\/k=8:=by omega
  rcases this with rfl|rfl|rfl|rfl|rfl|rfl|rfl|rfl|rfl<;>decide
def mb(t:Tb) (p q:Int):Int:=if gz t p q then jd (N0 [p]) q else N0 [p]
def with.Spec(C:bz) (f:Nat):Prop:=∀(t:Tb) (p q:Int),t.Ok->C.c f [.agg t.cells,I p,I q] (I (mb t p q)) none
theorem Ra(k:FloatKind) (x y:Nat):ep .mul (.float k x) (.float k y)=Ed k (k.format.mul x y):=by simp[ep,yh]
theorem JA(k:FloatKind) (x y:Nat):ep .quo (.float k x) (.float k y)=Ed k (k.format.div x y):=by simp[ep,yh]
theorem Rb(k:FloatKind) (r:Nat):Ed k (some r)=some (.float k r):=by cases k<;>rfl
theorem N9(k:FloatKind) (k':IntKind) (n:Int):yj k (.int k' n)=some (.float k (k.nearest n)):=rfl
theorem aQ(l:Option (List Int)) (i:Int) {n:Int} (h:0<n) (hn:n<=4294967296):0<=bO l i n/\bO l i n<n:=by
 simp only[bO,place]
 have h1:=Int.tmod_lt_of_pos (Qi l i) h
 have h2:=Int.lt_tmod_of_pos (Qi l i) h
 split
 ·rw[bV,br (by omega) (by omega)];omega
 ·omega
def vv(n:Int):Nat:=(FloatKind.f64.format.div (FloatKind.f64.nearest n) 4621819117588971520).getD 0
theorem zC:∀n:Nat,n<6->FloatKind.f64.format.div (FloatKind.f64.nearest (n:Int)) 4621819117588971520=some (vv n):=by decide+kernel
def tL(k:Int):Nat:=[4617315517961601024,4621819117588971520,4607182418800017408,4602678819172646912].getD k.toNat 0
def zD(k:Int):Nat:=[4602678819172646912,4607182418800017408,4598175219545276416].getD k.toNat 0
def rH(j k:Int):Nat:=(FloatKind.f64.format.mul (tL j) (zD k)).getD 0
theorem Dx:∀j:Nat,j<4->∀k:Nat,k<3->FloatKind.f64.format.mul (tL j) (zD k)=some (rH j k):=by decide+kernel
def iP(l:Option (List Int)) (i n:Int):gu where
 phase:=bO l i n
 on:=tL (bO l (bV (i+1)) 4)
 off:=rH (bO l (bV (i+1)) 4) (bO l (bV (i+2)) 3)
 delay:=vv (bO l (bV (i+3)) 4)
 extend:=vv (bO l (bV (i+4)) 6)
 maxOn:=if bO l (bV (i+5)) 3==1 then bV (20+bO l (bV (i+6)) 60)else 0
 kg:=if bO l (bV (i+5)) 9==2 then bV (60+bO l (bV (i+7)) 300)else 0
def rI.Spec(C:bz) (f:Nat):Prop:=∀(l:Option (List Int)) (i n:Int),0<n->C.c f [aF aD l,I i,I n] (.agg (iP l i n).cells) none
section
variable{P:Program} (hm:P.follows .mixedOrders=true) {f:Nat}
include hm
theorem with.ok{e fO fB fW:Nat} (hc:cZ P f=some (od e fO fB fW)) (hO:zb.Spec (Pure P) fO) (hB:beside.Spec (Pure P) fB) (hW:sD.Spec (Pure P) fW):with.Spec (Pure P) f:=by
 intro t p q ht
 have hl:=Tb.len ht
 have hp:=Tb.whole ht
 refine aC hm hc (by show 3<=19;decide) (ay (keep:=[]) (i:=0) ?_)
 try simp only[I,B,D,RX,↓KW,seval,od,Z.H,hp,hl]
 refine ai (hO (some [_]) (by simp)) ?_
 try simp only[I,B,D,RX,↓KW,seval,hp]
 refine ai (hB t _ _ ht) ?_;try simp only[I,B,D,RX,↓KW,seval]
 repeat' (first|(refine ai (hW _ _) ?_;try simp only[I,B,D,RX,↓KW,seval])|(((first|refine bB ?_ ?_|refine aq ?_ ?_|refine cO ?_ ?_)<;>intro h)<;>try simp only[I,B,D,RX,↓KW,seval,h]))
 all_goals simp_all [mb]
theorem rI.ok{fF:Nat} (hc:cZ P f=some (nQ fF)) (hF:from.Spec (Pure P) fF):rI.Spec (Pure P) f:=by
 intro l i n hn
 refine aC hm hc (by show 3<=66;decide) (ay (keep:=[]) (i:=0) ?_)
 try simp only[I,B,D,RX,↓KW,seval,nQ,Z.H]
 refine ai (hF _ _ _ hn) ?_;try simp only[I,B,D,RX,↓KW,seval]
 refine ai (hF _ _ _ (by decide)) ?_
 try simp only[I,B,D,RX,↓KW,seval]
 have h1:=aQ l (bV (i+1)) (n:=4) (by decide) (by decide)
 have h2:=aQ l (bV (i+2)) (n:=3) (by decide) (by decide)
 have h3:=aQ l (bV (i+3)) (n:=4) (by decide) (by decide)
 have h4:=aQ l (bV (i+4)) (n:=6) (by decide) (by decide)
 have e1:[AV.float FloatKind.f64 4617315517961601024,AV.float FloatKind.f64 4621819117588971520,AV.float FloatKind.f64 4607182418800017408,AV.float FloatKind.f64 4602678819172646912][(bO l (bV (i+1)) 4).toNat]? =some (.float .f64 (tL (bO l (bV (i+1)) 4))):=by
  generalize bO l (bV (i+1)) 4=j at*
  have:j=0\/j=1\/j=2\/j=3:=by omega
  rcases this with rfl|rfl|rfl|rfl<;>rfl
 have e2:[AV.float FloatKind.f64 4602678819172646912,AV.float FloatKind.f64 4607182418800017408,AV.float FloatKind.f64 4598175219545276416][(bO l (bV (i+2)) 3).toNat]? =some (.float .f64 (zD (bO l (bV (i+2)) 3))):=by
  generalize bO l (bV (i+2)) 3=j at*
  have:j=0\/j=1\/j=2:=by omega
  rcases this with rfl|rfl|rfl<;>rfl
 have e3:=Dx (bO l (bV (i+1)) 4).toNat (by omega) (bO l (bV (i+2)) 3).toNat (by omega)
 have e4:=zC (bO l (bV (i+3)) 4).toNat (by omega)
 have e5:=zC (bO l (bV (i+4)) 6).toNat (by omega)
 simp only[Int.toNat_of_nonneg h1.1,Int.toNat_of_nonneg h2.1]at e3;simp only[Int.toNat_of_nonneg h3.1]at e4;simp only[Int.toNat_of_nonneg h4.1]at e5;simp only[bV]at e1 e2 e3 e4 e5 h1 h2 h3 h4
 refine⟨by omega,?_⟩
 try simp only[I,B,D,RX,↓KW,seval,e1]
 refine ai (hF l _ 3 (by decide)) ?_
 try simp only[I,B,D,RX,↓KW,seval]
 refine⟨by omega,?_⟩
 try simp only[I,B,D,RX,↓KW,seval,e2,Rb,Ra,e3]
 refine ai (hF _ _ _ (by decide)) ?_
 try simp only[I,B,D,RX,↓KW,seval,N9,Rb,JA,e4]
 refine ai (hF _ _ _ (by decide)) ?_
 try simp only[I,B,D,RX,↓KW,seval,N9,Rb,JA,e5]
 repeat' (first|(refine ai (hF _ _ _ (by decide)) ?_;try simp only[I,B,D,RX,↓KW,seval])|(((first|refine bB ?_ ?_|refine aq ?_ ?_|refine cO ?_ ?_)<;>intro h)<;>try simp only[I,B,D,RX,↓KW,seval,h]))
 all_goals simp_all [iP,gu.cells,bV]
def oh (t:Tb) (l:Option (List Int)) (i n:Int):Rl :=
  let p:=bO l (bV (i + 4)) (bV (n + 1))
  let ki:=mb t (bO l i n) (bO l (bV (i + 1)) n)
  let stay:=bV (1 + bO l (bV (i + 11)) 15)
  let delay:=bO l (bV (i + 8)) 4
  { bars:=nP .i64 (oa .i64 (bO l (bV (i + 7)) 256) (bV (bV (1 * 2 ^ min (IntKind.u64.wrap n).toNat 64) - 1))) ki
    clear:=if p < n then mb t p (bO l (bV (i + 5)) n) else 0
    ki:=ki
    exit:=mb t (bO l (bV (i + 2)) n) (bO l (bV (i + 3)) n)
    delay:=delay
    green:=bV (1 + bO l (bV (i + 9)) 6)
    lU:=bO l (bV (i + 10)) 6
    hold:=if p < n then bV (1 + bO l (bV (i + 6)) 10) else 0
    stay:=stay
    most:=if bO l (bV (i + 12)) 3 == 1 then bV (stay + bO l (bV (i + 13)) 30) else 0
    limit:=bV (bV (delay + 1) + [10000,400,20].getD (bO l (bV (i + 14)) 3).toNat 0) }
def JB.Spec(C:bz) (f:Nat):Prop:=∀(t:Tb) (l:Option (List Int)) (i n:Int),t.Ok->0<n->n<=8->C.c f [.agg t.cells,aF aD l,I i,I n] (.agg (oh t l i n).cells) none
theorem JB.ok{fF fW:Nat} (hc:cZ P f=some (tE fF fW)) (hF:from.Spec (Pure P) fF) (hW:with.Spec (Pure P) fW):JB.Spec (Pure P) f:=by
 intro t l i n ht hn hn8
 have hl:=Tb.len ht
 have hp:=Tb.whole ht
 have hn1:IntKind.i64.wrap (n+1)=n+1:=br (by omega) (by omega)
 refine aC hm hc (by show 4<=119;decide) (ay (keep:=[]) (i:=0) ?_)
 try simp only[I,B,D,RX,↓KW,seval,tE,Z.H,hp,hl,ei]
 refine ai (hF _ _ _ hn) ?_;try simp only[I,B,D,RX,↓KW,seval,hp]
 refine ai (hF _ _ _ hn) ?_;try simp only[I,B,D,RX,↓KW,seval,hp]
 refine ai (hW t _ _ ht) ?_;try simp only[I,B,D,RX,↓KW,seval,hp]
 refine ai (hF _ _ _ hn) ?_;try simp only[I,B,D,RX,↓KW,seval,hp]
 refine ai (hF _ _ _ hn) ?_;try simp only[I,B,D,RX,↓KW,seval,hp]
 refine ai (hW t _ _ ht) ?_;try simp only[I,B,D,RX,↓KW,seval,hp]
 refine ai (hF _ _ _ (by omega)) ?_
 try simp only[I,B,D,RX,↓KW,seval,hp]
 have h14:=aQ l (bV (i+14)) (n:=3) (by decide) (by decide)
 have e14:[AV.int .i64 10000,AV.int .i64 400,AV.int .i64 20][(bO l (bV (i+14)) 3).toNat]? =some (.int .i64 ([10000,400,20].getD (bO l (bV (i+14)) 3).toNat 0)):=by
  generalize bO l (bV (i+14)) 3=j at*
  have:j=0\/j=1\/j=2:=by omega
  rcases this with rfl|rfl|rfl<;>rfl
 have hu:0<=IntKind.u64.wrap n:=by rw[IntKind.wrap];simp[IntKind.signed];omega
 simp only[bV]at e14 h14
 refine aq (fun h=>?_) (fun h=>?_)<;>try simp only[I,B,D,RX,↓KW,seval,hp,h]
 ·repeat' (first|((first|refine ai (hF _ _ _ hn) ?_|refine ai (hF _ _ _ (by decide)) ?_|refine ai (hW t _ _ ht) ?_);try simp only[I,B,D,RX,↓KW,seval,hp])|(((first|refine bB ?_ ?_|refine aq ?_ ?_|refine cO ?_ ?_)<;>intro h)<;>try simp only[I,B,D,RX,↓KW,seval,hp,h]))
  refine⟨hu,?_⟩
  repeat' (first|((first|refine ai (hF _ _ _ hn) ?_|refine ai (hF _ _ _ (by decide)) ?_|refine ai (hW t _ _ ht) ?_);try simp only[I,B,D,RX,↓KW,seval,hp])|(((first|refine bB ?_ ?_|refine aq ?_ ?_|refine cO ?_ ?_)<;>intro h)<;>try simp only[I,B,D,RX,↓KW,seval,hp,h]))
  all_goals refine⟨by omega,?_⟩
  all_goals try simp only[I,B,D,RX,↓KW,seval,e14,hp]
  all_goals simp_all [oh,Rl.cells,bV,IntKind.bits]
 ·repeat' (first|((first|refine ai (hF _ _ _ hn) ?_|refine ai (hF _ _ _ (by decide)) ?_|refine ai (hW t _ _ ht) ?_);try simp only[I,B,D,RX,↓KW,seval,hp])|(((first|refine bB ?_ ?_|refine aq ?_ ?_|refine cO ?_ ?_)<;>intro h)<;>try simp only[I,B,D,RX,↓KW,seval,hp,h]))
  refine⟨hu,?_⟩
  repeat' (first|((first|refine ai (hF _ _ _ hn) ?_|refine ai (hF _ _ _ (by decide)) ?_|refine ai (hW t _ _ ht) ?_);try simp only[I,B,D,RX,↓KW,seval,hp])|(((first|refine bB ?_ ?_|refine aq ?_ ?_|refine cO ?_ ?_)<;>intro h)<;>try simp only[I,B,D,RX,↓KW,seval,hp,h]))
  all_goals refine⟨by omega,?_⟩
  all_goals try simp only[I,B,D,RX,↓KW,seval,e14,hp]
  all_goals simp_all [oh,Rl.cells,bV,IntKind.bits]
  all_goals exact⟨fun _=>by omega,fun _=>by omega⟩
end
structure Tb.Ln (t:Tb):Prop where
 phases:t.phases.length=8
 conflict:t.conflict.length=8
 bq:t.bq.length=8
theorem Tb.Ok.ln{t:Tb} (h:t.Ok):t.Ln:=⟨h.phases,h.conflict,h.bq⟩
section
variable{t:Tb} (h:t.Ln)
include h
theorem Tb.Ln.len:t.cells.length=131:=by
 simp[Tb.cells,aX Ph.len,h.phases,h.conflict,h.bq]
theorem Tb.Ln.whole:bG t.cells 0 (some 131)=some (.agg t.cells):=by
 have hl:=h.len
 rw[iF _ _ _ (by omega),List.drop_zero,<-hl,List.take_length]
theorem Tb.Ln.zE:t.cells[113]? =some (aF gu.cells t.aA):=by
 simp[Tb.cells,List.getElem?_append,aX Ph.len,h.phases,h.conflict,h.bq,List.getElem?_cons]
theorem Tb.Ln.xB:t.cells[114]? =some (aF Rl.cells t.aV):=by
 simp[Tb.cells,List.getElem?_append,aX Ph.len,h.phases,h.conflict,h.bq,List.getElem?_cons]
theorem Tb.Ln.zF:t.cells[115]? =some (aF Bs.cells t.bl):=by
 simp[Tb.cells,List.getElem?_append,aX Ph.len,h.phases,h.conflict,h.bq,List.getElem?_cons]
theorem Tb.Ln.Vl:t.cells[129]? =some (I t.dw):=by
 simp[Tb.cells,List.getElem?_append,aX Ph.len,h.phases,h.conflict,h.bq,List.getElem?_cons]
theorem Tb.Ln.rm{i:Nat} {c:Int} (hc:t.conflict[i]? =some c):t.cells[105+i]? =some (I c):=by
 have hi:i<8:=by have:=(List.getElem?_eq_some_iff.1 hc).1;rw[h.conflict]at this;exact this
 have e:(t.phases.flatMap Ph.cells).length=104:=by rw[aX Ph.len,h.phases]
 unfold Tb.cells
 rw[List.getElem?_append_right (by omega),e,show 105+i-104=i+1 by omega,List.getElem?_cons_succ,List.getElem?_append_left (by simp[h.conflict,hi]),List.getElem?_map,hc];rfl
def Tb.rest(t:Tb):List AV:=aF Gr.cells t.groups::(t.conflict.map I++(aF gu.cells t.aA::aF Rl.cells t.aV::aF Bs.cells t.bl::
  I t.extend::I t.cV::I t.start::I t.revert::I t.least::(t.bq.map I++[I t.dw,I t.share])))
omit h in
theorem bW{pre post ps:List AV} {off:Nat} (hle:pre.length<=off):setCells (pre++post) off ps=pre++setCells post (off-pre.length) ps:=by
 simp only[setCells,List.take_append,List.drop_append,List.append_assoc]
 rw[List.take_of_length_le hle,List.drop_of_length_le (by omega),show off+ps.length-pre.length=off-pre.length+ps.length by omega]
 rfl
omit h in
theorem Dy{pre post ps:List AV} {off:Nat} (hle:off+ps.length<=pre.length):setCells (pre++post) off ps=setCells pre off ps++post:=by
 simp only[setCells]
 rw[List.take_append_of_le_length (by omega),List.drop_append_of_le_length hle]
 simp
omit h in
theorem FQ{l:List Int} {i:Nat} {v:Int} (hi:i<l.length):setCells (l.map I) i [I v]=(l.set i v).map I:=by
 simp only[setCells,List.length_cons,List.length_nil];rw[List.set_eq_take_append_cons_drop,if_pos hi];simp[List.map_take,List.map_drop]
omit h in
theorem fu(c:AV) (cs ps:List AV) (k:Nat):setCells (c::cs) (k+1) ps=c::setCells cs k ps:=by
 simp only[setCells,List.take_succ_cons,List.cons_append,show k+1+ps.length=(k+ps.length)+1 by omega,List.drop_succ_cons]
theorem Tb.Ln.wD{i:Nat} (hi:i<8) (q:Ph):setCells t.cells (i*13) q.cells=({t with phases:=t.phases.set i q}:Tb).cells:=by
 obtain⟨p,hp⟩:∃p,t.phases[i]? =some p:=⟨_,List.getElem?_eq_getElem (by rw[h.phases];exact hi)⟩
 exact Tb.GS hp
theorem Tb.Ln.mG{i:Nat} (hi:i<8) (v:Int):setCells t.cells (105+i) [I v]=({t with conflict:=t.conflict.set i v}:Tb).cells:=by
 have e:(t.phases.flatMap Ph.cells).length=104:=by rw[aX Ph.len,h.phases]
 unfold Tb.cells
 rw[bW (by omega),e,show 105+i-104=i+1 by omega,fu,Dy (by simp[h.conflict];omega),FQ (by rw[h.conflict];exact hi)]
theorem Tb.Ln.sI{i:Nat} (hi:i<8) (v:Int):setCells t.cells (121+i) [I v]=({t with bq:=t.bq.set i v}:Tb).cells:=by
 have e:(t.phases.flatMap Ph.cells).length=104:=by rw[aX Ph.len,h.phases]
 unfold Tb.cells
 rw[bW (by omega),e,show 121+i-104=(i+16)+1 by omega,fu,bW (by simp[h.conflict]),show i+16-(t.conflict.map I).length=i+8 by simp[h.conflict]]
 simp only[fu]
 rw[Dy (by simp[h.bq];omega),FQ (by rw[h.bq];exact hi)]
theorem Tb.Ln.vw(d:Option (List gu)):setCells t.cells 113 [aF gu.cells d]=({t with aA:=d}:Tb).cells:=by
 have e:(t.phases.flatMap Ph.cells).length=104:=by rw[aX Ph.len,h.phases]
 have e2:(t.conflict.map I).length=8:=by simp[h.conflict]
 unfold Tb.cells
 rw[bW (by omega),e,show 113-104=8+1 by omega,fu,bW (by omega),e2]
 rfl
theorem Tb.Ln.wE(d:Option (List Rl)):setCells t.cells 114 [aF Rl.cells d]=({t with aV:=d}:Tb).cells:=by
 have e:(t.phases.flatMap Ph.cells).length=104:=by rw[aX Ph.len,h.phases]
 have e2:(t.conflict.map I).length=8:=by simp[h.conflict]
 unfold Tb.cells
 rw[bW (by omega),e,show 114-104=9+1 by omega,fu,bW (by omega),e2]
 rfl
theorem Tb.Ln.wF(d:Option (List Bs)):setCells t.cells 115 [aF Bs.cells d]=({t with bl:=d}:Tb).cells:=by
 have e:(t.phases.flatMap Ph.cells).length=104:=by rw[aX Ph.len,h.phases]
 have e2:(t.conflict.map I).length=8:=by simp[h.conflict]
 unfold Tb.cells
 rw[bW (by omega),e,show 115-104=10+1 by omega,fu,bW (by omega),e2]
 rfl
theorem Tb.Ln.fy(v:Int):setCells t.cells 116 [I v]=({t with extend:=v}:Tb).cells/\setCells t.cells 117 [I v]=({t with cV:=v}:Tb).cells/\setCells t.cells 118 [I v]=({t with start:=v}:Tb).cells/\
  setCells t.cells 119 [I v]=({t with revert:=v}:Tb).cells/\setCells t.cells 120 [I v]=({t with least:=v}:Tb).cells:=by
 have e:(t.phases.flatMap Ph.cells).length=104:=by rw[aX Ph.len,h.phases]
 have e2:(t.conflict.map I).length=8:=by simp[h.conflict]
 unfold Tb.cells;refine⟨?_,?_,?_,?_,?_⟩
 ·rw[bW (by omega),e,show 116-104=11+1 by omega,fu,bW (by omega),e2];rfl
 ·rw[bW (by omega),e,show 117-104=12+1 by omega,fu,bW (by omega),e2];rfl
 ·rw[bW (by omega),e,show 118-104=13+1 by omega,fu,bW (by omega),e2];rfl
 ·rw[bW (by omega),e,show 119-104=14+1 by omega,fu,bW (by omega),e2];rfl
 ·rw[bW (by omega),e,show 120-104=15+1 by omega,fu,bW (by omega),e2];rfl
theorem Tb.Ln.oO(v:Int):setCells t.cells 129 [I v]=({t with dw:=v}:Tb).cells/\setCells t.cells 130 [I v]=({t with share:=v}:Tb).cells:=by
 have e:(t.phases.flatMap Ph.cells).length=104:=by rw[aX Ph.len,h.phases]
 have e2:(t.conflict.map I).length=8:=by simp[h.conflict]
 have e3:(t.bq.map I).length=8:=by simp[h.bq]
 unfold Tb.cells;refine⟨?_,?_⟩
 ·rw[bW (by omega),e,show 129-104=24+1 by omega,fu,bW (by omega),e2]
  simp only[Nat.reduceSub,fu]
  rw[bW (by omega),e3];rfl
 ·rw[bW (by omega),e,show 130-104=25+1 by omega,fu,bW (by omega),e2]
  simp only[Nat.reduceSub,fu]
  rw[bW (by omega),e3];rfl
end
end Go.Eng
