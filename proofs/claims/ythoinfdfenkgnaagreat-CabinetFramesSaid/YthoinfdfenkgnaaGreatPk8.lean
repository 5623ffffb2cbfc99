/- The engine and the library,part 8 of 12: what the proofs of this seat need of them. -/
import Derived.Test.YthoinfdfenkgnaaGreatPk7
set_option linter.unnecessarySimpa false
set_option linter.unusedSimpArgs false
set_option linter.unusedVariables false
set_option linter.defProp false
set_option maxRecDepth 10000
set_option maxHeartbeats 4000000
namespace Go.Eng
open Go
def gU (t:Tb) (p:Int) (n:Nat):List Int:=ju t (cg t p).1.group :: (List.range n).map fun (g:Nat)=>ju t g
theorem wR (t:Tb) (p:Int) (n:Nat):gU t p (n + 1)=gU t p n++[ju t n]:=by simp [gU,List.range_succ]
def e9 (t:Tb) (n:Nat):List Int:=(List.range n).map fun (k:Nat)=>fZ [kK t k,(nE t k).stay]
theorem wS (t:Tb) (n:Nat):e9 t (n + 1)=e9 t n++[fZ [kK t n,(nE t n).stay]]:=by simp [e9,List.range_succ]
def jb (t:Tb) (l:List Int):List Int:=l.flatMap fun p=>[eP (bn t p).min,fZ [(bn t p).walk,(bn t p).dI]]
theorem qh {t:Tb} {l:List Int} {i:Nat} {x:Int} (h:l[i]? = some x):jb t (l.take (i + 1))=jb t (l.take i)++[eP (bn t x).min,fZ [(bn t x).walk,(bn t x).dI]]:=by rw [fk h]; simp [jb]
theorem xT (t:Tb) (l:List Int):(jb t l).length=l.length * 2:=by
 induction l with
 | nil=>rfl
 | cons x l ih=>simp only [jb,List.flatMap_cons,List.length_append,List.length_cons,List.length_nil] at ih ⊢; omega
def yX (t:Tb):Int:=if (t.aL.getD []).length=0 then 0 else fZ [dB (e9 t (t.aL.getD []).length),dB (jb t (eS (vl t))),gT t,t.revert,30]
def rY.Spec (C:bI) (f:Nat):Prop:=∀ (t:Tb),t.Ok→C.c f [.agg t.cells] (I (yX t)) none
def j0 (t:Tb) (p:Int):Int:=if jZ t p=0∨(t.aL.getD []).length=0 then jZ t p else fZ [K3 (fZ [t.share,1]) (fZ [yX t,jZ t p,2]),t.share]
def wait.Spec (C:bI) (f:Nat):Prop:=∀ (t:Tb) (p:Int),t.Ok→C.c f [.agg t.cells,I p] (I (j0 t p)) none
theorem Rl.len (r:Rl):r.cells.length=11:=rfl
theorem rZ {t:Tb} {k:Int} (h0:0≤k) (h1:k < ((t.aL.getD []).length:Int)):(t.aL.getD [])[k.toNat]? = some (nE t k):=by
 have:k.toNat < (t.aL.getD []).length:=by omega
 simp [nE,this]
section
variable {P:Program} (hm:P.follows .mixedOrders=true) {f:Nat}
include hm
theorem free.ok {fW fO fH fP e fs:Nat} (hc:bU P f=some (jG fW fO fH fP e fs)) (hW:where.Spec (Pure P) fW) (hO:on.Spec (Pure P) fO) (hH:ny.Spec (Pure P) fH) (hP:pass.Spec (Pure P) fP) (hs:ox.Spec (Pure P) fs):free.Spec (Pure P) f:=by
 intro t p ht
 have hl:=Tb.len ht
 have hp:=Tb.whole ht
 have hg:=Tb.pE ht
 have hb:=ht.groups
 refine aD hm hc (by show 2≤44; decide) (aC (keep:=[]) (i:=0) ?_)
 try simp only [I,B,D,RX,↓ KW,seval,jG,Z.H,hp,hl]
 refine aj (hW t _ ht) ?_
 try simp only [I,B,D,RX,↓ KW,seval,hp,Sp.cells]
 by_cases h0:((cg t p).2 && k8 (vl t) p)=true
 ·have hx:jZ t p=fZ (gU t p (t.groups.getD []).length):=if_pos h0
  simp only [Bool.and_eq_true] at h0
  try simp only [I,B,D,RX,↓ KW,seval,h0,hp]
  refine aj (hO t ht) ?_
  try simp only [I,B,D,RX,↓ KW,seval]
  refine aj (hH _ _) ?_
  try simp only [I,B,D,RX,↓ KW,seval,h0,hp]
  refine aj (hP t _ ht) ?_
  try simp only [I,B,D,RX,↓ KW,seval]
  refine aF (fun k:Nat=>(⟨[(8,.dat (I k) none),(2,.ptr 4 0),(7,aH ak (gU t p k) 0)],[(4,⟨t.cells,[]⟩)],aM (gU t p k) 0 e,400⟩:S)) (fun k=>(t.groups.getD []).length - k) (fun k=>k≤(t.groups.getD []).length) ?_ 0 (by omega) ?_
  ·intro k hk A back
   have hw:=aB (k:=k) (by omega)
   have hne:gU t p k≠[]:=by simp [gU]
   have hn:=wR t p k
   have hlen:(gU t p k).length=k + 1:=by simp [gU]
   try simp only [I,B,D,RX,↓ KW,seval,aH,aM,hne,hg]
   refine an (fun h=>?_) (fun h=>?_)<;>try simp only [I,B,D,RX,↓ KW,seval,hp,h]
   ·have:k < (t.groups.getD []).length:=by have:=of_decide_eq_true h; omega
    refine aj (hP t _ ht) ?_
    try simp only [I,B,D,RX,↓ KW,seval]
    refine ⟨by omega,?_⟩
    refine back (k + 1) _ (by omega) (by omega) (ai (by decide) ?_ ?_ ?_ ?_)<;>simp [LX,I,B,D,hn,hw,hne]
   ·have:k=(t.groups.getD []).length:=by have:=of_decide_eq_false h; omega
    subst this
    try simp only [I,B,D,RX,↓ KW,seval]
    refine aj (hs (some (gU t p (t.groups.getD []).length)) (by simp; omega)) ?_
    try simp only [I,B,D,RX,↓ KW,seval,hx]
    rfl
  ·refine ai (by decide) ?_ ?_ ?_ ?_<;>simp [LX,I,B,D,gU]
 ·have hx:jZ t p=0:=if_neg h0
  repeat' (first | ((first | refine aj (hO t ht) ?_ | refine aj (hH _ _) ?_); try simp only [I,B,D,RX,↓ KW,seval,hp,hx]) | (((first | refine aW ?_ ?_ | refine an ?_ ?_ | refine bh ?_ ?_)<;>intro h)<;>try simp only [I,B,D,RX,↓ KW,seval,hp,hx,h]))
  all_goals simp_all
theorem entry.ok {fC e fs:Nat} (hc:bU P f=some (i5 fC e fs)) (hC:clear.Spec (Pure P) fC) (hs:ox.Spec (Pure P) fs):entry.Spec (Pure P) f:=by
 intro t k ht
 have hl:=Tb.len ht
 have hp:=Tb.whole ht
 have hg:=Tb.ja ht
 have h119:=Tb.tail_at ht 3 (by omega)
 refine aD hm hc (by show 2≤50; decide) (aC (keep:=[]) (i:=0) ?_)
 try simp only [I,B,D,RX,↓ KW,seval,i5,Z.H,hp,hl]
 by_cases h0:k < 0∨((t.aL.getD []).length:Int)≤k
 ·have hx:kK t k=0:=if_pos h0
  repeat' (((first | refine aW ?_ ?_ | refine an ?_ ?_ | refine bh ?_ ?_)<;>intro h)<;>try simp only [I,B,D,RX,↓ KW,seval,hg,hx,h])
  simp_all
  omega
 ·have hx:=show kK t k=_ from if_neg h0
  have h1:decide (k < 0)=false:=by simp; omega
  have h2:decide (((t.aL.getD []).length:Int)≤k)=false:=by simp; omega
  have hr:=rZ (t:=t) (k:=k) (by omega) (by omega)
  try simp only [I,B,D,RX,↓ KW,seval,h1,h2,hg]
  refine ⟨by omega,?_⟩
  try simp only [I,B,D,RX,↓ KW,seval,hr,Rl.len,Rl.cells,cN,hp]
  refine aj (hC t ht) ?_
  try simp only [I,B,D,RX,↓ KW,seval,h119]
  refine aj (hs (some [_,_,_,_,_,_,_,_,_,_,_,_,_,_,_,_]) (by simp)) ?_
  try simp only [I,B,D,RX,↓ KW,seval,hx]
  rfl
theorem wait.ok {fF e fs fO fM:Nat} (hc:bU P f=some (jD fF e fs fO fM)) (hF:free.Spec (Pure P) fF) (hs:ox.Spec (Pure P) fs) (hO:rY.Spec (Pure P) fO) (hM:Mul.Spec (Pure P) fM):wait.Spec (Pure P) f:=by
 intro t p ht
 have hl:=Tb.len ht
 have hp:=Tb.whole ht
 have hg:=Tb.ja ht
 have h130:=Tb.ov ht
 refine aD hm hc (by show 2≤32; decide) (aC (keep:=[]) (i:=0) ?_)
 try simp only [I,B,D,RX,↓ KW,seval,jD,Z.H,hp,hl]
 refine aj (hF t _ ht) ?_
 try simp only [I,B,D,RX,↓ KW,seval,hg]
 by_cases h0:jZ t p=0∨(t.aL.getD []).length=0
 ·have hx:j0 t p=jZ t p:=if_pos h0
  repeat' (((first | refine aW ?_ ?_ | refine an ?_ ?_ | refine bh ?_ ?_)<;>intro h)<;>try simp only [I,B,D,RX,↓ KW,seval,hg,hx,h])
  simp_all
 ·have hx:=show j0 t p=_ from if_neg h0
  have h1:(jZ t p == 0)=false:=by simp; omega
  have h2:(((t.aL.getD []).length:Int) == 0)=false:=beq_false_of_ne (by omega)
  try simp only [I,B,D,RX,↓ KW,seval,h1,h2,hg,h130]
  refine aj (hs (some [_,_]) (by simp)) ?_
  try simp only [I,B,D,RX,↓ KW,seval,hp]
  refine aj (hO t ht) ?_
  try simp only [I,B,D,RX,↓ KW,seval]
  refine aj (hs (some [_,_,_]) (by simp)) ?_
  try simp only [I,B,D,RX,↓ KW,seval,hp]
  refine aj (hM _ _) ?_
  try simp only [I,B,D,RX,↓ KW,seval,h130]
  refine aj (hs (some [_,_]) (by simp)) ?_
  try simp only [I,B,D,RX,↓ KW,seval,hx]
  rfl
theorem rY.ok {fE e fs fO fL fC fM fcl:Nat} (hc:bU P f=some (jH fE e fs fO fL fC fM fcl)) (hE:entry.Spec (Pure P) fE) (hs:ox.Spec (Pure P) fs) (hO:on.Spec (Pure P) fO) (hL:kI.Spec (Pure P) fL e) (hC:Cap.Spec (Pure P) fC) (hM:most.Spec (Pure P) fM) (hcl:clear.Spec (Pure P) fcl):rY.Spec (Pure P) f:=by
 intro t ht
 have hl:=Tb.len ht
 have hp:=Tb.whole ht
 have hg:=Tb.ja ht
 have hb:=ht.aL
 have h119:=Tb.tail_at ht 3 (by omega)
 refine aD hm hc (by show 1≤73; decide) (aC (keep:=[]) (i:=0) ?_)
 try simp only [I,B,D,RX,↓ KW,seval,jH,Z.H,hp,hl,hg]
 by_cases h0:(t.aL.getD []).length=0
 ·have hx:yX t=0:=if_pos h0
  repeat' (((first | refine aW ?_ ?_ | refine an ?_ ?_ | refine bh ?_ ?_)<;>intro h)<;>try simp only [I,B,D,RX,↓ KW,seval,hg,hx,h])
  simp_all
 ·have hx:=show yX t=_ from if_neg h0
  have h2:(((t.aL.getD []).length:Int) == 0)=false:=beq_false_of_ne (by omega)
  try simp only [I,B,D,RX,↓ KW,seval,h2]
  refine aF (fun k:Nat=>(⟨[(5,.dat (I k) none),(1,.ptr 4 0),(4,.dat (.aN) none),(3,aH ak (e9 t k) 0)],[(4,⟨t.cells,[]⟩)],aM (e9 t k) 0 e,400⟩:S)) (fun k=>(t.aL.getD []).length - k) (fun k=>k≤(t.aL.getD []).length) ?_ 0 (by omega) ?_
  ·intro k hk A back
   have hw:=aB (k:=k) (by omega)
   have hn:=wS t k
   have hlen:(e9 t k).length=k:=by simp [e9]
   by_cases hl:e9 t k=[]
   all_goals
    try simp only [I,B,D,RX,↓ KW,seval,aH,aM,hl,hg]
    refine an (fun h=>?_) (fun h=>?_)<;>try simp only [I,B,D,RX,↓ KW,seval,hp,h]
   ·have:k < (t.aL.getD []).length:=by have:=of_decide_eq_true h; omega
    have hr:=rZ (t:=t) (k:=k) (by omega) (by omega)
    rw [Int.toNat_natCast] at hr
    refine aj (hE t _ ht) ?_
    try simp only [I,B,D,RX,↓ KW,seval,hg]
    refine ⟨by omega,?_⟩
    try simp only [I,B,D,RX,↓ KW,seval,hr,Rl.len,Rl.cells]
    refine aj (hs (some [_,_]) (by simp)) ?_
    try simp only [I,B,D,RX,↓ KW,seval]
    refine back (k + 1) _ (by omega) (by omega) (ai (by decide) ?_ ?_ ?_ ?_)<;>simp [LX,I,B,D,hn,hw,hl]
   ·exfalso
    have:=of_decide_eq_false h
    rw [hl] at hlen; simp at hlen; omega
   ·have:k < (t.aL.getD []).length:=by have:=of_decide_eq_true h; omega
    have hr:=rZ (t:=t) (k:=k) (by omega) (by omega)
    rw [Int.toNat_natCast] at hr
    refine aj (hE t _ ht) ?_
    try simp only [I,B,D,RX,↓ KW,seval,hg]
    refine ⟨by omega,?_⟩
    try simp only [I,B,D,RX,↓ KW,seval,hr,Rl.len,Rl.cells]
    refine aj (hs (some [_,_]) (by simp)) ?_
    try simp only [I,B,D,RX,↓ KW,seval]
    refine ⟨by omega,?_⟩
    refine back (k + 1) _ (by omega) (by omega) (ai (by decide) ?_ ?_ ?_ ?_)<;>simp [LX,I,B,D,hn,hw,hl]
   ·have:k=(t.aL.getD []).length:=by have:=of_decide_eq_false h; omega
    subst this
    try simp only [I,B,D,RX,↓ KW,seval,hp]
    refine aj (hO t ht) ?_
    try simp only [I,B,D,RX,↓ KW,seval]
    refine aj (hL _ none (.inl rfl)) ?_
    try simp only [I,B,D,RX,↓ KW,seval]
    have hlen:=uv (vl t)
    have hrg:=@qg (vl t)
    have hmk:=bP (eS (vl t))
    generalize eS (vl t)=L at *
    have hmst:dB (e9 t (t.aL.getD []).length)=dB (e9 t (t.aL.getD []).length):=rfl
    refine aF (fun k:Nat=>(⟨[(37,.dat (I k) none),(36,.dat (I L.length) none),(35,.dat (az ak (aX L)) none),(1,.ptr 4 0),(3,.dat (.sl ((e9 t (t.aL.getD []).length).map ak)) none),(4,aH ak (jb t (L.take k)) 0)],[(4,⟨t.cells,[]⟩)],aM (jb t (L.take k)) 0 e,400⟩:S)) (fun k=>L.length - k) (fun k=>k≤L.length) ?_ 0 (by omega) ?_
    ·intro k hk A back
     have hw:=aB (k:=k) (by omega)
     have hln:(jb t (L.take k)).length≤16:=by rw [xT]; have:=List.length_take_le k L; omega
     by_cases hl:jb t (L.take k)=[]
     all_goals
      try simp only [I,B,D,RX,↓ KW,seval,aH,aM,hl]
      refine an (fun h=>?_) (fun h=>?_)<;>try simp only [I,B,D,RX,↓ KW,seval,hmk,h]
     ·have hlt:k < L.length:=by have:=of_decide_eq_true h; omega
      obtain ⟨x,hx2⟩:∃ x,L[k]? = some x:=⟨_,List.getElem?_eq_getElem hlt⟩
      have hx8:=hrg (List.mem_of_getElem? hx2)
      have hph:=Tb.vm ht hx8.1 hx8.2
      have hn:=qh (t:=t) hx2
      refine ⟨by omega,?_⟩
      try simp only [I,B,D,RX,↓ KW,seval,hx2,ak]
      refine ⟨by omega,?_⟩
      try simp only [I,B,D,RX,↓ KW,seval,hph]
      refine aj (hC _) ?_
      try simp only [I,B,D,RX,↓ KW,seval,hph]
      refine ⟨by omega,?_⟩
      try simp only [I,B,D,RX,↓ KW,seval,hph]
      refine ⟨by omega,?_⟩
      try simp only [I,B,D,RX,↓ KW,seval,hph]
      refine aj (hs (some [_,_]) (by simp)) ?_
      try simp only [I,B,D,RX,↓ KW,seval]
      refine back (k + 1) _ (by omega) (by omega) (ai (by decide) ?_ ?_ ?_ ?_)<;>simp [LX,I,B,D,hn,hw,hl]
     ·have:k=L.length:=by have:=of_decide_eq_false h; omega
      subst this
      rw [List.take_length] at hl hln
      try simp only [I,B,D,RX,↓ KW,seval]
      refine aj (hM (some _) (by simp [e9]; omega)) ?_
      try simp only [I,B,D,RX,↓ KW,seval]
      refine aj (hM none (by simp)) ?_
      try simp only [I,B,D,RX,↓ KW,seval,hp]
      refine aj (hcl t ht) ?_
      try simp only [I,B,D,RX,↓ KW,seval,h119]
      refine aj (hs (some [_,_,_,_,_]) (by simp)) ?_
      try simp only [I,B,D,RX,↓ KW,seval,hx,hl]
      rfl
     ·have hlt:k < L.length:=by have:=of_decide_eq_true h; omega
      obtain ⟨x,hx2⟩:∃ x,L[k]? = some x:=⟨_,List.getElem?_eq_getElem hlt⟩
      have hx8:=hrg (List.mem_of_getElem? hx2)
      have hph:=Tb.vm ht hx8.1 hx8.2
      have hn:=qh (t:=t) hx2
      refine ⟨by omega,?_⟩
      try simp only [I,B,D,RX,↓ KW,seval,hx2,ak]
      refine ⟨by omega,?_⟩
      try simp only [I,B,D,RX,↓ KW,seval,hph]
      refine aj (hC _) ?_
      try simp only [I,B,D,RX,↓ KW,seval,hph]
      refine ⟨by omega,?_⟩
      try simp only [I,B,D,RX,↓ KW,seval,hph]
      refine ⟨by omega,?_⟩
      try simp only [I,B,D,RX,↓ KW,seval,hph]
      refine aj (hs (some [_,_]) (by simp)) ?_
      try simp only [I,B,D,RX,↓ KW,seval]
      refine ⟨by omega,?_⟩
      refine back (k + 1) _ (by omega) (by omega) (ai (by decide) ?_ ?_ ?_ ?_)<;>simp [LX,I,B,D,hn,hw,hl]
     ·have:k=L.length:=by have:=of_decide_eq_false h; omega
      subst this
      rw [List.take_length] at *
      try simp only [I,B,D,RX,↓ KW,seval]
      refine aj (hM (some _) (by simp [e9]; omega)) ?_
      try simp only [I,B,D,RX,↓ KW,seval]
      refine aj (hM (some _) (by simp; omega)) ?_
      try simp only [I,B,D,RX,↓ KW,seval,hp]
      refine aj (hcl t ht) ?_
      try simp only [I,B,D,RX,↓ KW,seval,h119]
      refine aj (hs (some [_,_,_,_,_]) (by simp)) ?_
      try simp only [I,B,D,RX,↓ KW,seval,hx,hl]
      rfl
    ·refine ai (by decide) ?_ ?_ ?_ ?_<;>simp [LX,I,B,D,hmk,jb]
  ·refine ai (by decide) ?_ ?_ ?_ ?_<;>simp [LX,I,B,D,e9]
end
end Go.Eng
namespace Go.Eng
open Go
def iw (t:Tb) (p q:Int):Int:=if cY t p q then eH (FG [p]) q else FG [p]
def with.Spec (C:bI) (f:Nat):Prop:=∀ (t:Tb) (p q:Int),t.Ok→C.c f [.agg t.cells,I p,I q] (I (iw t p q)) none
theorem HK (k:FloatKind) (x y:Nat):cK .mul (.float k x) (.float k y)=AL k (k.format.mul x y):=by simp [cK,qP]
theorem BV (k:FloatKind) (x y:Nat):cK .quo (.float k x) (.float k y)=AL k (k.format.div x y):=by simp [cK,qP]
theorem HL (k:FloatKind) (r:Nat):AL k (some r)=some (.float k r):=by cases k<;>rfl
theorem FH (k:FloatKind) (k':IntKind) (n:Int):qQ k (.int k' n)=some (.float k (k.nearest n)):=rfl
theorem aS (l:Option (List Int)) (i:Int) {n:Int} (h:0 < n) (hn:n≤4294967296):0≤bD l i n∧bD l i n < n:=by
 simp only [bD,place]
 have h1:=Int.tmod_lt_of_pos (HI l i) h
 have h2:=Int.lt_tmod_of_pos (HI l i) h
 split
 ·rw [bH,aE (by omega) (by omega)]; omega
 ·omega
def BW (n:Int):Nat:=(FloatKind.f64.format.div (FloatKind.f64.nearest n) 4621819117588971520).getD 0
theorem sg:∀ n:Nat,n < 6→FloatKind.f64.format.div (FloatKind.f64.nearest (n:Int)) 4621819117588971520=some (BW n):=by decide +kernel
def yY (k:Int):Nat:=[4617315517961601024,4621819117588971520,4607182418800017408,4602678819172646912].getD k.toNat 0
def si (k:Int):Nat:=[4602678819172646912,4607182418800017408,4598175219545276416].getD k.toNat 0
def BX (j k:Int):Nat:=(FloatKind.f64.format.mul (yY j) (si k)).getD 0
theorem wT:∀ j:Nat,j < 4→∀ k:Nat,k < 3→FloatKind.f64.format.mul (yY j) (si k)=some (BX j k):=by decide +kernel
def jc (l:Option (List Int)) (i n:Int):lO where
 phase:=bD l i n
 on:=yY (bD l (bH (i + 1)) 4)
 off:=BX (bD l (bH (i + 1)) 4) (bD l (bH (i + 2)) 3)
 delay:=BW (bD l (bH (i + 3)) 4)
 extend:=BW (bD l (bH (i + 4)) 6)
 maxOn:=if bD l (bH (i + 5)) 3 == 1 then bH (20 + bD l (bH (i + 6)) 60) else 0
 vg:=if bD l (bH (i + 5)) 9 == 2 then bH (60 + bD l (bH (i + 7)) 300) else 0
def lV.Spec (C:bI) (f:Nat):Prop:=∀ (l:Option (List Int)) (i n:Int),0 < n→C.c f [az ak l,I i,I n] (.agg (jc l i n).cells) none
section
variable {P:Program} (hm:P.follows .mixedOrders=true) {f:Nat}
include hm
theorem with.ok {e fO fB fW:Nat} (hc:bU P f=some (jF e fO fB fW)) (hO:rU.Spec (Pure P) fO) (hB:beside.Spec (Pure P) fB) (hW:mD.Spec (Pure P) fW):with.Spec (Pure P) f:=by
 intro t p q ht
 have hl:=Tb.len ht
 have hp:=Tb.whole ht
 refine aD hm hc (by show 3≤19; decide) (aC (keep:=[]) (i:=0) ?_)
 try simp only [I,B,D,RX,↓ KW,seval,jF,Z.H,hp,hl]
 refine aj (hO (some [_]) (by simp)) ?_
 try simp only [I,B,D,RX,↓ KW,seval,hp]
 refine aj (hB t _ _ ht) ?_
 try simp only [I,B,D,RX,↓ KW,seval]
 repeat' (first | (refine aj (hW _ _) ?_; try simp only [I,B,D,RX,↓ KW,seval]) | (((first | refine aW ?_ ?_ | refine an ?_ ?_ | refine bh ?_ ?_)<;>intro h)<;>try simp only [I,B,D,RX,↓ KW,seval,h]))
 all_goals simp_all [iw]
theorem lV.ok {fF:Nat} (hc:bU P f=some (fX fF)) (hF:from.Spec (Pure P) fF):lV.Spec (Pure P) f:=by
 intro l i n hn
 refine aD hm hc (by show 3≤66; decide) (aC (keep:=[]) (i:=0) ?_)
 try simp only [I,B,D,RX,↓ KW,seval,fX,Z.H]
 refine aj (hF _ _ _ hn) ?_
 try simp only [I,B,D,RX,↓ KW,seval]
 refine aj (hF _ _ _ (by decide)) ?_
 try simp only [I,B,D,RX,↓ KW,seval]
 have h1:=aS l (bH (i + 1)) (n:=4) (by decide) (by decide)
 have h2:=aS l (bH (i + 2)) (n:=3) (by decide) (by decide)
 have h3:=aS l (bH (i + 3)) (n:=4) (by decide) (by decide)
 have h4:=aS l (bH (i + 4)) (n:=6) (by decide) (by decide)
 have e1:[AV.float FloatKind.f64 4617315517961601024,AV.float FloatKind.f64 4621819117588971520,AV.float FloatKind.f64 4607182418800017408,AV.float FloatKind.f64 4602678819172646912][(bD l (bH (i + 1)) 4).toNat]? = some (.float .f64 (yY (bD l (bH (i + 1)) 4))):=by
  generalize bD l (bH (i + 1)) 4=j at *
  have:j=0∨j=1∨j=2∨j=3:=by omega
  rcases this with rfl|rfl|rfl|rfl<;>rfl
 have e2:[AV.float FloatKind.f64 4602678819172646912,AV.float FloatKind.f64 4607182418800017408,AV.float FloatKind.f64 4598175219545276416][(bD l (bH (i + 2)) 3).toNat]? = some (.float .f64 (si (bD l (bH (i + 2)) 3))):=by
  generalize bD l (bH (i + 2)) 3=j at *
  have:j=0∨j=1∨j=2:=by omega
  rcases this with rfl|rfl|rfl<;>rfl
 have e3:=wT (bD l (bH (i + 1)) 4).toNat (by omega) (bD l (bH (i + 2)) 3).toNat (by omega)
 have e4:=sg (bD l (bH (i + 3)) 4).toNat (by omega)
 have e5:=sg (bD l (bH (i + 4)) 6).toNat (by omega)
 simp only [Int.toNat_of_nonneg h1.1,Int.toNat_of_nonneg h2.1] at e3
 simp only [Int.toNat_of_nonneg h3.1] at e4
 simp only [Int.toNat_of_nonneg h4.1] at e5
 simp only [bH] at e1 e2 e3 e4 e5 h1 h2 h3 h4
 refine ⟨by omega,?_⟩
 try simp only [I,B,D,RX,↓ KW,seval,e1]
 refine aj (hF l _ 3 (by decide)) ?_
 try simp only [I,B,D,RX,↓ KW,seval]
 refine ⟨by omega,?_⟩
 try simp only [I,B,D,RX,↓ KW,seval,e2,HL,HK,e3]
 refine aj (hF _ _ _ (by decide)) ?_
 try simp only [I,B,D,RX,↓ KW,seval,FH,HL,BV,e4]
 refine aj (hF _ _ _ (by decide)) ?_
 try simp only [I,B,D,RX,↓ KW,seval,FH,HL,BV,e5]
 repeat' (first | (refine aj (hF _ _ _ (by decide)) ?_; try simp only [I,B,D,RX,↓ KW,seval]) | (((first | refine aW ?_ ?_ | refine an ?_ ?_ | refine bh ?_ ?_)<;>intro h)<;>try simp only [I,B,D,RX,↓ KW,seval,h]))
 all_goals simp_all [jc,lO.cells,bH]
def jK (t:Tb) (l:Option (List Int)) (i n:Int):Rl :=
  let p:=bD l (bH (i + 4)) (bH (n + 1))
  let mW:=iw t (bD l i n) (bD l (bH (i + 1)) n)
  let stay:=bH (1 + bD l (bH (i + 11)) 15)
  let delay:=bD l (bH (i + 8)) 4
  { bars:=gy .i64 (d7 .i64 (bD l (bH (i + 7)) 256) (bH (bH (1 * 2 ^ min (IntKind.u64.wrap n).toNat 64) - 1))) mW
    clear:=if p < n then iw t p (bD l (bH (i + 5)) n) else 0
    mW:=mW
    exit:=iw t (bD l (bH (i + 2)) n) (bD l (bH (i + 3)) n)
    delay:=delay
    green:=bH (1 + bD l (bH (i + 9)) 6)
    mQ:=bD l (bH (i + 10)) 6
    hold:=if p < n then bH (1 + bD l (bH (i + 6)) 10) else 0
    stay:=stay
    most:=if bD l (bH (i + 12)) 3 == 1 then bH (stay + bD l (bH (i + 13)) 30) else 0
    limit:=bH (bH (delay + 1) + [10000,400,20].getD (bD l (bH (i + 14)) 3).toNat 0) }
def BY.Spec (C:bI) (f:Nat):Prop:=∀ (t:Tb) (l:Option (List Int)) (i n:Int),t.Ok→0 < n→n≤8→C.c f [.agg t.cells,az ak l,I i,I n] (.agg (jK t l i n).cells) none
theorem BY.ok {fF fW:Nat} (hc:bU P f=some (jC fF fW)) (hF:from.Spec (Pure P) fF) (hW:with.Spec (Pure P) fW):BY.Spec (Pure P) f:=by
 intro t l i n ht hn hn8
 have hl:=Tb.len ht
 have hp:=Tb.whole ht
 have hn1:IntKind.i64.wrap (n + 1)=n + 1:=aE (by omega) (by omega)
 refine aD hm hc (by show 4≤119; decide) (aC (keep:=[]) (i:=0) ?_)
 try simp only [I,B,D,RX,↓ KW,seval,jC,Z.H,hp,hl,cN]
 refine aj (hF _ _ _ hn) ?_
 try simp only [I,B,D,RX,↓ KW,seval,hp]
 refine aj (hF _ _ _ hn) ?_
 try simp only [I,B,D,RX,↓ KW,seval,hp]
 refine aj (hW t _ _ ht) ?_
 try simp only [I,B,D,RX,↓ KW,seval,hp]
 refine aj (hF _ _ _ hn) ?_
 try simp only [I,B,D,RX,↓ KW,seval,hp]
 refine aj (hF _ _ _ hn) ?_
 try simp only [I,B,D,RX,↓ KW,seval,hp]
 refine aj (hW t _ _ ht) ?_
 try simp only [I,B,D,RX,↓ KW,seval,hp]
 refine aj (hF _ _ _ (by omega)) ?_
 try simp only [I,B,D,RX,↓ KW,seval,hp]
 have h14:=aS l (bH (i + 14)) (n:=3) (by decide) (by decide)
 have e14:[AV.int .i64 10000,AV.int .i64 400,AV.int .i64 20][(bD l (bH (i + 14)) 3).toNat]? = some (.int .i64 ([10000,400,20].getD (bD l (bH (i + 14)) 3).toNat 0)):=by
  generalize bD l (bH (i + 14)) 3=j at *
  have:j=0∨j=1∨j=2:=by omega
  rcases this with rfl|rfl|rfl<;>rfl
 have hu:0≤IntKind.u64.wrap n:=by rw [IntKind.wrap]; simp [IntKind.signed]; omega
 simp only [bH] at e14 h14
 refine an (fun h=>?_) (fun h=>?_)<;>try simp only [I,B,D,RX,↓ KW,seval,hp,h]
 ·repeat' (first | ((first | refine aj (hF _ _ _ hn) ?_ | refine aj (hF _ _ _ (by decide)) ?_ | refine aj (hW t _ _ ht) ?_); try simp only [I,B,D,RX,↓ KW,seval,hp]) | (((first | refine aW ?_ ?_ | refine an ?_ ?_ | refine bh ?_ ?_)<;>intro h)<;>try simp only [I,B,D,RX,↓ KW,seval,hp,h]))
  refine ⟨hu,?_⟩
  repeat' (first | ((first | refine aj (hF _ _ _ hn) ?_ | refine aj (hF _ _ _ (by decide)) ?_ | refine aj (hW t _ _ ht) ?_); try simp only [I,B,D,RX,↓ KW,seval,hp]) | (((first | refine aW ?_ ?_ | refine an ?_ ?_ | refine bh ?_ ?_)<;>intro h)<;>try simp only [I,B,D,RX,↓ KW,seval,hp,h]))
  all_goals refine ⟨by omega,?_⟩
  all_goals try simp only [I,B,D,RX,↓ KW,seval,e14,hp]
  all_goals simp_all [jK,Rl.cells,bH,IntKind.bits]
 ·repeat' (first | ((first | refine aj (hF _ _ _ hn) ?_ | refine aj (hF _ _ _ (by decide)) ?_ | refine aj (hW t _ _ ht) ?_); try simp only [I,B,D,RX,↓ KW,seval,hp]) | (((first | refine aW ?_ ?_ | refine an ?_ ?_ | refine bh ?_ ?_)<;>intro h)<;>try simp only [I,B,D,RX,↓ KW,seval,hp,h]))
  refine ⟨hu,?_⟩
  repeat' (first | ((first | refine aj (hF _ _ _ hn) ?_ | refine aj (hF _ _ _ (by decide)) ?_ | refine aj (hW t _ _ ht) ?_); try simp only [I,B,D,RX,↓ KW,seval,hp]) | (((first | refine aW ?_ ?_ | refine an ?_ ?_ | refine bh ?_ ?_)<;>intro h)<;>try simp only [I,B,D,RX,↓ KW,seval,hp,h]))
  all_goals refine ⟨by omega,?_⟩
  all_goals try simp only [I,B,D,RX,↓ KW,seval,e14,hp]
  all_goals simp_all [jK,Rl.cells,bH,IntKind.bits]
  all_goals exact ⟨fun _=>by omega,fun _=>by omega⟩
end
end Go.Eng
namespace Go.Eng
open Go
structure Tb.Ln (t:Tb):Prop where
 phases:t.phases.length=8
 conflict:t.conflict.length=8
 br:t.br.length=8
theorem Tb.Ok.ln {t:Tb} (h:t.Ok):t.Ln:=⟨h.phases,h.conflict,h.br⟩
section
variable {t:Tb} (h:t.Ln)
include h
theorem Tb.Ln.len:t.cells.length=131:=by
 simp [Tb.cells,aI Ph.len,h.phases,h.conflict,h.br]
theorem Tb.Ln.whole:aU t.cells 0 (some 131)=some (.agg t.cells):=by
 have hl:=h.len
 rw [d8 _ _ _ (by omega),List.drop_zero,← hl,List.take_length]
theorem Tb.Ln.K5:t.cells[113]? = some (az lO.cells t.bO):=by
 simp [Tb.cells,List.getElem?_append,aI Ph.len,h.phases,h.conflict,h.br,List.getElem?_cons]
theorem Tb.Ln.FI:t.cells[114]? = some (az Rl.cells t.aL):=by
 simp [Tb.cells,List.getElem?_append,aI Ph.len,h.phases,h.conflict,h.br,List.getElem?_cons]
theorem Tb.Ln.K6:t.cells[115]? = some (az Bs.cells t.js):=by
 simp [Tb.cells,List.getElem?_append,aI Ph.len,h.phases,h.conflict,h.br,List.getElem?_cons]
theorem Tb.Ln.BZ:t.cells[129]? = some (I t.aG):=by
 simp [Tb.cells,List.getElem?_append,aI Ph.len,h.phases,h.conflict,h.br,List.getElem?_cons]
theorem Tb.Ln.lT {i:Nat} {c:Int} (hc:t.conflict[i]? = some c):t.cells[105 + i]? = some (I c):=by
 have hi:i < 8:=by have:=(List.getElem?_eq_some_iff.1 hc).1; rw [h.conflict] at this; exact this
 have e:(t.phases.flatMap Ph.cells).length=104:=by rw [aI Ph.len,h.phases]
 unfold Tb.cells
 rw [List.getElem?_append_right (by omega),e,show 105 + i - 104=i + 1 by omega,List.getElem?_cons_succ,List.getElem?_append_left (by simp [h.conflict,hi]),List.getElem?_map,hc]; rfl
def Tb.rest (t:Tb):List AV:=az Gr.cells t.groups :: (t.conflict.map I++(az lO.cells t.bO :: az Rl.cells t.aL :: az Bs.cells t.js ::
  I t.extend :: I t.e8 :: I t.start :: I t.revert :: I t.least :: (t.br.map I++[I t.aG,I t.share])))
omit h in
theorem aY {pre post ps:List AV} {off:Nat} (hle:pre.length≤off):setCells (pre++post) off ps=pre++setCells post (off - pre.length) ps:=by
 simp only [setCells,List.take_append,List.drop_append,List.append_assoc]
 rw [List.take_of_length_le hle,List.drop_of_length_le (by omega),show off + ps.length - pre.length=off - pre.length + ps.length by omega]
 rfl
omit h in
theorem wU {pre post ps:List AV} {off:Nat} (hle:off + ps.length≤pre.length):setCells (pre++post) off ps=setCells pre off ps++post:=by
 simp only [setCells]
 rw [List.take_append_of_le_length (by omega),List.drop_append_of_le_length hle]
 simp
omit h in
theorem yZ {l:List Int} {i:Nat} {v:Int} (hi:i < l.length):setCells (l.map I) i [I v]=(l.set i v).map I:=by
 simp only [setCells,List.length_cons,List.length_nil]
 rw [List.set_eq_take_append_cons_drop,if_pos hi]
 simp [List.map_take,List.map_drop]
omit h in
theorem cH (c:AV) (cs ps:List AV) (k:Nat):setCells (c :: cs) (k + 1) ps=c :: setCells cs k ps:=by
 simp only [setCells,List.take_succ_cons,List.cons_append,show k + 1 + ps.length=(k + ps.length) + 1 by omega,List.drop_succ_cons]
theorem Tb.Ln.Ai {i:Nat} (hi:i < 8) (q:Ph):setCells t.cells (i * 13) q.cells=({ t with phases:=t.phases.set i q }:Tb).cells:=by
 obtain ⟨p,hp⟩:∃ p,t.phases[i]? = some p:=⟨_,List.getElem?_eq_getElem (by rw [h.phases]; exact hi)⟩
 exact Tb.Af hp
theorem Tb.Ln.oz {i:Nat} (hi:i < 8) (v:Int):setCells t.cells (105 + i) [I v]=({ t with conflict:=t.conflict.set i v }:Tb).cells:=by
 have e:(t.phases.flatMap Ph.cells).length=104:=by rw [aI Ph.len,h.phases]
 unfold Tb.cells
 rw [aY (by omega),e,show 105 + i - 104=i + 1 by omega,cH,wU (by simp [h.conflict]; omega),yZ (by rw [h.conflict]; exact hi)]
theorem Tb.Ln.uw {i:Nat} (hi:i < 8) (v:Int):setCells t.cells (121 + i) [I v]=({ t with br:=t.br.set i v }:Tb).cells:=by
 have e:(t.phases.flatMap Ph.cells).length=104:=by rw [aI Ph.len,h.phases]
 unfold Tb.cells
 rw [aY (by omega),e,show 121 + i - 104=(i + 16) + 1 by omega,cH,aY (by simp [h.conflict]),show i + 16 - (t.conflict.map I).length=i + 8 by simp [h.conflict]]
 simp only [cH]
 rw [wU (by simp [h.br]; omega),yZ (by rw [h.br]; exact hi)]
theorem Tb.Ln.B1 (d:Option (List lO)):setCells t.cells 113 [az lO.cells d]=({ t with bO:=d }:Tb).cells:=by
 have e:(t.phases.flatMap Ph.cells).length=104:=by rw [aI Ph.len,h.phases]
 have e2:(t.conflict.map I).length=8:=by simp [h.conflict]
 unfold Tb.cells
 rw [aY (by omega),e,show 113 - 104=8 + 1 by omega,cH,aY (by omega),e2]
 rfl
theorem Tb.Ln.Aj (d:Option (List Rl)):setCells t.cells 114 [az Rl.cells d]=({ t with aL:=d }:Tb).cells:=by
 have e:(t.phases.flatMap Ph.cells).length=104:=by rw [aI Ph.len,h.phases]
 have e2:(t.conflict.map I).length=8:=by simp [h.conflict]
 unfold Tb.cells
 rw [aY (by omega),e,show 114 - 104=9 + 1 by omega,cH,aY (by omega),e2]
 rfl
theorem Tb.Ln.Ak (d:Option (List Bs)):setCells t.cells 115 [az Bs.cells d]=({ t with js:=d }:Tb).cells:=by
 have e:(t.phases.flatMap Ph.cells).length=104:=by rw [aI Ph.len,h.phases]
 have e2:(t.conflict.map I).length=8:=by simp [h.conflict]
 unfold Tb.cells
 rw [aY (by omega),e,show 115 - 104=10 + 1 by omega,cH,aY (by omega),e2]
 rfl
theorem Tb.Ln.lW (v:Int):setCells t.cells 116 [I v]=({ t with extend:=v }:Tb).cells∧setCells t.cells 117 [I v]=({ t with e8:=v }:Tb).cells∧setCells t.cells 118 [I v]=({ t with start:=v }:Tb).cells ∧
  setCells t.cells 119 [I v]=({ t with revert:=v }:Tb).cells∧setCells t.cells 120 [I v]=({ t with least:=v }:Tb).cells:=by
 have e:(t.phases.flatMap Ph.cells).length=104:=by rw [aI Ph.len,h.phases]
 have e2:(t.conflict.map I).length=8:=by simp [h.conflict]
 unfold Tb.cells
 refine ⟨?_,?_,?_,?_,?_⟩
 ·rw [aY (by omega),e,show 116 - 104=11 + 1 by omega,cH,aY (by omega),e2]; rfl
 ·rw [aY (by omega),e,show 117 - 104=12 + 1 by omega,cH,aY (by omega),e2]; rfl
 ·rw [aY (by omega),e,show 118 - 104=13 + 1 by omega,cH,aY (by omega),e2]; rfl
 ·rw [aY (by omega),e,show 119 - 104=14 + 1 by omega,cH,aY (by omega),e2]; rfl
 ·rw [aY (by omega),e,show 120 - 104=15 + 1 by omega,cH,aY (by omega),e2]; rfl
theorem Tb.Ln.lX (v:Int):setCells t.cells 129 [I v]=({ t with aG:=v }:Tb).cells∧setCells t.cells 130 [I v]=({ t with share:=v }:Tb).cells:=by
 have e:(t.phases.flatMap Ph.cells).length=104:=by rw [aI Ph.len,h.phases]
 have e2:(t.conflict.map I).length=8:=by simp [h.conflict]
 have e3:(t.br.map I).length=8:=by simp [h.br]
 unfold Tb.cells
 refine ⟨?_,?_⟩
 ·rw [aY (by omega),e,show 129 - 104=24 + 1 by omega,cH,aY (by omega),e2]
  simp only [Nat.reduceSub,cH]
  rw [aY (by omega),e3]; rfl
 ·rw [aY (by omega),e,show 130 - 104=25 + 1 by omega,cH,aY (by omega),e2]
  simp only [Nat.reduceSub,cH]
  rw [aY (by omega),e3]; rfl
end
end Go.Eng
namespace Go.Eng
open Go
def bk (groups g:Nat):Nat:=8 - (groups - 1 - g)
def bY (p m:Nat):List Int:=(List.range m).map fun (j:Nat)=>((p + j:Nat):Int)
def cnt (l:Option (List Int)) (g k:Nat) (r0:Nat):Nat :=
 let n:=(bD l (1 + 2 * g + k) 3).toNat
 if k=1∧n=0∧r0=0 then 1 else n
def aO (n p Is:Nat):Nat:=min n (Is - p)
def bp (l:Option (List Int)) (groups:Nat):Nat→List Gr × Nat
 | 0=>([],0)
 | g + 1 =>
  let q:=bp l groups g
  let m0:=aO (cnt l g 0 0) q.2 (bk groups g)
  let m1:=aO (cnt l g 1 m0) (q.2 + m0) (bk groups g)
  (q.1++[⟨aX (bY q.2 m0),aX (bY (q.2 + m0) m1)⟩],q.2 + m0 + m1)
def dL (l:Option (List Int)):Nat:=(1 + bD l 0 3).toNat
def rows.Spec (C:bI) (f:Nat):Prop:=∀ (t:Tb) (l:Option (List Int)),t.Ok→t.groups=none→C.p f [t.cells] [none,some (az ak l)] (I ((bp l (dL l) (dL l)).2:Nat)) none [({ t with groups:=some (bp l (dL l) (dL l)).1 }:Tb).cells]
theorem Tb.len' {t:Tb} (h1:t.phases.length=8) (h2:t.conflict.length=8) (h3:t.br.length=8):t.cells.length=131:=by
 simp [Tb.cells,aI Ph.len,h1,h2,h3]
theorem Tb.xU {t:Tb} (h:t.phases.length=8):t.cells[104]? = some (az Gr.cells t.groups):=by
 simp [Tb.cells,List.getElem?_append,aI Ph.len,h]
theorem Tb.xV {t:Tb} (h:t.phases.length=8) (g:Option (List Gr)):t.cells.take 104++(az Gr.cells g :: t.cells.drop 105)=({ t with groups:=g }:Tb).cells:=by
 have e:(t.phases.flatMap Ph.cells).length=104:=by rw [aI Ph.len,h]
 simp only [Tb.cells]
 rw [List.take_append_of_le_length (by omega),List.take_of_length_le (by omega),List.drop_append,List.drop_of_length_le (by omega),e]
 rfl
theorem vn {C:bI} {base:Nat}:∀ {l:List CO} {i:Nat} {s:S} {K:S→Prop},fq C base i l K s→∃ s',K s'∧∀ K':S→Prop,K' s'→fq C base i l K' s
 | [],i,s,K,h=>⟨s,h,fun _ h=>h⟩
 | o :: l,i,s,K,h=>by
  rw [iK] at h
  obtain ⟨v,d,hd,hk',_⟩:=cA h
  obtain ⟨s',h1,h2⟩:=vn hk'
  refine ⟨s',h1,fun K' hK=>?_⟩
  rw [iK]
  exact hd.2 s .refl _ (h2 K' hK)
theorem HM {C:bI} {id:Nat} {o:aZ} {K:SV→S→Prop} {s:S} (h:aV C id o K s):∃ v s',K v s'∧∀ K':SV→S→Prop,K' v s'→aV C id o K' s:=by
 obtain ⟨v,d,hK,hok,hU,hfp,hs⟩:=lI h
 exact ⟨v,_,hK,fun K' hk=>hs s .refl _ hk⟩
theorem Eu {C:bI} {id:Nat} {o:AJ} {K:SV→S→Prop} {X:AV→S→Prop} {s:S} (h:bz C id o K X s) :
  (∃ v s',K v s'∧∀ (K':SV→S→Prop) (X':AV→S→Prop),K' v s'→bz C id o K' X' s)∨∃ p s',X p s'∧∀ (K':SV→S→Prop) (X':AV→S→Prop),X' p s'→bz C id o K' X' s:=by
 have so:∀ {c:aZ},aV C id c K s→(∀ (K':SV→S→Prop) (X':AV→S→Prop),aV C id c K' s→bz C id o K' X' s)→(∃ v s',K v s'∧∀ (K':SV→S→Prop) (X':AV→S→Prop),K' v s'→bz C id o K' X' s)∨∃ p s',X p s'∧∀ (K':SV→S→Prop) (X':AV→S→Prop),X' p s'→bz C id o K' X' s:=by
  intro c h g
  obtain ⟨v,s',h1,h2⟩:=HM h
  exact .inl ⟨v,s',h1,fun K' X' hk=>g K' X' (h2 K' hk)⟩
 cases o with
 | o c=>exact so h fun _ _ h=>h
 | call f args =>
  simp only [bz] at h
  rcases h with h|h
  ·exact so h fun _ _ h=>.inl h
  ·obtain ⟨as,has,h⟩:=af h
   rcases h with ⟨cs,h1,h2⟩|⟨p,h1,h2⟩
   ·exact .inl ⟨_,_,h2,fun K' X' hk=>by simp only [bz,has]; exact .inr (.inl ⟨cs,h1,hk⟩)⟩
   ·exact .inr ⟨_,_,h2,fun K' X' hk=>by simp only [bz,has]; exact .inr (.inr ⟨p,h1,hk⟩)⟩
 | dX f args =>
  simp only [bz] at h
  rcases h with h|h
  ·exact so h fun _ _ h=>.inl h
  ·obtain ⟨p,hp,hn,h⟩:=af h
   obtain ⟨css,hcs,v,css',h1,h2⟩:=af h
   exact .inr ⟨_,_,h2,fun K' X' hk=>by simp only [bz,hp]; exact .inr ⟨hn,by rw [hcs]; exact ⟨v,css',h1,hk⟩⟩⟩
 | dw b g args =>
  simp only [bz] at h
  split at h
  ·rename_i f as bs hg
   obtain ⟨p,hp,hn,h⟩:=af h
   obtain ⟨css,hcs,h⟩:=af h
   rcases h with ⟨r,fr,css',h1,h2⟩|⟨v,css',h1,h2⟩
   ·exact .inl ⟨_,_,h2,fun K' X' hk=>by simp only [bz,hg,hp]; exact ⟨hn,by rw [hcs]; exact .inl ⟨r,fr,css',h1,hk⟩⟩⟩
   ·exact .inr ⟨_,_,h2,fun K' X' hk=>by simp only [bz,hg,hp]; exact ⟨hn,by rw [hcs]; exact .inr ⟨v,css',h1,hk⟩⟩⟩
  ·rename_i hg
   refine so h fun K' X' h=>?_
   simp only [bz]
   revert h
   cases hv:bw s g with
   | none=>exact fun h=>h
   | some v=>cases v<;>first | exact fun h=>h | exact (hg _ _ _ hv).elim
 | IL f caps=>obtain ⟨p,hp,h⟩:=af h; exact .inl ⟨_,_,h,fun K' X' hk=>by simp only [bz,hp]; exact hk⟩
 | I7 x=>obtain ⟨a,ha,h1,h2⟩:=af h; exact .inr ⟨_,_,h2,fun K' X' hk=>by simp only [bz,ha]; exact ⟨h1,hk⟩⟩
 | I8 t x=>obtain ⟨a,ha,h1,h2⟩:=af h; exact .inl ⟨_,_,h2,fun K' X' hk=>by simp only [bz,ha]; exact ⟨h1,hk⟩⟩
 | I9 t z x =>
  obtain ⟨a,ha,h⟩:=af h
  obtain ⟨v,hv,h⟩:=af h
  exact .inl ⟨_,_,h,fun K' X' hk=>by simp only [bz,ha,aq,hv]; exact hk⟩
 | IM neg x =>
  obtain ⟨a,ha,h⟩:=af h
  obtain ⟨v,hv,h⟩:=af h
  exact .inl ⟨_,_,h,fun K' X' hk=>by simp only [bz,ha,aq,hv]; exact hk⟩
 | IN neg x =>
  obtain ⟨a,ha,h⟩:=af h
  obtain ⟨v,hv,h⟩:=af h
  exact .inl ⟨_,_,h,fun K' X' hk=>by simp only [bz,ha,aq,hv]; exact hk⟩
 | Ja e bytes l c =>
  obtain ⟨a,ha,h⟩:=af h
  obtain ⟨l',hl,h⟩:=af h
  obtain ⟨b,hb,h⟩:=af h
  obtain ⟨c',hc,h1,h⟩:=af h
  exact .inl ⟨_,_,h,fun K' X' hk=>by simp only [bz,ha,aq,hl,hb,hc]; exact ⟨h1,hk⟩⟩
 | Jb e x y =>
  obtain ⟨p,hp,h⟩:=af h
  cases p<;>try (exact h.elim)
  obtain ⟨b,hb,h⟩:=af h
  obtain ⟨ys,hy,h1,h2,h⟩:=af h
  exact .inl ⟨_,_,h,fun K' X' hk=>by simp only [bz,hp,hb,aq,hy]; exact ⟨h1,h2,hk⟩⟩
theorem oA {C:bI} {base:Nat}:∀ {l:List XO} {i:Nat} {s:S} {K:S→Prop} {X:AV→S→Prop},ct C base i l K X s →
  (∃ s',K s'∧∀ (K':S→Prop) (X':AV→S→Prop),K' s'→ct C base i l K' X' s)∨∃ p s',X p s'∧∀ (K':S→Prop) (X':AV→S→Prop),X' p s'→ct C base i l K' X' s
 | [],i,s,K,X,h=>.inl ⟨s,h,fun _ _ h=>h⟩
 | o :: l,i,s,K,X,h=>by
  have go:∀ {y:(S→Prop)→(AV→S→Prop)→Prop},((∃ s',K s'∧∀ (K':S→Prop) (X':AV→S→Prop),K' s'→y K' X')∨∃ p s',X p s'∧∀ (K':S→Prop) (X':AV→S→Prop),X' p s'→y K' X')→(∀ K' X',y K' X'→ct C base i (o :: l) K' X' s) →
    (∃ s',K s'∧∀ (K':S→Prop) (X':AV→S→Prop),K' s'→ct C base i (o :: l) K' X' s)∨∃ p s',X p s'∧∀ (K':S→Prop) (X':AV→S→Prop),X' p s'→ct C base i (o :: l) K' X' s:=by
   intro y h g
   rcases h with ⟨s',h1,h2⟩|⟨p,s',h1,h2⟩
   ·exact .inl ⟨s',h1,fun K' X' hk=>g _ _ (h2 K' X' hk)⟩
   ·exact .inr ⟨p,s',h1,fun K' X' hk=>g _ _ (h2 K' X' hk)⟩
  have run:bz C (base + i) o.op (fun v s'=>ct C base (i + 1) l K X (s'.put o.dst v)) X s→(∃ s',K s'∧∀ (K':S→Prop) (X':AV→S→Prop),K' s'→bz C (base + i) o.op (fun v s'=>ct C base (i + 1) l K' X' (s'.put o.dst v)) X' s) ∨
    ∃ p s',X p s'∧∀ (K':S→Prop) (X':AV→S→Prop),X' p s'→bz C (base + i) o.op (fun v s'=>ct C base (i + 1) l K' X' (s'.put o.dst v)) X' s:=by
   intro h
   rcases Eu h with ⟨v,s',h1,h2⟩|⟨p,s',h1,h2⟩
   ·rcases oA h1 with ⟨s2,k1,k2⟩ | ⟨p,s2,k1,k2⟩
    ·exact .inl ⟨s2,k1,fun K' X' hk=>h2 _ _ (k2 K' X' hk)⟩
    ·exact .inr ⟨p,s2,k1,fun K' X' hk=>h2 _ _ (k2 K' X' hk)⟩
   ·exact .inr ⟨p,s',h1,fun K' X' hk=>h2 _ _ hk⟩
  unfold ct cv at h
  cases hg:o.g with
  | none =>
   simp only [hg] at h
   exact go (run h) fun K' X' h=>by unfold ct cv; simp only [hg]; exact h
  | some q =>
   obtain ⟨t,want⟩:=q
   simp only [hg] at h
   split at h
   ·rename_i b q2 hl
    by_cases hb:b=want
    ·exact go (run (h.1 hb)) fun K' X' h=>by
      unfold ct cv; simp only [hg,hl]
      exact ⟨fun _=>h,fun e=>by subst hb; cases b<;>cases e⟩
    ·exact go (oA (h.2 (by cases b<;>cases want<;>simp_all))) fun K' X' h=>by
      unfold ct cv; simp only [hg,hl]
      exact ⟨fun e=>absurd e hb,fun _=>h⟩
   ·rename_i hl
    exact go (oA h) fun K' X' h=>by unfold ct cv; simp only [hg,hl]; exact h
   ·exact h.elim
theorem K7 {C:bI}:∀ {c:aK} {Q:Exit→S→Prop} {s:S},aw C c Q s→∃ e s',Q e s'∧∀ Q':Exit→S→Prop,Q' e s'→aw C c Q' s:=by
  intro c
  induction c with
  | skip=>intro Q s h; exact ⟨_,_,h,fun _ h=>h⟩
  | AK ops =>
    intro Q s h
    obtain ⟨s',h1,h2⟩:=vn h
    exact ⟨_,_,h1,fun Q' hq=>h2 _ hq⟩
  | seq a b iha ihb =>
    intro Q s h
    obtain ⟨e,s',h1,h2⟩:=iha h
    cases e with
    | normal =>
      obtain ⟨e,s'',h3,h4⟩:=ihb h1
      exact ⟨e,s'',h3,fun Q' hq=>h2 _ (h4 _ hq)⟩
    | exit i=>exact ⟨_,_,h1,fun Q' hq=>h2 _ hq⟩
    | ret=>exact ⟨_,_,h1,fun Q' hq=>h2 _ hq⟩
    | _=>exact ⟨_,_,h1,fun Q' hq=>h2 _ hq⟩
  | join a b iha ihb =>
    intro Q s h
    obtain ⟨e,s',h1,h2⟩:=iha h
    cases e with
    | normal =>
      obtain ⟨s1,⟨hl,hF⟩|hF⟩:=h1
      · obtain ⟨e,s'',h3,h4⟩:=ihb hF
        exact ⟨e,s'',h3,fun Q' hq=>h2 _ ⟨s1,.inl ⟨hl,h4 _ hq⟩⟩⟩
      · obtain ⟨e,s'',h3,h4⟩:=ihb hF
        exact ⟨e,s'',h3,fun Q' hq=>h2 _ ⟨s1,.inr (h4 _ hq)⟩⟩
    | exit i=>exact ⟨_,_,h1,fun Q' hq=>h2 _ hq⟩
    | ret=>exact ⟨_,_,h1,fun Q' hq=>h2 _ hq⟩
    | _=>exact ⟨_,_,h1,fun Q' hq=>h2 _ hq⟩
  | cond c a b iha ihb =>
    intro Q s h
    simp only [aw] at h ⊢
    obtain ⟨v,hv,hw⟩:=af h
    cases v<;>try (exact hw.elim)
    rename_i t
    cases t with
    | true =>
      obtain ⟨e,s',h1,h2⟩:=iha (hw.1 rfl)
      exact ⟨e,s',h1,fun Q' hq=>by rw [hv]; exact ⟨fun _=>h2 _ hq,fun h=>by cases h⟩⟩
    | false =>
      obtain ⟨e,s',h1,h2⟩:=ihb (hw.2 rfl)
      exact ⟨e,s',h1,fun Q' hq=>by rw [hv]; exact ⟨fun h=>(by cases h),fun _=>h2 _ hq⟩⟩
  | label l=>intro Q s h; exact ⟨_,_,h,fun _ h=>h⟩
  | goto l=>intro Q s h; exact ⟨_,_,h,fun _ h=>h⟩
  | scope l c r ihc ihr =>
    intro Q s h
    obtain ⟨e,s',h1,h2⟩:=ihc h
    cases e with
    | goto l' =>
      obtain ⟨hl,h1⟩:=h1
      obtain ⟨e,s'',h3,h4⟩:=ihr h1
      cases e with
      | goto l2=>exact h3.elim
      | _=>exact ⟨_,s'',h3,fun Q' hq=>h2 (iO l (aw C r (ql Q')) Q') ⟨hl,h4 (ql Q') hq⟩⟩
    | _=>exact ⟨_,_,h1,fun Q' hq=>h2 (iO l (aw C r (ql Q')) Q') hq⟩
  | block id c ih =>
    intro Q s h
    obtain ⟨e,s',h1,h2⟩:=ih h
    cases e with
    | exit i =>
      simp only [dF] at h1
      by_cases hi:i=id
      · rw [if_pos hi] at h1
        exact ⟨_,_,h1,fun Q' hq=>h2 _ (by simp only [dF,if_pos hi]; exact hq)⟩
      · rw [if_neg hi] at h1
        exact ⟨_,_,h1,fun Q' hq=>h2 _ (by simp only [dF,if_neg hi]; exact hq)⟩
    | _=>exact ⟨_,_,h1,fun Q' hq=>h2 _ hq⟩
  | loop c ih =>
    have key:∀ (n:Nat) {Q:Exit→S→Prop} {s:S},jl (aw C c) Q n s→∃ e s',Q e s'∧∀ Q':Exit→S→Prop,Q' e s'→jl (aw C c) Q' n s:=by
      intro n
      induction n with
      | zero=>intro Q s h; exact h.elim
      | succ n ihn =>
        intro Q s h
        obtain ⟨e,s',h1,h2⟩:=ih h
        cases e with
        | normal =>
          obtain ⟨s1,⟨hl,hF⟩|hF⟩:=h1
          · obtain ⟨e,s'',h3,h4⟩:=ihn hF
            exact ⟨e,s'',h3,fun Q' hq=>h2 _ ⟨s1,.inl ⟨hl,h4 _ hq⟩⟩⟩
          · obtain ⟨e,s'',h3,h4⟩:=ihn hF
            exact ⟨e,s'',h3,fun Q' hq=>h2 _ ⟨s1,.inr (h4 _ hq)⟩⟩
        | exit i=>exact ⟨_,_,h1,fun Q' hq=>h2 _ hq⟩
        | ret=>exact ⟨_,_,h1,fun Q' hq=>h2 _ hq⟩
        | _=>exact ⟨_,_,h1,fun Q' hq=>h2 _ hq⟩
    intro Q s h
    obtain ⟨s1,⟨hl,n,hF⟩|⟨n,hF⟩⟩:=h
    · obtain ⟨e,s'',h3,h4⟩:=key n hF
      exact ⟨e,s'',h3,fun Q' hq=>⟨s1,.inl ⟨hl,n,h4 _ hq⟩⟩⟩
    · obtain ⟨e,s'',h3,h4⟩:=key n hF
      exact ⟨e,s'',h3,fun Q' hq=>⟨s1,.inr ⟨n,h4 _ hq⟩⟩⟩
  | exit id=>intro Q s h; exact ⟨_,_,h,fun _ h=>h⟩
  | ret=>intro Q s h; exact ⟨_,_,h,fun _ h=>h⟩
  | eI ops =>
    intro Q s h
    rcases oA h with ⟨s',h1,h2⟩|⟨p,s',h1,h2⟩
    · exact ⟨_,_,h1,fun Q' hq=>h2 _ _ hq⟩
    · exact ⟨_,_,h1,fun Q' hq=>h2 _ _ hq⟩
  | vW ops er =>
    intro Q s h
    obtain ⟨ids,hids,h⟩:=h
    obtain ⟨css,hcss,ro,hd,h⟩:=af h
    obtain ⟨s',h1,h2⟩:=vn h
    exact ⟨_,_,h1,fun Q' hq=>⟨ids,hids,by rw [hcss]; exact ⟨ro,hd,h2 _ hq⟩⟩⟩
  | tA g ps wr as bd iha ihb =>
    intro Q s h
    simp only [aw] at h
    obtain ⟨gv,hgv,xs,h1,h2,F,h3,h4,h5,h6⟩:=af h
    have mono:∀ {F F':S→Prop} {Q:Exit→S→Prop} {t:S},(∀ s,F s→F' s)→aw C as (nU (aw C bd (yw wr F Q))) t→aw C as (nU (aw C bd (yw wr F' Q))) t:=by
      intro F F' Q t hF h
      refine gz (fun e s ha=>?_) h
      cases e<;>first | exact ha.elim | skip
      refine gz (fun e s hb=>?_) ha
      cases e<;>first | exact gp hF hb | exact hb
    have key:∀ n i s',xs.length - i=n→i≤xs.length→F i s'→∃ e s'',Q e s''∧∀ Q':Exit→S→Prop,Q' e s''→∃ F':Nat→S→Prop,F' i s'∧(∀ j t,F' j t→i≤j∧ax t g=some gv) ∧
        (∀ j x t,xs[j]? = some x→F' j t→aw C as (nU (aw C bd (yw wr (F' (j + 1)) Q'))) (lA ps x t))∧∀ t,F' xs.length t→Q' .normal t:=by
      intro n
      induction n with
      | zero =>
        intro i s' hn hi hF
        have hi:i=xs.length:=by omega
        subst hi
        exact ⟨.normal,s',h6 s' hF,fun Q' hq=>⟨fun j t=>j=xs.length∧t=s',⟨rfl,rfl⟩,fun j t ⟨e,e'⟩=>by subst e; subst e'; exact ⟨Nat.le_refl _,h4 _ _ hF⟩,
          fun j x t hx ⟨e,_⟩=>by subst e; simp at hx,fun t ⟨_,e⟩=>by subst e; exact hq⟩⟩
      | succ n ih =>
        intro i s' hn hi hF
        have hlt:i < xs.length:=by omega
        have hx:xs[i]? = some xs[i]:=by simp [hlt]
        obtain ⟨e1,s1,k1,k2⟩:=iha (h5 i _ s' hx hF)
        cases e1<;>try exact k1.elim
        obtain ⟨e2,s2,k3,k4⟩:=ihb k1
        have stop:∀ (e:Exit) (s'':S),Q e s''→(∀ (F':S→Prop) (Q':Exit→S→Prop),Q' e s''→yw wr F' Q' e2 s2)→∃ e s'',Q e s''∧∀ Q':Exit→S→Prop,Q' e s''→∃ F':Nat→S→Prop,F' i s'∧(∀ j t,F' j t→i≤j∧ax t g=some gv) ∧
            (∀ j x t,xs[j]? = some x→F' j t→aw C as (nU (aw C bd (yw wr (F' (j + 1)) Q'))) (lA ps x t))∧∀ t,F' xs.length t→Q' .normal t:=by
          intro e s'' hq hr
          refine ⟨e,s'',hq,fun Q' hq'=>⟨fun j t=>j=i∧t=s',⟨rfl,rfl⟩,fun j t ⟨e,e'⟩=>by subst e; subst e'; exact ⟨Nat.le_refl _,h4 _ _ hF⟩,fun j x t hx' ⟨e,e'⟩=>?_,fun t ⟨e,_⟩=>by omega⟩⟩
          subst e; subst e'
          rw [hx] at hx'; cases hx'
          exact k2 _ (k4 _ (hr _ _ hq'))
        cases e2 with
        | normal =>
          obtain ⟨s3,hs3⟩:∃ s3,F (i + 1) s3∧(Le (qV wr s2) s3∨s3=qV wr s2):=by
            obtain ⟨s3,⟨hl,hf⟩|hf⟩:=(show Eng.down (F (i + 1)) (qV wr s2) from k3)
            · exact ⟨s3,hf,.inl hl⟩
            · exact ⟨_,hf,.inr rfl⟩
          obtain ⟨e,s'',hq,hre⟩:=ih (i + 1) s3 (by omega) (by omega) hs3.1
          refine ⟨e,s'',hq,fun Q' hq'=>?_⟩
          obtain ⟨F'',g1,g2,g3,g4⟩:=hre Q' hq'
          refine ⟨fun j t=>(j=i∧t=s')∨F'' j t,.inl ⟨rfl,rfl⟩,fun j t ht=>?_,fun j x t hx' ht=>?_,fun t ht=>?_⟩
          · rcases ht with ⟨rfl,rfl⟩ | ht
            · exact ⟨Nat.le_refl _,h4 _ _ hF⟩
            · exact ⟨by have:=(g2 j t ht).1; omega,(g2 j t ht).2⟩
          · rcases ht with ⟨rfl,rfl⟩ | ht
            · rw [hx] at hx'; cases hx'
              refine k2 _ (k4 _ (show Eng.down _ _ from ?_))
              rcases hs3.2 with hl|hl
              · exact ⟨s3,.inl ⟨hl,.inr g1⟩⟩
              · rw [← hl]; exact ez (.inr g1)
            · exact mono (fun _ h=>.inr h) (g3 j x t hx' ht)
          · rcases ht with ⟨e,_⟩ | ht
            · omega
            · exact g4 t ht
        | ret=>exact stop .ret _ k3 fun _ _ h=>h
        | exit id=>exact stop (.exit id) _ k3 fun _ _ h=>h
        | _=>exact k3.elim
    obtain ⟨s0,h0⟩:∃ s0,F 0 s0∧(Le s s0∨s0=s):=by
      obtain ⟨s0,⟨hl,hf⟩|hf⟩:=h3
      · exact ⟨s0,hf,.inl hl⟩
      · exact ⟨_,hf,.inr rfl⟩
    obtain ⟨e,s'',hq,hre⟩:=key _ 0 s0 rfl (Nat.zero_le _) h0.1
    refine ⟨e,s'',hq,fun Q' hq'=>?_⟩
    obtain ⟨F',g1,g2,g3,g4⟩:=hre Q' hq'
    simp only [aw,hgv]
    refine ⟨xs,h1,h2,F',?_,fun j t ht=>(g2 j t ht).2,g3,g4⟩
    rcases h0.2 with hl|hl
    · exact ⟨s0,.inl ⟨hl,g1⟩⟩
    · rw [← hl]; exact ez g1
theorem j3 {C:bI} {c:aK} {Q:Exit→S→Prop} {s:S} (h:aw C c (gk (aw C (.loop c) Q) Q) s):aw C (.loop c) Q s:=by
 obtain ⟨e,s',h1,h2⟩:=K7 h
 cases e with
 | normal =>
  obtain ⟨s1,⟨hl,n,hF⟩|⟨n,hF⟩⟩:=h1
  ·exact ez ⟨n + 1,h2 _ ⟨s1,.inl ⟨hl,hF⟩⟩⟩
  ·exact ez ⟨n + 1,h2 _ ⟨s1,.inr hF⟩⟩
 | exit i=>exact ez ⟨1,h2 _ h1⟩
 | ret=>exact ez ⟨1,h2 _ h1⟩
 | _=>exact ez ⟨1,h2 _ h1⟩
theorem fo (p i:Nat):bY p (i + 1)=bY p i++[((p + i:Nat):Int)]:=by simp [bY,List.range_succ]
theorem pF (l:Option (List Int)) (G:Nat):∀ g,(bp l G g).2≤8
 | 0=>by simp [bp]
 | g + 1=>by
  have:=pF l G g
  simp only [bp,aO,bk]
  omega
theorem nF (l:Option (List Int)) (G:Nat):∀ g,(bp l G g).1.length=g
 | 0=>by simp [bp]
 | g + 1=>by
  have:=nF l G g
  simp only [bp,List.length_append,List.length_cons,List.length_nil]
  omega
def Cut {α:Type} (ex:Exit) (st:α→S) (J:α→Prop) (e:Exit) (s:S):Prop:=e=ex∧∃ y,J y∧Le s (st y)
theorem bL {α:Type} {ex:Exit} {st:α→S} {J:α→Prop} {s:S} (y:α) (hy:J y) (hle:Le s (st y)):Cut ex st J ex s:=⟨rfl,y,hy,hle⟩
theorem gV {C:bI} {c:aK} {Q:Exit→S→Prop} {s:S} {F:S→Prop} {α:Type} (ex:Exit) (st:α→S) (J:α→Prop) (hQ:∀ s',Q ex s'=down F s') (h1:aw C c (Cut ex st J) s) (h2:∀ y,J y→F (st y)):aw C c Q s:=by
 refine gz ?_ h1
 rintro e s' ⟨rfl,y,hy,hle⟩
 rw [hQ]
 exact ⟨st y,.inl ⟨hle,h2 y hy⟩⟩
theorem Ev:IntKind.i64.wrap (0 + 1)=1:=by decide
theorem vo:IntKind.i64.wrap (1 + 1)=2:=by decide
theorem aA {α:Type} (f:α→List AV):az f none=.aN:=rfl
theorem ay {α:Type} (f:α→List AV) (l:List α):az f (some l)=.sl (l.map f):=rfl
section
variable {P:Program} (hm:P.follows .mixedOrders=true) {f:Nat}
include hm
theorem rows.ok {fF e eR:Nat} (hc:bU P f=some (jz fF e eR)) (hF:from.Spec (Pure P) fF):rows.Spec (Pure P) f:=by
  intro t l ht hg0
  have hl:=Tb.len ht
  have hp:=Tb.whole ht
  refine rO hm hc (by show 2≤78; decide) rfl (by simp) (aC (keep:=[3,5]) (i:=0) ?_)
  try simp only [I,B,D,RX,↓ KW,Nat.reduceBEq,Nat.reduceAdd,Nat.reduceLeDiff,Int.reduceNe,Int.reduceBEq,Int.reduceEq,reduceCtorEq,Nat.reduceMul,Int.reduceLT,Int.reduceLE,Int.reduceToNat,jz,Z.H]
  have hgr:=aS l 0 (n:=3) (by decide) (by decide)
  refine aj (hF _ _ _ (by decide)) ?_
  try simp only [I,B,D,RX,↓ KW,Nat.reduceBEq,Nat.reduceAdd,Nat.reduceLeDiff,Int.reduceNe,Int.reduceBEq,Int.reduceEq,reduceCtorEq,Nat.reduceMul,Int.reduceLT,Int.reduceLE,Int.reduceToNat]
  have hgn:IntKind.i64.wrap (1 + bD l 0 3)=(dL l:Nat):=by
    rw [aE (by omega) (by omega),dL]; omega
  have hg3:1≤dL l∧dL l≤3:=by unfold dL; omega
  rw [hgn]
  generalize dL l=G at *
  refine aF (fun g:Nat=>(⟨[(7,.dat (I g) none),(5,.dat (I G) none),(1,.dat (az ak l) none),(6,.dat (I (bp l G g).2) none),(0,.ptr 0 0)],[(0,⟨({ t with groups:=aX (bp l G g).1 }:Tb).cells,if (bp l G g).1=[] then [] else [(104,0)]⟩)],aM (bp l G g).1 0 eR,400⟩:S)) (fun g=>G - g) (fun g=>g≤G) ?_ 0 (by omega) ?_
  · intro g hg A back
    have hw:=aB (k:=g) (by omega)
    have hn2:bp l G (g + 1)=((bp l G g).1++[⟨aX (bY (bp l G g).2 (aO (cnt l g 0 0) (bp l G g).2 (bk G g))),aX (bY ((bp l G g).2 + aO (cnt l g 0 0) (bp l G g).2 (bk G g)) (aO (cnt l g 1 (aO (cnt l g 0 0) (bp l G g).2 (bk G g))) ((bp l G g).2 + aO (cnt l g 0 0) (bp l G g).2 (bk G g)) (bk G g)))⟩],(bp l G g).2 + aO (cnt l g 0 0) (bp l G g).2 (bk G g) + aO (cnt l g 1 (aO (cnt l g 0 0) (bp l G g).2 (bk G g))) ((bp l G g).2 + aO (cnt l g 0 0) (bp l G g).2 (bk G g)) (bk G g)):=rfl
    have hp8:(bp l G g).2≤8:=pF l G g
    have hgl:(bp l G g).1.length=g:=nF l G g
    generalize hR:bp l G g=R at *
    obtain ⟨gs,p⟩:=R
    simp only at hn2 hp8 hgl
    have hc0:bD l (1 + 2 * (g:Int) + 0) 3=(cnt l g 0 0:Nat):=by
      have:=aS l (1 + 2 * (g:Int) + 0) (n:=3) (by decide) (by decide)
      have hc:cnt l g 0 0=(bD l (1 + 2 * (g:Int) + 0) 3).toNat:=by simp [cnt]
      rw [hc]; omega
    have hw1:IntKind.i64.wrap (IntKind.i64.wrap (1 + IntKind.i64.wrap (2 * (g:Int))) + 0)=1 + 2 * (g:Int) + 0:=by
      rw [aE (n:=2 * (g:Int)) (by omega) (by omega),aE (n:=1 + 2 * (g:Int)) (by omega) (by omega),aE (by omega) (by omega)]
    have hw2:IntKind.i64.wrap (IntKind.i64.wrap (1 + IntKind.i64.wrap (2 * (g:Int))) + 1)=1 + 2 * (g:Int) + 1:=by
      rw [aE (n:=2 * (g:Int)) (by omega) (by omega),aE (n:=1 + 2 * (g:Int)) (by omega) (by omega),aE (by omega) (by omega)]
    have hlim:IntKind.i64.wrap (8 - IntKind.i64.wrap (IntKind.i64.wrap ((G:Int) - 1) - (g:Int)))=if g < G then ((bk G g:Nat):Int) else (8 - ((G:Int) - 1 - g):Int):=by
      rw [aE (n:=(G:Int) - 1) (by omega) (by omega),aE (n:=(G:Int) - 1 - g) (by omega) (by omega),aE (by omega) (by omega)]
      split<;>simp [bk]<;>omega
    by_cases hgs:gs=[]
    all_goals
      try simp only [I,B,D,RX,↓ KW,Nat.reduceBEq,Nat.reduceAdd,Nat.reduceLeDiff,Int.reduceNe,Int.reduceBEq,Int.reduceEq,reduceCtorEq,Nat.reduceMul,Int.reduceLT,Int.reduceLE,Int.reduceToNat,hgs,aM,aX]
      refine an (fun h=>?_) (fun h=>?_)<;>try simp only [I,B,D,RX,↓ KW,Nat.reduceBEq,Nat.reduceAdd,Nat.reduceLeDiff,Int.reduceNe,Int.reduceBEq,Int.reduceEq,reduceCtorEq,Nat.reduceMul,Int.reduceLT,Int.reduceLE,Int.reduceToNat,hgs,aM,aX,h]
      · have hlt:g < G:=by have:=of_decide_eq_true h; omega
        rw [if_pos hlt] at hlim
        generalize hc0':cnt l g 0 0=n0 at *
        refine gV (.exit 2) (fun _:Unit=>(⟨[(6,.dat (I (p + aO n0 p (bk G g) + aO (cnt l g 1 (aO n0 p (bk G g))) (p + aO n0 p (bk G g)) (bk G g):Nat)) none),(5,.dat (I G) none),(7,.dat (I g) none),(8,.ptr 403 0),(1,.dat (az ak l) none),(0,.ptr 0 0)],[(403,⟨[az ak (aX (bY p (aO n0 p (bk G g)))),az ak (aX (bY (p + aO n0 p (bk G g)) (aO (cnt l g 1 (aO n0 p (bk G g))) (p + aO n0 p (bk G g)) (bk G g))))],[]⟩),(0,⟨({ t with groups:=aX gs }:Tb).cells,if gs=[] then [] else [(104,0)]⟩)],aM gs 0 eR,1000⟩:S)) (fun _=>True) (fun _=>rfl) ?_ ?_
        · refine j3 ?_
          try simp only [I,B,D,RX,↓ KW,Nat.reduceBEq,Nat.reduceAdd,Nat.reduceLeDiff,Int.reduceNe,Int.reduceBEq,Int.reduceEq,reduceCtorEq,Nat.reduceMul,Int.reduceLT,Int.reduceLE,Int.reduceToNat,hgs]
          refine aj (hF _ _ _ (by decide)) ?_
          try simp only [I,B,D,RX,↓ KW,Nat.reduceBEq,Nat.reduceAdd,Nat.reduceLeDiff,Int.reduceNe,Int.reduceBEq,Int.reduceEq,reduceCtorEq,Nat.reduceMul,Int.reduceLT,Int.reduceLE,Int.reduceToNat,hw1,hc0,hgs]
          refine gV (.exit 4) (fun _:Unit=>(⟨[(9,.dat (I 0) none),(6,.dat (I (p + aO n0 (p) (bk G g):Nat)) none),(5,.dat (I G) none),(7,.dat (I g) none),(8,.ptr 403 0),(1,.dat (az ak l) none),(0,.ptr 0 0)],[(403,⟨[az ak (aX (bY (p) (aO n0 (p) (bk G g)))),.aN],[]⟩),(0,⟨({ t with groups:=aX gs }:Tb).cells,if gs=[] then [] else [(104,0)]⟩)],aM gs 0 eR,1000⟩:S)) (fun _=>True) (fun _=>rfl) ?_ ?_
          · refine aF (fun i:Nat=>(⟨[(11,.dat (I i) none),(10,.dat (I n0) none),(6,.dat (I (p + i:Nat)) none),(5,.dat (I G) none),(7,.dat (I g) none),(9,.dat (I 0) none),(8,.ptr 403 0),(1,.dat (az ak l) none),(0,.ptr 0 0)],[(403,⟨[az ak (aX (bY (p) i)),.aN],if bY (p) i=[] then [] else [(0,1)]⟩),(0,⟨({ t with groups:=aX gs }:Tb).cells,if gs=[] then [] else [(104,0)]⟩)],aM (bY (p) i) 1 e++aM gs 0 eR,1000⟩:S)) (fun i=>aO n0 (p) (bk G g) - i) (fun i=>i≤aO n0 (p) (bk G g)) ?_ 0 (by omega) ?_
            · intro i hi A1 back1
              have hfl:aO n0 (p) (bk G g)≤8:=by simp only [aO,bk]; omega
              have hw3:=aB (k:=i) (by omega)
              have hf:aO n0 (p) (bk G g)=min n0 (bk G g - (p)):=rfl
              have hp1:IntKind.i64.wrap (((p + i:Nat):Int) + 1)=((p + (i + 1):Nat):Int):=by rw [aE (by omega) (by omega)]; omega
              have hrl:(bY (p) i).length=i:=by simp [bY]
              by_cases hl:bY (p) i=[]
              · try simp only [I,B,D,RX,↓ KW,Nat.reduceBEq,Nat.reduceAdd,Nat.reduceLeDiff,Int.reduceNe,Int.reduceBEq,Int.reduceEq,reduceCtorEq,Nat.reduceMul,Int.reduceLT,Int.reduceLE,Int.reduceToNat,hl,aM,aX,hlim,hgs]
                repeat' (((first | refine aW ?_ ?_ | refine an ?_ ?_ | refine bh ?_ ?_)<;>intro h)<;>try simp only [I,B,D,RX,↓ KW,Nat.reduceBEq,Nat.reduceAdd,Nat.reduceLeDiff,Int.reduceNe,Int.reduceBEq,Int.reduceEq,reduceCtorEq,Nat.reduceMul,Int.reduceLT,Int.reduceLE,Int.reduceToNat,aA,ay,hlim,hl,hgs,hp1,h])
                · have h1:=of_decide_eq_true h
                  refine ⟨by decide,?_⟩
                  refine ⟨by decide,?_⟩
                  have h2:(i:Int) < n0:=by rename_i h2; exact of_decide_eq_true h2
                  refine back1 (i + 1) _ (by omega) (by omega) (ai (by decide) ?_ ?_ ?_ ?_)<;>simp [LX,I,B,D,hw3,fo,hl,aX,aA,ay,hgs]
                · have h1:=of_decide_eq_false h
                  have:i=aO n0 (p) (bk G g):=by omega
                  rw [← this]
                  refine bL () trivial ?_
                  refine ai (by decide) ?_ ?_ ?_ ?_<;>simp [LX,I,B,D,hl,aX,aA,ay,hgs]
                · have h1:=of_decide_eq_false h
                  have:i=aO n0 (p) (bk G g):=by omega
                  rw [← this]
                  refine bL () trivial ?_
                  refine ai (by decide) ?_ ?_ ?_ ?_<;>simp [LX,I,B,D,hl,aX,aA,ay,hgs]
              · try simp only [I,B,D,RX,↓ KW,Nat.reduceBEq,Nat.reduceAdd,Nat.reduceLeDiff,Int.reduceNe,Int.reduceBEq,Int.reduceEq,reduceCtorEq,Nat.reduceMul,Int.reduceLT,Int.reduceLE,Int.reduceToNat,hl,aM,aX,hlim,hgs]
                repeat' (((first | refine aW ?_ ?_ | refine an ?_ ?_ | refine bh ?_ ?_)<;>intro h)<;>try simp only [I,B,D,RX,↓ KW,Nat.reduceBEq,Nat.reduceAdd,Nat.reduceLeDiff,Int.reduceNe,Int.reduceBEq,Int.reduceEq,reduceCtorEq,Nat.reduceMul,Int.reduceLT,Int.reduceLE,Int.reduceToNat,aA,ay,hlim,hl,hgs,hp1,h])
                · have h1:=of_decide_eq_true h
                  refine ⟨by decide,by omega,by decide,?_⟩
                  have h2:(i:Int) < n0:=by rename_i h2; exact of_decide_eq_true h2
                  refine back1 (i + 1) _ (by omega) (by omega) (ai (by decide) ?_ ?_ ?_ ?_)<;>simp [LX,I,B,D,hw3,fo,hl,aX,aA,ay,hgs]
                · have h1:=of_decide_eq_false h
                  have:i=aO n0 (p) (bk G g):=by omega
                  rw [← this]
                  refine bL () trivial ?_
                  refine ai (by decide) ?_ ?_ ?_ ?_<;>simp [LX,I,B,D,hl,aX,aA,ay,hgs]
                · have h1:=of_decide_eq_false h
                  have:i=aO n0 (p) (bk G g):=by omega
                  rw [← this]
                  refine bL () trivial ?_
                  refine ai (by decide) ?_ ?_ ?_ ?_<;>simp [LX,I,B,D,hl,aX,aA,ay,hgs]
            · refine ai (by decide) ?_ ?_ ?_ ?_<;>simp [LX,I,B,D,bY,aX,aA,ay,hgs]
          · intro _ _
            generalize hm0:aO n0 p (bk G g)=m0 at *
            have hrow0:(aX (bY p m0)).getD []=bY p m0:=bP _
            have hrl0:(bY p m0).length=m0:=by simp [bY]
            have hm8:m0≤8:=by rw [← hm0]; simp only [aO,bk]; omega
            try simp only [I,B,D,RX,↓ KW,Nat.reduceBEq,Nat.reduceAdd,Nat.reduceLeDiff,Int.reduceNe,Int.reduceBEq,Int.reduceEq,reduceCtorEq,Nat.reduceMul,Int.reduceLT,Int.reduceLE,Int.reduceToNat,hgs]
            refine j3 ?_
            try simp only [I,B,D,RX,↓ KW,Nat.reduceBEq,Nat.reduceAdd,Nat.reduceLeDiff,Int.reduceNe,Int.reduceBEq,Int.reduceEq,reduceCtorEq,Nat.reduceMul,Int.reduceLT,Int.reduceLE,Int.reduceToNat,hgs,Ev]
            refine aj (hF _ _ _ (by decide)) ?_
            try simp only [I,B,D,RX,↓ KW,Nat.reduceBEq,Nat.reduceAdd,Nat.reduceLeDiff,Int.reduceNe,Int.reduceBEq,Int.reduceEq,reduceCtorEq,Nat.reduceMul,Int.reduceLT,Int.reduceLE,Int.reduceToNat,hw2,hgs]
            have hr2:=aS l (1 + 2 * (g:Int) + 1) (n:=3) (by decide) (by decide)
            have hcn0:cnt l g 1 m0=if (bD l (1 + 2 * (g:Int) + 1) 3).toNat=0∧m0=0 then 1 else (bD l (1 + 2 * (g:Int) + 1) 3).toNat:=by simp [cnt]
            generalize bD l (1 + 2 * (g:Int) + 1) 3=fr1 at *
            generalize hn1:cnt l g 1 m0=n1 at *
            repeat' (((first | refine aW ?_ ?_ | refine an ?_ ?_ | refine bh ?_ ?_)<;>intro h)<;>try simp only [I,B,D,RX,↓ KW,Nat.reduceBEq,Nat.reduceAdd,Nat.reduceLeDiff,Int.reduceNe,Int.reduceBEq,Int.reduceEq,reduceCtorEq,Nat.reduceMul,Int.reduceLT,Int.reduceLE,Int.reduceToNat,hrow0,hrl0,hgs,h])
            · have hfr:fr1=0:=by simpa using h
              refine ⟨by decide,?_⟩
              refine an (fun hz=>?_) (fun hz=>?_)<;>try simp only [I,B,D,RX,↓ KW,Nat.reduceBEq,Nat.reduceAdd,Nat.reduceLeDiff,Int.reduceNe,Int.reduceBEq,Int.reduceEq,reduceCtorEq,Nat.reduceMul,Int.reduceLT,Int.reduceLE,Int.reduceToNat,hgs,hz]
              · have hz:m0=0:=by simpa using hz
                have hcn:(n1:Int)=1:=by rw [hcn0,if_pos ⟨by omega,hz⟩]; rfl
                refine gV (.exit 4) (fun _:Unit=>(⟨[(9,.dat (I 1) none),(6,.dat (I (p + m0 + aO n1 (p + m0) (bk G g):Nat)) none),(5,.dat (I G) none),(7,.dat (I g) none),(8,.ptr 403 0),(1,.dat (az ak l) none),(0,.ptr 0 0)],[(403,⟨[az ak (aX (bY p m0)),az ak (aX (bY (p + m0) (aO n1 (p + m0) (bk G g))))],[]⟩),(0,⟨({ t with groups:=aX gs }:Tb).cells,if gs=[] then [] else [(104,0)]⟩)],aM gs 0 eR,1000⟩:S)) (fun _=>True) (fun _=>rfl) ?_ ?_
                · refine aF (fun i:Nat=>(⟨[(11,.dat (I i) none),(10,.dat (I n1) none),(6,.dat (I (p + m0 + i:Nat)) none),(5,.dat (I G) none),(7,.dat (I g) none),(9,.dat (I 1) none),(8,.ptr 403 0),(1,.dat (az ak l) none),(0,.ptr 0 0)],[(403,⟨[az ak (aX (bY p m0)),az ak (aX (bY (p + m0) i))],if bY (p + m0) i=[] then [] else [(1,1)]⟩),(0,⟨({ t with groups:=aX gs }:Tb).cells,if gs=[] then [] else [(104,0)]⟩)],aM (bY (p + m0) i) 1 e++aM gs 0 eR,1000⟩:S)) (fun i=>aO n1 (p + m0) (bk G g) - i) (fun i=>i≤aO n1 (p + m0) (bk G g)) ?_ 0 (by omega) ?_
                  · intro i hi A1 back1
                    have hfl:aO n1 (p + m0) (bk G g)≤8:=by simp only [aO,bk]; omega
                    have hw3:=aB (k:=i) (by omega)
                    have hf:aO n1 (p + m0) (bk G g)=min n1 (bk G g - (p + m0)):=rfl
                    have hp1:IntKind.i64.wrap (((p + m0 + i:Nat):Int) + 1)=((p + m0 + (i + 1):Nat):Int):=by rw [aE (by omega) (by omega)]; omega
                    have hrl:(bY (p + m0) i).length=i:=by simp [bY]
                    by_cases hl:bY (p + m0) i=[]
                    · try simp only [I,B,D,RX,↓ KW,Nat.reduceBEq,Nat.reduceAdd,Nat.reduceLeDiff,Int.reduceNe,Int.reduceBEq,Int.reduceEq,reduceCtorEq,Nat.reduceMul,Int.reduceLT,Int.reduceLE,Int.reduceToNat,hl,aM,aX,hlim,hgs,hrow0]
                      repeat' (((first | refine aW ?_ ?_ | refine an ?_ ?_ | refine bh ?_ ?_)<;>intro h)<;>try simp only [I,B,D,RX,↓ KW,Nat.reduceBEq,Nat.reduceAdd,Nat.reduceLeDiff,Int.reduceNe,Int.reduceBEq,Int.reduceEq,reduceCtorEq,Nat.reduceMul,Int.reduceLT,Int.reduceLE,Int.reduceToNat,aA,ay,hlim,hl,hgs,hp1,hrow0,h])
                      · have h1:=of_decide_eq_true h
                        refine ⟨by decide,?_⟩
                        refine ⟨by decide,?_⟩
                        have h2:(i:Int) < n1:=by rename_i h2; exact of_decide_eq_true h2
                        refine back1 (i + 1) _ (by omega) (by omega) (ai (by decide) ?_ ?_ ?_ ?_)<;>simp [LX,I,B,D,hw3,fo,hl,aX,aA,ay,hgs,hrow0]
                      · have h1:=of_decide_eq_false h
                        have:i=aO n1 (p + m0) (bk G g):=by omega
                        rw [← this]
                        refine bL () trivial ?_
                        refine ai (by decide) ?_ ?_ ?_ ?_<;>simp [LX,I,B,D,hl,aX,aA,ay,hgs,hrow0]
                      · have h1:=of_decide_eq_false h
                        have:i=aO n1 (p + m0) (bk G g):=by omega
                        rw [← this]
                        refine bL () trivial ?_
                        refine ai (by decide) ?_ ?_ ?_ ?_<;>simp [LX,I,B,D,hl,aX,aA,ay,hgs,hrow0]
                    · try simp only [I,B,D,RX,↓ KW,Nat.reduceBEq,Nat.reduceAdd,Nat.reduceLeDiff,Int.reduceNe,Int.reduceBEq,Int.reduceEq,reduceCtorEq,Nat.reduceMul,Int.reduceLT,Int.reduceLE,Int.reduceToNat,hl,aM,aX,hlim,hgs,hrow0]
                      repeat' (((first | refine aW ?_ ?_ | refine an ?_ ?_ | refine bh ?_ ?_)<;>intro h)<;>try simp only [I,B,D,RX,↓ KW,Nat.reduceBEq,Nat.reduceAdd,Nat.reduceLeDiff,Int.reduceNe,Int.reduceBEq,Int.reduceEq,reduceCtorEq,Nat.reduceMul,Int.reduceLT,Int.reduceLE,Int.reduceToNat,aA,ay,hlim,hl,hgs,hp1,hrow0,h])
                      · have h1:=of_decide_eq_true h
                        refine ⟨by decide,by omega,by decide,?_⟩
                        have h2:(i:Int) < n1:=by rename_i h2; exact of_decide_eq_true h2
                        refine back1 (i + 1) _ (by omega) (by omega) (ai (by decide) ?_ ?_ ?_ ?_)<;>simp [LX,I,B,D,hw3,fo,hl,aX,aA,ay,hgs,hrow0]
                      · have h1:=of_decide_eq_false h
                        have:i=aO n1 (p + m0) (bk G g):=by omega
                        rw [← this]
                        refine bL () trivial ?_
                        refine ai (by decide) ?_ ?_ ?_ ?_<;>simp [LX,I,B,D,hl,aX,aA,ay,hgs,hrow0]
                      · have h1:=of_decide_eq_false h
                        have:i=aO n1 (p + m0) (bk G g):=by omega
                        rw [← this]
                        refine bL () trivial ?_
                        refine ai (by decide) ?_ ?_ ?_ ?_<;>simp [LX,I,B,D,hl,aX,aA,ay,hgs,hrow0]
                  · refine ai (by decide) ?_ ?_ ?_ ?_<;>simp [LX,I,B,D,bY,aX,aA,ay,hgs,hrow0,hcn]
                · intro _ _
                  try simp only [I,B,D,RX,↓ KW,Nat.reduceBEq,Nat.reduceAdd,Nat.reduceLeDiff,Int.reduceNe,Int.reduceBEq,Int.reduceEq,reduceCtorEq,Nat.reduceMul,Int.reduceLT,Int.reduceLE,Int.reduceToNat,hgs,aX,hrow0]
                  refine j3 ?_
                  try simp only [I,B,D,RX,↓ KW,Nat.reduceBEq,Nat.reduceAdd,Nat.reduceLeDiff,Int.reduceNe,Int.reduceBEq,Int.reduceEq,reduceCtorEq,Nat.reduceMul,Int.reduceLT,Int.reduceLE,Int.reduceToNat,hgs,vo]
                  refine bL () trivial ?_
                  refine ai (by decide) ?_ ?_ ?_ ?_<;>simp [LX,I,B,D,hgs,aX,aA,ay]
              · have hz:¬ m0=0:=by simpa using hz
                have hcn:fr1=(n1:Int):=by rw [hcn0,if_neg (fun hh=>hz hh.2)]; omega
                refine gV (.exit 4) (fun _:Unit=>(⟨[(9,.dat (I 1) none),(6,.dat (I (p + m0 + aO n1 (p + m0) (bk G g):Nat)) none),(5,.dat (I G) none),(7,.dat (I g) none),(8,.ptr 403 0),(1,.dat (az ak l) none),(0,.ptr 0 0)],[(403,⟨[az ak (aX (bY p m0)),az ak (aX (bY (p + m0) (aO n1 (p + m0) (bk G g))))],[]⟩),(0,⟨({ t with groups:=aX gs }:Tb).cells,if gs=[] then [] else [(104,0)]⟩)],aM gs 0 eR,1000⟩:S)) (fun _=>True) (fun _=>rfl) ?_ ?_
                · refine aF (fun i:Nat=>(⟨[(11,.dat (I i) none),(10,.dat (I n1) none),(6,.dat (I (p + m0 + i:Nat)) none),(5,.dat (I G) none),(7,.dat (I g) none),(9,.dat (I 1) none),(8,.ptr 403 0),(1,.dat (az ak l) none),(0,.ptr 0 0)],[(403,⟨[az ak (aX (bY p m0)),az ak (aX (bY (p + m0) i))],if bY (p + m0) i=[] then [] else [(1,1)]⟩),(0,⟨({ t with groups:=aX gs }:Tb).cells,if gs=[] then [] else [(104,0)]⟩)],aM (bY (p + m0) i) 1 e++aM gs 0 eR,1000⟩:S)) (fun i=>aO n1 (p + m0) (bk G g) - i) (fun i=>i≤aO n1 (p + m0) (bk G g)) ?_ 0 (by omega) ?_
                  · intro i hi A1 back1
                    have hfl:aO n1 (p + m0) (bk G g)≤8:=by simp only [aO,bk]; omega
                    have hw3:=aB (k:=i) (by omega)
                    have hf:aO n1 (p + m0) (bk G g)=min n1 (bk G g - (p + m0)):=rfl
                    have hp1:IntKind.i64.wrap (((p + m0 + i:Nat):Int) + 1)=((p + m0 + (i + 1):Nat):Int):=by rw [aE (by omega) (by omega)]; omega
                    have hrl:(bY (p + m0) i).length=i:=by simp [bY]
                    by_cases hl:bY (p + m0) i=[]
                    · try simp only [I,B,D,RX,↓ KW,Nat.reduceBEq,Nat.reduceAdd,Nat.reduceLeDiff,Int.reduceNe,Int.reduceBEq,Int.reduceEq,reduceCtorEq,Nat.reduceMul,Int.reduceLT,Int.reduceLE,Int.reduceToNat,hl,aM,aX,hlim,hgs,hrow0]
                      repeat' (((first | refine aW ?_ ?_ | refine an ?_ ?_ | refine bh ?_ ?_)<;>intro h)<;>try simp only [I,B,D,RX,↓ KW,Nat.reduceBEq,Nat.reduceAdd,Nat.reduceLeDiff,Int.reduceNe,Int.reduceBEq,Int.reduceEq,reduceCtorEq,Nat.reduceMul,Int.reduceLT,Int.reduceLE,Int.reduceToNat,aA,ay,hlim,hl,hgs,hp1,hrow0,h])
                      · have h1:=of_decide_eq_true h
                        refine ⟨by decide,?_⟩
                        refine ⟨by decide,?_⟩
                        have h2:(i:Int) < n1:=by rename_i h2; exact of_decide_eq_true h2
                        refine back1 (i + 1) _ (by omega) (by omega) (ai (by decide) ?_ ?_ ?_ ?_)<;>simp [LX,I,B,D,hw3,fo,hl,aX,aA,ay,hgs,hrow0]
                      · have h1:=of_decide_eq_false h
                        have:i=aO n1 (p + m0) (bk G g):=by omega
                        rw [← this]
                        refine bL () trivial ?_
                        refine ai (by decide) ?_ ?_ ?_ ?_<;>simp [LX,I,B,D,hl,aX,aA,ay,hgs,hrow0]
                      · have h1:=of_decide_eq_false h
                        have:i=aO n1 (p + m0) (bk G g):=by omega
                        rw [← this]
                        refine bL () trivial ?_
                        refine ai (by decide) ?_ ?_ ?_ ?_<;>simp [LX,I,B,D,hl,aX,aA,ay,hgs,hrow0]
                    · try simp only [I,B,D,RX,↓ KW,Nat.reduceBEq,Nat.reduceAdd,Nat.reduceLeDiff,Int.reduceNe,Int.reduceBEq,Int.reduceEq,reduceCtorEq,Nat.reduceMul,Int.reduceLT,Int.reduceLE,Int.reduceToNat,hl,aM,aX,hlim,hgs,hrow0]
                      repeat' (((first | refine aW ?_ ?_ | refine an ?_ ?_ | refine bh ?_ ?_)<;>intro h)<;>try simp only [I,B,D,RX,↓ KW,Nat.reduceBEq,Nat.reduceAdd,Nat.reduceLeDiff,Int.reduceNe,Int.reduceBEq,Int.reduceEq,reduceCtorEq,Nat.reduceMul,Int.reduceLT,Int.reduceLE,Int.reduceToNat,aA,ay,hlim,hl,hgs,hp1,hrow0,h])
                      · have h1:=of_decide_eq_true h
                        refine ⟨by decide,by omega,by decide,?_⟩
                        have h2:(i:Int) < n1:=by rename_i h2; exact of_decide_eq_true h2
                        refine back1 (i + 1) _ (by omega) (by omega) (ai (by decide) ?_ ?_ ?_ ?_)<;>simp [LX,I,B,D,hw3,fo,hl,aX,aA,ay,hgs,hrow0]
                      · have h1:=of_decide_eq_false h
                        have:i=aO n1 (p + m0) (bk G g):=by omega
                        rw [← this]
                        refine bL () trivial ?_
                        refine ai (by decide) ?_ ?_ ?_ ?_<;>simp [LX,I,B,D,hl,aX,aA,ay,hgs,hrow0]
                      · have h1:=of_decide_eq_false h
                        have:i=aO n1 (p + m0) (bk G g):=by omega
                        rw [← this]
                        refine bL () trivial ?_
                        refine ai (by decide) ?_ ?_ ?_ ?_<;>simp [LX,I,B,D,hl,aX,aA,ay,hgs,hrow0]
                  · refine ai (by decide) ?_ ?_ ?_ ?_<;>simp [LX,I,B,D,bY,aX,aA,ay,hgs,hrow0,hcn]
                · intro _ _
                  try simp only [I,B,D,RX,↓ KW,Nat.reduceBEq,Nat.reduceAdd,Nat.reduceLeDiff,Int.reduceNe,Int.reduceBEq,Int.reduceEq,reduceCtorEq,Nat.reduceMul,Int.reduceLT,Int.reduceLE,Int.reduceToNat,hgs,aX,hrow0]
                  refine j3 ?_
                  try simp only [I,B,D,RX,↓ KW,Nat.reduceBEq,Nat.reduceAdd,Nat.reduceLeDiff,Int.reduceNe,Int.reduceBEq,Int.reduceEq,reduceCtorEq,Nat.reduceMul,Int.reduceLT,Int.reduceLE,Int.reduceToNat,hgs,vo]
                  refine bL () trivial ?_
                  refine ai (by decide) ?_ ?_ ?_ ?_<;>simp [LX,I,B,D,hgs,aX,aA,ay]
            · have hfr:¬ fr1=0:=by simpa using h
              have hcn:fr1=(n1:Int):=by rw [hcn0,if_neg (fun hh=>hfr (by omega))]; omega
              refine gV (.exit 4) (fun _:Unit=>(⟨[(9,.dat (I 1) none),(6,.dat (I (p + m0 + aO n1 (p + m0) (bk G g):Nat)) none),(5,.dat (I G) none),(7,.dat (I g) none),(8,.ptr 403 0),(1,.dat (az ak l) none),(0,.ptr 0 0)],[(403,⟨[az ak (aX (bY p m0)),az ak (aX (bY (p + m0) (aO n1 (p + m0) (bk G g))))],[]⟩),(0,⟨({ t with groups:=aX gs }:Tb).cells,if gs=[] then [] else [(104,0)]⟩)],aM gs 0 eR,1000⟩:S)) (fun _=>True) (fun _=>rfl) ?_ ?_
              · refine aF (fun i:Nat=>(⟨[(11,.dat (I i) none),(10,.dat (I n1) none),(6,.dat (I (p + m0 + i:Nat)) none),(5,.dat (I G) none),(7,.dat (I g) none),(9,.dat (I 1) none),(8,.ptr 403 0),(1,.dat (az ak l) none),(0,.ptr 0 0)],[(403,⟨[az ak (aX (bY p m0)),az ak (aX (bY (p + m0) i))],if bY (p + m0) i=[] then [] else [(1,1)]⟩),(0,⟨({ t with groups:=aX gs }:Tb).cells,if gs=[] then [] else [(104,0)]⟩)],aM (bY (p + m0) i) 1 e++aM gs 0 eR,1000⟩:S)) (fun i=>aO n1 (p + m0) (bk G g) - i) (fun i=>i≤aO n1 (p + m0) (bk G g)) ?_ 0 (by omega) ?_
                · intro i hi A1 back1
                  have hfl:aO n1 (p + m0) (bk G g)≤8:=by simp only [aO,bk]; omega
                  have hw3:=aB (k:=i) (by omega)
                  have hf:aO n1 (p + m0) (bk G g)=min n1 (bk G g - (p + m0)):=rfl
                  have hp1:IntKind.i64.wrap (((p + m0 + i:Nat):Int) + 1)=((p + m0 + (i + 1):Nat):Int):=by rw [aE (by omega) (by omega)]; omega
                  have hrl:(bY (p + m0) i).length=i:=by simp [bY]
                  by_cases hl:bY (p + m0) i=[]
                  · try simp only [I,B,D,RX,↓ KW,Nat.reduceBEq,Nat.reduceAdd,Nat.reduceLeDiff,Int.reduceNe,Int.reduceBEq,Int.reduceEq,reduceCtorEq,Nat.reduceMul,Int.reduceLT,Int.reduceLE,Int.reduceToNat,hl,aM,aX,hlim,hgs,hrow0]
                    repeat' (((first | refine aW ?_ ?_ | refine an ?_ ?_ | refine bh ?_ ?_)<;>intro h)<;>try simp only [I,B,D,RX,↓ KW,Nat.reduceBEq,Nat.reduceAdd,Nat.reduceLeDiff,Int.reduceNe,Int.reduceBEq,Int.reduceEq,reduceCtorEq,Nat.reduceMul,Int.reduceLT,Int.reduceLE,Int.reduceToNat,aA,ay,hlim,hl,hgs,hp1,hrow0,h])
                    · have h1:=of_decide_eq_true h
                      refine ⟨by decide,?_⟩
                      refine ⟨by decide,?_⟩
                      have h2:(i:Int) < n1:=by rename_i h2; exact of_decide_eq_true h2
                      refine back1 (i + 1) _ (by omega) (by omega) (ai (by decide) ?_ ?_ ?_ ?_)<;>simp [LX,I,B,D,hw3,fo,hl,aX,aA,ay,hgs,hrow0]
                    · have h1:=of_decide_eq_false h
                      have:i=aO n1 (p + m0) (bk G g):=by omega
                      rw [← this]
                      refine bL () trivial ?_
                      refine ai (by decide) ?_ ?_ ?_ ?_<;>simp [LX,I,B,D,hl,aX,aA,ay,hgs,hrow0]
                    · have h1:=of_decide_eq_false h
                      have:i=aO n1 (p + m0) (bk G g):=by omega
                      rw [← this]
                      refine bL () trivial ?_
                      refine ai (by decide) ?_ ?_ ?_ ?_<;>simp [LX,I,B,D,hl,aX,aA,ay,hgs,hrow0]
                  · try simp only [I,B,D,RX,↓ KW,Nat.reduceBEq,Nat.reduceAdd,Nat.reduceLeDiff,Int.reduceNe,Int.reduceBEq,Int.reduceEq,reduceCtorEq,Nat.reduceMul,Int.reduceLT,Int.reduceLE,Int.reduceToNat,hl,aM,aX,hlim,hgs,hrow0]
                    repeat' (((first | refine aW ?_ ?_ | refine an ?_ ?_ | refine bh ?_ ?_)<;>intro h)<;>try simp only [I,B,D,RX,↓ KW,Nat.reduceBEq,Nat.reduceAdd,Nat.reduceLeDiff,Int.reduceNe,Int.reduceBEq,Int.reduceEq,reduceCtorEq,Nat.reduceMul,Int.reduceLT,Int.reduceLE,Int.reduceToNat,aA,ay,hlim,hl,hgs,hp1,hrow0,h])
                    · have h1:=of_decide_eq_true h
                      refine ⟨by decide,by omega,by decide,?_⟩
                      have h2:(i:Int) < n1:=by rename_i h2; exact of_decide_eq_true h2
                      refine back1 (i + 1) _ (by omega) (by omega) (ai (by decide) ?_ ?_ ?_ ?_)<;>simp [LX,I,B,D,hw3,fo,hl,aX,aA,ay,hgs,hrow0]
                    · have h1:=of_decide_eq_false h
                      have:i=aO n1 (p + m0) (bk G g):=by omega
                      rw [← this]
                      refine bL () trivial ?_
                      refine ai (by decide) ?_ ?_ ?_ ?_<;>simp [LX,I,B,D,hl,aX,aA,ay,hgs,hrow0]
                    · have h1:=of_decide_eq_false h
                      have:i=aO n1 (p + m0) (bk G g):=by omega
                      rw [← this]
                      refine bL () trivial ?_
                      refine ai (by decide) ?_ ?_ ?_ ?_<;>simp [LX,I,B,D,hl,aX,aA,ay,hgs,hrow0]
                · refine ai (by decide) ?_ ?_ ?_ ?_<;>simp [LX,I,B,D,bY,aX,aA,ay,hgs,hrow0,hcn]
              · intro _ _
                try simp only [I,B,D,RX,↓ KW,Nat.reduceBEq,Nat.reduceAdd,Nat.reduceLeDiff,Int.reduceNe,Int.reduceBEq,Int.reduceEq,reduceCtorEq,Nat.reduceMul,Int.reduceLT,Int.reduceLE,Int.reduceToNat,hgs,aX,hrow0]
                refine j3 ?_
                try simp only [I,B,D,RX,↓ KW,Nat.reduceBEq,Nat.reduceAdd,Nat.reduceLeDiff,Int.reduceNe,Int.reduceBEq,Int.reduceEq,reduceCtorEq,Nat.reduceMul,Int.reduceLT,Int.reduceLE,Int.reduceToNat,hgs,vo]
                refine bL () trivial ?_
                refine ai (by decide) ?_ ?_ ?_ ?_<;>simp [LX,I,B,D,hgs,aX,aA,ay]
        · intro _ _
          have hgc:=Tb.xU (t:={ t with groups:=aX gs }) ht.phases
          have hln:=Tb.len' (t:={ t with groups:=aX gs }) ht.phases ht.conflict ht.br
          have hset:=Tb.xV (t:={ t with groups:=aX gs }) ht.phases (some (gs++[⟨aX (bY p (aO n0 p (bk G g))),aX (bY (p + aO n0 p (bk G g)) (aO (cnt l g 1 (aO n0 p (bk G g))) (p + aO n0 p (bk G g)) (bk G g)))⟩]))
          simp only [hgs,aX,if_true,if_false] at hgc hln hset
          try simp only [I,B,D,RX,↓ KW,Nat.reduceBEq,Nat.reduceAdd,Nat.reduceLeDiff,Int.reduceNe,Int.reduceBEq,Int.reduceEq,reduceCtorEq,Nat.reduceMul,Int.reduceLT,Int.reduceLE,Int.reduceToNat,hgc,aA,ay,Gr.len,hgl,hgs,aX]
          try refine ⟨by omega,?_⟩
          try refine ⟨by simp [aM,hgs,cw],?_⟩
          try refine ⟨by omega,?_⟩
          simp [ay,Gr.cells,hgs] at hset
          refine back (g + 1) _ (by omega) (by omega) (ai (by decide) ?_ ?_ ?_ ?_)<;>simp [LX,I,B,D,hn2,hw,hgs,aX,ay,aA,Gr.cells,hset]
          trace_state
      · have hgG:g=G:=by have:=of_decide_eq_false h; omega
        subst hgG
        first
          | (exfalso; rw [hgs] at hgl; simp at hgl; omega)
          | exact ⟨by rw [hR],by rw [hR]⟩
  · have:({ t with groups:=none }:Tb)=t:=by cases t; simp_all
    refine ai (by decide) ?_ ?_ ?_ ?_<;>simp [LX,I,B,D,bp,aX,this]
end
end Go.Eng
