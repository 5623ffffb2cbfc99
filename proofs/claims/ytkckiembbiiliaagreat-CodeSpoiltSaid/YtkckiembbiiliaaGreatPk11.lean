/- The engine and the library,part 11 of 18: what the proofs of this seat need of them. -/
import Derived.Test.YtkckiembbiiliaaGreatPk10
set_option linter.unnecessarySimpa false
set_option linter.unusedSimpArgs false
set_option linter.unusedVariables false
set_option linter.defProp false
set_option maxRecDepth 10000
set_option maxHeartbeats 4000000
namespace Go.Eng
open Go
def kV(t:Tb) (p:Int) (n:Nat):List Int:=vK t (fh t p).1.group::(List.range n).map fun(g:Nat)=>vK t g
theorem Ca(t:Tb) (p:Int) (n:Nat):kV t p (n+1)=kV t p n++[vK t n]:=by simp[kV,List.range_succ]
def jq(t:Tb) (n:Nat):List Int:=(List.range n).map fun(k:Nat)=>jM [x3 t k,(xZ t k).stay]
theorem Cb(t:Tb) (n:Nat):jq t (n+1)=jq t n++[jM [x3 t n,(xZ t n).stay]]:=by simp[jq,List.range_succ]
def mA(t:Tb) (l:List Int):List Int:=l.flatMap fun p=>[nU (dS t p).min,jM [(dS t p).walk,(dS t p).ep]]
theorem vM{t:Tb} {l:List Int} {i:Nat} {x:Int} (h:l[i]? =some x):mA t (l.take (i+1))=mA t (l.take i)++[nU (dS t x).min,jM [(dS t x).walk,(dS t x).ep]]:=by rw[jx h];simp[mA]
theorem Dw(t:Tb) (l:List Int):(mA t l).length=l.length*2:=by
 induction l with
 |nil=>rfl
 |cons x l ih=>simp only[mA,List.flatMap_cons,List.length_append,List.length_cons,List.length_nil]at ih⊢;omega
def Ep(t:Tb):Int:=if(t.aZ.getD []).length=0 then 0 else jM [mX (jq t (t.aZ.getD []).length),mX (mA t (jc (B8 t))),qw t,t.revert,30]
def AN.Spec(C:bt) (f:Nat):Prop:=∀(t:Tb),t.Ok->C.c f [.agg t.cells] (I (Ep t)) none
def lp(t:Tb) (p:Int):Int:=if o3 t p=0\/(t.aZ.getD []).length=0 then o3 t p else jM [Tk (jM [t.share,1]) (jM [Ep t,o3 t p,2]),t.share]
def wait.Spec(C:bt) (f:Nat):Prop:=∀(t:Tb) (p:Int),t.Ok->C.c f [.agg t.cells,I p] (I (lp t p)) none
theorem Rl.len(r:Rl):r.cells.length=11:=rfl
theorem x6{t:Tb} {k:Int} (h0:0<=k) (h1:k<((t.aZ.getD []).length:Int)):(t.aZ.getD [])[k.toNat]? =some (xZ t k):=by
 have:k.toNat<(t.aZ.getD []).length:=by omega
 simp[xZ,this]
section
variable{P:Program} (hm:P.follows .mixedOrders=true) {f:Nat}
include hm
theorem free.ok{fW fO fH fP e fs:Nat} (hc:dY P f=some (nA fW fO fH fP e fs)) (hW:where.Spec (Pure P) fW) (hO:on.Spec (Pure P) fO) (hH:sW.Spec (Pure P) fH) (hP:pass.Spec (Pure P) fP) (hs:t9.Spec (Pure P) fs):free.Spec (Pure P) f:=by
 intro t p ht
 have hl:=Tb.len ht
 have hp:=Tb.whole ht
 have hg:=Tb.uQ ht
 have hb:=ht.groups
 refine aH hm hc (by show 2<=44;decide) (ay (keep:=[]) (i:=0) ?_)
 try simp only[I,B,D,RX,↓KW,seval,nA,Z.H,hp,hl]
 refine aj (hW t _ ht) ?_;try simp only[I,B,D,RX,↓KW,seval,hp,Sp.cells]
 by_cases h0:((fh t p).2&&o9 (B8 t) p)=true
 ·have hx:o3 t p=jM (kV t p (t.groups.getD []).length):=if_pos h0
  simp only[Bool.and_eq_true]at h0;try simp only[I,B,D,RX,↓KW,seval,h0,hp]
  refine aj (hO t ht) ?_;try simp only[I,B,D,RX,↓KW,seval]
  refine aj (hH _ _) ?_;try simp only[I,B,D,RX,↓KW,seval,h0,hp]
  refine aj (hP t _ ht) ?_;try simp only[I,B,D,RX,↓KW,seval]
  refine aP (fun k:Nat=>(⟨[(8,.dat (I k) none),(2,.ptr 4 0),(7,d6 aG (kV t p k) 0)],[(4,⟨t.cells,[]⟩)],bW (kV t p k) 0 e,400⟩:S)) (fun k=>(t.groups.getD []).length-k) (fun k=>k<=(t.groups.getD []).length) ?_ 0 (by omega) ?_
  ·intro k hk A back
   have hw:=aN (k:=k) (by omega)
   have hne:kV t p k≠[]:=by simp[kV]
   have hn:=Ca t p k
   have hlen:(kV t p k).length=k+1:=by simp[kV]
   try simp only[I,B,D,RX,↓KW,seval,d6,bW,hne,hg]
   refine ax (fun h=>?_) (fun h=>?_)<;>try simp only[I,B,D,RX,↓KW,seval,hp,h]
   ·have:k<(t.groups.getD []).length:=by have:=of_decide_eq_true h;omega
    refine aj (hP t _ ht) ?_;try simp only[I,B,D,RX,↓KW,seval]
    refine⟨by omega,?_⟩
    refine back (k+1) _ (by omega) (by omega) (ai (by decide) ?_ ?_ ?_ ?_)<;>simp[LX,I,B,D,hn,hw,hne]
   ·have:k=(t.groups.getD []).length:=by have:=of_decide_eq_false h;omega
    subst this;try simp only[I,B,D,RX,↓KW,seval]
    refine aj (hs (some (kV t p (t.groups.getD []).length)) (by simp;omega)) ?_
    try simp only[I,B,D,RX,↓KW,seval,hx]
    rfl
  ·refine ai (by decide) ?_ ?_ ?_ ?_<;>simp[LX,I,B,D,kV]
 ·have hx:o3 t p=0:=if_neg h0
  repeat' (first|((first|refine aj (hO t ht) ?_|refine aj (hH _ _) ?_);try simp only[I,B,D,RX,↓KW,seval,hp,hx])|(((first|refine bz ?_ ?_|refine ax ?_ ?_|refine cv ?_ ?_)<;>intro h)<;>try simp only[I,B,D,RX,↓KW,seval,hp,hx,h]))
  all_goals simp_all
theorem entry.ok{fC e fs:Nat} (hc:dY P f=some (mq fC e fs)) (hC:clear.Spec (Pure P) fC) (hs:t9.Spec (Pure P) fs):entry.Spec (Pure P) f:=by
 intro t k ht
 have hl:=Tb.len ht
 have hp:=Tb.whole ht
 have hg:=Tb.xY ht
 have h119:=Tb.tail_at ht 3 (by omega)
 refine aH hm hc (by show 2<=50;decide) (ay (keep:=[]) (i:=0) ?_)
 try simp only[I,B,D,RX,↓KW,seval,mq,Z.H,hp,hl]
 by_cases h0:k<0\/((t.aZ.getD []).length:Int)<=k
 ·have hx:x3 t k=0:=if_pos h0
  repeat' (((first|refine bz ?_ ?_|refine ax ?_ ?_|refine cv ?_ ?_)<;>intro h)<;>try simp only[I,B,D,RX,↓KW,seval,hg,hx,h])
  simp_all;omega
 ·have hx:=show x3 t k=_ from if_neg h0
  have h1:decide (k<0)=false:=by simp;omega
  have h2:decide (((t.aZ.getD []).length:Int)<=k)=false:=by simp;omega
  have hr:=x6 (t:=t) (k:=k) (by omega) (by omega)
  try simp only[I,B,D,RX,↓KW,seval,h1,h2,hg]
  refine⟨by omega,?_⟩
  try simp only[I,B,D,RX,↓KW,seval,hr,Rl.len,Rl.cells,eY,hp]
  refine aj (hC t ht) ?_;try simp only[I,B,D,RX,↓KW,seval,h119]
  refine aj (hs (some [_,_,_,_,_,_,_,_,_,_,_,_,_,_,_,_]) (by simp)) ?_
  try simp only[I,B,D,RX,↓KW,seval,hx]
  rfl
theorem wait.ok{fF e fs fO fM:Nat} (hc:dY P f=some (nw fF e fs fO fM)) (hF:free.Spec (Pure P) fF) (hs:t9.Spec (Pure P) fs) (hO:AN.Spec (Pure P) fO) (hM:Mul.Spec (Pure P) fM):wait.Spec (Pure P) f:=by
 intro t p ht
 have hl:=Tb.len ht
 have hp:=Tb.whole ht
 have hg:=Tb.xY ht
 have h130:=Tb.HU ht
 refine aH hm hc (by show 2<=32;decide) (ay (keep:=[]) (i:=0) ?_)
 try simp only[I,B,D,RX,↓KW,seval,nw,Z.H,hp,hl]
 refine aj (hF t _ ht) ?_;try simp only[I,B,D,RX,↓KW,seval,hg]
 by_cases h0:o3 t p=0\/(t.aZ.getD []).length=0
 ·have hx:lp t p=o3 t p:=if_pos h0
  repeat' (((first|refine bz ?_ ?_|refine ax ?_ ?_|refine cv ?_ ?_)<;>intro h)<;>try simp only[I,B,D,RX,↓KW,seval,hg,hx,h])
  simp_all
 ·have hx:=show lp t p=_ from if_neg h0
  have h1:(o3 t p==0)=false:=by simp;omega
  have h2:(((t.aZ.getD []).length:Int)==0)=false:=beq_false_of_ne (by omega)
  try simp only[I,B,D,RX,↓KW,seval,h1,h2,hg,h130]
  refine aj (hs (some [_,_]) (by simp)) ?_
  try simp only[I,B,D,RX,↓KW,seval,hp]
  refine aj (hO t ht) ?_;try simp only[I,B,D,RX,↓KW,seval]
  refine aj (hs (some [_,_,_]) (by simp)) ?_
  try simp only[I,B,D,RX,↓KW,seval,hp]
  refine aj (hM _ _) ?_;try simp only[I,B,D,RX,↓KW,seval,h130]
  refine aj (hs (some [_,_]) (by simp)) ?_
  try simp only[I,B,D,RX,↓KW,seval,hx]
  rfl
theorem AN.ok{fE e fs fO fL fC fM fcl:Nat} (hc:dY P f=some (sj fE e fs fO fL fC fM fcl)) (hE:entry.Spec (Pure P) fE) (hs:t9.Spec (Pure P) fs) (hO:on.Spec (Pure P) fO) (hL:oE.Spec (Pure P) fL e) (hC:Cap.Spec (Pure P) fC) (hM:most.Spec (Pure P) fM) (hcl:clear.Spec (Pure P) fcl):AN.Spec (Pure P) f:=by
 intro t ht
 have hl:=Tb.len ht
 have hp:=Tb.whole ht
 have hg:=Tb.xY ht
 have hb:=ht.aZ
 have h119:=Tb.tail_at ht 3 (by omega)
 refine aH hm hc (by show 1<=73;decide) (ay (keep:=[]) (i:=0) ?_)
 try simp only[I,B,D,RX,↓KW,seval,sj,Z.H,hp,hl,hg]
 by_cases h0:(t.aZ.getD []).length=0
 ·have hx:Ep t=0:=if_pos h0
  repeat' (((first|refine bz ?_ ?_|refine ax ?_ ?_|refine cv ?_ ?_)<;>intro h)<;>try simp only[I,B,D,RX,↓KW,seval,hg,hx,h])
  simp_all
 ·have hx:=show Ep t=_ from if_neg h0
  have h2:(((t.aZ.getD []).length:Int)==0)=false:=beq_false_of_ne (by omega)
  try simp only[I,B,D,RX,↓KW,seval,h2]
  refine aP (fun k:Nat=>(⟨[(5,.dat (I k) none),(1,.ptr 4 0),(4,.dat (.bI) none),(3,d6 aG (jq t k) 0)],[(4,⟨t.cells,[]⟩)],bW (jq t k) 0 e,400⟩:S)) (fun k=>(t.aZ.getD []).length-k) (fun k=>k<=(t.aZ.getD []).length) ?_ 0 (by omega) ?_
  ·intro k hk A back
   have hw:=aN (k:=k) (by omega)
   have hn:=Cb t k
   have hlen:(jq t k).length=k:=by simp[jq]
   by_cases hl:jq t k=[]
   all_goals
    try simp only[I,B,D,RX,↓KW,seval,d6,bW,hl,hg]
    refine ax (fun h=>?_) (fun h=>?_)<;>try simp only[I,B,D,RX,↓KW,seval,hp,h]
   ·have:k<(t.aZ.getD []).length:=by have:=of_decide_eq_true h;omega
    have hr:=x6 (t:=t) (k:=k) (by omega) (by omega)
    rw[Int.toNat_natCast]at hr;refine aj (hE t _ ht) ?_;try simp only[I,B,D,RX,↓KW,seval,hg]
    refine⟨by omega,?_⟩
    try simp only[I,B,D,RX,↓KW,seval,hr,Rl.len,Rl.cells]
    refine aj (hs (some [_,_]) (by simp)) ?_
    try simp only[I,B,D,RX,↓KW,seval]
    refine back (k+1) _ (by omega) (by omega) (ai (by decide) ?_ ?_ ?_ ?_)<;>simp[LX,I,B,D,hn,hw,hl]
   ·exfalso
    have:=of_decide_eq_false h
    rw[hl]at hlen;simp at hlen;omega
   ·have:k<(t.aZ.getD []).length:=by have:=of_decide_eq_true h;omega
    have hr:=x6 (t:=t) (k:=k) (by omega) (by omega)
    rw[Int.toNat_natCast]at hr;refine aj (hE t _ ht) ?_;try simp only[I,B,D,RX,↓KW,seval,hg]
    refine⟨by omega,?_⟩
    try simp only[I,B,D,RX,↓KW,seval,hr,Rl.len,Rl.cells]
    refine aj (hs (some [_,_]) (by simp)) ?_
    try simp only[I,B,D,RX,↓KW,seval]
    refine⟨by omega,?_⟩
    refine back (k+1) _ (by omega) (by omega) (ai (by decide) ?_ ?_ ?_ ?_)<;>simp[LX,I,B,D,hn,hw,hl]
   ·have:k=(t.aZ.getD []).length:=by have:=of_decide_eq_false h;omega
    subst this;try simp only[I,B,D,RX,↓KW,seval,hp]
    refine aj (hO t ht) ?_;try simp only[I,B,D,RX,↓KW,seval]
    refine aj (hL _ none (.inl rfl)) ?_;try simp only[I,B,D,RX,↓KW,seval]
    have hlen:=zI (B8 t)
    have hrg:=@vL (B8 t)
    have hmk:=cm (jc (B8 t))
    generalize jc (B8 t)=L at*
    have hmst:mX (jq t (t.aZ.getD []).length)=mX (jq t (t.aZ.getD []).length):=rfl
    refine aP (fun k:Nat=>(⟨[(37,.dat (I k) none),(36,.dat (I L.length) none),(35,.dat (aJ aG (bw L)) none),(1,.ptr 4 0),(3,.dat (.sl ((jq t (t.aZ.getD []).length).map aG)) none),(4,d6 aG (mA t (L.take k)) 0)],[(4,⟨t.cells,[]⟩)],bW (mA t (L.take k)) 0 e,400⟩:S)) (fun k=>L.length-k) (fun k=>k<=L.length) ?_ 0 (by omega) ?_
    ·intro k hk A back
     have hw:=aN (k:=k) (by omega)
     have hln:(mA t (L.take k)).length<=16:=by rw[Dw];have:=List.length_take_le k L;omega
     by_cases hl:mA t (L.take k)=[]
     all_goals
      try simp only[I,B,D,RX,↓KW,seval,d6,bW,hl]
      refine ax (fun h=>?_) (fun h=>?_)<;>try simp only[I,B,D,RX,↓KW,seval,hmk,h]
     ·have hlt:k<L.length:=by have:=of_decide_eq_true h;omega
      obtain⟨x,hx2⟩:∃x,L[k]? =some x:=⟨_,List.getElem?_eq_getElem hlt⟩
      have hx8:=hrg (List.mem_of_getElem? hx2)
      have hph:=Tb.AM ht hx8.1 hx8.2
      have hn:=vM (t:=t) hx2
      refine⟨by omega,?_⟩
      try simp only[I,B,D,RX,↓KW,seval,hx2,aG]
      refine⟨by omega,?_⟩
      try simp only[I,B,D,RX,↓KW,seval,hph]
      refine aj (hC _) ?_;try simp only[I,B,D,RX,↓KW,seval,hph]
      refine⟨by omega,?_⟩
      try simp only[I,B,D,RX,↓KW,seval,hph]
      refine⟨by omega,?_⟩
      try simp only[I,B,D,RX,↓KW,seval,hph]
      refine aj (hs (some [_,_]) (by simp)) ?_
      try simp only[I,B,D,RX,↓KW,seval]
      refine back (k+1) _ (by omega) (by omega) (ai (by decide) ?_ ?_ ?_ ?_)<;>simp[LX,I,B,D,hn,hw,hl]
     ·have:k=L.length:=by have:=of_decide_eq_false h;omega
      subst this;rw[List.take_length]at hl hln;try simp only[I,B,D,RX,↓KW,seval]
      refine aj (hM (some _) (by simp[jq];omega)) ?_
      try simp only[I,B,D,RX,↓KW,seval]
      refine aj (hM none (by simp)) ?_
      try simp only[I,B,D,RX,↓KW,seval,hp]
      refine aj (hcl t ht) ?_;try simp only[I,B,D,RX,↓KW,seval,h119]
      refine aj (hs (some [_,_,_,_,_]) (by simp)) ?_
      try simp only[I,B,D,RX,↓KW,seval,hx,hl]
      rfl
     ·have hlt:k<L.length:=by have:=of_decide_eq_true h;omega
      obtain⟨x,hx2⟩:∃x,L[k]? =some x:=⟨_,List.getElem?_eq_getElem hlt⟩
      have hx8:=hrg (List.mem_of_getElem? hx2)
      have hph:=Tb.AM ht hx8.1 hx8.2
      have hn:=vM (t:=t) hx2
      refine⟨by omega,?_⟩
      try simp only[I,B,D,RX,↓KW,seval,hx2,aG]
      refine⟨by omega,?_⟩
      try simp only[I,B,D,RX,↓KW,seval,hph]
      refine aj (hC _) ?_;try simp only[I,B,D,RX,↓KW,seval,hph]
      refine⟨by omega,?_⟩
      try simp only[I,B,D,RX,↓KW,seval,hph]
      refine⟨by omega,?_⟩
      try simp only[I,B,D,RX,↓KW,seval,hph]
      refine aj (hs (some [_,_]) (by simp)) ?_
      try simp only[I,B,D,RX,↓KW,seval]
      refine⟨by omega,?_⟩
      refine back (k+1) _ (by omega) (by omega) (ai (by decide) ?_ ?_ ?_ ?_)<;>simp[LX,I,B,D,hn,hw,hl]
     ·have:k=L.length:=by have:=of_decide_eq_false h;omega
      subst this;rw[List.take_length]at*;try simp only[I,B,D,RX,↓KW,seval]
      refine aj (hM (some _) (by simp[jq];omega)) ?_
      try simp only[I,B,D,RX,↓KW,seval]
      refine aj (hM (some _) (by simp;omega)) ?_
      try simp only[I,B,D,RX,↓KW,seval,hp]
      refine aj (hcl t ht) ?_;try simp only[I,B,D,RX,↓KW,seval,h119]
      refine aj (hs (some [_,_,_,_,_]) (by simp)) ?_
      try simp only[I,B,D,RX,↓KW,seval,hx,hl]
      rfl
    ·refine ai (by decide) ?_ ?_ ?_ ?_<;>simp[LX,I,B,D,hmk,mA]
  ·refine ai (by decide) ?_ ?_ ?_ ?_<;>simp[LX,I,B,D,jq]
end
section
open Z
def su:cU:=⟨15,[.tmp 2,.tmp 3],r [V 2 (i 0),V 3 (F)] (j (r [M 4 0,o 5 (bb .geq 4 (.float .f64 0)),M 6 5,p 7 (m 0) 6,p 8 (bb .leq 7 (.float .f64 4652006429231887155)) 6,o 9 (P 6 8),o 10 (.un .not (t 9))] (c 10 (r [V 2 (i 0),V 3 (F)] y) z)) (r [M 11 0,o 12 (.bin .mul (k (.float .f64 4621819117588971520)) (t 11)),o 13 (.xt .rte (t 12)),o 14 (.Bu .i64 (t 13)),M 2 14,V 3 (T)] y))⟩
end
open Ieee
set_option exponentiation.threshold 4000
def ru(n d:Nat):Nat:=n/2^d+(if 2^d<2*(n%2^d)\/(2^d=2*(n%2^d)/\n/2^d%2=1)then 1 else 0)
theorem bT(d:Nat):0<2^d:=Nat.two_pow_pos d
theorem HW(n d:Nat):ru n d<=n/2^d+1:=by unfold ru;split<;>omega
theorem HX(n d:Nat):n/2^d<=ru n d:=by unfold ru;omega
theorem HY(n:Nat):ru n 0=n:=by simp[ru,Nat.mod_one]
theorem lU(n d k:Nat):ru (n*2^k) (d+k)=ru n d:=by
 unfold ru;rw[Nat.pow_add,Nat.mul_div_mul_right _ _ (bT k),Nat.mul_mod_mul_right]
 have hk:=bT k
 have e1:(2^d*2^k<2*(n%2^d*2^k))↔(2^d<2*(n%2^d)):=by
  rw[<-Nat.mul_assoc];exact Nat.mul_lt_mul_right hk
 have e2:(2^d*2^k=2*(n%2^d*2^k))↔(2^d=2*(n%2^d)):=by
  rw[<-Nat.mul_assoc];exact Nat.mul_left_inj (by omega)
 simp only[e1,e2]
theorem ud{n n':Nat} (h:n<=n') (d:Nat):ru n d<=ru n' d:=by
 have hp:=bT d
 have hq:n/2^d<=n'/2^d:=Nat.div_le_div_right h
 by_cases he:n/2^d=n'/2^d
 ·unfold ru
  rw[he]
  have h1:=Nat.div_add_mod n (2^d)
  have h2:=Nat.div_add_mod n' (2^d)
  rw[he]at h1
  have hr:n%2^d<=n'%2^d:=by omega
  split<;>split<;>omega
 ·have h1:=HW n d
  have h2:=HX n' d
  omega
theorem FN{n d:Nat} (q:Nat):ru (q*2^d) d=q:=by
 have:=lU q 0 d
 rw[Nat.zero_add,HY]at this;exact this
theorem nW(n:Nat):n<2^(n.log2+1):=Nat.lt_log2_self
theorem Cc(s:Bool) (n d:Nat):Toward.even.cut s n d=ru n d:=by
 unfold Toward.cut;simp only[Nat.one_shiftLeft]
 by_cases hd:d<=n.log2+2
 ·rw[Nat.min_eq_left hd]
  unfold ru
  congr 1
  by_cases h1:2^d<2*(n%2^d)
  ·simp[h1]
  ·by_cases h2:2^d=2*(n%2^d)
   ·by_cases h3:n/2^d%2=1
    ·simp[<-h2,h3]
    ·simp[<-h2,h3]
   ·simp[h1,h2]
 ·rw[Nat.min_eq_right (by omega)]
  have hl:=nW n
  have h2:2^(n.log2+2)=2*2^(n.log2+1):=by rw[Nat.pow_succ,Nat.mul_comm]
  have hd2:2^(n.log2+2)<=2^d:=Nat.pow_le_pow_right (by omega) (by omega)
  have e1:n/2^(n.log2+2)=0:=Nat.div_eq_of_lt (by omega)
  have e2:n%2^(n.log2+2)=n:=Nat.mod_eq_of_lt (by omega)
  have e3:n/2^d=0:=Nat.div_eq_of_lt (by omega)
  have e4:n%2^d=n:=Nat.mod_eq_of_lt (by omega)
  unfold ru;rw[e1,e2,e3,e4]
  have c1:¬(2^(n.log2+2)<2*n):=by omega
  have c2:¬(2^(n.log2+2)=2*n):=by omega
  have c3:¬(2^d<2*n):=by omega
  have c4:¬(2^d=2*n):=by omega
  simp[c1,c2,c3,c4]
def rV(r:Nat):Nat:=if r<2^52 then r else(2^52+r%2^52)*2^(r/2^52-1)
theorem AO{r r':Nat} (h:r<=r'):rV r<=rV r':=by
 unfold rV
 have hd:r/2^52<=r'/2^52:=Nat.div_le_div_right h
 have hm:=Nat.mod_lt r (bT 52)
 have hm':=Nat.mod_lt r' (bT 52)
 split
 ·split
  ·exact h
  ·have:1<=2^(r'/2^52-1):=bT _
   calc r<=2^52+r'%2^52:=by omega
    _=(2^52+r'%2^52)*1:=by omega
    _<=_:=Nat.mul_le_mul_left _ this
 ·split
  ·omega
  ·by_cases he:r/2^52=r'/2^52
   ·rw[he]
    have h1:=Nat.div_add_mod r (2^52)
    have h2:=Nat.div_add_mod r' (2^52)
    rw[he]at h1
    exact Nat.mul_le_mul_right _ (by omega)
   ·have h0:1<=r/2^52:=by
     have:2^52<=r:=by omega
     exact(Nat.le_div_iff_mul_le (bT 52)).2 (by omega)
    calc (2^52+r%2^52)*2^(r/2^52-1)<=2^53*2^(r/2^52-1):=Nat.mul_le_mul_right _ (by omega)
     _=2^52*2^(r/2^52):=by rw[<-Nat.pow_add,<-Nat.pow_add];congr 1;omega
     _<=2^52*2^(r'/2^52-1):=Nat.mul_le_mul_left _ (Nat.pow_le_pow_right (by omega) (by omega))
     _<=_:=Nat.mul_le_mul_right _ (by omega)
def Lg(N:Nat):Nat:=max (N.log2-52) 1126
def Rg(N:Nat):Nat:=if N=0 then 0 else min ((Lg N-1126)*2^52+ru N (Lg N)) (2047*2^52)
theorem Tn{N N':Nat} (h0:N≠0) (h:N<=N'):Lg N<=Lg N':=by
 have:N.log2<=N'.log2:=(Nat.le_log2 (by omega)).2 (Nat.le_trans (Nat.log2_self_le h0) h)
 unfold Lg;omega
theorem To(N:Nat):N<2^(Lg N+53):=Nat.lt_of_lt_of_le (nW N) (Nat.pow_le_pow_right (by omega) (by unfold Lg;omega))
theorem Tp(N:Nat):N/2^Lg N<2^53:=by
 rw[Nat.div_lt_iff_lt_mul (bT _),<-Nat.pow_add,Nat.add_comm];exact To N
theorem MM{N:Nat} (h:N≠0) (hL:1126<Lg N):2^52<=N/2^Lg N:=by
 rw[Nat.le_div_iff_mul_le (bT _),<-Nat.pow_add]
 refine Nat.le_trans (Nat.pow_le_pow_right (by omega) ?_) (Nat.log2_self_le h)
 unfold Lg at hL⊢;omega
theorem AP{N N':Nat} (h:N<=N'):Rg N<=Rg N':=by
 unfold Rg
 by_cases h0:N=0
 ·simp[h0]
 ·have h0':N'≠0:=by omega
  rw[if_neg h0,if_neg h0']
  have hL:=Tn h0 h
  suffices(Lg N-1126)*2^52+ru N (Lg N)<=(Lg N'-1126)*2^52+ru N' (Lg N')by omega
  by_cases he:Lg N=Lg N'
  ·rw[he];have:=ud h (Lg N');omega
  ·have h1:=Tp N
   have h2:=HW N (Lg N)
   have h3:2^52<=N'/2^Lg N':=MM h0' (by unfold Lg at he hL⊢;omega)
   have h4:=HX N' (Lg N')
   have h5:(Lg N-1126)+1<=Lg N'-1126:=by unfold Lg at he hL⊢;omega
   omega
theorem HZ{N:Nat} (q:Nat) (h:N=q*2^Lg N) (hb:N<2^3150):Rg N<2047*2^52/\rV (Rg N)*2^1126=N:=by
 by_cases h0:N=0
 ·subst h0;simp[Rg,rV]
 ·have hp:=bT (Lg N)
  have hq:N/2^Lg N=q:=by
   have:q*2^Lg N/2^Lg N=q:=Nat.mul_div_cancel _ hp
   rw[<-h]at this;exact this
  have hr:ru N (Lg N)=q:=by
   have:ru (q*2^Lg N) (Lg N)=q:=FN (n:=0) q
   rw[<-h]at this;exact this
  have hq53:=Tp N
  rw[hq]at hq53
  have hL:Lg N<=3098:=by
   have:N.log2<3150:=(Nat.log2_lt h0).2 hb
   unfold Lg;omega
  have hlt:(Lg N-1126)*2^52+q<2047*2^52:=by omega
  have hRg:Rg N=(Lg N-1126)*2^52+q:=by unfold Rg;rw[if_neg h0,hr];omega
  rw[hRg];refine⟨hlt,?_⟩
  have key:rV ((Lg N-1126)*2^52+q)=q*2^(Lg N-1126):=by
   by_cases hLe:Lg N=1126
   ·rw[hLe]
    simp only[Nat.sub_self,Nat.zero_mul,Nat.zero_add,Nat.pow_zero,Nat.mul_one];unfold rV;split
    ·rfl
    ·have e1:q/2^52=1:=by omega
     have e2:q%2^52=q-2^52:=by omega
     rw[e1,e2];omega
   ·have hL1:1126<Lg N:=by unfold Lg at hLe⊢;omega
    have h52:=MM h0 hL1
    rw[hq]at h52;unfold rV
    have e1:((Lg N-1126)*2^52+q)/2^52-1=Lg N-1126:=by omega
    have e2:2^52+((Lg N-1126)*2^52+q)%2^52=q:=by omega
    rw[if_neg (by omega),e1,e2]
  rw[key,Nat.mul_assoc,<-Nat.pow_add]
  have:Lg N-1126+1126=Lg N:=by
   have:1126<=Lg N:=by unfold Lg;omega
   omega
  rw[this];exact h.symm
theorem Ce{m k:Nat} (hm:m<2^53) (hk:1126<=k) (hk2:k<=3090):Rg (m*2^k)<2047*2^52/\rV (Rg (m*2^k))*2^1126=m*2^k:=by
 by_cases h0:m=0
 ·subst h0;simp[Rg,rV]
 ·have hl:(m*2^k).log2=m.log2+k:=by
   have h1:m*2^k≠0:=Nat.mul_ne_zero h0 (by have:=bT k;omega)
   apply Nat.le_antisymm
   ·have:(m*2^k).log2<m.log2+k+1:=(Nat.log2_lt h1).2 (by
     rw[show m.log2+k+1=(m.log2+1)+k by omega,Nat.pow_add]
     exact Nat.mul_lt_mul_of_pos_right (nW m) (bT k))
    omega
   ·exact(Nat.le_log2 h1).2 (by rw[Nat.pow_add];exact Nat.mul_le_mul_right _ (Nat.log2_self_le h0))
  have hm52:m.log2<=52:=by have:=(Nat.log2_lt h0).2 hm;omega
  have hLk:Lg (m*2^k)<=k:=by unfold Lg;omega
  refine HZ (m*2^(k-Lg (m*2^k))) ?_ ?_
  ·rw[Nat.mul_assoc,<-Nat.pow_add];congr 2;omega
  ·have:=nW (m*2^k)
   refine Nat.lt_of_lt_of_le this (Nat.pow_le_pow_right (by omega) (by omega))
open Ieee
set_option exponentiation.threshold 4000
abbrev DF:Format:=Ieee.double
theorem ki:DF.binade=2^52:=rfl
theorem ku:DF.signWeight=2^63:=rfl
theorem uR:DF.infRung=2047*2^52:=rfl
theorem nX:DF.leastPlace=-1074:=by decide
theorem Lu:DF.fractionBits=52:=rfl
def uS(r:Nat):Nat:=if r<2^52 then r else 2^52+r%2^52
def jV(r:Nat):Nat:=if r<2^52 then 0 else r/2^52-1
theorem kW(r:Nat):rV r=uS r*2^jV r:=by unfold rV uS jV;split<;>simp
theorem O5(r:Nat):uS r<2^53:=by unfold uS;split<;>omega
theorem gD{r:Nat} (h:r<2047*2^52):DF.read r=.number false (uS r) (-1074+(jV r:Int)):=by
 have h1:r/2^63%2=0:=by omega
 have h2:r%2^63=r:=by omega
 unfold Format.read;simp only[ki,ku,uR,nX,h1,h2];unfold uS jV;split
 ·simp
 ·simp[h]
theorem H6{r:Nat} (h:r<2047*2^52):DF.read (2^63+r)=.number true (uS r) (-1074+(jV r:Int)):=by
 have h1:(2^63+r)/2^63%2=1:=by omega
 have h2:(2^63+r)%2^63=r:=by omega
 unfold Format.read;simp only[ki,ku,uR,nX,h1,h2];unfold uS jV;split
 ·simp
 ·simp[h]
theorem Dx(s:Bool) (m:Nat) (p:Int) (hp:-2200<=p):DF.nearest s m p=DF.word s (Rg (m*2^(p+2200).toNat)):=by
 unfold Format.nearest
 by_cases h0:m=0
 ·simp[h0,Rg]
 ·rw[if_neg h0]
  obtain⟨k,hk⟩:∃k:Nat,p=(k:Int)-2200:=⟨(p+2200).toNat,by omega⟩
  subst hk
  have ek:((k:Int)-2200+2200).toNat=k:=by omega
  rw[ek]
  have h1:m*2^k≠0:=Nat.mul_ne_zero h0 (by have:=bT k;omega)
  have hl:(m*2^k).log2=m.log2+k:=by
   apply Nat.le_antisymm
   ·have:(m*2^k).log2<m.log2+k+1:=(Nat.log2_lt h1).2 (by
     rw[show m.log2+k+1=(m.log2+1)+k by omega,Nat.pow_add]
     exact Nat.mul_lt_mul_of_pos_right (nW m) (bT k))
    omega
   ·exact(Nat.le_log2 h1).2 (by rw[Nat.pow_add];exact Nat.mul_le_mul_right _ (Nat.log2_self_le h0))
  have hlast:max ((k:Int)-2200+m.log2-(DF.fractionBits:Nat)) DF.leastPlace=(Lg (m*2^k):Int)-2200:=by
   rw[nX,Lu];unfold Lg;rw[hl];omega
  simp only[hlast];simp only[Cc,nX,ki,uR]
  have hg:1126<=Lg (m*2^k):=by unfold Lg;omega
  have e1:((Lg (m*2^k):Int)-2200- -1074).toNat=Lg (m*2^k)-1126:=by omega
  have e2:ru (m<<<((k:Int)-2200-((Lg (m*2^k):Int)-2200)).toNat) ((Lg (m*2^k):Int)-2200-((k:Int)-2200)).toNat=ru (m*2^k) (Lg (m*2^k)):=by
   rw[Nat.shiftLeft_eq];generalize Lg (m*2^k)=L
   by_cases hLk:L<=k
   ·have a1:((k:Int)-2200-((L:Int)-2200)).toNat=k-L:=by omega
    have a2:((L:Int)-2200-((k:Int)-2200)).toNat=0:=by omega
    rw[a1,a2]
    have:=lU (m*2^(k-L)) 0 L
    rw[Nat.zero_add,Nat.mul_assoc,<-Nat.pow_add,Nat.sub_add_cancel hLk]at this;exact this.symm
   ·have a1:((k:Int)-2200-((L:Int)-2200)).toNat=0:=by omega
    have a2:((L:Int)-2200-((k:Int)-2200)).toNat=L-k:=by omega
    rw[a1,a2,Nat.pow_zero,Nat.mul_one]
    have:=lU m (L-k) k
    rw[Nat.sub_add_cancel (by omega)]at this
    exact this.symm
  rw[e1,e2];unfold Rg;rw[if_neg h1]
theorem H7(r:Nat):DF.word false r=r:=by unfold Format.word;simp
theorem lV(m:Nat) (p:Int) (hp:-2200<=p):DF.write (.number false m p)=Rg (m*2^(p+2200).toNat):=by
 show DF.nearest false m p=_
 rw[Dx _ _ _ hp,H7]
def Fin(r:Nat):Prop:=r<2047*2^52
def Jz:Nat:=4621819117588971520
theorem AQ:DF.read Jz=.number false (5*2^50) (-49):=by decide
theorem O6{r:Nat} (h:Fin r):DF.mul Jz r=some (Rg (10*rV r*2^1126))/\DF.mul r Jz=some (Rg (10*rV r*2^1126)):=by
 have e:5*2^50*uS r*2^((-49+(-1074+(jV r:Int)))+2200).toNat=10*rV r*2^1126:=by
  have:((-49+(-1074+(jV r:Int)))+2200).toNat=jV r+1077:=by omega
  rw[this,kW,show(2:Nat)^1126=2^49*2^1077 by rw[<-Nat.pow_add],Nat.pow_add,show 5*2^50=10*2^49 by decide]
  simp only[Nat.mul_assoc,Nat.mul_left_comm,Nat.mul_comm]
 constructor
 ·unfold Format.mul
  rw[AQ,gD h];simp only[Datum.product,Option.map_some,Bool.false_bne,Bool.xor_false]
  rw[lV _ _ (by omega),e]
 ·unfold Format.mul
  rw[AQ,gD h];simp only[Datum.product,Option.map_some,Bool.false_bne,Bool.xor_false]
  rw[lV _ _ (by omega),Nat.mul_comm (uS r),Int.add_comm (-1074+(jV r:Int)) (-49),e]
theorem Lv(m n a b:Nat):(Datum.number false m (-1074+(a:Int))).sum (.number false n (-1074+(b:Int)))=some (.number false (m*2^(a-min a b)+n*2^(b-min a b)) (-1074+(min a b:Nat))):=by
 have e0:min (-1074+(a:Int)) (-1074+(b:Int))=-1074+((min a b:Nat):Int):=by omega
 have e1:((-1074+(a:Int))-(-1074+((min a b:Nat):Int))).toNat=a-min a b:=by omega
 have e2:((-1074+(b:Int))-(-1074+((min a b:Nat):Int))).toNat=b-min a b:=by omega
 simp only[Datum.sum,e0,e1,e2,signed,Bool.false_eq_true,if_false,Nat.shiftLeft_eq];generalize m*2^(a-min a b)=x;generalize n*2^(b-min a b)=y
 have h1:¬((x:Int)+(y:Int)<0):=by omega
 have h2:((x:Int)+(y:Int)).natAbs=x+y:=by omega
 rw[h2];simp[h1]
theorem Lw(m n a b:Nat) (h:n*2^b<=m*2^a):(Datum.number false m (-1074+(a:Int))).sum (.number true n (-1074+(b:Int)))=some (.number false (m*2^(a-min a b)-n*2^(b-min a b)) (-1074+(min a b:Nat))):=by
 have e0:min (-1074+(a:Int)) (-1074+(b:Int))=-1074+((min a b:Nat):Int):=by omega
 have e1:((-1074+(a:Int))-(-1074+((min a b:Nat):Int))).toNat=a-min a b:=by omega
 have e2:((-1074+(b:Int))-(-1074+((min a b:Nat):Int))).toNat=b-min a b:=by omega
 simp only[Datum.sum,e0,e1,e2,signed,Bool.false_eq_true,if_false,if_true,Nat.shiftLeft_eq]
 have hxy:n*2^(b-min a b)<=m*2^(a-min a b):=by
  have hp:=bT (min a b)
  refine Nat.le_of_mul_le_mul_right ?_ hp
  rw[Nat.mul_assoc,Nat.mul_assoc,<-Nat.pow_add,<-Nat.pow_add,Nat.sub_add_cancel (by omega),Nat.sub_add_cancel (by omega)]
  exact h
 generalize m*2^(a-min a b)=x at*;generalize n*2^(b-min a b)=y at*
 have h1:¬((x:Int)+ -(y:Int)<0):=by omega
 have h2:((x:Int)+ -(y:Int)).natAbs=x-y:=by omega
 rw[h2];simp[h1]
theorem Vh(m a c:Nat) (h:c<=a):m*2^(a-c)*2^(c+1126)=m*2^a*2^1126:=by
 rw[Nat.mul_assoc,<-Nat.pow_add,Nat.mul_assoc,<-Nat.pow_add,show a-c+(c+1126)=a+1126 by omega]
theorem add_pos{x y:Nat} (hx:Fin x) (hy:Fin y):DF.add x y=some (Rg ((rV x+rV y)*2^1126)):=by
 unfold Format.add
 rw[gD hx,gD hy,Lv,Option.map_some,lV _ _ (by omega)]
 have e:((-1074+((min (jV x) (jV y):Nat):Int))+2200).toNat=min (jV x) (jV y)+1126:=by omega
 rw[e,Nat.add_mul,Vh _ _ _ (by omega),Vh _ _ _ (by omega),<-kW,<-kW,<-Nat.add_mul]
theorem sub_pos{x y:Nat} (hx:Fin x) (hy:Fin y) (h:rV y<=rV x):DF.sub x y=some (Rg ((rV x-rV y)*2^1126)):=by
 unfold Format.sub;rw[gD hx,gD hy];simp only[Datum.opposite,Bool.not_false];rw[kW,kW]at h
 rw[Lw _ _ _ _ h,Option.map_some,lV _ _ (by omega)]
 have e:((-1074+((min (jV x) (jV y):Nat):Int))+2200).toNat=min (jV x) (jV y)+1126:=by omega
 rw[e,Nat.sub_mul,Vh _ _ _ (by omega),Vh _ _ _ (by omega),<-kW,<-kW,<-Nat.sub_mul]
def FO(n:Nat):Nat:=Rg (n*2^2200)
theorem Er{n:Nat} (h:n<2^53):Fin (FO n)/\rV (FO n)=n*2^1074:=by
 have h2200:(1126:Nat)<=2200:=by decide
 obtain⟨h1,h2⟩:=Ce (m:=n) (k:=2200) h (by omega) (by omega)
 refine⟨h1,?_⟩;unfold FO
 have hp:=bT 1126
 refine Nat.eq_of_mul_eq_mul_right hp ?_;rw[h2,Nat.mul_assoc,<-Nat.pow_add]
theorem O7{a:Nat} (h:a<2^53):Fin (Rg (a*2^1064*2^1126))/\rV (Rg (a*2^1064*2^1126))=a*2^1064:=by
 have e:a*2^1064*2^1126=a*2^2190:=by rw[Nat.mul_assoc,<-Nat.pow_add]
 obtain⟨h1,h2⟩:=Ce (k:=2190) h (by omega) (by omega)
 rw[e];refine⟨h1,?_⟩
 have hp:=bT 1126
 refine Nat.eq_of_mul_eq_mul_right hp ?_;rw[h2,e]
theorem wD{N a b:Nat} (ha:a*2^1064*2^1126<=N) (hb:N<=b*2^1064*2^1126) (h:b<2^53):Fin (Rg N)/\a*2^1064<=rV (Rg N)/\rV (Rg N)<=b*2^1064:=by
 have hab:a<2^53:=by
  have:a*(2^1064*2^1126)<=b*(2^1064*2^1126):=by rw[<-Nat.mul_assoc,<-Nat.mul_assoc];exact Nat.le_trans ha hb
  have:=Nat.le_of_mul_le_mul_right this (Nat.mul_pos (bT _) (bT _))
  omega
 obtain⟨f1,f2⟩:=O7 hab;obtain⟨f3,f4⟩:=O7 h
 have m1:=AP ha
 have m2:=AP hb
 refine⟨?_,?_,?_⟩
 ·unfold Fin at f3⊢;omega
 ·rw[<-f2];exact AO m1
 ·rw[<-f4];exact AO m2
theorem O8(m a:Nat):ru (m<<<(-1074+(a:Int)).toNat) (-(-1074+(a:Int))).toNat=ru (m*2^a) 1074:=by
 rw[Nat.shiftLeft_eq]
 by_cases h:1074<=a
 ·have e1:(-1074+(a:Int)).toNat=a-1074:=by omega
  have e2:(-(-1074+(a:Int))).toNat=0:=by omega
  rw[e1,e2]
  have:=lU (m*2^(a-1074)) 0 1074
  rw[Nat.zero_add,Nat.mul_assoc,<-Nat.pow_add,Nat.sub_add_cancel h]at this;exact this.symm
 ·have e1:(-1074+(a:Int)).toNat=0:=by omega
  have e2:(-(-1074+(a:Int))).toNat=1074-a:=by omega
  rw[e1,e2,Nat.pow_zero,Nat.mul_one]
  have:=lU m (1074-a) a
  rw[Nat.sub_add_cancel (by omega)]at this
  exact this.symm
theorem Lx{r:Nat} (h:Fin r):DF.write ((DF.read r).integral .even)=FO (ru (rV r) 1074):=by
 rw[gD h];simp only[Datum.integral,Cc,O8]
 rw[lV _ _ (by omega),<-kW,show((0:Int)+2200).toNat=2200 by omega]
 unfold FO;with_reducible rfl
theorem H8(s:Bool) (n d:Nat):Toward.zero.cut s n d=n/2^d:=by
 unfold Toward.cut;simp only[Nat.one_shiftLeft,Bool.toNat_false,Nat.add_zero]
 by_cases hd:d<=n.log2+2
 ·rw[Nat.min_eq_left hd]
 ·rw[Nat.min_eq_right (by omega)]
  have hl:=nW n
  have h2:2^(n.log2+2)=2*2^(n.log2+1):=by rw[Nat.pow_succ,Nat.mul_comm]
  have hd2:2^(n.log2+2)<=2^d:=Nat.pow_le_pow_right (by omega) (by omega)
  rw[Nat.div_eq_of_lt (by omega),Nat.div_eq_of_lt (by omega)]
theorem FP{r:Nat} (h:Fin r):(DF.read r).toInt .zero=some ((rV r/2^1074:Nat):Int):=by
 rw[gD h,kW];unfold Datum.toInt;simp only[Datum.integral,H8,Nat.shiftLeft_eq,signed,Bool.false_eq_true,if_false,Nat.pow_zero,Nat.mul_one]
 congr 2
 generalize jV r=a;generalize uS r=m
 by_cases h:1074<=a
 ·have e1:(-1074+(a:Int)).toNat=a-1074:=by omega
  have e2:(-(-1074+(a:Int))).toNat=0:=by omega
  rw[e1,e2,Nat.pow_zero,Nat.div_one]
  have:m*2^a=m*2^(a-1074)*2^1074:=by rw[Nat.mul_assoc,<-Nat.pow_add,Nat.sub_add_cancel h]
  rw[this,Nat.mul_div_cancel _ (bT _)]
 ·have e1:(-1074+(a:Int)).toNat=0:=by omega
  have e2:(-(-1074+(a:Int))).toNat=1074-a:=by omega
  rw[e1,e2,Nat.pow_zero,Nat.mul_one]
  have:m*2^a/2^1074=m*2^a/(2^(1074-a)*2^a):=by rw[<-Nat.pow_add,Nat.sub_add_cancel (by omega)]
  rw[this,Nat.mul_div_mul_right _ _ (bT _)]
theorem FQ{n:Nat} (h:n<2^53):(DF.read (FO n)).toInt .zero=some (n:Int):=by
 obtain⟨h1,h2⟩:=Er h;rw[FP h1,h2,Nat.mul_div_cancel _ (bT _)]
def key(x:Nat):Option Int:=
 match DF.read x with
 | .nan ..=>none
 | .infinity s=>some (if s then -(2^2200:Nat)else(2^2200:Nat))
 | .number s m i=>some (signed s m (i+1074).toNat)
theorem qx(x:Nat) {s:Bool} {m:Nat} {i:Int} (h:DF.read x=.number s m i):-1074<=i/\i<=971/\m<2^53:=by
 unfold Format.read at h;dsimp only at h;split at h
 ·rename_i h1
  cases h;rw[ku,ki]at h1;rw[ku,nX];omega
 ·split at h
  ·rename_i h1 h2
   cases h;rw[ku,uR]at h2;rw[ku,nX,ki];omega
  ·split at h<;>cases h
theorem ue(s:Bool) (m a b:Nat):signed s m (a+b)=signed s m a*((2^b:Nat):Int):=by
 have e:((m<<<(a+b):Nat):Int)=((m<<<a:Nat):Int)*((2^b:Nat):Int):=by
  rw[Nat.shiftLeft_eq,Nat.shiftLeft_eq,Nat.pow_add,<-Nat.mul_assoc,Int.natCast_mul]
 unfold signed;cases s
 ·simp only[Bool.false_eq_true,if_false];exact e
 ·simp only[if_true,e,Int.neg_mul]
theorem FR(a b:Int) (k:Nat):compare (a*((2^k:Nat):Int)) (b*((2^k:Nat):Int))=compare a b:=by
 have hp:(0:Int)<((2^k:Nat):Int):=by have:=bT k;omega
 have h1:(a*((2^k:Nat):Int)<b*((2^k:Nat):Int))↔a<b:=Int.mul_lt_mul_right hp
 have h2:(a*((2^k:Nat):Int)=b*((2^k:Nat):Int))↔a=b:=⟨fun h=>Int.eq_of_mul_eq_mul_right (by omega) h,fun h=>by rw[h]⟩
 simp only[compare,compareOfLessAndEq,h1,h2]
theorem zJ{s:Bool} {m a:Nat} (hm:m<2^53) (ha:a<=2045):-((2^2200:Nat):Int)<signed s m a/\signed s m a<((2^2200:Nat):Int):=by
 have h1:m*2^a<2^53*2^2045:=Nat.lt_of_lt_of_le (Nat.mul_lt_mul_of_pos_right hm (bT a)) (Nat.mul_le_mul_left _ (Nat.pow_le_pow_right (by omega) ha))
 have h2:2^53*2^2045<=2^2200:=by rw[<-Nat.pow_add];exact Nat.pow_le_pow_right (by omega) (by omega)
 have h3:m*2^a<2^2200:=Nat.lt_of_lt_of_le h1 h2
 unfold signed;rw[Nat.shiftLeft_eq];generalize m*2^a=z at*;generalize 2^2200=w at*
 cases s<;>simp<;>omega
def AR:Option Int->Option Int->Option Ordering
 |some a,some b=>some (compare a b)
 |_,_=>none
theorem tc{a b:Int} (h:a<b):compare a b=.lt:=by simp[compare,compareOfLessAndEq,h]
theorem tf{a b:Int} (h:b<a):compare a b=.gt:=by
 have h1:¬a<b:=by omega
 have h2:¬a=b:=by omega
 simp[compare,compareOfLessAndEq,h1,h2]
theorem uT{a b:Int} (h:a=b):compare a b=.eq:=by simp[compare,compareOfLessAndEq,h]
theorem ry(x y:Nat):DF.order x y=AR (key x) (key y):=by
 have big:(0:Int)<((2^2200:Nat):Int):=by have:=bT 2200;omega
 unfold Format.order key
 cases hx:DF.read x with
 |nan s t=>cases DF.read y<;>rfl
 |infinity s=>
  cases hy:DF.read y with
  |nan _ _=>rfl
  |infinity t=>
   simp only[Datum.order,AR];generalize((2^2200:Nat):Int)=w at*
   cases s<;>cases t<;>simp only[Bool.false_eq_true,if_false,if_true]
   ·rw[uT rfl];rfl
   ·rw[tf (by omega)];rfl
   ·rw[tc (by omega)];rfl
   ·rw[uT rfl];rfl
  |number t n j=>
   obtain⟨b1,b2,b3⟩:=qx y hy
   obtain⟨c1,c2⟩:=zJ (s:=t) (a:=(j+1074).toNat) b3 (by omega)
   simp only[Datum.order,AR];generalize((2^2200:Nat):Int)=w at*
   cases s<;>simp only[Bool.false_eq_true,if_false,if_true]
   ·rw[tf c2]
   ·rw[tc c1]
 |number s m i=>
  obtain⟨b1,b2,b3⟩:=qx x hx
  cases hy:DF.read y with
  |nan _ _=>rfl
  |infinity t=>
   obtain⟨c1,c2⟩:=zJ (s:=s) (a:=(i+1074).toNat) b3 (by omega)
   simp only[Datum.order,AR];generalize((2^2200:Nat):Int)=w at*
   cases t<;>simp only[Bool.false_eq_true,if_false,if_true]
   ·rw[tc c2]
   ·rw[tf c1]
  |number t n j=>
   obtain⟨d1,d2,d3⟩:=qx y hy;simp only[Datum.order,AR]
   have e1:(i+1074).toNat=(i-min i j).toNat+(min i j+1074).toNat:=by omega
   have e2:(j+1074).toNat=(j-min i j).toNat+(min i j+1074).toNat:=by omega
   rw[e1,e2,ue,ue,FR]
theorem mY{r:Nat} (h:Fin r):key r=some (rV r:Int):=by
 unfold key;rw[gD h];simp only[signed,Bool.false_eq_true,if_false,Nat.shiftLeft_eq]
 rw[kW,show((-1074+(jV r:Int))+1074).toNat=jV r by omega]
theorem Es{r:Nat} (h:Fin r):key (2^63+r)=some (-(rV r:Int)):=by
 unfold key;rw[H6 h];simp only[signed,if_true,Nat.shiftLeft_eq]
 rw[kW,show((-1074+(jV r:Int))+1074).toNat=jV r by omega]
open Ieee
set_option exponentiation.threshold 4000
def qy:Nat:=4652006429231887155
def oG:Nat:=4584304132692975288
def QM(x y:Nat):Bool:=DF.order x y==some .gt||DF.order x y==some .eq
def O9(x y:Nat):Bool:=DF.order x y==some .lt||DF.order x y==some .eq
def Vi(x y:Nat):Bool:=DF.order x y==some .lt
def Ly(x y:Nat):Bool:=DF.order x y==some .gt
def Vj(x y:Nat):Bool:=DF.order x y==some .eq
def QN:Option Int->Option Int->Bool
 |some a,some b=>decide (a<=b)
 |_,_=>false
def QO:Option Int->Option Int->Bool
 |some a,some b=>decide (a<b)
 |_,_=>false
theorem Lz(x y:Nat):O9 x y=QN (key x) (key y):=by
 unfold O9;rw[ry]
 cases key x<;>cases key y<;>try rfl
 rename_i a b;simp only[AR,QN]
 rcases Int.lt_trichotomy a b with h|h|h
 ·rw[tc h];simp;omega
 ·rw[uT h];simp;omega
 ·rw[tf h];simp;omega
theorem LA(x y:Nat):QM x y=QN (key y) (key x):=by
 unfold QM;rw[ry]
 cases key x<;>cases key y<;>try rfl
 rename_i a b;simp only[AR,QN]
 rcases Int.lt_trichotomy a b with h|h|h
 ·rw[tc h];simp;omega
 ·rw[uT h];simp;omega
 ·rw[tf h];simp;omega
theorem LB(x y:Nat):Vi x y=QO (key x) (key y):=by
 unfold Vi;rw[ry]
 cases key x<;>cases key y<;>try rfl
 rename_i a b;simp only[AR,QO]
 rcases Int.lt_trichotomy a b with h|h|h
 ·rw[tc h];simp;omega
 ·rw[uT h];simp;omega
 ·rw[tf h];simp;omega
theorem LC(x y:Nat):Ly x y=QO (key y) (key x):=by
 unfold Ly;rw[ry]
 cases key x<;>cases key y<;>try rfl
 rename_i a b;simp only[AR,QO]
 rcases Int.lt_trichotomy a b with h|h|h
 ·rw[tc h];simp;omega
 ·rw[uT h];simp;omega
 ·rw[tf h];simp;omega
theorem Tq:Fin 0:=by unfold Fin;omega
theorem LD:Fin qy:=by unfold Fin qy;omega
theorem wE:Fin oG:=by unfold Fin oG;omega
theorem V0:rV 0=0:=by simp[rV]
theorem Et:key 0=some 0:=by rw[mY Tq,V0];rfl
theorem Eu:key qy=some (rV qy:Int):=mY LD
theorem LF{r:Nat} (h:rV r=0):r=0:=by
 unfold rV at h;split at h
 ·exact h
 ·have:=Nat.mul_pos (show 0<2^52+r%2^52 by omega) (bT (r/2^52-1))
  omega
theorem H9{s:Nat} (hs:s<2^64) {a:Int} (hk:key s=some a) (h0:0<=a) (h1:a<=(rV qy:Int)):(Fin s/\a=(rV s:Int))\/(s=2^63/\a=0):=by
 have big:(rV qy:Int)<((2^2200:Nat):Int):=by
  have:rV qy<2^2200:=by decide+kernel
  omega
 by_cases hlt:s<2^63
 ·by_cases hf:Fin s
  ·left
   rw[mY hf]at hk;exact⟨hf,(Option.some.inj hk).symm⟩
  ·exfalso
   unfold Fin at hf;unfold key Format.read at hk;dsimp only at hk
   have e1:s%DF.signWeight=s:=by rw[ku];omega
   have e2:s/DF.signWeight%2=0:=by rw[ku];omega
   rw[e1,e2,ki,uR]at hk
   rw[if_neg (by omega),if_neg hf]at hk
   split at hk
   ·cases hk
   ·rename_i s' hh
    split at hh<;>try(cases hh;done)
    cases hh;cases hk;simp only[show((0:Nat)==1)=false from rfl,Bool.false_eq_true,if_false]at h1
    omega
   ·rename_i hh
    split at hh<;>cases hh
 ·obtain⟨r,rfl⟩:∃r,s=2^63+r:=⟨s-2^63,by omega⟩
  by_cases hf:Fin r
  ·right
   rw[Es hf]at hk
   have:=Option.some.inj hk
   have h3:rV r=0:=by omega
   have:=LF h3
   subst this
   exact⟨rfl,by omega⟩
  ·exfalso
   unfold Fin at hf;unfold key Format.read at hk;dsimp only at hk
   have e1:(2^63+r)%DF.signWeight=r:=by rw[ku];omega
   have e2:(2^63+r)/DF.signWeight%2=1:=by rw[ku];omega
   rw[e1,e2,ki,uR]at hk
   rw[if_neg (by omega),if_neg hf]at hk
   split at hk
   ·cases hk
   ·rename_i s' hh
    split at hh<;>try(cases hh;done)
    cases hh;cases hk;simp only[show((1:Nat)==1)=true from rfl,if_true]at h0
    have:=bT 2200
    omega
   ·rename_i hh
    split at hh<;>cases hh
def Pa(a:Nat):Nat:=Rg (10*a*2^1126)
def FT(a:Nat):Nat:=ru (rV (Pa a)) 1074
theorem Cf{a b:Nat} (h:a<=b):Pa a<=Pa b:=AP (Nat.mul_le_mul_right _ (Nat.mul_le_mul_left _ h))
theorem Ia{a b:Nat} (h:a<=b):FT a<=FT b:=ud (AO (Cf h)) _
theorem LG:FT (rV qy)=9999:=by decide+kernel
theorem LH:Pa (rV qy)<2047*2^52:=by decide+kernel
theorem LI{a:Nat} (h:a<=rV qy):Fin (Pa a):=by
 have h1:=Cf h
 have h2:=LH
 unfold Fin;omega
theorem Pb{a:Nat} (h:a<=rV qy):FT a<=9999:=by rw[<-LG];exact Ia h
theorem MN:FT 0=0:=by decide+kernel
def JA(s:Nat):Bool:=QM s 0&&O9 s qy
def tk(s:Nat):Nat:=FT ((key s).getD 0).toNat
theorem wF{s:Nat}:JA s=true↔∃a:Nat,key s=some (a:Int)/\a<=rV qy:=by
 unfold JA;rw[LA,Lz,Et,Eu]
 cases hk:key s with
 |none=>simp[QN]
 |some a=>
  simp only[QN,Bool.and_eq_true,decide_eq_true_eq,Option.some.injEq];constructor
  ·rintro⟨h1,h2⟩;exact⟨a.toNat,by omega,by omega⟩
  ·rintro⟨b,rfl,h⟩;omega
theorem Ev{s a:Nat} (h:key s=some (a:Int)):tk s=FT a:=by simp[tk,h]
theorem Pc{x:Nat} (h:Fin x):An x=some (.float .f64 (FO (ru (rV x) 1074))):=by
 have hr:FloatKind.f64.decode x=.number false (uS x) (-1074+(jV x:Int)):=gD h
 unfold An;rw[hr];dsimp only
 have:=Lx h
 rw[gD h]at this
 exact congrArg (fun n=>some (AV.float .f64 n)) this
theorem Ew{x n:Nat} (h:(DF.read x).toInt .zero=some (n:Int)) (hn:n<2^53):vm .i64 (.float .f64 x)=some (.int .i64 n):=by
 have h':(FloatKind.f64.decode x).toInt .zero=some (n:Int):=h
 simp only[vm,h'];rw[if_pos];constructor
 ·have:IntKind.i64.min=-(2^63):=by decide
  omega
 ·have:IntKind.i64.max=2^63-1:=by decide
  omega
theorem Xc:DF.mul Jz (2^63)=some (2^63):=by decide+kernel
theorem Xd:(DF.read (2^63)).toInt .zero=some ((0:Nat):Int):=by decide+kernel
theorem V1:FloatKind.f64.decode (2^63)=.number true 0 (-1074):=by decide+kernel
theorem V2:FloatKind.f64.encode ((Datum.number true 0 (-1074)).integral .even)=2^63:=by decide+kernel
theorem Xe:An (2^63)=some (.float .f64 (2^63)):=by
 unfold An;rw[V1]
 show some (AV.float .f64 (FloatKind.f64.encode ((Datum.number true 0 (-1074)).integral .even)))=_
 rw[V2]
theorem FU{s:Nat} (hs:s<2^64) (h:JA s=true):∃x y,DF.mul Jz s=some x/\An x=some (.float .f64 y)/\vm .i64 (.float .f64 y)=some (.int .i64 (tk s)):=by
 obtain⟨a,h1,h2⟩:=wF.1 h
 have ht:=Ev h1
 rcases H9 hs h1 (by omega) (by omega)with⟨hf,ha⟩|⟨rfl,ha⟩
 ·have ha:a=rV s:=by omega
  subst ha
  have hX:=LI h2
  have hle:=Pb h2
  refine⟨Pa (rV s),FO (ru (rV (Pa (rV s))) 1074),(O6 hf).1,Pc hX,?_⟩;rw[ht]
  exact Ew (FQ (by unfold FT at hle;omega)) (by omega)
 ·have ha:a=0:=by omega
  subst ha;refine⟨2^63,2^63,Xc,Xe,?_⟩;rw[ht,MN]
  exact Ew Xd (by omega)
theorem Ex{a b c d:Nat} (h:a<=b) (h':d<=c):a-c<=b-d:=by omega
theorem x7{x y c:Nat} (h:x*2^c<=y*2^c):x<=y:=Nat.le_of_mul_le_mul_right h (bT c)
theorem Pd{k a:Nat} (hk:1<=k) (hk2:k<=9999) (h1:10*a<=1024*k) (h2:1024*k<=10*(a+1)):∃s,DF.div (FO k) Jz=some s/\Fin s/\a*2^1064<=rV s/\rV s<=(a+1)*2^1064:=by
 obtain⟨f1,f2⟩:=Er (n:=k) (by omega)
 generalize FO k=r at*
 have hd:=O5 r
 rw[kW]at f2
 -- the number is a normal one
 have hr52:2^52<=r:=by
  refine Nat.le_of_not_lt fun h=>?_
  have e1:uS r=r:=by unfold uS;rw[if_pos h]
  have e2:jV r=0:=by unfold jV;rw[if_pos h]
  rw[e1,e2,Nat.pow_zero,Nat.mul_one]at f2
  have:1*2^1074<=k*2^1074:=Nat.mul_le_mul_right _ hk
  have:(2:Nat)^52<=2^1074:=Nat.pow_le_pow_right (by omega) (by omega)
  omega
 have hd52:2^52<=uS r:=by unfold uS;rw[if_neg (by omega)];omega
 have hlog:(uS r).log2=52:=by
  have h0:uS r≠0:=by omega
  have a1:(uS r).log2<53:=(Nat.log2_lt h0).2 hd
  have a2:52<=(uS r).log2:=(Nat.le_log2 h0).2 hd52
  omega
 have hp:jV r<=1036:=by
  refine Nat.le_of_not_lt fun h=>?_
  have b1:2^52*2^1037<=uS r*2^jV r:=Nat.mul_le_mul hd52 (Nat.pow_le_pow_right (by omega) h)
  rw[f2,<-Nat.pow_add]at b1
  have b2:k*2^1074<2^15*2^1074:=Nat.mul_lt_mul_of_pos_right (by omega) (bT _)
  rw[<-Nat.pow_add]at b2;omega
 have hl10:(5*2^50:Nat).log2=52:=by decide
 have hmore:54+(5*2^50:Nat).log2-(uS r).log2=54:=by rw[hlog,hl10]
 have hdiv:DF.div r Jz=some (Rg ((2*(uS r*2^54/(5*2^50))+(uS r*2^54%(5*2^50) !=0).toNat)*2^(jV r+1120))):=by
  unfold Format.div;rw[AQ,gD f1]
  have hfb:DF.fractionBits+2=54:=rfl
  rw[hfb];unfold Datum.quotient;dsimp only
  rw[if_neg (by omega),hmore,Nat.shiftLeft_eq,Option.map_some]
  have:((-1074+(jV r:Int))- -49-(54:Nat)-1+2200).toNat=jV r+1120:=by omega
  rw[show(false^^false)=false from rfl,lV _ _ (by omega),this]
 obtain⟨n,hn⟩:∃n:Nat,n=5*2^50:=⟨_,rfl⟩
 rw[<-hn]at hdiv
 obtain⟨D,hDD⟩:∃D:Nat,D=uS r*2^54:=⟨_,rfl⟩
 rw[<-hDD]at hdiv;refine⟨_,hdiv,?_⟩
 -- the floor against a O7 number
 have grid5:∀z:Nat,(z*2^(1069-jV r))*n*2^jV r=5*z*2^1119:=by
  intro z;rw[hn]
  have:z*2^(1069-jV r)*(5*2^50)*2^jV r=5*z*(2^(1069-jV r)*2^50*2^jV r):=by
   simp only[Nat.mul_assoc,Nat.mul_left_comm,Nat.mul_comm]
  rw[this,<-Nat.pow_add,<-Nat.pow_add]
  rw[show 1069-jV r+50+jV r=1119 by omega]
 have hD:D*2^jV r=512*k*2^1119:=by
  rw[hDD]
  have:uS r*2^54*2^jV r=uS r*2^jV r*2^54:=by simp only[Nat.mul_assoc,Nat.mul_left_comm,Nat.mul_comm]
  rw[this,f2,Nat.mul_assoc,<-Nat.pow_add,show 1074+54=9+1119 by omega,Nat.pow_add,<-Nat.mul_assoc,Nat.mul_comm k]
 have hn0:0<n:=by omega
 have lo:∀z,5*z<=512*k->z*2^(1069-jV r)<=D/n:=by
  intro z hz;rw[Nat.le_div_iff_mul_le hn0]
  refine x7 (c:=jV r) ?_
  rw[grid5,hD];exact Nat.mul_le_mul_right _ hz
 have hi:∀z,512*k<=5*z->2*(D/n)+(D%n !=0).toNat<=2*(z*2^(1069-jV r)):=by
  intro z hz
  have hle:D<=z*2^(1069-jV r)*n:=by
   refine x7 (c:=jV r) ?_
   rw[grid5,hD];exact Nat.mul_le_mul_right _ hz
  generalize z*2^(1069-jV r)=Z at*
  have hdm:=Nat.div_add_mod D n
  have h3:D/n<=Z:=by
   rw[<-Nat.mul_div_cancel Z hn0];exact Nat.div_le_div_right hle
  by_cases h0:D%n=0
  ·simp[h0];omega
  ·have h4:D/n<Z:=by
    refine Nat.lt_of_le_of_ne h3 fun e=>?_
    rw[e,Nat.mul_comm]at hdm;omega
   have h5:(D%n !=0).toNat=1:=by simp[h0]
   omega
 have sc:∀z:Nat,z*2^1064*2^1126=2*(z*2^(1069-jV r))*2^(jV r+1120):=by
  intro z
  have:2*(z*2^(1069-jV r))*2^(jV r+1120)=z*(2^1*2^(1069-jV r)*2^(jV r+1120)):=by
   simp only[Nat.mul_assoc,Nat.mul_left_comm,Nat.mul_comm,Nat.pow_one]
  rw[this,<-Nat.pow_add,<-Nat.pow_add,Nat.mul_assoc,<-Nat.pow_add]
  rw[show 1+(1069-jV r)+(jV r+1120)=1064+1126 by omega]
 have hlo:a*2^1064*2^1126<=(2*(D/n)+(D%n !=0).toNat)*2^(jV r+1120):=by
  rw[sc]
  have:=lo a (by omega)
  exact Nat.mul_le_mul_right _ (by omega)
 have hhi:(2*(D/n)+(D%n !=0).toNat)*2^(jV r+1120)<=(a+1)*2^1064*2^1126:=by
  rw[sc]
  exact Nat.mul_le_mul_right _ (hi (a+1) (by omega))
 have hb:a+1<2^53:=by omega
 exact wD hlo hhi hb
theorem Cg{c k:Nat} (h1:1024*k<c+512) (h2:c<1024*k+512):ru c 10=k:=by
 unfold ru;split<;>omega
theorem Ib(c:Nat):ru (c*2^1064) 1074=ru c 10:=lU c 10 1064
theorem AS{v a b k:Nat} (h1:a*2^1064<=v) (h2:v<=b*2^1064) (hb:b<2^40) (h3:1024*k<10*a+512) (h4:10*b<1024*k+512):FT v=k:=by
 have e:∀z:Nat,10*(z*2^1064)=10*z*2^1064:=fun z=>by rw[Nat.mul_assoc]
 have hx:=wD (N:=10*v*2^1126) (a:=10*a) (b:=10*b) (by rw[<-e];exact Nat.mul_le_mul_right _ (Nat.mul_le_mul_left _ h1)) (by rw[<-e];exact Nat.mul_le_mul_right _ (Nat.mul_le_mul_left _ h2)) (by omega)
 obtain⟨_,g1,g2⟩:=hx
 have m1:=ud g1 1074
 have m2:=ud g2 1074
 rw[Ib]at m1 m2
 have hab:a<=b:=x7 (Nat.le_trans h1 h2)
 have r1:=Cg (c:=10*a) (k:=k) (by omega) (by omega)
 have r2:=Cg (c:=10*b) (k:=k) (by omega) (by omega)
 have:FT v=ru (rV (Rg (10*v*2^1126))) 1074:=rfl
 omega
theorem Ey:30*2^1064<=rV oG:=by decide+kernel
theorem AT:rV oG<=31*2^1064:=by decide+kernel
theorem V3:1023897*2^1064<=rV qy:=by decide+kernel
theorem Ic:DF.div (FO 9999) Jz=some qy:=by decide+kernel
theorem Tt:DF.div (FO 0) Jz=some 0:=by decide+kernel
theorem LJ:FT (rV oG)=0:=by decide+kernel
def near(off k:Nat):Prop:=Vi off 0=false->Ly off qy=false->JA off=true/\tk off=k
theorem AU{v:Nat} {k:Nat} (hf:Fin v) (ht:FT (rV v)=k):near v k:=by
 intro h1 h2;rw[LC,mY hf,Eu]at h2;simp only[QO,decide_eq_false_iff_not]at h2
 exact⟨wF.2 ⟨rV v,mY hf,by omega⟩,by rw[Ev (mY hf)];exact ht⟩
theorem back{k:Nat} (hk:k<=9999):∃s u d,DF.div (FO k) Jz=some s/\DF.add s oG=some u/\DF.sub s oG=some d/\s<2^64/\u<2^64/\JA s=true/\tk s=k/\near u k/\near d k/\d<2^64:=by
 by_cases h0:k=0
 ·subst h0
  have hd:DF.sub 0 oG=some (2^63+oG):=by decide+kernel
  have hu:DF.add 0 oG=some oG:=by decide+kernel
  refine⟨0,oG,2^63+oG,Tt,hu,hd,by omega,by unfold oG;omega,wF.2 ⟨0,Et,by omega⟩,by rw[Ev (a:=0) Et];exact MN,AU wE LJ,?_,by unfold oG;omega⟩
  intro h1;rw[LB,Es wE,Et]at h1;simp only[QO,decide_eq_false_iff_not]at h1
  have:0<rV oG:=by decide+kernel
  omega
 ·obtain⟨s,h1,h2,h3,h4⟩:=Pd (k:=k) (a:=1024*k/10) (by omega) hk (by omega) (by omega)
  generalize ha:1024*k/10=a at*
  have ha1:10*a<=1024*k:=by omega
  have ha2:1024*k<=10*a+9:=by omega
  have hs999:rV s<=rV qy:=by
   by_cases h9:k=9999
   ·subst h9
    rw[Ic]at h1;cases h1;exact Nat.le_refl _
   ·refine Nat.le_trans h4 (Nat.le_trans (Nat.mul_le_mul_right _ (by omega)) V3)
  have hts:FT (rV s)=k:=AS h3 h4 (by omega) (by omega) (by omega)
  have hsub:rV oG<=rV s:=Nat.le_trans AT (Nat.le_trans (Nat.mul_le_mul_right _ (by omega)) h3)
  have hU:=wD (N:=(rV s+rV oG)*2^1126) (a:=a+30) (b:=a+1+31) (Nat.mul_le_mul_right _ (by rw[Nat.add_mul];exact Nat.add_le_add h3 Ey)) (Nat.mul_le_mul_right _ (by rw[Nat.add_mul (a+1)];exact Nat.add_le_add h4 AT)) (by omega)
  have hD:=wD (N:=(rV s-rV oG)*2^1126) (a:=a-31) (b:=a+1-30) (Nat.mul_le_mul_right _ (by rw[Nat.sub_mul];exact Ex h3 AT)) (Nat.mul_le_mul_right _ (by rw[Nat.sub_mul];exact Ex h4 Ey)) (by omega)
  refine⟨s,_,_,h1,add_pos h2 wE,sub_pos h2 wE hsub,?_,?_,wF.2 ⟨rV s,mY h2,hs999⟩,by rw[Ev (mY h2)];exact hts,?_,?_,?_⟩
  ·unfold Fin at h2;omega
  ·have:=hU.1;unfold Fin at this;omega
  ·exact AU hU.1 (AS hU.2.1 hU.2.2 (by omega) (by omega) (by omega))
  ·exact AU hD.1 (AS hD.2.1 hD.2.2 (by omega) (by omega) (by omega))
  ·have:=hD.1;unfold Fin at this;omega
abbrev Fl (x:Nat):AV:=.float .f64 x
theorem Tu(x y:Nat):dI .geq (.float .f64 x) (.float .f64 y)=some (.bool (QM x y)):=rfl
theorem Tv(x y:Nat):dI .leq (.float .f64 x) (.float .f64 y)=some (.bool (O9 x y)):=rfl
theorem Tw(x y:Nat):dI .gtr (.float .f64 x) (.float .f64 y)=some (.bool (Ly x y)):=rfl
theorem Tx(x y:Nat):dI .lss (.float .f64 x) (.float .f64 y)=some (.bool (Vi x y)):=rfl
theorem Tz(x y:Nat):dI .eql (.float .f64 x) (.float .f64 y)=some (.bool (Vj x y)):=rfl
theorem TA(x y:Nat):dI .neq (.float .f64 x) (.float .f64 y)=some (.bool (!Vj x y)):=rfl
theorem TC(x y:Nat):dI .mul (.float .f64 x) (.float .f64 y)=C3 .f64 (DF.mul x y):=rfl
theorem TD(x y:Nat):dI .sub (.float .f64 x) (.float .f64 y)=C3 .f64 (DF.sub x y):=rfl
theorem TE(x y:Nat):dI .add (.float .f64 x) (.float .f64 y)=C3 .f64 (DF.add x y):=rfl
theorem TF(x y:Nat):dI .quo (.float .f64 x) (.float .f64 y)=C3 .f64 (DF.div x y):=rfl
theorem TG(x:Nat):M0 .neg (.float .f64 x)=some (.float .f64 (Op.negFloat .f64 x)):=rfl
theorem LK(r:Nat):C3 .f64 (some r)=some (.float .f64 r):=rfl
def JB:=And.intro @LK (And.intro @Tu (And.intro @Tv (And.intro @Tw (And.intro @Tx (And.intro @Tz (And.intro @TA (And.intro @TC (And.intro @TD (And.intro @TE (And.intro @TF @TG))))))))))
def TH(x:Nat):Bool:=!Vj x x
def Dy(x y:Nat):Bool:=((x:Int)==(y:Int))||TH x&&TH y
def FV(s:Nat):AV:=.o7 [I (if JA s then(tk s:Int)else 0),B (JA s)]
def x8.Spec(C:bt) (f:Nat):Prop:=∀s:Nat,s<2^64->C.c f [Fl s] (FV s) none
def Pe.Spec(C:bt) (f:Nat):Prop:=∀x y:Nat,C.c f [Fl x,Fl y] (B (Dy x y)) none
theorem Dz(x:Nat):Dy x x=true:=by simp[Dy]
section
variable{P:Program} (hm:P.follows .mixedOrders=true) {f:Nat}
include hm
theorem x8.ok(hc:dY P f=some su):x8.Spec (Pure P) f:=by
 intro s hs
 have h1:JA s=(QM s 0&&O9 s 4652006429231887155):=rfl
 obtain⟨b1,hb1⟩:∃b,QM s 0=b:=⟨_,rfl⟩
 obtain⟨b2,hb2⟩:∃b,O9 s 4652006429231887155=b:=⟨_,rfl⟩
 rw[hb1,hb2]at h1
 have hrun:=fun h=>FU (s:=s) hs h
 clear hs
 refine aH hm hc (by show 1<=15;decide) (ay (keep:=[]) (i:=0) ?_)
 try simp only[I,B,D,RX,↓KW,seval,su,Z.H,JB]
 cases b1<;>cases b2
 ·try simp only[I,B,D,RX,↓KW,seval,JB,hb1,hb2]
  rw[FV,h1];rfl
 ·try simp only[I,B,D,RX,↓KW,seval,JB,hb1,hb2]
  rw[FV,h1];rfl
 ·try simp only[I,B,D,RX,↓KW,seval,JB,hb1,hb2]
  rw[FV,h1];rfl
 ·obtain⟨x,y,e1,e2,e3⟩:=hrun h1
  have e1':DF.mul 4621819117588971520 s=some x:=e1
  try simp only[I,B,D,RX,↓KW,seval,JB,hb1,hb2,e1',e2,e3]
  rw[FV,h1];rfl
end
open Go.RowKit (Below)
section
variable{C:bt} {Q:Exit->S->Prop} {K:SV->S->Prop} {J:S->Prop} {X:AV->S->Prop}
variable(sl:List (Nat×SV)) (bx:List (Nat×bO)) (lv:List (Nat×Nat)) (nx:Nat)
theorem Pf(b i:Nat):dZ C b i [] J X ⟨sl,bx,lv,nx⟩=J ⟨sl,bx,lv,nx⟩:=rfl
theorem TI(b i:Nat) (d:Option Nat) (o:Bv) (r:List XO):dZ C b i (⟨d,o,none⟩::r) J X ⟨sl,bx,lv,nx⟩=bu C (b+i) o (fun v s'=>dZ C b (i+1) r J X (s'.put d v)) X ⟨sl,bx,lv,nx⟩:=rfl
theorem Pg(b i t:Nat) (w:Bool) (d:Option Nat) (o:Bv) (r:List XO):dZ C b i (⟨d,o,some (t,w)⟩::r) J X ⟨sl,bx,lv,nx⟩=
  kR w (bu C (b+i) o (fun v s'=>dZ C b (i+1) r J X (s'.put d v)) X ⟨sl,bx,lv,nx⟩) (dZ C b (i+1) r J X (S.put ⟨sl,bx,lv,nx⟩ d .undef)) (lk t sl):=by
 simp only[dZ,dQ,kR]
 cases lk t sl with
 |none=>rfl
 |some v=>cases v with
  |dat a q=>cases a<;>rfl
  |_=>rfl
theorem Xf(id:Nat) (c:bH):bu C id (.o c) K X ⟨sl,bx,lv,nx⟩=bD C id c K ⟨sl,bx,lv,nx⟩:=rfl
def Ez(k:Exit->S->Prop) (n:Nat):AV->S->Prop:=fun p s=>k (.panic (dz p)) {s with nx:=n}
theorem TJ(ops:List XO):aw C (.aF ops) Q ⟨sl,bx,lv,nx⟩=dZ C nx 0 ops (y5 (Q .normal) (nx+ops.length)) (Ez Q (nx+ops.length)) ⟨sl,bx,lv,nx⟩:=rfl
theorem Pj(k:Exit->S->Prop) (n:Nat) (p:AV):Ez k n p ⟨sl,bx,lv,nx⟩=k (.panic (dz p)) ⟨sl,bx,lv,n⟩:=rfl
class KX where
 run:SV->List (Nat×bO)->List (Nat×Nat)->Prop
 rx:AV->List (Nat×bO)->Prop
def x9(C:bt) (f:Nat) (as:List AV) (id:Nat) (bx:List (Nat×bO)) (lv:List (Nat×Nat)) (k:SV->List (Nat×bO)->List (Nat×Nat)->Prop) (x:AV->List (Nat×bO)->Prop):Prop:=
 vF C f as id lv (fun v l=>k v bx l)\/(∃cs,C.n f as cs/\k (.ptr id 0) ((id,⟨cs,[]⟩)::bx) lv)\/(∃p,C.q f [] (as.map some) p []/\x p bx)\/∃rows e z,C.c f as (.sl rows) (some e)/\rQ z rows=true/\k (.vs id 0 rows.length z) ((id,⟨rows.flatten,[]⟩)::bx) lv
def Vk(C:bt) (f:Nat) (as:List AV) (id:Nat) (bx:List (Nat×bO)) (lv:List (Nat×Nat)) [k:KX]:Prop:=x9 C f as id bx lv k.run k.rx
theorem TK(f:Nat) (as:List AV) (id:Nat) (bx:List (Nat×bO)) (lv:List (Nat×Nat)) (k:SV->List (Nat×bO)->List (Nat×Nat)->Prop) (x:AV->List (Nat×bO)->Prop):x9 C f as id bx lv k x=@Vk C f as id bx lv ⟨k,x⟩:=rfl
@[congr] theorem TL (f:Nat) {as as':List AV} (id:Nat) (bx:List (Nat×bO)) (lv:List (Nat×Nat)) (k:SV->List (Nat×bO)->List (Nat×Nat)->Prop) (x:AV->List (Nat×bO)->Prop) (h:as=as'):x9 C f as id bx lv k x=x9 C f as' id bx lv k x:=by rw[h]
theorem cA{f:Nat} {as:List AV} {id:Nat} {bx:List (Nat×bO)} {lv:List (Nat×Nat)} {k:SV->List (Nat×bO)->List (Nat×Nat)->Prop} {x:AV->List (Nat×bO)->Prop} {r:AV} (h:C.c f as r none) (hk:k (.dat r none) bx lv):@Vk C f as id bx lv ⟨k,x⟩:=.inl ⟨r,none,h,hk⟩
theorem jy{f:Nat} {as:List AV} {id:Nat} {bx:List (Nat×bO)} {lv:List (Nat×Nat)} {k:SV->List (Nat×bO)->List (Nat×Nat)->Prop} {x:AV->List (Nat×bO)->Prop} {cs:List AV} (h:C.n f as cs) (hk:k (.ptr id 0) ((id,⟨cs,[]⟩)::bx) lv):@Vk C f as id bx lv ⟨k,x⟩:=.inr (.inl ⟨cs,h,hk⟩)
theorem FX{f:Nat} {as:List AV} {id:Nat} {bx:List (Nat×bO)} {lv:List (Nat×Nat)} {k:SV->List (Nat×bO)->List (Nat×Nat)->Prop} {x:AV->List (Nat×bO)->Prop} {rows:List (List AV)} {e z:Nat} (h:C.c f as (.sl rows) (some e)) (hf:rQ z rows=true) (hk:k (.vs id 0 rows.length z) ((id,⟨rows.flatten,[]⟩)::bx) lv):@Vk C f as id bx lv ⟨k,x⟩:=.inr (.inr (.inr ⟨rows,e,z,h,hf,hk⟩))
theorem MO(id e z bytes:Nat) (y:bl):bu C id (.MZ e z bytes y) K X ⟨sl,bx,lv,nx⟩=ah (aM ⟨sl,bx,lv,nx⟩ y) fun a=>ah (rowsOf a) fun rows=>(rows≠[]/\rows.length*bytes<=140737488355328)/\rQ z rows=true/\K (.vs id 0 rows.length z) ⟨sl,(id,⟨rows.flatten,[]⟩)::bx,lv,nx⟩:=rfl
theorem Pk(id f:Nat) (args:List bl):bu C id (.call f args) K X ⟨sl,bx,lv,nx⟩=ah (cQ ⟨sl,bx,lv,nx⟩ args) fun as=>x9 C f as id bx lv (fun v b l=>K v ⟨sl,b,l,nx⟩) (fun p b=>X p ⟨sl,b,lv,nx⟩):=by
 simp only[bu,bD]
 cases cQ ⟨sl,bx,lv,nx⟩ args with
 |none=>simp
 |some as=>rfl
def rz(C:bt) (f:Nat) (css:List (List AV)) (as:List (Option AV)) (ids:List Nat) (id:Nat) (bx:List (Nat×bO)) (lv:List (Nat×Nat)) (k:SV->List (Nat×bO)->List (Nat×Nat)->Prop) (x:AV->List (Nat×bO)->Prop):Prop:=
 xP C f css as ids id bx lv k\/(∃v css',C.q f css as v css'/\x v (cH ids css' bx))\/DX C f css as ids id bx lv k
def Pm(C:bt) (f:Nat) (css:List (List AV)) (as:List (Option AV)) (ids:List Nat) (id:Nat) (bx:List (Nat×bO)) (lv:List (Nat×Nat)) [k:KX]:Prop:=rz C f css as ids id bx lv k.run k.rx
theorem Pn(f:Nat) (css:List (List AV)) (as:List (Option AV)) (ids:List Nat) (id:Nat) (bx:List (Nat×bO)) (lv:List (Nat×Nat)) (k:SV->List (Nat×bO)->List (Nat×Nat)->Prop) (x:AV->List (Nat×bO)->Prop):rz C f css as ids id bx lv k x=@Pm C f css as ids id bx lv ⟨k,x⟩:=rfl
@[congr] theorem QS (f:Nat) {css css':List (List AV)} {as as':List (Option AV)} {ids ids':List Nat} (id:Nat) (bx:List (Nat×bO)) (lv:List (Nat×Nat)) (k:SV->List (Nat×bO)->List (Nat×Nat)->Prop) (x:AV->List (Nat×bO)->Prop) (h1:css=css') (h2:as=as') (h3:ids=ids'):rz C f css as ids id bx lv k x=rz C f css' as' ids' id bx lv k x:=by rw[h1,h2,h3]
theorem aq{f:Nat} {css:List (List AV)} {as:List (Option AV)} {ids:List Nat} {id:Nat} {bx:List (Nat×bO)} {lv:List (Nat×Nat)} {k:SV->List (Nat×bO)->List (Nat×Nat)->Prop} {x:AV->List (Nat×bO)->Prop} {r:AV} {css':List (List AV)} (h:C.p f css as r none css') (hk:k (.dat r none) (cH ids css' bx) lv):@Pm C f css as ids id bx lv ⟨k,x⟩:=.inl ⟨r,none,css',h,hk⟩
theorem aA{f:Nat} {css:List (List AV)} {as:List (Option AV)} {ids:List Nat} {id:Nat} {bx:List (Nat×bO)} {lv:List (Nat×Nat)} {k:SV->List (Nat×bO)->List (Nat×Nat)->Prop} {x:AV->List (Nat×bO)->Prop} {p:AV} {css':List (List AV)} (h:C.q f css as p css') (hk:x p (cH ids css' bx)):@Pm C f css as ids id bx lv ⟨k,x⟩:=.inr (.inl ⟨p,css',h,hk⟩)
def ug(C:bt) (f id:Nat) (bx:List (Nat×bO)) (lv:List (Nat×Nat)) (as':List (Option AV)) (bs:List Nat) (k:SV->List (Nat×bO)->List (Nat×Nat)->Prop) (x:AV->List (Nat×bO)->Prop) (p:List (Option AV)×List Nat):Prop:=
 cz (p.2++bs)=true/\ah (aT bx (p.2++bs)) fun css=>rz C f css (p.1++as') (p.2++bs) id bx lv k x
theorem Ie(f id:Nat) (as as':List (Option AV)) (ids bs:List Nat) (k:SV->List (Nat×bO)->List (Nat×Nat)->Prop) (x:AV->List (Nat×bO)->Prop):ug C f id bx lv as' bs k x (as,ids)=(cz (ids++bs)=true/\ah (aT bx (ids++bs)) fun css=>rz C f css (as++as') (ids++bs) id bx lv k x):=rfl
theorem LL(id f:Nat) (args:List bl):bu C id (.aK f args) K X ⟨sl,bx,lv,nx⟩=ah (cI true ⟨sl,bx,lv,nx⟩ args) (ug C f id bx lv [] [] (fun v b l=>K v ⟨sl,b,l,nx⟩) (fun p b=>X p ⟨sl,b,lv,nx⟩)):=by
 simp only[bu,bD]
 cases cI true ⟨sl,bx,lv,nx⟩ args with
 |none=>simp
 |some p=>
  simp only[az,ug,List.append_nil]
  cases aT bx p.2 with
  |none=>simp
  |some css=>
   exact(propext and_or_left).symm
def rA(C:bt) (id:Nat) (b:Bool) (g:bl) (args:List bl) (K:SV->S->Prop) (X:AV->S->Prop) (s:S):Option SV->Prop
 |some (.mM f as bs)=>ah (cI true s args) (ug C f id s.boxes s.live as bs (fun v b l=>K v ⟨s.slots,b,l,s.nx⟩) (fun p b=>X p ⟨s.slots,b,s.live,s.nx⟩))
 |_=>bD C id (if b then .gm g args else .ee g args) K s
theorem LM(id:Nat) (b:Bool) (g:bl) (args:List bl):bu C id (.ee b g args) K X ⟨sl,bx,lv,nx⟩=rA C id b g args K X ⟨sl,bx,lv,nx⟩ (bC ⟨sl,bx,lv,nx⟩ g):=by
 simp only[bu]
 cases bC ⟨sl,bx,lv,nx⟩ g with
 |none=>rfl
 |some v=>cases v<;>rfl
@[congr] theorem QT (id:Nat) (b:Bool) (g:bl) (args:List bl) (K:SV->S->Prop) (X:AV->S->Prop) (s:S) {v v':Option SV} (h:v=v'):rA C id b g args K X s v=rA C id b g args K X s v':=by rw[h]
theorem Ig(id:Nat) (b:Bool) (g:bl) (args:List bl) (f:Nat) (as:List (Option AV)) (bs:List Nat):rA C id b g args K X ⟨sl,bx,lv,nx⟩ (some (.mM f as bs))=ah (cI true ⟨sl,bx,lv,nx⟩ args) (ug C f id bx lv as bs (fun v b l=>K v ⟨sl,b,l,nx⟩) (fun p b=>X p ⟨sl,b,lv,nx⟩)):=rfl
theorem Ih(id:Nat) (g:bl) (args:List bl) (s:S) (a:AV) (q:Option Nat):rA C id true g args K X s (some (.dat a q))=bD C id (.gm g args) K s:=rfl
theorem Ii(id:Nat) (g:bl) (args:List bl) (s:S) (a:AV) (q:Option Nat):rA C id false g args K X s (some (.dat a q))=bD C id (.ee g args) K s:=rfl
def LN(f:Nat) (k:SV->Prop) (p:List (Option AV)×List Nat):Prop:=k (.mM f p.1 p.2)
theorem TM(id f:Nat) (caps:List bl):bu C id (.QZ f caps) K X ⟨sl,bx,lv,nx⟩=ah (cI false ⟨sl,bx,lv,nx⟩ caps) (LN f fun v=>K v ⟨sl,bx,lv,nx⟩):=rfl
theorem Po(f:Nat) (k:SV->Prop) (as:List (Option AV)) (bs:List Nat):LN f k (as,bs)=k (.mM f as bs):=rfl
theorem TN(id:Nat) (x:bl):bu C id (.Gm x) K X ⟨sl,bx,lv,nx⟩=ah (aM ⟨sl,bx,lv,nx⟩ x) fun a=>i4 a=true/\X a ⟨sl,bx,lv,nx⟩:=rfl
theorem TO(id t:Nat) (x:bl):bu C id (.Gn t x) K X ⟨sl,bx,lv,nx⟩=ah (aM ⟨sl,bx,lv,nx⟩ x) fun a=>iQ a none=true/\K (.dat (.iface t a) none) ⟨sl,bx,lv,nx⟩:=rfl
theorem TP(id t:Nat) (z:AV) (x:bl):bu C id (.Mx t z x) K X ⟨sl,bx,lv,nx⟩=ah (aM ⟨sl,bx,lv,nx⟩ x) fun a=>ah (C4 t z a) fun v=>K (.dat v none) ⟨sl,bx,lv,nx⟩:=rfl
theorem TQ(id:Nat) (neg:Bool) (x:bl):bu C id (.Qx neg x) K X ⟨sl,bx,lv,nx⟩=ah (aM ⟨sl,bx,lv,nx⟩ x) fun a=>ah (E6 neg a) fun v=>K (.dat (.bool v) none) ⟨sl,bx,lv,nx⟩:=rfl
theorem TR(id:Nat) (neg:Bool) (x:bl):bu C id (.JE neg x) K X ⟨sl,bx,lv,nx⟩=ah (bC ⟨sl,bx,lv,nx⟩ x) fun a=>ah (yX neg a) fun v=>K (.dat (.bool v) none) ⟨sl,bx,lv,nx⟩:=rfl
theorem TS(id e bytes:Nat) (l c:bl):bu C id (.Qy e bytes l c) K X ⟨sl,bx,lv,nx⟩=ah (aM ⟨sl,bx,lv,nx⟩ l) fun a=>ah (idxOf a) fun l=>ah (aM ⟨sl,bx,lv,nx⟩ c) fun b=>ah (idxOf b) fun c=>(0<=l/\l<=c/\c*bytes<=140737488355328)/\K (.raw id l.toNat) ⟨sl,bx,(id,e)::lv,nx⟩:=rfl
def LO(e id:Nat) (s:S) (b:Option AV) (k:SV->S->Prop):SV->Prop
 | .raw q n=>ah b fun b=>ah (rowsOf b) fun ys=>(ys.length=n/\∀r∈ys,r.length=1)/\dU q s.live=some e/\k (.dat (.int .i64 n) none) {s with slots:=yY q n (.sl ys) id s.slots,live:=(id,e)::lG q s.live}
 |_=>False
theorem TT(id e:Nat) (x y:bl):bu C id (.Qz e x y) K X ⟨sl,bx,lv,nx⟩=ah (bC ⟨sl,bx,lv,nx⟩ x) (LO e id ⟨sl,bx,lv,nx⟩ (aM ⟨sl,bx,lv,nx⟩ y) K):=by
 show ah _ _=ah _ _
 cases bC ⟨sl,bx,lv,nx⟩ x with
 |none=>rfl
 |some v=>cases v<;>rfl
theorem Pp(id e q n:Nat) (b:Option AV):LO e id ⟨sl,bx,lv,nx⟩ b K (.raw q n)=ah b fun b=>ah (rowsOf b) fun ys=>(ys.length=n/\∀r∈ys,r.length=1)/\dU q lv=some e/\K (.dat (.int .i64 n) none) ⟨yY q n (.sl ys) id sl,bx,(id,e)::lG q lv,nx⟩:=rfl
@[congr] theorem V4 (e id:Nat) (s:S) {b b':Option AV} (k:SV->S->Prop) {v v':SV} (h:b=b') (hv:v=v'):LO e id s b k v=LO e id s b' k v':=by rw[h,hv]
theorem LP(q n:Nat) (a:AV) (id:Nat):yY q n a id []=[]:=rfl
theorem Pq(q n:Nat) (a:AV) (id t:Nat) (v:SV) (r:List (Nat×SV)):yY q n a id ((t,v)::r)=(t,w5 q n a id v)::yY q n a id r:=rfl
theorem Pt(q n:Nat) (a:AV) (id:Nat):w5 q n a id (.raw q n)=.dat a (some id):=by simp[w5]
theorem Pu(q n:Nat) (a b:AV) (id:Nat) (m:Option Nat):w5 q n a id (.dat b m)=.dat b m:=rfl
theorem Pv(q n:Nat) (a:AV) (id b o:Nat):w5 q n a id (.ptr b o)=.ptr b o:=rfl
theorem Pw(q n:Nat) (a:AV) (id:Nat) (cs:List AV):w5 q n a id (.rp cs)=.rp cs:=rfl
theorem Px(q n:Nat) (a:AV) (id:Nat):w5 q n a id .undef=.undef:=rfl
theorem Py(b:Nat) (cs:List AV) (q n:Nat):jD b cs (.raw q n)=.raw q n:=rfl
theorem Pz(t:Nat) (z:AV):C4 t z .eH=some (.o7 [z,.bool false]):=rfl
theorem PA(t:Nat) (z a:AV):C4 t z (.iface t a)=some (.o7 [a,.bool true]):=by simp[C4]
theorem PB(neg:Bool):E6 neg .eH=some !neg:=rfl
theorem PC(neg:Bool) (t:Nat) (a:AV):E6 neg (.iface t a)=some neg:=rfl
theorem PD(neg:Bool) (b o:Nat):yX neg (.ptr b o)=some neg:=rfl
theorem PE(neg:Bool) (cs:List AV):yX neg (.rp cs)=some neg:=rfl
theorem PF(neg:Bool) (q:Option Nat):yX neg (.dat .lF q)=some !neg:=rfl
theorem TU(b:Nat) (cs:List AV) (f:Nat) (as:List (Option AV)) (bs:List Nat):jD b cs (.mM f as bs)=.mM f as bs:=rfl
theorem V5(t:Nat) (a:AV) (q:Option Nat):iQ (.iface t a) q=true:=rfl
theorem TV(q:Option Nat):iQ .eH q=true:=rfl
theorem LQ(t:Nat) (a:AV):AV.cells (.iface t a)=[.iface t a]:=rfl
theorem TW(t:Nat) (a:AV):jb (.iface t a)=.dat (.iface t a) none:=rfl
theorem PG:jb .eH=.dat .eH none:=rfl
def EA(k:SV->Prop):SV->Prop
 | .ptr b o=>k (.pt 0 [(b,o)])
 |_=>False
theorem PI(id:Nat) (x:bl):bu C id (.E4 x) K X ⟨sl,bx,lv,nx⟩=ah (bC ⟨sl,bx,lv,nx⟩ x) (EA fun v=>K v ⟨sl,bx,lv,nx⟩):=by
 show ah _ _=ah _ _
 cases bC ⟨sl,bx,lv,nx⟩ x with
 |none=>rfl
 |some v=>cases v<;>rfl
theorem LR(k:SV->Prop) (b o:Nat):EA k (.ptr b o)=k (.pt 0 [(b,o)]):=rfl
def EC(k:SV->Prop):SV->Prop
 | .pt 0 ps=>k (.pt 2 ps)
 |_=>False
theorem PJ(id:Nat) (x:bl):bu C id (.rJ x) K X ⟨sl,bx,lv,nx⟩=ah (bC ⟨sl,bx,lv,nx⟩ x) (EC fun v=>K v ⟨sl,bx,lv,nx⟩):=by
 show ah _ _=ah _ _
 cases bC ⟨sl,bx,lv,nx⟩ x with
 |none=>rfl
 |some v=>cases v with
  |pt k ps=>cases k<;>rfl
  |_=>rfl
theorem LS(k:SV->Prop) (ps:List (Nat×Nat)):EC k (.pt 0 ps)=k (.pt 2 ps):=rfl
def FY(s:S) (k:S->Prop) (b:Nat):SV->Prop
 | .pt 0 ps=>ah (bY b s.boxes) fun y=>(4<=b/\y.cells.length=1/\ps.length=1)/\k {s with slots:=rP b ps s.slots,boxes:=kz b s.boxes}
 |_=>False
def LU(s:S) (k:S->Prop) (v:Option SV):SV->Prop
 | .ptr b 0=>ah v (FY s k b)
 |_=>False
theorem TX(id:Nat) (x v:bl):bu C id (.QB x v) K X ⟨sl,bx,lv,nx⟩=ah (bC ⟨sl,bx,lv,nx⟩ x) (LU ⟨sl,bx,lv,nx⟩ (K .undef) (bC ⟨sl,bx,lv,nx⟩ v)):=by
 show ah _ _=ah _ _
 cases bC ⟨sl,bx,lv,nx⟩ x with
 |none=>rfl
 |some u=>cases u with
  |ptr b o=>cases o with
   |zero=>
    show ah _ _=ah _ _
    cases bC ⟨sl,bx,lv,nx⟩ v with
    |none=>rfl
    |some q=>cases q with
     |pt k ps=>cases k<;>rfl
     |_=>rfl
   |succ o=>rfl
  |_=>rfl
theorem PK(s:S) (k:S->Prop) (v:Option SV) (b:Nat):LU s k v (.ptr b 0)=ah v (FY s k b):=rfl
theorem PL(k:S->Prop) (b:Nat) (p:Nat×Nat):FY ⟨sl,bx,lv,nx⟩ k b (.pt 0 [p])=ah (bY b bx) fun y=>(4<=b/\y.cells.length=1)/\k ⟨rP b [p] sl,kz b bx,lv,nx⟩:=by
 simp[FY]
theorem LV(b:Nat) (ps:List (Nat×Nat)):rP b ps []=[]:=rfl
theorem PM(b:Nat) (ps:List (Nat×Nat)) (t:Nat) (v:SV) (r:List (Nat×SV)):rP b ps ((t,v)::r)=(t,rO b ps v)::rP b ps r:=rfl
theorem TY(b:Nat) (ps:List (Nat×Nat)) (b' o:Nat):rO b ps (.ptr b' o)=bif b'==b then .pt 2 (ps.drop o)else .ptr b' o:=rfl
theorem TZ(b:Nat) (ps:List (Nat×Nat)) (a:AV) (q:Option Nat):rO b ps (.dat a q)=.dat a q:=rfl
theorem T6(b:Nat) (ps:List (Nat×Nat)) (cs:List AV):rO b ps (.rp cs)=.rp cs:=rfl
theorem T7(b:Nat) (ps:List (Nat×Nat)):rO b ps .undef=.undef:=rfl
theorem T8(b:Nat) (ps:List (Nat×Nat)) (k:Nat) (qs:List (Nat×Nat)):rO b ps (.pt k qs)=.pt k qs:=rfl
theorem T9(b:Nat) (ps:List (Nat×Nat)) (f:Nat) (as:List (Option AV)) (bs:List Nat):rO b ps (.mM f as bs)=.mM f as bs:=rfl
def Ij:Option SV->Option (List (Nat×Nat))->Option (List (Nat×Nat))
 |some (.ptr b o),some ps=>some ((b,o)::ps)
 |_,_=>none
theorem LW:pJ ⟨sl,bx,lv,nx⟩ []=some []:=rfl
theorem PN(x:bl) (r:List bl):pJ ⟨sl,bx,lv,nx⟩ (x::r)=Ij (bC ⟨sl,bx,lv,nx⟩ x) (pJ ⟨sl,bx,lv,nx⟩ r):=by
 rw[pJ];unfold Ij
 cases bC ⟨sl,bx,lv,nx⟩ x with
 |none=>rfl
 |some v=>cases pJ ⟨sl,bx,lv,nx⟩ r<;>cases v<;>rfl
theorem LY(b o:Nat) (ps:List (Nat×Nat)):Ij (some (.ptr b o)) (some ps)=some ((b,o)::ps):=rfl
theorem PO(id:Nat) (xs:List bl):bu C id (.Ak xs) K X ⟨sl,bx,lv,nx⟩=ah (pJ ⟨sl,bx,lv,nx⟩ xs) fun ps=>K (.pt 1 ps) ⟨sl,bx,lv,nx⟩:=rfl
def LZ(a:Option AV) (k:SV->Prop):SV->Prop
 | .pt 1 ps=>ah a fun a=>ah (idxOf a) fun i=>(0<=i/\i<ps.length)/\k (.pt 2 (ps.drop i.toNat))
 |_=>False
theorem Ua(id:Nat) (x i:bl):bu C id (.JF x i) K X ⟨sl,bx,lv,nx⟩=ah (bC ⟨sl,bx,lv,nx⟩ x) (LZ (aM ⟨sl,bx,lv,nx⟩ i) fun v=>K v ⟨sl,bx,lv,nx⟩):=by
 show ah _ _=ah _ _
 cases bC ⟨sl,bx,lv,nx⟩ x with
 |none=>rfl
 |some v=>cases v with
  |pt k ps=>match k with
   |0=>rfl
   |1=>rfl
   |k+2=>rfl
  |_=>rfl
theorem PR(a:Option AV) (k:SV->Prop) (ps:List (Nat×Nat)):LZ a k (.pt 1 ps)=ah a fun a=>ah (idxOf a) fun i=>(0<=i/\i<ps.length)/\k (.pt 2 (ps.drop i.toNat)):=rfl
def L0(k:SV->Prop):SV->Prop
 | .pt 1 ps=>k (.dat (.int .i64 ps.length) none)
 |_=>False
theorem Ub(id:Nat) (x:bl):bu C id (.JG x) K X ⟨sl,bx,lv,nx⟩=ah (bC ⟨sl,bx,lv,nx⟩ x) (L0 fun v=>K v ⟨sl,bx,lv,nx⟩):=by
 show ah _ _=ah _ _
 cases bC ⟨sl,bx,lv,nx⟩ x with
 |none=>rfl
 |some v=>cases v with
  |pt k ps=>match k with
   |0=>rfl
   |1=>rfl
   |k+2=>rfl
  |_=>rfl
theorem PS(k:SV->Prop) (ps:List (Nat×Nat)):L0 k (.pt 1 ps)=k (.dat (.int .i64 ps.length) none):=rfl
def ya(C:bt) (f:Nat) (css:List (List AV)) (as:List (Option AV)) (ids:List Nat) (bx:List (Nat×bO)) (k:SV->List (Nat×bO)->Prop):Prop:=∃j o b,C.r f css as j o/\ids[j]? =some b/\k (.ptr b o) (cH ids css bx)
theorem Ik{f:Nat} {css:List (List AV)} {as:List (Option AV)} {ids:List Nat} {bx:List (Nat×bO)} {k:SV->List (Nat×bO)->Prop} {j o b:Nat} (h:C.r f css as j o) (hj:ids[j]? =some b) (hk:k (.ptr b o) (cH ids css bx)):ya C f css as ids bx k:=⟨j,o,b,h,hj,hk⟩
def AW(C:bt) (bx:List (Nat×bO)) (p:List (Option AV)×List Nat) (k:SV->List (Nat×bO)->Prop):AV->Prop
 | .fn (.func f) [] []=>cz p.2=true/\ah (aT bx p.2) fun css=>ya C f css p.1 p.2 bx k
 |_=>False
theorem L1(id:Nat) (g:bl) (args:List bl):bu C id (.zc g args) K X ⟨sl,bx,lv,nx⟩=ah (aM ⟨sl,bx,lv,nx⟩ g) fun a=>ah (cI true ⟨sl,bx,lv,nx⟩ args) fun p=>AW C bx p (fun v b=>K v ⟨sl,b,lv,nx⟩) a:=by
 show ah _ _=ah _ _
 cases aM ⟨sl,bx,lv,nx⟩ g with
 |none=>rfl
 |some a=>
  simp only[az]
  cases cI true ⟨sl,bx,lv,nx⟩ args with
  |none=>cases a<;>(try simp)<;>(rename_i fn first caps;cases fn<;>cases first<;>cases caps<;>simp)
  |some p=>cases a<;>(try rfl)<;>(rename_i fn first caps;cases fn<;>cases first<;>cases caps<;>rfl)
theorem Il(p:List (Option AV)×List Nat) (k:SV->List (Nat×bO)->Prop) (f:Nat):AW C bx p k (.fn (.func f) [] [])=(cz p.2=true/\ah (aT bx p.2) fun css=>ya C f css p.1 p.2 bx k):=rfl
@[congr] theorem Vl (k:SV->Prop) {v v':SV} (h:v=v'):EA k v=EA k v':=by rw[h]
@[congr] theorem Vm (k:SV->Prop) {v v':SV} (h:v=v'):EC k v=EC k v':=by rw[h]
@[congr] theorem V6 (s:S) (k:S->Prop) {u u':Option SV} {v v':SV} (hu:u=u') (h:v=v'):LU s k u v=LU s k u' v':=by rw[h,hu]
@[congr] theorem V7 (s:S) (k:S->Prop) (b:Nat) {v v':SV} (h:v=v'):FY s k b v=FY s k b v':=by rw[h]
@[congr] theorem V8 {a a':Option AV} (k:SV->Prop) {v v':SV} (ha:a=a') (h:v=v'):LZ a k v=LZ a' k v':=by rw[h,ha]
@[congr] theorem V9 (k:SV->Prop) {v v':SV} (h:v=v'):L0 k v=L0 k v':=by rw[h]
@[congr] theorem Uc (f:Nat) {css css':List (List AV)} {as as':List (Option AV)} {ids ids':List Nat} {bx bx':List (Nat×bO)} (k:SV->List (Nat×bO)->Prop) (h1:css=css') (h2:as=as') (h3:ids=ids') (h4:bx=bx'):ya C f css as ids bx k=ya C f css' as' ids' bx' k:=by rw[h1,h2,h3,h4]
@[congr] theorem Ud (p:List (Option AV)×List Nat) (k:SV->List (Nat×bO)->Prop) {v v':AV} (h:v=v'):AW C bx p k v=AW C bx p k v':=by rw[h]
theorem PT(k:S->Prop) (s:S) (c:List PanicEntry):jE k Q (.panic c) s=Q (.panic c) s:=rfl
theorem Ue(id:Nat) (s:S) (c:List PanicEntry):gn id Q (.panic c) s=Q (.panic c) s:=rfl
theorem Wa(l:Nat) (k:S->Prop) (s:S) (c:List PanicEntry):lY l k Q (.panic c) s=Q (.panic c) s:=rfl
theorem Wb(s:S) (c:List PanicEntry):vX Q (.panic c) s=Q (.panic c) s:=rfl
theorem Uf(t:Nat) (k k':IntKind) (x y:Int):i4 (.iface t (.agg [.int k x,.int k' y]))=true:=rfl
@[congr] theorem Wc (id:Nat) (o:Bv) (s:S):bu C id o K X s=bu C id o K X s:=rfl
@[congr] theorem Vn (b i:Nat) (l:List XO) (s:S):dZ C b i l J X s=dZ C b i l J X s:=rfl
@[congr] theorem Vo (n:Nat) (p:AV) (s:S):Ez Q n p s=Ez Q n p s:=rfl
@[congr] theorem Wd (f:Nat) (k:SV->Prop) {p p':List (Option AV)×List Nat} (h:p=p'):LN f k p=LN f k p':=by rw[h]
end
def aB:=
 And.intro @Pf (And.intro @TI (And.intro @Pg (And.intro @Xf (And.intro @TJ (And.intro @Pj (And.intro @Pk (And.intro @Ie (And.intro @LL (And.intro @LM (And.intro @Ig (And.intro @Ih (And.intro @Ii (And.intro @TM (And.intro @Po (And.intro @TN (And.intro @TO (And.intro @TP (And.intro @TQ (And.intro @TR (And.intro @TS (And.intro @TT (And.intro @Pp (And.intro @LP (And.intro @Pq (And.intro @Pt (And.intro @Pu (And.intro @Pv (And.intro @Pw (@Px)))))))))))))))))))))))))))))
def aC:=
 And.intro @Py (And.intro @Pz (And.intro @PA (And.intro @PB (And.intro @PC (And.intro @PD (And.intro @PE (And.intro @PF (And.intro @TU (And.intro @V5 (And.intro @TV (And.intro @LQ (And.intro @TW (And.intro @PG (And.intro @PT (And.intro @Ue (And.intro @Wa (And.intro @Wb (@Uf))))))))))))))))))
def bf:=
 And.intro @PI (And.intro @LR (And.intro @PJ (And.intro @LS (And.intro @TX (And.intro @PK (And.intro @PL (And.intro @LV (And.intro @PM (And.intro @TY (And.intro @TZ (And.intro @T6 (And.intro @T7 (And.intro @T8 (And.intro @T9 (And.intro @LW (And.intro @PN (And.intro @LY (And.intro @PO (And.intro @Ua (And.intro @PR (And.intro @Ub (And.intro @PS (And.intro @L1 (@Il))))))))))))))))))))))))
def aD:=And.intro @TK @Pn
def L2(p:AV) (css:List (List AV)):Exit->S->Prop
 | .panic c,s=>c=dz p/\fJ s.boxes 0 css
 |_,_=>False
theorem PU(p:AV) (css:List (List AV)) (s:S):L2 p css (.panic (dz p)) s=fJ s.boxes 0 css:=by simp[L2]
def PV(res:List eZ) (cs:List AV):Exit->S->Prop
 | .normal,s| .ret,s=>match res with
  |[.tmp t]=>match lk t s.slots with
   |some (.ptr b 0)=>4<=b/\ah (bY b s.boxes) fun x=>x.cells=cs
   |_=>False
  |_=>False
 |_,_=>False
section
variable{P:Program}
theorem yb{w:World} {π:Nat->Nat->Prop} {Bs:List Nat} {vs:List Value} {css:List (List AV)} {args:List (Option AV)} {nt:Nat} (hn:args.length<=nt) (h4:css.length<=4)
  (hprot:∀b o,π b o->b<w.heap.size) (hnd:Bs.Nodup) (hbx:cg w π css Bs) (hd:d4 w π args Bs vs):
  cN P nt (gp.gF w Bs) w π (nP css args) {tmps:=vs.toArray++Array.replicate (nt-vs.toArray.size) undef,defers:=[]} w:=by
 have hlen:=q9 hd
 obtain⟨hbl,hbget⟩:=hbx.get
 have hβ:∀(j B:Nat),Bs[j]? =some B->(gp.gF w Bs).β j=B:=fun j B hj=>by simp[gp.gF,hj]
 refine⟨Nat.le_refl 4,(gp.gF w Bs).β,fun _=>undef,π,fun n=>n<4,fun _ h=>h,?_⟩
 have hbox:∀b x,bY b (nP css args).boxes=some x->∃B cs,b<4/\Bs[b]? =some B/\(gp.gF w Bs).β b=B/\x=⟨cs,[]⟩/\nH (fun _=>undef) w π B ⟨cs,[]⟩:=by
  intro b x hb;obtain⟨cs,_,h2,h3⟩:=sU hb;simp only[Nat.sub_zero]at h2
  have hlt:b<css.length:=(List.getElem?_eq_some_iff.1 h2).1
  have hB:Bs[b]? =some Bs[b]:=List.getElem?_eq_getElem (by omega)
  exact⟨_,cs,by omega,hB,hβ _ _ hB,h3,hbget b cs _ h2 hB⟩
 refine{size:=?_,slots:=?_,boxes:=?_,inj:=?_,live:=fun q e h=>(by cases h),bJ:=fun q q' e e' B h=>(by cases h),cn:=fun q e b x h=>(by cases h),below:=.refl _ _,eA:=Nat.le_refl _,dJ:=hprot,dL:=fun _ _ h=>h,cj:=fun _ _ h=>.inl h,kP:=fun _ _=>rfl,i9:=fun _ h=>h,kept:=fun _ _ _=>rfl}
 ·simp;omega
 ·intro t v hv
  obtain⟨x,_,hx,hor⟩:=nR hd hv;simp only[Nat.sub_zero]at hx
  have htl:t<vs.length:=(List.getElem?_eq_some_iff.1 hx).1
  have hget:(vs.toArray++Array.replicate (nt-vs.toArray.size) undef)[t]? =some x:=by
   simp[Array.getElem?_append,htl]
   simpa using(List.getElem?_eq_some_iff.1 hx).2
  rcases hor with⟨a,rfl,hda⟩|⟨j,B,hB,⟨rfl,rfl⟩|⟨rfl,rfl⟩⟩
  ·exact⟨⟨x,hget,(nQ (U:=fun n=>n<4) hda).1⟩,(nQ (β:=id) (τ:=fun _=>undef) hda).2⟩
  ·refine⟨⟨_,hget,?_⟩,?_⟩
   ·show Value.pointer (some ⟨B,0,none⟩)=.pointer (some ⟨(gp.gF w Bs).β (0+j),0,none⟩)
    rw[Nat.zero_add,hβ j B hB]
   ·have:j<Bs.length:=(List.getElem?_eq_some_iff.1 hB).1
    show 0+j<4
    omega
  ·have hj:j<Bs.length:=(List.getElem?_eq_some_iff.1 hB).1
   refine⟨⟨_,hget,?_⟩,fun p hp=>?_⟩
   ·show Value.agg #[.pointer (some ⟨B,0,none⟩)]=.agg #[.pointer (some ⟨(gp.gF w Bs).β (0+j),0,none⟩)]
    rw[Nat.zero_add,hβ j B hB]
   ·simp at hp;subst hp
    show j<4
    omega
 ·intro b x hb
  obtain⟨B,cs,h1,h2,h3,rfl,h5⟩:=hbox b x hb
  exact⟨h1,.inr ⟨h1,by rw[h3];exact List.mem_of_getElem? h2⟩,by rw[h3];exact h5,fun o q hq=>by cases hq⟩
 ·intro b b' x x' hb hb' e
  obtain⟨B,_,_,h2,h3,_,_⟩:=hbox b x hb;obtain⟨B',_,_,h2',h3',_,_⟩:=hbox b' x' hb';rw[h3,h3']at e;subst e;exact uO hnd b b' B h2 h2'
theorem jd{nt:Nat} {n0:gp} {w:World} {π:Nat->Nat->Prop} {s:S} {a:Act} {fn:Func} {tm:Array Value} {R:Ending->World->Prop} {u:FrameMode} (hu:u≠.run) {dd:List Deferred}
  (main:∀w',cN P nt n0 w π s a w'->LeavesInM Fence.wide 0 P fn tm R dd u w'):
  ∀(Ds:List Nat) (w':World),Ds.Nodup->(∀D∈Ds,n0.n<=D/\w'.heap[D]? =some (.deferred (some [])))->cN P nt n0 w π s a w'->w.heap.size<=n0.n->LeavesInM Fence.wide 0 P fn tm R (Ds.map Gs++dd) u w'
 |[],w',_,_,R',_=>main w' R'
 |D::Ds,w',hnd,hD,R',hn=>by
  obtain⟨h1,h2⟩:=hD D List.mem_cons_self;simp only[List.nodup_cons]at hnd;refine⟨hu,.inl ⟨D,_,rfl,run_takeDeferred h2,?_⟩⟩
  refine jd hu main Ds _ hnd.2 (fun D' hD'=>?_) ((R'.putObj h2 rfl rfl).MG (R'.below.putObj (Nat.le_trans hn h1) h1 _) R'.eA (fun b o hb=>(jw h2 rfl rfl _).trans (R'.kept b o hb))) hn
  obtain⟨g1,g2⟩:=hD D' (List.mem_cons_of_mem _ hD')
  exact⟨g1,(World.putObj_heap_other (fun e=>hnd.1 (by rw[<-e];exact hD'))).trans g2⟩
theorem qz(hm:P.follows .mixedOrders=true) {f:FuncId} {cf:cU} {mo:Bool} (hcf:gB mo P f=some cf) {css css':List (List AV)} {args:List (Option AV)} {p:AV} (hn:args.length<=cf.nt) (hl:css'.length=css.length) (h4:css.length<=4)
  (h:aw (Pure P) cf.code (L2 p css') (nP css args)):GI P f css args p css':=by
 obtain⟨fn,c,cc,hfn,hbody,hrs,hcc,ec,en,hfit,hcall⟩:=qg hcf;rw[ec]at h;rw[en]at hn
 refine⟨hcall,hl,h4,fun w π Bs vs hprot hnd hbx hd=>?_⟩
 have hbl:=hbx.get.1
 have R:=yb (P:=P) hn h4 hprot hnd hbx hd
 refine callsIn_wide.1 (callsIn_of_wp_marks (n:=0) (F:=Fence.wide) hfn hbody trivial (wpIn_mono (mU (nO hm c cc hcc hfit _ (fun _=>False) ⟨#[],[]⟩ (fun _ h=>h.elim) none 0 w _ _ _ _ ⟨R,fun l h=>by(cases h),⟨[],rfl,.nil,by simp⟩,fun _ h=>h.elim⟩ h)) ?_))
 rintro e a' w' ⟨s,hq,R',_,⟨Ds,hm1,hm2,hm3⟩,_⟩
 cases e with
 |panic ch=>
  obtain⟨rfl,hho⟩:=hq
  show LeavesInM _ _ _ _ _ _ a'.defers _ _
  rw[hm1]
  refine jd (by simp) (fun w' R'=>?_) Ds w' hm2 hm3 R' (Nat.le_refl _)
  obtain⟨_,β,τ,π',U,hU,R'⟩:=R'
  have hB:=R'.BX hbl h4 hl hho
  exact⟨π',rfl,R'.below,R'.dL,fun b o h=>(R'.cj b o h).imp id (fun k=>k.elim id (fun k=>absurd h (ke hB b k o))),R'.dJ,hB⟩
 |_=>exact hq.elim
def PW(res:List eZ) (css:List (List AV)) (j o:Nat):Exit->S->Prop
 | .normal,s| .ret,s=>match res with
  |[.tmp t]=>lk t s.slots=some (.ptr j o)/\fJ s.boxes 0 css
  |_=>False
 |_,_=>False
theorem uh(hm:P.follows .mixedOrders=true) {f:FuncId} {cf:cU} {mo:Bool} (hcf:gB mo P f=some cf) {css:List (List AV)} {args:List (Option AV)} {j o:Nat} (hn:args.length<=cf.nt) (h4:css.length<=4) (hj:j<css.length)
  (h:aw (Pure P) cf.code (PW cf.res css j o) (nP css args)):GK P f css args j o:=by
 obtain⟨fn,c,cc,hfn,hbody,hrs,hcc,ec,en,hfit,hcall⟩:=qg hcf;rw[ec]at h;rw[en]at hn
 refine⟨hcall,h4,fun w π Bs vs hprot hnd hbx hd=>?_⟩
 have hbl:=hbx.get.1
 have R:=yb (P:=P) hn h4 hprot hnd hbx hd
 refine callsIn_wide.1 (callsIn_of_wp_marks (n:=0) (F:=Fence.wide) hfn hbody trivial (wpIn_mono (mU (nO hm c cc hcc hfit _ (fun _=>False) ⟨#[],[]⟩ (fun _ h=>h.elim) none 0 w _ _ _ _ ⟨R,fun l h=>by(cases h),⟨[],rfl,.nil,by simp⟩,fun _ h=>h.elim⟩ h)) ?_))
 have main:∀(s:S) (a':Act) (w':World),PW cf.res css j o .ret s->cN P fn.ntmps (gp.gF w Bs) w π s a' w'->
   ∃v,(results fn a'.tmps).run P w'=.ok v w'/\∃B π',Bs[j]? =some B/\Ending.returned v=.returned (.pointer (some ⟨B,o,none⟩))/\rK (gp.gF w Bs) w w'/\(∀b o,π b o->π' b o)/\(∀b o,π' b o->π b o\/w.heap.size<=b)/\
    (∀b o,π' b o->b<w'.heap.size)/\cg w' π' css Bs:=by
  rintro s a' w' hq ⟨_,β,τ,π',U,hU,R'⟩
  simp only[PW]at hq
  split at hq<;>try(exact hq.elim)
  rename_i t hres;obtain⟨hlk,hho⟩:=hq;obtain⟨⟨y,hy,hry⟩,_⟩:=R'.slots t _ hlk
  have hry:y=.pointer (some ⟨β j,o,none⟩):=hry
  have hB:=R'.BX hbl h4 rfl hho
  have hjB:Bs[j]? =some Bs[j]:=List.getElem?_eq_getElem (by omega)
  have hβ:β j=Bs[j]:=by
   rw[R'.kP j (by omega)]
   simp[gp.gF,hjB]
  have hr:fn.results.toList=[.tmp t]:=by
   rw[hres]at hrs
   cases hf:fn.results.toList with
   |nil=>rw[hf]at hrs;simp at hrs
   |cons rv rvs=>
    rw[hf]at hrs;simp only[List.mapM_cons,Option.bind_eq_bind,Option.bind_eq_some_iff,Option.pure_def,Option.some.injEq]at hrs;obtain⟨cr,hcr,crs,hcrs,e⟩:=hrs;cases e
    cases rvs with
    |nil=>
     cases rv with
     |tmp t'=>cases hcr;rfl
     |cell a t'=>simp only[yZ,Option.map_eq_some_iff,reduceCtorEq,and_false,exists_false]at hcr
    |cons x xs=>
     simp only[List.mapM_cons,Option.bind_eq_bind,Option.bind_eq_some_iff,Option.pure_def,Option.some.injEq]at hcrs;obtain⟨_,_,_,_,h⟩:=hcrs;cases h
  refine⟨y,?_,Bs[j],π',hjB,by rw[hry,hβ],R'.below,R'.dL,fun b o h=>(R'.cj b o h).imp id (fun k=>k.elim id (fun k=>absurd h (ke hB b k o))),R'.dJ,hB⟩
  have e:fn.results=#[.tmp t]:=Array.toList_inj.1 (by simpa using hr)
  rw[oB,e];simp[lK,hy]
 rintro e a' w' ⟨s,hq,R',_,⟨Ds,hm1,hm2,hm3⟩,_⟩
 have hm1:a'.defers=Ds.map Gs:=by simpa using hm1
 cases e with
 |normal=>show LeavesInM _ _ _ _ _ _ a'.defers _ _;rw[hm1];exact eo (main s a' · hq) Ds w' hm2 hm3 R' (Nat.le_refl _)
 |ret=>show LeavesInM _ _ _ _ _ _ a'.defers _ _;rw[hm1];exact eo (main s a' · hq) Ds w' hm2 hm3 R' (Nat.le_refl _)
 |_=>exact hq.elim
theorem Im(hm:P.follows .mixedOrders=true) {f:FuncId} {cf:cU} {mo:Bool} (hcf:gB mo P f=some cf) {args:List AV} {cs:List AV} (hn:args.length<=cf.nt)
  (h:aw (Pure P) cf.code (PV cf.res cs) (nP [] (args.map some))):MB P f args cs:=by
 obtain⟨fn,c,cc,hfn,hbody,hrs,hcc,ec,en,hfit,hcall⟩:=qg hcf;rw[ec]at h;rw[en]at hn
 refine⟨hcall,fun w π vs hprot hd=>?_⟩
 have R:=yb (P:=P) (nt:=fn.ntmps) (css:=[]) (args:=args.map some) (by simpa using hn) (by simp) hprot List.nodup_nil trivial (oz hd)
 refine callsIn_wide.1 (callsIn_of_wp_marks (n:=0) (F:=Fence.wide) hfn hbody trivial (wpIn_mono (mU (nO hm c cc hcc hfit _ (fun _=>False) ⟨#[],[]⟩ (fun _ h=>h.elim) none 0 w _ _ _ _ ⟨R,fun l h=>by(cases h),⟨[],rfl,.nil,by simp⟩,fun _ h=>h.elim⟩ h)) ?_))
 have main:∀(s:S) (a':Act) (w':World),PV cf.res cs .ret s->cN P fn.ntmps (gp.gF w []) w π s a' w'->
   ∃v,(results fn a'.tmps).run P w'=.ok v w'/\∃B π',Ending.returned v=.returned (.pointer (some ⟨B,0,none⟩))/\w.heap.size<=B/\Below w.heap.size w w'/\(∀b o,π b o->π' b o)/\(∀b o,π' b o->π b o\/w.heap.size<=b)/\
    (∀b o,π' b o->b<w'.heap.size)/\nH (fun _=>undef) w' π' B ⟨cs,[]⟩:=by
  rintro s a' w' hq ⟨_,β,τ,π',U,hU,R'⟩
  simp only[PV]at hq
  split at hq<;>try(exact hq.elim)
  rename_i t hres
  split at hq<;>try(exact hq.elim)
  rename_i b hlk;obtain⟨h4,hq⟩:=hq;obtain⟨x,hx,hxc⟩:=af hq;obtain⟨⟨y,hy,hry⟩,_⟩:=R'.slots t _ hlk
  have hry:y=.pointer (some ⟨β b,0,none⟩):=hry
  obtain⟨g1,g2,g3,g4⟩:=R'.boxes b x hx
  have hge:w.heap.size<=β b:=by
   rcases g2 with h|h
   ·exact h
   ·omega
  have hr:fn.results.toList=[.tmp t]:=by
   rw[hres]at hrs
   cases hf:fn.results.toList with
   |nil=>rw[hf]at hrs;simp at hrs
   |cons rv rvs=>
    rw[hf]at hrs;simp only[List.mapM_cons,Option.bind_eq_bind,Option.bind_eq_some_iff,Option.pure_def,Option.some.injEq]at hrs;obtain⟨cr,hcr,crs,hcrs,e⟩:=hrs;cases e
    cases rvs with
    |nil=>
     cases rv with
     |tmp t'=>cases hcr;rfl
     |cell a t'=>simp only[yZ,Option.map_eq_some_iff,reduceCtorEq,and_false,exists_false]at hcr
    |cons x xs=>
     simp only[List.mapM_cons,Option.bind_eq_bind,Option.bind_eq_some_iff,Option.pure_def,Option.some.injEq]at hcrs;obtain⟨_,_,_,_,h⟩:=hcrs;cases h
  refine⟨y,?_,β b,π',by rw[hry],hge,R'.below.below (fun _ h=>by cases h),R'.dL,fun b o h=>(R'.cj b o h).imp id (fun k=>k.elim id (fun k=>by cases k)),R'.dJ,?_⟩
  ·have e:fn.results=#[.tmp t]:=Array.toList_inj.1 (by simpa using hr)
   rw[oB,e];simp[lK,hy]
  ·have:=g3.sK (τ':=fun _=>undef)
   rwa[hxc]at this
 rintro e a' w' ⟨s,hq,R',_,⟨Ds,hm1,hm2,hm3⟩,_⟩
 have hm1:a'.defers=Ds.map Gs:=by simpa using hm1
 cases e with
 |normal=>show LeavesInM _ _ _ _ _ _ a'.defers _ _;rw[hm1];exact eo (main s a' · hq) Ds w' hm2 hm3 R' (Nat.le_refl _)
 |ret=>show LeavesInM _ _ _ _ _ _ a'.defers _ _;rw[hm1];exact eo (main s a' · hq) Ds w' hm2 hm3 R' (Nat.le_refl _)
 |_=>exact hq.elim
end
end Go.Eng
