/- The engine and the library,part 11 of 21: what the proofs of this seat need of them. -/
import Derived.Test.YtkckiembbiiliaaGreatPk10
set_option linter.unnecessarySimpa false
set_option linter.unusedSimpArgs false
set_option linter.unusedVariables false
set_option linter.defProp false
set_option maxRecDepth 10000
set_option maxHeartbeats 4000000
namespace Go.Eng
open Go
def lT(t:Tb) (p:Int) (n:Nat):List Int:=xu t (gl t p).1.group::(List.range n).map fun(g:Nat)=>xu t g
theorem Dg(t:Tb) (p:Int) (n:Nat):lT t p (n+1)=lT t p n++[xu t n]:=by simp[lT,List.range_succ]
def jK(t:Tb) (n:Nat):List Int:=(List.range n).map fun(k:Nat)=>ki [zh t k,(zg t k).stay]
theorem Dh(t:Tb) (n:Nat):jK t (n+1)=jK t n++[ki [zh t n,(zg t n).stay]]:=by simp[jK,List.range_succ]
def ni(t:Tb) (l:List Int):List Int:=l.flatMap fun p=>[oG (eH t p).min,ki [(eH t p).walk,(eH t p).ee]]
theorem xx{t:Tb} {l:List Int} {i:Nat} {x:Int} (h:l[i]? =some x):ni t (l.take (i+1))=ni t (l.take i)++[oG (eH t x).min,ki [(eH t x).walk,(eH t x).ee]]:=by rw[jU h];simp[ni]
theorem EG(t:Tb) (l:List Int):(ni t l).length=l.length*2:=by
 induction l with
 |nil=>rfl
 |cons x l ih=>simp only[ni,List.flatMap_cons,List.length_append,List.length_cons,List.length_nil]at ih⊢;omega
def FH(t:Tb):Int:=if(t.aR.getD []).length=0 then 0 else ki [nO (jK t (t.aR.getD []).length),nO (ni t (jw (De t))),q6 t,t.revert,30]
def BX.Spec(C:bw) (f:Nat):Prop:=∀(t:Tb),t.Ok->C.c f [.agg t.cells] (I (FH t)) none
def lX(t:Tb) (p:Int):Int:=if qa t p=0\/(t.aR.getD []).length=0 then qa t p else ki [Uy (ki [t.share,1]) (ki [FH t,qa t p,2]),t.share]
def wait.Spec(C:bw) (f:Nat):Prop:=∀(t:Tb) (p:Int),t.Ok->C.c f [.agg t.cells,I p] (I (lX t p)) none
theorem Rl.len(r:Rl):r.cells.length=11:=rfl
theorem zk{t:Tb} {k:Int} (h0:0<=k) (h1:k<((t.aR.getD []).length:Int)):(t.aR.getD [])[k.toNat]? =some (zg t k):=by
 have:k.toNat<(t.aR.getD []).length:=by omega
 simp[zg,this]
section
variable{P:Program} (hm:P.follows .mixedOrders=true) {f:Nat}
include hm
theorem free.ok{fW fO fH fP e fs:Nat} (hc:de P f=some (ob fW fO fH fP e fs)) (hW:where.Spec (Pure P) fW) (hO:on.Spec (Pure P) fO) (hH:t6.Spec (Pure P) fH) (hP:pass.Spec (Pure P) fP) (hs:vm.Spec (Pure P) fs):free.Spec (Pure P) f:=by
 intro t p ht
 have hl:=Tb.len ht
 have hp:=Tb.whole ht
 have hg:=Tb.wm ht
 have hb:=ht.groups
 refine aB hm hc (by show 2<=44;decide) (ax (keep:=[]) (i:=0) ?_)
 try simp only[I,B,D,RX,↓KW,seval,ob,Z.H,hp,hl]
 refine ai (hW t _ ht) ?_;try simp only[I,B,D,RX,↓KW,seval,hp,Sp.cells]
 by_cases h0:((gl t p).2&&qh (De t) p)=true
 ·have hx:qa t p=ki (lT t p (t.groups.getD []).length):=if_pos h0
  simp only[Bool.and_eq_true]at h0;try simp only[I,B,D,RX,↓KW,seval,h0,hp]
  refine ai (hO t ht) ?_;try simp only[I,B,D,RX,↓KW,seval]
  refine ai (hH _ _) ?_;try simp only[I,B,D,RX,↓KW,seval,h0,hp]
  refine ai (hP t _ ht) ?_;try simp only[I,B,D,RX,↓KW,seval]
  refine aH (fun k:Nat=>(⟨[(8,.dat (I k) none),(2,.ptr 4 0),(7,bQ aA (lT t p k) 0)],[(4,⟨t.cells,[]⟩)],bq (lT t p k) 0 e,400⟩:S)) (fun k=>(t.groups.getD []).length-k) (fun k=>k<=(t.groups.getD []).length) ?_ 0 (by omega) ?_
  ·intro k hk A back
   have hw:=aF (k:=k) (by omega)
   have hne:lT t p k≠[]:=by simp[lT]
   have hn:=Dg t p k
   have hlen:(lT t p k).length=k+1:=by simp[lT]
   try simp only[I,B,D,RX,↓KW,seval,bQ,bq,hne,hg]
   refine aq (fun h=>?_) (fun h=>?_)<;>try simp only[I,B,D,RX,↓KW,seval,hp,h]
   ·have:k<(t.groups.getD []).length:=by have:=of_decide_eq_true h;omega
    refine ai (hP t _ ht) ?_;try simp only[I,B,D,RX,↓KW,seval]
    refine⟨by omega,?_⟩
    refine back (k+1) _ (by omega) (by omega) (ah (by decide) ?_ ?_ ?_ ?_)<;>simp[LX,I,B,D,hn,hw,hne]
   ·have:k=(t.groups.getD []).length:=by have:=of_decide_eq_false h;omega
    subst this;try simp only[I,B,D,RX,↓KW,seval]
    refine ai (hs (some (lT t p (t.groups.getD []).length)) (by simp;omega)) ?_
    try simp only[I,B,D,RX,↓KW,seval,hx]
    rfl
  ·refine ah (by decide) ?_ ?_ ?_ ?_<;>simp[LX,I,B,D,lT]
 ·have hx:qa t p=0:=if_neg h0
  repeat' (first|((first|refine ai (hO t ht) ?_|refine ai (hH _ _) ?_);try simp only[I,B,D,RX,↓KW,seval,hp,hx])|(((first|refine bJ ?_ ?_|refine aq ?_ ?_|refine cX ?_ ?_)<;>intro h)<;>try simp only[I,B,D,RX,↓KW,seval,hp,hx,h]))
  all_goals simp_all
theorem entry.ok{fC e fs:Nat} (hc:de P f=some (mY fC e fs)) (hC:clear.Spec (Pure P) fC) (hs:vm.Spec (Pure P) fs):entry.Spec (Pure P) f:=by
 intro t k ht
 have hl:=Tb.len ht
 have hp:=Tb.whole ht
 have hg:=Tb.zf ht
 have h119:=Tb.tail_at ht 3 (by omega)
 refine aB hm hc (by show 2<=50;decide) (ax (keep:=[]) (i:=0) ?_)
 try simp only[I,B,D,RX,↓KW,seval,mY,Z.H,hp,hl]
 by_cases h0:k<0\/((t.aR.getD []).length:Int)<=k
 ·have hx:zh t k=0:=if_pos h0
  repeat' (((first|refine bJ ?_ ?_|refine aq ?_ ?_|refine cX ?_ ?_)<;>intro h)<;>try simp only[I,B,D,RX,↓KW,seval,hg,hx,h])
  simp_all;omega
 ·have hx:=show zh t k=_ from if_neg h0
  have h1:decide (k<0)=false:=by simp;omega
  have h2:decide (((t.aR.getD []).length:Int)<=k)=false:=by simp;omega
  have hr:=zk (t:=t) (k:=k) (by omega) (by omega)
  try simp only[I,B,D,RX,↓KW,seval,h1,h2,hg]
  refine⟨by omega,?_⟩
  try simp only[I,B,D,RX,↓KW,seval,hr,Rl.len,Rl.cells,dG,hp]
  refine ai (hC t ht) ?_;try simp only[I,B,D,RX,↓KW,seval,h119]
  refine ai (hs (some [_,_,_,_,_,_,_,_,_,_,_,_,_,_,_,_]) (by simp)) ?_
  try simp only[I,B,D,RX,↓KW,seval,hx]
  rfl
theorem wait.ok{fF e fs fO fM:Nat} (hc:de P f=some (n9 fF e fs fO fM)) (hF:free.Spec (Pure P) fF) (hs:vm.Spec (Pure P) fs) (hO:BX.Spec (Pure P) fO) (hM:Mul.Spec (Pure P) fM):wait.Spec (Pure P) f:=by
 intro t p ht
 have hl:=Tb.len ht
 have hp:=Tb.whole ht
 have hg:=Tb.zf ht
 have h130:=Tb.I8 ht
 refine aB hm hc (by show 2<=32;decide) (ax (keep:=[]) (i:=0) ?_)
 try simp only[I,B,D,RX,↓KW,seval,n9,Z.H,hp,hl]
 refine ai (hF t _ ht) ?_;try simp only[I,B,D,RX,↓KW,seval,hg]
 by_cases h0:qa t p=0\/(t.aR.getD []).length=0
 ·have hx:lX t p=qa t p:=if_pos h0
  repeat' (((first|refine bJ ?_ ?_|refine aq ?_ ?_|refine cX ?_ ?_)<;>intro h)<;>try simp only[I,B,D,RX,↓KW,seval,hg,hx,h])
  simp_all
 ·have hx:=show lX t p=_ from if_neg h0
  have h1:(qa t p==0)=false:=by simp;omega
  have h2:(((t.aR.getD []).length:Int)==0)=false:=beq_false_of_ne (by omega)
  try simp only[I,B,D,RX,↓KW,seval,h1,h2,hg,h130]
  refine ai (hs (some [_,_]) (by simp)) ?_
  try simp only[I,B,D,RX,↓KW,seval,hp]
  refine ai (hO t ht) ?_;try simp only[I,B,D,RX,↓KW,seval]
  refine ai (hs (some [_,_,_]) (by simp)) ?_
  try simp only[I,B,D,RX,↓KW,seval,hp]
  refine ai (hM _ _) ?_;try simp only[I,B,D,RX,↓KW,seval,h130]
  refine ai (hs (some [_,_]) (by simp)) ?_
  try simp only[I,B,D,RX,↓KW,seval,hx]
  rfl
theorem BX.ok{fE e fs fO fL fC fM fcl:Nat} (hc:de P f=some (tA fE e fs fO fL fC fM fcl)) (hE:entry.Spec (Pure P) fE) (hs:vm.Spec (Pure P) fs) (hO:on.Spec (Pure P) fO) (hL:pI.Spec (Pure P) fL e) (hC:Cap.Spec (Pure P) fC) (hM:most.Spec (Pure P) fM) (hcl:clear.Spec (Pure P) fcl):BX.Spec (Pure P) f:=by
 intro t ht
 have hl:=Tb.len ht
 have hp:=Tb.whole ht
 have hg:=Tb.zf ht
 have hb:=ht.aR
 have h119:=Tb.tail_at ht 3 (by omega)
 refine aB hm hc (by show 1<=73;decide) (ax (keep:=[]) (i:=0) ?_)
 try simp only[I,B,D,RX,↓KW,seval,tA,Z.H,hp,hl,hg]
 by_cases h0:(t.aR.getD []).length=0
 ·have hx:FH t=0:=if_pos h0
  repeat' (((first|refine bJ ?_ ?_|refine aq ?_ ?_|refine cX ?_ ?_)<;>intro h)<;>try simp only[I,B,D,RX,↓KW,seval,hg,hx,h])
  simp_all
 ·have hx:=show FH t=_ from if_neg h0
  have h2:(((t.aR.getD []).length:Int)==0)=false:=beq_false_of_ne (by omega)
  try simp only[I,B,D,RX,↓KW,seval,h2]
  refine aH (fun k:Nat=>(⟨[(5,.dat (I k) none),(1,.ptr 4 0),(4,.dat (.bL) none),(3,bQ aA (jK t k) 0)],[(4,⟨t.cells,[]⟩)],bq (jK t k) 0 e,400⟩:S)) (fun k=>(t.aR.getD []).length-k) (fun k=>k<=(t.aR.getD []).length) ?_ 0 (by omega) ?_
  ·intro k hk A back
   have hw:=aF (k:=k) (by omega)
   have hn:=Dh t k
   have hlen:(jK t k).length=k:=by simp[jK]
   by_cases hl:jK t k=[]
   all_goals
    try simp only[I,B,D,RX,↓KW,seval,bQ,bq,hl,hg]
    refine aq (fun h=>?_) (fun h=>?_)<;>try simp only[I,B,D,RX,↓KW,seval,hp,h]
   ·have:k<(t.aR.getD []).length:=by have:=of_decide_eq_true h;omega
    have hr:=zk (t:=t) (k:=k) (by omega) (by omega)
    rw[Int.toNat_natCast]at hr;refine ai (hE t _ ht) ?_;try simp only[I,B,D,RX,↓KW,seval,hg]
    refine⟨by omega,?_⟩
    try simp only[I,B,D,RX,↓KW,seval,hr,Rl.len,Rl.cells]
    refine ai (hs (some [_,_]) (by simp)) ?_
    try simp only[I,B,D,RX,↓KW,seval]
    refine back (k+1) _ (by omega) (by omega) (ah (by decide) ?_ ?_ ?_ ?_)<;>simp[LX,I,B,D,hn,hw,hl]
   ·exfalso
    have:=of_decide_eq_false h
    rw[hl]at hlen;simp at hlen;omega
   ·have:k<(t.aR.getD []).length:=by have:=of_decide_eq_true h;omega
    have hr:=zk (t:=t) (k:=k) (by omega) (by omega)
    rw[Int.toNat_natCast]at hr;refine ai (hE t _ ht) ?_;try simp only[I,B,D,RX,↓KW,seval,hg]
    refine⟨by omega,?_⟩
    try simp only[I,B,D,RX,↓KW,seval,hr,Rl.len,Rl.cells]
    refine ai (hs (some [_,_]) (by simp)) ?_
    try simp only[I,B,D,RX,↓KW,seval]
    refine⟨by omega,?_⟩
    refine back (k+1) _ (by omega) (by omega) (ah (by decide) ?_ ?_ ?_ ?_)<;>simp[LX,I,B,D,hn,hw,hl]
   ·have:k=(t.aR.getD []).length:=by have:=of_decide_eq_false h;omega
    subst this;try simp only[I,B,D,RX,↓KW,seval,hp]
    refine ai (hO t ht) ?_;try simp only[I,B,D,RX,↓KW,seval]
    refine ai (hL _ none (.inl rfl)) ?_;try simp only[I,B,D,RX,↓KW,seval]
    have hlen:=AY (De t)
    have hrg:=@xw (De t)
    have hmk:=cO (jw (De t))
    generalize jw (De t)=L at*
    have hmst:nO (jK t (t.aR.getD []).length)=nO (jK t (t.aR.getD []).length):=rfl
    refine aH (fun k:Nat=>(⟨[(37,.dat (I k) none),(36,.dat (I L.length) none),(35,.dat (aD aA (bf L)) none),(1,.ptr 4 0),(3,.dat (.sl ((jK t (t.aR.getD []).length).map aA)) none),(4,bQ aA (ni t (L.take k)) 0)],[(4,⟨t.cells,[]⟩)],bq (ni t (L.take k)) 0 e,400⟩:S)) (fun k=>L.length-k) (fun k=>k<=L.length) ?_ 0 (by omega) ?_
    ·intro k hk A back
     have hw:=aF (k:=k) (by omega)
     have hln:(ni t (L.take k)).length<=16:=by rw[EG];have:=List.length_take_le k L;omega
     by_cases hl:ni t (L.take k)=[]
     all_goals
      try simp only[I,B,D,RX,↓KW,seval,bQ,bq,hl]
      refine aq (fun h=>?_) (fun h=>?_)<;>try simp only[I,B,D,RX,↓KW,seval,hmk,h]
     ·have hlt:k<L.length:=by have:=of_decide_eq_true h;omega
      obtain⟨x,hx2⟩:∃x,L[k]? =some x:=⟨_,List.getElem?_eq_getElem hlt⟩
      have hx8:=hrg (List.mem_of_getElem? hx2)
      have hph:=Tb.BW ht hx8.1 hx8.2
      have hn:=xx (t:=t) hx2
      refine⟨by omega,?_⟩
      try simp only[I,B,D,RX,↓KW,seval,hx2,aA]
      refine⟨by omega,?_⟩
      try simp only[I,B,D,RX,↓KW,seval,hph]
      refine ai (hC _) ?_;try simp only[I,B,D,RX,↓KW,seval,hph]
      refine⟨by omega,?_⟩
      try simp only[I,B,D,RX,↓KW,seval,hph]
      refine⟨by omega,?_⟩
      try simp only[I,B,D,RX,↓KW,seval,hph]
      refine ai (hs (some [_,_]) (by simp)) ?_
      try simp only[I,B,D,RX,↓KW,seval]
      refine back (k+1) _ (by omega) (by omega) (ah (by decide) ?_ ?_ ?_ ?_)<;>simp[LX,I,B,D,hn,hw,hl]
     ·have:k=L.length:=by have:=of_decide_eq_false h;omega
      subst this;rw[List.take_length]at hl hln;try simp only[I,B,D,RX,↓KW,seval]
      refine ai (hM (some _) (by simp[jK];omega)) ?_
      try simp only[I,B,D,RX,↓KW,seval]
      refine ai (hM none (by simp)) ?_
      try simp only[I,B,D,RX,↓KW,seval,hp]
      refine ai (hcl t ht) ?_;try simp only[I,B,D,RX,↓KW,seval,h119]
      refine ai (hs (some [_,_,_,_,_]) (by simp)) ?_
      try simp only[I,B,D,RX,↓KW,seval,hx,hl]
      rfl
     ·have hlt:k<L.length:=by have:=of_decide_eq_true h;omega
      obtain⟨x,hx2⟩:∃x,L[k]? =some x:=⟨_,List.getElem?_eq_getElem hlt⟩
      have hx8:=hrg (List.mem_of_getElem? hx2)
      have hph:=Tb.BW ht hx8.1 hx8.2
      have hn:=xx (t:=t) hx2
      refine⟨by omega,?_⟩
      try simp only[I,B,D,RX,↓KW,seval,hx2,aA]
      refine⟨by omega,?_⟩
      try simp only[I,B,D,RX,↓KW,seval,hph]
      refine ai (hC _) ?_;try simp only[I,B,D,RX,↓KW,seval,hph]
      refine⟨by omega,?_⟩
      try simp only[I,B,D,RX,↓KW,seval,hph]
      refine⟨by omega,?_⟩
      try simp only[I,B,D,RX,↓KW,seval,hph]
      refine ai (hs (some [_,_]) (by simp)) ?_
      try simp only[I,B,D,RX,↓KW,seval]
      refine⟨by omega,?_⟩
      refine back (k+1) _ (by omega) (by omega) (ah (by decide) ?_ ?_ ?_ ?_)<;>simp[LX,I,B,D,hn,hw,hl]
     ·have:k=L.length:=by have:=of_decide_eq_false h;omega
      subst this;rw[List.take_length]at*;try simp only[I,B,D,RX,↓KW,seval]
      refine ai (hM (some _) (by simp[jK];omega)) ?_
      try simp only[I,B,D,RX,↓KW,seval]
      refine ai (hM (some _) (by simp;omega)) ?_
      try simp only[I,B,D,RX,↓KW,seval,hp]
      refine ai (hcl t ht) ?_;try simp only[I,B,D,RX,↓KW,seval,h119]
      refine ai (hs (some [_,_,_,_,_]) (by simp)) ?_
      try simp only[I,B,D,RX,↓KW,seval,hx,hl]
      rfl
    ·refine ah (by decide) ?_ ?_ ?_ ?_<;>simp[LX,I,B,D,hmk,ni]
  ·refine ah (by decide) ?_ ?_ ?_ ?_<;>simp[LX,I,B,D,jK]
end
section
open Z
def tD:dc:=⟨15,[.tmp 2,.tmp 3],r [V 2 (i 0),V 3 (F)] (j (r [M 4 0,o 5 (bb .geq 4 (.float .f64 0)),M 6 5,p 7 (m 0) 6,p 8 (bb .leq 7 (.float .f64 4652006429231887155)) 6,o 9 (P 6 8),o 10 (.un .not (t 9))] (c 10 (r [V 2 (i 0),V 3 (F)] y) z)) (r [M 11 0,o 12 (.bin .mul (k (.float .f64 4621819117588971520)) (t 11)),o 13 (.xt .rte (t 12)),o 14 (.Bp .i64 (t 13)),M 2 14,V 3 (T)] y))⟩
def q7:dc:=⟨36,[.tmp 2,.tmp 3],r [V 2 (i 0),V 3 (F)] (j (r [M 7 0,o 8 (bb .geq 7 (.float .f64 0)),M 9 8,p 10 (m 0) 9,p 11 (bb .leq 10 (.float .f64 4652006429231887155)) 9,o 12 (P 9 11),o 13 (.un .not (t 12))] (c 13 (r [V 2 (i 0),V 3 (F)] y) z)) (r [M 14 0,o 15 (bb .mul 14 (.float .f64 4621819117588971520)),M 4 15] (r [M 16 4,o 17 (.Bp .i64 (t 16)),M 5 17] (r [M 18 4,M 19 5,o 20 (.Ak .f64 (t 19)),o 21 (b .sub 18 20),M 6 21] (j (r [M 22 6,o 23 (bb .gtr 22 (.float .f64 4602678819172646912)),M 24 23,q 25 (m 6) 24,q 26 (bb .eql 25 (.float .f64 4602678819172646912)) 24,q 27 (m 26) 24,p 28 (m 5) 27,p 29 (bb .rem 28 (i 2)) 27,p 30 (bb .eql 29 (i 1)) 27,q 31 (P 27 30) 24,o 32 (Q 24 31)] (c 32 (R [M 33 5,o 34 (bb .add 33 (i 1)),M 5 34]) z)) (r [M 35 5,M 2 35,V 3 (T)] y))))))⟩
end
open Ieee
set_option exponentiation.threshold 4000
def qi(n d:Nat):Nat:=n/2^d+(if 2^d<2*(n%2^d)\/(2^d=2*(n%2^d)/\n/2^d%2=1)then 1 else 0)
theorem bT(d:Nat):0<2^d:=Nat.two_pow_pos d
theorem Jb(n d:Nat):qi n d<=n/2^d+1:=by unfold qi;split<;>omega
theorem EH(n d:Nat):n/2^d<=qi n d:=by unfold qi;omega
theorem Jc(n:Nat):qi n 0=n:=by simp[qi,Nat.mod_one]
theorem mH(n d k:Nat):qi (n*2^k) (d+k)=qi n d:=by
 unfold qi;rw[Nat.pow_add,Nat.mul_div_mul_right _ _ (bT k),Nat.mul_mod_mul_right]
 have hk:=bT k
 have e1:(2^d*2^k<2*(n%2^d*2^k))↔(2^d<2*(n%2^d)):=by
  rw[<-Nat.mul_assoc];exact Nat.mul_lt_mul_right hk
 have e2:(2^d*2^k=2*(n%2^d*2^k))↔(2^d=2*(n%2^d)):=by
  rw[<-Nat.mul_assoc];exact Nat.mul_left_inj (by omega)
 simp only[e1,e2]
theorem vo{n n':Nat} (h:n<=n') (d:Nat):qi n d<=qi n' d:=by
 have hp:=bT d
 have hq:n/2^d<=n'/2^d:=Nat.div_le_div_right h
 by_cases he:n/2^d=n'/2^d
 ·unfold qi
  rw[he]
  have h1:=Nat.div_add_mod n (2^d)
  have h2:=Nat.div_add_mod n' (2^d)
  rw[he]at h1
  have hr:n%2^d<=n'%2^d:=by omega
  split<;>split<;>omega
 ·have h1:=Jb n d
  have h2:=EH n' d
  omega
theorem GU{n d:Nat} (q:Nat):qi (q*2^d) d=q:=by
 have:=mH q 0 d
 rw[Nat.zero_add,Jc]at this;exact this
theorem oI(n:Nat):n<2^(n.log2+1):=Nat.lt_log2_self
theorem Di(s:Bool) (n d:Nat):Toward.even.cut s n d=qi n d:=by
 unfold Toward.cut;simp only[Nat.one_shiftLeft]
 by_cases hd:d<=n.log2+2
 ·rw[Nat.min_eq_left hd]
  unfold qi
  congr 1
  by_cases h1:2^d<2*(n%2^d)
  ·simp[h1]
  ·by_cases h2:2^d=2*(n%2^d)
   ·by_cases h3:n/2^d%2=1
    ·simp[<-h2,h3]
    ·simp[<-h2,h3]
   ·simp[h1,h2]
 ·rw[Nat.min_eq_right (by omega)]
  have hl:=oI n
  have h2:2^(n.log2+2)=2*2^(n.log2+1):=by rw[Nat.pow_succ,Nat.mul_comm]
  have hd2:2^(n.log2+2)<=2^d:=Nat.pow_le_pow_right (by omega) (by omega)
  have e1:n/2^(n.log2+2)=0:=Nat.div_eq_of_lt (by omega)
  have e2:n%2^(n.log2+2)=n:=Nat.mod_eq_of_lt (by omega)
  have e3:n/2^d=0:=Nat.div_eq_of_lt (by omega)
  have e4:n%2^d=n:=Nat.mod_eq_of_lt (by omega)
  unfold qi;rw[e1,e2,e3,e4]
  have c1:¬(2^(n.log2+2)<2*n):=by omega
  have c2:¬(2^(n.log2+2)=2*n):=by omega
  have c3:¬(2^d<2*n):=by omega
  have c4:¬(2^d=2*n):=by omega
  simp[c1,c2,c3,c4]
def rV(r:Nat):Nat:=if r<2^52 then r else(2^52+r%2^52)*2^(r/2^52-1)
theorem BY{r r':Nat} (h:r<=r'):rV r<=rV r':=by
 unfold rV
 have hd:r/2^52<=r'/2^52:=Nat.div_le_div_right h
 have hm:=Nat.mod_lt r (bT 52)
 have hm':=Nat.mod_lt r' (bT 52)
 split
 ·split
  ·exact h
  ·have:1<=2^(r'/2^52-1):=bT _
   calc r<=2^52+r'%2^52:=by omega
    _=(2^52+r'%2^52)*1:=by omega
    _<=_:=Nat.mul_le_mul_left _ this
 ·split
  ·omega
  ·by_cases he:r/2^52=r'/2^52
   ·rw[he]
    have h1:=Nat.div_add_mod r (2^52)
    have h2:=Nat.div_add_mod r' (2^52)
    rw[he]at h1
    exact Nat.mul_le_mul_right _ (by omega)
   ·have h0:1<=r/2^52:=by
     have:2^52<=r:=by omega
     exact(Nat.le_div_iff_mul_le (bT 52)).2 (by omega)
    calc (2^52+r%2^52)*2^(r/2^52-1)<=2^53*2^(r/2^52-1):=Nat.mul_le_mul_right _ (by omega)
     _=2^52*2^(r/2^52):=by rw[<-Nat.pow_add,<-Nat.pow_add];congr 1;omega
     _<=2^52*2^(r'/2^52-1):=Nat.mul_le_mul_left _ (Nat.pow_le_pow_right (by omega) (by omega))
     _<=_:=Nat.mul_le_mul_right _ (by omega)
def Lg(N:Nat):Nat:=max (N.log2-52) 1126
def Rg(N:Nat):Nat:=if N=0 then 0 else min ((Lg N-1126)*2^52+qi N (Lg N)) (2047*2^52)
theorem UA{N N':Nat} (h0:N≠0) (h:N<=N'):Lg N<=Lg N':=by
 have:N.log2<=N'.log2:=(Nat.le_log2 (by omega)).2 (Nat.le_trans (Nat.log2_self_le h0) h)
 unfold Lg;omega
theorem UB(N:Nat):N<2^(Lg N+53):=Nat.lt_of_lt_of_le (oI N) (Nat.pow_le_pow_right (by omega) (by unfold Lg;omega))
theorem UC(N:Nat):N/2^Lg N<2^53:=by
 rw[Nat.div_lt_iff_lt_mul (bT _),<-Nat.pow_add,Nat.add_comm];exact UB N
theorem N7{N:Nat} (h:N≠0) (hL:1126<Lg N):2^52<=N/2^Lg N:=by
 rw[Nat.le_div_iff_mul_le (bT _),<-Nat.pow_add]
 refine Nat.le_trans (Nat.pow_le_pow_right (by omega) ?_) (Nat.log2_self_le h)
 unfold Lg at hL⊢;omega
theorem BZ{N N':Nat} (h:N<=N'):Rg N<=Rg N':=by
 unfold Rg
 by_cases h0:N=0
 ·simp[h0]
 ·have h0':N'≠0:=by omega
  rw[if_neg h0,if_neg h0']
  have hL:=UA h0 h
  suffices(Lg N-1126)*2^52+qi N (Lg N)<=(Lg N'-1126)*2^52+qi N' (Lg N')by omega
  by_cases he:Lg N=Lg N'
  ·rw[he];have:=vo h (Lg N');omega
  ·have h1:=UC N
   have h2:=Jb N (Lg N)
   have h3:2^52<=N'/2^Lg N':=N7 h0' (by unfold Lg at he hL⊢;omega)
   have h4:=EH N' (Lg N')
   have h5:(Lg N-1126)+1<=Lg N'-1126:=by unfold Lg at he hL⊢;omega
   omega
theorem Jd{N:Nat} (q:Nat) (h:N=q*2^Lg N) (hb:N<2^3150):Rg N<2047*2^52/\rV (Rg N)*2^1126=N:=by
 by_cases h0:N=0
 ·subst h0;simp[Rg,rV]
 ·have hp:=bT (Lg N)
  have hq:N/2^Lg N=q:=by
   have:q*2^Lg N/2^Lg N=q:=Nat.mul_div_cancel _ hp
   rw[<-h]at this;exact this
  have hr:qi N (Lg N)=q:=by
   have:qi (q*2^Lg N) (Lg N)=q:=GU (n:=0) q
   rw[<-h]at this;exact this
  have hq53:=UC N
  rw[hq]at hq53
  have hL:Lg N<=3098:=by
   have:N.log2<3150:=(Nat.log2_lt h0).2 hb
   unfold Lg;omega
  have hlt:(Lg N-1126)*2^52+q<2047*2^52:=by omega
  have hRg:Rg N=(Lg N-1126)*2^52+q:=by unfold Rg;rw[if_neg h0,hr];omega
  rw[hRg];refine⟨hlt,?_⟩
  have key:rV ((Lg N-1126)*2^52+q)=q*2^(Lg N-1126):=by
   by_cases hLe:Lg N=1126
   ·rw[hLe]
    simp only[Nat.sub_self,Nat.zero_mul,Nat.zero_add,Nat.pow_zero,Nat.mul_one];unfold rV;split
    ·rfl
    ·have e1:q/2^52=1:=by omega
     have e2:q%2^52=q-2^52:=by omega
     rw[e1,e2];omega
   ·have hL1:1126<Lg N:=by unfold Lg at hLe⊢;omega
    have h52:=N7 h0 hL1
    rw[hq]at h52;unfold rV
    have e1:((Lg N-1126)*2^52+q)/2^52-1=Lg N-1126:=by omega
    have e2:2^52+((Lg N-1126)*2^52+q)%2^52=q:=by omega
    rw[if_neg (by omega),e1,e2]
  rw[key,Nat.mul_assoc,<-Nat.pow_add]
  have:Lg N-1126+1126=Lg N:=by
   have:1126<=Lg N:=by unfold Lg;omega
   omega
  rw[this];exact h.symm
theorem zl{m k:Nat} (hm:m<2^53) (hk:1126<=k) (hk2:k<=3090):Rg (m*2^k)<2047*2^52/\rV (Rg (m*2^k))*2^1126=m*2^k:=by
 by_cases h0:m=0
 ·subst h0;simp[Rg,rV]
 ·have hl:(m*2^k).log2=m.log2+k:=by
   have h1:m*2^k≠0:=Nat.mul_ne_zero h0 (by have:=bT k;omega)
   apply Nat.le_antisymm
   ·have:(m*2^k).log2<m.log2+k+1:=(Nat.log2_lt h1).2 (by
     rw[show m.log2+k+1=(m.log2+1)+k by omega,Nat.pow_add]
     exact Nat.mul_lt_mul_of_pos_right (oI m) (bT k))
    omega
   ·exact(Nat.le_log2 h1).2 (by rw[Nat.pow_add];exact Nat.mul_le_mul_right _ (Nat.log2_self_le h0))
  have hm52:m.log2<=52:=by have:=(Nat.log2_lt h0).2 hm;omega
  have hLk:Lg (m*2^k)<=k:=by unfold Lg;omega
  refine Jd (m*2^(k-Lg (m*2^k))) ?_ ?_
  ·rw[Nat.mul_assoc,<-Nat.pow_add];congr 2;omega
  ·have:=oI (m*2^k)
   refine Nat.lt_of_lt_of_le this (Nat.pow_le_pow_right (by omega) (by omega))
open Ieee
set_option exponentiation.threshold 4000
abbrev DF:Format:=Ieee.double
theorem kN:DF.binade=2^52:=rfl
theorem kU:DF.signWeight=2^63:=rfl
theorem wo:DF.infRung=2047*2^52:=rfl
theorem oJ:DF.leastPlace=-1074:=by decide
theorem MK:DF.fractionBits=52:=rfl
def uz(r:Nat):Nat:=if r<2^52 then r else 2^52+r%2^52
def jx(r:Nat):Nat:=if r<2^52 then 0 else r/2^52-1
theorem kO(r:Nat):rV r=uz r*2^jx r:=by unfold rV uz jx;split<;>simp
theorem Je(r:Nat):uz r<2^53:=by unfold uz;split<;>omega
theorem gV{r:Nat} (h:r<2047*2^52):DF.read r=.number false (uz r) (-1074+(jx r:Int)):=by
 have h1:r/2^63%2=0:=by omega
 have h2:r%2^63=r:=by omega
 unfold Format.read;simp only[kN,kU,wo,oJ,h1,h2];unfold uz jx;split
 ·simp
 ·simp[h]
theorem Jf{r:Nat} (h:r<2047*2^52):DF.read (2^63+r)=.number true (uz r) (-1074+(jx r:Int)):=by
 have h1:(2^63+r)/2^63%2=1:=by omega
 have h2:(2^63+r)%2^63=r:=by omega
 unfold Format.read;simp only[kN,kU,wo,oJ,h1,h2];unfold uz jx;split
 ·simp
 ·simp[h]
theorem EI(s:Bool) (m:Nat) (p:Int) (hp:-2200<=p):DF.nearest s m p=DF.word s (Rg (m*2^(p+2200).toNat)):=by
 unfold Format.nearest
 by_cases h0:m=0
 ·simp[h0,Rg]
 ·rw[if_neg h0]
  obtain⟨k,hk⟩:∃k:Nat,p=(k:Int)-2200:=⟨(p+2200).toNat,by omega⟩
  subst hk
  have ek:((k:Int)-2200+2200).toNat=k:=by omega
  rw[ek]
  have h1:m*2^k≠0:=Nat.mul_ne_zero h0 (by have:=bT k;omega)
  have hl:(m*2^k).log2=m.log2+k:=by
   apply Nat.le_antisymm
   ·have:(m*2^k).log2<m.log2+k+1:=(Nat.log2_lt h1).2 (by
     rw[show m.log2+k+1=(m.log2+1)+k by omega,Nat.pow_add]
     exact Nat.mul_lt_mul_of_pos_right (oI m) (bT k))
    omega
   ·exact(Nat.le_log2 h1).2 (by rw[Nat.pow_add];exact Nat.mul_le_mul_right _ (Nat.log2_self_le h0))
  have hlast:max ((k:Int)-2200+m.log2-(DF.fractionBits:Nat)) DF.leastPlace=(Lg (m*2^k):Int)-2200:=by
   rw[oJ,MK];unfold Lg;rw[hl];omega
  simp only[hlast];simp only[Di,oJ,kN,wo]
  have hg:1126<=Lg (m*2^k):=by unfold Lg;omega
  have e1:((Lg (m*2^k):Int)-2200- -1074).toNat=Lg (m*2^k)-1126:=by omega
  have e2:qi (m<<<((k:Int)-2200-((Lg (m*2^k):Int)-2200)).toNat) ((Lg (m*2^k):Int)-2200-((k:Int)-2200)).toNat=qi (m*2^k) (Lg (m*2^k)):=by
   rw[Nat.shiftLeft_eq];generalize Lg (m*2^k)=L
   by_cases hLk:L<=k
   ·have a1:((k:Int)-2200-((L:Int)-2200)).toNat=k-L:=by omega
    have a2:((L:Int)-2200-((k:Int)-2200)).toNat=0:=by omega
    rw[a1,a2]
    have:=mH (m*2^(k-L)) 0 L
    rw[Nat.zero_add,Nat.mul_assoc,<-Nat.pow_add,Nat.sub_add_cancel hLk]at this;exact this.symm
   ·have a1:((k:Int)-2200-((L:Int)-2200)).toNat=0:=by omega
    have a2:((L:Int)-2200-((k:Int)-2200)).toNat=L-k:=by omega
    rw[a1,a2,Nat.pow_zero,Nat.mul_one]
    have:=mH m (L-k) k
    rw[Nat.sub_add_cancel (by omega)]at this
    exact this.symm
  rw[e1,e2];unfold Rg;rw[if_neg h1]
theorem Jg(r:Nat):DF.word false r=r:=by unfold Format.word;simp
theorem kP(m:Nat) (p:Int) (hp:-2200<=p):DF.write (.number false m p)=Rg (m*2^(p+2200).toNat):=by
 show DF.nearest false m p=_
 rw[EI _ _ _ hp,Jg]
def Fin(r:Nat):Prop:=r<2047*2^52
def HD:Nat:=4621819117588971520
theorem B1:DF.read HD=.number false (5*2^50) (-49):=by decide
theorem Jh{r:Nat} (h:Fin r):DF.mul HD r=some (Rg (10*rV r*2^1126))/\DF.mul r HD=some (Rg (10*rV r*2^1126)):=by
 have e:5*2^50*uz r*2^((-49+(-1074+(jx r:Int)))+2200).toNat=10*rV r*2^1126:=by
  have:((-49+(-1074+(jx r:Int)))+2200).toNat=jx r+1077:=by omega
  rw[this,kO,show(2:Nat)^1126=2^49*2^1077 by rw[<-Nat.pow_add],Nat.pow_add,show 5*2^50=10*2^49 by decide]
  simp only[Nat.mul_assoc,Nat.mul_left_comm,Nat.mul_comm]
 constructor
 ·unfold Format.mul
  rw[B1,gV h];simp only[Datum.product,Option.map_some,Bool.false_bne,Bool.xor_false]
  rw[kP _ _ (by omega),e]
 ·unfold Format.mul
  rw[B1,gV h];simp only[Datum.product,Option.map_some,Bool.false_bne,Bool.xor_false]
  rw[kP _ _ (by omega),Nat.mul_comm (uz r),Int.add_comm (-1074+(jx r:Int)) (-49),e]
theorem ML(m n a b:Nat):(Datum.number false m (-1074+(a:Int))).sum (.number false n (-1074+(b:Int)))=some (.number false (m*2^(a-min a b)+n*2^(b-min a b)) (-1074+(min a b:Nat))):=by
 have e0:min (-1074+(a:Int)) (-1074+(b:Int))=-1074+((min a b:Nat):Int):=by omega
 have e1:((-1074+(a:Int))-(-1074+((min a b:Nat):Int))).toNat=a-min a b:=by omega
 have e2:((-1074+(b:Int))-(-1074+((min a b:Nat):Int))).toNat=b-min a b:=by omega
 simp only[Datum.sum,e0,e1,e2,signed,Bool.false_eq_true,if_false,Nat.shiftLeft_eq];generalize m*2^(a-min a b)=x;generalize n*2^(b-min a b)=y
 have h1:¬((x:Int)+(y:Int)<0):=by omega
 have h2:((x:Int)+(y:Int)).natAbs=x+y:=by omega
 rw[h2];simp[h1]
theorem MM(m n a b:Nat) (h:n*2^b<=m*2^a):(Datum.number false m (-1074+(a:Int))).sum (.number true n (-1074+(b:Int)))=some (.number false (m*2^(a-min a b)-n*2^(b-min a b)) (-1074+(min a b:Nat))):=by
 have e0:min (-1074+(a:Int)) (-1074+(b:Int))=-1074+((min a b:Nat):Int):=by omega
 have e1:((-1074+(a:Int))-(-1074+((min a b:Nat):Int))).toNat=a-min a b:=by omega
 have e2:((-1074+(b:Int))-(-1074+((min a b:Nat):Int))).toNat=b-min a b:=by omega
 simp only[Datum.sum,e0,e1,e2,signed,Bool.false_eq_true,if_false,if_true,Nat.shiftLeft_eq]
 have hxy:n*2^(b-min a b)<=m*2^(a-min a b):=by
  have hp:=bT (min a b)
  refine Nat.le_of_mul_le_mul_right ?_ hp
  rw[Nat.mul_assoc,Nat.mul_assoc,<-Nat.pow_add,<-Nat.pow_add,Nat.sub_add_cancel (by omega),Nat.sub_add_cancel (by omega)]
  exact h
 generalize m*2^(a-min a b)=x at*;generalize n*2^(b-min a b)=y at*
 have h1:¬((x:Int)+ -(y:Int)<0):=by omega
 have h2:((x:Int)+ -(y:Int)).natAbs=x-y:=by omega
 rw[h2];simp[h1]
theorem Wc(m a c:Nat) (h:c<=a):m*2^(a-c)*2^(c+1126)=m*2^a*2^1126:=by
 rw[Nat.mul_assoc,<-Nat.pow_add,Nat.mul_assoc,<-Nat.pow_add,show a-c+(c+1126)=a+1126 by omega]
theorem add_pos{x y:Nat} (hx:Fin x) (hy:Fin y):DF.add x y=some (Rg ((rV x+rV y)*2^1126)):=by
 unfold Format.add
 rw[gV hx,gV hy,ML,Option.map_some,kP _ _ (by omega)]
 have e:((-1074+((min (jx x) (jx y):Nat):Int))+2200).toNat=min (jx x) (jx y)+1126:=by omega
 rw[e,Nat.add_mul,Wc _ _ _ (by omega),Wc _ _ _ (by omega),<-kO,<-kO,<-Nat.add_mul]
theorem sub_pos{x y:Nat} (hx:Fin x) (hy:Fin y) (h:rV y<=rV x):DF.sub x y=some (Rg ((rV x-rV y)*2^1126)):=by
 unfold Format.sub;rw[gV hx,gV hy];simp only[Datum.opposite,Bool.not_false];rw[kO,kO]at h
 rw[MM _ _ _ _ h,Option.map_some,kP _ _ (by omega)]
 have e:((-1074+((min (jx x) (jx y):Nat):Int))+2200).toNat=min (jx x) (jx y)+1126:=by omega
 rw[e,Nat.sub_mul,Wc _ _ _ (by omega),Wc _ _ _ (by omega),<-kO,<-kO,<-Nat.sub_mul]
def D9(n:Nat):Nat:=Rg (n*2^2200)
theorem xy(n:Nat):Go.FloatKind.f64.nearest (n:Int)=D9 n:=by
 show DF.write (.number (decide ((n:Int)<0)) (n:Int).natAbs 0)=_
 have h1:decide ((n:Int)<0)=false:=by simp
 rw[h1,Int.natAbs_natCast,kP _ _ (by omega),show((0:Int)+2200).toNat=2200 by omega]
 unfold D9;with_reducible rfl
theorem B3{n:Nat} (h:n<2^53):Fin (D9 n)/\rV (D9 n)=n*2^1074:=by
 have h2200:(1126:Nat)<=2200:=by decide
 obtain⟨h1,h2⟩:=zl (m:=n) (k:=2200) h (by omega) (by omega)
 refine⟨h1,?_⟩;unfold D9
 have hp:=bT 1126
 refine Nat.eq_of_mul_eq_mul_right hp ?_;rw[h2,Nat.mul_assoc,<-Nat.pow_add]
theorem Qo{a:Nat} (h:a<2^53):Fin (Rg (a*2^1064*2^1126))/\rV (Rg (a*2^1064*2^1126))=a*2^1064:=by
 have e:a*2^1064*2^1126=a*2^2190:=by rw[Nat.mul_assoc,<-Nat.pow_add]
 obtain⟨h1,h2⟩:=zl (k:=2190) h (by omega) (by omega)
 rw[e];refine⟨h1,?_⟩
 have hp:=bT 1126
 refine Nat.eq_of_mul_eq_mul_right hp ?_;rw[h2,e]
theorem xW{N a b:Nat} (ha:a*2^1064*2^1126<=N) (hb:N<=b*2^1064*2^1126) (h:b<2^53):Fin (Rg N)/\a*2^1064<=rV (Rg N)/\rV (Rg N)<=b*2^1064:=by
 have hab:a<2^53:=by
  have:a*(2^1064*2^1126)<=b*(2^1064*2^1126):=by rw[<-Nat.mul_assoc,<-Nat.mul_assoc];exact Nat.le_trans ha hb
  have:=Nat.le_of_mul_le_mul_right this (Nat.mul_pos (bT _) (bT _))
  omega
 obtain⟨f1,f2⟩:=Qo hab;obtain⟨f3,f4⟩:=Qo h
 have m1:=BZ ha
 have m2:=BZ hb
 refine⟨?_,?_,?_⟩
 ·unfold Fin at f3⊢;omega
 ·rw[<-f2];exact BY m1
 ·rw[<-f4];exact BY m2
theorem Qp(m a:Nat):qi (m<<<(-1074+(a:Int)).toNat) (-(-1074+(a:Int))).toNat=qi (m*2^a) 1074:=by
 rw[Nat.shiftLeft_eq]
 by_cases h:1074<=a
 ·have e1:(-1074+(a:Int)).toNat=a-1074:=by omega
  have e2:(-(-1074+(a:Int))).toNat=0:=by omega
  rw[e1,e2]
  have:=mH (m*2^(a-1074)) 0 1074
  rw[Nat.zero_add,Nat.mul_assoc,<-Nat.pow_add,Nat.sub_add_cancel h]at this;exact this.symm
 ·have e1:(-1074+(a:Int)).toNat=0:=by omega
  have e2:(-(-1074+(a:Int))).toNat=1074-a:=by omega
  rw[e1,e2,Nat.pow_zero,Nat.mul_one]
  have:=mH m (1074-a) a
  rw[Nat.sub_add_cancel (by omega)]at this
  exact this.symm
theorem MN{r:Nat} (h:Fin r):DF.write ((DF.read r).integral .even)=D9 (qi (rV r) 1074):=by
 rw[gV h];simp only[Datum.integral,Di,Qp]
 rw[kP _ _ (by omega),<-kO,show((0:Int)+2200).toNat=2200 by omega]
 unfold D9;with_reducible rfl
theorem Ji(s:Bool) (n d:Nat):Toward.zero.cut s n d=n/2^d:=by
 unfold Toward.cut;simp only[Nat.one_shiftLeft,Bool.toNat_false,Nat.add_zero]
 by_cases hd:d<=n.log2+2
 ·rw[Nat.min_eq_left hd]
 ·rw[Nat.min_eq_right (by omega)]
  have hl:=oI n
  have h2:2^(n.log2+2)=2*2^(n.log2+1):=by rw[Nat.pow_succ,Nat.mul_comm]
  have hd2:2^(n.log2+2)<=2^d:=Nat.pow_le_pow_right (by omega) (by omega)
  rw[Nat.div_eq_of_lt (by omega),Nat.div_eq_of_lt (by omega)]
theorem AZ{r:Nat} (h:Fin r):(DF.read r).toInt .zero=some ((rV r/2^1074:Nat):Int):=by
 rw[gV h,kO];unfold Datum.toInt;simp only[Datum.integral,Ji,Nat.shiftLeft_eq,signed,Bool.false_eq_true,if_false,Nat.pow_zero,Nat.mul_one]
 congr 2
 generalize jx r=a;generalize uz r=m
 by_cases h:1074<=a
 ·have e1:(-1074+(a:Int)).toNat=a-1074:=by omega
  have e2:(-(-1074+(a:Int))).toNat=0:=by omega
  rw[e1,e2,Nat.pow_zero,Nat.div_one]
  have:m*2^a=m*2^(a-1074)*2^1074:=by rw[Nat.mul_assoc,<-Nat.pow_add,Nat.sub_add_cancel h]
  rw[this,Nat.mul_div_cancel _ (bT _)]
 ·have e1:(-1074+(a:Int)).toNat=0:=by omega
  have e2:(-(-1074+(a:Int))).toNat=1074-a:=by omega
  rw[e1,e2,Nat.pow_zero,Nat.mul_one]
  have:m*2^a/2^1074=m*2^a/(2^(1074-a)*2^a):=by rw[<-Nat.pow_add,Nat.sub_add_cancel (by omega)]
  rw[this,Nat.mul_div_mul_right _ _ (bT _)]
theorem GV{n:Nat} (h:n<2^53):(DF.read (D9 n)).toInt .zero=some (n:Int):=by
 obtain⟨h1,h2⟩:=B3 h;rw[AZ h1,h2,Nat.mul_div_cancel _ (bT _)]
def key(x:Nat):Option Int:=
 match DF.read x with
 | .nan ..=>none
 | .infinity s=>some (if s then -(2^2200:Nat)else(2^2200:Nat))
 | .number s m i=>some (signed s m (i+1074).toNat)
theorem q8(x:Nat) {s:Bool} {m:Nat} {i:Int} (h:DF.read x=.number s m i):-1074<=i/\i<=971/\m<2^53:=by
 unfold Format.read at h;dsimp only at h;split at h
 ·rename_i h1
  cases h;rw[kU,kN]at h1;rw[kU,oJ];omega
 ·split at h
  ·rename_i h1 h2
   cases h;rw[kU,wo]at h2;rw[kU,oJ,kN];omega
  ·split at h<;>cases h
theorem vp(s:Bool) (m a b:Nat):signed s m (a+b)=signed s m a*((2^b:Nat):Int):=by
 have e:((m<<<(a+b):Nat):Int)=((m<<<a:Nat):Int)*((2^b:Nat):Int):=by
  rw[Nat.shiftLeft_eq,Nat.shiftLeft_eq,Nat.pow_add,<-Nat.mul_assoc,Int.natCast_mul]
 unfold signed;cases s
 ·simp only[Bool.false_eq_true,if_false];exact e
 ·simp only[if_true,e,Int.neg_mul]
theorem GW(a b:Int) (k:Nat):compare (a*((2^k:Nat):Int)) (b*((2^k:Nat):Int))=compare a b:=by
 have hp:(0:Int)<((2^k:Nat):Int):=by have:=bT k;omega
 have h1:(a*((2^k:Nat):Int)<b*((2^k:Nat):Int))↔a<b:=Int.mul_lt_mul_right hp
 have h2:(a*((2^k:Nat):Int)=b*((2^k:Nat):Int))↔a=b:=⟨fun h=>Int.eq_of_mul_eq_mul_right (by omega) h,fun h=>by rw[h]⟩
 simp only[compare,compareOfLessAndEq,h1,h2]
theorem A0{s:Bool} {m a:Nat} (hm:m<2^53) (ha:a<=2045):-((2^2200:Nat):Int)<signed s m a/\signed s m a<((2^2200:Nat):Int):=by
 have h1:m*2^a<2^53*2^2045:=Nat.lt_of_lt_of_le (Nat.mul_lt_mul_of_pos_right hm (bT a)) (Nat.mul_le_mul_left _ (Nat.pow_le_pow_right (by omega) ha))
 have h2:2^53*2^2045<=2^2200:=by rw[<-Nat.pow_add];exact Nat.pow_le_pow_right (by omega) (by omega)
 have h3:m*2^a<2^2200:=Nat.lt_of_lt_of_le h1 h2
 unfold signed;rw[Nat.shiftLeft_eq];generalize m*2^a=z at*;generalize 2^2200=w at*
 cases s<;>simp<;>omega
def ue:Option Int->Option Int->Option Ordering
 |some a,some b=>some (compare a b)
 |_,_=>none
theorem q9{a b:Int} (h:a<b):compare a b=.lt:=by simp[compare,compareOfLessAndEq,h]
theorem rj{a b:Int} (h:b<a):compare a b=.gt:=by
 have h1:¬a<b:=by omega
 have h2:¬a=b:=by omega
 simp[compare,compareOfLessAndEq,h1,h2]
theorem ug{a b:Int} (h:a=b):compare a b=.eq:=by simp[compare,compareOfLessAndEq,h]
theorem oK(x y:Nat):DF.order x y=ue (key x) (key y):=by
 have big:(0:Int)<((2^2200:Nat):Int):=by have:=bT 2200;omega
 unfold Format.order key
 cases hx:DF.read x with
 |nan s t=>cases DF.read y<;>rfl
 |infinity s=>
  cases hy:DF.read y with
  |nan _ _=>rfl
  |infinity t=>
   simp only[Datum.order,ue];generalize((2^2200:Nat):Int)=w at*
   cases s<;>cases t<;>simp only[Bool.false_eq_true,if_false,if_true]
   ·rw[ug rfl];rfl
   ·rw[rj (by omega)];rfl
   ·rw[q9 (by omega)];rfl
   ·rw[ug rfl];rfl
  |number t n j=>
   obtain⟨b1,b2,b3⟩:=q8 y hy
   obtain⟨c1,c2⟩:=A0 (s:=t) (a:=(j+1074).toNat) b3 (by omega)
   simp only[Datum.order,ue];generalize((2^2200:Nat):Int)=w at*
   cases s<;>simp only[Bool.false_eq_true,if_false,if_true]
   ·rw[rj c2]
   ·rw[q9 c1]
 |number s m i=>
  obtain⟨b1,b2,b3⟩:=q8 x hx
  cases hy:DF.read y with
  |nan _ _=>rfl
  |infinity t=>
   obtain⟨c1,c2⟩:=A0 (s:=s) (a:=(i+1074).toNat) b3 (by omega)
   simp only[Datum.order,ue];generalize((2^2200:Nat):Int)=w at*
   cases t<;>simp only[Bool.false_eq_true,if_false,if_true]
   ·rw[q9 c2]
   ·rw[rj c1]
  |number t n j=>
   obtain⟨d1,d2,d3⟩:=q8 y hy;simp only[Datum.order,ue]
   have e1:(i+1074).toNat=(i-min i j).toNat+(min i j+1074).toNat:=by omega
   have e2:(j+1074).toNat=(j-min i j).toNat+(min i j+1074).toNat:=by omega
   rw[e1,e2,vp,vp,GW]
theorem kV{r:Nat} (h:Fin r):key r=some (rV r:Int):=by
 unfold key;rw[gV h];simp only[signed,Bool.false_eq_true,if_false,Nat.shiftLeft_eq]
 rw[kO,show((-1074+(jx r:Int))+1074).toNat=jx r by omega]
theorem FI{r:Nat} (h:Fin r):key (2^63+r)=some (-(rV r:Int)):=by
 unfold key;rw[Jf h];simp only[signed,if_true,Nat.shiftLeft_eq]
 rw[kO,show((-1074+(jx r:Int))+1074).toNat=jx r by omega]
open Ieee
set_option exponentiation.threshold 4000
def rm:Nat:=4652006429231887155
def pK:Nat:=4584304132692975288
def Qq:Nat:=4602678819172646912
def N8(x y:Nat):Bool:=DF.order x y==some .gt||DF.order x y==some .eq
def MO(x y:Nat):Bool:=DF.order x y==some .lt||DF.order x y==some .eq
def Wd(x y:Nat):Bool:=DF.order x y==some .lt
def Jj(x y:Nat):Bool:=DF.order x y==some .gt
def WY(x y:Nat):Bool:=DF.order x y==some .eq
def Sa:Option Int->Option Int->Bool
 |some a,some b=>decide (a<=b)
 |_,_=>false
def Sb:Option Int->Option Int->Bool
 |some a,some b=>decide (a<b)
 |_,_=>false
theorem MP(x y:Nat):MO x y=Sa (key x) (key y):=by
 unfold MO;rw[oK]
 cases key x<;>cases key y<;>try rfl
 rename_i a b;simp only[ue,Sa]
 rcases Int.lt_trichotomy a b with h|h|h
 ·rw[q9 h];simp;omega
 ·rw[ug h];simp;omega
 ·rw[rj h];simp;omega
theorem MQ(x y:Nat):N8 x y=Sa (key y) (key x):=by
 unfold N8;rw[oK]
 cases key x<;>cases key y<;>try rfl
 rename_i a b;simp only[ue,Sa]
 rcases Int.lt_trichotomy a b with h|h|h
 ·rw[q9 h];simp;omega
 ·rw[ug h];simp;omega
 ·rw[rj h];simp;omega
theorem MR(x y:Nat):Wd x y=Sb (key x) (key y):=by
 unfold Wd;rw[oK]
 cases key x<;>cases key y<;>try rfl
 rename_i a b;simp only[ue,Sb]
 rcases Int.lt_trichotomy a b with h|h|h
 ·rw[q9 h];simp;omega
 ·rw[ug h];simp;omega
 ·rw[rj h];simp;omega
theorem MS(x y:Nat):Jj x y=Sb (key y) (key x):=by
 unfold Jj;rw[oK]
 cases key x<;>cases key y<;>try rfl
 rename_i a b;simp only[ue,Sb]
 rcases Int.lt_trichotomy a b with h|h|h
 ·rw[q9 h];simp;omega
 ·rw[ug h];simp;omega
 ·rw[rj h];simp;omega
theorem UD:Fin 0:=by unfold Fin;omega
theorem MT:Fin rm:=by unfold Fin rm;omega
theorem xX:Fin pK:=by unfold Fin pK;omega
theorem Qr:Fin Qq:=by unfold Fin Qq;omega
theorem WZ:rV 0=0:=by simp[rV]
theorem UE:rV Qq=2^1073:=by decide+kernel
theorem FJ:key 0=some 0:=by rw[kV UD,WZ];rfl
theorem FK:key rm=some (rV rm:Int):=kV MT
theorem MU{r:Nat} (h:rV r=0):r=0:=by
 unfold rV at h;split at h
 ·exact h
 ·have:=Nat.mul_pos (show 0<2^52+r%2^52 by omega) (bT (r/2^52-1))
  omega
theorem Dj{s:Nat} (hs:s<2^64) {a:Int} (hk:key s=some a) (h0:0<=a) (h1:a<=(rV rm:Int)):(Fin s/\a=(rV s:Int))\/(s=2^63/\a=0):=by
 have big:(rV rm:Int)<((2^2200:Nat):Int):=by
  have:rV rm<2^2200:=by decide+kernel
  omega
 by_cases hlt:s<2^63
 ·by_cases hf:Fin s
  ·left
   rw[kV hf]at hk;exact⟨hf,(Option.some.inj hk).symm⟩
  ·exfalso
   unfold Fin at hf;unfold key Format.read at hk;dsimp only at hk
   have e1:s%DF.signWeight=s:=by rw[kU];omega
   have e2:s/DF.signWeight%2=0:=by rw[kU];omega
   rw[e1,e2,kN,wo]at hk
   rw[if_neg (by omega),if_neg hf]at hk
   split at hk
   ·cases hk
   ·rename_i s' hh
    split at hh<;>try(cases hh;done)
    cases hh;cases hk;simp only[show((0:Nat)==1)=false from rfl,Bool.false_eq_true,if_false]at h1
    omega
   ·rename_i hh
    split at hh<;>cases hh
 ·obtain⟨r,rfl⟩:∃r,s=2^63+r:=⟨s-2^63,by omega⟩
  by_cases hf:Fin r
  ·right
   rw[FI hf]at hk
   have:=Option.some.inj hk
   have h3:rV r=0:=by omega
   have:=MU h3
   subst this
   exact⟨rfl,by omega⟩
  ·exfalso
   unfold Fin at hf;unfold key Format.read at hk;dsimp only at hk
   have e1:(2^63+r)%DF.signWeight=r:=by rw[kU];omega
   have e2:(2^63+r)/DF.signWeight%2=1:=by rw[kU];omega
   rw[e1,e2,kN,wo]at hk
   rw[if_neg (by omega),if_neg hf]at hk
   split at hk
   ·cases hk
   ·rename_i s' hh
    split at hh<;>try(cases hh;done)
    cases hh;cases hk;simp only[show((1:Nat)==1)=true from rfl,if_true]at h0
    have:=bT 2200
    omega
   ·rename_i hh
    split at hh<;>cases hh
def N9(a:Nat):Nat:=Rg (10*a*2^1126)
def Ea(a:Nat):Nat:=qi (rV (N9 a)) 1074
theorem Dk{a b:Nat} (h:a<=b):N9 a<=N9 b:=BZ (Nat.mul_le_mul_right _ (Nat.mul_le_mul_left _ h))
theorem Jk{a b:Nat} (h:a<=b):Ea a<=Ea b:=vo (BY (Dk h)) _
theorem MV:Ea (rV rm)=9999:=by decide+kernel
theorem MW:N9 (rV rm)<2047*2^52:=by decide+kernel
theorem FL{a:Nat} (h:a<=rV rm):Fin (N9 a):=by
 have h1:=Dk h
 have h2:=MW
 unfold Fin;omega
theorem Jl{a:Nat} (h:a<=rV rm):Ea a<=9999:=by rw[<-MV];exact Jk h
theorem Jm:Ea 0=0:=by decide+kernel
def GX(s:Nat):Bool:=N8 s 0&&MO s rm
def tk(s:Nat):Nat:=Ea ((key s).getD 0).toNat
theorem vq{s:Nat}:GX s=true↔∃a:Nat,key s=some (a:Int)/\a<=rV rm:=by
 unfold GX;rw[MQ,MP,FJ,FK]
 cases hk:key s with
 |none=>simp[Sa]
 |some a=>
  simp only[Sa,Bool.and_eq_true,decide_eq_true_eq,Option.some.injEq];constructor
  ·rintro⟨h1,h2⟩;exact⟨a.toNat,by omega,by omega⟩
  ·rintro⟨b,rfl,h⟩;omega
theorem Dl{s a:Nat} (h:key s=some (a:Int)):tk s=Ea a:=by simp[tk,h]
theorem Qs{x:Nat} (h:Fin x):Bx x=some (.float .f64 (D9 (qi (rV x) 1074))):=by
 have hr:FloatKind.f64.decode x=.number false (uz x) (-1074+(jx x:Int)):=gV h
 unfold Bx;rw[hr];dsimp only
 have:=MN h
 rw[gV h]at this
 exact congrArg (fun n=>some (AV.float .f64 n)) this
theorem xY{x n:Nat} (h:(DF.read x).toInt .zero=some (n:Int)) (hn:n<2^53):uC .i64 (.float .f64 x)=some (.int .i64 n):=by
 have h':(FloatKind.f64.decode x).toInt .zero=some (n:Int):=h
 simp only[uC,h'];rw[if_pos];constructor
 ·have:IntKind.i64.min=-(2^63):=by decide
  omega
 ·have:IntKind.i64.max=2^63-1:=by decide
  omega
theorem X9:DF.mul HD (2^63)=some (2^63):=by decide+kernel
theorem Ya:DF.mul (2^63) HD=some (2^63):=by decide+kernel
theorem XK:(DF.read (2^63)).toInt .zero=some ((0:Nat):Int):=by decide+kernel
theorem Yb:DF.sub (2^63) (D9 0)=some (2^63):=by decide+kernel
theorem Yc:DF.order (2^63) Qq=some .lt:=by decide+kernel
theorem W0:FloatKind.f64.decode (2^63)=.number true 0 (-1074):=by decide+kernel
theorem W4:FloatKind.f64.encode ((Datum.number true 0 (-1074)).integral .even)=2^63:=by decide+kernel
theorem Yd:Bx (2^63)=some (.float .f64 (2^63)):=by
 unfold Bx;rw[W0]
 show some (AV.float .f64 (FloatKind.f64.encode ((Datum.number true 0 (-1074)).integral .even)))=_
 rw[W4]
theorem GY{s:Nat} (hs:s<2^64) (h:GX s=true):∃x y,DF.mul HD s=some x/\Bx x=some (.float .f64 y)/\uC .i64 (.float .f64 y)=some (.int .i64 (tk s)):=by
 obtain⟨a,h1,h2⟩:=vq.1 h
 have ht:=Dl h1
 rcases Dj hs h1 (by omega) (by omega)with⟨hf,ha⟩|⟨rfl,ha⟩
 ·have ha:a=rV s:=by omega
  subst ha
  have hX:=FL h2
  have hle:=Jl h2
  refine⟨N9 (rV s),D9 (qi (rV (N9 (rV s))) 1074),(Jh hf).1,Qs hX,?_⟩;rw[ht]
  exact xY (GV (by unfold Ea at hle;omega)) (by omega)
 ·have ha:a=0:=by omega
  subst ha;refine⟨2^63,2^63,X9,Yd,?_⟩;rw[ht,Jm]
  exact xY XK (by omega)
theorem EJ{x:Nat} (h:Fin x):Fin (Rg (rV x%2^1074*2^1126))/\rV (Rg (rV x%2^1074*2^1126))=rV x%2^1074:=by
 have hd:=Je x
 have key:∃m k,m<2^53/\1126<=k/\k<=3090/\rV x%2^1074*2^1126=m*2^k:=by
  rw[kO]
  by_cases hp:1074<=jx x
  ·refine⟨0,1126,by omega,by omega,by omega,?_⟩
   have:uz x*2^jx x=uz x*2^(jx x-1074)*2^1074:=by rw[Nat.mul_assoc,<-Nat.pow_add,Nat.sub_add_cancel hp]
   rw[this,Nat.mul_mod_left,Nat.zero_mul]
  ·refine⟨uz x%2^(1074-jx x),jx x+1126,?_,by omega,by omega,?_⟩
   ·exact Nat.lt_of_le_of_lt (Nat.mod_le _ _) hd
   ·have:(2:Nat)^1074=2^(1074-jx x)*2^jx x:=by rw[<-Nat.pow_add,Nat.sub_add_cancel (by omega)]
    rw[this,Nat.mul_mod_mul_right,Nat.mul_assoc,<-Nat.pow_add]
 obtain⟨m,k,h1,h2,h3,h4⟩:=key;obtain⟨f1,f2⟩:=zl h1 h2 h3;rw[<-h4]at f1 f2;exact⟨f1,Nat.eq_of_mul_eq_mul_right (bT 1126) f2⟩
theorem GZ(X:Nat) {d w:Nat} (h:2^d=2*w):qi X d=(if ue (some ((X%2^d:Nat):Int)) (some (w:Int))==some .gt||(ue (some ((X%2^d:Nat):Int)) (some (w:Int))==some .eq&&X/2^d%2==1)then X/2^d+1 else X/2^d):=by
 unfold qi;generalize X/2^d=q;generalize X%2^d=r;rw[h]
 rcases Nat.lt_trichotomy w r with hc|hc|hc
 ·have hc':((w:Nat):Int)<(r:Int):=by omega
  simp only[ue,rj hc'];rw[if_pos (Or.inl (by omega))];simp
 ·have hc':((r:Nat):Int)=(w:Int):=by omega
  simp only[ue,ug hc']
  by_cases hm:q%2=1
  ·rw[if_pos (Or.inr ⟨by omega,hm⟩)];simp[hm]
  ·rw[if_neg (by omega)];simp[hm]
 ·have hc':((r:Nat):Int)<(w:Int):=by omega
  simp only[ue,q9 hc'];rw[if_neg (by omega)];simp
theorem MX:(2:Nat)^1074=2*2^1073:=Nat.pow_succ' ..
theorem MY{s:Nat} (hs:s<2^64) (h:GX s=true):∃(x n f:Nat),DF.mul s HD=some x/\uC .i64 (.float .f64 x)=some (.int .i64 n)/\DF.sub x (FloatKind.f64.nearest (n:Int))=some f/\n<=9999/\
  tk s=(if DF.order f Qq==some .gt||(DF.order f Qq==some .eq&&n%2==1)then n+1 else n):=by
 obtain⟨a,h1,h2⟩:=vq.1 h
 have ht:=Dl h1
 rcases Dj hs h1 (by omega) (by omega)with⟨hf,ha⟩|⟨rfl,ha⟩
 ·have ha:a=rV s:=by omega
  subst ha
  have hX:=FL h2
  have hle:=Jl h2
  generalize hx:N9 (rV s)=x at*
  have hn:rV x/2^1074<=9999:=by
   have:=EH (rV x) 1074
   unfold Ea at hle;rw[hx]at hle;omega
  obtain⟨g1,g2⟩:=B3 (n:=rV x/2^1074) (by omega)
  have hdm:=Nat.div_add_mod (rV x) (2^1074)
  rw[Nat.mul_comm]at hdm;obtain⟨f1,f2⟩:=EJ hX;refine⟨x,rV x/2^1074,Rg (rV x%2^1074*2^1126),?_,?_,?_,hn,?_⟩
  ·rw[<-hx];exact(Jh hf).2
  ·exact xY (AZ hX) (by omega)
  ·rw[xy,sub_pos hX g1 (by rw[g2];omega),g2]
   have e:rV x-rV x/2^1074*2^1074=rV x%2^1074:=by omega
   rw[e]
  ·rw[ht]
   have e:Ea (rV s)=qi (rV x) 1074:=by unfold Ea;rw[hx]
   have hk:DF.order (Rg (rV x%2^1074*2^1126)) Qq=ue (some ((rV x%2^1074:Nat):Int)) (some ((2^1073:Nat):Int)):=by
    rw[oK,kV f1,kV Qr,f2,UE]
   rw[e,hk];exact GZ (rV x) MX
 ·have ha:a=0:=by omega
  subst ha
  refine⟨2^63,0,2^63,Ya,xY XK (by omega),?_,by omega,?_⟩
  ·rw[xy];exact Yb
  ·rw[ht,Jm,Yc];rfl
theorem FM{a b c d:Nat} (h:a<=b) (h':d<=c):a-c<=b-d:=by omega
theorem zm{x y c:Nat} (h:x*2^c<=y*2^c):x<=y:=Nat.le_of_mul_le_mul_right h (bT c)
theorem Qt{k a:Nat} (hk:1<=k) (hk2:k<=9999) (h1:10*a<=1024*k) (h2:1024*k<=10*(a+1)):∃s,DF.div (D9 k) HD=some s/\Fin s/\a*2^1064<=rV s/\rV s<=(a+1)*2^1064:=by
 obtain⟨f1,f2⟩:=B3 (n:=k) (by omega)
 generalize D9 k=r at*
 have hd:=Je r
 rw[kO]at f2
 -- the number is a normal one
 have hr52:2^52<=r:=by
  refine Nat.le_of_not_lt fun h=>?_
  have e1:uz r=r:=by unfold uz;rw[if_pos h]
  have e2:jx r=0:=by unfold jx;rw[if_pos h]
  rw[e1,e2,Nat.pow_zero,Nat.mul_one]at f2
  have:1*2^1074<=k*2^1074:=Nat.mul_le_mul_right _ hk
  have:(2:Nat)^52<=2^1074:=Nat.pow_le_pow_right (by omega) (by omega)
  omega
 have hd52:2^52<=uz r:=by unfold uz;rw[if_neg (by omega)];omega
 have hlog:(uz r).log2=52:=by
  have h0:uz r≠0:=by omega
  have a1:(uz r).log2<53:=(Nat.log2_lt h0).2 hd
  have a2:52<=(uz r).log2:=(Nat.le_log2 h0).2 hd52
  omega
 have hp:jx r<=1036:=by
  refine Nat.le_of_not_lt fun h=>?_
  have b1:2^52*2^1037<=uz r*2^jx r:=Nat.mul_le_mul hd52 (Nat.pow_le_pow_right (by omega) h)
  rw[f2,<-Nat.pow_add]at b1
  have b2:k*2^1074<2^15*2^1074:=Nat.mul_lt_mul_of_pos_right (by omega) (bT _)
  rw[<-Nat.pow_add]at b2;omega
 have hl10:(5*2^50:Nat).log2=52:=by decide
 have hmore:54+(5*2^50:Nat).log2-(uz r).log2=54:=by rw[hlog,hl10]
 have hdiv:DF.div r HD=some (Rg ((2*(uz r*2^54/(5*2^50))+(uz r*2^54%(5*2^50) !=0).toNat)*2^(jx r+1120))):=by
  unfold Format.div;rw[B1,gV f1]
  have hfb:DF.fractionBits+2=54:=rfl
  rw[hfb];unfold Datum.quotient;dsimp only
  rw[if_neg (by omega),hmore,Nat.shiftLeft_eq,Option.map_some]
  have:((-1074+(jx r:Int))- -49-(54:Nat)-1+2200).toNat=jx r+1120:=by omega
  rw[show(false^^false)=false from rfl,kP _ _ (by omega),this]
 obtain⟨n,hn⟩:∃n:Nat,n=5*2^50:=⟨_,rfl⟩
 rw[<-hn]at hdiv
 obtain⟨D,hDD⟩:∃D:Nat,D=uz r*2^54:=⟨_,rfl⟩
 rw[<-hDD]at hdiv;refine⟨_,hdiv,?_⟩
 -- the floor against a Qo number
 have grid5:∀z:Nat,(z*2^(1069-jx r))*n*2^jx r=5*z*2^1119:=by
  intro z;rw[hn]
  have:z*2^(1069-jx r)*(5*2^50)*2^jx r=5*z*(2^(1069-jx r)*2^50*2^jx r):=by
   simp only[Nat.mul_assoc,Nat.mul_left_comm,Nat.mul_comm]
  rw[this,<-Nat.pow_add,<-Nat.pow_add]
  rw[show 1069-jx r+50+jx r=1119 by omega]
 have hD:D*2^jx r=512*k*2^1119:=by
  rw[hDD]
  have:uz r*2^54*2^jx r=uz r*2^jx r*2^54:=by simp only[Nat.mul_assoc,Nat.mul_left_comm,Nat.mul_comm]
  rw[this,f2,Nat.mul_assoc,<-Nat.pow_add,show 1074+54=9+1119 by omega,Nat.pow_add,<-Nat.mul_assoc,Nat.mul_comm k]
 have hn0:0<n:=by omega
 have lo:∀z,5*z<=512*k->z*2^(1069-jx r)<=D/n:=by
  intro z hz;rw[Nat.le_div_iff_mul_le hn0]
  refine zm (c:=jx r) ?_
  rw[grid5,hD];exact Nat.mul_le_mul_right _ hz
 have hi:∀z,512*k<=5*z->2*(D/n)+(D%n !=0).toNat<=2*(z*2^(1069-jx r)):=by
  intro z hz
  have hle:D<=z*2^(1069-jx r)*n:=by
   refine zm (c:=jx r) ?_
   rw[grid5,hD];exact Nat.mul_le_mul_right _ hz
  generalize z*2^(1069-jx r)=Z at*
  have hdm:=Nat.div_add_mod D n
  have h3:D/n<=Z:=by
   rw[<-Nat.mul_div_cancel Z hn0];exact Nat.div_le_div_right hle
  by_cases h0:D%n=0
  ·simp[h0];omega
  ·have h4:D/n<Z:=by
    refine Nat.lt_of_le_of_ne h3 fun e=>?_
    rw[e,Nat.mul_comm]at hdm;omega
   have h5:(D%n !=0).toNat=1:=by simp[h0]
   omega
 have sc:∀z:Nat,z*2^1064*2^1126=2*(z*2^(1069-jx r))*2^(jx r+1120):=by
  intro z
  have:2*(z*2^(1069-jx r))*2^(jx r+1120)=z*(2^1*2^(1069-jx r)*2^(jx r+1120)):=by
   simp only[Nat.mul_assoc,Nat.mul_left_comm,Nat.mul_comm,Nat.pow_one]
  rw[this,<-Nat.pow_add,<-Nat.pow_add,Nat.mul_assoc,<-Nat.pow_add]
  rw[show 1+(1069-jx r)+(jx r+1120)=1064+1126 by omega]
 have hlo:a*2^1064*2^1126<=(2*(D/n)+(D%n !=0).toNat)*2^(jx r+1120):=by
  rw[sc]
  have:=lo a (by omega)
  exact Nat.mul_le_mul_right _ (by omega)
 have hhi:(2*(D/n)+(D%n !=0).toNat)*2^(jx r+1120)<=(a+1)*2^1064*2^1126:=by
  rw[sc]
  exact Nat.mul_le_mul_right _ (hi (a+1) (by omega))
 have hb:a+1<2^53:=by omega
 exact xW hlo hhi hb
theorem Dm{c k:Nat} (h1:1024*k<c+512) (h2:c<1024*k+512):qi c 10=k:=by
 unfold qi;split<;>omega
theorem Jn(c:Nat):qi (c*2^1064) 1074=qi c 10:=mH c 10 1064
theorem B4{v a b k:Nat} (h1:a*2^1064<=v) (h2:v<=b*2^1064) (hb:b<2^40) (h3:1024*k<10*a+512) (h4:10*b<1024*k+512):Ea v=k:=by
 have e:∀z:Nat,10*(z*2^1064)=10*z*2^1064:=fun z=>by rw[Nat.mul_assoc]
 have hx:=xW (N:=10*v*2^1126) (a:=10*a) (b:=10*b) (by rw[<-e];exact Nat.mul_le_mul_right _ (Nat.mul_le_mul_left _ h1)) (by rw[<-e];exact Nat.mul_le_mul_right _ (Nat.mul_le_mul_left _ h2)) (by omega)
 obtain⟨_,g1,g2⟩:=hx
 have m1:=vo g1 1074
 have m2:=vo g2 1074
 rw[Jn]at m1 m2
 have hab:a<=b:=zm (Nat.le_trans h1 h2)
 have r1:=Dm (c:=10*a) (k:=k) (by omega) (by omega)
 have r2:=Dm (c:=10*b) (k:=k) (by omega) (by omega)
 have:Ea v=qi (rV (Rg (10*v*2^1126))) 1074:=rfl
 omega
theorem FN:30*2^1064<=rV pK:=by decide+kernel
theorem B5:rV pK<=31*2^1064:=by decide+kernel
theorem W5:1023897*2^1064<=rV rm:=by decide+kernel
theorem Jo:DF.div (D9 9999) HD=some rm:=by decide+kernel
theorem UF:DF.div (D9 0) HD=some 0:=by decide+kernel
theorem MZ:Ea (rV pK)=0:=by decide+kernel
def near(off k:Nat):Prop:=Wd off 0=false->Jj off rm=false->GX off=true/\tk off=k
theorem B6{v:Nat} {k:Nat} (hf:Fin v) (ht:Ea (rV v)=k):near v k:=by
 intro h1 h2;rw[MS,kV hf,FK]at h2;simp only[Sb,decide_eq_false_iff_not]at h2
 exact⟨vq.2 ⟨rV v,kV hf,by omega⟩,by rw[Dl (kV hf)];exact ht⟩
theorem back{k:Nat} (hk:k<=9999):∃s u d,DF.div (D9 k) HD=some s/\DF.add s pK=some u/\DF.sub s pK=some d/\s<2^64/\u<2^64/\GX s=true/\tk s=k/\near u k/\near d k/\d<2^64:=by
 by_cases h0:k=0
 ·subst h0
  have hd:DF.sub 0 pK=some (2^63+pK):=by decide+kernel
  have hu:DF.add 0 pK=some pK:=by decide+kernel
  refine⟨0,pK,2^63+pK,UF,hu,hd,by omega,by unfold pK;omega,vq.2 ⟨0,FJ,by omega⟩,by rw[Dl (a:=0) FJ];exact Jm,B6 xX MZ,?_,by unfold pK;omega⟩
  intro h1;rw[MR,FI xX,FJ]at h1;simp only[Sb,decide_eq_false_iff_not]at h1
  have:0<rV pK:=by decide+kernel
  omega
 ·obtain⟨s,h1,h2,h3,h4⟩:=Qt (k:=k) (a:=1024*k/10) (by omega) hk (by omega) (by omega)
  generalize ha:1024*k/10=a at*
  have ha1:10*a<=1024*k:=by omega
  have ha2:1024*k<=10*a+9:=by omega
  have hs999:rV s<=rV rm:=by
   by_cases h9:k=9999
   ·subst h9
    rw[Jo]at h1;cases h1;exact Nat.le_refl _
   ·refine Nat.le_trans h4 (Nat.le_trans (Nat.mul_le_mul_right _ (by omega)) W5)
  have hts:Ea (rV s)=k:=B4 h3 h4 (by omega) (by omega) (by omega)
  have hsub:rV pK<=rV s:=Nat.le_trans B5 (Nat.le_trans (Nat.mul_le_mul_right _ (by omega)) h3)
  have hU:=xW (N:=(rV s+rV pK)*2^1126) (a:=a+30) (b:=a+1+31) (Nat.mul_le_mul_right _ (by rw[Nat.add_mul];exact Nat.add_le_add h3 FN)) (Nat.mul_le_mul_right _ (by rw[Nat.add_mul (a+1)];exact Nat.add_le_add h4 B5)) (by omega)
  have hD:=xW (N:=(rV s-rV pK)*2^1126) (a:=a-31) (b:=a+1-30) (Nat.mul_le_mul_right _ (by rw[Nat.sub_mul];exact FM h3 B5)) (Nat.mul_le_mul_right _ (by rw[Nat.sub_mul];exact FM h4 FN)) (by omega)
  refine⟨s,_,_,h1,add_pos h2 xX,sub_pos h2 xX hsub,?_,?_,vq.2 ⟨rV s,kV h2,hs999⟩,by rw[Dl (kV h2)];exact hts,?_,?_,?_⟩
  ·unfold Fin at h2;omega
  ·have:=hU.1;unfold Fin at this;omega
  ·exact B6 hU.1 (B4 hU.2.1 hU.2.2 (by omega) (by omega) (by omega))
  ·exact B6 hD.1 (B4 hD.2.1 hD.2.2 (by omega) (by omega) (by omega))
  ·have:=hD.1;unfold Fin at this;omega
abbrev Fl (x:Nat):AV:=.float .f64 x
theorem UG(x y:Nat):ez .geq (.float .f64 x) (.float .f64 y)=some (.bool (N8 x y)):=rfl
theorem UH(x y:Nat):ez .leq (.float .f64 x) (.float .f64 y)=some (.bool (MO x y)):=rfl
theorem UI(x y:Nat):ez .gtr (.float .f64 x) (.float .f64 y)=some (.bool (Jj x y)):=rfl
theorem UJ(x y:Nat):ez .lss (.float .f64 x) (.float .f64 y)=some (.bool (Wd x y)):=rfl
theorem UK(x y:Nat):ez .eql (.float .f64 x) (.float .f64 y)=some (.bool (WY x y)):=rfl
theorem UM(x y:Nat):ez .neq (.float .f64 x) (.float .f64 y)=some (.bool (!WY x y)):=rfl
theorem UN(x y:Nat):ez .mul (.float .f64 x) (.float .f64 y)=Ee .f64 (DF.mul x y):=rfl
theorem UO(x y:Nat):ez .sub (.float .f64 x) (.float .f64 y)=Ee .f64 (DF.sub x y):=rfl
theorem UP(x y:Nat):ez .add (.float .f64 x) (.float .f64 y)=Ee .f64 (DF.add x y):=rfl
theorem UQ(x y:Nat):ez .quo (.float .f64 x) (.float .f64 y)=Ee .f64 (DF.div x y):=rfl
theorem UR(x:Nat):Og .neg (.float .f64 x)=some (.float .f64 (Op.negFloat .f64 x)):=rfl
theorem M0(r:Nat):Ee .f64 (some r)=some (.float .f64 r):=rfl
def Eb:=And.intro @M0 (And.intro @UG (And.intro @UH (And.intro @UI (And.intro @UJ (And.intro @UK (And.intro @UM (And.intro @UN (And.intro @UO (And.intro @UP (And.intro @UQ @UR))))))))))
def xN(s:Nat):AV:=.qf [I (if GX s then(tk s:Int)else 0),B (GX s)]
def zn.Spec(C:bw) (f:Nat):Prop:=∀s:Nat,s<2^64->C.c f [Fl s] (xN s) none
def zo.Spec(C:bw) (f:Nat):Prop:=∀s:Nat,s<2^64->C.c f [Fl s] (xN s) none
section
variable{P:Program} (hm:P.follows .mixedOrders=true) {f:Nat}
include hm
theorem zn.ok(hc:de P f=some tD):zn.Spec (Pure P) f:=by
 intro s hs
 have h1:GX s=(N8 s 0&&MO s 4652006429231887155):=rfl
 obtain⟨b1,hb1⟩:∃b,N8 s 0=b:=⟨_,rfl⟩
 obtain⟨b2,hb2⟩:∃b,MO s 4652006429231887155=b:=⟨_,rfl⟩
 rw[hb1,hb2]at h1
 have hrun:=fun h=>GY (s:=s) hs h
 clear hs
 refine aB hm hc (by show 1<=15;decide) (ax (keep:=[]) (i:=0) ?_)
 try simp only[I,B,D,RX,↓KW,seval,tD,Z.H,Eb]
 cases b1<;>cases b2
 ·try simp only[I,B,D,RX,↓KW,seval,Eb,hb1,hb2]
  rw[xN,h1];rfl
 ·try simp only[I,B,D,RX,↓KW,seval,Eb,hb1,hb2]
  rw[xN,h1];rfl
 ·try simp only[I,B,D,RX,↓KW,seval,Eb,hb1,hb2]
  rw[xN,h1];rfl
 ·obtain⟨x,y,e1,e2,e3⟩:=hrun h1
  have e1':DF.mul 4621819117588971520 s=some x:=e1
  try simp only[I,B,D,RX,↓KW,seval,Eb,hb1,hb2,e1',e2,e3]
  rw[xN,h1];rfl
theorem zo.ok(hc:de P f=some q7):zo.Spec (Pure P) f:=by
 intro s hs
 have h1:GX s=(N8 s 0&&MO s 4652006429231887155):=rfl
 obtain⟨b1,hb1⟩:∃b,N8 s 0=b:=⟨_,rfl⟩
 obtain⟨b2,hb2⟩:∃b,MO s 4652006429231887155=b:=⟨_,rfl⟩
 rw[hb1,hb2]at h1
 have hrun:=fun h=>MY (s:=s) hs h
 clear hs
 refine aB hm hc (by show 1<=36;decide) (ax (keep:=[]) (i:=0) ?_)
 try simp only[I,B,D,RX,↓KW,seval,q7,Z.H,Eb]
 cases b1<;>cases b2
 ·try simp only[I,B,D,RX,↓KW,seval,Eb,hb1,hb2]
  rw[xN,h1];rfl
 ·try simp only[I,B,D,RX,↓KW,seval,Eb,hb1,hb2]
  rw[xN,h1];rfl
 ·try simp only[I,B,D,RX,↓KW,seval,Eb,hb1,hb2]
  rw[xN,h1];rfl
 ·obtain⟨x,n,y,e1,e2,e3,e4,e5⟩:=hrun h1
  have e1':DF.mul s 4621819117588971520=some x:=e1
  have e3':DF.sub x (FloatKind.f64.nearest (n:Int))=some y:=e3
  obtain⟨b3,hb3⟩:∃b,Jj y 4602678819172646912=b:=⟨_,rfl⟩
  obtain⟨b4,hb4⟩:∃b,WY y 4602678819172646912=b:=⟨_,rfl⟩
  have e6:tk s=(if b3||(b4&&n%2==1)then n+1 else n):=by rw[<-hb3,<-hb4];exact e5
  have hw:IntKind.i64.wrap ((n:Int)+1)=((n+1:Nat):Int):=aF (by omega)
  have hmod:(n:Int).tmod 2=((n%2:Nat):Int):=by rw[Int.tmod_eq_emod_of_nonneg (by omega)];rfl
  have hmb:(((n%2:Nat):Int)==1)=(n%2==1):=by rw[Bool.eq_iff_iff,beq_iff_eq,beq_iff_eq];omega
  obtain⟨b5,hb5⟩:∃b,(n%2==1)=b:=⟨_,rfl⟩
  rw[hb5]at hmb e6
  cases b3<;>cases b4<;>cases b5
  all_goals
   try simp only[I,B,D,RX,↓KW,seval,Eb,hb1,hb2,e1',e2,e3',hw,hmod,hb3,hb4,hmb]
   rw[xN,h1,e6];rfl
end
end Go.Eng
