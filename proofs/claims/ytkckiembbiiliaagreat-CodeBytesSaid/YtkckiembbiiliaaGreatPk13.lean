/- The engine and the library,part 13 of 21: what the proofs of this seat need of them. -/
import Derived.Test.YtkckiembbiiliaaGreatPk12
set_option linter.unnecessarySimpa false
set_option linter.unusedSimpArgs false
set_option linter.unusedVariables false
set_option linter.defProp false
set_option maxRecDepth 10000
set_option maxHeartbeats 4000000
namespace Go.Eng
open Go
def zA.Spec(C:bw) (f:Nat):Prop:=∀b:Option (List Int),(b.getD []).length<=1000000->C.c f [aD dD b] (aD dD b) none
def JA.Spec(C:bw) (f:Nat):Prop:=∀b:Option (List Int),(b.getD []).length<=1000000->C.n f [aD dD b] (bk.cells ⟨b,0,0,0⟩)
def ep(n:Int) (k:Nat):Int:=IntKind.u8.wrap (n.fdiv (2^(8*k)))
def gn(n:Int):Nat->List Int
 |0=>[]
 |k+1=>ep n k::gn n k
def sX(l:List Int) (size n:Int):List Int:=l++gn n (jb size 0 8).toNat
theorem vv{n:Int} (h1:0<=n) (h2:n<=1000000000):IntKind.u64.wrap n=n:=by
 simp only[IntKind.wrap,IntKind.bits,IntKind.signed];simp;omega
theorem dA(n:Int):∀k,(gn n k).length=k
 |0=>rfl
 |k+1=>by simp[gn,dA n k]
section
variable{P:Program} (hm:P.follows .mixedOrders=true) {f:Nat}
include hm
theorem zA.ok{e:Nat} (hc:de P f=some (ei e)):zA.Spec (Pure P) f:=by
 intro b hb
 cases b with
 |none=>
  refine aB hm hc (by show 1<=8;decide) (ax (keep:=[]) (i:=0) ?_)
  try simp only[I,B,D,RX,aK,aL,aN,↓KW,↓aM,seval,ei,Z.H,aD]
 |some l=>
  refine aB hm hc (by show 1<=8;decide) (ax (keep:=[]) (i:=0) ?_)
  try simp only[I,B,D,RX,aK,aL,aN,↓KW,↓aM,seval,ei,Z.H,aD]
  refine⟨by simp at hb;omega,fun _ _=>rfl⟩
theorem JA.ok{fC:Nat} (hc:de P f=some (xA fC)) (hC:zA.Spec (Pure P) fC):JA.Spec (Pure P) f:=by
 intro b hb
 refine Jw hm hc (by show 1<=7;decide) (ax (keep:=[]) (i:=0) ?_)
 try simp only[I,B,D,RX,aK,aL,aN,↓KW,↓aM,seval,xA,Z.H,List.map_cons,List.map_nil]
 refine ai (hC b hb) ?_;try simp only[I,B,D,RX,aK,aL,aN,↓KW,↓aM,seval,bk.cells]
 cases b with
 |none=>
  try simp only[I,B,D,RX,aK,aL,aN,↓KW,↓aM,seval,aD]
  exact⟨by decide,rfl⟩
 |some l=>
  try simp only[I,B,D,RX,aK,aL,aN,↓KW,↓aM,seval,aD]
  exact⟨by decide,rfl⟩
def G9.Spec(C:bw) (f:Nat):Prop:=∀(b:Option (List Int)) (size n:Int),(b.getD []).length<=1000000->C.c f [aD dD b,I size,I n] (.sl ((sX (b.getD []) size n).map dD)) none
def B8.Spec(C:bw) (f:Nat):Prop:=∀(b:Option (List Int)) (size n:Int),(b.getD []).length<=1000000->C.c f [aD dD b,I size,I n] (aD dD (bf (sX (b.getD []) size n))) none
theorem G9.ok{e:Nat} (hc:ji true P f=some (ru e)):G9.Spec (Pure P) f:=by
 intro b size n hb
 have hm8:(if 8<(if 0>size then 0 else size)then 8 else(if 0>size then 0 else size))=jb size 0 8:=by
  unfold jb;split<;>split<;>(try split)<;>omega
 obtain⟨K,hK,hK8⟩:∃K:Nat,jb size 0 8=(K:Int)/\K<=8:=⟨(jb size 0 8).toNat,by unfold jb;split<;>(try split)<;>omega,by unfold jb;split<;>(try split)<;>omega⟩
 have hpl:sX (b.getD []) size n=b.getD []++gn n K:=by simp[sX,hK]
 rw[hpl];rw[hK]at hm8
 obtain⟨l,hl⟩:∃l,l=b.getD []:=⟨_,rfl⟩
 have hsum:IntKind.i64.wrap ((l.length:Int)+K)=((l.length+K:Nat):Int):=by rw[eO (by omega) (by rw[hl];omega)];simp
 rw[<-hl]at hb⊢
 refine aB hm hc (by show 3<=37;decide) (ax (keep:=[]) (i:=0) ?_)
 try simp only[I,B,D,RX,aK,aL,aN,↓KW,↓aM,seval,ru,Z.H,hm8,<-hl,hsum]
 refine⟨⟨by omega,by omega,by omega⟩,fun _ _=>rfl,?_⟩
 refine aH (fun x:Nat×List Int=>(⟨[(8,.dat (I ((x.1:Int)-1)) none),(7,.dat (.sl ((l++x.2).map dD)) (some 0)),(2,.dat (I n) none)],[],[(0,e)],400⟩:S)) (fun x=>x.1) (fun x=>x.1<=K/\x.2++gn n x.1=gn n K) ?_ (K,[]) ⟨by omega,rfl⟩ ?_
 ·intro x hx A back
  obtain⟨j,G⟩:=x
  have hj:j<=K:=hx.1
  have hD:G++gn n j=gn n K:=hx.2
  clear hx
  have hdl:G.length+j=K:=by have:=congrArg List.length hD;simpa[dA]using this
  try simp only[I,B,D,RX,aK,aL,aN,↓KW,↓aM,seval]
  refine aq (fun h=>?_) (fun h=>?_)<;>try simp only[I,B,D,RX,aK,aL,aN,↓KW,↓aM,seval,h]
  ·obtain⟨m,rfl⟩:∃m,j=m+1:=⟨j-1,by have:=of_decide_eq_true h;omega⟩
   have e1:((m+1:Nat):Int)-1=(m:Int):=by omega
   have e2:IntKind.i64.wrap (8*(m:Int))=8*(m:Int):=eO (by omega) (by omega)
   have e3:(8*(m:Int)).toNat=8*m:=by omega
   have e4:IntKind.i64.wrap ((m:Int)-1)=(m:Int)-1:=eO (by omega) (by omega)
   have hmin:min (8*(m:Int)).toNat IntKind.i64.bits=8*m:=by
    show min (8*(m:Int)).toNat 64=8*m
    omega
   try simp only[I,B,D,RX,aK,aL,aN,↓KW,↓aM,seval,e1,e2]
   refine⟨by omega,by first|omega|(simp;omega),fun _ _=>rfl,?_⟩
   refine back (m,G++[ep n m]) _ ⟨by show m<=K;omega,by show G++[ep n m]++gn n m=_;rw[<-hD];simp[gn]⟩ (by show m<m+1;omega) ?_
   refine ah (by decide) ?_ ?_ ?_ ?_<;>simp[LX,I,B,D,e4,hmin,ep,dD]
  ·have:j=0:=by have:=of_decide_eq_false h;omega
   subst this;try simp only[I,B,D,RX,aK,aL,aN,↓KW,↓aM,seval]
   have hD:G++[]=gn n K:=hD
   rw[List.append_nil]at hD;rw[hD]
 ·have e4:IntKind.i64.wrap ((K:Int)-1)=(K:Int)-1:=eO (by omega) (by omega)
  refine ah (by decide) ?_ ?_ ?_ ?_<;>simp[LX,I,B,D,e4]
theorem B8.ok{e fC:Nat} (hc:de P f=some (kj e fC)) (hC:Cut.Spec (Pure P) fC):B8.Spec (Pure P) f:=by
 intro b size n hb
 obtain⟨K,hK,hK8⟩:∃K:Nat,jb size 0 8=(K:Int)/\K<=8:=⟨(jb size 0 8).toNat,by unfold jb;split<;>(try split)<;>omega,by unfold jb;split<;>(try split)<;>omega⟩
 have hpl:sX (b.getD []) size n=b.getD []++gn n K:=by simp[sX,hK]
 rw[hpl]
 obtain⟨l,hl⟩:∃l,l=b.getD []:=⟨_,rfl⟩
 rw[<-hl]at hb⊢
 refine aB hm hc (by show 3<=28;decide) (ax (keep:=[]) (i:=0) ?_)
 try simp only[I,B,D,RX,aK,aL,aN,↓KW,↓aM,seval,kj,Z.H,<-hl]
 refine⟨by omega,fun _ _=>rfl,?_⟩
 have e4:IntKind.i64.wrap ((K:Int)-1)=(K:Int)-1:=eO (by omega) (by omega)
 by_cases hl0:l=[]
 ·subst hl0
  rw[if_pos (show List.map dD []=[]from rfl)]
  refine ai (hC _ _ _) ?_;try simp only[I,B,D,RX,aK,aL,aN,↓KW,↓aM,seval,hK,e4]
  refine aH (fun x:Nat×List Int=>(⟨[(8,.dat (I ((x.1:Int)-1)) none),(7,bQ dD (x.2) 0),(2,.dat (I n) none)],[],bq (x.2) 0 e,400⟩:S)) (fun x=>x.1) (fun x=>x.1<=K/\x.2++gn n x.1=gn n K) ?_ (K,[]) ⟨by omega,rfl⟩ ?_
  ·intro x hx A back
   obtain⟨j,G⟩:=x
   have hj:j<=K:=hx.1
   have hD:G++gn n j=gn n K:=hx.2
   clear hx
   have hdl:G.length+j=K:=by have:=congrArg List.length hD;simpa[dA]using this
   by_cases hG:G=[]
   ·try simp only[I,B,D,RX,aK,aL,aN,↓KW,↓aM,seval,bQ,bq,hG]
    refine aq (fun h=>?_) (fun h=>?_)<;>try simp only[I,B,D,RX,aK,aL,aN,↓KW,↓aM,seval,h]
    ·obtain⟨m,rfl⟩:∃m,j=m+1:=⟨j-1,by have:=of_decide_eq_true h;omega⟩
     have e1:((m+1:Nat):Int)-1=(m:Int):=by omega
     have e2:IntKind.i64.wrap (8*(m:Int))=8*(m:Int):=eO (by omega) (by omega)
     have e5:IntKind.i64.wrap ((m:Int)-1)=(m:Int)-1:=eO (by omega) (by omega)
     have e6:IntKind.u64.wrap (8*(m:Int))=8*(m:Int):=vv (by omega) (by omega)
     have hmin:min (8*(m:Int)).toNat IntKind.i64.bits=8*m:=by
      show min (8*(m:Int)).toNat 64=8*m
      omega
     try simp only[I,B,D,RX,aK,aL,aN,↓KW,↓aM,seval,e1,e2,e6]
     refine⟨by omega,?_⟩
     try simp only[I,B,D,RX,aK,aL,aN,↓KW,↓aM,seval]
     refine back (m,G++[ep n m]) _ ⟨by show m<=K;omega,by show G++[ep n m]++gn n m=_;rw[<-hD];simp[gn]⟩ (by show m<m+1;omega) ?_
     refine ah (by decide) ?_ ?_ ?_ ?_<;>simp[LX,I,B,D,e5,hmin,ep,dD,bQ,bq,hG]
    ·have:j=0:=by have:=of_decide_eq_false h;omega
     subst this;try simp only[I,B,D,RX,aK,aL,aN,↓KW,↓aM,seval]
     have hD:G++[]=gn n K:=hD
     rw[List.append_nil]at hD;rw[<-hD,hG];rfl
   ·try simp only[I,B,D,RX,aK,aL,aN,↓KW,↓aM,seval,bQ,bq,hG]
    refine aq (fun h=>?_) (fun h=>?_)<;>try simp only[I,B,D,RX,aK,aL,aN,↓KW,↓aM,seval,h]
    ·obtain⟨m,rfl⟩:∃m,j=m+1:=⟨j-1,by have:=of_decide_eq_true h;omega⟩
     have e1:((m+1:Nat):Int)-1=(m:Int):=by omega
     have e2:IntKind.i64.wrap (8*(m:Int))=8*(m:Int):=eO (by omega) (by omega)
     have e5:IntKind.i64.wrap ((m:Int)-1)=(m:Int)-1:=eO (by omega) (by omega)
     have e6:IntKind.u64.wrap (8*(m:Int))=8*(m:Int):=vv (by omega) (by omega)
     have hmin:min (8*(m:Int)).toNat IntKind.i64.bits=8*m:=by
      show min (8*(m:Int)).toNat 64=8*m
      omega
     try simp only[I,B,D,RX,aK,aL,aN,↓KW,↓aM,seval,e1,e2,e6]
     refine⟨by omega,by first|omega|(simp;omega),fun _ _=>rfl,?_⟩
     refine back (m,G++[ep n m]) _ ⟨by show m<=K;omega,by show G++[ep n m]++gn n m=_;rw[<-hD];simp[gn]⟩ (by show m<m+1;omega) ?_
     refine ah (by decide) ?_ ?_ ?_ ?_<;>simp[LX,I,B,D,e5,hmin,ep,dD,bQ,bq]
    ·have:j=0:=by have:=of_decide_eq_false h;omega
     subst this;try simp only[I,B,D,RX,aK,aL,aN,↓KW,↓aM,seval]
     have hD:G++[]=gn n K:=hD
     rw[List.append_nil]at hD;rw[hD]at hG⊢;simp[aD,bf,hG]
  ·refine ah (by decide) ?_ ?_ ?_ ?_<;>simp[LX,I,B,D,e4,bQ,bq]
 ·have:¬List.map dD l=[]:=by simpa using hl0
  rw[if_neg this];refine ai (hC _ _ _) ?_;try simp only[I,B,D,RX,aK,aL,aN,↓KW,↓aM,seval,hK,e4]
  refine aH (fun x:Nat×List Int=>(⟨[(8,.dat (I ((x.1:Int)-1)) none),(7,bQ dD (l++x.2) 0),(2,.dat (I n) none)],[],bq (l++x.2) 0 e,400⟩:S)) (fun x=>x.1) (fun x=>x.1<=K/\x.2++gn n x.1=gn n K) ?_ (K,[]) ⟨by omega,rfl⟩ ?_
  ·intro x hx A back
   obtain⟨j,G⟩:=x
   have hj:j<=K:=hx.1
   have hD:G++gn n j=gn n K:=hx.2
   clear hx
   have hdl:G.length+j=K:=by have:=congrArg List.length hD;simpa[dA]using this
   by_cases hG:l++G=[]
   ·try simp only[I,B,D,RX,aK,aL,aN,↓KW,↓aM,seval,bQ,bq,hG]
    refine aq (fun h=>?_) (fun h=>?_)<;>try simp only[I,B,D,RX,aK,aL,aN,↓KW,↓aM,seval,h]
    ·obtain⟨m,rfl⟩:∃m,j=m+1:=⟨j-1,by have:=of_decide_eq_true h;omega⟩
     have e1:((m+1:Nat):Int)-1=(m:Int):=by omega
     have e2:IntKind.i64.wrap (8*(m:Int))=8*(m:Int):=eO (by omega) (by omega)
     have e5:IntKind.i64.wrap ((m:Int)-1)=(m:Int)-1:=eO (by omega) (by omega)
     have e6:IntKind.u64.wrap (8*(m:Int))=8*(m:Int):=vv (by omega) (by omega)
     have hmin:min (8*(m:Int)).toNat IntKind.i64.bits=8*m:=by
      show min (8*(m:Int)).toNat 64=8*m
      omega
     try simp only[I,B,D,RX,aK,aL,aN,↓KW,↓aM,seval,e1,e2,e6]
     refine⟨by omega,?_⟩
     try simp only[I,B,D,RX,aK,aL,aN,↓KW,↓aM,seval]
     refine back (m,G++[ep n m]) _ ⟨by show m<=K;omega,by show G++[ep n m]++gn n m=_;rw[<-hD];simp[gn]⟩ (by show m<m+1;omega) ?_
     have hG':l=[]/\G=[]:=by simpa using hG
     obtain⟨hl',hG''⟩:=hG'
     refine ah (by decide) ?_ ?_ ?_ ?_<;>simp[LX,I,B,D,e5,hmin,ep,dD,bQ,bq,hl',hG'']
    ·have:j=0:=by have:=of_decide_eq_false h;omega
     subst this;try simp only[I,B,D,RX,aK,aL,aN,↓KW,↓aM,seval]
     have hD:G++[]=gn n K:=hD
     rw[List.append_nil]at hD;rw[<-hD,hG];rfl
   ·try simp only[I,B,D,RX,aK,aL,aN,↓KW,↓aM,seval,bQ,bq,hG]
    refine aq (fun h=>?_) (fun h=>?_)<;>try simp only[I,B,D,RX,aK,aL,aN,↓KW,↓aM,seval,h]
    ·obtain⟨m,rfl⟩:∃m,j=m+1:=⟨j-1,by have:=of_decide_eq_true h;omega⟩
     have e1:((m+1:Nat):Int)-1=(m:Int):=by omega
     have e2:IntKind.i64.wrap (8*(m:Int))=8*(m:Int):=eO (by omega) (by omega)
     have e5:IntKind.i64.wrap ((m:Int)-1)=(m:Int)-1:=eO (by omega) (by omega)
     have e6:IntKind.u64.wrap (8*(m:Int))=8*(m:Int):=vv (by omega) (by omega)
     have hmin:min (8*(m:Int)).toNat IntKind.i64.bits=8*m:=by
      show min (8*(m:Int)).toNat 64=8*m
      omega
     try simp only[I,B,D,RX,aK,aL,aN,↓KW,↓aM,seval,e1,e2,e6]
     refine⟨by omega,by first|omega|(simp;omega),fun _ _=>rfl,?_⟩
     refine back (m,G++[ep n m]) _ ⟨by show m<=K;omega,by show G++[ep n m]++gn n m=_;rw[<-hD];simp[gn]⟩ (by show m<m+1;omega) ?_
     refine ah (by decide) ?_ ?_ ?_ ?_<;>simp[LX,I,B,D,e5,hmin,ep,dD,bQ,bq]
    ·have:j=0:=by have:=of_decide_eq_false h;omega
     subst this;try simp only[I,B,D,RX,aK,aL,aN,↓KW,↓aM,seval]
     have hD:G++[]=gn n K:=hD
     rw[List.append_nil]at hD;rw[hD]at hG⊢;simp[aD,bf,hG]
  ·refine ah (by decide) ?_ ?_ ?_ ?_<;>simp[LX,I,B,D,e4,bQ,bq,hl0]
def Du.Spec(C:bw) (f:Nat):Prop:=∀(b:Option (List Int)) (x:Nat),(b.getD []).length<=1000000->C.c f [aD dD b,Fl x] (.sl ((sX (b.getD []) 8 (IntKind.i64.wrap x)).map dD)) none
def A5.Spec(C:bw) (f:Nat):Prop:=∀(b:Option (List Int)) (x:Nat),(b.getD []).length<=1000000->C.c f [aD dD b,Fl x] (aD dD (bf (sX (b.getD []) 8 (IntKind.i64.wrap x)))) none
theorem Du.ok{fP:Nat} (hc:de P f=some (oN fP)) (hP:G9.Spec (Pure P) fP):Du.Spec (Pure P) f:=by
 intro b x hb
 refine aB hm hc (by show 2<=10;decide) (ax (keep:=[]) (i:=0) ?_)
 try simp only[I,B,D,RX,aK,aL,aN,↓KW,↓aM,seval,oN,Z.H,Eb]
 refine ai (hP b 8 _ hb) ?_;try simp only[I,B,D,RX,aK,aL,aN,↓KW,↓aM,seval]
theorem A5.ok{fP:Nat} (hc:de P f=some (nP fP)) (hP:B8.Spec (Pure P) fP):A5.Spec (Pure P) f:=by
 intro b x hb
 refine aB hm hc (by show 2<=10;decide) (ax (keep:=[]) (i:=0) ?_)
 try simp only[I,B,D,RX,aK,aL,aN,↓KW,↓aM,seval,nP,Z.H,Eb]
 refine ai (hP b 8 _ hb) ?_;try simp only[I,B,D,RX,aK,aL,aN,↓KW,↓aM,seval]
def Dv.Spec(C:bw) (f:Nat):Prop:=∀a b:Option (List Int),(a.getD []).length<=1000000000->C.c f [aD dD a,aD dD b] (B ((a.getD [])==(b.getD []))) none
theorem Dv.ok(hc:de P f=some nj):Dv.Spec (Pure P) f:=by
 intro a b ha
 obtain⟨l,hl⟩:∃l,l=a.getD []:=⟨_,rfl⟩
 obtain⟨m,hm'⟩:∃m,m=b.getD []:=⟨_,rfl⟩
 rw[<-hl]at ha⊢;rw[<-hm']
 refine aB hm hc (by show 2<=26;decide) (ax (keep:=[]) (i:=0) ?_)
 try simp only[I,B,D,RX,aK,aL,aN,↓KW,↓aM,seval,nj,Z.H,<-hl,<-hm']
 refine aq (fun h=>?_) (fun h=>?_)<;>try simp only[I,B,D,RX,aK,aL,aN,↓KW,↓aM,seval,h]
 ·have h:¬l.length=m.length:=by simp only[bne_iff_ne,ne_eq]at h;omega
  have:(l==m)=false:=by rw[beq_eq_false_iff_ne];intro e;exact h (by rw[e])
  simp[this]
 ·have h:l.length=m.length:=by simp at h;omega
  refine aH (fun i:Nat=>(⟨[(5,.dat (I i) none),(0,.dat (aD dD a) none),(1,.dat (aD dD b) none)],[],[],400⟩:S)) (fun i=>l.length-i) (fun i=>i<=l.length/\l.take i=m.take i) ?_ 0 ⟨by omega,rfl⟩ ?_
  ·intro i hi A back
   obtain⟨hi,ht⟩:=hi;try simp only[I,B,D,RX,aK,aL,aN,↓KW,↓aM,seval,<-hl,<-hm']
   refine aq (fun h2=>?_) (fun h2=>?_)<;>try simp only[I,B,D,RX,aK,aL,aN,↓KW,↓aM,seval,h2]
   ·have h3:i<l.length:=by have:=of_decide_eq_true h2;omega
    obtain⟨x,hx⟩:∃x,l[i]? =some x:=⟨l[i],by simp[h3]⟩
    obtain⟨y,hy⟩:∃y,m[i]? =some y:=⟨m[i]'(by omega),by simp[show i<m.length by omega]⟩
    have hw:=aF (k:=i) (by omega)
    refine⟨⟨by omega,by first|omega|(rw[<-hl];omega)⟩,?_⟩
    try simp only[I,B,D,RX,aK,aL,aN,↓KW,↓aM,seval,<-hl,<-hm',hx,dD]
    refine⟨⟨by omega,by first|omega|(rw[<-hm'];omega)⟩,?_⟩
    try simp only[I,B,D,RX,aK,aL,aN,↓KW,↓aM,seval,<-hl,<-hm',hy,dD]
    refine aq (fun h4=>?_) (fun h4=>?_)<;>try simp only[I,B,D,RX,aK,aL,aN,↓KW,↓aM,seval,h4]
    ·have hne:¬x=y:=by simpa using h4
     have:(l==m)=false:=by rw[beq_eq_false_iff_ne];intro e;rw[e]at hx;rw[hx]at hy;exact hne (Option.some.inj hy)
     rw[this]
    ·have hxy:x=y:=by simpa using h4
     refine back (i+1) _ ⟨by omega,by rw[List.take_add_one,List.take_add_one,ht,hx,hy,hxy]⟩ (by omega) ?_
     refine ah (by decide) ?_ ?_ ?_ ?_<;>simp[LX,I,B,D,hw]
   ·have:i=l.length:=by have:=of_decide_eq_false h2;omega
    have:(l==m)=true:=by rw[beq_iff_eq];rw[this,List.take_length,h,List.take_length]at ht;exact ht
    rw[this]
  ·refine ah (by decide) ?_ ?_ ?_ ?_<;>simp[LX,I,B,D]
end
def oO(r:bk) (n:Int):Int×bk:=if r.len-r.eM<n then(0,{r with code:=2,EN:=r.len})else(eZ (r.part n),r)
def Oa.Spec(C:bw) (f:Nat):Prop:=∀r:bk,C.p f [r.cells] [none] (B (r.code==0)) none [r.cells]
def A6.Spec(C:bw) (f:Nat):Prop:=∀(r:bk) (n:Int),r.Ok->0<=n->n<=8->C.p f [r.cells] [none,some (I n)] (.int .u64 (oO r n).1) none [(oO r n).2.cells]
section
variable{P:Program} (hm:P.follows .mixedOrders=true) {f:Nat}
include hm
theorem Oa.ok(hc:de P f=some nk):Oa.Spec (Pure P) f:=by
 intro r
 refine bO hm hc (by show 1<=9;decide) rfl (by simp) (ax (keep:=[]) (i:=0) ?_)
 try simp only[I,B,D,RX,↓KW,seval,nk,Z.H,bk.cells]
theorem A6.ok(hc:de P f=some lE):A6.Spec (Pure P) f:=by
 intro r n hr h0 h8
 have hr':=hr
 obtain⟨h1,h2,h3⟩:=hr'
 have hw1:IntKind.i64.wrap (r.len-r.eM)=r.len-r.eM:=eO (by omega) (by omega)
 refine bO hm hc (by show 2<=50;decide) rfl (by simp) (ax (keep:=[]) (i:=0) ?_)
 try simp only[I,B,D,RX,↓KW,seval,lE,Z.H,bk.cells,EO,hw1]
 refine aq (fun h=>?_) (fun h=>?_)<;>try simp only[I,B,D,RX,↓KW,seval,h]
 ·have h:r.len-r.eM<n:=of_decide_eq_true h
  simp[oO,h];rfl
 ·have h:¬r.len-r.eM<n:=of_decide_eq_false h
  have hb:oO r n=(eZ (r.part n),r):=by simp[oO,h]
  rw[hb]
  have hl:=Dt hr h0 (by omega)
  obtain⟨L,hL⟩:∃L,L=r.part n:=⟨_,rfl⟩
  rw[<-hL]at hl⊢
  refine aH (fun k:Nat=>(⟨[(6,.dat (I k) none),(1,.dat (I n) none),(0,.ptr 0 0),(5,.dat (.int .u64 (eZ (L.take k))) none)],[(0,⟨r.cells,[]⟩)],[],400⟩:S)) (fun k=>L.length-k) (fun k=>k<=L.length) ?_ 0 (by omega) ?_
  ·intro k hk A back
   try simp only[I,B,D,RX,↓KW,seval,bk.cells]
   refine aq (fun h5=>?_) (fun h5=>?_)<;>try simp only[I,B,D,RX,↓KW,seval,h5]
   ·have hk2:k<L.length:=by have:=of_decide_eq_true h5;omega
    obtain⟨x,hx⟩:∃x,L[k]? =some x:=⟨L[k],by simp[hk2]⟩
    have hx2:(r.b.getD [])[(r.eM+k).toNat]? =some x:=by
     rw[hL]at hx
     have e:(r.eM+k).toNat=r.eM.toNat+k:=by omega
     unfold bk.part at hx;rw[List.getElem?_drop,List.getElem?_take]at hx;rw[e];split at hx
     ·exact hx
     ·cases hx
    have hw:=aF (k:=k) (by omega)
    have hw2:IntKind.i64.wrap (r.eM+k)=r.eM+k:=eO (by omega) (by omega)
    try simp only[I,B,D,RX,↓KW,seval,hw2]
    have hlen:r.eM+(k:Int)<((r.b.getD []).length:Int):=by rw[EO];omega
    refine⟨⟨by omega,hlen⟩,?_⟩
    try simp only[I,B,D,RX,↓KW,seval,hx2,dD]
    refine back (k+1) _ (by omega) (by omega) (ah (by decide) ?_ ?_ ?_ ?_)<;>simp[LX,I,B,D,hx,A4 L k x hx,hw,bk.cells]
    rfl
   ·have:k=L.length:=by have:=of_decide_eq_false h5;omega
    subst this;try simp only[I,B,D,RX,↓KW,seval,List.take_length]
  ·refine ah (by decide) ?_ ?_ ?_ ?_<;>simp[LX,I,B,D,bk.cells,eZ]
def wC.Spec(C:bw) (f:Nat):Prop:=∀(r:bk) (size lo hi:Int),r.Ok->C.p f [r.cells] [none,some (I size),some (I lo),some (I hi)] (I (gI r size lo hi).1) none [(gI r size lo hi).2.cells]
def zB.Spec(C:bw) (f:Nat):Prop:=∀r:bk,r.Ok->C.p f [r.cells] [none] (Fl (gB r).1) none [(gB r).2.cells]
def A7.Spec(C:bw) (f:Nat):Prop:=∀r:bk,r.Ok->C.p f [r.cells] [none] (B (Jz r).1) none [(Jz r).2.cells]
theorem wC.ok{fO fC fB:Nat} (hc:de P f=some (ff fO fC fB)) (hO:Oa.Spec (Pure P) fO) (hC:Cut.Spec (Pure P) fC) (hB:A6.Spec (Pure P) fB):wC.Spec (Pure P) f:=by
 intro r size lo hi hr
 obtain⟨k,hk⟩:∃k,k=jb size 0 7:=⟨_,rfl⟩
 have hk0:0<=k/\k<=7:=by rw[hk];unfold jb;split<;>(try split)<;>omega
 by_cases h0:r.code=0
 ·obtain⟨b,q,c,a⟩:=r
  simp only at h0;subst h0
  have hr':=hr
  obtain⟨g1,g2,g3⟩:=hr';simp only at g1 g2
  have ok0:=hO ⟨b,q,0,a⟩
  by_cases hn:(bk.mk b q 0 a).len-q<k
  ·have hR:gI ⟨b,q,0,a⟩ size lo hi=(0,⟨b,q,2,(bk.mk b q 0 a).len⟩):=by
    have:¬k<=(bk.mk b q 0 a).len-q:=by omega
    simp[gI,<-hk,this,bk.fail]
   have hb:oO ⟨b,q,0,a⟩ k=(0,⟨b,q,2,(bk.mk b q 0 a).len⟩):=by simp[oO,hn]
   have hbs:=hB ⟨b,q,0,a⟩ k hr hk0.1 (by omega)
   rw[hb]at hbs;rw[hR]
   refine bO hm hc (by show 4<=53;decide) rfl (by simp) (ax (keep:=[]) (i:=0) ?_)
   try simp only[I,B,D,RX,↓KW,seval,ff,Z.H,bk.cells]
   refine⟨rfl,ay ok0 ?_⟩;try simp only[I,B,D,RX,↓KW,seval,bk.cells]
   refine ai (hC _ _ _) ?_;try simp only[I,B,D,RX,↓KW,seval,<-hk]
   refine⟨rfl,ay hbs ?_⟩;try simp only[I,B,D,RX,↓KW,seval,bk.cells]
   refine⟨rfl,ay (hO ⟨b,q,2,_⟩) ?_⟩;try simp only[I,B,D,RX,↓KW,seval,bk.cells]
   refine⟨rfl,ay (hO ⟨b,q,2,_⟩) ?_⟩;try simp only[I,B,D,RX,↓KW,seval,bk.cells]
   rfl
  ·have hb:oO ⟨b,q,0,a⟩ k=(eZ ((bk.mk b q 0 a).part k),⟨b,q,0,a⟩):=by simp[oO,hn]
   have hbs:=hB ⟨b,q,0,a⟩ k hr hk0.1 (by omega)
   rw[hb]at hbs
   obtain⟨v,hv⟩:∃v,v=IntKind.i64.wrap (eZ ((bk.mk b q 0 a).part k)):=⟨_,rfl⟩
   have hk':k<=(bk.mk b q 0 a).len-q:=by omega
   have hsum:IntKind.i64.wrap (q+k)=q+k:=eO (by omega) (by omega)
   have pre:(gI ⟨b,q,0,a⟩ size lo hi)=if v<lo\/hi<v then(0,⟨b,q,4,q⟩)else(v,⟨b,q+k,0,a⟩):=by
    simp[gI,<-hk,hk',<-hv,bk.fail]
   by_cases hbad:v<lo\/hi<v
   ·rw[pre,if_pos hbad]
    refine bO hm hc (by show 4<=53;decide) rfl (by simp) (ax (keep:=[]) (i:=0) ?_)
    try simp only[I,B,D,RX,↓KW,seval,ff,Z.H,bk.cells]
    refine⟨rfl,ay ok0 ?_⟩;try simp only[I,B,D,RX,↓KW,seval,bk.cells]
    refine ai (hC _ _ _) ?_;try simp only[I,B,D,RX,↓KW,seval,<-hk]
    refine⟨rfl,ay hbs ?_⟩;try simp only[I,B,D,RX,↓KW,seval,bk.cells,<-hv]
    refine⟨rfl,ay ok0 ?_⟩;try simp only[I,B,D,RX,↓KW,seval,bk.cells]
    refine bJ (fun h=>?_) (fun h=>?_)
    ·try simp only[I,B,D,RX,↓KW,seval,h]
     refine⟨rfl,ay (hO ⟨b,q,4,q⟩) ?_⟩;try simp only[I,B,D,RX,↓KW,seval,bk.cells]
    ·try simp only[I,B,D,RX,↓KW,seval,h]
     have h2:hi<v:=by have:=of_decide_eq_false h;omega
     refine aq (fun h3=>?_) (fun h3=>?_)<;>try simp only[I,B,D,RX,↓KW,seval,h3]
     ·refine⟨rfl,ay (hO ⟨b,q,4,q⟩) ?_⟩
      try simp only[I,B,D,RX,↓KW,seval,bk.cells]
     ·exfalso;have:=of_decide_eq_false h3;omega
   ·rw[pre,if_neg hbad]
    refine bO hm hc (by show 4<=53;decide) rfl (by simp) (ax (keep:=[]) (i:=0) ?_)
    try simp only[I,B,D,RX,↓KW,seval,ff,Z.H,bk.cells]
    refine⟨rfl,ay ok0 ?_⟩;try simp only[I,B,D,RX,↓KW,seval,bk.cells]
    refine ai (hC _ _ _) ?_;try simp only[I,B,D,RX,↓KW,seval,<-hk]
    refine⟨rfl,ay hbs ?_⟩;try simp only[I,B,D,RX,↓KW,seval,bk.cells,<-hv]
    refine⟨rfl,ay ok0 ?_⟩;try simp only[I,B,D,RX,↓KW,seval,bk.cells]
    refine bJ (fun h=>?_) (fun h=>?_)
    ·exfalso;have:=of_decide_eq_true h;omega
    ·try simp only[I,B,D,RX,↓KW,seval,h]
     refine aq (fun h3=>?_) (fun h3=>?_)<;>try simp only[I,B,D,RX,↓KW,seval,h3]
     ·exfalso;have:=of_decide_eq_true h3;omega
     ·refine⟨rfl,ay ok0 ?_⟩
      try simp only[I,B,D,RX,↓KW,seval,bk.cells,hsum]
 ·have hz:(r.code==0)=false:=by simpa using h0
  have hR:gI r size lo hi=(0,r):=by simp[gI,h0,bk.fail]
  rw[hR]
  refine bO hm hc (by show 4<=53;decide) rfl (by simp) (ax (keep:=[]) (i:=0) ?_)
  try simp only[I,B,D,RX,↓KW,seval,ff,Z.H,bk.cells]
  refine⟨rfl,ay (hO r) ?_⟩;try simp only[I,B,D,RX,↓KW,seval,bk.cells,hz]
theorem zB.ok{fO fB:Nat} (hc:de P f=some (f7 fO fB)) (hO:Oa.Spec (Pure P) fO) (hB:A6.Spec (Pure P) fB):zB.Spec (Pure P) f:=by
 intro r hr
 by_cases h0:r.code=0
 ·obtain⟨b,q,c,a⟩:=r
  simp only at h0;subst h0
  have hr':=hr
  obtain⟨g1,g2,g3⟩:=hr';simp only at g1 g2
  have ok0:=hO ⟨b,q,0,a⟩
  by_cases hn:(bk.mk b q 0 a).len-q<8
  ·have hR:gB ⟨b,q,0,a⟩=(0,⟨b,q,2,(bk.mk b q 0 a).len⟩):=by
    have:¬8<=(bk.mk b q 0 a).len-q:=by omega
    simp[gB,this,bk.fail]
   have hb:oO ⟨b,q,0,a⟩ 8=(0,⟨b,q,2,(bk.mk b q 0 a).len⟩):=by simp[oO,hn]
   have hbs:=hB ⟨b,q,0,a⟩ 8 hr (by omega) (by omega)
   rw[hb]at hbs;rw[hR]
   refine bO hm hc (by show 1<=22;decide) rfl (by simp) (ax (keep:=[]) (i:=0) ?_)
   try simp only[I,B,D,RX,↓KW,seval,f7,Z.H,bk.cells]
   refine⟨rfl,ay ok0 ?_⟩;try simp only[I,B,D,RX,↓KW,seval,bk.cells]
   refine⟨rfl,ay hbs ?_⟩;try simp only[I,B,D,RX,↓KW,seval,bk.cells]
   refine⟨rfl,ay (hO ⟨b,q,2,_⟩) ?_⟩;try simp only[I,B,D,RX,↓KW,seval,bk.cells]
   rfl
  ·have hb:oO ⟨b,q,0,a⟩ 8=(eZ ((bk.mk b q 0 a).part 8),⟨b,q,0,a⟩):=by simp[oO,hn]
   have hbs:=hB ⟨b,q,0,a⟩ 8 hr (by omega) (by omega)
   rw[hb]at hbs
   have hk':8<=(bk.mk b q 0 a).len-q:=by omega
   have hsum:IntKind.i64.wrap (q+8)=q+8:=eO (by omega) (by omega)
   have pre:gB ⟨b,q,0,a⟩=((eZ ((bk.mk b q 0 a).part 8)).toNat,⟨b,q+8,0,a⟩):=by simp[gB,hk']
   rw[pre]
   refine bO hm hc (by show 1<=22;decide) rfl (by simp) (ax (keep:=[]) (i:=0) ?_)
   try simp only[I,B,D,RX,↓KW,seval,f7,Z.H,bk.cells]
   refine⟨rfl,ay ok0 ?_⟩;try simp only[I,B,D,RX,↓KW,seval,bk.cells]
   refine⟨rfl,ay hbs ?_⟩;try simp only[I,B,D,RX,↓KW,seval,bk.cells]
   refine⟨rfl,ay ok0 ?_⟩;try simp only[I,B,D,RX,↓KW,seval,bk.cells,hsum]
 ·have hz:(r.code==0)=false:=by simpa using h0
  have hR:gB r=(0,r):=by simp[gB,h0,bk.fail]
  rw[hR]
  refine bO hm hc (by show 1<=22;decide) rfl (by simp) (ax (keep:=[]) (i:=0) ?_)
  try simp only[I,B,D,RX,↓KW,seval,f7,Z.H,bk.cells]
  refine⟨rfl,ay (hO r) ?_⟩;try simp only[I,B,D,RX,↓KW,seval,bk.cells,hz]
theorem A7.ok{fN:Nat} (hc:de P f=some (lC fN)) (hN:wC.Spec (Pure P) fN):A7.Spec (Pure P) f:=by
 intro r hr
 refine bO hm hc (by show 1<=6;decide) rfl (by simp) (ax (keep:=[]) (i:=0) ?_)
 try simp only[I,B,D,RX,↓KW,seval,lC,Z.H,bk.cells]
 refine⟨rfl,ay (hN r 1 0 1 hr) ?_⟩;try simp only[I,B,D,RX,↓KW,seval,bk.cells]
 exact⟨rfl,rfl⟩
end
theorem B9{r:bk} (h:r.Ok) (c a:Int):(r.fail c a).Ok/\(r.fail c a).b=r.b:=by
 unfold bk.fail;split
 ·exact⟨h,rfl⟩
 ·exact⟨h,rfl⟩
theorem Xh(n:Int):0<=jb n 0 7/\jb n 0 7<=7:=by unfold jb;split<;>(try split)<;>omega
theorem No{r:bk} (h:r.Ok) (size lo hi:Int):(gI r size lo hi).2.Ok/\(gI r size lo hi).2.b=r.b:=by
 have hk:=Xh size
 unfold gI;simp only;split
 ·exact B9 h _ _
 ·rename_i hn
  split
  ·exact B9 h _ _
  ·obtain⟨h1,h2,h3⟩:=h
   refine⟨⟨?_,?_,h3⟩,rfl⟩
   ·show 0<=r.eM+_;omega
   ·show r.eM+_<=r.len;simp at hn;omega
theorem xZ{r:bk} (h:r.Ok):(gB r).2.Ok/\(gB r).2.b=r.b:=by
 unfold gB;split
 ·exact B9 h _ _
 ·rename_i hn
  obtain⟨h1,h2,h3⟩:=h;refine⟨⟨?_,?_,h3⟩,rfl⟩
  ·show 0<=r.eM+_;omega
  ·show r.eM+_<=r.len;simp at hn;omega
theorem Np(a b:Int):bt [.i,.i] [.int .i64 a,.int .i64 b] [.int .i64 a,.int .i64 b]=some true:=by simp[bt,lO]
section
variable{P:Program} (hm:P.follows .mixedOrders=true) {f:Nat}
include hm
structure Ym where
 kind:Int
 size:Int
 low:Int
 high:Int
end
theorem Dw(n:Int):IntKind.u64.wrap n=n%18446744073709551616:=rfl
theorem Ca(n:Int):IntKind.u8.wrap n=n%256:=rfl
theorem vw{v c:Int} (hv:0<=v) (hv2:v<72057594037927936) (hc:0<=c) (hc2:c<256):jz v c=v*256+c:=by
 unfold jz KV
 have e1:IntKind.u64.wrap (v*2^min 8 IntKind.u64.bits)=v*256:=by
  show(v*2^8)%18446744073709551616=_
  omega
 have e2:IntKind.u64.wrap c=c:=by show c%18446744073709551616=_;omega
 rw[e1,e2];obtain⟨m,rfl⟩:=Int.eq_ofNat_of_zero_le hv;obtain⟨d,rfl⟩:=Int.eq_ofNat_of_zero_le hc
 have a1:(BitVec.ofInt 64 ((m:Int)*256)).toNat=m<<<8:=by
  rw[BitVec.toNat_ofInt,Nat.shiftLeft_eq]
  show((m:Int)*256%18446744073709551616).toNat=m*256
  omega
 have a2:(BitVec.ofInt 64 (d:Int)).toNat=d:=by
  rw[BitVec.toNat_ofInt]
  show((d:Int)%18446744073709551616).toNat=d
  omega
 show IntKind.u64.wrap ((BitVec.ofInt 64 ((m:Int)*256)|||BitVec.ofInt 64 (d:Int)).toNat:Int)=_
 rw[BitVec.toNat_or,a1,a2,<-Nat.shiftLeft_add_eq_or_of_lt (show d<2^8 by omega),Dw,Nat.shiftLeft_eq]
 omega
theorem uh:∀k:Nat,0<(256:Int)^k
 |0=>by decide
 |k+1=>by have:=uh k;rw[Int.pow_succ];omega
theorem nq(n:Int) (k:Nat):ep n k=n/256^k%256:=by
 unfold ep;rw[Ca]
 have:n.fdiv (2^(8*k))=n/256^k:=by
  rw[show(2:Int)^(8*k)=256^k by rw[Int.pow_mul];rfl]
  exact Int.fdiv_eq_ediv_of_nonneg _ (Int.le_of_lt (uh k))
 rw[this]
theorem zC(n:Int) (k:Nat):n/256^k%256*256^k+n%256^k=n%256^(k+1):=by
 have hp:=uh k
 rw[Int.pow_succ];generalize(256:Int)^k=b at hp⊢
 have h1:=Int.emod_add_mul_ediv n b
 have h2:=Int.emod_add_mul_ediv (n/b) 256
 have h3:=Int.emod_nonneg n (Int.ne_of_gt hp)
 have h4:=Int.emod_lt_of_pos n hp
 have h5:0<=n/b%256:=by omega
 have h6:n/b%256<=255:=by omega
 have h7:b*(n/b%256)<=b*255:=Int.mul_le_mul_of_nonneg_left h6 (by omega)
 have h8:0<=b*(n/b%256):=Int.mul_nonneg (by omega) h5
 have h9:n=(b*(n/b%256)+n%b)+(b*256)*(n/b/256):=by
  have:b*(n/b)=b*(n/b%256)+b*256*(n/b/256):=by
   rw[Int.mul_assoc,<-Int.mul_add,h2]
  omega
 have h10:n%(b*256)=b*(n/b%256)+n%b:=by
  rw[h9,Int.add_mul_emod_self_left];rw[<-h9]
  exact Int.emod_eq_of_lt (by omega) (by omega)
 rw[h10,Int.mul_comm b]
theorem Dx(n:Int):∀(k:Nat) (v:Int),0<=v->v*256^k+256^k<=18446744073709551616->(gn n k).foldl jz v=v*256^k+n%256^k
 |0,v,_,_=>by simp[gn,Int.emod_one]
 |k+1,v,hv,hb=>by
  have hp:=uh k
  have hm:=zC n k
  rw[Int.pow_succ]at hb hm⊢
  have hb1:0<=ep n k:=by rw[nq];omega
  have hb2:ep n k<256:=by rw[nq];omega
  have hby:=nq n k
  have ih:=Dx n k
  have e0:(gn n (k+1)).foldl jz v=(gn n k).foldl jz (jz v (ep n k)):=rfl
  rw[e0];generalize(256:Int)^k=b at hp hm hb hby ih⊢;generalize ep n k=c at hb1 hb2 hby ih⊢
  have h1:v*256<=v*(b*256):=Int.mul_le_mul_of_nonneg_left (by omega) hv
  have h2:(c+1)*b<=256*b:=Int.mul_le_mul_of_nonneg_right (by omega) (by omega)
  have e1:(v*256+c)*b=v*(b*256)+c*b:=by rw[Int.add_mul,Int.mul_assoc,Int.mul_comm 256 b]
  have e2:(c+1)*b=c*b+b:=by rw[Int.add_mul,Int.one_mul]
  have h3:v<72057594037927936:=by omega
  rw[vw hv h3 hb1 hb2,ih _ (by omega) (by omega),<-hm,<-hby]
  omega
theorem Dy(n:Int) (k:Nat) (hk:k<=8):eZ (gn n k)=n%256^k:=by
 unfold eZ
 rw[Dx n k 0 (by omega) ?_]
 ·simp
 ·have:k=0\/k=1\/k=2\/k=3\/k=4\/k=5\/k=6\/k=7\/k=8:=by omega
  rcases this with rfl|rfl|rfl|rfl|rfl|rfl|rfl|rfl|rfl<;>decide
def l5(t:Tb) (p q:Int):Int:=if gw t p q then je (N6 [p]) q else N6 [p]
def with.Spec(C:bw) (f:Nat):Prop:=∀(t:Tb) (p q:Int),t.Ok->C.c f [.agg t.cells,I p,I q] (I (l5 t p q)) none
theorem Rb(k:FloatKind) (x y:Nat):ez .mul (.float k x) (.float k y)=Ee k (k.format.mul x y):=by simp[ez,yh]
theorem JB(k:FloatKind) (x y:Nat):ez .quo (.float k x) (.float k y)=Ee k (k.format.div x y):=by simp[ez,yh]
theorem Rc(k:FloatKind) (r:Nat):Ee k (some r)=some (.float k r):=by cases k<;>rfl
theorem Ob(k:FloatKind) (k':IntKind) (n:Int):yj k (.int k' n)=some (.float k (k.nearest n)):=rfl
theorem aS(l:Option (List Int)) (i:Int) {n:Int} (h:0<n) (hn:n<=4294967296):0<=bV l i n/\bV l i n<n:=by
 simp only[bV,place]
 have h1:=Int.tmod_lt_of_pos (Ql l i) h
 have h2:=Int.lt_tmod_of_pos (Ql l i) h
 split
 ·rw[cv,bC (by omega) (by omega)];omega
 ·omega
def A8(n:Int):Nat:=(FloatKind.f64.format.div (FloatKind.f64.nearest n) 4621819117588971520).getD 0
theorem zD:∀n:Nat,n<6->FloatKind.f64.format.div (FloatKind.f64.nearest (n:Int)) 4621819117588971520=some (A8 n):=by decide+kernel
def xB(k:Int):Nat:=[4617315517961601024,4621819117588971520,4607182418800017408,4602678819172646912].getD k.toNat 0
def zE(k:Int):Nat:=[4602678819172646912,4607182418800017408,4598175219545276416].getD k.toNat 0
def wD(j k:Int):Nat:=(FloatKind.f64.format.mul (xB j) (zE k)).getD 0
theorem Dz:∀j:Nat,j<4->∀k:Nat,k<3->FloatKind.f64.format.mul (xB j) (zE k)=some (wD j k):=by decide+kernel
def jL(l:Option (List Int)) (i n:Int):fy where
 phase:=bV l i n
 on:=xB (bV l (cv (i+1)) 4)
 off:=wD (bV l (cv (i+1)) 4) (bV l (cv (i+2)) 3)
 delay:=A8 (bV l (cv (i+3)) 4)
 extend:=A8 (bV l (cv (i+4)) 6)
 maxOn:=if bV l (cv (i+5)) 3==1 then cv (20+bV l (cv (i+6)) 60)else 0
 iF:=if bV l (cv (i+5)) 9==2 then cv (60+bV l (cv (i+7)) 300)else 0
def ry.Spec(C:bw) (f:Nat):Prop:=∀(l:Option (List Int)) (i n:Int),0<n->C.c f [aD aA l,I i,I n] (.agg (jL l i n).cells) none
section
variable{P:Program} (hm:P.follows .mixedOrders=true) {f:Nat}
include hm
theorem with.ok{e fO fB fW:Nat} (hc:de P f=some (oa e fO fB fW)) (hO:zc.Spec (Pure P) fO) (hB:beside.Spec (Pure P) fB) (hW:sw.Spec (Pure P) fW):with.Spec (Pure P) f:=by
 intro t p q ht
 have hl:=Tb.len ht
 have hp:=Tb.whole ht
 refine aB hm hc (by show 3<=19;decide) (ax (keep:=[]) (i:=0) ?_)
 try simp only[I,B,D,RX,↓KW,seval,oa,Z.H,hp,hl]
 refine ai (hO (some [_]) (by simp)) ?_
 try simp only[I,B,D,RX,↓KW,seval,hp]
 refine ai (hB t _ _ ht) ?_;try simp only[I,B,D,RX,↓KW,seval]
 repeat' (first|(refine ai (hW _ _) ?_;try simp only[I,B,D,RX,↓KW,seval])|(((first|refine bJ ?_ ?_|refine aq ?_ ?_|refine cX ?_ ?_)<;>intro h)<;>try simp only[I,B,D,RX,↓KW,seval,h]))
 all_goals simp_all [l5]
theorem ry.ok{fF:Nat} (hc:de P f=some (nN fF)) (hF:from.Spec (Pure P) fF):ry.Spec (Pure P) f:=by
 intro l i n hn
 refine aB hm hc (by show 3<=66;decide) (ax (keep:=[]) (i:=0) ?_)
 try simp only[I,B,D,RX,↓KW,seval,nN,Z.H]
 refine ai (hF _ _ _ hn) ?_;try simp only[I,B,D,RX,↓KW,seval]
 refine ai (hF _ _ _ (by decide)) ?_
 try simp only[I,B,D,RX,↓KW,seval]
 have h1:=aS l (cv (i+1)) (n:=4) (by decide) (by decide)
 have h2:=aS l (cv (i+2)) (n:=3) (by decide) (by decide)
 have h3:=aS l (cv (i+3)) (n:=4) (by decide) (by decide)
 have h4:=aS l (cv (i+4)) (n:=6) (by decide) (by decide)
 have e1:[AV.float FloatKind.f64 4617315517961601024,AV.float FloatKind.f64 4621819117588971520,AV.float FloatKind.f64 4607182418800017408,AV.float FloatKind.f64 4602678819172646912][(bV l (cv (i+1)) 4).toNat]? =some (.float .f64 (xB (bV l (cv (i+1)) 4))):=by
  generalize bV l (cv (i+1)) 4=j at*
  have:j=0\/j=1\/j=2\/j=3:=by omega
  rcases this with rfl|rfl|rfl|rfl<;>rfl
 have e2:[AV.float FloatKind.f64 4602678819172646912,AV.float FloatKind.f64 4607182418800017408,AV.float FloatKind.f64 4598175219545276416][(bV l (cv (i+2)) 3).toNat]? =some (.float .f64 (zE (bV l (cv (i+2)) 3))):=by
  generalize bV l (cv (i+2)) 3=j at*
  have:j=0\/j=1\/j=2:=by omega
  rcases this with rfl|rfl|rfl<;>rfl
 have e3:=Dz (bV l (cv (i+1)) 4).toNat (by omega) (bV l (cv (i+2)) 3).toNat (by omega)
 have e4:=zD (bV l (cv (i+3)) 4).toNat (by omega)
 have e5:=zD (bV l (cv (i+4)) 6).toNat (by omega)
 simp only[Int.toNat_of_nonneg h1.1,Int.toNat_of_nonneg h2.1]at e3;simp only[Int.toNat_of_nonneg h3.1]at e4;simp only[Int.toNat_of_nonneg h4.1]at e5;simp only[cv]at e1 e2 e3 e4 e5 h1 h2 h3 h4
 refine⟨by omega,?_⟩
 try simp only[I,B,D,RX,↓KW,seval,e1]
 refine ai (hF l _ 3 (by decide)) ?_
 try simp only[I,B,D,RX,↓KW,seval]
 refine⟨by omega,?_⟩
 try simp only[I,B,D,RX,↓KW,seval,e2,Rc,Rb,e3]
 refine ai (hF _ _ _ (by decide)) ?_
 try simp only[I,B,D,RX,↓KW,seval,Ob,Rc,JB,e4]
 refine ai (hF _ _ _ (by decide)) ?_
 try simp only[I,B,D,RX,↓KW,seval,Ob,Rc,JB,e5]
 repeat' (first|(refine ai (hF _ _ _ (by decide)) ?_;try simp only[I,B,D,RX,↓KW,seval])|(((first|refine bJ ?_ ?_|refine aq ?_ ?_|refine cX ?_ ?_)<;>intro h)<;>try simp only[I,B,D,RX,↓KW,seval,h]))
 all_goals simp_all [jL,fy.cells,cv]
def od (t:Tb) (l:Option (List Int)) (i n:Int):Rl :=
  let p:=bV l (cv (i + 4)) (cv (n + 1))
  let iq:=l5 t (bV l i n) (bV l (cv (i + 1)) n)
  let stay:=cv (1 + bV l (cv (i + 11)) 15)
  let delay:=bV l (cv (i + 8)) 4
  { bars:=nM .i64 (nZ .i64 (bV l (cv (i + 7)) 256) (cv (cv (1 * 2 ^ min (IntKind.u64.wrap n).toNat 64) - 1))) iq
    clear:=if p < n then l5 t p (bV l (cv (i + 5)) n) else 0
    iq:=iq
    exit:=l5 t (bV l (cv (i + 2)) n) (bV l (cv (i + 3)) n)
    delay:=delay
    green:=cv (1 + bV l (cv (i + 9)) 6)
    ke:=bV l (cv (i + 10)) 6
    hold:=if p < n then cv (1 + bV l (cv (i + 6)) 10) else 0
    stay:=stay
    most:=if bV l (cv (i + 12)) 3 == 1 then cv (stay + bV l (cv (i + 13)) 30) else 0
    limit:=cv (cv (delay + 1) + [10000,400,20].getD (bV l (cv (i + 14)) 3).toNat 0) }
def JC.Spec(C:bw) (f:Nat):Prop:=∀(t:Tb) (l:Option (List Int)) (i n:Int),t.Ok->0<n->n<=8->C.c f [.agg t.cells,aD aA l,I i,I n] (.agg (od t l i n).cells) none
theorem JC.ok{fF fW:Nat} (hc:de P f=some (tu fF fW)) (hF:from.Spec (Pure P) fF) (hW:with.Spec (Pure P) fW):JC.Spec (Pure P) f:=by
 intro t l i n ht hn hn8
 have hl:=Tb.len ht
 have hp:=Tb.whole ht
 have hn1:IntKind.i64.wrap (n+1)=n+1:=bC (by omega) (by omega)
 refine aB hm hc (by show 4<=119;decide) (ax (keep:=[]) (i:=0) ?_)
 try simp only[I,B,D,RX,↓KW,seval,tu,Z.H,hp,hl,dG]
 refine ai (hF _ _ _ hn) ?_;try simp only[I,B,D,RX,↓KW,seval,hp]
 refine ai (hF _ _ _ hn) ?_;try simp only[I,B,D,RX,↓KW,seval,hp]
 refine ai (hW t _ _ ht) ?_;try simp only[I,B,D,RX,↓KW,seval,hp]
 refine ai (hF _ _ _ hn) ?_;try simp only[I,B,D,RX,↓KW,seval,hp]
 refine ai (hF _ _ _ hn) ?_;try simp only[I,B,D,RX,↓KW,seval,hp]
 refine ai (hW t _ _ ht) ?_;try simp only[I,B,D,RX,↓KW,seval,hp]
 refine ai (hF _ _ _ (by omega)) ?_
 try simp only[I,B,D,RX,↓KW,seval,hp]
 have h14:=aS l (cv (i+14)) (n:=3) (by decide) (by decide)
 have e14:[AV.int .i64 10000,AV.int .i64 400,AV.int .i64 20][(bV l (cv (i+14)) 3).toNat]? =some (.int .i64 ([10000,400,20].getD (bV l (cv (i+14)) 3).toNat 0)):=by
  generalize bV l (cv (i+14)) 3=j at*
  have:j=0\/j=1\/j=2:=by omega
  rcases this with rfl|rfl|rfl<;>rfl
 have hu:0<=IntKind.u64.wrap n:=by rw[IntKind.wrap];simp[IntKind.signed];omega
 simp only[cv]at e14 h14
 refine aq (fun h=>?_) (fun h=>?_)<;>try simp only[I,B,D,RX,↓KW,seval,hp,h]
 ·repeat' (first|((first|refine ai (hF _ _ _ hn) ?_|refine ai (hF _ _ _ (by decide)) ?_|refine ai (hW t _ _ ht) ?_);try simp only[I,B,D,RX,↓KW,seval,hp])|(((first|refine bJ ?_ ?_|refine aq ?_ ?_|refine cX ?_ ?_)<;>intro h)<;>try simp only[I,B,D,RX,↓KW,seval,hp,h]))
  refine⟨hu,?_⟩
  repeat' (first|((first|refine ai (hF _ _ _ hn) ?_|refine ai (hF _ _ _ (by decide)) ?_|refine ai (hW t _ _ ht) ?_);try simp only[I,B,D,RX,↓KW,seval,hp])|(((first|refine bJ ?_ ?_|refine aq ?_ ?_|refine cX ?_ ?_)<;>intro h)<;>try simp only[I,B,D,RX,↓KW,seval,hp,h]))
  all_goals refine⟨by omega,?_⟩
  all_goals try simp only[I,B,D,RX,↓KW,seval,e14,hp]
  all_goals simp_all [od,Rl.cells,cv,IntKind.bits]
 ·repeat' (first|((first|refine ai (hF _ _ _ hn) ?_|refine ai (hF _ _ _ (by decide)) ?_|refine ai (hW t _ _ ht) ?_);try simp only[I,B,D,RX,↓KW,seval,hp])|(((first|refine bJ ?_ ?_|refine aq ?_ ?_|refine cX ?_ ?_)<;>intro h)<;>try simp only[I,B,D,RX,↓KW,seval,hp,h]))
  refine⟨hu,?_⟩
  repeat' (first|((first|refine ai (hF _ _ _ hn) ?_|refine ai (hF _ _ _ (by decide)) ?_|refine ai (hW t _ _ ht) ?_);try simp only[I,B,D,RX,↓KW,seval,hp])|(((first|refine bJ ?_ ?_|refine aq ?_ ?_|refine cX ?_ ?_)<;>intro h)<;>try simp only[I,B,D,RX,↓KW,seval,hp,h]))
  all_goals refine⟨by omega,?_⟩
  all_goals try simp only[I,B,D,RX,↓KW,seval,e14,hp]
  all_goals simp_all [od,Rl.cells,cv,IntKind.bits]
  all_goals exact⟨fun _=>by omega,fun _=>by omega⟩
end
structure Tb.Ln (t:Tb):Prop where
 phases:t.phases.length=8
 conflict:t.conflict.length=8
 bp:t.bp.length=8
theorem Tb.Ok.ln{t:Tb} (h:t.Ok):t.Ln:=⟨h.phases,h.conflict,h.bp⟩
section
variable{t:Tb} (h:t.Ln)
include h
theorem Tb.Ln.len:t.cells.length=131:=by
 simp[Tb.cells,aY Ph.len,h.phases,h.conflict,h.bp]
theorem Tb.Ln.whole:bF t.cells 0 (some 131)=some (.agg t.cells):=by
 have hl:=h.len
 rw[iD _ _ _ (by omega),List.drop_zero,<-hl,List.take_length]
theorem Tb.Ln.xC:t.cells[113]? =some (aD fy.cells t.az):=by
 simp[Tb.cells,List.getElem?_append,aY Ph.len,h.phases,h.conflict,h.bp,List.getElem?_cons]
theorem Tb.Ln.vz:t.cells[114]? =some (aD Rl.cells t.aR):=by
 simp[Tb.cells,List.getElem?_append,aY Ph.len,h.phases,h.conflict,h.bp,List.getElem?_cons]
theorem Tb.Ln.xD:t.cells[115]? =some (aD Bs.cells t.aX):=by
 simp[Tb.cells,List.getElem?_append,aY Ph.len,h.phases,h.conflict,h.bp,List.getElem?_cons]
theorem Tb.Ln.Vn:t.cells[129]? =some (I t.dw):=by
 simp[Tb.cells,List.getElem?_append,aY Ph.len,h.phases,h.conflict,h.bp,List.getElem?_cons]
theorem Tb.Ln.qY{i:Nat} {c:Int} (hc:t.conflict[i]? =some c):t.cells[105+i]? =some (I c):=by
 have hi:i<8:=by have:=(List.getElem?_eq_some_iff.1 hc).1;rw[h.conflict]at this;exact this
 have e:(t.phases.flatMap Ph.cells).length=104:=by rw[aY Ph.len,h.phases]
 unfold Tb.cells
 rw[List.getElem?_append_right (by omega),e,show 105+i-104=i+1 by omega,List.getElem?_cons_succ,List.getElem?_append_left (by simp[h.conflict,hi]),List.getElem?_map,hc];rfl
def Tb.rest(t:Tb):List AV:=aD Gr.cells t.groups::(t.conflict.map I++(aD fy.cells t.az::aD Rl.cells t.aR::aD Bs.cells t.aX::
  I t.extend::I t.cU::I t.start::I t.revert::I t.least::(t.bp.map I++[I t.dw,I t.share])))
omit h in
theorem bW{pre post ps:List AV} {off:Nat} (hle:pre.length<=off):setCells (pre++post) off ps=pre++setCells post (off-pre.length) ps:=by
 simp only[setCells,List.take_append,List.drop_append,List.append_assoc]
 rw[List.take_of_length_le hle,List.drop_of_length_le (by omega),show off+ps.length-pre.length=off-pre.length+ps.length by omega]
 rfl
omit h in
theorem DA{pre post ps:List AV} {off:Nat} (hle:off+ps.length<=pre.length):setCells (pre++post) off ps=setCells pre off ps++post:=by
 simp only[setCells]
 rw[List.take_append_of_le_length (by omega),List.drop_append_of_le_length hle]
 simp
omit h in
theorem FR{l:List Int} {i:Nat} {v:Int} (hi:i<l.length):setCells (l.map I) i [I v]=(l.set i v).map I:=by
 simp only[setCells,List.length_cons,List.length_nil];rw[List.set_eq_take_append_cons_drop,if_pos hi];simp[List.map_take,List.map_drop]
omit h in
theorem fK(c:AV) (cs ps:List AV) (k:Nat):setCells (c::cs) (k+1) ps=c::setCells cs k ps:=by
 simp only[setCells,List.take_succ_cons,List.cons_append,show k+1+ps.length=(k+ps.length)+1 by omega,List.drop_succ_cons]
theorem Tb.Ln.wE{i:Nat} (hi:i<8) (q:Ph):setCells t.cells (i*13) q.cells=({t with phases:=t.phases.set i q}:Tb).cells:=by
 obtain⟨p,hp⟩:∃p,t.phases[i]? =some p:=⟨_,List.getElem?_eq_getElem (by rw[h.phases];exact hi)⟩
 exact Tb.GQ hp
theorem Tb.Ln.mF{i:Nat} (hi:i<8) (v:Int):setCells t.cells (105+i) [I v]=({t with conflict:=t.conflict.set i v}:Tb).cells:=by
 have e:(t.phases.flatMap Ph.cells).length=104:=by rw[aY Ph.len,h.phases]
 unfold Tb.cells
 rw[bW (by omega),e,show 105+i-104=i+1 by omega,fK,DA (by simp[h.conflict];omega),FR (by rw[h.conflict];exact hi)]
theorem Tb.Ln.sD{i:Nat} (hi:i<8) (v:Int):setCells t.cells (121+i) [I v]=({t with bp:=t.bp.set i v}:Tb).cells:=by
 have e:(t.phases.flatMap Ph.cells).length=104:=by rw[aY Ph.len,h.phases]
 unfold Tb.cells
 rw[bW (by omega),e,show 121+i-104=(i+16)+1 by omega,fK,bW (by simp[h.conflict]),show i+16-(t.conflict.map I).length=i+8 by simp[h.conflict]]
 simp only[fK]
 rw[DA (by simp[h.bp];omega),FR (by rw[h.bp];exact hi)]
theorem Tb.Ln.vA(d:Option (List fy)):setCells t.cells 113 [aD fy.cells d]=({t with az:=d}:Tb).cells:=by
 have e:(t.phases.flatMap Ph.cells).length=104:=by rw[aY Ph.len,h.phases]
 have e2:(t.conflict.map I).length=8:=by simp[h.conflict]
 unfold Tb.cells
 rw[bW (by omega),e,show 113-104=8+1 by omega,fK,bW (by omega),e2]
 rfl
theorem Tb.Ln.wF(d:Option (List Rl)):setCells t.cells 114 [aD Rl.cells d]=({t with aR:=d}:Tb).cells:=by
 have e:(t.phases.flatMap Ph.cells).length=104:=by rw[aY Ph.len,h.phases]
 have e2:(t.conflict.map I).length=8:=by simp[h.conflict]
 unfold Tb.cells
 rw[bW (by omega),e,show 114-104=9+1 by omega,fK,bW (by omega),e2]
 rfl
theorem Tb.Ln.wG(d:Option (List Bs)):setCells t.cells 115 [aD Bs.cells d]=({t with aX:=d}:Tb).cells:=by
 have e:(t.phases.flatMap Ph.cells).length=104:=by rw[aY Ph.len,h.phases]
 have e2:(t.conflict.map I).length=8:=by simp[h.conflict]
 unfold Tb.cells
 rw[bW (by omega),e,show 115-104=10+1 by omega,fK,bW (by omega),e2]
 rfl
theorem Tb.Ln.fQ(v:Int):setCells t.cells 116 [I v]=({t with extend:=v}:Tb).cells/\setCells t.cells 117 [I v]=({t with cU:=v}:Tb).cells/\setCells t.cells 118 [I v]=({t with start:=v}:Tb).cells/\
  setCells t.cells 119 [I v]=({t with revert:=v}:Tb).cells/\setCells t.cells 120 [I v]=({t with least:=v}:Tb).cells:=by
 have e:(t.phases.flatMap Ph.cells).length=104:=by rw[aY Ph.len,h.phases]
 have e2:(t.conflict.map I).length=8:=by simp[h.conflict]
 unfold Tb.cells;refine⟨?_,?_,?_,?_,?_⟩
 ·rw[bW (by omega),e,show 116-104=11+1 by omega,fK,bW (by omega),e2];rfl
 ·rw[bW (by omega),e,show 117-104=12+1 by omega,fK,bW (by omega),e2];rfl
 ·rw[bW (by omega),e,show 118-104=13+1 by omega,fK,bW (by omega),e2];rfl
 ·rw[bW (by omega),e,show 119-104=14+1 by omega,fK,bW (by omega),e2];rfl
 ·rw[bW (by omega),e,show 120-104=15+1 by omega,fK,bW (by omega),e2];rfl
theorem Tb.Ln.oP(v:Int):setCells t.cells 129 [I v]=({t with dw:=v}:Tb).cells/\setCells t.cells 130 [I v]=({t with share:=v}:Tb).cells:=by
 have e:(t.phases.flatMap Ph.cells).length=104:=by rw[aY Ph.len,h.phases]
 have e2:(t.conflict.map I).length=8:=by simp[h.conflict]
 have e3:(t.bp.map I).length=8:=by simp[h.bp]
 unfold Tb.cells;refine⟨?_,?_⟩
 ·rw[bW (by omega),e,show 129-104=24+1 by omega,fK,bW (by omega),e2]
  simp only[Nat.reduceSub,fK]
  rw[bW (by omega),e3];rfl
 ·rw[bW (by omega),e,show 130-104=25+1 by omega,fK,bW (by omega),e2]
  simp only[Nat.reduceSub,fK]
  rw[bW (by omega),e3];rfl
end
end Go.Eng
