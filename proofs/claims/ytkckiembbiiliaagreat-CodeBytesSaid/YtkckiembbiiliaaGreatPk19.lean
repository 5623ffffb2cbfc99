/- The engine and the library,part 19 of 21: what the proofs of this seat need of them. -/
import Derived.Test.YtkckiembbiiliaaGreatPk18
set_option linter.unnecessarySimpa false
set_option linter.unusedSimpArgs false
set_option linter.unusedVariables false
set_option linter.defProp false
set_option maxRecDepth 10000
set_option maxHeartbeats 4000000
namespace Go.Eng
open Go
def bg(k:Nat) (l:List Int):List Int:=l.flatMap fun n=>gn n k
def gH(l:List Nat):List Int:=l.flatMap fun(x:Nat)=>gn (IntKind.i64.wrap (x:Int)) 8
def cJ(l:List Bool):List Int:=l.map qj
def jd(b:Option (List Int)) (x:List Int):Option (List Int):=if x=[]then b else some (b.getD []++x)
def Wr.Spec(α:Type) (row:α->List AV) (pre:List (Option AV)) (by':List α->List Int) (C:bw) (f:Nat):Prop:=∀(b:Option (List Int)) (o:Option (List α)) (l:List α),o.getD []=l->l.length<=1000000->(b.getD []).length+(by' l).length<=1000000->C.p f [[aD dD b]] (none::pre++[some (aD row o)]) (.qf []) none [[aD dD (jd b (by' l))]]
def xH.Spec(C:bw) (f:Nat):Prop:=∀k:Nat,1<=k->k<=8->Wr.Spec Int aA [some (I k)] (bg k) C f
def Bh.Spec(C:bw) (f:Nat):Prop:=Wr.Spec Bool (fun b=>[B b]) [] (fun l=>bg 1 (cJ l)) C f
def Bi.Spec(C:bw) (f:Nat):Prop:=Wr.Spec Nat (fun x=>[Fl x]) [] gH C f
theorem DR(b:Option (List Int)) (x y:List Int):jd (jd b x) y=jd b (x++y):=by
 unfold jd
 by_cases hx:x=[]
 ·subst hx;simp
 ·by_cases hy:y=[]
  ·subst hy;simp[hx]
  ·simp[hx,hy]
theorem mJ(b:Option (List Int)) (x:List Int):(jd b x).getD []=b.getD []++x:=by
 unfold jd
 by_cases hx:x=[]
 ·subst hx;simp
 ·simp[hx]
theorem sO(l:List Int) {k:Nat} (h:k<=8) (n:Int):sX l k n=l++gn n k:=by
 have:(jb (k:Int) 0 8).toNat=k:=by unfold jb;split<;>(try split)<;>omega
 unfold sX;rw[this]
theorem Ki(k:Nat) (l m:List Int):bg k (l++m)=bg k l++bg k m:=by simp[bg]
theorem aP(k:Nat) (l:List Int):(bg k l).length=k*l.length:=by
 induction l with
 |nil=>simp[bg]
 |cons x l ih=>
  have:bg k (x::l)=gn x k++bg k l:=by simp[bg]
  rw[this,List.length_append,dA,ih,List.length_cons,Nat.mul_succ];omega
theorem zV{b:Option (List Int)} {x:List Int} {k:Nat} (h1:1<=k) (h:k<=8) (n:Int):AV.sl ((sX ((jd b x).getD []) k n).map dD)=aD dD (jd b (x++gn n k)):=by
 have hn:gn n k≠[]:=by intro e;have:=congrArg List.length e;rw[dA]at this;simp at this;omega
 rw[sO _ h,mJ];unfold jd
 rw[if_neg (by simp[hn])]
 simp[aD]
theorem wP{k:Nat} {l:List Int} {i:Nat} {x:Int} (h:l[i]? =some x):bg k (l.take (i+1))=bg k (l.take i)++gn x k:=by
 rw[List.take_add_one,h];simp[bg]
theorem Cq(k:Nat) (l:List Int) (i:Nat):(bg k (l.take i)).length<=(bg k l).length:=by
 rw[aP,aP,List.length_take];exact Nat.mul_le_mul_left k (Nat.min_le_right _ _)
theorem Hs{l:List Nat} {i:Nat} {x:Nat} (h:l[i]? =some x):gH (l.take (i+1))=gH (l.take i)++gn (IntKind.i64.wrap (x:Int)) 8:=by
 rw[List.take_add_one,h];simp[gH]
theorem bK(l:List Nat):(gH l).length=8*l.length:=by
 induction l with
 |nil=>simp[gH]
 |cons x l ih=>
  have:gH (x::l)=gn (IntKind.i64.wrap (x:Int)) 8++gH l:=by simp[gH]
  rw[this,List.length_append,dA,ih,List.length_cons];omega
def Bj.Spec(C:bw) (f:Nat):Prop:=∀(b:Option (List Int)) (l:Option (List Int)),(b.getD []).length+(l.getD []).length<=900000->C.p f [[aD dD b]] [none,some (aD aA l)] (.qf []) none [[aD dD (jd b (lI.e (l.getD [])))]]
theorem Cr(l:List Int):lI.e l=bg 1 [(l.length:Int)]++bg 1 l:=by
 unfold lI;rw[zP];simp[bg,cF,oX]
section
variable{P:Program} (hm:P.follows .mixedOrders=true) {f:Nat}
include hm
theorem xH.ok{fP:Nat} (hc:de P f=some (mc fP)) (hP:G9.Spec (Pure P) fP):xH.Spec (Pure P) f:=by
 intro k k1 k8 b o l ho hl hb
 refine bO hm hc (by show 3<=25;decide) rfl (by simp) (ax (keep:=[]) (i:=0) ?_)
 try simp only[I,B,D,RX,↓KW,seval,mc,Z.H,List.cons_append,List.nil_append,ho]
 refine aH (fun i:Nat=>(⟨[(10,.dat (I i) none),(9,.dat (I l.length) none),(8,.dat (aD aA o) none),(2,.dat (aD aA o) none),(1,.dat (I k) none),(0,.ptr 0 0)],[(0,⟨[aD dD (jd b (bg k (l.take i)))],[]⟩)],[],400⟩:S)) (fun i=>l.length-i) (fun i=>i<=l.length) ?_ 0 (by omega) ?_
 ·intro i hi A back
  have hw:=aF (k:=i) (by omega)
  try simp only[I,B,D,RX,↓KW,seval]
  refine aq (fun h=>?_) (fun h=>?_)<;>try simp only[I,B,D,RX,↓KW,seval,h]
  ·have h3:i<l.length:=by have:=of_decide_eq_true h;omega
   obtain⟨x,hx⟩:∃x,l[i]? =some x:=⟨l[i],by simp[h3]⟩
   have hle:=Cq k l i
   have cP:=hP (jd b (bg k (l.take i))) k x (by rw[mJ,List.length_append];omega)
   rw[zV k1 k8,<-wP hx]at cP
   have hb2:(0:Int)<=(i:Int)/\(i:Int)<(l.length:Int):=by omega
   have u1:∀v w:AV,setCells [v] 0 [w]=[w]:=fun _ _=>rfl
   try simp only[I,B,D,RX,↓KW,seval,ho,hx,hb2,aA]
   refine ai cP ?_;try simp only[I,B,D,RX,↓KW,seval,u1,aO,cm]
   refine back (i+1) _ (by omega) (by omega) (ah (by decide) ?_ ?_ ?_ ?_)<;>simp[LX,I,B,D,hw]
  ·have h3:i=l.length:=by have:=of_decide_eq_false h;omega
   subst h3;try simp only[I,B,D,RX,↓KW,seval,List.take_length]
 ·have z9:jd b (bg k [])=b:=by simp[bg,jd]
  refine ah (by decide) ?_ ?_ ?_ ?_<;>simp[LX,I,B,D,z9]
theorem Bi.ok{fP:Nat} (hc:de P f=some (kE fP)) (hP:Du.Spec (Pure P) fP):Bi.Spec (Pure P) f:=by
 intro b o l ho hl hb
 refine bO hm hc (by show 2<=22;decide) rfl (by simp) (ax (keep:=[]) (i:=0) ?_)
 try simp only[I,B,D,RX,↓KW,seval,kE,Z.H,List.cons_append,List.nil_append,ho]
 refine aH (fun i:Nat=>(⟨[(8,.dat (I i) none),(7,.dat (I l.length) none),(6,.dat (aD (fun x=>[Fl x]) o) none),(1,.dat (aD (fun x=>[Fl x]) o) none),(0,.ptr 0 0)],[(0,⟨[aD dD (jd b (gH (l.take i)))],[]⟩)],[],400⟩:S)) (fun i=>l.length-i) (fun i=>i<=l.length) ?_ 0 (by omega) ?_
 ·intro i hi A back
  have hw:=aF (k:=i) (by omega)
  try simp only[I,B,D,RX,↓KW,seval]
  refine aq (fun h=>?_) (fun h=>?_)<;>try simp only[I,B,D,RX,↓KW,seval,h]
  ·have h3:i<l.length:=by have:=of_decide_eq_true h;omega
   obtain⟨x,hx⟩:∃x,l[i]? =some x:=⟨l[i],by simp[h3]⟩
   have hle:(gH (l.take i)).length<=(gH l).length:=by rw[bK,bK,List.length_take];omega
   have cP:=hP (jd b (gH (l.take i))) x (by rw[mJ,List.length_append];omega)
   have ps:=zV (b:=b) (x:=gH (l.take i)) (k:=8) (by omega) (by omega) (IntKind.i64.wrap (x:Int))
   rw[show((8:Nat):Int)=8 from rfl]at ps
   rw[ps,<-Hs hx]at cP
   have hb2:(0:Int)<=(i:Int)/\(i:Int)<(l.length:Int):=by omega
   have u1:∀v w:AV,setCells [v] 0 [w]=[w]:=fun _ _=>rfl
   try simp only[I,B,D,RX,↓KW,seval,ho,hx,hb2,Fl]
   refine ai cP ?_;try simp only[I,B,D,RX,↓KW,seval,u1,aO,cm]
   refine back (i+1) _ (by omega) (by omega) (ah (by decide) ?_ ?_ ?_ ?_)<;>simp[LX,I,B,D,hw]
  ·have h3:i=l.length:=by have:=of_decide_eq_false h;omega
   subst h3;try simp only[I,B,D,RX,↓KW,seval,List.take_length]
 ·have z9:jd b (gH [])=b:=by simp[gH,jd]
  refine ah (by decide) ?_ ?_ ?_ ?_<;>simp[LX,I,B,D,z9]
theorem Bh.ok{fP e:Nat} (hc:de P f=some (jP e fP)) (hP:xH.Spec (Pure P) fP):Bh.Spec (Pure P) f:=by
 intro b o l ho hl hb
 refine bO hm hc (by show 2<=19;decide) rfl (by simp) (ax (keep:=[]) (i:=0) ?_)
 try simp only[I,B,D,RX,↓KW,seval,jP,Z.H,List.cons_append,List.nil_append,ho]
 refine aH (fun i:Nat=>(⟨[(9,.dat (I i) none),(8,.dat (I l.length) none),(7,.dat (aD (fun b=>[B b]) o) none),(1,.dat (aD (fun b=>[B b]) o) none),(0,.ptr 0 0)],[(0,⟨[aD dD (jd b (bg 1 (cJ (l.take i))))],[]⟩)],[],400⟩:S)) (fun i=>l.length-i) (fun i=>i<=l.length) ?_ 0 (by omega) ?_
 ·intro i hi A back
  have hw:=aF (k:=i) (by omega)
  try simp only[I,B,D,RX,↓KW,seval]
  refine aq (fun h=>?_) (fun h=>?_)<;>try simp only[I,B,D,RX,↓KW,seval,h]
  ·have h3:i<l.length:=by have:=of_decide_eq_true h;omega
   obtain⟨x,hx⟩:∃x,l[i]? =some x:=⟨l[i],by simp[h3]⟩
   have hx2:cJ (l.take (i+1))=cJ (l.take i)++[qj x]:=by rw[List.take_add_one,hx];simp[cJ]
   have hle:(bg 1 (cJ (l.take i))).length+1<=(bg 1 (cJ l)).length:=by rw[aP,aP];simp only[cJ,List.length_map,List.length_take];omega
   have cP:=hP 1 (by omega) (by omega) (jd b (bg 1 (cJ (l.take i)))) (some [qj x]) [qj x] rfl (by simp) (by rw[mJ,List.length_append,aP 1 [qj x]];simp only[List.length_singleton];simp only at hb;omega)
   rw[DR,<-Ki,<-hx2]at cP
   have hb2:(0:Int)<=(i:Int)/\(i:Int)<(l.length:Int):=by omega
   try simp only[I,B,D,RX,↓KW,seval,ho,hx,hb2]
   cases x with
   |true=>
    try simp only[I,B,D,RX,↓KW,seval]
    refine⟨rfl,ay cP ?_⟩;try simp only[I,B,D,RX,↓KW,seval]
    refine back (i+1) _ (by omega) (by omega) (ah (by decide) ?_ ?_ ?_ ?_)<;>simp[LX,I,B,D,hw]
   |false=>
    try simp only[I,B,D,RX,↓KW,seval]
    refine⟨rfl,ay cP ?_⟩;try simp only[I,B,D,RX,↓KW,seval]
    refine back (i+1) _ (by omega) (by omega) (ah (by decide) ?_ ?_ ?_ ?_)<;>simp[LX,I,B,D,hw]
  ·have h3:i=l.length:=by have:=of_decide_eq_false h;omega
   subst h3;try simp only[I,B,D,RX,↓KW,seval,List.take_length]
 ·have z9:jd b (bg 1 (cJ []))=b:=by simp[bg,jd,cJ]
  refine ah (by decide) ?_ ?_ ?_ ?_<;>simp[LX,I,B,D,z9]
theorem Bj.ok{fP e:Nat} (hc:de P f=some (jQ e fP)) (hP:xH.Spec (Pure P) fP):Bj.Spec (Pure P) f:=by
 intro b l hb
 refine bO hm hc (by show 2<=12;decide) rfl (by simp) (ax (keep:=[]) (i:=0) ?_)
 try simp only[I,B,D,RX,↓KW,seval,jQ,Z.H]
 have c1:=hP 1 (by omega) (by omega) b (some [((l.getD []).length:Int)]) [((l.getD []).length:Int)] rfl (by simp) (by rw[aP];simp;omega)
 have c2:=hP 1 (by omega) (by omega) (jd b (bg 1 [((l.getD []).length:Int)])) l _ rfl (by omega) (by rw[mJ,List.length_append,aP,aP];simp;omega)
 rw[DR]at c2;refine⟨rfl,ay c1 ?_⟩;try simp only[I,B,D,RX,↓KW,seval]
 refine⟨rfl,ay c2 ?_⟩;try simp only[I,B,D,RX,↓KW,seval,Cr]
end
structure Rd where
 lock:List Int
 was:Int
 DS:Int
 deriving Inhabited,DecidableEq
def Rd.cells(s:Rd):List AV:=s.lock.map I++[I s.was,I s.DS]
structure Rn where
 rB:Int
 time:Int
 fst:Int
 zJ:Int
 left:Int
 VJ:Int
 extra:Int
 done:Bool
 VK:Bool
 limit:Int
 up:Int
 down:Int
 deriving Inhabited,DecidableEq
def Rn.cells(r:Rn):List AV:=[I r.rB,I r.time,I r.fst,I r.zJ,I r.left,I r.VJ,I r.extra,B r.done,B r.VK,I r.limit,I r.up,I r.down]
theorem Rn.len(r:Rn):r.cells.length=12:=rfl
def Kj(l:List Rn):List AV:=l.flatMap Rn.cells
theorem Ht{l:List Rn} (h:l.length=8):(Kj l).length=96:=by rw[Kj,aY Rn.len,h]
def E2(s:Rd) (k:Nat):Int:=s.lock.getD k 0
def VL(t:Tb):Nat:=min (t.aX.getD []).length 4
theorem Rd.len{s:Rd} (h:s.lock.length=4):s.cells.length=6:=by simp[Rd.cells,h]
theorem Rd.whole{s:Rd} (h:s.lock.length=4):bF s.cells 0 (some 6)=some (.agg s.cells):=by
 have:=Rd.len h
 simp[bF,this];rw[<-this,List.take_length]
def Sh.VM(s:Sh) (k:Nat) (x:Int):Sh:={s with time:=s.time.set k x}
section
variable{s:Sh} (h:s.Ok) {k:Nat} (hk:k<8) (x:Int)
include h
theorem Sh.Ah:(s.VM k x).Ok:=⟨h.rB,by simp[Sh.VM,h.time],h.ke,h.zJ⟩
include hk
end
structure Wl where
 group:Int
 a0:Int
 a1:Int
 VN:Bool
 deriving Inhabited,DecidableEq
def Wl.cells(r:Wl):List AV:=[I r.group,I r.a0,I r.a1,B r.VN]
structure Pr where
 VO:Int
 which:Int
 time:Int
 held:List Int
 DS:Int
 deriving Inhabited,DecidableEq
def Pr.cells(p:Pr):List AV:=I p.VO::I p.which::I p.time::(p.held.map I++[I p.DS])
structure Ch where
 on:Bool
 dZ:Int
 Yh:Int
 Xu:Int
 held:Int
 tail:Int
 out:Bool
 deriving Inhabited,DecidableEq
def Ch.cells(c:Ch):List AV:=[B c.on,I c.dZ,I c.Yh,I c.Xu,I c.held,I c.tail,B c.out]
structure NA where
 runs:List Rn
 rings:Wl
 VP:Rd
 pre:Pr
 calls:Cs
 VQ:Option (List Ch)
 deriving Inhabited,DecidableEq
def NA.cells(s:NA):List AV:=Kj s.runs++(s.rings.cells++(s.VP.cells++(s.pre.cells++(s.calls.cells++[aD Ch.cells s.VQ]))))
structure NA.Ok (s:NA):Prop where
 runs:s.runs.length=8
 lock:s.VP.lock.length=4
 held:s.pre.held.length=4
section
variable{s:NA} (h:s.Ok)
include h
theorem NA.len:s.cells.length=117:=by
 simp[NA.cells,Ht h.runs,Wl.cells,Rd.cells,Pr.cells,Cs.cells,h.lock,h.held]
theorem NA.whole:bF s.cells 0 (some 117)=some (.agg s.cells):=by
 have:=NA.len h
 simp[bF,this];rw[<-this,List.take_length]
end
theorem Kk{s:Int} {p:Nat} (hp:p<8) (i:Nat):tb (je s p) i=(decide (i<8)&&(tb s i||decide (i=p))):=by
 rw[je,Od]
 by_cases h:i<8
 ·have:((i:Int)∈jw s++[(p:Int)])↔(tb s i=true\/i=p):=by
   simp only[jw,kg,List.mem_append,List.mem_filter,List.mem_map,List.mem_range,List.mem_singleton];rw[Ns h];constructor
   ·rintro(⟨_,h2⟩|h2)
    ·exact .inl h2
    ·exact .inr (by omega)
   ·rintro(h2|h2)
    ·exact .inl ⟨⟨i,h,rfl⟩,h2⟩
    ·exact .inr (by omega)
  simp[h,this]
 ·simp[h]
structure Yi (t:Tb) (s:Rd):Prop where
 len:s.lock.length=4
 DS:s.DS=0
 lo:∀k,0<=E2 s k/\E2 s k<=30
 off:∀k,VL t<=k->E2 s k=0
 was:∀k,tb s.was k=true->k<VL t
theorem zW:∀(l l':List Int) (n:Nat) (ks:List CK) (as bs:List AV),l.length=n->l'.length=n->bt (List.replicate n .i++ks) (l.map I++as) (l'.map I++bs)=(bt ks as bs).map fun r=>decide (l=l')&&r
 |[],[],n,ks,as,bs,h,h'=>by subst h;cases h:bt ks as bs<;>simp[h]
 |[],y::l',n,ks,as,bs,h,h'=>by simp at h h';omega
 |x::l,[],n,ks,as,bs,h,h'=>by simp at h h';omega
 |x::l,y::l',0,ks,as,bs,h,h'=>by simp at h
 |x::l,y::l',n+1,ks,as,bs,h,h'=>by
  have ih:=zW l l' n ks as bs (by simpa using h) (by simpa using h')
  simp only[List.replicate_succ,List.cons_append,List.map_cons,bt,lO,if_true,ih]
  cases bt ks as bs with
  |none=>rfl
  |some r=>
   simp only[Option.map_some,Option.some.injEq,List.cons.injEq]
   by_cases h1:x=y<;>by_cases h2:l=l'<;>simp[h1,h2]
structure Mn where
 last:List Int
 ticks:List Int
 deriving Inhabited,DecidableEq
def Mn.cells(m:Mn):List AV:=m.last.map I++m.ticks.map I
structure Mn.Ok (m:Mn):Prop where
 last:m.last.length=8
 ticks:m.ticks.length=8
theorem Mn.len{m:Mn} (h:m.Ok):m.cells.length=16:=by simp[Mn.cells,h.last,h.ticks]
theorem Mn.whole{m:Mn} (h:m.Ok):bF m.cells 0 (some 16)=some (.agg m.cells):=by
 have:=Mn.len h
 simp[bF,this];rw[<-this,List.take_length]
structure Yj (t:Tb) (m:Mn) (l:List Int):Prop where
 t:t.Ln
 m:m.Ok
 l:l.length=8
def Tb.nm(t:Tb):Tb:={t with groups:=some ((t.groups.getD []).map fun g=>⟨some (g.a.getD []),some (g.b.getD [])⟩),az:=some (t.az.getD []),aR:=some (t.aR.getD []),aX:=some (t.aX.getD [])}
def Kl(x y:Rl):Bool:=decide (x=y)
def Km(x y:Bs):Bool:=decide (x=y)
theorem Ko(x y:Rl):bt [.i,.i,.i,.i,.i,.i,.i,.i,.i,.i,.i] x.cells y.cells=some (Kl x y):=by
 cases x;cases y;simp only[Rl.cells,bt,lO,I,if_true,Kl,Rl.mk.injEq,Option.some.injEq,Bool.and_true];rw[Bool.eq_iff_iff];simp
theorem Kq(x y:Bs):bt [.i,.i] x.cells y.cells=some (Km x y):=by
 cases x;cases y;simp only[Bs.cells,bt,lO,I,if_true,Km,Bs.mk.injEq,Option.some.injEq,Bool.and_true];rw[Bool.eq_iff_iff];simp
theorem F6:∀{ks:List CK} {as bs:List AV} {b:Bool} (_:bt ks as bs=some b) (ks':List CK) (as' bs':List AV),bt (ks++ks') (as++as') (bs++bs')=(bt ks' as' bs').map (b&& ·)
 |[],[],[],b,h,ks',as',bs'=>by
  cases h
  show bt ks' as' bs'=_
  cases bt ks' as' bs'<;>simp
 |k::ks,x::as,y::bs,b,h,ks',as',bs'=>by
  simp only[bt,List.cons_append]at h⊢
  cases hc:lO k x y with
  |none=>rw[hc]at h;cases h
  |some c=>
   rw[hc]at h
   cases hd:bt ks as bs with
   |none=>rw[hd]at h;cases h
   |some d=>
    rw[hd]at h;cases h;rw[F6 hd ks' as' bs']
    cases bt ks' as' bs'<;>simp[Bool.and_assoc]
 |[],[],_::_,_,h,_,_,_=>by simp[bt]at h
 |[],_::_,_,_,h,_,_,_=>by simp[bt]at h
 |_::_,[],_,_,h,_,_,_=>by simp[bt]at h
 |_::_,_::_,[],_,h,_,_,_=>by simp[bt]at h
def Xv:List CK:=[.b,.i,.i,.i,.i,.i,.i,.i,.i,.i,.i,.b,.b]
theorem Kr(x y:Ph):bt Xv x.cells y.cells=some (decide (x=y)):=by
 cases x;cases y;simp only[Xv,Ph.cells,bt,lO,I,B,if_true,Ph.mk.injEq,Option.some.injEq,Bool.and_true];rw[Bool.eq_iff_iff];simp
def Rz:Nat->List CK
 |0=>[]
 |n+1=>Xv++Rz n
theorem Bk:∀(n:Nat) (l m:List Ph),l.length=n->m.length=n->bt (Rz n) (l.flatMap Ph.cells) (m.flatMap Ph.cells)=some (decide (l=m))
 |0,l,m,h1,h2=>by rw[List.length_eq_zero_iff]at h1 h2;subst h1 h2;rfl
 |n+1,x::l,y::m,h1,h2=>by
  have ih:=Bk n l m (by simpa using h1) (by simpa using h2)
  rw[Rz,List.flatMap_cons,List.flatMap_cons,F6 (Kr x y),ih];simp only[Option.map_some,List.cons.injEq,Bool.decide_and]
 |n+1,[],_,h1,_=>by simp at h1
 |n+1,_::_,[],_,h2=>by simp at h2
def Ec(g:Gr):Gr:=⟨some (g.a.getD []),some (g.b.getD [])⟩
def nV(t u:Tb):Bool:=decide (t.nm=u.nm)
theorem Ks(t u:Tb):nV t u=
  (((((((((((((decide (t.phases=u.phases)&&decide ((t.groups.getD []).map Ec=(u.groups.getD []).map Ec))&&decide (t.conflict=u.conflict))&&decide ((t.az.getD []).map id=(u.az.getD []).map id))&&decide ((t.aR.getD []).map id=(u.aR.getD []).map id))&&decide ((t.aX.getD []).map id=(u.aX.getD []).map id))&&
   t.extend==u.extend)&&t.cU==u.cU)&&t.start==u.start)&&t.revert==u.revert)&&t.least==u.least)&&decide (t.bp=u.bp))&&t.dw==u.dw)&&t.share==u.share):=by
 rw[Bool.eq_iff_iff];cases t;cases u;simp only[nV,Tb.nm,decide_eq_true_eq,Bool.and_eq_true,beq_iff_eq,Tb.mk.injEq,Option.some.injEq,List.map_id];constructor
 ·rintro⟨a1,a2,a3,a4,a5,a6,a7,a8,a9,a10,a11,a12,a13,a14⟩
  exact⟨⟨⟨⟨⟨⟨⟨⟨⟨⟨⟨⟨⟨a1,a2⟩,a3⟩,a4⟩,a5⟩,a6⟩,a7⟩,a8⟩,a9⟩,a10⟩,a11⟩,a12⟩,a13⟩,a14⟩
 ·rintro⟨⟨⟨⟨⟨⟨⟨⟨⟨⟨⟨⟨⟨a1,a2⟩,a3⟩,a4⟩,a5⟩,a6⟩,a7⟩,a8⟩,a9⟩,a10⟩,a11⟩,a12⟩,a13⟩,a14⟩
  exact⟨a1,a2,a3,a4,a5,a6,a7,a8,a9,a10,a11,a12,a13,a14⟩
section
variable{t:Tb} (h:t.Ln)
include h
theorem Kt:bF t.cells 0 (some 104)=some (.agg (t.phases.flatMap Ph.cells)):=by
 have e:(t.phases.flatMap Ph.cells).length=104:=by rw[aY Ph.len,h.phases]
 have l:=h.len
 simp only[bF]
 rw[if_pos (by omega),List.drop_zero,Tb.cells,List.take_left' e]
theorem Ku:bF t.cells 105 (some 8)=some (.agg (t.conflict.map I)):=by
 have l:=h.len
 simp only[bF]
 rw[if_pos (by omega),pR h,List.take_left' (by simp[h.conflict])]
theorem Of:bF t.cells 121 (some 8)=some (.agg (t.bp.map I)):=by
 have l:=h.len
 have e:t.cells.drop 121=(t.cells.drop 105).drop 16:=by rw[List.drop_drop]
 have e2:∀l:List AV,l.drop 16=(l.drop 8).drop 8:=fun l=>by rw[List.drop_drop]
 simp only[bF]
 rw[if_pos (by omega),e,pR h,e2,List.drop_left' (by simp[h.conflict])]
 simp only[List.drop_succ_cons,List.drop_zero]
 rw[List.take_left' (by simp[h.bp])]
end
def iY(t:Tb):List Int:=[88,66,1]++ot.e t
def mg(b:List Int):List Int:=b++gn ((jR 0xffff#16 b).toNat:Int) 2
def E3(t:Tb):AV:=if oU t=true then .qf [aD dD (some (mg (iY t))),I 0]else .qf [aD dD none,I 4]
def sP.Spec(C:bw) (f:Nat):Prop:=∀t:Tb,t.Ln->t.Fw->C.c f [.agg t.cells] (E3 t) none
theorem oZ(L x:List Int):jd (some L) x=some (L++x):=by
 unfold jd
 by_cases hx:x=[]
 ·subst hx;simp
 ·simp[hx]
def Xw(α:Type) (row:α->List AV) (pre:List (Option AV)) (by':List α->List Int) (C:bw) (f:Nat):Prop:=∀(L:List Int) (o:Option (List α)) (l:List α),o.getD []=l->l.length<=1000->L.length<=5000->C.p f [[aD dD (some L)]] (none::pre++[some (aD row o)]) (.qf []) none [[aD dD (some (L++by' l))]]
theorem kG{C:bw} {f:Nat} (h:xH.Spec C f) (k:Nat) (h1:1<=k) (h8:k<=8):Xw Int aA [some (I k)] (bg k) C f:=by
 intro L o l ho hl hL
 have:=h k h1 h8 (some L) o l ho (by omega) (by rw[aP,Option.getD_some];have:k*l.length<=8*1000:=Nat.mul_le_mul h8 hl;omega)
 rw[oZ]at this;exact this
theorem VR{C:bw} {f:Nat} (h:Bh.Spec C f):Xw Bool (fun b=>[B b]) [] (fun l=>bg 1 (cJ l)) C f:=by
 intro L o l ho hl hL
 have:=h (some L) o l ho (by omega) (by simp only[aP,Option.getD_some,cJ,List.length_map];omega)
 rw[oZ]at this;exact this
theorem Xx{C:bw} {f:Nat} (h:Bi.Spec C f):Xw Nat (fun x=>[Fl x]) [] gH C f:=by
 intro L o l ho hl hL
 have:=h (some L) o l ho (by omega) (by rw[bK,Option.getD_some];omega)
 rw[oZ]at this;exact this
theorem VS{C:bw} {f:Nat} (h:Bj.Spec C f) (L:List Int) (l:Option (List Int)) (hl:(l.getD []).length<=1000) (hL:L.length<=5000):C.p f [[aD dD (some L)]] [none,some (aD aA l)] (.qf []) none [[aD dD (some (L++lI.e (l.getD [])))]]:=by
 have:=h (some L) l (by rw[Option.getD_some];omega)
 rw[oZ]at this;exact this
theorem Kv(p:Ph):sY.e p=bg 1 (cJ [p.on])++(bg 2 [p.min,p.As,p.max,p.top,p.step,p.dO,p.red,p.walk,p.ee]++(bg 1 [p.gy]++bg 1 (cJ [p.lock,p.rest]))):=by
 simp only[bg,cJ,List.map_cons,List.map_nil,List.flatMap_cons,List.flatMap_nil,List.append_nil,List.append_assoc];rfl
theorem Kw(g:Gr):uu.e g=lI.e (g.a.getD [])++lI.e (g.b.getD []):=rfl
theorem E4(d:fy):j0.e d=bg 1 [d.phase]++(gH [d.on,d.off,d.delay,d.extend]++bg 2 [d.maxOn,d.iF]):=by
 simp only[bg,gH,List.flatMap_cons,List.flatMap_nil,List.append_nil,List.append_assoc];rfl
theorem Kx(r:Rl):uA.e r=bg 1 [r.bars,r.clear,r.iq,r.exit]++(bg 2 [r.delay,r.green,r.ke,r.hold,r.stay,r.most]++bg 4 [r.limit]):=by
 simp only[bg,List.flatMap_cons,List.flatMap_nil,List.append_nil,List.append_assoc];rfl
theorem Ky(r:Bs):uv.e r=bg 1 [r.set]++bg 2 [r.lock]:=by
 simp only[bg,List.flatMap_cons,List.flatMap_nil,List.append_nil,List.append_assoc];rfl
theorem Kz{t:Tb} (h:t.Ln):ot.e t=t.phases.flatMap sY.e++(bg 1 [((t.groups.getD []).length:Int)]++((t.groups.getD []).flatMap uu.e++(bg 1 t.conflict++(bg 1 [((t.az.getD []).length:Int)]++((t.az.getD []).flatMap j0.e++
  (bg 1 [((t.aR.getD []).length:Int)]++((t.aR.getD []).flatMap uA.e++(bg 1 [((t.aX.getD []).length:Int)]++((t.aX.getD []).flatMap uv.e++(bg 2 [t.extend,t.cU,t.start,t.revert,t.least]++(bg 1 t.bp++bg 4 [t.dw,t.share]))))))))))):=by
 have e:ot.e t=(sY.rep 8).e t.phases++(zR.e (t.groups.getD [])++((jO.rep 8).e t.conflict++(nv.e (t.az.getD [])++(rI.e (t.aR.getD [])++(pT.e (t.aX.getD [])++(aV.e t.extend++(aV.e t.cU++(aV.e t.start++(aV.e t.revert++(aV.e t.least++
  (((cF 2 (by decide)).rep 8).e t.bp++(dM.e t.dw++dM.e t.share)))))))))))):=rfl
 rw[e,DH _ _ _ h.phases,DH _ _ _ h.conflict,DH _ _ _ h.bp];unfold zR nv rI pT;rw[zP,zP,zP,zP];simp only[bg,List.flatMap_cons,List.flatMap_nil,List.append_nil,List.append_assoc];rfl
theorem Ct{α:Type} (row:α->List AV) (z:Nat) (hz:∀a,(row a).length=z):∀(l:List α) (i:Nat) (x:α),l[i]? =some x->bF (l.flatMap row) (i*z) (some z)=some (.agg (row x))
 |[],i,x,h=>by simp at h
 |y::l,0,x,h=>by
  have e:y=x:=by simpa using h
  subst e
  have:=Dc (pre:=[]) (mid:=row y) (post:=l.flatMap row) (off:=0) (z:=z) rfl (hz y)
  simpa using this
 |y::l,i+1,x,h=>by
  have ih:=Ct row z hz l i x (by simpa using h)
  rw[List.flatMap_cons,Nat.succ_mul];simp only[bF]at ih⊢;rw[List.length_append,hz]
  have:(row y++l.flatMap row).drop (i*z+z)=(l.flatMap row).drop (i*z):=by rw[Nat.add_comm,<-List.drop_drop,List.drop_left' (hz y)]
  rw[this]
  by_cases hc:i*z+z<=(l.flatMap row).length
  ·rw[if_pos hc]at ih;rw[if_pos (by omega)];exact ih
  ·rw[if_neg hc]at ih;cases ih
theorem kY{α:Type} {e:α->List Int} {l:List α} {i:Nat} {x:α} (h:l[i]? =some x) (S:List Int):S++(l.take (i+1)).flatMap e=(S++(l.take i).flatMap e)++e x:=by
 rw[List.take_add_one,h,List.append_assoc];simp
theorem eS{α:Type} {e:α->List Int} {z:Nat}:∀{l:List α} (_:∀x∈l,(e x).length<=z) (i:Nat),((l.take i).flatMap e).length<=z*l.length
 |[],_,i=>by simp
 |x::l,h,0=>by simp
 |x::l,h,i+1=>by
  have h1:=h x List.mem_cons_self
  have h2:=eS (l:=l) (fun y hy=>h y (List.mem_cons_of_mem _ hy)) i
  rw[List.take_succ_cons,List.flatMap_cons,List.length_append,List.length_cons,Nat.mul_succ];omega
theorem vI(p:Ph):(sY.e p).length=22:=by rw[Kv];simp[aP,cJ]
theorem rP(p:fy):(j0.e p).length=37:=by rw[E4];simp[aP,bK]
theorem vJ(p:Rl):(uA.e p).length=20:=by rw[Kx];simp[aP]
theorem vK(p:Bs):(uv.e p).length=3:=by rw[Ky];simp[aP]
theorem vL(l:List Int):(lI.e l).length=1+l.length:=by rw[Cr];simp[aP]
theorem vM{g:Gr} (h:nU g=true):(uu.e g).length<=18:=by
 simp only[nU,lU,Bool.and_eq_true,decide_eq_true_eq]at h;rw[Kw,List.length_append,vL,vL]
 have h1:=h.1.1
 have h2:=h.2.1
 omega
theorem wQ{g:Gr} (h:nU g=true):(g.a.getD []).length<=8/\(g.b.getD []).length<=8:=by
 simp only[nU,lU,Bool.and_eq_true,decide_eq_true_eq]at h
 have h1:=h.1.1
 have h2:=h.2.1
 omega
theorem Bl(t:Tb):qd (iY t):=by
 intro x hx
 rcases List.mem_append.1 hx with hx|hx
 ·have:x=88\/x=66\/x=1:=by simpa using hx
  omega
 ·exact ot.Nu t x hx
section
variable{P:Program} (hm:P.follows .mixedOrders=true) {f:Nat}
include hm
theorem sP.ok{fM eI fP eB fY fW eF fF fC:Nat} (hc:de P f=some (kz fM eI fP eB fY fW eF fF fC)) (hM:Hi.Spec (Pure P) fM) (hP:xH.Spec (Pure P) fP) (hY:Bh.Spec (Pure P) fY) (hW:Bj.Spec (Pure P) fW) (hF:Bi.Spec (Pure P) fF) (hC:Be.Spec (Pure P) fC):sP.Spec (Pure P) f:=by
 intro t h hfw
 have cM:=hM t h hfw
 have hl:=h.len
 have hw:=h.whole
 by_cases hmay:oU t=true
 rotate_left
 ·have hb:oU t=false:=by simpa using hmay
  have e:E3 t=.qf [aD dD none,I 4]:=by unfold E3;rw[if_neg hmay]
  rw[e];rw[hb]at cM
  refine aB hm hc (by show 1<=236;decide) (ax (keep:=[1,4,7,10,13]) (i:=0) ?_)
  try simp only[I,B,D,RY,↓KW,seval,kz,Z.H,hl,hw]
  refine ai cM ?_;try simp only[I,B,D,RY,↓KW,seval,hl,hw]
  rfl
 rw[hmay]at cM
 have e:E3 t=.qf [aD dD (some (mg (iY t))),I 0]:=by unfold E3;rw[if_pos hmay]
 have hmay2:=hmay
 simp only[oU,Bool.and_eq_true,List.all_eq_true,decide_eq_true_eq]at hmay2;obtain⟨⟨⟨⟨⟨⟨⟨⟨_,hg1,hg2⟩,_⟩,hd1,_⟩,hr1,_⟩,hb1,_⟩,_⟩,_⟩,_⟩:=hmay2
 have g1:=zL h
 have g2:=h.xC
 have g3:=h.vz
 have g4:=h.xD
 obtain⟨n1,n2,n3,n4,n5,n6,n7⟩:=vD h
 have dg1:=cz g1
 have dg2:=cz g2
 have dg3:=cz g3
 have dg4:=cz g4
 have dn1:=cz n1
 have dn2:=cz n2
 have dn3:=cz n3
 have dn4:=cz n4
 have dn5:=cz n5
 have dn6:=cz n6
 have dn7:=cz n7
 have k2:=EU h
 have k3:=EX h
 rw[e]
 have u1:∀v w:AV,setCells [v] 0 [w]=[w]:=fun _ _=>rfl
 refine aB hm hc (by show 1<=236;decide) (ax (keep:=[1,4,7,10,13]) (i:=0) ?_)
 try simp only[I,B,D,RY,↓KW,seval,kz,Z.H,hl,hw]
 refine ai cM ?_;try simp only[I,B,D,RY,↓KW,seval,hl,hw]
 have c0:=hP 3 (by omega) (by omega) none (some [5784065]) [5784065] rfl (by decide) (by decide)
 obtain⟨S0,hS0⟩:∃S:List Int,S=[88,66,1]:=⟨_,rfl⟩
 have z0:jd none (bg 3 [5784065])=some S0:=by rw[hS0];decide+kernel
 have l0:S0.length<=3:=by rw[hS0];decide
 rw[z0]at c0;refine⟨rfl,ay c0 ?_⟩;try simp only[I,B,D,RY,↓KW,seval,hl,hw]
 have hph:t.cells.take 104=t.phases.flatMap Ph.cells:=List.take_left' (by rw[aY Ph.len,h.phases])
 have hp8:=h.phases
 try simp only[I,B,D,RY,↓KW,seval,hl,hw,hph]
 have z13:dh.length=13:=rfl
 have u2:∀p:Gr,setCells [AV.bL,AV.bL] 0 p.cells=p.cells:=fun p=>rfl
 have z11:dG.length=11:=rfl
 have u11:∀p:Rl,setCells dG 0 p.cells=p.cells:=fun p=>dP rfl
 have u7:∀p:fy,setCells [.int .i64 0,.float .f64 0,.float .f64 0,.float .f64 0,.float .f64 0,.int .i64 0,.int .i64 0] 0 p.cells=p.cells:=fun p=>dP rfl
 have u2b:∀p:Bs,setCells [.int .i64 0,.int .i64 0] 0 p.cells=p.cells:=fun p=>dP rfl
 have u13:∀p:Ph,setCells dh 0 p.cells=p.cells:=fun p=>dP rfl
 refine dR (.exit 0) (fun _:Unit=>(⟨[(1,.ptr 4 0),(4,.ptr 11 0)],[(11,⟨[aD dD (some (S0++(t.phases).flatMap sY.e))],[]⟩),(4,⟨t.cells,[]⟩)],[],400⟩:S)) (fun _=>True) (fun _=>rfl) ?_ ?_
 ·refine aH (fun i:Nat=>(⟨[(25,.dat (I i) none),(24,.dat (.agg (t.phases.flatMap Ph.cells)) none),(1,.ptr 4 0),(4,.ptr 11 0)],[(11,⟨[aD dD (some (S0++((t.phases).take i).flatMap sY.e))],[]⟩),(4,⟨t.cells,[]⟩)],[],400⟩:S)) (fun i=>8-i) (fun i=>i<=8) ?_ 0 (by omega) ?_
  ·intro i hi A back
   have hwi:=aF (k:=i) (by omega)
   have hlen:=eS (e:=sY.e) (z:=22) (l:=t.phases) (fun x _=>by rw[vI];omega) i
   rw[h.phases]at hlen;try simp only[I,B,D,RY,↓KW,seval]
   refine aq (fun h2=>?_) (fun h2=>?_)<;>try simp only[I,B,D,RY,↓KW,seval,h2]
   ·have h3:i<8:=by have:=of_decide_eq_true h2;omega
    obtain⟨p,hp⟩:∃x,(t.phases)[i]? =some x:=⟨(t.phases)[i]'(by omega),List.getElem?_eq_getElem _⟩
    have hn:=kY (e:=sY.e) hp S0
    obtain⟨L,hL⟩:∃L,L=S0++((t.phases).take i).flatMap sY.e:=⟨_,rfl⟩
    have hL2:L.length<=179:=by rw[hL,List.length_append];omega
    have hb2:(0:Int)<=(i:Int)/\(i:Int)<8:=by omega
    have hpa:=Ct Ph.cells 13 Ph.len t.phases i p hp
    have w1:=u13 p
    simp only[Ph.cells,I,B,Fl]at w1;rw[<-hL,Kv]at hn;rw[<-hL]
    have c0:=VR hY (L) (some [p.on]) [p.on] rfl (Nat.le_of_ble_eq_true rfl) (by first|omega|(simp only[List.length_append,aP,bK,cJ,List.length_map,List.length_cons,List.length_nil];omega))
    have c1:=kG hP 2 (by omega) (by omega) ((L)++(fun l=>bg 1 (cJ l)) [p.on]) (some [p.min,p.As,p.max,p.top,p.step,p.dO,p.red,p.walk,p.ee]) [p.min,p.As,p.max,p.top,p.step,p.dO,p.red,p.walk,p.ee] rfl (Nat.le_of_ble_eq_true rfl) (by first|omega|(simp only[List.length_append,aP,bK,cJ,List.length_map,List.length_cons,List.length_nil];omega))
    have c2:=kG hP 1 (by omega) (by omega) (((L)++(fun l=>bg 1 (cJ l)) [p.on])++bg 2 [p.min,p.As,p.max,p.top,p.step,p.dO,p.red,p.walk,p.ee]) (some [p.gy]) [p.gy] rfl (Nat.le_of_ble_eq_true rfl) (by first|omega|(simp only[List.length_append,aP,bK,cJ,List.length_map,List.length_cons,List.length_nil];omega))
    have c3:=VR hY ((((L)++(fun l=>bg 1 (cJ l)) [p.on])++bg 2 [p.min,p.As,p.max,p.top,p.step,p.dO,p.red,p.walk,p.ee])++bg 1 [p.gy]) (some [p.lock,p.rest]) [p.lock,p.rest] rfl (Nat.le_of_ble_eq_true rfl) (by first|omega|(simp only[List.length_append,aP,bK,cJ,List.length_map,List.length_cons,List.length_nil];omega))
    try simp only[List.append_assoc]at c0
    try simp only[List.append_assoc]at c1
    try simp only[List.append_assoc]at c2
    try simp only[List.append_assoc]at c3
    try simp only[I,B,D,RY,↓KW,seval,hb2,z13,Ph.len,hpa]
    try simp only[I,B,D,RY,↓KW,seval,w1,Ph.cells]
    refine⟨rfl,ay c0 ?_⟩;try simp only[I,B,D,RY,↓KW,seval,w1,Ph.cells]
    refine⟨rfl,ay c1 ?_⟩;try simp only[I,B,D,RY,↓KW,seval,w1,Ph.cells]
    refine⟨rfl,ay c2 ?_⟩;try simp only[I,B,D,RY,↓KW,seval,w1,Ph.cells]
    refine⟨rfl,ay c3 ?_⟩;try simp only[I,B,D,RY,↓KW,seval,w1,Ph.cells]
    refine back (i+1) _ (by omega) (by omega) ?_
    refine ah (by decide) ?_ ?_ ?_ ?_<;>simp[LX,I,B,D,hwi,hn,cR]
   ·have h3:i=8:=by have:=of_decide_eq_false h2;omega
    have ht:(t.phases).take i=t.phases:=by rw[h3];exact List.take_of_length_le (by omega)
    refine bI () trivial ?_
    refine ah (by decide) ?_ ?_ ?_ ?_<;>simp[LX,I,B,D,ht,cR]
  ·refine ah (by decide) ?_ ?_ ?_ ?_<;>simp[LX,I,B,D,cR]
 ·intro _ _
  obtain⟨S1,hS1⟩:∃S,S=S0++(t.phases).flatMap sY.e:=⟨_,rfl⟩
  rw[<-hS1]
  have lS1:S1.length<=179:=by rw[hS1,List.length_append];have:=eS (e:=sY.e) (z:=22) (l:=t.phases) (fun x _=>by rw[vI];omega) (t.phases).length;rw[List.take_length]at this;omega
  have c:=kG hP 1 (by omega) (by omega) S1 (some [((t.groups.getD []).length:Int)]) [((t.groups.getD []).length:Int)] rfl (Nat.le_of_ble_eq_true rfl) (by omega)
  try simp only[I,B,D,RY,↓KW,seval,hl,g1,dg1]
  refine⟨rfl,ay c ?_⟩
  obtain⟨S2,hS2⟩:∃S,S=S1++bg 1 [((t.groups.getD []).length:Int)]:=⟨_,rfl⟩
  have lS2:S2.length<=180:=by rw[hS2,List.length_append,aP];simp only[List.length_cons,List.length_nil,h.conflict,h.bp];omega
  rw[<-hS2];try simp only[I,B,D,RY,↓KW,seval,hl,g1,dg1]
  refine dR (.exit 2) (fun _:Unit=>(⟨[(1,.ptr 4 0),(4,.ptr 11 0)],[(11,⟨[aD dD (some (S2++(t.groups.getD []).flatMap uu.e))],[]⟩),(4,⟨t.cells,[]⟩)],[],400⟩:S)) (fun _=>True) (fun _=>rfl) ?_ ?_
  ·refine aH (fun i:Nat=>(⟨[(76,.dat (I i) none),(75,.dat (I ((t.groups.getD []).length:Int)) none),(74,.dat (aD Gr.cells t.groups) none),(1,.ptr 4 0),(4,.ptr 11 0)],[(11,⟨[aD dD (some (S2++((t.groups.getD []).take i).flatMap uu.e))],[]⟩),(4,⟨t.cells,[]⟩)],[],400⟩:S)) (fun i=>(t.groups.getD []).length-i) (fun i=>i<=(t.groups.getD []).length) ?_ 0 (by omega) ?_
   ·intro i hi A back
    have hwi:=aF (k:=i) (by omega)
    have hlen:=eS (e:=uu.e) (z:=18) (l:=t.groups.getD []) (fun x hx=>vM (hg2 x hx)) i
    skip;try simp only[I,B,D,RY,↓KW,seval]
    refine aq (fun h2=>?_) (fun h2=>?_)<;>try simp only[I,B,D,RY,↓KW,seval,h2]
    ·have h3:i<(t.groups.getD []).length:=by have:=of_decide_eq_true h2;omega
     obtain⟨p,hp⟩:∃x,(t.groups.getD [])[i]? =some x:=⟨(t.groups.getD [])[i]'(by omega),List.getElem?_eq_getElem _⟩
     have hn:=kY (e:=uu.e) hp S2
     obtain⟨L,hL⟩:∃L,L=S2++((t.groups.getD []).take i).flatMap uu.e:=⟨_,rfl⟩
     have hL2:L.length<=252:=by rw[hL,List.length_append];omega
     have hb2:(0:Int)<=(i:Int)/\(i:Int)<((t.groups.getD []).length:Int):=by omega
     have hpl:=wQ (hg2 p (List.mem_of_getElem? hp))
     have w1:=u2 p
     simp only[Gr.cells,I,B,Fl]at w1;rw[<-hL,Kw]at hn;rw[<-hL]
     have c0:=VS hW (L) p.a (by omega) (by first|omega|(simp only[List.length_append,aP,vL];omega))
     have c1:=VS hW ((L)++lI.e (p.a.getD [])) p.b (by omega) (by first|omega|(simp only[List.length_append,aP,vL];omega))
     try simp only[List.append_assoc]at c0
     try simp only[List.append_assoc]at c1
     try simp only[I,B,D,RY,↓KW,seval,hb2,hp]
     try simp only[I,B,D,RY,↓KW,seval,w1,Gr.cells]
     refine⟨rfl,ay c0 ?_⟩;try simp only[I,B,D,RY,↓KW,seval,w1,Gr.cells]
     refine⟨rfl,ay c1 ?_⟩;try simp only[I,B,D,RY,↓KW,seval,w1,Gr.cells]
     refine back (i+1) _ (by omega) (by omega) ?_
     refine ah (by decide) ?_ ?_ ?_ ?_<;>simp[LX,I,B,D,hwi,hn,cR]
    ·have h3:i=(t.groups.getD []).length:=by have:=of_decide_eq_false h2;omega
     have ht:(t.groups.getD []).take i=t.groups.getD []:=by rw[h3];exact List.take_of_length_le (by omega)
     refine bI () trivial ?_
     refine ah (by decide) ?_ ?_ ?_ ?_<;>simp[LX,I,B,D,ht,cR]
   ·refine ah (by decide) ?_ ?_ ?_ ?_<;>simp[LX,I,B,D,cR]
  ·intro _ _
   obtain⟨S3,hS3⟩:∃S,S=S2++(t.groups.getD []).flatMap uu.e:=⟨_,rfl⟩
   rw[<-hS3]
   have lS3:S3.length<=252:=by rw[hS3,List.length_append];have:=eS (e:=uu.e) (z:=18) (l:=t.groups.getD []) (fun x hx=>vM (hg2 x hx)) (t.groups.getD []).length;rw[List.take_length]at this;omega
   have c:=kG hP 1 (by omega) (by omega) S3 (some t.conflict) t.conflict rfl (by rw[h.conflict];omega) (by omega)
   try simp only[I,B,D,RY,↓KW,seval,hl,k2,List.length_drop]
   refine⟨rfl,ay c ?_⟩
   obtain⟨S4,hS4⟩:∃S,S=S3++bg 1 t.conflict:=⟨_,rfl⟩
   have lS4:S4.length<=260:=by rw[hS4,List.length_append,aP];simp only[List.length_cons,List.length_nil,h.conflict,h.bp];omega
   rw[<-hS4];try simp only[I,B,D,RY,↓KW,seval,hl,g2,dg2]
   have c:=kG hP 1 (by omega) (by omega) S4 (some [((t.az.getD []).length:Int)]) [((t.az.getD []).length:Int)] rfl (Nat.le_of_ble_eq_true rfl) (by omega)
   try simp only[I,B,D,RY,↓KW,seval,hl,g2,dg2]
   refine⟨rfl,ay c ?_⟩
   obtain⟨S5,hS5⟩:∃S,S=S4++bg 1 [((t.az.getD []).length:Int)]:=⟨_,rfl⟩
   have lS5:S5.length<=261:=by rw[hS5,List.length_append,aP];simp only[List.length_cons,List.length_nil,h.conflict,h.bp];omega
   rw[<-hS5];try simp only[I,B,D,RY,↓KW,seval,hl,g2,dg2]
   refine dR (.exit 4) (fun _:Unit=>(⟨[(1,.rp t.cells),(4,.ptr 11 0)],[(11,⟨[aD dD (some (S5++(t.az.getD []).flatMap j0.e))],[]⟩)],[],400⟩:S)) (fun _=>True) (fun _=>rfl) ?_ ?_
   ·refine aH (fun i:Nat=>(⟨[(102,.dat (I i) none),(101,.dat (I ((t.az.getD []).length:Int)) none),(100,.dat (aD fy.cells t.az) none),(1,.rp t.cells),(4,.ptr 11 0)],[(11,⟨[aD dD (some (S5++((t.az.getD []).take i).flatMap j0.e))],[]⟩)],[],400⟩:S)) (fun i=>(t.az.getD []).length-i) (fun i=>i<=(t.az.getD []).length) ?_ 0 (by omega) ?_
    ·intro i hi A back
     have hwi:=aF (k:=i) (by omega)
     have hlen:=eS (e:=j0.e) (z:=37) (l:=t.az.getD []) (fun x _=>by rw[rP];omega) i
     skip;try simp only[I,B,D,RY,↓KW,seval]
     refine aq (fun h2=>?_) (fun h2=>?_)<;>try simp only[I,B,D,RY,↓KW,seval,h2]
     ·have h3:i<(t.az.getD []).length:=by have:=of_decide_eq_true h2;omega
      obtain⟨p,hp⟩:∃x,(t.az.getD [])[i]? =some x:=⟨(t.az.getD [])[i]'(by omega),List.getElem?_eq_getElem _⟩
      have hn:=kY (e:=j0.e) hp S5
      obtain⟨L,hL⟩:∃L,L=S5++((t.az.getD []).take i).flatMap j0.e:=⟨_,rfl⟩
      have hL2:L.length<=853:=by rw[hL,List.length_append];omega
      have hb2:(0:Int)<=(i:Int)/\(i:Int)<((t.az.getD []).length:Int):=by omega
      skip
      have w1:=u7 p
      simp only[fy.cells,I,B,Fl]at w1;rw[<-hL,E4]at hn;rw[<-hL]
      have c0:=kG hP 1 (by omega) (by omega) (L) (some [p.phase]) [p.phase] rfl (Nat.le_of_ble_eq_true rfl) (by first|omega|(simp only[List.length_append,aP,bK,cJ,List.length_map,List.length_cons,List.length_nil];omega))
      have c1:=Xx hF ((L)++bg 1 [p.phase]) (some [p.on,p.off,p.delay,p.extend]) [p.on,p.off,p.delay,p.extend] rfl (Nat.le_of_ble_eq_true rfl) (by first|omega|(simp only[List.length_append,aP,bK,cJ,List.length_map,List.length_cons,List.length_nil];omega))
      have c2:=kG hP 2 (by omega) (by omega) (((L)++bg 1 [p.phase])++gH [p.on,p.off,p.delay,p.extend]) (some [p.maxOn,p.iF]) [p.maxOn,p.iF] rfl (Nat.le_of_ble_eq_true rfl) (by first|omega|(simp only[List.length_append,aP,bK,cJ,List.length_map,List.length_cons,List.length_nil];omega))
      try simp only[List.append_assoc]at c0
      try simp only[List.append_assoc]at c1
      try simp only[List.append_assoc]at c2
      try simp only[I,B,D,RY,↓KW,seval,hb2,hp]
      try simp only[I,B,D,RY,↓KW,seval,w1,fy.cells]
      refine⟨rfl,ay c0 ?_⟩;try simp only[I,B,D,RY,↓KW,seval,w1,fy.cells]
      refine⟨rfl,ay c1 ?_⟩;try simp only[I,B,D,RY,↓KW,seval,w1,fy.cells]
      refine⟨rfl,ay c2 ?_⟩;try simp only[I,B,D,RY,↓KW,seval,w1,fy.cells]
      refine back (i+1) _ (by omega) (by omega) ?_
      refine ah (by decide) ?_ ?_ ?_ ?_<;>simp[LX,I,B,D,hwi,hn,cR]
     ·have h3:i=(t.az.getD []).length:=by have:=of_decide_eq_false h2;omega
      have ht:(t.az.getD []).take i=t.az.getD []:=by rw[h3];exact List.take_of_length_le (by omega)
      refine bI () trivial ?_
      refine ah (by decide) ?_ ?_ ?_ ?_<;>simp[LX,I,B,D,ht,cR]
    ·refine ah (by decide) ?_ ?_ ?_ ?_<;>simp[LX,I,B,D,cR]
   ·intro _ _
    obtain⟨S6,hS6⟩:∃S,S=S5++(t.az.getD []).flatMap j0.e:=⟨_,rfl⟩
    rw[<-hS6]
    have lS6:S6.length<=853:=by rw[hS6,List.length_append];have:=eS (e:=j0.e) (z:=37) (l:=t.az.getD []) (fun x _=>by rw[rP];omega) (t.az.getD []).length;rw[List.take_length]at this;omega
    try simp only[I,B,D,RY,↓KW,seval,hl,g3,dg3]
    have c:=kG hP 1 (by omega) (by omega) S6 (some [((t.aR.getD []).length:Int)]) [((t.aR.getD []).length:Int)] rfl (Nat.le_of_ble_eq_true rfl) (by omega)
    try simp only[I,B,D,RY,↓KW,seval,hl,g3,dg3]
    refine⟨rfl,ay c ?_⟩
    obtain⟨S7,hS7⟩:∃S,S=S6++bg 1 [((t.aR.getD []).length:Int)]:=⟨_,rfl⟩
    have lS7:S7.length<=854:=by rw[hS7,List.length_append,aP];simp only[List.length_cons,List.length_nil,h.conflict,h.bp];omega
    rw[<-hS7];try simp only[I,B,D,RY,↓KW,seval,hl,g3,dg3]
    refine dR (.exit 6) (fun _:Unit=>(⟨[(1,.rp t.cells),(4,.ptr 11 0)],[(11,⟨[aD dD (some (S7++(t.aR.getD []).flatMap uA.e))],[]⟩)],[],400⟩:S)) (fun _=>True) (fun _=>rfl) ?_ ?_
    ·refine aH (fun i:Nat=>(⟨[(139,.dat (I i) none),(138,.dat (I ((t.aR.getD []).length:Int)) none),(137,.dat (aD Rl.cells t.aR) none),(1,.rp t.cells),(4,.ptr 11 0)],[(11,⟨[aD dD (some (S7++((t.aR.getD []).take i).flatMap uA.e))],[]⟩)],[],400⟩:S)) (fun i=>(t.aR.getD []).length-i) (fun i=>i<=(t.aR.getD []).length) ?_ 0 (by omega) ?_
     ·intro i hi A back
      have hwi:=aF (k:=i) (by omega)
      have hlen:=eS (e:=uA.e) (z:=20) (l:=t.aR.getD []) (fun x _=>by rw[vJ];omega) i
      skip;try simp only[I,B,D,RY,↓KW,seval]
      refine aq (fun h2=>?_) (fun h2=>?_)<;>try simp only[I,B,D,RY,↓KW,seval,h2]
      ·have h3:i<(t.aR.getD []).length:=by have:=of_decide_eq_true h2;omega
       obtain⟨p,hp⟩:∃x,(t.aR.getD [])[i]? =some x:=⟨(t.aR.getD [])[i]'(by omega),List.getElem?_eq_getElem _⟩
       have hn:=kY (e:=uA.e) hp S7
       obtain⟨L,hL⟩:∃L,L=S7++((t.aR.getD []).take i).flatMap uA.e:=⟨_,rfl⟩
       have hL2:L.length<=934:=by rw[hL,List.length_append];omega
       have hb2:(0:Int)<=(i:Int)/\(i:Int)<((t.aR.getD []).length:Int):=by omega
       skip
       have w1:=u11 p
       simp only[Rl.cells,I,B,Fl]at w1;rw[<-hL,Kx]at hn;rw[<-hL]
       have c0:=kG hP 1 (by omega) (by omega) (L) (some [p.bars,p.clear,p.iq,p.exit]) [p.bars,p.clear,p.iq,p.exit] rfl (Nat.le_of_ble_eq_true rfl) (by first|omega|(simp only[List.length_append,aP,bK,cJ,List.length_map,List.length_cons,List.length_nil];omega))
       have c1:=kG hP 2 (by omega) (by omega) ((L)++bg 1 [p.bars,p.clear,p.iq,p.exit]) (some [p.delay,p.green,p.ke,p.hold,p.stay,p.most]) [p.delay,p.green,p.ke,p.hold,p.stay,p.most] rfl (Nat.le_of_ble_eq_true rfl) (by first|omega|(simp only[List.length_append,aP,bK,cJ,List.length_map,List.length_cons,List.length_nil];omega))
       have c2:=kG hP 4 (by omega) (by omega) (((L)++bg 1 [p.bars,p.clear,p.iq,p.exit])++bg 2 [p.delay,p.green,p.ke,p.hold,p.stay,p.most]) (some [p.limit]) [p.limit] rfl (Nat.le_of_ble_eq_true rfl) (by first|omega|(simp only[List.length_append,aP,bK,cJ,List.length_map,List.length_cons,List.length_nil];omega))
       try simp only[List.append_assoc]at c0
       try simp only[List.append_assoc]at c1
       try simp only[List.append_assoc]at c2
       try simp only[I,B,D,RY,↓KW,seval,hb2,hp,z11]
       try simp only[I,B,D,RY,↓KW,seval,w1,Rl.cells,z11]
       refine⟨rfl,ay c0 ?_⟩;try simp only[I,B,D,RY,↓KW,seval,w1,Rl.cells,z11]
       refine⟨rfl,ay c1 ?_⟩;try simp only[I,B,D,RY,↓KW,seval,w1,Rl.cells,z11]
       refine⟨rfl,ay c2 ?_⟩;try simp only[I,B,D,RY,↓KW,seval,w1,Rl.cells,z11]
       refine back (i+1) _ (by omega) (by omega) ?_
       refine ah (by decide) ?_ ?_ ?_ ?_<;>simp[LX,I,B,D,hwi,hn,cR]
      ·have h3:i=(t.aR.getD []).length:=by have:=of_decide_eq_false h2;omega
       have ht:(t.aR.getD []).take i=t.aR.getD []:=by rw[h3];exact List.take_of_length_le (by omega)
       refine bI () trivial ?_
       refine ah (by decide) ?_ ?_ ?_ ?_<;>simp[LX,I,B,D,ht,cR]
     ·refine ah (by decide) ?_ ?_ ?_ ?_<;>simp[LX,I,B,D,cR]
    ·intro _ _
     obtain⟨S8,hS8⟩:∃S,S=S7++(t.aR.getD []).flatMap uA.e:=⟨_,rfl⟩
     rw[<-hS8]
     have lS8:S8.length<=934:=by rw[hS8,List.length_append];have:=eS (e:=uA.e) (z:=20) (l:=t.aR.getD []) (fun x _=>by rw[vJ];omega) (t.aR.getD []).length;rw[List.take_length]at this;omega
     try simp only[I,B,D,RY,↓KW,seval,hl,g4,dg4]
     have c:=kG hP 1 (by omega) (by omega) S8 (some [((t.aX.getD []).length:Int)]) [((t.aX.getD []).length:Int)] rfl (Nat.le_of_ble_eq_true rfl) (by omega)
     try simp only[I,B,D,RY,↓KW,seval,hl,g4,dg4]
     refine⟨rfl,ay c ?_⟩
     obtain⟨S9,hS9⟩:∃S,S=S8++bg 1 [((t.aX.getD []).length:Int)]:=⟨_,rfl⟩
     have lS9:S9.length<=935:=by rw[hS9,List.length_append,aP];simp only[List.length_cons,List.length_nil,h.conflict,h.bp];omega
     rw[<-hS9];try simp only[I,B,D,RY,↓KW,seval,hl,g4,dg4]
     refine dR (.exit 8) (fun _:Unit=>(⟨[(1,.rp t.cells),(4,.ptr 11 0)],[(11,⟨[aD dD (some (S9++(t.aX.getD []).flatMap uv.e))],[]⟩)],[],400⟩:S)) (fun _=>True) (fun _=>rfl) ?_ ?_
     ·refine aH (fun i:Nat=>(⟨[(184,.dat (I i) none),(183,.dat (I ((t.aX.getD []).length:Int)) none),(182,.dat (aD Bs.cells t.aX) none),(1,.rp t.cells),(4,.ptr 11 0)],[(11,⟨[aD dD (some (S9++((t.aX.getD []).take i).flatMap uv.e))],[]⟩)],[],400⟩:S)) (fun i=>(t.aX.getD []).length-i) (fun i=>i<=(t.aX.getD []).length) ?_ 0 (by omega) ?_
      ·intro i hi A back
       have hwi:=aF (k:=i) (by omega)
       have hlen:=eS (e:=uv.e) (z:=3) (l:=t.aX.getD []) (fun x _=>by rw[vK];omega) i
       skip;try simp only[I,B,D,RY,↓KW,seval]
       refine aq (fun h2=>?_) (fun h2=>?_)<;>try simp only[I,B,D,RY,↓KW,seval,h2]
       ·have h3:i<(t.aX.getD []).length:=by have:=of_decide_eq_true h2;omega
        obtain⟨p,hp⟩:∃x,(t.aX.getD [])[i]? =some x:=⟨(t.aX.getD [])[i]'(by omega),List.getElem?_eq_getElem _⟩
        have hn:=kY (e:=uv.e) hp S9
        obtain⟨L,hL⟩:∃L,L=S9++((t.aX.getD []).take i).flatMap uv.e:=⟨_,rfl⟩
        have hL2:L.length<=947:=by rw[hL,List.length_append];omega
        have hb2:(0:Int)<=(i:Int)/\(i:Int)<((t.aX.getD []).length:Int):=by omega
        skip
        have w1:=u2b p
        simp only[Bs.cells,I,B,Fl]at w1;rw[<-hL,Ky]at hn;rw[<-hL]
        have c0:=kG hP 1 (by omega) (by omega) (L) (some [p.set]) [p.set] rfl (Nat.le_of_ble_eq_true rfl) (by first|omega|(simp only[List.length_append,aP,bK,cJ,List.length_map,List.length_cons,List.length_nil];omega))
        have c1:=kG hP 2 (by omega) (by omega) ((L)++bg 1 [p.set]) (some [p.lock]) [p.lock] rfl (Nat.le_of_ble_eq_true rfl) (by first|omega|(simp only[List.length_append,aP,bK,cJ,List.length_map,List.length_cons,List.length_nil];omega))
        try simp only[List.append_assoc]at c0
        try simp only[List.append_assoc]at c1
        try simp only[I,B,D,RY,↓KW,seval,hb2,hp]
        try simp only[I,B,D,RY,↓KW,seval,w1,Bs.cells]
        refine⟨rfl,ay c0 ?_⟩;try simp only[I,B,D,RY,↓KW,seval,w1,Bs.cells]
        refine⟨rfl,ay c1 ?_⟩;try simp only[I,B,D,RY,↓KW,seval,w1,Bs.cells]
        refine back (i+1) _ (by omega) (by omega) ?_
        refine ah (by decide) ?_ ?_ ?_ ?_<;>simp[LX,I,B,D,hwi,hn,cR]
       ·have h3:i=(t.aX.getD []).length:=by have:=of_decide_eq_false h2;omega
        have ht:(t.aX.getD []).take i=t.aX.getD []:=by rw[h3];exact List.take_of_length_le (by omega)
        refine bI () trivial ?_
        refine ah (by decide) ?_ ?_ ?_ ?_<;>simp[LX,I,B,D,ht,cR]
      ·refine ah (by decide) ?_ ?_ ?_ ?_<;>simp[LX,I,B,D,cR]
     ·intro _ _
      obtain⟨S10,hS10⟩:∃S,S=S9++(t.aX.getD []).flatMap uv.e:=⟨_,rfl⟩
      rw[<-hS10]
      have lS10:S10.length<=947:=by rw[hS10,List.length_append];have:=eS (e:=uv.e) (z:=3) (l:=t.aX.getD []) (fun x _=>by rw[vK];omega) (t.aX.getD []).length;rw[List.take_length]at this;omega
      try simp only[I,B,D,RY,↓KW,seval,hl,n1,dn1,n2,dn2,n3,dn3,n4,dn4,n5,dn5]
      have c:=kG hP 2 (by omega) (by omega) S10 (some [t.extend,t.cU,t.start,t.revert,t.least]) [t.extend,t.cU,t.start,t.revert,t.least] rfl (Nat.le_of_ble_eq_true rfl) (by omega)
      try simp only[I,B,D,RY,↓KW,seval,hl,n1,dn1,n2,dn2,n3,dn3,n4,dn4,n5,dn5]
      refine⟨rfl,ay c ?_⟩
      obtain⟨S11,hS11⟩:∃S,S=S10++bg 2 [t.extend,t.cU,t.start,t.revert,t.least]:=⟨_,rfl⟩
      have lS11:S11.length<=957:=by rw[hS11,List.length_append,aP];simp only[List.length_cons,List.length_nil,h.conflict,h.bp];omega
      rw[<-hS11];try simp only[I,B,D,RY,↓KW,seval,hl,k3]
      have c:=kG hP 1 (by omega) (by omega) S11 (some t.bp) t.bp rfl (by rw[h.bp];omega) (by omega)
      try simp only[I,B,D,RY,↓KW,seval,hl,k3,List.length_drop]
      refine⟨rfl,ay c ?_⟩
      obtain⟨S12,hS12⟩:∃S,S=S11++bg 1 t.bp:=⟨_,rfl⟩
      have lS12:S12.length<=965:=by rw[hS12,List.length_append,aP];simp only[List.length_cons,List.length_nil,h.conflict,h.bp];omega
      rw[<-hS12];try simp only[I,B,D,RY,↓KW,seval,hl,n6,dn6,n7,dn7]
      have c:=kG hP 4 (by omega) (by omega) S12 (some [t.dw,t.share]) [t.dw,t.share] rfl (Nat.le_of_ble_eq_true rfl) (by omega)
      try simp only[I,B,D,RY,↓KW,seval,hl,n6,dn6,n7,dn7]
      refine⟨rfl,ay c ?_⟩
      obtain⟨S13,hS13⟩:∃S,S=S12++bg 4 [t.dw,t.share]:=⟨_,rfl⟩
      have lS13:S13.length<=973:=by rw[hS13,List.length_append,aP];simp only[List.length_cons,List.length_nil,h.conflict,h.bp];omega
      rw[<-hS13];try simp only[I,B,D,RY,↓KW,seval,hl]
      have hS:S13=iY t:=by
       unfold iY;rw[Kz h,hS13,hS12,hS11,hS10,hS9,hS8,hS7,hS6,hS5,hS4,hS3,hS2,hS1,hS0];simp only[List.append_assoc]
      have cC:=hC (some S13) (by rw[Option.getD_some];omega) (by rw[Option.getD_some,hS];exact Bl t)
      rw[Option.getD_some]at cC;refine ai cC ?_
      have hwr:IntKind.i64.wrap ((jR 0xffff#16 S13).toNat:Int)=(jR 0xffff#16 S13).toNat:=eO (by omega) (by have:=(jR 0xffff#16 S13).isLt;omega)
      try simp only[I,B,D,RY,↓KW,seval,U,hwr]
      have c:=kG hP 2 (by omega) (by omega) S13 (some [((jR 0xffff#16 S13).toNat:Int)]) [((jR 0xffff#16 S13).toNat:Int)] rfl (Nat.le_of_ble_eq_true rfl) (by omega)
      refine⟨rfl,ay c ?_⟩
      have hf:S13++bg 2 [((jR 0xffff#16 S13).toNat:Int)]=mg (iY t):=by rw[hS];unfold mg bg;simp
      rw[hf];try simp only[I,B,D,RY,↓KW,seval]
end
def DT.Spec(C:bw) (f:Nat):Prop:=∀a b:Option (List Int),(a.getD []).length<=1000000000->C.c f [aD aA a,aD aA b] (B ((a.getD [])==(b.getD []))) none
def DU.Spec(C:bw) (f:Nat):Prop:=∀x:Nat,C.c f [Fl x] (.int .u64 (x:Int)) none
def DW.Spec(C:bw) (f:Nat):Prop:=∀t u:Tb,t.Ok->u.Ln->C.c f [.agg t.cells,.agg u.cells] (B (nV t u)) none
def DX.Spec(C:bw) (f:Nat):Prop:=∀b:Option (List Int),(b.getD []).length<=900000->qd (b.getD [])->C.c f [aD dD b] (aD dD (some (mg (b.getD [])))) none
theorem Aj(b:Bool):b=false\/b=true:=by cases b<;>simp
section
variable{P:Program} (hm:P.follows .mixedOrders=true) {f:Nat}
include hm
theorem DT.ok(hc:de P f=some nS):DT.Spec (Pure P) f:=by
 intro a b ha
 obtain⟨l,hl⟩:∃l,l=a.getD []:=⟨_,rfl⟩
 obtain⟨m,hm'⟩:∃m,m=b.getD []:=⟨_,rfl⟩
 rw[<-hl]at ha⊢;rw[<-hm']
 refine aB hm hc (by show 2<=26;decide) (ax (keep:=[]) (i:=0) ?_)
 try simp only[I,B,D,RX,↓KW,seval,nS,Z.H,<-hl,<-hm']
 refine aq (fun h=>?_) (fun h=>?_)<;>try simp only[I,B,D,RX,↓KW,seval,h]
 ·have h:¬l.length=m.length:=by simp only[bne_iff_ne,ne_eq]at h;omega
  have:(l==m)=false:=by rw[beq_eq_false_iff_ne];intro e;exact h (by rw[e])
  simp[this]
 ·have h:l.length=m.length:=by simp at h;omega
  refine aH (fun i:Nat=>(⟨[(5,.dat (I i) none),(0,.dat (aD aA a) none),(1,.dat (aD aA b) none)],[],[],400⟩:S)) (fun i=>l.length-i) (fun i=>i<=l.length/\l.take i=m.take i) ?_ 0 ⟨by omega,rfl⟩ ?_
  ·intro i hi A back
   obtain⟨hi,ht⟩:=hi;try simp only[I,B,D,RX,↓KW,seval,<-hl,<-hm']
   refine aq (fun h2=>?_) (fun h2=>?_)<;>try simp only[I,B,D,RX,↓KW,seval,h2]
   ·have h3:i<l.length:=by have:=of_decide_eq_true h2;omega
    obtain⟨x,hx⟩:∃x,l[i]? =some x:=⟨l[i],by simp[h3]⟩
    obtain⟨y,hy⟩:∃y,m[i]? =some y:=⟨m[i]'(by omega),by simp[show i<m.length by omega]⟩
    have hw:=aF (k:=i) (by omega)
    refine⟨⟨by omega,by first|omega|(rw[<-hl];omega)⟩,?_⟩
    try simp only[I,B,D,RX,↓KW,seval,<-hl,<-hm',hx,aA]
    refine⟨⟨by omega,by first|omega|(rw[<-hm'];omega)⟩,?_⟩
    try simp only[I,B,D,RX,↓KW,seval,<-hl,<-hm',hy,aA]
    refine aq (fun h4=>?_) (fun h4=>?_)<;>try simp only[I,B,D,RX,↓KW,seval,h4]
    ·have hne:¬x=y:=by simpa using h4
     have:(l==m)=false:=by rw[beq_eq_false_iff_ne];intro e;rw[e]at hx;rw[hx]at hy;exact hne (Option.some.inj hy)
     rw[this]
    ·have hxy:x=y:=by simpa using h4
     refine back (i+1) _ ⟨by omega,by rw[List.take_add_one,List.take_add_one,ht,hx,hy,hxy]⟩ (by omega) ?_
     refine ah (by decide) ?_ ?_ ?_ ?_<;>simp[LX,I,B,D,hw]
   ·have:i=l.length:=by have:=of_decide_eq_false h2;omega
    have:(l==m)=true:=by rw[beq_iff_eq];rw[this,List.take_length,h,List.take_length]at ht;exact ht
    rw[this]
  ·refine ah (by decide) ?_ ?_ ?_ ?_<;>simp[LX,I,B,D]
theorem DU.ok(hc:de P f=some tE):DU.Spec (Pure P) f:=by
 intro x
 refine aB hm hc (by show 1<=5;decide) (ax (keep:=[]) (i:=0) ?_)
 try simp only[I,B,D,RX,↓KW,seval,tE,Z.H]
theorem DX.ok{fC fP:Nat} (hc:de P f=some (tI fC fP)) (hC:Hq.Spec (Pure P) fC) (hP:B8.Spec (Pure P) fP):DX.Spec (Pure P) f:=by
 intro b hb hB
 have cC:=hC 0xffff#16 b (by omega) hB
 obtain⟨w,hw⟩:∃w,w=jR 0xffff#16 (b.getD []):=⟨_,rfl⟩
 have cP:=hP b 2 ((jR 0xffff#16 (b.getD [])).toNat:Int) (by omega)
 have he:aD dD (bf (sX (b.getD []) 2 ((jR 0xffff#16 (b.getD [])).toNat:Int)))=aD dD (some (mg (b.getD []))):=by
  rw[show(2:Int)=((2:Nat):Int)from rfl,sO _ (by omega)]
  unfold bf
  rw[if_neg (by intro e;have:=congrArg List.length e;rw[List.length_append,dA]at this;simp at this)]
  rfl
 rw[he]at cP;rw[<-hw]at cC cP
 have hwr:IntKind.i64.wrap (w.toNat:Int)=w.toNat:=eO (by omega) (by have:=w.isLt;omega)
 refine aB hm hc (by show 1<=8;decide) (ax (keep:=[]) (i:=0) ?_)
 try simp only[I,B,D,RX,↓KW,seval,tI,Z.H]
 refine ai cC ?_;try simp only[I,B,D,RX,↓KW,seval,U,hwr]
 refine ai cP ?_;try simp only[I,B,D,RX,↓KW,seval]
end
theorem sQ{α β:Type} {g:α->β} {l m:List α} {i:Nat} {x y:α} (hx:l[i]? =some x) (hy:m[i]? =some y) (ht:(l.take i).map g=(m.take i).map g) (he:g x=g y):(l.take (i+1)).map g=(m.take (i+1)).map g:=by
 rw[List.take_add_one,List.take_add_one,hx,hy,List.map_append,List.map_append,ht];simp[he]
theorem ya{α β:Type} [DecidableEq β] {g:α->β} {l m:List α} {i:Nat} {x y:α} (hx:l[i]? =some x) (hy:m[i]? =some y) (he:g x≠g y):decide (l.map g=m.map g)=false:=by
 rw[decide_eq_false_iff_not];intro e
 have h1:=congrArg (·[i]?) e
 simp only[List.getElem?_map,hx,hy,Option.map_some,Option.some.injEq]at h1;exact he h1
theorem vN{α β:Type} [DecidableEq β] {g:α->β} {l m:List α} {i:Nat} (h:l.length=m.length) (hi:i=l.length) (ht:(l.take i).map g=(m.take i).map g):decide (l.map g=m.map g)=true:=by
 rw[decide_eq_true_iff];rw[hi,List.take_length,h,List.take_length]at ht;exact ht
theorem Cu{α β:Type} [DecidableEq β] {g:α->β} {l m:List α} (h:l.length≠m.length):decide (l.map g=m.map g)=false:=by
 rw[decide_eq_false_iff_not];intro e;have:=congrArg List.length e;simp at this;exact h this
section
variable{P:Program} (hm:P.follows .mixedOrders=true) {f:Nat}
include hm
theorem DW.ok{e fI fB:Nat} (hc:de P f=some (dI e fI fB)) (hI:DT.Spec (Pure P) fI) (hB:DU.Spec (Pure P) fB):DW.Spec (Pure P) f:=by
 intro t u ht hu
 have h:=ht.ln
 have q1:=Bk 8 t.phases u.phases h.phases hu.phases
 have q2:=zW t.conflict u.conflict 8 [] [] [] h.conflict hu.conflict
 have q3:=zW t.bp u.bp 8 [] [] [] h.bp hu.bp
 simp only[List.append_nil,bt,Option.map_some,Bool.and_true]at q2 q3
 change bt [.b,.i,.i,.i,.i,.i,.i,.i,.i,.i,.i,.b,.b,.b,.i,.i,.i,.i,.i,.i,.i,.i,.i,.i,.b,.b,.b,.i,.i,.i,.i,.i,.i,.i,.i,.i,.i,.b,.b,.b,.i,.i,.i,.i,.i,.i,.i,.i,.i,.i,.b,.b,.b,.i,.i,.i,.i,.i,.i,.i,.i,.i,.i,.b,.b,.b,.i,.i,.i,.i,.i,.i,.i,.i,.i,.i,.b,.b,.b,.i,.i,.i,.i,.i,.i,.i,.i,.i,.i,.b,.b,.b,.i,.i,.i,.i,.i,.i,.i,.i,.i,.i,.b,.b] _ _=_ at q1
 change bt [.i,.i,.i,.i,.i,.i,.i,.i] _ _=_ at q2
 change bt [.i,.i,.i,.i,.i,.i,.i,.i] _ _=_ at q3
 have w1:=ht.groups
 have w2:=ht.WX
 have w3:=ht.aR
 have w4:=ht.aX
 have l1:=h.len
 have l2:=hu.len
 have p1:=Kt h
 have p2:=Kt hu
 have p3:=Ku h
 have p4:=Ku hu
 have p5:=Of h
 have p6:=Of hu
 have g1:=zL h
 have g2:=zL hu
 have g3:=h.xC
 have g4:=hu.xC
 have g5:=h.vz
 have g6:=hu.vz
 have g7:=h.xD
 have g8:=hu.xD
 obtain⟨n1,n2,n3,n4,n5,n6,n7⟩:=vD h;obtain⟨m1,m2,m3,m4,m5,m6,m7⟩:=vD hu
 have hs:=Ks t u
 have x1:(false !=true)=true:=rfl
 have x2:(true !=true)=false:=rfl
 have k1:t.cells.take 104=t.phases.flatMap Ph.cells:=List.take_left' (by rw[aY Ph.len,h.phases])
 have k2:u.cells.take 104=u.phases.flatMap Ph.cells:=List.take_left' (by rw[aY Ph.len,hu.phases])
 have faA:=And.intro l1 (And.intro l2 (And.intro q1 (And.intro q2 (And.intro q3 (And.intro p1 (And.intro p2 (And.intro p3 (And.intro p4 (And.intro p5 (And.intro p6 (And.intro g1 (And.intro g2 (And.intro g3 (And.intro g4 (And.intro g5 (And.intro g6 (And.intro g7 (And.intro g8 (And.intro k1 (And.intro k2 (And.intro x1 (x2))))))))))))))))))))))
 rcases Aj (decide (t.phases=u.phases))with b1|b1
 ·have hs':nV t u=false:=by rw[hs,b1];rfl
  rw[hs']
  refine aB hm hc (by show 2<=243;decide) (ax (keep:=[]) (i:=0) ?_)
  try simp only[I,B,D,RY,↓KW,seval,dI,Z.H,faA,b1]
  all_goals rfl
 rcases Aj (decide (t.conflict=u.conflict))with b3|b3
 ·have hs':nV t u=false:=by rw[hs,b3];simp
  rw[hs']
  refine aB hm hc (by show 2<=243;decide) (ax (keep:=[]) (i:=0) ?_)
  try simp only[I,B,D,RY,↓KW,seval,dI,Z.H,faA,b1,b3]
  all_goals rfl
 rcases Aj (decide (t.bp=u.bp))with b12|b12
 ·have hs':nV t u=false:=by rw[hs,b12];simp
  rw[hs']
  refine aB hm hc (by show 2<=243;decide) (ax (keep:=[]) (i:=0) ?_)
  try simp only[I,B,D,RY,↓KW,seval,dI,Z.H,faA,b1,b3,b12]
  all_goals rfl
 rcases Aj (((t.groups.getD []).length:Int) !=((u.groups.getD []).length:Int))with e1|e1
 rotate_left
 ·have hs':nV t u=false:=by rw[hs,Cu (l:=t.groups.getD []) (m:=u.groups.getD []) (g:=Ec) (by simp at e1;omega)];simp
  rw[hs']
  refine aB hm hc (by show 2<=243;decide) (ax (keep:=[]) (i:=0) ?_)
  try simp only[I,B,D,RY,↓KW,seval,dI,Z.H,faA,b1,b3,b12,e1]
  all_goals rfl
 have e1':(t.groups.getD []).length=(u.groups.getD []).length:=by simp at e1;omega
 rcases Aj (((t.az.getD []).length:Int) !=((u.az.getD []).length:Int))with e2|e2
 rotate_left
 ·have hs':nV t u=false:=by rw[hs,Cu (l:=t.az.getD []) (m:=u.az.getD []) (g:=id) (by simp at e2;omega)];simp
  rw[hs']
  refine aB hm hc (by show 2<=243;decide) (ax (keep:=[]) (i:=0) ?_)
  try simp only[I,B,D,RY,↓KW,seval,dI,Z.H,faA,b1,b3,b12,e1,e2]
  all_goals rfl
 have e2':(t.az.getD []).length=(u.az.getD []).length:=by simp at e2;omega
 rcases Aj (((t.aR.getD []).length:Int) !=((u.aR.getD []).length:Int))with e3|e3
 rotate_left
 ·have hs':nV t u=false:=by rw[hs,Cu (l:=t.aR.getD []) (m:=u.aR.getD []) (g:=id) (by simp at e3;omega)];simp
  rw[hs']
  refine aB hm hc (by show 2<=243;decide) (ax (keep:=[]) (i:=0) ?_)
  try simp only[I,B,D,RY,↓KW,seval,dI,Z.H,faA,b1,b3,b12,e1,e2,e3]
  all_goals rfl
 have e3':(t.aR.getD []).length=(u.aR.getD []).length:=by simp at e3;omega
 rcases Aj (((t.aX.getD []).length:Int) !=((u.aX.getD []).length:Int))with e4|e4
 rotate_left
 ·have hs':nV t u=false:=by rw[hs,Cu (l:=t.aX.getD []) (m:=u.aX.getD []) (g:=id) (by simp at e4;omega)];simp
  rw[hs']
  refine aB hm hc (by show 2<=243;decide) (ax (keep:=[]) (i:=0) ?_)
  try simp only[I,B,D,RY,↓KW,seval,dI,Z.H,faA,b1,b3,b12,e1,e2,e3,e4]
  all_goals rfl
 have e4':(t.aX.getD []).length=(u.aX.getD []).length:=by simp at e4;omega
 have cI:=hI (some [t.extend,t.cU,t.start,t.revert,t.least,t.dw,t.share]) (some [u.extend,u.cU,u.start,u.revert,u.least,u.dw,u.share]) (by simp)
 rw[Option.getD_some,Option.getD_some]at cI
 have faN:=And.intro n1 (And.intro n2 (And.intro n3 (And.intro n4 (And.intro n5 (And.intro n6 (And.intro n7 (And.intro m1 (And.intro m2 (And.intro m3 (And.intro m4 (And.intro m5 (And.intro m6 (m7)))))))))))))
 rcases Aj ([t.extend,t.cU,t.start,t.revert,t.least,t.dw,t.share]==[u.extend,u.cU,u.start,u.revert,u.least,u.dw,u.share])with b5|b5
 ·have hs':nV t u=false:=by
   rw[hs];rw[beq_eq_false_iff_ne]at b5;rw[Bool.eq_false_iff];intro hc;simp only[Bool.and_eq_true,beq_iff_eq]at hc;obtain⟨⟨⟨⟨⟨⟨⟨⟨_,c1⟩,c2⟩,c3⟩,c4⟩,c5⟩,_⟩,c6⟩,c7⟩:=hc
   exact b5 (by rw[c1,c2,c3,c4,c5,c6,c7])
  rw[hs'];rw[b5]at cI
  refine aB hm hc (by show 2<=243;decide) (ax (keep:=[]) (i:=0) ?_)
  try simp only[I,B,D,RY,↓KW,seval,dI,Z.H,faA,b1,b3,b12,e1,e2,e3,e4,faN]
  refine ai cI ?_;try simp only[I,B,D,RY,↓KW,seval]
  all_goals rfl
 rw[b5]at cI
 have hs2:nV t u=(decide ((t.groups.getD []).map Ec=(u.groups.getD []).map Ec)&&decide ((t.az.getD []).map id=(u.az.getD []).map id)&&decide ((t.aR.getD []).map id=(u.aR.getD []).map id)&&decide ((t.aX.getD []).map id=(u.aX.getD []).map id)):=by
  rw[hs,b1,b3,b12];rw[beq_iff_eq]at b5;simp only[List.cons.injEq]at b5;obtain⟨c1,c2,c3,c4,c5,c6,c7,_⟩:=b5;simp[c1,c2,c3,c4,c5,c6,c7]
 rw[hs2];clear hs hs2
 refine aB hm hc (by show 2<=243;decide) (ax (keep:=[2,5,8,11]) (i:=0) ?_)
 try simp only[I,B,D,RY,↓KW,seval,dI,Z.H,faA,b1,b3,b12,e1,e2,e3,e4,faN]
 refine ai cI ?_;try simp only[I,B,D,RY,↓KW,seval]
 try simp only[I,B,D,RY,↓KW,seval,faA]
 refine kB (.exit 0) (fun _:Unit=>(⟨[(2,.ptr 4 0),(3,.ptr 5 0)],[(5,⟨u.cells,[]⟩),(4,⟨t.cells,[]⟩)],[],400⟩:S)) (fun _=>decide ((t.groups.getD []).map Ec=(u.groups.getD []).map Ec)=true) (fun _=>rfl) ?_ ?_
 ·refine aH (fun i:Nat=>(⟨[(5,.dat (I i) none),(2,.ptr 4 0),(3,.ptr 5 0)],[(5,⟨u.cells,[]⟩),(4,⟨t.cells,[]⟩)],[],400⟩:S)) (fun i=>(t.groups.getD []).length-i) (fun i=>i<=(t.groups.getD []).length/\((t.groups.getD []).take i).map Ec=((u.groups.getD []).take i).map Ec) ?_ 0 ⟨by omega,rfl⟩ ?_
  ·intro i hi A back
   obtain⟨hi,htk⟩:=hi
   have hwi:=aF (k:=i) (by omega)
   try simp only[I,B,D,RY,↓KW,seval,faA]
   refine aq (fun h3=>?_) (fun h3=>?_)<;>try simp only[I,B,D,RY,↓KW,seval,h3]
   ·have h4:i<(t.groups.getD []).length:=by have:=of_decide_eq_true h3;omega
    obtain⟨x,hx⟩:∃x,(t.groups.getD [])[i]? =some x:=⟨(t.groups.getD [])[i]'h4,List.getElem?_eq_getElem _⟩
    obtain⟨y,hy⟩:∃x,(u.groups.getD [])[i]? =some x:=⟨(u.groups.getD [])[i]'(by omega),List.getElem?_eq_getElem _⟩
    have hb1:(0:Int)<=(i:Int)/\(i:Int)<((t.groups.getD []).length:Int):=by omega
    have hb2:(0:Int)<=(i:Int)/\(i:Int)<((u.groups.getD []).length:Int):=by omega
    have hno:∀_:Ec x≠Ec y,decide ((t.groups.getD []).map Ec=(u.groups.getD []).map Ec)=false:=fun he=>ya hx hy he
    have r1:=ht.rows x (List.mem_of_getElem? hx)
    have cA:=hI x.a y.a (by omega)
    have cB:=hI x.b y.b (by omega)
    have hgx:x.cells[0]? =some (aD aA x.a)/\x.cells[1]? =some (aD aA x.b)/\x.cells.length=2/\(x.cells.drop 1)[0]? =some (aD aA x.b):=⟨rfl,rfl,rfl,rfl⟩
    have hgy:y.cells[0]? =some (aD aA y.a)/\y.cells[1]? =some (aD aA y.b)/\y.cells.length=2/\(y.cells.drop 1)[0]? =some (aD aA y.b):=⟨rfl,rfl,rfl,rfl⟩
    try simp only[I,B,D,RY,↓KW,seval,hb1,hb2,hx,hy,hgx,hgy,faA]
    refine ai cA ?_
    rcases Aj (x.a.getD []==y.a.getD [])with c1|c1
    ·have hn:=hno (fun he=>by rw[beq_eq_false_iff_ne]at c1;simp only[Ec,Gr.mk.injEq,Option.some.injEq]at he;exact c1 he.1)
     try simp only[I,B,D,RY,↓KW,seval,c1]
     refine .inr ⟨(by intro h;cases h),?_⟩
     try simp only[I,B,D,RY,↓KW,seval,c1]
     rw[hn]
     all_goals rfl
    try simp only[I,B,D,RY,↓KW,seval,c1,hb1,hb2,hx,hy,hgx,hgy,faA]
    refine ai cB ?_
    rcases Aj (x.b.getD []==y.b.getD [])with c2|c2
    ·have hn:=hno (fun he=>by rw[beq_eq_false_iff_ne]at c2;simp only[Ec,Gr.mk.injEq,Option.some.injEq]at he;exact c2 he.2)
     try simp only[I,B,D,RY,↓KW,seval,c2]
     refine .inr ⟨(by intro h;cases h),?_⟩
     try simp only[I,B,D,RY,↓KW,seval,c2]
     rw[hn]
     all_goals rfl
    try simp only[I,B,D,RY,↓KW,seval,c2]
    rw[beq_iff_eq]at c1 c2
    refine back (i+1) _ ⟨by omega,sQ hx hy htk (by unfold Ec;rw[c1,c2])⟩ (by omega) ?_
    refine ah (by decide) ?_ ?_ ?_ ?_<;>simp[LX,I,B,D,hwi]
   ·have h4:i=(t.groups.getD []).length:=by have:=of_decide_eq_false h3;omega
    refine gS () (vN e1' h4 htk) ?_
    refine ah (by decide) ?_ ?_ ?_ ?_<;>simp[LX,I,B,D]
  ·refine ah (by decide) ?_ ?_ ?_ ?_<;>simp[LX,I,B,D]
 ·intro _ hgroups
  try simp only[I,B,D,RY,↓KW,seval,faA]
  refine kB (.exit 2) (fun _:Unit=>(⟨[(2,.ptr 4 0),(3,.ptr 5 0)],[(5,⟨u.cells,[]⟩),(4,⟨t.cells,[]⟩)],[],400⟩:S)) (fun _=>decide ((t.az.getD []).map id=(u.az.getD []).map id)=true) (fun _=>rfl) ?_ ?_
  ·refine aH (fun i:Nat=>(⟨[(6,.dat (I i) none),(2,.ptr 4 0),(3,.ptr 5 0)],[(5,⟨u.cells,[]⟩),(4,⟨t.cells,[]⟩)],[],400⟩:S)) (fun i=>(t.az.getD []).length-i) (fun i=>i<=(t.az.getD []).length/\((t.az.getD []).take i).map id=((u.az.getD []).take i).map id) ?_ 0 ⟨by omega,rfl⟩ ?_
   ·intro i hi A back
    obtain⟨hi,htk⟩:=hi
    have hwi:=aF (k:=i) (by omega)
    try simp only[I,B,D,RY,↓KW,seval,faA]
    refine aq (fun h3=>?_) (fun h3=>?_)<;>try simp only[I,B,D,RY,↓KW,seval,h3]
    ·have h4:i<(t.az.getD []).length:=by have:=of_decide_eq_true h3;omega
     obtain⟨x,hx⟩:∃x,(t.az.getD [])[i]? =some x:=⟨(t.az.getD [])[i]'h4,List.getElem?_eq_getElem _⟩
     obtain⟨y,hy⟩:∃x,(u.az.getD [])[i]? =some x:=⟨(u.az.getD [])[i]'(by omega),List.getElem?_eq_getElem _⟩
     have hb1:(0:Int)<=(i:Int)/\(i:Int)<((t.az.getD []).length:Int):=by omega
     have hb2:(0:Int)<=(i:Int)/\(i:Int)<((u.az.getD []).length:Int):=by omega
     have hno:∀_:id x≠id y,decide ((t.az.getD []).map id=(u.az.getD []).map id)=false:=fun he=>ya hx hy he
     have u7:∀p:fy,setCells [.int .i64 0,.float .f64 0,.float .f64 0,.float .f64 0,.float .f64 0,.int .i64 0,.int .i64 0] 0 p.cells=p.cells:=fun p=>dP rfl
     have v1:=u7 x
     have v2:=u7 y
     simp only[fy.cells,I,B,Fl]at v1 v2;try simp only[I,B,D,RY,↓KW,seval,hb1,hb2,hx,hy,fy.len,faA]
     refine uW rfl ?_;try simp only[I,B,D,RY,↓KW,seval,hb1,hb2,hx,hy,fy.len,faA]
     try simp only[I,B,D,RY,↓KW,seval,v1,v2,fy.cells,Fl]
     rcases Aj (x.phase !=y.phase)with d0|d0
     rotate_left
     ·try simp only[I,B,D,RY,↓KW,seval,d0]
      refine .inr ⟨(by intro h;cases h),?_⟩
      try simp only[I,B,D,RY,↓KW,seval,d0]
      rw[hgroups,hno (fun he=>by have he:x=y:=he;rw[he]at d0;simp at d0)]
      all_goals rfl
     try simp only[I,B,D,RY,↓KW,seval,d0]
     rcases Aj (x.maxOn !=y.maxOn)with d1|d1
     rotate_left
     ·try simp only[I,B,D,RY,↓KW,seval,d1]
      refine .inr ⟨(by intro h;cases h),?_⟩
      try simp only[I,B,D,RY,↓KW,seval,d1]
      rw[hgroups,hno (fun he=>by have he:x=y:=he;rw[he]at d1;simp at d1)]
      all_goals rfl
     try simp only[I,B,D,RY,↓KW,seval,d1]
     rcases Aj (x.iF !=y.iF)with d2|d2
     rotate_left
     ·try simp only[I,B,D,RY,↓KW,seval,d2]
      refine .inr ⟨(by intro h;cases h),?_⟩
      try simp only[I,B,D,RY,↓KW,seval,d2]
      rw[hgroups,hno (fun he=>by have he:x=y:=he;rw[he]at d2;simp at d2)]
      all_goals rfl
     try simp only[I,B,D,RY,↓KW,seval,d2]
     refine ai (hB x.on) ?_;try simp only[I,B,D,RY,↓KW,seval]
     refine ai (hB y.on) ?_
     rcases Aj ((x.on:Int) !=(y.on:Int))with d3|d3
     rotate_left
     ·try simp only[I,B,D,RY,↓KW,seval,d3]
      refine .inr ⟨(by intro h;cases h),?_⟩
      try simp only[I,B,D,RY,↓KW,seval,d3]
      rw[hgroups,hno (fun he=>by have he:x=y:=he;rw[he]at d3;simp at d3)]
      all_goals rfl
     try simp only[I,B,D,RY,↓KW,seval,d3]
     refine ai (hB x.off) ?_;try simp only[I,B,D,RY,↓KW,seval]
     refine ai (hB y.off) ?_
     rcases Aj ((x.off:Int) !=(y.off:Int))with d4|d4
     rotate_left
     ·try simp only[I,B,D,RY,↓KW,seval,d4]
      refine .inr ⟨(by intro h;cases h),?_⟩
      try simp only[I,B,D,RY,↓KW,seval,d4]
      rw[hgroups,hno (fun he=>by have he:x=y:=he;rw[he]at d4;simp at d4)]
      all_goals rfl
     try simp only[I,B,D,RY,↓KW,seval,d4]
     refine ai (hB x.delay) ?_;try simp only[I,B,D,RY,↓KW,seval]
     refine ai (hB y.delay) ?_
     rcases Aj ((x.delay:Int) !=(y.delay:Int))with d5|d5
     rotate_left
     ·try simp only[I,B,D,RY,↓KW,seval,d5]
      refine .inr ⟨(by intro h;cases h),?_⟩
      try simp only[I,B,D,RY,↓KW,seval,d5]
      rw[hgroups,hno (fun he=>by have he:x=y:=he;rw[he]at d5;simp at d5)]
      all_goals rfl
     try simp only[I,B,D,RY,↓KW,seval,d5]
     refine ai (hB x.extend) ?_;try simp only[I,B,D,RY,↓KW,seval]
     refine ai (hB y.extend) ?_
     rcases Aj ((x.extend:Int) !=(y.extend:Int))with d6|d6
     rotate_left
     ·try simp only[I,B,D,RY,↓KW,seval,d6]
      refine .inr ⟨(by intro h;cases h),?_⟩
      try simp only[I,B,D,RY,↓KW,seval,d6]
      rw[hgroups,hno (fun he=>by have he:x=y:=he;rw[he]at d6;simp at d6)]
      all_goals rfl
     try simp only[I,B,D,RY,↓KW,seval,d6]
     have hxy:x=y:=by
      cases x;cases y;simp only[bne_eq_false_iff_eq,Int.natCast_inj]at d0 d1 d2 d3 d4 d5 d6;simp only[fy.mk.injEq];exact⟨d0,d3,d4,d5,d6,d1,d2⟩
     refine back (i+1) _ ⟨by omega,sQ hx hy htk (by rw[hxy])⟩ (by omega) ?_
     refine ah (by decide) ?_ ?_ ?_ ?_<;>simp[LX,I,B,D,hwi]
    ·have h4:i=(t.az.getD []).length:=by have:=of_decide_eq_false h3;omega
     refine gS () (vN e2' h4 htk) ?_
     refine ah (by decide) ?_ ?_ ?_ ?_<;>simp[LX,I,B,D]
   ·refine ah (by decide) ?_ ?_ ?_ ?_<;>simp[LX,I,B,D]
  ·intro _ hdetectors
   try simp only[I,B,D,RY,↓KW,seval,faA]
   refine kB (.exit 4) (fun _:Unit=>(⟨[(2,.ptr 4 0),(3,.ptr 5 0)],[(5,⟨u.cells,[]⟩),(4,⟨t.cells,[]⟩)],[],400⟩:S)) (fun _=>decide ((t.aR.getD []).map id=(u.aR.getD []).map id)=true) (fun _=>rfl) ?_ ?_
   ·refine aH (fun i:Nat=>(⟨[(9,.dat (I i) none),(2,.ptr 4 0),(3,.ptr 5 0)],[(5,⟨u.cells,[]⟩),(4,⟨t.cells,[]⟩)],[],400⟩:S)) (fun i=>(t.aR.getD []).length-i) (fun i=>i<=(t.aR.getD []).length/\((t.aR.getD []).take i).map id=((u.aR.getD []).take i).map id) ?_ 0 ⟨by omega,rfl⟩ ?_
    ·intro i hi A back
     obtain⟨hi,htk⟩:=hi
     have hwi:=aF (k:=i) (by omega)
     try simp only[I,B,D,RY,↓KW,seval,faA]
     refine aq (fun h3=>?_) (fun h3=>?_)<;>try simp only[I,B,D,RY,↓KW,seval,h3]
     ·have h4:i<(t.aR.getD []).length:=by have:=of_decide_eq_true h3;omega
      obtain⟨x,hx⟩:∃x,(t.aR.getD [])[i]? =some x:=⟨(t.aR.getD [])[i]'h4,List.getElem?_eq_getElem _⟩
      obtain⟨y,hy⟩:∃x,(u.aR.getD [])[i]? =some x:=⟨(u.aR.getD [])[i]'(by omega),List.getElem?_eq_getElem _⟩
      have hb1:(0:Int)<=(i:Int)/\(i:Int)<((t.aR.getD []).length:Int):=by omega
      have hb2:(0:Int)<=(i:Int)/\(i:Int)<((u.aR.getD []).length:Int):=by omega
      have hno:∀_:id x≠id y,decide ((t.aR.getD []).map id=(u.aR.getD []).map id)=false:=fun he=>ya hx hy he
      have hq:=Ko x y
      have hpx:bF x.cells 0 (some 11)=some (.agg x.cells):=rfl
      have hpy:bF y.cells 0 (some 11)=some (.agg y.cells):=rfl
      try simp only[I,B,D,RY,↓KW,seval,hb1,hb2,hx,hy,Rl.len',hq,hpx,hpy,faA]
      rcases Aj (Kl x y)with d0|d0
      ·try simp only[I,B,D,RY,↓KW,seval,d0,x1,x2]
       refine .inr ⟨(by intro h;cases h),?_⟩
       try simp only[I,B,D,RY,↓KW,seval,d0,x1,x2]
       rw[hgroups,hdetectors,hno (fun he=>by have he:x=y:=he;rw[he]at d0;simp[Kl]at d0)]
       all_goals rfl
      try simp only[I,B,D,RY,↓KW,seval,d0,x1,x2]
      have hxy:x=y:=by simpa[Kl]using d0
      refine back (i+1) _ ⟨by omega,sQ hx hy htk (by rw[hxy])⟩ (by omega) ?_
      refine ah (by decide) ?_ ?_ ?_ ?_<;>simp[LX,I,B,D,hwi]
     ·have h4:i=(t.aR.getD []).length:=by have:=of_decide_eq_false h3;omega
      refine gS () (vN e3' h4 htk) ?_
      refine ah (by decide) ?_ ?_ ?_ ?_<;>simp[LX,I,B,D]
    ·refine ah (by decide) ?_ ?_ ?_ ?_<;>simp[LX,I,B,D]
   ·intro _ hrails
    try simp only[I,B,D,RY,↓KW,seval,faA]
    refine kB (.exit 6) (fun _:Unit=>(⟨[(2,.ptr 4 0),(3,.ptr 5 0)],[(5,⟨u.cells,[]⟩),(4,⟨t.cells,[]⟩)],[],400⟩:S)) (fun _=>decide ((t.aX.getD []).map id=(u.aX.getD []).map id)=true) (fun _=>rfl) ?_ ?_
    ·refine aH (fun i:Nat=>(⟨[(10,.dat (I i) none),(2,.ptr 4 0),(3,.ptr 5 0)],[(5,⟨u.cells,[]⟩),(4,⟨t.cells,[]⟩)],[],400⟩:S)) (fun i=>(t.aX.getD []).length-i) (fun i=>i<=(t.aX.getD []).length/\((t.aX.getD []).take i).map id=((u.aX.getD []).take i).map id) ?_ 0 ⟨by omega,rfl⟩ ?_
     ·intro i hi A back
      obtain⟨hi,htk⟩:=hi
      have hwi:=aF (k:=i) (by omega)
      try simp only[I,B,D,RY,↓KW,seval,faA]
      refine aq (fun h3=>?_) (fun h3=>?_)<;>try simp only[I,B,D,RY,↓KW,seval,h3]
      ·have h4:i<(t.aX.getD []).length:=by have:=of_decide_eq_true h3;omega
       obtain⟨x,hx⟩:∃x,(t.aX.getD [])[i]? =some x:=⟨(t.aX.getD [])[i]'h4,List.getElem?_eq_getElem _⟩
       obtain⟨y,hy⟩:∃x,(u.aX.getD [])[i]? =some x:=⟨(u.aX.getD [])[i]'(by omega),List.getElem?_eq_getElem _⟩
       have hb1:(0:Int)<=(i:Int)/\(i:Int)<((t.aX.getD []).length:Int):=by omega
       have hb2:(0:Int)<=(i:Int)/\(i:Int)<((u.aX.getD []).length:Int):=by omega
       have hno:∀_:id x≠id y,decide ((t.aX.getD []).map id=(u.aX.getD []).map id)=false:=fun he=>ya hx hy he
       have hq:=Kq x y
       have hpx:bF x.cells 0 (some 2)=some (.agg x.cells):=rfl
       have hpy:bF y.cells 0 (some 2)=some (.agg y.cells):=rfl
       try simp only[I,B,D,RY,↓KW,seval,hb1,hb2,hx,hy,Bs.len',hq,hpx,hpy,faA]
       rcases Aj (Km x y)with d0|d0
       ·try simp only[I,B,D,RY,↓KW,seval,d0,x1,x2]
        refine .inr ⟨(by intro h;cases h),?_⟩
        try simp only[I,B,D,RY,↓KW,seval,d0,x1,x2]
        rw[hgroups,hdetectors,hrails,hno (fun he=>by have he:x=y:=he;rw[he]at d0;simp[Km]at d0)]
        all_goals rfl
       try simp only[I,B,D,RY,↓KW,seval,d0,x1,x2]
       have hxy:x=y:=by simpa[Km]using d0
       refine back (i+1) _ ⟨by omega,sQ hx hy htk (by rw[hxy])⟩ (by omega) ?_
       refine ah (by decide) ?_ ?_ ?_ ?_<;>simp[LX,I,B,D,hwi]
      ·have h4:i=(t.aX.getD []).length:=by have:=of_decide_eq_false h3;omega
       refine gS () (vN e4' h4 htk) ?_
       refine ah (by decide) ?_ ?_ ?_ ?_<;>simp[LX,I,B,D]
     ·refine ah (by decide) ?_ ?_ ?_ ?_<;>simp[LX,I,B,D]
    ·intro _ hbuses
     try simp only[I,B,D,RY,↓KW,seval]
     rw[hgroups,hdetectors,hrails,hbuses]
     all_goals rfl
end
def Can(s:Int):Prop:=0<=s/\s<256
theorem KA{s:Int} (h:Can s) {i:Nat} (h8:8<=i) (h64:i<64):tb s i=false:=by
 rw[ET s h64]
 have hp:(2:Int)^8<=2^i:=by
  have e:(2:Int)^i=2^8*2^(i-8):=by rw[<-Int.pow_add];congr 1;omega
  have:(1:Int)<=2^(i-8):=by have:=Int.pow_pos (n:=(2:Int)) (m:=i-8) (by decide);omega
  rw[e];have h2:(2:Int)^8=256:=rfl
  rw[h2];omega
 have h2:(2:Int)^8=256:=rfl
 have:s.fdiv (2^i)=0:=by
  rw[Int.fdiv_eq_ediv_of_nonneg _ (by omega)]
  exact Int.ediv_eq_zero_of_lt h.1 (by have:=h.2;omega)
 rw[this];rfl
theorem RA{x:Int} (h0:0<=x) (h1:x<18446744073709551616) (h:∀i,8<=i->i<64->tb x i=false):Can x:=by
 refine⟨h0,?_⟩
 have hn:(bv x).toNat=x.toNat:=by
  simp only[bv,BitVec.toNat_ofInt]
  have e:((2^64:Nat):Int)=18446744073709551616:=by decide
  rw[e];omega
 have:x.toNat<2^8:=by
  apply Nat.lt_pow_two_of_testBit
  intro i hi
  rcases Nat.lt_or_ge i 64 with h64|h64
  ·have:=h i hi h64
   simp only[tb,BitVec.getLsbD]at this;rw[<-hn];exact this
  ·apply Nat.testBit_lt_two_pow
   have:x.toNat<2^64:=by
    have e:(2:Nat)^64=18446744073709551616:=by decide
    omega
   exact Nat.lt_of_lt_of_le this (Nat.pow_le_pow_right (by decide) h64)
 omega
theorem zX(b:BitVec 64) (h:b.getLsbD 63=false):IntKind.i64.wrap (b.toNat:Int)=b.toNat/\(b.toNat:Int)<9223372036854775808:=by
 have:b.toNat<2^63:=by
  apply Nat.lt_pow_two_of_testBit
  intro i hi
  rcases Nat.lt_or_ge i 64 with h64|h64
  ·have:i=63:=by omega
   subst this;exact h
  ·apply Nat.testBit_lt_two_pow
   exact Nat.lt_of_lt_of_le b.isLt (Nat.pow_le_pow_right (by decide) h64)
 have e:(2:Nat)^63=9223372036854775808:=by decide
 refine⟨bC (by omega) (by omega),by omega⟩
theorem zY{b:BitVec 64} (h:∀i,8<=i->i<64->b.getLsbD i=false):Can (IntKind.i64.wrap (b.toNat:Int)):=by
 obtain⟨h1,h2⟩:=zX b (h 63 (by decide) (by decide))
 rw[h1]
 refine RA (by omega) (by omega) fun i h8 h64=>?_
 simp only[tb,Cj];exact h i h8 h64
theorem DY(l:List Int):∀k,k<=8->Can (uc l k)
 |0,_=>by show Can 0;exact⟨by decide,by decide⟩
 |k+1,h=>by
  have ih:=DY l k (by omega)
  simp only[uc];split
  ·have e:KV .i64 (uc l k) (2^k)=IntKind.i64.wrap ((bv (uc l k)|||bv (2^k)).toNat:Int):=rfl
   rw[e]
   refine zY fun i h8 h64=>?_
   rw[BitVec.getLsbD_or]
   have a:=KA ih h8 h64
   have b:=JF (p:=k) (by omega) i
   simp only[tb]at a b;rw[a,b]
   have:¬i=k:=by omega
   simp[this]
  ·exact ih
theorem F7(l:List Int):Can (N6 l):=DY l 8 (by omega)
theorem wR(s p:Int):Can (je s p):=F7 _
def NB(t:Tb) (p:Nat):Int:=t.bp.getD p 0
theorem E5(t:Tb) (p q:Int):gw t p q=gw t q p:=by
 simp only[gw];generalize(gl t p).2=b1;generalize(gl t q).2=b2;generalize(gl t p).1=s1;generalize(gl t q).1=s2;rw[Bool.and_comm b1 b2]
 congr 1
 ·congr 1
  rw[Bool.eq_iff_iff];simp only[beq_iff_eq];exact eq_comm
 ·rw[Bool.eq_iff_iff];simp only[bne_iff_ne];exact ne_comm
theorem RB:cV.Ok:=⟨rfl,rfl,rfl,by simp[cV],by simp[cV],by simp[cV],by simp[cV],by simp[cV]⟩
theorem gT{n:Int} (h1:-9223372036854775808<=n) (h2:n<=9223372036854775807):cv n=n:=bC h1 h2
structure KB (x:Ph):Prop where
 min:1<=x.min/\x.min<=12
 max:x.min<=x.max/\x.max<=36
 top:x.max<=x.top/\x.top<=50
 As:0<=x.As/\x.As<=8
 step:1<=x.step/\x.step<=6
 dO:10<=x.dO/\x.dO<=13
 red:0<=x.red/\x.red<=4
 walk:(x.walk=0/\x.ee=0)\/(1<=x.walk/\x.walk<=10/\1<=x.ee/\x.ee<=10)
 gy:0<=x.gy/\x.gy<=3/\(x.gy=3->x.walk≠0)
 on:x.on=true
theorem NC(l:Option (List Int)) (i:Int):KB (jE l i):=by
 have r0:=aS l i (n:=12) (by decide) (by decide)
 have r1:=aS l (cv (i+1)) (n:=9) (by decide) (by decide)
 have r2:=aS l (cv (i+2)) (n:=6) (by decide) (by decide)
 have r3:=aS l (cv (i+3)) (n:=4) (by decide) (by decide)
 have r4:=aS l (cv (i+4)) (n:=5) (by decide) (by decide)
 have r5:=aS l (cv (i+5)) (n:=25) (by decide) (by decide)
 have r6:=aS l (cv (i+6)) (n:=15) (by decide) (by decide)
 have r8:=aS l (cv (i+8)) (n:=10) (by decide) (by decide)
 have r9:=aS l (cv (i+8)) (n:=97) (by decide) (by decide)
 have ra:=aS l (cv (i+9)) (n:=7) (by decide) (by decide)
 have rt:0<=(bV l (cv (i+8)) 97).tdiv 10/\(bV l (cv (i+8)) 97).tdiv 10<=9:=by
  rw[Int.tdiv_eq_ediv_of_nonneg r9.1];omega
 have e0:=gT (n:=1+bV l i 12) (by omega) (by omega)
 have e5:=gT (n:=1+bV l i 12+bV l (cv (i+5)) 25) (by omega) (by omega)
 have e6:=gT (n:=1+bV l i 12+bV l (cv (i+5)) 25+bV l (cv (i+6)) 15) (by omega) (by omega)
 have e8:=gT (n:=1+bV l (cv (i+8)) 10) (by omega) (by omega)
 have e9:=gT (n:=(bV l (cv (i+8)) 97).tdiv 10) (by omega) (by omega)
 have ea:=gT (n:=1+(bV l (cv (i+8)) 97).tdiv 10) (by omega) (by omega)
 have e2:=gT (n:=1+bV l (cv (i+2)) 6) (by omega) (by omega)
 have e3:=gT (n:=10+bV l (cv (i+3)) 4) (by omega) (by omega)
 refine⟨?_,?_,?_,?_,?_,?_,?_,?_,?_,rfl⟩<;>simp only[jE,e0,e5,e6,e8,e9,ea,e2,e3]
 ·omega
 ·omega
 ·omega
 ·omega
 ·omega
 ·omega
 ·omega
 ·split
  ·right;omega
  ·left;exact⟨rfl,rfl⟩
 ·split<;>split<;>omega
theorem F8(l:Option (List Int)):∀(k i:Nat),k<=8->i<8->(Ce l k).getD i default=if i<k then jE l (10+12*i)else default
 |0,i,_,hi=>by rw[Ce,List.getD_eq_getElem?_getD,List.getElem?_replicate,if_pos hi,if_neg (by omega)];rfl
 |k+1,i,hk,hi=>by
  have ih:=F8 l k i (by omega) hi
  rw[Ce,List.getD_eq_getElem?_getD,List.getElem?_set]
  by_cases e:k=i
  ·subst e
   rw[if_pos rfl,if_pos (by rw[er];omega),if_pos (by omega)];rfl
  ·rw[if_neg e,<-List.getD_eq_getElem?_getD,ih]
   by_cases h2:i<k
   ·rw[if_pos h2,if_pos (by omega)]
   ·rw[if_neg h2,if_neg (by omega)]
def nT(l:Option (List Int)):Nat:=(bU l).2
theorem lN(l:Option (List Int)):1<=nT l/\nT l<=8:=⟨zH l,wJ l⟩
theorem Yk(l:Option (List Int)) {i:Nat} (hi:i<8):eH (bu l) i=if i<nT l then jE l (10+12*i)else default:=by
 rw[<-Rf];exact F8 l (nT l) i (lN l).2 hi
theorem zZ(l:Option (List Int)) (G:Nat) (hG:G<=8):∀g,g<=G->1<=g->(bD l G g).2<=8-(G-g)
 |0,_,h=>by omega
 |g+1,h,_=>by
  have ih:(bD l G g).2<=8-(G-1-g):=by
   rcases Nat.eq_zero_or_pos g with rfl|h1
   ·simp[bD]
   ·have:=zZ l G hG g (by omega) h1;omega
  simp only[bD,bA,bX];omega
theorem E6(l:Option (List Int)) (G:Nat) (hG:G<=8) {g:Nat} (hg:g<G):∃(gr:Gr) (m:Nat),1<=m/\(bD l G (g+1)).1=(bD l G g).1++[gr]/\(bD l G (g+1)).2=(bD l G g).2+m/\gr.a.getD []++gr.b.getD []=dY (bD l G g).2 m:=by
 have hp:(bD l G g).2+1<=bX G g:=by
  unfold bX
  rcases Nat.eq_zero_or_pos g with rfl|h1
  ·simp[bD];omega
  ·have:=zZ l G hG g (by omega) h1;omega
 refine⟨_,bA (cnt l g 0 0) (bD l G g).2 (bX G g)+bA (cnt l g 1 (bA (cnt l g 0 0) (bD l G g).2 (bX G g))) ((bD l G g).2+bA (cnt l g 0 0) (bD l G g).2 (bX G g)) (bX G g),?_,rfl,?_,?_⟩
 ·generalize hm0:bA (cnt l g 0 0) (bD l G g).2 (bX G g)=m0
  rcases Nat.eq_zero_or_pos m0 with h0|h0
  ·have hc:1<=cnt l g 1 m0:=by
    simp only[cnt]
    by_cases hz:(bV l (1+2*(g:Int)+((1:Nat):Int)) 3).toNat=0
    ·rw[if_pos ⟨trivial,hz,h0⟩];exact Nat.le_refl _
    ·rw[if_neg (fun h=>hz h.2.1)];omega
   rw[h0]at hc⊢;simp only[bA];omega
  ·omega
 ·simp only[bD];omega
 ·simp only[cO]
  generalize bA (cnt l g 0 0) (bD l G g).2 (bX G g)=m0;generalize bA (cnt l g 1 m0) ((bD l G g).2+m0) (bX G g)=m1;simp only[dY,List.range_add,List.map_append,List.map_map]
  congr 1
  apply List.map_congr_left
  intro j _;simp only[Function.comp];omega
theorem Cv{t t':Tb} (h:t.groups=t'.groups) (p q:Int):gw t p q=gw t' p q:=by
 simp only[gw,gl,fe,h]
end Go.Eng
