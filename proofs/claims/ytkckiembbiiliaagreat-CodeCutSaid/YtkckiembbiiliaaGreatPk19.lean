/- The engine and the library,part 19 of 20: what the proofs of this seat need of them. -/
import Derived.Test.YtkckiembbiiliaaGreatPk18
set_option linter.unnecessarySimpa false
set_option linter.unusedSimpArgs false
set_option linter.unusedVariables false
set_option linter.defProp false
set_option maxRecDepth 10000
set_option maxHeartbeats 4000000
namespace Go.Eng
open Go
def cH(k:Nat) (l:List Int):List Int:=l.flatMap fun n=>gV n k
def oW(l:List Nat):List Int:=l.flatMap fun(x:Nat)=>gV (IntKind.i64.wrap (x:Int)) 8
def fj(l:List Bool):List Int:=l.map EX
def kW(b:Option (List Int)) (x:List Int):Option (List Int):=if x=[]then b else some (b.getD []++x)
def Wr.Spec(α:Type) (row:α->List AV) (pre:List (Option AV)) (by':List α->List Int) (C:bz) (f:Nat):Prop:=∀(b:Option (List Int)) (o:Option (List α)) (l:List α),o.getD []=l->l.length<=1000000->(b.getD []).length+(by' l).length<=1000000->C.p f [[aF gk b]] (none::pre++[some (aF row o)]) (.qb []) none [[aF gk (kW b (by' l))]]
def xF.Spec(C:bz) (f:Nat):Prop:=∀k:Nat,1<=k->k<=8->Wr.Spec Int aD [some (I k)] (cH k) C f
def Bf.Spec(C:bz) (f:Nat):Prop:=Wr.Spec Bool (fun b=>[B b]) [] (fun l=>cH 1 (fj l)) C f
def Bg.Spec(C:bz) (f:Nat):Prop:=Wr.Spec Nat (fun x=>[Fl x]) [] oW C f
theorem DP(b:Option (List Int)) (x y:List Int):kW (kW b x) y=kW b (x++y):=by
 unfold kW
 by_cases hx:x=[]
 ·subst hx;simp
 ·by_cases hy:y=[]
  ·subst hy;simp[hx]
  ·simp[hx,hy]
theorem oX(b:Option (List Int)) (x:List Int):(kW b x).getD []=b.getD []++x:=by
 unfold kW
 by_cases hx:x=[]
 ·subst hx;simp
 ·simp[hx]
theorem F6(l:List Int) {k:Nat} (h:k<=8) (n:Int):zz l k n=l++gV n k:=by
 have:(jJ (k:Int) 0 8).toNat=k:=by unfold jJ;split<;>(try split)<;>omega
 unfold zz;rw[this]
theorem Ko(k:Nat) (l m:List Int):cH k (l++m)=cH k l++cH k m:=by simp[cH]
theorem bH(k:Nat) (l:List Int):(cH k l).length=k*l.length:=by
 induction l with
 |nil=>simp[cH]
 |cons x l ih=>
  have:cH k (x::l)=gV x k++cH k l:=by simp[cH]
  rw[this,List.length_append,dz,ih,List.length_cons,Nat.mul_succ];omega
theorem DQ{b:Option (List Int)} {x:List Int} {k:Nat} (h1:1<=k) (h:k<=8) (n:Int):AV.sl ((zz ((kW b x).getD []) k n).map gk)=aF gk (kW b (x++gV n k)):=by
 have hn:gV n k≠[]:=by intro e;have:=congrArg List.length e;rw[dz]at this;simp at this;omega
 rw[F6 _ h,oX];unfold kW
 rw[if_neg (by simp[hn])]
 simp[aF]
theorem Hr{k:Nat} {l:List Int} {i:Nat} {x:Int} (h:l[i]? =some x):cH k (l.take (i+1))=cH k (l.take i)++gV x k:=by
 rw[List.take_add_one,h];simp[cH]
theorem Ny(k:Nat) (l:List Int) (i:Nat):(cH k (l.take i)).length<=(cH k l).length:=by
 rw[bH,bH,List.length_take];exact Nat.mul_le_mul_left k (Nat.min_le_right _ _)
theorem Hs{l:List Nat} {i:Nat} {x:Nat} (h:l[i]? =some x):oW (l.take (i+1))=oW (l.take i)++gV (IntKind.i64.wrap (x:Int)) 8:=by
 rw[List.take_add_one,h];simp[oW]
theorem eW(l:List Nat):(oW l).length=8*l.length:=by
 induction l with
 |nil=>simp[oW]
 |cons x l ih=>
  have:oW (x::l)=gV (IntKind.i64.wrap (x:Int)) 8++oW l:=by simp[oW]
  rw[this,List.length_append,dz,ih,List.length_cons];omega
def Bh.Spec(C:bz) (f:Nat):Prop:=∀(b:Option (List Int)) (l:Option (List Int)),(b.getD []).length+(l.getD []).length<=900000->C.p f [[aF gk b]] [none,some (aF aD l)] (.qb []) none [[aF gk (kW b (lJ.e (l.getD [])))]]
theorem Kq(l:List Int):lJ.e l=cH 1 [(l.length:Int)]++cH 1 l:=by
 unfold lJ;rw[zP];simp[cH,cu,oV]
section
variable{P:Program} (hm:P.follows .mixedOrders=true) {f:Nat}
include hm
theorem xF.ok{fP:Nat} (hc:cZ P f=some (mg fP)) (hP:EO.Spec (Pure P) fP):xF.Spec (Pure P) f:=by
 intro k k1 k8 b o l ho hl hb
 refine bK hm hc (by show 3<=25;decide) rfl (by simp) (ay (keep:=[]) (i:=0) ?_)
 try simp only[I,B,D,RX,↓KW,seval,mg,Z.H,List.cons_append,List.nil_append,ho]
 refine aI (fun i:Nat=>(⟨[(10,.dat (I i) none),(9,.dat (I l.length) none),(8,.dat (aF aD o) none),(2,.dat (aF aD o) none),(1,.dat (I k) none),(0,.ptr 0 0)],[(0,⟨[aF gk (kW b (cH k (l.take i)))],[]⟩)],[],400⟩:S)) (fun i=>l.length-i) (fun i=>i<=l.length) ?_ 0 (by omega) ?_
 ·intro i hi A back
  have hw:=aG (k:=i) (by omega)
  try simp only[I,B,D,RX,↓KW,seval]
  refine aq (fun h=>?_) (fun h=>?_)<;>try simp only[I,B,D,RX,↓KW,seval,h]
  ·have h3:i<l.length:=by have:=of_decide_eq_true h;omega
   obtain⟨x,hx⟩:∃x,l[i]? =some x:=⟨l[i],by simp[h3]⟩
   have hle:=Ny k l i
   have cP:=hP (kW b (cH k (l.take i))) k x (by rw[oX,List.length_append];omega)
   rw[DQ k1 k8,<-Hr hx]at cP
   have hb2:(0:Int)<=(i:Int)/\(i:Int)<(l.length:Int):=by omega
   have u1:∀v w:AV,setCells [v] 0 [w]=[w]:=fun _ _=>rfl
   try simp only[I,B,D,RX,↓KW,seval,ho,hx,hb2,aD]
   refine ai cP ?_;try simp only[I,B,D,RX,↓KW,seval,u1,aP,bZ]
   refine back (i+1) _ (by omega) (by omega) (ah (by decide) ?_ ?_ ?_ ?_)<;>simp[LX,I,B,D,hw]
  ·have h3:i=l.length:=by have:=of_decide_eq_false h;omega
   subst h3;try simp only[I,B,D,RX,↓KW,seval,List.take_length]
 ·have z9:kW b (cH k [])=b:=by simp[cH,kW]
  refine ah (by decide) ?_ ?_ ?_ ?_<;>simp[LX,I,B,D,z9]
theorem Bg.ok{fP:Nat} (hc:cZ P f=some (kI fP)) (hP:Dr.Spec (Pure P) fP):Bg.Spec (Pure P) f:=by
 intro b o l ho hl hb
 refine bK hm hc (by show 2<=22;decide) rfl (by simp) (ay (keep:=[]) (i:=0) ?_)
 try simp only[I,B,D,RX,↓KW,seval,kI,Z.H,List.cons_append,List.nil_append,ho]
 refine aI (fun i:Nat=>(⟨[(8,.dat (I i) none),(7,.dat (I l.length) none),(6,.dat (aF (fun x=>[Fl x]) o) none),(1,.dat (aF (fun x=>[Fl x]) o) none),(0,.ptr 0 0)],[(0,⟨[aF gk (kW b (oW (l.take i)))],[]⟩)],[],400⟩:S)) (fun i=>l.length-i) (fun i=>i<=l.length) ?_ 0 (by omega) ?_
 ·intro i hi A back
  have hw:=aG (k:=i) (by omega)
  try simp only[I,B,D,RX,↓KW,seval]
  refine aq (fun h=>?_) (fun h=>?_)<;>try simp only[I,B,D,RX,↓KW,seval,h]
  ·have h3:i<l.length:=by have:=of_decide_eq_true h;omega
   obtain⟨x,hx⟩:∃x,l[i]? =some x:=⟨l[i],by simp[h3]⟩
   have hle:(oW (l.take i)).length<=(oW l).length:=by rw[eW,eW,List.length_take];omega
   have cP:=hP (kW b (oW (l.take i))) x (by rw[oX,List.length_append];omega)
   have ps:=DQ (b:=b) (x:=oW (l.take i)) (k:=8) (by omega) (by omega) (IntKind.i64.wrap (x:Int))
   rw[show((8:Nat):Int)=8 from rfl]at ps
   rw[ps,<-Hs hx]at cP
   have hb2:(0:Int)<=(i:Int)/\(i:Int)<(l.length:Int):=by omega
   have u1:∀v w:AV,setCells [v] 0 [w]=[w]:=fun _ _=>rfl
   try simp only[I,B,D,RX,↓KW,seval,ho,hx,hb2,Fl]
   refine ai cP ?_;try simp only[I,B,D,RX,↓KW,seval,u1,aP,bZ]
   refine back (i+1) _ (by omega) (by omega) (ah (by decide) ?_ ?_ ?_ ?_)<;>simp[LX,I,B,D,hw]
  ·have h3:i=l.length:=by have:=of_decide_eq_false h;omega
   subst h3;try simp only[I,B,D,RX,↓KW,seval,List.take_length]
 ·have z9:kW b (oW [])=b:=by simp[oW,kW]
  refine ah (by decide) ?_ ?_ ?_ ?_<;>simp[LX,I,B,D,z9]
theorem Bf.ok{fP e:Nat} (hc:cZ P f=some (jO e fP)) (hP:xF.Spec (Pure P) fP):Bf.Spec (Pure P) f:=by
 intro b o l ho hl hb
 refine bK hm hc (by show 2<=19;decide) rfl (by simp) (ay (keep:=[]) (i:=0) ?_)
 try simp only[I,B,D,RX,↓KW,seval,jO,Z.H,List.cons_append,List.nil_append,ho]
 refine aI (fun i:Nat=>(⟨[(9,.dat (I i) none),(8,.dat (I l.length) none),(7,.dat (aF (fun b=>[B b]) o) none),(1,.dat (aF (fun b=>[B b]) o) none),(0,.ptr 0 0)],[(0,⟨[aF gk (kW b (cH 1 (fj (l.take i))))],[]⟩)],[],400⟩:S)) (fun i=>l.length-i) (fun i=>i<=l.length) ?_ 0 (by omega) ?_
 ·intro i hi A back
  have hw:=aG (k:=i) (by omega)
  try simp only[I,B,D,RX,↓KW,seval]
  refine aq (fun h=>?_) (fun h=>?_)<;>try simp only[I,B,D,RX,↓KW,seval,h]
  ·have h3:i<l.length:=by have:=of_decide_eq_true h;omega
   obtain⟨x,hx⟩:∃x,l[i]? =some x:=⟨l[i],by simp[h3]⟩
   have hx2:fj (l.take (i+1))=fj (l.take i)++[EX x]:=by rw[List.take_add_one,hx];simp[fj]
   have hle:(cH 1 (fj (l.take i))).length+1<=(cH 1 (fj l)).length:=by rw[bH,bH];simp only[fj,List.length_map,List.length_take];omega
   have cP:=hP 1 (by omega) (by omega) (kW b (cH 1 (fj (l.take i)))) (some [EX x]) [EX x] rfl (by simp) (by rw[oX,List.length_append,bH 1 [EX x]];simp only[List.length_singleton];simp only at hb;omega)
   rw[DP,<-Ko,<-hx2]at cP
   have hb2:(0:Int)<=(i:Int)/\(i:Int)<(l.length:Int):=by omega
   try simp only[I,B,D,RX,↓KW,seval,ho,hx,hb2]
   cases x with
   |true=>
    try simp only[I,B,D,RX,↓KW,seval]
    refine⟨rfl,ax cP ?_⟩;try simp only[I,B,D,RX,↓KW,seval]
    refine back (i+1) _ (by omega) (by omega) (ah (by decide) ?_ ?_ ?_ ?_)<;>simp[LX,I,B,D,hw]
   |false=>
    try simp only[I,B,D,RX,↓KW,seval]
    refine⟨rfl,ax cP ?_⟩;try simp only[I,B,D,RX,↓KW,seval]
    refine back (i+1) _ (by omega) (by omega) (ah (by decide) ?_ ?_ ?_ ?_)<;>simp[LX,I,B,D,hw]
  ·have h3:i=l.length:=by have:=of_decide_eq_false h;omega
   subst h3;try simp only[I,B,D,RX,↓KW,seval,List.take_length]
 ·have z9:kW b (cH 1 (fj []))=b:=by simp[cH,kW,fj]
  refine ah (by decide) ?_ ?_ ?_ ?_<;>simp[LX,I,B,D,z9]
theorem Bh.ok{fP e:Nat} (hc:cZ P f=some (jP e fP)) (hP:xF.Spec (Pure P) fP):Bh.Spec (Pure P) f:=by
 intro b l hb
 refine bK hm hc (by show 2<=12;decide) rfl (by simp) (ay (keep:=[]) (i:=0) ?_)
 try simp only[I,B,D,RX,↓KW,seval,jP,Z.H]
 have c1:=hP 1 (by omega) (by omega) b (some [((l.getD []).length:Int)]) [((l.getD []).length:Int)] rfl (by simp) (by rw[bH];simp;omega)
 have c2:=hP 1 (by omega) (by omega) (kW b (cH 1 [((l.getD []).length:Int)])) l _ rfl (by omega) (by rw[oX,List.length_append,bH,bH];simp;omega)
 rw[DP]at c2;refine⟨rfl,ax c1 ?_⟩;try simp only[I,B,D,RX,↓KW,seval]
 refine⟨rfl,ax c2 ?_⟩;try simp only[I,B,D,RX,↓KW,seval,Kq]
end
structure Rd where
 lock:List Int
 was:Int
 DR:Int
 deriving Inhabited,DecidableEq
def Rd.cells(s:Rd):List AV:=s.lock.map I++[I s.was,I s.DR]
structure Rn where
 rL:Int
 time:Int
 fst:Int
 zK:Int
 left:Int
 VH:Int
 extra:Int
 done:Bool
 VI:Bool
 limit:Int
 up:Int
 down:Int
 deriving Inhabited,DecidableEq
def Rn.cells(r:Rn):List AV:=[I r.rL,I r.time,I r.fst,I r.zK,I r.left,I r.VH,I r.extra,B r.done,B r.VI,I r.limit,I r.up,I r.down]
theorem Rn.len(r:Rn):r.cells.length=12:=rfl
def Kr(l:List Rn):List AV:=l.flatMap Rn.cells
theorem Ht{l:List Rn} (h:l.length=8):(Kr l).length=96:=by rw[Kr,aX Rn.len,h]
def E2(s:Rd) (k:Nat):Int:=s.lock.getD k 0
def VJ(t:Tb):Nat:=min (t.bl.getD []).length 4
theorem Rd.len{s:Rd} (h:s.lock.length=4):s.cells.length=6:=by simp[Rd.cells,h]
theorem Rd.whole{s:Rd} (h:s.lock.length=4):bG s.cells 0 (some 6)=some (.agg s.cells):=by
 have:=Rd.len h
 simp[bG,this];rw[<-this,List.take_length]
def Sh.VK(s:Sh) (k:Nat) (x:Int):Sh:={s with time:=s.time.set k x}
section
variable{s:Sh} (h:s.Ok) {k:Nat} (hk:k<8) (x:Int)
include h
theorem Sh.Am:(s.VK k x).Ok:=⟨h.rL,by simp[Sh.VK,h.time],h.lU,h.zK⟩
include hk
end
structure Wf where
 group:Int
 a0:Int
 a1:Int
 VL:Bool
 deriving Inhabited,DecidableEq
def Wf.cells(r:Wf):List AV:=[I r.group,I r.a0,I r.a1,B r.VL]
structure Pr where
 VM:Int
 which:Int
 time:Int
 held:List Int
 DR:Int
 deriving Inhabited,DecidableEq
def Pr.cells(p:Pr):List AV:=I p.VM::I p.which::I p.time::(p.held.map I++[I p.DR])
structure Ch where
 on:Bool
 dQ:Int
 Ya:Int
 Xi:Int
 held:Int
 tail:Int
 out:Bool
 deriving Inhabited,DecidableEq
def Ch.cells(c:Ch):List AV:=[B c.on,I c.dQ,I c.Ya,I c.Xi,I c.held,I c.tail,B c.out]
structure Nz where
 runs:List Rn
 rings:Wf
 VN:Rd
 pre:Pr
 calls:Cs
 VO:Option (List Ch)
 deriving Inhabited,DecidableEq
def Nz.cells(s:Nz):List AV:=Kr s.runs++(s.rings.cells++(s.VN.cells++(s.pre.cells++(s.calls.cells++[aF Ch.cells s.VO]))))
structure Nz.Ok (s:Nz):Prop where
 runs:s.runs.length=8
 lock:s.VN.lock.length=4
 held:s.pre.held.length=4
section
variable{s:Nz} (h:s.Ok)
include h
theorem Nz.len:s.cells.length=117:=by
 simp[Nz.cells,Ht h.runs,Wf.cells,Rd.cells,Pr.cells,Cs.cells,h.lock,h.held]
theorem Nz.whole:bG s.cells 0 (some 117)=some (.agg s.cells):=by
 have:=Nz.len h
 simp[bG,this];rw[<-this,List.take_length]
end
theorem Ks{s:Int} {p:Nat} (hp:p<8) (i:Nat):tb (jd s p) i=(decide (i<8)&&(tb s i||decide (i=p))):=by
 rw[jd,Ob]
 by_cases h:i<8
 ·have:((i:Int)∈jt s++[(p:Int)])↔(tb s i=true\/i=p):=by
   simp only[jt,kj,List.mem_append,List.mem_filter,List.mem_map,List.mem_range,List.mem_singleton];rw[Nr h];constructor
   ·rintro(⟨_,h2⟩|h2)
    ·exact .inl h2
    ·exact .inr (by omega)
   ·rintro(h2|h2)
    ·exact .inl ⟨⟨i,h,rfl⟩,h2⟩
    ·exact .inr (by omega)
  simp[h,this]
 ·simp[h]
structure Yb (t:Tb) (s:Rd):Prop where
 len:s.lock.length=4
 DR:s.DR=0
 lo:∀k,0<=E2 s k/\E2 s k<=30
 off:∀k,VJ t<=k->E2 s k=0
 was:∀k,tb s.was k=true->k<VJ t
theorem zW:∀(l l':List Int) (n:Nat) (ks:List CK) (as bs:List AV),l.length=n->l'.length=n->bn (List.replicate n .i++ks) (l.map I++as) (l'.map I++bs)=(bn ks as bs).map fun r=>decide (l=l')&&r
 |[],[],n,ks,as,bs,h,h'=>by subst h;cases h:bn ks as bs<;>simp[h]
 |[],y::l',n,ks,as,bs,h,h'=>by simp at h h';omega
 |x::l,[],n,ks,as,bs,h,h'=>by simp at h h';omega
 |x::l,y::l',0,ks,as,bs,h,h'=>by simp at h
 |x::l,y::l',n+1,ks,as,bs,h,h'=>by
  have ih:=zW l l' n ks as bs (by simpa using h) (by simpa using h')
  simp only[List.replicate_succ,List.cons_append,List.map_cons,bn,lP,if_true,ih]
  cases bn ks as bs with
  |none=>rfl
  |some r=>
   simp only[Option.map_some,Option.some.injEq,List.cons.injEq]
   by_cases h1:x=y<;>by_cases h2:l=l'<;>simp[h1,h2]
structure Mn where
 last:List Int
 ticks:List Int
 deriving Inhabited,DecidableEq
def Mn.cells(m:Mn):List AV:=m.last.map I++m.ticks.map I
structure Mn.Ok (m:Mn):Prop where
 last:m.last.length=8
 ticks:m.ticks.length=8
theorem Mn.len{m:Mn} (h:m.Ok):m.cells.length=16:=by simp[Mn.cells,h.last,h.ticks]
theorem Mn.whole{m:Mn} (h:m.Ok):bG m.cells 0 (some 16)=some (.agg m.cells):=by
 have:=Mn.len h
 simp[bG,this];rw[<-this,List.take_length]
structure Yc (t:Tb) (m:Mn) (l:List Int):Prop where
 t:t.Ln
 m:m.Ok
 l:l.length=8
def Tb.nm(t:Tb):Tb:={t with groups:=some ((t.groups.getD []).map fun g=>⟨some (g.a.getD []),some (g.b.getD [])⟩),aA:=some (t.aA.getD []),aV:=some (t.aV.getD []),bl:=some (t.bl.getD [])}
def Kt(x y:Rl):Bool:=decide (x=y)
def Ku(x y:Bs):Bool:=decide (x=y)
theorem Kv(x y:Rl):bn [.i,.i,.i,.i,.i,.i,.i,.i,.i,.i,.i] x.cells y.cells=some (Kt x y):=by
 cases x;cases y;simp only[Rl.cells,bn,lP,I,if_true,Kt,Rl.mk.injEq,Option.some.injEq,Bool.and_true];rw[Bool.eq_iff_iff];simp
theorem Kw(x y:Bs):bn [.i,.i] x.cells y.cells=some (Ku x y):=by
 cases x;cases y;simp only[Bs.cells,bn,lP,I,if_true,Ku,Bs.mk.injEq,Option.some.injEq,Bool.and_true];rw[Bool.eq_iff_iff];simp
theorem F7:∀{ks:List CK} {as bs:List AV} {b:Bool} (_:bn ks as bs=some b) (ks':List CK) (as' bs':List AV),bn (ks++ks') (as++as') (bs++bs')=(bn ks' as' bs').map (b&& ·)
 |[],[],[],b,h,ks',as',bs'=>by
  cases h
  show bn ks' as' bs'=_
  cases bn ks' as' bs'<;>simp
 |k::ks,x::as,y::bs,b,h,ks',as',bs'=>by
  simp only[bn,List.cons_append]at h⊢
  cases hc:lP k x y with
  |none=>rw[hc]at h;cases h
  |some c=>
   rw[hc]at h
   cases hd:bn ks as bs with
   |none=>rw[hd]at h;cases h
   |some d=>
    rw[hd]at h;cases h;rw[F7 hd ks' as' bs']
    cases bn ks' as' bs'<;>simp[Bool.and_assoc]
 |[],[],_::_,_,h,_,_,_=>by simp[bn]at h
 |[],_::_,_,_,h,_,_,_=>by simp[bn]at h
 |_::_,[],_,_,h,_,_,_=>by simp[bn]at h
 |_::_,_::_,[],_,h,_,_,_=>by simp[bn]at h
def Xj:List CK:=[.b,.i,.i,.i,.i,.i,.i,.i,.i,.i,.i,.b,.b]
theorem Kx(x y:Ph):bn Xj x.cells y.cells=some (decide (x=y)):=by
 cases x;cases y;simp only[Xj,Ph.cells,bn,lP,I,B,if_true,Ph.mk.injEq,Option.some.injEq,Bool.and_true];rw[Bool.eq_iff_iff];simp
def Rv:Nat->List CK
 |0=>[]
 |n+1=>Xj++Rv n
theorem Bi:∀(n:Nat) (l m:List Ph),l.length=n->m.length=n->bn (Rv n) (l.flatMap Ph.cells) (m.flatMap Ph.cells)=some (decide (l=m))
 |0,l,m,h1,h2=>by rw[List.length_eq_zero_iff]at h1 h2;subst h1 h2;rfl
 |n+1,x::l,y::m,h1,h2=>by
  have ih:=Bi n l m (by simpa using h1) (by simpa using h2)
  rw[Rv,List.flatMap_cons,List.flatMap_cons,F7 (Kx x y),ih];simp only[Option.map_some,List.cons.injEq,Bool.decide_and]
 |n+1,[],_,h1,_=>by simp at h1
 |n+1,_::_,[],_,h2=>by simp at h2
def Ec(g:Gr):Gr:=⟨some (g.a.getD []),some (g.b.getD [])⟩
def kK(t u:Tb):Bool:=decide (t.nm=u.nm)
theorem Ky(t u:Tb):kK t u=
  (((((((((((((decide (t.phases=u.phases)&&decide ((t.groups.getD []).map Ec=(u.groups.getD []).map Ec))&&decide (t.conflict=u.conflict))&&decide ((t.aA.getD []).map id=(u.aA.getD []).map id))&&decide ((t.aV.getD []).map id=(u.aV.getD []).map id))&&decide ((t.bl.getD []).map id=(u.bl.getD []).map id))&&
   t.extend==u.extend)&&t.cV==u.cV)&&t.start==u.start)&&t.revert==u.revert)&&t.least==u.least)&&decide (t.bq=u.bq))&&t.dw==u.dw)&&t.share==u.share):=by
 rw[Bool.eq_iff_iff];cases t;cases u;simp only[kK,Tb.nm,decide_eq_true_eq,Bool.and_eq_true,beq_iff_eq,Tb.mk.injEq,Option.some.injEq,List.map_id];constructor
 ·rintro⟨a1,a2,a3,a4,a5,a6,a7,a8,a9,a10,a11,a12,a13,a14⟩
  exact⟨⟨⟨⟨⟨⟨⟨⟨⟨⟨⟨⟨⟨a1,a2⟩,a3⟩,a4⟩,a5⟩,a6⟩,a7⟩,a8⟩,a9⟩,a10⟩,a11⟩,a12⟩,a13⟩,a14⟩
 ·rintro⟨⟨⟨⟨⟨⟨⟨⟨⟨⟨⟨⟨⟨a1,a2⟩,a3⟩,a4⟩,a5⟩,a6⟩,a7⟩,a8⟩,a9⟩,a10⟩,a11⟩,a12⟩,a13⟩,a14⟩
  exact⟨a1,a2,a3,a4,a5,a6,a7,a8,a9,a10,a11,a12,a13,a14⟩
section
variable{t:Tb} (h:t.Ln)
include h
theorem Kz:bG t.cells 0 (some 104)=some (.agg (t.phases.flatMap Ph.cells)):=by
 have e:(t.phases.flatMap Ph.cells).length=104:=by rw[aX Ph.len,h.phases]
 have l:=h.len
 simp only[bG]
 rw[if_pos (by omega),List.drop_zero,Tb.cells,List.take_left' e]
theorem KA:bG t.cells 105 (some 8)=some (.agg (t.conflict.map I)):=by
 have l:=h.len
 simp only[bG]
 rw[if_pos (by omega),pU h,List.take_left' (by simp[h.conflict])]
theorem Od:bG t.cells 121 (some 8)=some (.agg (t.bq.map I)):=by
 have l:=h.len
 have e:t.cells.drop 121=(t.cells.drop 105).drop 16:=by rw[List.drop_drop]
 have e2:∀l:List AV,l.drop 16=(l.drop 8).drop 8:=fun l=>by rw[List.drop_drop]
 simp only[bG]
 rw[if_pos (by omega),e,pU h,e2,List.drop_left' (by simp[h.conflict])]
 simp only[List.drop_succ_cons,List.drop_zero]
 rw[List.take_left' (by simp[h.bq])]
end
def bC(t:Tb):List Int:=[88,66,1]++jY.e t
def dR(b:List Int):List Int:=b++gV ((iw 0xffff#16 b).toNat:Int) 2
def DS(t:Tb):AV:=if mH t=true then .qb [aF gk (some (dR (bC t))),I 0]else .qb [aF gk none,I 4]
def pY.Spec(C:bz) (f:Nat):Prop:=∀t:Tb,t.Ln->t.Fw->C.c f [.agg t.cells] (DS t) none
theorem sV(L x:List Int):kW (some L) x=some (L++x):=by
 unfold kW
 by_cases hx:x=[]
 ·subst hx;simp
 ·simp[hx]
def Xk(α:Type) (row:α->List AV) (pre:List (Option AV)) (by':List α->List Int) (C:bz) (f:Nat):Prop:=∀(L:List Int) (o:Option (List α)) (l:List α),o.getD []=l->l.length<=1000->L.length<=5000->C.p f [[aF gk (some L)]] (none::pre++[some (aF row o)]) (.qb []) none [[aF gk (some (L++by' l))]]
theorem kL{C:bz} {f:Nat} (h:xF.Spec C f) (k:Nat) (h1:1<=k) (h8:k<=8):Xk Int aD [some (I k)] (cH k) C f:=by
 intro L o l ho hl hL
 have:=h k h1 h8 (some L) o l ho (by omega) (by rw[bH,Option.getD_some];have:k*l.length<=8*1000:=Nat.mul_le_mul h8 hl;omega)
 rw[sV]at this;exact this
theorem VP{C:bz} {f:Nat} (h:Bf.Spec C f):Xk Bool (fun b=>[B b]) [] (fun l=>cH 1 (fj l)) C f:=by
 intro L o l ho hl hL
 have:=h (some L) o l ho (by omega) (by simp only[bH,Option.getD_some,fj,List.length_map];omega)
 rw[sV]at this;exact this
theorem Xl{C:bz} {f:Nat} (h:Bg.Spec C f):Xk Nat (fun x=>[Fl x]) [] oW C f:=by
 intro L o l ho hl hL
 have:=h (some L) o l ho (by omega) (by rw[eW,Option.getD_some];omega)
 rw[sV]at this;exact this
theorem VQ{C:bz} {f:Nat} (h:Bh.Spec C f) (L:List Int) (l:Option (List Int)) (hl:(l.getD []).length<=1000) (hL:L.length<=5000):C.p f [[aF gk (some L)]] [none,some (aF aD l)] (.qb []) none [[aF gk (some (L++lJ.e (l.getD [])))]]:=by
 have:=h (some L) l (by rw[Option.getD_some];omega)
 rw[sV]at this;exact this
theorem Oe(p:Ph):xO.e p=cH 1 (fj [p.on])++(cH 2 [p.min,p.C7,p.max,p.top,p.step,p.eO,p.red,p.walk,p.fc]++(cH 1 [p.iH]++cH 1 (fj [p.lock,p.rest]))):=by
 simp only[cH,fj,List.map_cons,List.map_nil,List.flatMap_cons,List.flatMap_nil,List.append_nil,List.append_assoc];rfl
theorem KB(g:Gr):wK.e g=lJ.e (g.a.getD [])++lJ.e (g.b.getD []):=rfl
theorem KC(d:gu):nF.e d=cH 1 [d.phase]++(oW [d.on,d.off,d.delay,d.extend]++cH 2 [d.maxOn,d.kg]):=by
 simp only[cH,oW,List.flatMap_cons,List.flatMap_nil,List.append_nil,List.append_assoc];rfl
theorem Of(r:Rl):Ag.e r=cH 1 [r.bars,r.clear,r.ki,r.exit]++(cH 2 [r.delay,r.green,r.lU,r.hold,r.stay,r.most]++cH 4 [r.limit]):=by
 simp only[cH,List.flatMap_cons,List.flatMap_nil,List.append_nil,List.append_assoc];rfl
theorem Og(r:Bs):zR.e r=cH 1 [r.set]++cH 2 [r.lock]:=by
 simp only[cH,List.flatMap_cons,List.flatMap_nil,List.append_nil,List.append_assoc];rfl
theorem F8{t:Tb} (h:t.Ln):jY.e t=t.phases.flatMap xO.e++(cH 1 [((t.groups.getD []).length:Int)]++((t.groups.getD []).flatMap wK.e++(cH 1 t.conflict++(cH 1 [((t.aA.getD []).length:Int)]++((t.aA.getD []).flatMap nF.e++
  (cH 1 [((t.aV.getD []).length:Int)]++((t.aV.getD []).flatMap Ag.e++(cH 1 [((t.bl.getD []).length:Int)]++((t.bl.getD []).flatMap zR.e++(cH 2 [t.extend,t.cV,t.start,t.revert,t.least]++(cH 1 t.bq++cH 4 [t.dw,t.share]))))))))))):=by
 have e:jY.e t=(xO.rep 8).e t.phases++(zS.e (t.groups.getD [])++((jN.rep 8).e t.conflict++(nw.e (t.aA.getD [])++(rR.e (t.aV.getD [])++(pW.e (t.bl.getD [])++(aT.e t.extend++(aT.e t.cV++(aT.e t.start++(aT.e t.revert++(aT.e t.least++
  (((cu 2 (by decide)).rep 8).e t.bq++(dB.e t.dw++dB.e t.share)))))))))))):=rfl
 rw[e,DE _ _ _ h.phases,DE _ _ _ h.conflict,DE _ _ _ h.bq];unfold zS nw rR pW;rw[zP,zP,zP,zP];simp only[cH,List.flatMap_cons,List.flatMap_nil,List.append_nil,List.append_assoc];rfl
theorem F9{α:Type} (row:α->List AV) (z:Nat) (hz:∀a,(row a).length=z):∀(l:List α) (i:Nat) (x:α),l[i]? =some x->bG (l.flatMap row) (i*z) (some z)=some (.agg (row x))
 |[],i,x,h=>by simp at h
 |y::l,0,x,h=>by
  have e:y=x:=by simpa using h
  subst e
  have:=C8 (pre:=[]) (mid:=row y) (post:=l.flatMap row) (off:=0) (z:=z) rfl (hz y)
  simpa using this
 |y::l,i+1,x,h=>by
  have ih:=F9 row z hz l i x (by simpa using h)
  rw[List.flatMap_cons,Nat.succ_mul];simp only[bG]at ih⊢;rw[List.length_append,hz]
  have:(row y++l.flatMap row).drop (i*z+z)=(l.flatMap row).drop (i*z):=by rw[Nat.add_comm,<-List.drop_drop,List.drop_left' (hz y)]
  rw[this]
  by_cases hc:i*z+z<=(l.flatMap row).length
  ·rw[if_pos hc]at ih;rw[if_pos (by omega)];exact ih
  ·rw[if_neg hc]at ih;cases ih
theorem vH{α:Type} {e:α->List Int} {l:List α} {i:Nat} {x:α} (h:l[i]? =some x) (S:List Int):S++(l.take (i+1)).flatMap e=(S++(l.take i).flatMap e)++e x:=by
 rw[List.take_add_one,h,List.append_assoc];simp
theorem jm{α:Type} {e:α->List Int} {z:Nat}:∀{l:List α} (_:∀x∈l,(e x).length<=z) (i:Nat),((l.take i).flatMap e).length<=z*l.length
 |[],_,i=>by simp
 |x::l,h,0=>by simp
 |x::l,h,i+1=>by
  have h1:=h x List.mem_cons_self
  have h2:=jm (l:=l) (fun y hy=>h y (List.mem_cons_of_mem _ hy)) i
  rw[List.take_succ_cons,List.flatMap_cons,List.length_append,List.length_cons,Nat.mul_succ];omega
theorem Ci(p:Ph):(xO.e p).length=22:=by rw[Oe];simp[bH,fj]
theorem zX(p:gu):(nF.e p).length=37:=by rw[KC];simp[bH,eW]
theorem Cj(p:Rl):(Ag.e p).length=20:=by rw[Of];simp[bH]
theorem Ck(p:Bs):(zR.e p).length=3:=by rw[Og];simp[bH]
theorem vI(l:List Int):(lJ.e l).length=1+l.length:=by rw[Kq];simp[bH]
theorem Cl{g:Gr} (h:lI g=true):(wK.e g).length<=18:=by
 simp only[lI,lW,Bool.and_eq_true,decide_eq_true_eq]at h;rw[KB,List.length_append,vI,vI]
 have h1:=h.1.1
 have h2:=h.2.1
 omega
theorem Bj{g:Gr} (h:lI g=true):(g.a.getD []).length<=8/\(g.b.getD []).length<=8:=by
 simp only[lI,lW,Bool.and_eq_true,decide_eq_true_eq]at h
 have h1:=h.1.1
 have h2:=h.2.1
 omega
theorem sW(t:Tb):sM (bC t):=by
 intro x hx
 rcases List.mem_append.1 hx with hx|hx
 ·have:x=88\/x=66\/x=1:=by simpa using hx
  omega
 ·exact jY.Nt t x hx
section
variable{P:Program} (hm:P.follows .mixedOrders=true) {f:Nat}
include hm
theorem pY.ok {fM eI fP eB fY fW eF fF fC:Nat} (hc:cZ P f=some (kC fM eI fP eB fY fW eF fF fC)) (hM:Hh.Spec (Pure P) fM) (hP:xF.Spec (Pure P) fP) (hY:Bf.Spec (Pure P) fY) (hW:Bh.Spec (Pure P) fW) (hF:Bg.Spec (Pure P) fF) (hC:Bc.Spec (Pure P) fC):pY.Spec (Pure P) f:=by
  intro t h hfw
  have cM:=hM t h hfw
  have hl:=h.len
  have hw:=h.whole
  by_cases hmay:mH t=true
  rotate_left
  · have hb:mH t=false:=by simpa using hmay
    have e:DS t=.qb [aF gk none,I 4]:=by unfold DS; rw [if_neg hmay]
    rw [e]
    rw [hb] at cM
    refine aC hm hc (by show 1≤236; decide) (ay (keep:=[1,4,7,10,13]) (i:=0) ?_)
    try simp only [I,B,D,RY,↓ KW,seval,kC,Z.H,hl,hw]
    refine ai cM ?_
    try simp only [I,B,D,RY,↓ KW,seval,hl,hw]
    rfl
  rw [hmay] at cM
  have e:DS t=.qb [aF gk (some (dR (bC t))),I 0]:=by unfold DS; rw [if_pos hmay]
  have hmay2:=hmay
  simp only [mH,Bool.and_eq_true,List.all_eq_true,decide_eq_true_eq] at hmay2
  obtain ⟨⟨⟨⟨⟨⟨⟨⟨_,hg1,hg2⟩,_⟩,hd1,_⟩,hr1,_⟩,hb1,_⟩,_⟩,_⟩,_⟩:=hmay2
  have g1:=B9 h
  have g2:=h.zE
  have g3:=h.xB
  have g4:=h.zF
  obtain ⟨n1,n2,n3,n4,n5,n6,n7⟩:=x5 h
  have dg1:=dY g1
  have dg2:=dY g2
  have dg3:=dY g3
  have dg4:=dY g4
  have dn1:=dY n1
  have dn2:=dY n2
  have dn3:=dY n3
  have dn4:=dY n4
  have dn5:=dY n5
  have dn6:=dY n6
  have dn7:=dY n7
  have k2:=JY h
  have k3:=JZ h
  rw [e]
  have u1:∀ v w:AV,setCells [v] 0 [w]=[w]:=fun _ _=>rfl
  refine aC hm hc (by show 1≤236; decide) (ay (keep:=[1,4,7,10,13]) (i:=0) ?_)
  try simp only [I,B,D,RY,↓ KW,seval,kC,Z.H,hl,hw]
  refine ai cM ?_
  try simp only [I,B,D,RY,↓ KW,seval,hl,hw]
  have c0:=hP 3 (by omega) (by omega) none (some [5784065]) [5784065] rfl (by decide) (by decide)
  obtain ⟨S0,hS0⟩:∃ S:List Int,S=[88,66,1]:=⟨_,rfl⟩
  have z0:kW none (cH 3 [5784065])=some S0:=by rw [hS0]; decide +kernel
  have l0:S0.length≤3:=by rw [hS0]; decide
  rw [z0] at c0
  refine ⟨rfl,ax c0 ?_⟩
  try simp only [I,B,D,RY,↓ KW,seval,hl,hw]
  have hph:t.cells.take 104=t.phases.flatMap Ph.cells:=List.take_left' (by rw [aX Ph.len,h.phases])
  have hp8:=h.phases
  try simp only [I,B,D,RY,↓ KW,seval,hl,hw,hph]
  have z13:dN.length=13:=rfl
  have u2:∀ p:Gr,setCells [AV.bM,AV.bM] 0 p.cells=p.cells:=fun p=>rfl
  have z11:ei.length=11:=rfl
  have u11:∀ p:Rl,setCells ei 0 p.cells=p.cells:=fun p=>dW rfl
  have u7:∀ p:gu,setCells [.int .i64 0,.float .f64 0,.float .f64 0,.float .f64 0,.float .f64 0,.int .i64 0,.int .i64 0] 0 p.cells=p.cells:=fun p=>dW rfl
  have u2b:∀ p:Bs,setCells [.int .i64 0,.int .i64 0] 0 p.cells=p.cells:=fun p=>dW rfl
  have u13:∀ p:Ph,setCells dN 0 p.cells=p.cells:=fun p=>dW rfl
  refine fe (.exit 0) (fun _:Unit=>(⟨[(1,.ptr 4 0),(4,.ptr 11 0)],[(11,⟨[aF gk (some (S0++(t.phases).flatMap xO.e))],[]⟩),(4,⟨t.cells,[]⟩)],[],400⟩:S)) (fun _=>True) (fun _=>rfl) ?_ ?_
  · refine aI (fun i:Nat=>(⟨[(25,.dat (I i) none),(24,.dat (.agg (t.phases.flatMap Ph.cells)) none),(1,.ptr 4 0),(4,.ptr 11 0)],[(11,⟨[aF gk (some (S0++((t.phases).take i).flatMap xO.e))],[]⟩),(4,⟨t.cells,[]⟩)],[],400⟩:S)) (fun i=>8 - i) (fun i=>i≤8) ?_ 0 (by omega) ?_
    · intro i hi A back
      have hwi:=aG (k:=i) (by omega)
      have hlen:=jm (e:=xO.e) (z:=22) (l:=t.phases) (fun x _=>by rw [Ci]; omega) i
      rw [h.phases] at hlen
      try simp only [I,B,D,RY,↓ KW,seval]
      refine aq (fun h2=>?_) (fun h2=>?_)<;>try simp only [I,B,D,RY,↓ KW,seval,h2]
      · have h3:i < 8:=by have:=of_decide_eq_true h2; omega
        obtain ⟨p,hp⟩:∃ x,(t.phases)[i]? = some x:=⟨(t.phases)[i]'(by omega),List.getElem?_eq_getElem _⟩
        have hn:=vH (e:=xO.e) hp S0
        obtain ⟨L,hL⟩:∃ L,L=S0++((t.phases).take i).flatMap xO.e:=⟨_,rfl⟩
        have hL2:L.length≤179:=by rw [hL,List.length_append]; omega
        have hb2:(0:Int)≤(i:Int)∧(i:Int) < 8:=by omega
        have hpa:=F9 Ph.cells 13 Ph.len t.phases i p hp
        have w1:=u13 p
        simp only [Ph.cells,I,B,Fl] at w1
        rw [← hL,Oe] at hn
        rw [← hL]
        have c0:=VP hY (L) (some [p.on]) [p.on] rfl (Nat.le_of_ble_eq_true rfl) (by first | omega | (simp only [List.length_append,bH,eW,fj,List.length_map,List.length_cons,List.length_nil]; omega))
        have c1:=kL hP 2 (by omega) (by omega) ((L)++(fun l=>cH 1 (fj l)) [p.on]) (some [p.min,p.C7,p.max,p.top,p.step,p.eO,p.red,p.walk,p.fc]) [p.min,p.C7,p.max,p.top,p.step,p.eO,p.red,p.walk,p.fc] rfl (Nat.le_of_ble_eq_true rfl) (by first | omega | (simp only [List.length_append,bH,eW,fj,List.length_map,List.length_cons,List.length_nil]; omega))
        have c2:=kL hP 1 (by omega) (by omega) (((L)++(fun l=>cH 1 (fj l)) [p.on])++cH 2 [p.min,p.C7,p.max,p.top,p.step,p.eO,p.red,p.walk,p.fc]) (some [p.iH]) [p.iH] rfl (Nat.le_of_ble_eq_true rfl) (by first | omega | (simp only [List.length_append,bH,eW,fj,List.length_map,List.length_cons,List.length_nil]; omega))
        have c3:=VP hY ((((L)++(fun l=>cH 1 (fj l)) [p.on])++cH 2 [p.min,p.C7,p.max,p.top,p.step,p.eO,p.red,p.walk,p.fc])++cH 1 [p.iH]) (some [p.lock,p.rest]) [p.lock,p.rest] rfl (Nat.le_of_ble_eq_true rfl) (by first | omega | (simp only [List.length_append,bH,eW,fj,List.length_map,List.length_cons,List.length_nil]; omega))
        try simp only [List.append_assoc] at c0
        try simp only [List.append_assoc] at c1
        try simp only [List.append_assoc] at c2
        try simp only [List.append_assoc] at c3
        try simp only [I,B,D,RY,↓ KW,seval,hb2,z13,Ph.len,hpa]
        try simp only [I,B,D,RY,↓ KW,seval,w1,Ph.cells]
        refine ⟨rfl,ax c0 ?_⟩
        try simp only [I,B,D,RY,↓ KW,seval,w1,Ph.cells]
        refine ⟨rfl,ax c1 ?_⟩
        try simp only [I,B,D,RY,↓ KW,seval,w1,Ph.cells]
        refine ⟨rfl,ax c2 ?_⟩
        try simp only [I,B,D,RY,↓ KW,seval,w1,Ph.cells]
        refine ⟨rfl,ax c3 ?_⟩
        try simp only [I,B,D,RY,↓ KW,seval,w1,Ph.cells]
        refine back (i + 1) _ (by omega) (by omega) ?_
        refine ah (by decide) ?_ ?_ ?_ ?_<;>simp [LX,I,B,D,hwi,hn,ef]
      · have h3:i=8:=by have:=of_decide_eq_false h2; omega
        have ht:(t.phases).take i=t.phases:=by rw [h3]; exact List.take_of_length_le (by omega)
        refine bP () trivial ?_
        refine ah (by decide) ?_ ?_ ?_ ?_<;>simp [LX,I,B,D,ht,ef]
    · refine ah (by decide) ?_ ?_ ?_ ?_<;>simp [LX,I,B,D,ef]
  · intro _ _
    obtain ⟨S1,hS1⟩:∃ S,S=S0++(t.phases).flatMap xO.e:=⟨_,rfl⟩
    rw [← hS1]
    have lS1:S1.length≤179:=by rw [hS1,List.length_append]; have:=jm (e:=xO.e) (z:=22) (l:=t.phases) (fun x _=>by rw [Ci]; omega) (t.phases).length; rw [List.take_length] at this; omega
    have c:=kL hP 1 (by omega) (by omega) S1 (some [((t.groups.getD []).length:Int)]) [((t.groups.getD []).length:Int)] rfl (Nat.le_of_ble_eq_true rfl) (by omega)
    try simp only [I,B,D,RY,↓ KW,seval,hl,g1,dg1]
    refine ⟨rfl,ax c ?_⟩
    obtain ⟨S2,hS2⟩:∃ S,S=S1++cH 1 [((t.groups.getD []).length:Int)]:=⟨_,rfl⟩
    have lS2:S2.length≤180:=by rw [hS2,List.length_append,bH]; simp only [List.length_cons,List.length_nil,h.conflict,h.bq]; omega
    rw [← hS2]
    try simp only [I,B,D,RY,↓ KW,seval,hl,g1,dg1]
    refine fe (.exit 2) (fun _:Unit=>(⟨[(1,.ptr 4 0),(4,.ptr 11 0)],[(11,⟨[aF gk (some (S2++(t.groups.getD []).flatMap wK.e))],[]⟩),(4,⟨t.cells,[]⟩)],[],400⟩:S)) (fun _=>True) (fun _=>rfl) ?_ ?_
    · refine aI (fun i:Nat=>(⟨[(76,.dat (I i) none),(75,.dat (I ((t.groups.getD []).length:Int)) none),(74,.dat (aF Gr.cells t.groups) none),(1,.ptr 4 0),(4,.ptr 11 0)],[(11,⟨[aF gk (some (S2++((t.groups.getD []).take i).flatMap wK.e))],[]⟩),(4,⟨t.cells,[]⟩)],[],400⟩:S)) (fun i=>(t.groups.getD []).length - i) (fun i=>i≤(t.groups.getD []).length) ?_ 0 (by omega) ?_
      · intro i hi A back
        have hwi:=aG (k:=i) (by omega)
        have hlen:=jm (e:=wK.e) (z:=18) (l:=t.groups.getD []) (fun x hx=>Cl (hg2 x hx)) i
        skip
        try simp only [I,B,D,RY,↓ KW,seval]
        refine aq (fun h2=>?_) (fun h2=>?_)<;>try simp only [I,B,D,RY,↓ KW,seval,h2]
        · have h3:i < (t.groups.getD []).length:=by have:=of_decide_eq_true h2; omega
          obtain ⟨p,hp⟩:∃ x,(t.groups.getD [])[i]? = some x:=⟨(t.groups.getD [])[i]'(by omega),List.getElem?_eq_getElem _⟩
          have hn:=vH (e:=wK.e) hp S2
          obtain ⟨L,hL⟩:∃ L,L=S2++((t.groups.getD []).take i).flatMap wK.e:=⟨_,rfl⟩
          have hL2:L.length≤252:=by rw [hL,List.length_append]; omega
          have hb2:(0:Int)≤(i:Int)∧(i:Int) < ((t.groups.getD []).length:Int):=by omega
          have hpl:=Bj (hg2 p (List.mem_of_getElem? hp))
          have w1:=u2 p
          simp only [Gr.cells,I,B,Fl] at w1
          rw [← hL,KB] at hn
          rw [← hL]
          have c0:=VQ hW (L) p.a (by omega) (by first | omega | (simp only [List.length_append,bH,vI]; omega))
          have c1:=VQ hW ((L)++lJ.e (p.a.getD [])) p.b (by omega) (by first | omega | (simp only [List.length_append,bH,vI]; omega))
          try simp only [List.append_assoc] at c0
          try simp only [List.append_assoc] at c1
          try simp only [I,B,D,RY,↓ KW,seval,hb2,hp]
          try simp only [I,B,D,RY,↓ KW,seval,w1,Gr.cells]
          refine ⟨rfl,ax c0 ?_⟩
          try simp only [I,B,D,RY,↓ KW,seval,w1,Gr.cells]
          refine ⟨rfl,ax c1 ?_⟩
          try simp only [I,B,D,RY,↓ KW,seval,w1,Gr.cells]
          refine back (i + 1) _ (by omega) (by omega) ?_
          refine ah (by decide) ?_ ?_ ?_ ?_<;>simp [LX,I,B,D,hwi,hn,ef]
        · have h3:i=(t.groups.getD []).length:=by have:=of_decide_eq_false h2; omega
          have ht:(t.groups.getD []).take i=t.groups.getD []:=by rw [h3]; exact List.take_of_length_le (by omega)
          refine bP () trivial ?_
          refine ah (by decide) ?_ ?_ ?_ ?_<;>simp [LX,I,B,D,ht,ef]
      · refine ah (by decide) ?_ ?_ ?_ ?_<;>simp [LX,I,B,D,ef]
    · intro _ _
      obtain ⟨S3,hS3⟩:∃ S,S=S2++(t.groups.getD []).flatMap wK.e:=⟨_,rfl⟩
      rw [← hS3]
      have lS3:S3.length≤252:=by rw [hS3,List.length_append]; have:=jm (e:=wK.e) (z:=18) (l:=t.groups.getD []) (fun x hx=>Cl (hg2 x hx)) (t.groups.getD []).length; rw [List.take_length] at this; omega
      have c:=kL hP 1 (by omega) (by omega) S3 (some t.conflict) t.conflict rfl (by rw [h.conflict]; omega) (by omega)
      try simp only [I,B,D,RY,↓ KW,seval,hl,k2,List.length_drop]
      refine ⟨rfl,ax c ?_⟩
      obtain ⟨S4,hS4⟩:∃ S,S=S3++cH 1 t.conflict:=⟨_,rfl⟩
      have lS4:S4.length≤260:=by rw [hS4,List.length_append,bH]; simp only [List.length_cons,List.length_nil,h.conflict,h.bq]; omega
      rw [← hS4]
      try simp only [I,B,D,RY,↓ KW,seval,hl,g2,dg2]
      have c:=kL hP 1 (by omega) (by omega) S4 (some [((t.aA.getD []).length:Int)]) [((t.aA.getD []).length:Int)] rfl (Nat.le_of_ble_eq_true rfl) (by omega)
      try simp only [I,B,D,RY,↓ KW,seval,hl,g2,dg2]
      refine ⟨rfl,ax c ?_⟩
      obtain ⟨S5,hS5⟩:∃ S,S=S4++cH 1 [((t.aA.getD []).length:Int)]:=⟨_,rfl⟩
      have lS5:S5.length≤261:=by rw [hS5,List.length_append,bH]; simp only [List.length_cons,List.length_nil,h.conflict,h.bq]; omega
      rw [← hS5]
      try simp only [I,B,D,RY,↓ KW,seval,hl,g2,dg2]
      refine fe (.exit 4) (fun _:Unit=>(⟨[(1,.rp t.cells),(4,.ptr 11 0)],[(11,⟨[aF gk (some (S5++(t.aA.getD []).flatMap nF.e))],[]⟩)],[],400⟩:S)) (fun _=>True) (fun _=>rfl) ?_ ?_
      · refine aI (fun i:Nat=>(⟨[(102,.dat (I i) none),(101,.dat (I ((t.aA.getD []).length:Int)) none),(100,.dat (aF gu.cells t.aA) none),(1,.rp t.cells),(4,.ptr 11 0)],[(11,⟨[aF gk (some (S5++((t.aA.getD []).take i).flatMap nF.e))],[]⟩)],[],400⟩:S)) (fun i=>(t.aA.getD []).length - i) (fun i=>i≤(t.aA.getD []).length) ?_ 0 (by omega) ?_
        · intro i hi A back
          have hwi:=aG (k:=i) (by omega)
          have hlen:=jm (e:=nF.e) (z:=37) (l:=t.aA.getD []) (fun x _=>by rw [zX]; omega) i
          skip
          try simp only [I,B,D,RY,↓ KW,seval]
          refine aq (fun h2=>?_) (fun h2=>?_)<;>try simp only [I,B,D,RY,↓ KW,seval,h2]
          · have h3:i < (t.aA.getD []).length:=by have:=of_decide_eq_true h2; omega
            obtain ⟨p,hp⟩:∃ x,(t.aA.getD [])[i]? = some x:=⟨(t.aA.getD [])[i]'(by omega),List.getElem?_eq_getElem _⟩
            have hn:=vH (e:=nF.e) hp S5
            obtain ⟨L,hL⟩:∃ L,L=S5++((t.aA.getD []).take i).flatMap nF.e:=⟨_,rfl⟩
            have hL2:L.length≤853:=by rw [hL,List.length_append]; omega
            have hb2:(0:Int)≤(i:Int)∧(i:Int) < ((t.aA.getD []).length:Int):=by omega
            skip
            have w1:=u7 p
            simp only [gu.cells,I,B,Fl] at w1
            rw [← hL,KC] at hn
            rw [← hL]
            have c0:=kL hP 1 (by omega) (by omega) (L) (some [p.phase]) [p.phase] rfl (Nat.le_of_ble_eq_true rfl) (by first | omega | (simp only [List.length_append,bH,eW,fj,List.length_map,List.length_cons,List.length_nil]; omega))
            have c1:=Xl hF ((L)++cH 1 [p.phase]) (some [p.on,p.off,p.delay,p.extend]) [p.on,p.off,p.delay,p.extend] rfl (Nat.le_of_ble_eq_true rfl) (by first | omega | (simp only [List.length_append,bH,eW,fj,List.length_map,List.length_cons,List.length_nil]; omega))
            have c2:=kL hP 2 (by omega) (by omega) (((L)++cH 1 [p.phase])++oW [p.on,p.off,p.delay,p.extend]) (some [p.maxOn,p.kg]) [p.maxOn,p.kg] rfl (Nat.le_of_ble_eq_true rfl) (by first | omega | (simp only [List.length_append,bH,eW,fj,List.length_map,List.length_cons,List.length_nil]; omega))
            try simp only [List.append_assoc] at c0
            try simp only [List.append_assoc] at c1
            try simp only [List.append_assoc] at c2
            try simp only [I,B,D,RY,↓ KW,seval,hb2,hp]
            try simp only [I,B,D,RY,↓ KW,seval,w1,gu.cells]
            refine ⟨rfl,ax c0 ?_⟩
            try simp only [I,B,D,RY,↓ KW,seval,w1,gu.cells]
            refine ⟨rfl,ax c1 ?_⟩
            try simp only [I,B,D,RY,↓ KW,seval,w1,gu.cells]
            refine ⟨rfl,ax c2 ?_⟩
            try simp only [I,B,D,RY,↓ KW,seval,w1,gu.cells]
            refine back (i + 1) _ (by omega) (by omega) ?_
            refine ah (by decide) ?_ ?_ ?_ ?_<;>simp [LX,I,B,D,hwi,hn,ef]
          · have h3:i=(t.aA.getD []).length:=by have:=of_decide_eq_false h2; omega
            have ht:(t.aA.getD []).take i=t.aA.getD []:=by rw [h3]; exact List.take_of_length_le (by omega)
            refine bP () trivial ?_
            refine ah (by decide) ?_ ?_ ?_ ?_<;>simp [LX,I,B,D,ht,ef]
        · refine ah (by decide) ?_ ?_ ?_ ?_<;>simp [LX,I,B,D,ef]
      · intro _ _
        obtain ⟨S6,hS6⟩:∃ S,S=S5++(t.aA.getD []).flatMap nF.e:=⟨_,rfl⟩
        rw [← hS6]
        have lS6:S6.length≤853:=by rw [hS6,List.length_append]; have:=jm (e:=nF.e) (z:=37) (l:=t.aA.getD []) (fun x _=>by rw [zX]; omega) (t.aA.getD []).length; rw [List.take_length] at this; omega
        try simp only [I,B,D,RY,↓ KW,seval,hl,g3,dg3]
        have c:=kL hP 1 (by omega) (by omega) S6 (some [((t.aV.getD []).length:Int)]) [((t.aV.getD []).length:Int)] rfl (Nat.le_of_ble_eq_true rfl) (by omega)
        try simp only [I,B,D,RY,↓ KW,seval,hl,g3,dg3]
        refine ⟨rfl,ax c ?_⟩
        obtain ⟨S7,hS7⟩:∃ S,S=S6++cH 1 [((t.aV.getD []).length:Int)]:=⟨_,rfl⟩
        have lS7:S7.length≤854:=by rw [hS7,List.length_append,bH]; simp only [List.length_cons,List.length_nil,h.conflict,h.bq]; omega
        rw [← hS7]
        try simp only [I,B,D,RY,↓ KW,seval,hl,g3,dg3]
        refine fe (.exit 6) (fun _:Unit=>(⟨[(1,.rp t.cells),(4,.ptr 11 0)],[(11,⟨[aF gk (some (S7++(t.aV.getD []).flatMap Ag.e))],[]⟩)],[],400⟩:S)) (fun _=>True) (fun _=>rfl) ?_ ?_
        · refine aI (fun i:Nat=>(⟨[(139,.dat (I i) none),(138,.dat (I ((t.aV.getD []).length:Int)) none),(137,.dat (aF Rl.cells t.aV) none),(1,.rp t.cells),(4,.ptr 11 0)],[(11,⟨[aF gk (some (S7++((t.aV.getD []).take i).flatMap Ag.e))],[]⟩)],[],400⟩:S)) (fun i=>(t.aV.getD []).length - i) (fun i=>i≤(t.aV.getD []).length) ?_ 0 (by omega) ?_
          · intro i hi A back
            have hwi:=aG (k:=i) (by omega)
            have hlen:=jm (e:=Ag.e) (z:=20) (l:=t.aV.getD []) (fun x _=>by rw [Cj]; omega) i
            skip
            try simp only [I,B,D,RY,↓ KW,seval]
            refine aq (fun h2=>?_) (fun h2=>?_)<;>try simp only [I,B,D,RY,↓ KW,seval,h2]
            · have h3:i < (t.aV.getD []).length:=by have:=of_decide_eq_true h2; omega
              obtain ⟨p,hp⟩:∃ x,(t.aV.getD [])[i]? = some x:=⟨(t.aV.getD [])[i]'(by omega),List.getElem?_eq_getElem _⟩
              have hn:=vH (e:=Ag.e) hp S7
              obtain ⟨L,hL⟩:∃ L,L=S7++((t.aV.getD []).take i).flatMap Ag.e:=⟨_,rfl⟩
              have hL2:L.length≤934:=by rw [hL,List.length_append]; omega
              have hb2:(0:Int)≤(i:Int)∧(i:Int) < ((t.aV.getD []).length:Int):=by omega
              skip
              have w1:=u11 p
              simp only [Rl.cells,I,B,Fl] at w1
              rw [← hL,Of] at hn
              rw [← hL]
              have c0:=kL hP 1 (by omega) (by omega) (L) (some [p.bars,p.clear,p.ki,p.exit]) [p.bars,p.clear,p.ki,p.exit] rfl (Nat.le_of_ble_eq_true rfl) (by first | omega | (simp only [List.length_append,bH,eW,fj,List.length_map,List.length_cons,List.length_nil]; omega))
              have c1:=kL hP 2 (by omega) (by omega) ((L)++cH 1 [p.bars,p.clear,p.ki,p.exit]) (some [p.delay,p.green,p.lU,p.hold,p.stay,p.most]) [p.delay,p.green,p.lU,p.hold,p.stay,p.most] rfl (Nat.le_of_ble_eq_true rfl) (by first | omega | (simp only [List.length_append,bH,eW,fj,List.length_map,List.length_cons,List.length_nil]; omega))
              have c2:=kL hP 4 (by omega) (by omega) (((L)++cH 1 [p.bars,p.clear,p.ki,p.exit])++cH 2 [p.delay,p.green,p.lU,p.hold,p.stay,p.most]) (some [p.limit]) [p.limit] rfl (Nat.le_of_ble_eq_true rfl) (by first | omega | (simp only [List.length_append,bH,eW,fj,List.length_map,List.length_cons,List.length_nil]; omega))
              try simp only [List.append_assoc] at c0
              try simp only [List.append_assoc] at c1
              try simp only [List.append_assoc] at c2
              try simp only [I,B,D,RY,↓ KW,seval,hb2,hp,z11]
              try simp only [I,B,D,RY,↓ KW,seval,w1,Rl.cells,z11]
              refine ⟨rfl,ax c0 ?_⟩
              try simp only [I,B,D,RY,↓ KW,seval,w1,Rl.cells,z11]
              refine ⟨rfl,ax c1 ?_⟩
              try simp only [I,B,D,RY,↓ KW,seval,w1,Rl.cells,z11]
              refine ⟨rfl,ax c2 ?_⟩
              try simp only [I,B,D,RY,↓ KW,seval,w1,Rl.cells,z11]
              refine back (i + 1) _ (by omega) (by omega) ?_
              refine ah (by decide) ?_ ?_ ?_ ?_<;>simp [LX,I,B,D,hwi,hn,ef]
            · have h3:i=(t.aV.getD []).length:=by have:=of_decide_eq_false h2; omega
              have ht:(t.aV.getD []).take i=t.aV.getD []:=by rw [h3]; exact List.take_of_length_le (by omega)
              refine bP () trivial ?_
              refine ah (by decide) ?_ ?_ ?_ ?_<;>simp [LX,I,B,D,ht,ef]
          · refine ah (by decide) ?_ ?_ ?_ ?_<;>simp [LX,I,B,D,ef]
        · intro _ _
          obtain ⟨S8,hS8⟩:∃ S,S=S7++(t.aV.getD []).flatMap Ag.e:=⟨_,rfl⟩
          rw [← hS8]
          have lS8:S8.length≤934:=by rw [hS8,List.length_append]; have:=jm (e:=Ag.e) (z:=20) (l:=t.aV.getD []) (fun x _=>by rw [Cj]; omega) (t.aV.getD []).length; rw [List.take_length] at this; omega
          try simp only [I,B,D,RY,↓ KW,seval,hl,g4,dg4]
          have c:=kL hP 1 (by omega) (by omega) S8 (some [((t.bl.getD []).length:Int)]) [((t.bl.getD []).length:Int)] rfl (Nat.le_of_ble_eq_true rfl) (by omega)
          try simp only [I,B,D,RY,↓ KW,seval,hl,g4,dg4]
          refine ⟨rfl,ax c ?_⟩
          obtain ⟨S9,hS9⟩:∃ S,S=S8++cH 1 [((t.bl.getD []).length:Int)]:=⟨_,rfl⟩
          have lS9:S9.length≤935:=by rw [hS9,List.length_append,bH]; simp only [List.length_cons,List.length_nil,h.conflict,h.bq]; omega
          rw [← hS9]
          try simp only [I,B,D,RY,↓ KW,seval,hl,g4,dg4]
          refine fe (.exit 8) (fun _:Unit=>(⟨[(1,.rp t.cells),(4,.ptr 11 0)],[(11,⟨[aF gk (some (S9++(t.bl.getD []).flatMap zR.e))],[]⟩)],[],400⟩:S)) (fun _=>True) (fun _=>rfl) ?_ ?_
          · refine aI (fun i:Nat=>(⟨[(184,.dat (I i) none),(183,.dat (I ((t.bl.getD []).length:Int)) none),(182,.dat (aF Bs.cells t.bl) none),(1,.rp t.cells),(4,.ptr 11 0)],[(11,⟨[aF gk (some (S9++((t.bl.getD []).take i).flatMap zR.e))],[]⟩)],[],400⟩:S)) (fun i=>(t.bl.getD []).length - i) (fun i=>i≤(t.bl.getD []).length) ?_ 0 (by omega) ?_
            · intro i hi A back
              have hwi:=aG (k:=i) (by omega)
              have hlen:=jm (e:=zR.e) (z:=3) (l:=t.bl.getD []) (fun x _=>by rw [Ck]; omega) i
              skip
              try simp only [I,B,D,RY,↓ KW,seval]
              refine aq (fun h2=>?_) (fun h2=>?_)<;>try simp only [I,B,D,RY,↓ KW,seval,h2]
              · have h3:i < (t.bl.getD []).length:=by have:=of_decide_eq_true h2; omega
                obtain ⟨p,hp⟩:∃ x,(t.bl.getD [])[i]? = some x:=⟨(t.bl.getD [])[i]'(by omega),List.getElem?_eq_getElem _⟩
                have hn:=vH (e:=zR.e) hp S9
                obtain ⟨L,hL⟩:∃ L,L=S9++((t.bl.getD []).take i).flatMap zR.e:=⟨_,rfl⟩
                have hL2:L.length≤947:=by rw [hL,List.length_append]; omega
                have hb2:(0:Int)≤(i:Int)∧(i:Int) < ((t.bl.getD []).length:Int):=by omega
                skip
                have w1:=u2b p
                simp only [Bs.cells,I,B,Fl] at w1
                rw [← hL,Og] at hn
                rw [← hL]
                have c0:=kL hP 1 (by omega) (by omega) (L) (some [p.set]) [p.set] rfl (Nat.le_of_ble_eq_true rfl) (by first | omega | (simp only [List.length_append,bH,eW,fj,List.length_map,List.length_cons,List.length_nil]; omega))
                have c1:=kL hP 2 (by omega) (by omega) ((L)++cH 1 [p.set]) (some [p.lock]) [p.lock] rfl (Nat.le_of_ble_eq_true rfl) (by first | omega | (simp only [List.length_append,bH,eW,fj,List.length_map,List.length_cons,List.length_nil]; omega))
                try simp only [List.append_assoc] at c0
                try simp only [List.append_assoc] at c1
                try simp only [I,B,D,RY,↓ KW,seval,hb2,hp]
                try simp only [I,B,D,RY,↓ KW,seval,w1,Bs.cells]
                refine ⟨rfl,ax c0 ?_⟩
                try simp only [I,B,D,RY,↓ KW,seval,w1,Bs.cells]
                refine ⟨rfl,ax c1 ?_⟩
                try simp only [I,B,D,RY,↓ KW,seval,w1,Bs.cells]
                refine back (i + 1) _ (by omega) (by omega) ?_
                refine ah (by decide) ?_ ?_ ?_ ?_<;>simp [LX,I,B,D,hwi,hn,ef]
              · have h3:i=(t.bl.getD []).length:=by have:=of_decide_eq_false h2; omega
                have ht:(t.bl.getD []).take i=t.bl.getD []:=by rw [h3]; exact List.take_of_length_le (by omega)
                refine bP () trivial ?_
                refine ah (by decide) ?_ ?_ ?_ ?_<;>simp [LX,I,B,D,ht,ef]
            · refine ah (by decide) ?_ ?_ ?_ ?_<;>simp [LX,I,B,D,ef]
          · intro _ _
            obtain ⟨S10,hS10⟩:∃ S,S=S9++(t.bl.getD []).flatMap zR.e:=⟨_,rfl⟩
            rw [← hS10]
            have lS10:S10.length≤947:=by rw [hS10,List.length_append]; have:=jm (e:=zR.e) (z:=3) (l:=t.bl.getD []) (fun x _=>by rw [Ck]; omega) (t.bl.getD []).length; rw [List.take_length] at this; omega
            try simp only [I,B,D,RY,↓ KW,seval,hl,n1,dn1,n2,dn2,n3,dn3,n4,dn4,n5,dn5]
            have c:=kL hP 2 (by omega) (by omega) S10 (some [t.extend,t.cV,t.start,t.revert,t.least]) [t.extend,t.cV,t.start,t.revert,t.least] rfl (Nat.le_of_ble_eq_true rfl) (by omega)
            try simp only [I,B,D,RY,↓ KW,seval,hl,n1,dn1,n2,dn2,n3,dn3,n4,dn4,n5,dn5]
            refine ⟨rfl,ax c ?_⟩
            obtain ⟨S11,hS11⟩:∃ S,S=S10++cH 2 [t.extend,t.cV,t.start,t.revert,t.least]:=⟨_,rfl⟩
            have lS11:S11.length≤957:=by rw [hS11,List.length_append,bH]; simp only [List.length_cons,List.length_nil,h.conflict,h.bq]; omega
            rw [← hS11]
            try simp only [I,B,D,RY,↓ KW,seval,hl,k3]
            have c:=kL hP 1 (by omega) (by omega) S11 (some t.bq) t.bq rfl (by rw [h.bq]; omega) (by omega)
            try simp only [I,B,D,RY,↓ KW,seval,hl,k3,List.length_drop]
            refine ⟨rfl,ax c ?_⟩
            obtain ⟨S12,hS12⟩:∃ S,S=S11++cH 1 t.bq:=⟨_,rfl⟩
            have lS12:S12.length≤965:=by rw [hS12,List.length_append,bH]; simp only [List.length_cons,List.length_nil,h.conflict,h.bq]; omega
            rw [← hS12]
            try simp only [I,B,D,RY,↓ KW,seval,hl,n6,dn6,n7,dn7]
            have c:=kL hP 4 (by omega) (by omega) S12 (some [t.dw,t.share]) [t.dw,t.share] rfl (Nat.le_of_ble_eq_true rfl) (by omega)
            try simp only [I,B,D,RY,↓ KW,seval,hl,n6,dn6,n7,dn7]
            refine ⟨rfl,ax c ?_⟩
            obtain ⟨S13,hS13⟩:∃ S,S=S12++cH 4 [t.dw,t.share]:=⟨_,rfl⟩
            have lS13:S13.length≤973:=by rw [hS13,List.length_append,bH]; simp only [List.length_cons,List.length_nil,h.conflict,h.bq]; omega
            rw [← hS13]
            try simp only [I,B,D,RY,↓ KW,seval,hl]
            have hS:S13=bC t:=by
              unfold bC
              rw [F8 h,hS13,hS12,hS11,hS10,hS9,hS8,hS7,hS6,hS5,hS4,hS3,hS2,hS1,hS0]
              simp only [List.append_assoc]
            have cC:=hC (some S13) (by rw [Option.getD_some]; omega) (by rw [Option.getD_some,hS]; exact sW t)
            rw [Option.getD_some] at cC
            refine ai cC ?_
            have hwr:IntKind.i64.wrap ((iw 0xffff#16 S13).toNat:Int)=(iw 0xffff#16 S13).toNat:=gm (by omega) (by have:=(iw 0xffff#16 S13).isLt; omega)
            try simp only [I,B,D,RY,↓ KW,seval,U,hwr]
            have c:=kL hP 2 (by omega) (by omega) S13 (some [((iw 0xffff#16 S13).toNat:Int)]) [((iw 0xffff#16 S13).toNat:Int)] rfl (Nat.le_of_ble_eq_true rfl) (by omega)
            refine ⟨rfl,ax c ?_⟩
            have hf:S13++cH 2 [((iw 0xffff#16 S13).toNat:Int)]=dR (bC t):=by rw [hS]; unfold dR cH; simp
            rw [hf]
            try simp only [I,B,D,RY,↓ KW,seval]
end
def DT.Spec(C:bz) (f:Nat):Prop:=∀a b:Option (List Int),(a.getD []).length<=1000000000->C.c f [aF aD a,aF aD b] (B ((a.getD [])==(b.getD []))) none
def DU.Spec(C:bz) (f:Nat):Prop:=∀x:Nat,C.c f [Fl x] (.int .u64 (x:Int)) none
def Bk.Spec(C:bz) (f:Nat):Prop:=∀t u:Tb,t.Ok->u.Ln->C.c f [.agg t.cells,.agg u.cells] (B (kK t u)) none
def DW.Spec(C:bz) (f:Nat):Prop:=∀b:Option (List Int),(b.getD []).length<=900000->sM (b.getD [])->C.c f [aF gk b] (aF gk (some (dR (b.getD [])))) none
theorem Av(b:Bool):b=false\/b=true:=by cases b<;>simp
section
variable{P:Program} (hm:P.follows .mixedOrders=true) {f:Nat}
include hm
theorem DT.ok (hc:cZ P f=some nW):DT.Spec (Pure P) f:=by
  intro a b ha
  obtain ⟨l,hl⟩:∃ l,l=a.getD []:=⟨_,rfl⟩
  obtain ⟨m,hm'⟩:∃ m,m=b.getD []:=⟨_,rfl⟩
  rw [← hl] at ha ⊢
  rw [← hm']
  refine aC hm hc (by show 2≤26; decide) (ay (keep:=[]) (i:=0) ?_)
  try simp only [I,B,D,RX,↓ KW,seval,nW,Z.H,← hl,← hm']
  refine aq (fun h=>?_) (fun h=>?_)<;>try simp only [I,B,D,RX,↓ KW,seval,h]
  · have h:¬ l.length=m.length:=by simp only [bne_iff_ne,ne_eq] at h; omega
    have:(l == m)=false:=by rw [beq_eq_false_iff_ne]; intro e; exact h (by rw [e])
    simp [this]
  · have h:l.length=m.length:=by simp at h; omega
    refine aI (fun i:Nat=>(⟨[(5,.dat (I i) none),(0,.dat (aF aD a) none),(1,.dat (aF aD b) none)],[],[],400⟩:S)) (fun i=>l.length - i) (fun i=>i≤l.length∧l.take i=m.take i) ?_ 0 ⟨by omega,rfl⟩ ?_
    · intro i hi A back
      obtain ⟨hi,ht⟩:=hi
      try simp only [I,B,D,RX,↓ KW,seval,← hl,← hm']
      refine aq (fun h2=>?_) (fun h2=>?_)<;>try simp only [I,B,D,RX,↓ KW,seval,h2]
      · have h3:i < l.length:=by have:=of_decide_eq_true h2; omega
        obtain ⟨x,hx⟩:∃ x,l[i]? = some x:=⟨l[i],by simp [h3]⟩
        obtain ⟨y,hy⟩:∃ y,m[i]? = some y:=⟨m[i]'(by omega),by simp [show i < m.length by omega]⟩
        have hw:=aG (k:=i) (by omega)
        refine ⟨⟨by omega,by first | omega | (rw [← hl]; omega)⟩,?_⟩
        try simp only [I,B,D,RX,↓ KW,seval,← hl,← hm',hx,aD]
        refine ⟨⟨by omega,by first | omega | (rw [← hm']; omega)⟩,?_⟩
        try simp only [I,B,D,RX,↓ KW,seval,← hl,← hm',hy,aD]
        refine aq (fun h4=>?_) (fun h4=>?_)<;>try simp only [I,B,D,RX,↓ KW,seval,h4]
        · have hne:¬ x=y:=by simpa using h4
          have:(l == m)=false:=by rw [beq_eq_false_iff_ne]; intro e; rw [e] at hx; rw [hx] at hy; exact hne (Option.some.inj hy)
          rw [this]
        · have hxy:x=y:=by simpa using h4
          refine back (i + 1) _ ⟨by omega,by rw [List.take_add_one,List.take_add_one,ht,hx,hy,hxy]⟩ (by omega) ?_
          refine ah (by decide) ?_ ?_ ?_ ?_<;>simp [LX,I,B,D,hw]
      · have:i=l.length:=by have:=of_decide_eq_false h2; omega
        have:(l == m)=true:=by rw [beq_iff_eq]; rw [this,List.take_length,h,List.take_length] at ht; exact ht
        rw [this]
    · refine ah (by decide) ?_ ?_ ?_ ?_<;>simp [LX,I,B,D]
theorem DU.ok(hc:cZ P f=some tM):DU.Spec (Pure P) f:=by
 intro x
 refine aC hm hc (by show 1<=5;decide) (ay (keep:=[]) (i:=0) ?_)
 try simp only[I,B,D,RX,↓KW,seval,tM,Z.H]
theorem DW.ok{fC fP:Nat} (hc:cZ P f=some (tP fC fP)) (hC:Hp.Spec (Pure P) fC) (hP:Jz.Spec (Pure P) fP):DW.Spec (Pure P) f:=by
 intro b hb hB
 have cC:=hC 0xffff#16 b (by omega) hB
 obtain⟨w,hw⟩:∃w,w=iw 0xffff#16 (b.getD []):=⟨_,rfl⟩
 have cP:=hP b 2 ((iw 0xffff#16 (b.getD [])).toNat:Int) (by omega)
 have he:aF gk (bf (zz (b.getD []) 2 ((iw 0xffff#16 (b.getD [])).toNat:Int)))=aF gk (some (dR (b.getD []))):=by
  rw[show(2:Int)=((2:Nat):Int)from rfl,F6 _ (by omega)]
  unfold bf
  rw[if_neg (by intro e;have:=congrArg List.length e;rw[List.length_append,dz]at this;simp at this)]
  rfl
 rw[he]at cP;rw[<-hw]at cC cP
 have hwr:IntKind.i64.wrap (w.toNat:Int)=w.toNat:=gm (by omega) (by have:=w.isLt;omega)
 refine aC hm hc (by show 1<=8;decide) (ay (keep:=[]) (i:=0) ?_)
 try simp only[I,B,D,RX,↓KW,seval,tP,Z.H]
 refine ai cC ?_;try simp only[I,B,D,RX,↓KW,seval,U,hwr]
 refine ai cP ?_;try simp only[I,B,D,RX,↓KW,seval]
end
theorem sX{α β:Type} {g:α->β} {l m:List α} {i:Nat} {x y:α} (hx:l[i]? =some x) (hy:m[i]? =some y) (ht:(l.take i).map g=(m.take i).map g) (he:g x=g y):(l.take (i+1)).map g=(m.take (i+1)).map g:=by
 rw[List.take_add_one,List.take_add_one,hx,hy,List.map_append,List.map_append,ht];simp[he]
theorem yb{α β:Type} [DecidableEq β] {g:α->β} {l m:List α} {i:Nat} {x y:α} (hx:l[i]? =some x) (hy:m[i]? =some y) (he:g x≠g y):decide (l.map g=m.map g)=false:=by
 rw[decide_eq_false_iff_not];intro e
 have h1:=congrArg (·[i]?) e
 simp only[List.getElem?_map,hx,hy,Option.map_some,Option.some.injEq]at h1;exact he h1
theorem vJ{α β:Type} [DecidableEq β] {g:α->β} {l m:List α} {i:Nat} (h:l.length=m.length) (hi:i=l.length) (ht:(l.take i).map g=(m.take i).map g):decide (l.map g=m.map g)=true:=by
 rw[decide_eq_true_iff];rw[hi,List.take_length,h,List.take_length]at ht;exact ht
theorem Cm{α β:Type} [DecidableEq β] {g:α->β} {l m:List α} (h:l.length≠m.length):decide (l.map g=m.map g)=false:=by
 rw[decide_eq_false_iff_not];intro e;have:=congrArg List.length e;simp at this;exact h this
section
variable{P:Program} (hm:P.follows .mixedOrders=true) {f:Nat}
include hm
theorem Bk.ok {e fI fB:Nat} (hc:cZ P f=some (dm e fI fB)) (hI:DT.Spec (Pure P) fI) (hB:DU.Spec (Pure P) fB):Bk.Spec (Pure P) f:=by
  intro t u ht hu
  have h:=ht.ln
  have q1:=Bi 8 t.phases u.phases h.phases hu.phases
  have q2:=zW t.conflict u.conflict 8 [] [] [] h.conflict hu.conflict
  have q3:=zW t.bq u.bq 8 [] [] [] h.bq hu.bq
  simp only [List.append_nil,bn,Option.map_some,Bool.and_true] at q2 q3
  change bn [.b,.i,.i,.i,.i,.i,.i,.i,.i,.i,.i,.b,.b,.b,.i,.i,.i,.i,.i,.i,.i,.i,.i,.i,.b,.b,.b,.i,.i,.i,.i,.i,.i,.i,.i,.i,.i,.b,.b,.b,.i,.i,.i,.i,.i,.i,.i,.i,.i,.i,.b,.b,.b,.i,.i,.i,.i,.i,.i,.i,.i,.i,.i,.b,.b,.b,.i,.i,.i,.i,.i,.i,.i,.i,.i,.i,.b,.b,.b,.i,.i,.i,.i,.i,.i,.i,.i,.i,.i,.b,.b,.b,.i,.i,.i,.i,.i,.i,.i,.i,.i,.i,.b,.b] _ _=_ at q1
  change bn [.i,.i,.i,.i,.i,.i,.i,.i] _ _=_ at q2
  change bn [.i,.i,.i,.i,.i,.i,.i,.i] _ _=_ at q3
  have w1:=ht.groups
  have w2:=ht.WN
  have w3:=ht.aV
  have w4:=ht.bl
  have l1:=h.len
  have l2:=hu.len
  have p1:=Kz h
  have p2:=Kz hu
  have p3:=KA h
  have p4:=KA hu
  have p5:=Od h
  have p6:=Od hu
  have g1:=B9 h
  have g2:=B9 hu
  have g3:=h.zE
  have g4:=hu.zE
  have g5:=h.xB
  have g6:=hu.xB
  have g7:=h.zF
  have g8:=hu.zF
  obtain ⟨n1,n2,n3,n4,n5,n6,n7⟩:=x5 h
  obtain ⟨m1,m2,m3,m4,m5,m6,m7⟩:=x5 hu
  have hs:=Ky t u
  have x1:(false != true)=true:=rfl
  have x2:(true != true)=false:=rfl
  have k1:t.cells.take 104=t.phases.flatMap Ph.cells:=List.take_left' (by rw [aX Ph.len,h.phases])
  have k2:u.cells.take 104=u.phases.flatMap Ph.cells:=List.take_left' (by rw [aX Ph.len,hu.phases])
  have faA:=And.intro l1 (And.intro l2 (And.intro q1 (And.intro q2 (And.intro q3 (And.intro p1 (And.intro p2 (And.intro p3 (And.intro p4 (And.intro p5 (And.intro p6 (And.intro g1 (And.intro g2 (And.intro g3 (And.intro g4 (And.intro g5 (And.intro g6 (And.intro g7 (And.intro g8 (And.intro k1 (And.intro k2 (And.intro x1 (x2))))))))))))))))))))))
  rcases Av (decide (t.phases=u.phases)) with b1|b1
  · have hs':kK t u=false:=by rw [hs,b1]; rfl
    rw [hs']
    refine aC hm hc (by show 2≤243; decide) (ay (keep:=[]) (i:=0) ?_)
    try simp only [I,B,D,RY,↓ KW,seval,dm,Z.H,faA,b1]
    all_goals rfl
  rcases Av (decide (t.conflict=u.conflict)) with b3|b3
  · have hs':kK t u=false:=by rw [hs,b3]; simp
    rw [hs']
    refine aC hm hc (by show 2≤243; decide) (ay (keep:=[]) (i:=0) ?_)
    try simp only [I,B,D,RY,↓ KW,seval,dm,Z.H,faA,b1,b3]
    all_goals rfl
  rcases Av (decide (t.bq=u.bq)) with b12|b12
  · have hs':kK t u=false:=by rw [hs,b12]; simp
    rw [hs']
    refine aC hm hc (by show 2≤243; decide) (ay (keep:=[]) (i:=0) ?_)
    try simp only [I,B,D,RY,↓ KW,seval,dm,Z.H,faA,b1,b3,b12]
    all_goals rfl
  rcases Av (((t.groups.getD []).length:Int) != ((u.groups.getD []).length:Int)) with e1|e1
  rotate_left
  · have hs':kK t u=false:=by rw [hs,Cm (l:=t.groups.getD []) (m:=u.groups.getD []) (g:=Ec) (by simp at e1; omega)]; simp
    rw [hs']
    refine aC hm hc (by show 2≤243; decide) (ay (keep:=[]) (i:=0) ?_)
    try simp only [I,B,D,RY,↓ KW,seval,dm,Z.H,faA,b1,b3,b12,e1]
    all_goals rfl
  have e1':(t.groups.getD []).length=(u.groups.getD []).length:=by simp at e1; omega
  rcases Av (((t.aA.getD []).length:Int) != ((u.aA.getD []).length:Int)) with e2|e2
  rotate_left
  · have hs':kK t u=false:=by rw [hs,Cm (l:=t.aA.getD []) (m:=u.aA.getD []) (g:=id) (by simp at e2; omega)]; simp
    rw [hs']
    refine aC hm hc (by show 2≤243; decide) (ay (keep:=[]) (i:=0) ?_)
    try simp only [I,B,D,RY,↓ KW,seval,dm,Z.H,faA,b1,b3,b12,e1,e2]
    all_goals rfl
  have e2':(t.aA.getD []).length=(u.aA.getD []).length:=by simp at e2; omega
  rcases Av (((t.aV.getD []).length:Int) != ((u.aV.getD []).length:Int)) with e3|e3
  rotate_left
  · have hs':kK t u=false:=by rw [hs,Cm (l:=t.aV.getD []) (m:=u.aV.getD []) (g:=id) (by simp at e3; omega)]; simp
    rw [hs']
    refine aC hm hc (by show 2≤243; decide) (ay (keep:=[]) (i:=0) ?_)
    try simp only [I,B,D,RY,↓ KW,seval,dm,Z.H,faA,b1,b3,b12,e1,e2,e3]
    all_goals rfl
  have e3':(t.aV.getD []).length=(u.aV.getD []).length:=by simp at e3; omega
  rcases Av (((t.bl.getD []).length:Int) != ((u.bl.getD []).length:Int)) with e4|e4
  rotate_left
  · have hs':kK t u=false:=by rw [hs,Cm (l:=t.bl.getD []) (m:=u.bl.getD []) (g:=id) (by simp at e4; omega)]; simp
    rw [hs']
    refine aC hm hc (by show 2≤243; decide) (ay (keep:=[]) (i:=0) ?_)
    try simp only [I,B,D,RY,↓ KW,seval,dm,Z.H,faA,b1,b3,b12,e1,e2,e3,e4]
    all_goals rfl
  have e4':(t.bl.getD []).length=(u.bl.getD []).length:=by simp at e4; omega
  have cI:=hI (some [t.extend,t.cV,t.start,t.revert,t.least,t.dw,t.share]) (some [u.extend,u.cV,u.start,u.revert,u.least,u.dw,u.share]) (by simp)
  rw [Option.getD_some,Option.getD_some] at cI
  have faN:=And.intro n1 (And.intro n2 (And.intro n3 (And.intro n4 (And.intro n5 (And.intro n6 (And.intro n7 (And.intro m1 (And.intro m2 (And.intro m3 (And.intro m4 (And.intro m5 (And.intro m6 (m7)))))))))))))
  rcases Av ([t.extend,t.cV,t.start,t.revert,t.least,t.dw,t.share] == [u.extend,u.cV,u.start,u.revert,u.least,u.dw,u.share]) with b5|b5
  · have hs':kK t u=false:=by
      rw [hs]
      rw [beq_eq_false_iff_ne] at b5
      rw [Bool.eq_false_iff]
      intro hc
      simp only [Bool.and_eq_true,beq_iff_eq] at hc
      obtain ⟨⟨⟨⟨⟨⟨⟨⟨_,c1⟩,c2⟩,c3⟩,c4⟩,c5⟩,_⟩,c6⟩,c7⟩:=hc
      exact b5 (by rw [c1,c2,c3,c4,c5,c6,c7])
    rw [hs']
    rw [b5] at cI
    refine aC hm hc (by show 2≤243; decide) (ay (keep:=[]) (i:=0) ?_)
    try simp only [I,B,D,RY,↓ KW,seval,dm,Z.H,faA,b1,b3,b12,e1,e2,e3,e4,faN]
    refine ai cI ?_
    try simp only [I,B,D,RY,↓ KW,seval]
    all_goals rfl
  rw [b5] at cI
  have hs2:kK t u=(decide ((t.groups.getD []).map Ec=(u.groups.getD []).map Ec) && decide ((t.aA.getD []).map id=(u.aA.getD []).map id) && decide ((t.aV.getD []).map id=(u.aV.getD []).map id) && decide ((t.bl.getD []).map id=(u.bl.getD []).map id)):=by
    rw [hs,b1,b3,b12]
    rw [beq_iff_eq] at b5
    simp only [List.cons.injEq] at b5
    obtain ⟨c1,c2,c3,c4,c5,c6,c7,_⟩:=b5
    simp [c1,c2,c3,c4,c5,c6,c7]
  rw [hs2]
  clear hs hs2
  refine aC hm hc (by show 2≤243; decide) (ay (keep:=[2,5,8,11]) (i:=0) ?_)
  try simp only [I,B,D,RY,↓ KW,seval,dm,Z.H,faA,b1,b3,b12,e1,e2,e3,e4,faN]
  refine ai cI ?_
  try simp only [I,B,D,RY,↓ KW,seval]
  try simp only [I,B,D,RY,↓ KW,seval,faA]
  refine kE (.exit 0) (fun _:Unit=>(⟨[(2,.ptr 4 0),(3,.ptr 5 0)],[(5,⟨u.cells,[]⟩),(4,⟨t.cells,[]⟩)],[],400⟩:S)) (fun _=>decide ((t.groups.getD []).map Ec=(u.groups.getD []).map Ec)=true) (fun _=>rfl) ?_ ?_
  · refine aI (fun i:Nat=>(⟨[(5,.dat (I i) none),(2,.ptr 4 0),(3,.ptr 5 0)],[(5,⟨u.cells,[]⟩),(4,⟨t.cells,[]⟩)],[],400⟩:S)) (fun i=>(t.groups.getD []).length - i) (fun i=>i≤(t.groups.getD []).length∧((t.groups.getD []).take i).map Ec=((u.groups.getD []).take i).map Ec) ?_ 0 ⟨by omega,rfl⟩ ?_
    · intro i hi A back
      obtain ⟨hi,htk⟩:=hi
      have hwi:=aG (k:=i) (by omega)
      try simp only [I,B,D,RY,↓ KW,seval,faA]
      refine aq (fun h3=>?_) (fun h3=>?_)<;>try simp only [I,B,D,RY,↓ KW,seval,h3]
      · have h4:i < (t.groups.getD []).length:=by have:=of_decide_eq_true h3; omega
        obtain ⟨x,hx⟩:∃ x,(t.groups.getD [])[i]? = some x:=⟨(t.groups.getD [])[i]'h4,List.getElem?_eq_getElem _⟩
        obtain ⟨y,hy⟩:∃ x,(u.groups.getD [])[i]? = some x:=⟨(u.groups.getD [])[i]'(by omega),List.getElem?_eq_getElem _⟩
        have hb1:(0:Int)≤(i:Int)∧(i:Int) < ((t.groups.getD []).length:Int):=by omega
        have hb2:(0:Int)≤(i:Int)∧(i:Int) < ((u.groups.getD []).length:Int):=by omega
        have hno:∀ _:Ec x≠Ec y,decide ((t.groups.getD []).map Ec=(u.groups.getD []).map Ec)=false:=fun he=>yb hx hy he
        have r1:=ht.rows x (List.mem_of_getElem? hx)
        have cA:=hI x.a y.a (by omega)
        have cB:=hI x.b y.b (by omega)
        have hgx:x.cells[0]? = some (aF aD x.a)∧x.cells[1]? = some (aF aD x.b)∧x.cells.length=2∧(x.cells.drop 1)[0]? = some (aF aD x.b):=⟨rfl,rfl,rfl,rfl⟩
        have hgy:y.cells[0]? = some (aF aD y.a)∧y.cells[1]? = some (aF aD y.b)∧y.cells.length=2∧(y.cells.drop 1)[0]? = some (aF aD y.b):=⟨rfl,rfl,rfl,rfl⟩
        try simp only [I,B,D,RY,↓ KW,seval,hb1,hb2,hx,hy,hgx,hgy,faA]
        refine ai cA ?_
        rcases Av (x.a.getD [] == y.a.getD []) with c1|c1
        · have hn:=hno (fun he=>by rw [beq_eq_false_iff_ne] at c1; simp only [Ec,Gr.mk.injEq,Option.some.injEq] at he; exact c1 he.1)
          try simp only [I,B,D,RY,↓ KW,seval,c1]
          refine .inr ⟨(by intro h; cases h),?_⟩
          try simp only [I,B,D,RY,↓ KW,seval,c1]
          rw [hn]
          all_goals rfl
        try simp only [I,B,D,RY,↓ KW,seval,c1,hb1,hb2,hx,hy,hgx,hgy,faA]
        refine ai cB ?_
        rcases Av (x.b.getD [] == y.b.getD []) with c2|c2
        · have hn:=hno (fun he=>by rw [beq_eq_false_iff_ne] at c2; simp only [Ec,Gr.mk.injEq,Option.some.injEq] at he; exact c2 he.2)
          try simp only [I,B,D,RY,↓ KW,seval,c2]
          refine .inr ⟨(by intro h; cases h),?_⟩
          try simp only [I,B,D,RY,↓ KW,seval,c2]
          rw [hn]
          all_goals rfl
        try simp only [I,B,D,RY,↓ KW,seval,c2]
        rw [beq_iff_eq] at c1 c2
        refine back (i + 1) _ ⟨by omega,sX hx hy htk (by unfold Ec; rw [c1,c2])⟩ (by omega) ?_
        refine ah (by decide) ?_ ?_ ?_ ?_<;>simp [LX,I,B,D,hwi]
      · have h4:i=(t.groups.getD []).length:=by have:=of_decide_eq_false h3; omega
        refine gT () (vJ e1' h4 htk) ?_
        refine ah (by decide) ?_ ?_ ?_ ?_<;>simp [LX,I,B,D]
    · refine ah (by decide) ?_ ?_ ?_ ?_<;>simp [LX,I,B,D]
  · intro _ hgroups
    try simp only [I,B,D,RY,↓ KW,seval,faA]
    refine kE (.exit 2) (fun _:Unit=>(⟨[(2,.ptr 4 0),(3,.ptr 5 0)],[(5,⟨u.cells,[]⟩),(4,⟨t.cells,[]⟩)],[],400⟩:S)) (fun _=>decide ((t.aA.getD []).map id=(u.aA.getD []).map id)=true) (fun _=>rfl) ?_ ?_
    · refine aI (fun i:Nat=>(⟨[(6,.dat (I i) none),(2,.ptr 4 0),(3,.ptr 5 0)],[(5,⟨u.cells,[]⟩),(4,⟨t.cells,[]⟩)],[],400⟩:S)) (fun i=>(t.aA.getD []).length - i) (fun i=>i≤(t.aA.getD []).length∧((t.aA.getD []).take i).map id=((u.aA.getD []).take i).map id) ?_ 0 ⟨by omega,rfl⟩ ?_
      · intro i hi A back
        obtain ⟨hi,htk⟩:=hi
        have hwi:=aG (k:=i) (by omega)
        try simp only [I,B,D,RY,↓ KW,seval,faA]
        refine aq (fun h3=>?_) (fun h3=>?_)<;>try simp only [I,B,D,RY,↓ KW,seval,h3]
        · have h4:i < (t.aA.getD []).length:=by have:=of_decide_eq_true h3; omega
          obtain ⟨x,hx⟩:∃ x,(t.aA.getD [])[i]? = some x:=⟨(t.aA.getD [])[i]'h4,List.getElem?_eq_getElem _⟩
          obtain ⟨y,hy⟩:∃ x,(u.aA.getD [])[i]? = some x:=⟨(u.aA.getD [])[i]'(by omega),List.getElem?_eq_getElem _⟩
          have hb1:(0:Int)≤(i:Int)∧(i:Int) < ((t.aA.getD []).length:Int):=by omega
          have hb2:(0:Int)≤(i:Int)∧(i:Int) < ((u.aA.getD []).length:Int):=by omega
          have hno:∀ _:id x≠id y,decide ((t.aA.getD []).map id=(u.aA.getD []).map id)=false:=fun he=>yb hx hy he
          have u7:∀ p:gu,setCells [.int .i64 0,.float .f64 0,.float .f64 0,.float .f64 0,.float .f64 0,.int .i64 0,.int .i64 0] 0 p.cells=p.cells:=fun p=>dW rfl
          have v1:=u7 x
          have v2:=u7 y
          simp only [gu.cells,I,B,Fl] at v1 v2
          try simp only [I,B,D,RY,↓ KW,seval,hb1,hb2,hx,hy,gu.len,faA]
          refine qf rfl ?_
          try simp only [I,B,D,RY,↓ KW,seval,hb1,hb2,hx,hy,gu.len,faA]
          try simp only [I,B,D,RY,↓ KW,seval,v1,v2,gu.cells,Fl]
          rcases Av (x.phase != y.phase) with d0|d0
          rotate_left
          · try simp only [I,B,D,RY,↓ KW,seval,d0]
            refine .inr ⟨(by intro h; cases h),?_⟩
            try simp only [I,B,D,RY,↓ KW,seval,d0]
            rw [hgroups,hno (fun he=>by have he:x=y:=he; rw [he] at d0; simp at d0)]
            all_goals rfl
          try simp only [I,B,D,RY,↓ KW,seval,d0]
          rcases Av (x.maxOn != y.maxOn) with d1|d1
          rotate_left
          · try simp only [I,B,D,RY,↓ KW,seval,d1]
            refine .inr ⟨(by intro h; cases h),?_⟩
            try simp only [I,B,D,RY,↓ KW,seval,d1]
            rw [hgroups,hno (fun he=>by have he:x=y:=he; rw [he] at d1; simp at d1)]
            all_goals rfl
          try simp only [I,B,D,RY,↓ KW,seval,d1]
          rcases Av (x.kg != y.kg) with d2|d2
          rotate_left
          · try simp only [I,B,D,RY,↓ KW,seval,d2]
            refine .inr ⟨(by intro h; cases h),?_⟩
            try simp only [I,B,D,RY,↓ KW,seval,d2]
            rw [hgroups,hno (fun he=>by have he:x=y:=he; rw [he] at d2; simp at d2)]
            all_goals rfl
          try simp only [I,B,D,RY,↓ KW,seval,d2]
          refine ai (hB x.on) ?_
          try simp only [I,B,D,RY,↓ KW,seval]
          refine ai (hB y.on) ?_
          rcases Av ((x.on:Int) != (y.on:Int)) with d3|d3
          rotate_left
          · try simp only [I,B,D,RY,↓ KW,seval,d3]
            refine .inr ⟨(by intro h; cases h),?_⟩
            try simp only [I,B,D,RY,↓ KW,seval,d3]
            rw [hgroups,hno (fun he=>by have he:x=y:=he; rw [he] at d3; simp at d3)]
            all_goals rfl
          try simp only [I,B,D,RY,↓ KW,seval,d3]
          refine ai (hB x.off) ?_
          try simp only [I,B,D,RY,↓ KW,seval]
          refine ai (hB y.off) ?_
          rcases Av ((x.off:Int) != (y.off:Int)) with d4|d4
          rotate_left
          · try simp only [I,B,D,RY,↓ KW,seval,d4]
            refine .inr ⟨(by intro h; cases h),?_⟩
            try simp only [I,B,D,RY,↓ KW,seval,d4]
            rw [hgroups,hno (fun he=>by have he:x=y:=he; rw [he] at d4; simp at d4)]
            all_goals rfl
          try simp only [I,B,D,RY,↓ KW,seval,d4]
          refine ai (hB x.delay) ?_
          try simp only [I,B,D,RY,↓ KW,seval]
          refine ai (hB y.delay) ?_
          rcases Av ((x.delay:Int) != (y.delay:Int)) with d5|d5
          rotate_left
          · try simp only [I,B,D,RY,↓ KW,seval,d5]
            refine .inr ⟨(by intro h; cases h),?_⟩
            try simp only [I,B,D,RY,↓ KW,seval,d5]
            rw [hgroups,hno (fun he=>by have he:x=y:=he; rw [he] at d5; simp at d5)]
            all_goals rfl
          try simp only [I,B,D,RY,↓ KW,seval,d5]
          refine ai (hB x.extend) ?_
          try simp only [I,B,D,RY,↓ KW,seval]
          refine ai (hB y.extend) ?_
          rcases Av ((x.extend:Int) != (y.extend:Int)) with d6|d6
          rotate_left
          · try simp only [I,B,D,RY,↓ KW,seval,d6]
            refine .inr ⟨(by intro h; cases h),?_⟩
            try simp only [I,B,D,RY,↓ KW,seval,d6]
            rw [hgroups,hno (fun he=>by have he:x=y:=he; rw [he] at d6; simp at d6)]
            all_goals rfl
          try simp only [I,B,D,RY,↓ KW,seval,d6]
          have hxy:x=y:=by
            cases x; cases y
            simp only [bne_eq_false_iff_eq,Int.natCast_inj] at d0 d1 d2 d3 d4 d5 d6
            simp only [gu.mk.injEq]
            exact ⟨d0,d3,d4,d5,d6,d1,d2⟩
          refine back (i + 1) _ ⟨by omega,sX hx hy htk (by rw [hxy])⟩ (by omega) ?_
          refine ah (by decide) ?_ ?_ ?_ ?_<;>simp [LX,I,B,D,hwi]
        · have h4:i=(t.aA.getD []).length:=by have:=of_decide_eq_false h3; omega
          refine gT () (vJ e2' h4 htk) ?_
          refine ah (by decide) ?_ ?_ ?_ ?_<;>simp [LX,I,B,D]
      · refine ah (by decide) ?_ ?_ ?_ ?_<;>simp [LX,I,B,D]
    · intro _ hdetectors
      try simp only [I,B,D,RY,↓ KW,seval,faA]
      refine kE (.exit 4) (fun _:Unit=>(⟨[(2,.ptr 4 0),(3,.ptr 5 0)],[(5,⟨u.cells,[]⟩),(4,⟨t.cells,[]⟩)],[],400⟩:S)) (fun _=>decide ((t.aV.getD []).map id=(u.aV.getD []).map id)=true) (fun _=>rfl) ?_ ?_
      · refine aI (fun i:Nat=>(⟨[(9,.dat (I i) none),(2,.ptr 4 0),(3,.ptr 5 0)],[(5,⟨u.cells,[]⟩),(4,⟨t.cells,[]⟩)],[],400⟩:S)) (fun i=>(t.aV.getD []).length - i) (fun i=>i≤(t.aV.getD []).length∧((t.aV.getD []).take i).map id=((u.aV.getD []).take i).map id) ?_ 0 ⟨by omega,rfl⟩ ?_
        · intro i hi A back
          obtain ⟨hi,htk⟩:=hi
          have hwi:=aG (k:=i) (by omega)
          try simp only [I,B,D,RY,↓ KW,seval,faA]
          refine aq (fun h3=>?_) (fun h3=>?_)<;>try simp only [I,B,D,RY,↓ KW,seval,h3]
          · have h4:i < (t.aV.getD []).length:=by have:=of_decide_eq_true h3; omega
            obtain ⟨x,hx⟩:∃ x,(t.aV.getD [])[i]? = some x:=⟨(t.aV.getD [])[i]'h4,List.getElem?_eq_getElem _⟩
            obtain ⟨y,hy⟩:∃ x,(u.aV.getD [])[i]? = some x:=⟨(u.aV.getD [])[i]'(by omega),List.getElem?_eq_getElem _⟩
            have hb1:(0:Int)≤(i:Int)∧(i:Int) < ((t.aV.getD []).length:Int):=by omega
            have hb2:(0:Int)≤(i:Int)∧(i:Int) < ((u.aV.getD []).length:Int):=by omega
            have hno:∀ _:id x≠id y,decide ((t.aV.getD []).map id=(u.aV.getD []).map id)=false:=fun he=>yb hx hy he
            have hq:=Kv x y
            have hpx:bG x.cells 0 (some 11)=some (.agg x.cells):=rfl
            have hpy:bG y.cells 0 (some 11)=some (.agg y.cells):=rfl
            try simp only [I,B,D,RY,↓ KW,seval,hb1,hb2,hx,hy,Rl.len',hq,hpx,hpy,faA]
            rcases Av (Kt x y) with d0|d0
            · try simp only [I,B,D,RY,↓ KW,seval,d0,x1,x2]
              refine .inr ⟨(by intro h; cases h),?_⟩
              try simp only [I,B,D,RY,↓ KW,seval,d0,x1,x2]
              rw [hgroups,hdetectors,hno (fun he=>by have he:x=y:=he; rw [he] at d0; simp [Kt] at d0)]
              all_goals rfl
            try simp only [I,B,D,RY,↓ KW,seval,d0,x1,x2]
            have hxy:x=y:=by simpa [Kt] using d0
            refine back (i + 1) _ ⟨by omega,sX hx hy htk (by rw [hxy])⟩ (by omega) ?_
            refine ah (by decide) ?_ ?_ ?_ ?_<;>simp [LX,I,B,D,hwi]
          · have h4:i=(t.aV.getD []).length:=by have:=of_decide_eq_false h3; omega
            refine gT () (vJ e3' h4 htk) ?_
            refine ah (by decide) ?_ ?_ ?_ ?_<;>simp [LX,I,B,D]
        · refine ah (by decide) ?_ ?_ ?_ ?_<;>simp [LX,I,B,D]
      · intro _ hrails
        try simp only [I,B,D,RY,↓ KW,seval,faA]
        refine kE (.exit 6) (fun _:Unit=>(⟨[(2,.ptr 4 0),(3,.ptr 5 0)],[(5,⟨u.cells,[]⟩),(4,⟨t.cells,[]⟩)],[],400⟩:S)) (fun _=>decide ((t.bl.getD []).map id=(u.bl.getD []).map id)=true) (fun _=>rfl) ?_ ?_
        · refine aI (fun i:Nat=>(⟨[(10,.dat (I i) none),(2,.ptr 4 0),(3,.ptr 5 0)],[(5,⟨u.cells,[]⟩),(4,⟨t.cells,[]⟩)],[],400⟩:S)) (fun i=>(t.bl.getD []).length - i) (fun i=>i≤(t.bl.getD []).length∧((t.bl.getD []).take i).map id=((u.bl.getD []).take i).map id) ?_ 0 ⟨by omega,rfl⟩ ?_
          · intro i hi A back
            obtain ⟨hi,htk⟩:=hi
            have hwi:=aG (k:=i) (by omega)
            try simp only [I,B,D,RY,↓ KW,seval,faA]
            refine aq (fun h3=>?_) (fun h3=>?_)<;>try simp only [I,B,D,RY,↓ KW,seval,h3]
            · have h4:i < (t.bl.getD []).length:=by have:=of_decide_eq_true h3; omega
              obtain ⟨x,hx⟩:∃ x,(t.bl.getD [])[i]? = some x:=⟨(t.bl.getD [])[i]'h4,List.getElem?_eq_getElem _⟩
              obtain ⟨y,hy⟩:∃ x,(u.bl.getD [])[i]? = some x:=⟨(u.bl.getD [])[i]'(by omega),List.getElem?_eq_getElem _⟩
              have hb1:(0:Int)≤(i:Int)∧(i:Int) < ((t.bl.getD []).length:Int):=by omega
              have hb2:(0:Int)≤(i:Int)∧(i:Int) < ((u.bl.getD []).length:Int):=by omega
              have hno:∀ _:id x≠id y,decide ((t.bl.getD []).map id=(u.bl.getD []).map id)=false:=fun he=>yb hx hy he
              have hq:=Kw x y
              have hpx:bG x.cells 0 (some 2)=some (.agg x.cells):=rfl
              have hpy:bG y.cells 0 (some 2)=some (.agg y.cells):=rfl
              try simp only [I,B,D,RY,↓ KW,seval,hb1,hb2,hx,hy,Bs.len',hq,hpx,hpy,faA]
              rcases Av (Ku x y) with d0|d0
              · try simp only [I,B,D,RY,↓ KW,seval,d0,x1,x2]
                refine .inr ⟨(by intro h; cases h),?_⟩
                try simp only [I,B,D,RY,↓ KW,seval,d0,x1,x2]
                rw [hgroups,hdetectors,hrails,hno (fun he=>by have he:x=y:=he; rw [he] at d0; simp [Ku] at d0)]
                all_goals rfl
              try simp only [I,B,D,RY,↓ KW,seval,d0,x1,x2]
              have hxy:x=y:=by simpa [Ku] using d0
              refine back (i + 1) _ ⟨by omega,sX hx hy htk (by rw [hxy])⟩ (by omega) ?_
              refine ah (by decide) ?_ ?_ ?_ ?_<;>simp [LX,I,B,D,hwi]
            · have h4:i=(t.bl.getD []).length:=by have:=of_decide_eq_false h3; omega
              refine gT () (vJ e4' h4 htk) ?_
              refine ah (by decide) ?_ ?_ ?_ ?_<;>simp [LX,I,B,D]
          · refine ah (by decide) ?_ ?_ ?_ ?_<;>simp [LX,I,B,D]
        · intro _ hbuses
          try simp only [I,B,D,RY,↓ KW,seval]
          rw [hgroups,hdetectors,hrails,hbuses]
          all_goals rfl
end
def Can(s:Int):Prop:=0<=s/\s<256
theorem KD{s:Int} (h:Can s) {i:Nat} (h8:8<=i) (h64:i<64):tb s i=false:=by
 rw[EU s h64]
 have hp:(2:Int)^8<=2^i:=by
  have e:(2:Int)^i=2^8*2^(i-8):=by rw[<-Int.pow_add];congr 1;omega
  have:(1:Int)<=2^(i-8):=by have:=Int.pow_pos (n:=(2:Int)) (m:=i-8) (by decide);omega
  rw[e];have h2:(2:Int)^8=256:=rfl
  rw[h2];omega
 have h2:(2:Int)^8=256:=rfl
 have:s.fdiv (2^i)=0:=by
  rw[Int.fdiv_eq_ediv_of_nonneg _ (by omega)]
  exact Int.ediv_eq_zero_of_lt h.1 (by have:=h.2;omega)
 rw[this];rfl
theorem Rw{x:Int} (h0:0<=x) (h1:x<18446744073709551616) (h:∀i,8<=i->i<64->tb x i=false):Can x:=by
 refine⟨h0,?_⟩
 have hn:(bv x).toNat=x.toNat:=by
  simp only[bv,BitVec.toNat_ofInt]
  have e:((2^64:Nat):Int)=18446744073709551616:=by decide
  rw[e];omega
 have:x.toNat<2^8:=by
  apply Nat.lt_pow_two_of_testBit
  intro i hi
  rcases Nat.lt_or_ge i 64 with h64|h64
  ·have:=h i hi h64
   simp only[tb,BitVec.getLsbD]at this;rw[<-hn];exact this
  ·apply Nat.testBit_lt_two_pow
   have:x.toNat<2^64:=by
    have e:(2:Nat)^64=18446744073709551616:=by decide
    omega
   exact Nat.lt_of_lt_of_le this (Nat.pow_le_pow_right (by decide) h64)
 omega
theorem zY(b:BitVec 64) (h:b.getLsbD 63=false):IntKind.i64.wrap (b.toNat:Int)=b.toNat/\(b.toNat:Int)<9223372036854775808:=by
 have:b.toNat<2^63:=by
  apply Nat.lt_pow_two_of_testBit
  intro i hi
  rcases Nat.lt_or_ge i 64 with h64|h64
  ·have:i=63:=by omega
   subst this;exact h
  ·apply Nat.testBit_lt_two_pow
   exact Nat.lt_of_lt_of_le b.isLt (Nat.pow_le_pow_right (by decide) h64)
 have e:(2:Nat)^63=9223372036854775808:=by decide
 refine⟨br (by omega) (by omega),by omega⟩
theorem zZ{b:BitVec 64} (h:∀i,8<=i->i<64->b.getLsbD i=false):Can (IntKind.i64.wrap (b.toNat:Int)):=by
 obtain⟨h1,h2⟩:=zY b (h 63 (by decide) (by decide))
 rw[h1]
 refine Rw (by omega) (by omega) fun i h8 h64=>?_
 simp only[tb,B8];exact h i h8 h64
theorem DX(l:List Int):∀k,k<=8->Can (uh l k)
 |0,_=>by show Can 0;exact⟨by decide,by decide⟩
 |k+1,h=>by
  have ih:=DX l k (by omega)
  simp only[uh];split
  ·have e:K0 .i64 (uh l k) (2^k)=IntKind.i64.wrap ((bv (uh l k)|||bv (2^k)).toNat:Int):=rfl
   rw[e]
   refine zZ fun i h8 h64=>?_
   rw[BitVec.getLsbD_or]
   have a:=KD ih h8 h64
   have b:=JE (p:=k) (by omega) i
   simp only[tb]at a b;rw[a,b]
   have:¬i=k:=by omega
   simp[this]
  ·exact ih
theorem Ga(l:List Int):Can (N0 l):=DX l 8 (by omega)
theorem wP(s p:Int):Can (jd s p):=Ga _
def NA(t:Tb) (p:Nat):Int:=t.bq.getD p 0
theorem E3(t:Tb) (p q:Int):gz t p q=gz t q p:=by
 simp only[gz];generalize(gp t p).2=b1;generalize(gp t q).2=b2;generalize(gp t p).1=s1;generalize(gp t q).1=s2;rw[Bool.and_comm b1 b2]
 congr 1
 ·congr 1
  rw[Bool.eq_iff_iff];simp only[beq_iff_eq];exact eq_comm
 ·rw[Bool.eq_iff_iff];simp only[bne_iff_ne];exact ne_comm
theorem Rx:cv.Ok:=⟨rfl,rfl,rfl,by simp[cv],by simp[cv],by simp[cv],by simp[cv],by simp[cv]⟩
theorem Ry(l:Option (List Int)) (i n:Int):(iP l i n).Fw:=by
 have r1:=aQ l (bV (i+1)) (n:=4) (by decide) (by decide)
 have r2:=aQ l (bV (i+2)) (n:=3) (by decide) (by decide)
 have r3:=aQ l (bV (i+3)) (n:=4) (by decide) (by decide)
 have r4:=aQ l (bV (i+4)) (n:=6) (by decide) (by decide)
 obtain⟨a,ha⟩:∃m:Nat,bO l (bV (i+1)) 4=m:=⟨(bO l (bV (i+1)) 4).toNat,by omega⟩
 obtain⟨b,hb⟩:∃m:Nat,bO l (bV (i+2)) 3=m:=⟨(bO l (bV (i+2)) 3).toNat,by omega⟩
 obtain⟨c,hc⟩:∃m:Nat,bO l (bV (i+3)) 4=m:=⟨(bO l (bV (i+3)) 4).toNat,by omega⟩
 obtain⟨d,hd⟩:∃m:Nat,bO l (bV (i+4)) 6=m:=⟨(bO l (bV (i+4)) 6).toNat,by omega⟩
 have k1:∀a:Nat,a<4->tL a<2^64:=by decide
 have k2:∀a:Nat,a<4->∀b:Nat,b<3->rH a b<2^64:=by decide+kernel
 have k3:∀c:Nat,c<6->vv c<2^64:=by decide+kernel
 refine⟨?_,?_,?_,?_⟩
 ·show tL _<_;rw[ha];exact k1 a (by omega)
 ·show rH _ _<_;rw[ha,hb];exact k2 a (by omega) b (by omega)
 ·show vv _<_;rw[hc];exact k3 c (by omega)
 ·show vv _<_;rw[hd];exact k3 d (by omega)
theorem DY(l:Option (List Int)):(bg l).Fw:=by
 intro d hd
 have e:(bg l).aA=bf (kG l (bS l).2 (bO l 175 9) (bO l 175 9).toNat):=rfl
 rw[e,bL,kG,List.mem_map]at hd;obtain⟨k,_,rfl⟩:=hd;exact Ry _ _ _
theorem gU{n:Int} (h1:-9223372036854775808<=n) (h2:n<=9223372036854775807):bV n=n:=br h1 h2
structure KE (x:Ph):Prop where
 min:1<=x.min/\x.min<=12
 max:x.min<=x.max/\x.max<=36
 top:x.max<=x.top/\x.top<=50
 C7:0<=x.C7/\x.C7<=8
 step:1<=x.step/\x.step<=6
 eO:10<=x.eO/\x.eO<=13
 red:0<=x.red/\x.red<=4
 walk:(x.walk=0/\x.fc=0)\/(1<=x.walk/\x.walk<=10/\1<=x.fc/\x.fc<=10)
 iH:0<=x.iH/\x.iH<=3/\(x.iH=3->x.walk≠0)
 on:x.on=true
theorem NB(l:Option (List Int)) (i:Int):KE (jB l i):=by
 have r0:=aQ l i (n:=12) (by decide) (by decide)
 have r1:=aQ l (bV (i+1)) (n:=9) (by decide) (by decide)
 have r2:=aQ l (bV (i+2)) (n:=6) (by decide) (by decide)
 have r3:=aQ l (bV (i+3)) (n:=4) (by decide) (by decide)
 have r4:=aQ l (bV (i+4)) (n:=5) (by decide) (by decide)
 have r5:=aQ l (bV (i+5)) (n:=25) (by decide) (by decide)
 have r6:=aQ l (bV (i+6)) (n:=15) (by decide) (by decide)
 have r8:=aQ l (bV (i+8)) (n:=10) (by decide) (by decide)
 have r9:=aQ l (bV (i+8)) (n:=97) (by decide) (by decide)
 have ra:=aQ l (bV (i+9)) (n:=7) (by decide) (by decide)
 have rt:0<=(bO l (bV (i+8)) 97).tdiv 10/\(bO l (bV (i+8)) 97).tdiv 10<=9:=by
  rw[Int.tdiv_eq_ediv_of_nonneg r9.1];omega
 have e0:=gU (n:=1+bO l i 12) (by omega) (by omega)
 have e5:=gU (n:=1+bO l i 12+bO l (bV (i+5)) 25) (by omega) (by omega)
 have e6:=gU (n:=1+bO l i 12+bO l (bV (i+5)) 25+bO l (bV (i+6)) 15) (by omega) (by omega)
 have e8:=gU (n:=1+bO l (bV (i+8)) 10) (by omega) (by omega)
 have e9:=gU (n:=(bO l (bV (i+8)) 97).tdiv 10) (by omega) (by omega)
 have ea:=gU (n:=1+(bO l (bV (i+8)) 97).tdiv 10) (by omega) (by omega)
 have e2:=gU (n:=1+bO l (bV (i+2)) 6) (by omega) (by omega)
 have e3:=gU (n:=10+bO l (bV (i+3)) 4) (by omega) (by omega)
 refine⟨?_,?_,?_,?_,?_,?_,?_,?_,?_,rfl⟩<;>simp only[jB,e0,e5,e6,e8,e9,ea,e2,e3]
 ·omega
 ·omega
 ·omega
 ·omega
 ·omega
 ·omega
 ·omega
 ·split
  ·right;omega
  ·left;exact⟨rfl,rfl⟩
 ·split<;>split<;>omega
theorem Gb(l:Option (List Int)):∀(k i:Nat),k<=8->i<8->(B4 l k).getD i default=if i<k then jB l (10+12*i)else default
 |0,i,_,hi=>by rw[B4,List.getD_eq_getElem?_getD,List.getElem?_replicate,if_pos hi,if_neg (by omega)];rfl
 |k+1,i,hk,hi=>by
  have ih:=Gb l k i (by omega) hi
  rw[B4,List.getD_eq_getElem?_getD,List.getElem?_set]
  by_cases e:k=i
  ·subst e
   rw[if_pos rfl,if_pos (by rw[d7];omega),if_pos (by omega)];rfl
  ·rw[if_neg e,<-List.getD_eq_getElem?_getD,ih]
   by_cases h2:i<k
   ·rw[if_pos h2,if_pos (by omega)]
   ·rw[if_neg h2,if_neg (by omega)]
def nT(l:Option (List Int)):Nat:=(bS l).2
theorem lO(l:Option (List Int)):1<=nT l/\nT l<=8:=⟨zI l,wH l⟩
theorem Yd(l:Option (List Int)) {i:Nat} (hi:i<8):ej (bg l) i=if i<nT l then jB l (10+12*i)else default:=by
 rw[<-Re];exact Gb l (nT l) i (lO l).2 hi
theorem Aa(l:Option (List Int)) (G:Nat) (hG:G<=8):∀g,g<=G->1<=g->(bA l G g).2<=8-(G-g)
 |0,_,h=>by omega
 |g+1,h,_=>by
  have ih:(bA l G g).2<=8-(G-1-g):=by
   rcases Nat.eq_zero_or_pos g with rfl|h1
   ·simp[bA]
   ·have:=Aa l G hG g (by omega) h1;omega
  simp only[bA,bu,bX];omega
theorem E4(l:Option (List Int)) (G:Nat) (hG:G<=8) {g:Nat} (hg:g<G):∃(gr:Gr) (m:Nat),1<=m/\(bA l G (g+1)).1=(bA l G g).1++[gr]/\(bA l G (g+1)).2=(bA l G g).2+m/\gr.a.getD []++gr.b.getD []=dP (bA l G g).2 m:=by
 have hp:(bA l G g).2+1<=bX G g:=by
  unfold bX
  rcases Nat.eq_zero_or_pos g with rfl|h1
  ·simp[bA];omega
  ·have:=Aa l G hG g (by omega) h1;omega
 refine⟨_,bu (cnt l g 0 0) (bA l G g).2 (bX G g)+bu (cnt l g 1 (bu (cnt l g 0 0) (bA l G g).2 (bX G g))) ((bA l G g).2+bu (cnt l g 0 0) (bA l G g).2 (bX G g)) (bX G g),?_,rfl,?_,?_⟩
 ·generalize hm0:bu (cnt l g 0 0) (bA l G g).2 (bX G g)=m0
  rcases Nat.eq_zero_or_pos m0 with h0|h0
  ·have hc:1<=cnt l g 1 m0:=by
    simp only[cnt]
    by_cases hz:(bO l (1+2*(g:Int)+((1:Nat):Int)) 3).toNat=0
    ·rw[if_pos ⟨trivial,hz,h0⟩];exact Nat.le_refl _
    ·rw[if_neg (fun h=>hz h.2.1)];omega
   rw[h0]at hc⊢;simp only[bu];omega
  ·omega
 ·simp only[bA];omega
 ·simp only[bL]
  generalize bu (cnt l g 0 0) (bA l G g).2 (bX G g)=m0;generalize bu (cnt l g 1 m0) ((bA l G g).2+m0) (bX G g)=m1;simp only[dP,List.range_add,List.map_append,List.map_map]
  congr 1
  apply List.map_congr_left
  intro j _;simp only[Function.comp];omega
theorem Cn{t t':Tb} (h:t.groups=t'.groups) (p q:Int):gz t p q=gz t' p q:=by
 simp only[gz,gp,eU,h]
end Go.Eng
