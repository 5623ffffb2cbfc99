/- Part 20 of the engine and its library. -/
import Derived.Test.YtjnbemnncjbmgaaGreatPkA19
set_option linter.all false
set_option maxRecDepth 10000
set_option maxHeartbeats 4000000
namespace Go.Eng
open Go
inductive Out where
 |ret (r:AV) (fr:Option Nat) (css:List (List AV))
 |up (p:AV) (css:List (List AV))
 |new (cs:List AV)
 |NO (j o:Nat)
def Good(C:aQ) (f:Nat) (css:List (List AV)) (args:List (Option AV)):Out->Prop
 | .ret r fr D=>C.p f css args r fr D/\(css=[]->∀as:List AV,args=as.map some->C.c f as r fr)
 | .up p D=>C.q f css args p D
 | .new cs=>css=[]/\∀as:List AV,args=as.map some->C.n f as cs
 | .NO j o=>C.r f css args j o
structure ef where
 call:Nat->List (List AV)->List (Option AV)->Option Out
 it:AV->Option (List (List AV))
structure ef.Ok (E:ef) (C:aQ):Prop where
 call:∀f css args o,E.call f css args=some o->Good C f css args o
 it:∀g xs,E.it g=some xs->C.i g xs
abbrev Sl:=List (Nat×SV)
abbrev dU:=List (Nat×bH)
abbrev Lv:=List (Nat×Nat)
inductive Rs where
 |no
 |ok (v:SV) (sl:Sl) (bx:dU) (lv:Lv)
noncomputable section
section
variable (sl:Sl) (z:Nat) {bx:dU} {lv:Lv} {nx:Nat} {α:Type} (l:List (List AV)) (n:Nat) (x:aM)
def mK(l:List α):Nat:=List.rec (motive:=λ_=>Nat) 0 (λ_ _ D=>Nat.succ D) l
theorem jI{α:Type}:∀{l:List α},mK l=l.length
 |[]=>rfl
 |a::l=>by show Nat.succ (mK l)=_;rw[jI];rfl
def aiB:Bool:=List.rec (motive:=λ_=>Bool) true (λr _ D=>List.rec (motive:=λ_=>Bool) false (λ_ L _=>List.rec (motive:=λ_=>Bool) D (λ_ _ _=>false) L) r) l
theorem Pd:∀{l:List (List AV)},aiB l=true->∀r∈l,r.length=1
 |[],_,r,h=>by cases h
 |[]::l,h,r,D=>by cases h
 |[x]::l,h,r,D=>by
  rcases nb.1 D with rfl|D
  ·rfl
  ·exact Pd (l:=l) h r D
 |(x::y::z)::l,h,r,D=>by cases h
def aep:Bool:=List.rec (motive:=λ_=>Bool) true (λr _ D=>cond (Nat.beq (mK r) z) D false) l
theorem Pe{z:Nat}:∀{l:List (List AV)},aep z l=true->∀r∈l,r.length=z
 |[],_,r,h=>by cases h
 |a::l,h,r,L=>by
  have h:cond (Nat.beq (mK a) z) (aep z l) false=true:=h
  cases D:Nat.beq (mK a) z
  ·rw[D]at h;cases h
  ·rw[D]at h
   rcases nb.1 L with rfl|L
   ·rw[<-jI];exact pm D
   ·exact Pe h r L
def L3:Bool:=cond (Nat.beq z 1) (aiB l) (aep z l)
theorem AE{z:Nat} {l:List (List AV)} (h:L3 z l=true):∀r∈l,r.length=z:=by
 unfold L3 at h;cases D:Nat.beq z 1
 ·rw[D]at h;exact Pe h
 ·rw[D]at h
  rw[pm D];exact Pd h
def Ri(l m:List α):List α:=List.rec (motive:=λ_=>List α) m (λa _ D=>a::D) l
theorem Dg{α:Type}:∀{l m:List α},Ri l m=l++m
 |[],m=>rfl
 |a::l,m=>by show a::Ri l m=_;rw[Dg];rfl
def vL(l:List α):List α:=Nat.rec (motive:=λ_=>List α->List α) (λl=>l) (λ_ D l=>List.rec (motive:=λ_=>List α) [] (λ_ t _=>D t) l) n l
theorem rB{α:Type}:∀{n:Nat} {l:List α},vL n l=l.drop n
 |0,l=>rfl
 |n+1,[]=>rfl
 |n+1,a::l=>by show vL n l=_;rw[rB];rfl
def L4(l:List α):List α:=Nat.rec (motive:=λ_=>List α->List α) (λ_=>[]) (λ_ D l=>List.rec (motive:=λ_=>List α) [] (λa t _=>a::D t) l) n l
theorem AF{α:Type}:∀{n:Nat} {l:List α},L4 n l=l.take n
 |0,l=>rfl
 |n+1,[]=>rfl
 |n+1,a::l=>by show a::L4 n l=_;rw[AF];rfl
def lkF(l:Sl):Option SV:=List.rec (motive:=λ_=>Option SV) none (λp _ D=>Bool.rec D (some p.2) (Nat.beq n p.1)) l
def Gy(l:dU):Option bH:=List.rec (motive:=λ_=>Option bH) none (λp _ D=>Bool.rec D (some p.2) (Nat.beq n p.1)) l
def NP(l:Lv):Option Nat:=List.rec (motive:=λ_=>Option Nat) none (λp _ D=>Bool.rec D (some p.2) (Nat.beq n p.1)) l
def Ve(b:bH) (l:dU):dU:=List.rec (motive:=λ_=>dU) [] (λp r D=>Bool.rec (p::D) ((p.1,b)::r) (Nat.beq n p.1)) l
def L5(l:Lv):Lv:=List.rec (motive:=λ_=>Lv) [] (λp r D=>Bool.rec (p::D) D (Nat.beq n p.1)) l
theorem bq(m:Nat):(n==m)=Nat.beq n m:=by
 cases h:Nat.beq n m
 ·exact wb.2 (λe=>by subst e;rw[Nat.beq_refl]at h;cases h)
 ·exact md.2 (pm h)
theorem Pf{a b:Nat}:Nat.blt a b=true↔a<b:=by rw[Hn]
theorem yC{n:Nat}:∀{l:Sl},lkF n l=lk n l
 |[]=>rfl
 |(m,v)::r=>by
  show Bool.rec (motive:=λ_=>Option SV) (lkF n r) (some v) (Nat.beq n m)=_
  rw[lk,bq,yC];cases Nat.beq n m<;>rfl
theorem sP{n:Nat}:∀{l:dU},Gy n l=bO n l
 |[]=>rfl
 |(m,v)::r=>by
  show Bool.rec (motive:=λ_=>Option bH) (Gy n r) (some v) (Nat.beq n m)=_
  rw[bO,bq,sP];cases Nat.beq n m<;>rfl
theorem AG{n:Nat}:∀{l:Lv},NP n l=dJ n l
 |[]=>rfl
 |(m,v)::r=>by
  show Bool.rec (motive:=λ_=>Option Nat) (NP n r) (some v) (Nat.beq n m)=_
  rw[dJ,bq,AG];cases Nat.beq n m<;>rfl
theorem L6{n:Nat} {b:bH}:∀{l:dU},Ve n b l=nO n b l
 |[]=>rfl
 |(m,v)::r=>by
  show Bool.rec (motive:=λ_=>dU) ((m,v)::Ve n b r) ((m,b)::r) (Nat.beq n m)=_
  rw[nO,bq,L6];cases h:Nat.beq n m
  ·rfl
  ·rw[pm h];rfl
theorem FV{n:Nat}:∀{l:Lv},L5 n l=jj n l
 |[]=>rfl
 |(m,v)::r=>by
  show Bool.rec (motive:=λ_=>Lv) ((m,v)::L5 n r) (L5 n r) (Nat.beq n m)=_
  rw[jj,bq,FV];cases Nat.beq n m<;>rfl
def kM:Option SV:=aM.rec (motive:=λ_=>Option SV) (λn=>lkF n sl) (λv=>some (.dat v none)) x
theorem AH{sl:Sl} {x:aM}:kM sl x=bJ ⟨sl,bx,lv,nx⟩ x:=by
 cases x
 ·exact yC
 ·rfl
def akE(v:SV):Option AV:=match v with
 | .dat a _=>some a
 | .rp cs=>some (.ref cs)
 |_=>none
def cZ:Option AV:=Option.rec (motive:=λ_=>Option AV) none akE (kM sl x)
theorem jG{sl:Sl} {x:aM}:cZ sl x=aG ⟨sl,bx,lv,nx⟩ x:=by
 unfold cZ aG
 rw[AH (bx:=bx) (lv:=lv) (nx:=nx)]
 cases bJ ⟨sl,bx,lv,nx⟩ x with
 |none=>rfl
 |some v=>cases v<;>rfl
def qd(sl:Sl):List aM->Option (List AV)
 |[]=>some []
 |x::r=>match cZ sl x,qd sl r with
  |some a,some b=>some (a::b)
  |_,_=>none
theorem Bv{sl:Sl} {bx:dU} {lv:Lv} {nx:Nat}:∀{x:List aM},qd sl x=dO ⟨sl,bx,lv,nx⟩ x
 |[]=>rfl
 |x::r=>by
  rw[qd,dO,jG (bx:=bx) (lv:=lv) (nx:=nx),Bv]
  cases aG ⟨sl,bx,lv,nx⟩ x<;>cases dO ⟨sl,bx,lv,nx⟩ r<;>rfl
def rC(h:Bool) (sl:Sl):List aM->Option (List (Option AV)×List Nat)
 |[]=>some ([],[])
 |x::r=>match kM sl x,rC h sl r with
  |some (.dat a _),some (ps,D)=>some (some a::ps,D)
  |some (.rp cs),some (ps,D)=>some (some (.ref cs)::ps,D)
  |some (.ptr b 0),some (ps,D)=>some (none::ps,b::D)
  |some (.pt 0 [(b,0)]),some (ps,D)=>bif h then some (some .hole::ps,b::D)else none
  |_,_=>none
theorem AI{h:Bool} {sl:Sl} {bx:dU} {lv:Lv} {nx:Nat}:∀{x:List aM},rC h sl x=dP h ⟨sl,bx,lv,nx⟩ x
 |[]=>rfl
 |x::r=>by
  rw[rC,dP,AH (bx:=bx) (lv:=lv) (nx:=nx),AI]
  congr 1
def AJ(sl:Sl):List (Nat×Nat×aM)->Option (List (Nat×List AV))
 |[]=>some []
 |(off,D,x)::r=>match cZ sl x,AJ sl r with
  |some a,some ps=>if a.cells.length=D/\gS a none=true then some ((off,a.cells)::ps)else none
  |_,_=>none
theorem FX{sl:Sl} {bx:dU} {lv:Lv} {nx:Nat}:∀{x:List (Nat×Nat×aM)},AJ sl x=gV ⟨sl,bx,lv,nx⟩ x
 |[]=>rfl
 |(off,D,x)::r=>by
  rw[AJ,gV,jG (bx:=bx) (lv:=lv) (nx:=nx),FX]
  congr 1
def FY(sl:Sl) (z:Nat):List aM->Option (List (List AV))
 |[]=>some []
 |x::r=>match cZ sl x,FY sl z r with
  |some a,some rows=>if a.cells.length=z/\gS a none=true then some (a.cells::rows)else none
  |_,_=>none
theorem HK{sl:Sl} {bx:dU} {lv:Lv} {nx z:Nat}:∀{x:List aM},FY sl z x=j7 ⟨sl,bx,lv,nx⟩ z x
 |[]=>rfl
 |x::r=>by
  rw[FY,j7,jG (bx:=bx) (lv:=lv) (nx:=nx),HK]
  congr 1
def FZ(sl:Sl):List aM->Option (List (Nat×Nat))
 |[]=>some []
 |x::r=>match kM sl x,FZ sl r with
  |some (.ptr b o),some ps=>some ((b,o)::ps)
  |_,_=>none
theorem HL{sl:Sl} {bx:dU} {lv:Lv} {nx:Nat}:∀{x:List aM},FZ sl x=BC ⟨sl,bx,lv,nx⟩ x
 |[]=>rfl
 |x::r=>by
  rw[FZ,BC,AH (bx:=bx) (lv:=lv) (nx:=nx),HL]
  congr 1
def Pg:Option aM->Option Int
 |none=>some 0
 |some x=>xI (cZ sl x)
theorem Vf{sl:Sl} {x:Option aM}:Pg sl x=yK ⟨sl,bx,lv,nx⟩ x:=by
 cases x
 ·rfl
 ·rw[Pg,yK,jG (bx:=bx) (lv:=lv) (nx:=nx)]
def L7(xs:List (List AV)):Option aM->Option Int
 |none=>some (mK xs)
 |some x=>xI (cZ sl x)
end
section
variable (x i:aM) (n f:Nat) (g:aM) (args:List aM) (cs:List AV) (e z:Nat) (op:BinOp) (k:IntKind) (neg:Bool) (off:Nat) {R:Type} {xs:List (List AV)} (E:ef) (a:AV)
theorem Vg{sl:Sl} {bx:dU} {lv:Lv} {nx:Nat} {x:Option aM}:L7 sl xs x=xJ ⟨sl,bx,lv,nx⟩ xs x:=by
 cases x
 ·rw[L7,xJ,jI]
 ·rw[L7,xJ,jG (bx:=bx) (lv:=lv) (nx:=nx)]
def lZ(l:dU):List Nat->Option (List (List AV))
 |[]=>some []
 |b::D=>match Gy b l,lZ l D with
  |some x,some css=>some (x.cells::css)
  |_,_=>none
theorem sQ{l:dU}:∀{x:List Nat},lZ l x=aS l x
 |[]=>rfl
 |x::r=>by rw[lZ,aS,sP,sQ];congr 1
def Zs(b:Nat):List Nat->Bool
 |[]=>false
 |c::r=>cond (Nat.beq b c) true (Zs b r)
theorem Pj{b:Nat}:∀{l:List Nat},Zs b l=l.contains b
 |[]=>rfl
 |c::r=>by rw[Zs,List.contains_cons,Pj,bq];cases Nat.beq b c<;>rfl
def nE:List Nat->Bool
 |[]=>true
 |b::D=>cond (Zs b D) false (nE D)
theorem yD:∀{l:List Nat},nE l=dn l
 |[]=>rfl
 |c::r=>by rw[nE,dn,Pj,yD];cases r.contains c<;>rfl
def Vh{α:Type} (l:List α):Nat->Option α:=List.rec (motive:=λ_=>Nat->Option α) (λ_=>none) (λa _ D n=>Nat.rec (motive:=λ_=>Option α) (some a) (λm _=>D m) n) l
theorem Jm{α:Type}:∀{l:List α} {n:Nat},Vh l n=l[n]?
 |[],n=>by simp[Vh]
 |a::l,0=>rfl
 |a::l,n+1=>by
  show Vh l n=_
  rw[Jm];rfl
def yE:Option Nat->Option AV
 |none=>Vh cs off
 |some n=>Bool.rec (Bool.rec none (some (.agg (L4 n (vL off cs)))) (Nat.ble (off+n) (mK cs))) (some (.agg cs)) (and (Nat.beq off 0) (Nat.beq n (mK cs)))
theorem HM{cs:List AV} {off:Nat} {n:Option Nat}:yE cs off n=aB cs off n:=by
 cases n
 ·exact Jm
 ·rename_i n
  rw[yE,aB,jI,AF,rB];cases D:(Nat.beq off 0&&Nat.beq n cs.length)
  ·by_cases h:off+n<=cs.length
   ·rw[ib h,Nat.ble_eq_true_of_le h]
   ·rw[ge h]
    cases O:Nat.ble (off+n) cs.length
    ·rfl
    ·exact absurd (fi O) h
  ·simp only[ed]at D
   have M:=pm D.1
   have L:=pm D.2
   subst M
   rw[ib aaN,L]
   simp
def NQ:List AV:=match a with
 | .agg cs=>cs
 |a=>[a]
theorem Rj{a:AV}:NQ a=a.cells:=by cases a<;>rfl
def aeq(ps:List AV):List AV:=
 Bool.rec (Ri (L4 off cs) (Ri ps (vL (off+mK ps) cs))) ps (and (Nat.beq off 0) (Nat.beq (mK ps) (mK cs)))
theorem Zt{cs:List AV} {off:Nat} {ps:List AV}:aeq cs off ps=setCells cs off ps:=by
 unfold aeq setCells;rw[jI,jI,AF,rB,Dg,Dg];cases D:(Nat.beq off 0&&Nat.beq ps.length cs.length)
 ·rw[List.append_assoc]
 ·simp only[ed]at D
  have M:=pm D.1
  have L:=pm D.2
  subst M;simp[L]
def Vi(xs:List (List AV)) (l h:Int):AV:=match a with
 | .aU=>.aU
 |_=>.sl (L4 (h.toNat-l.toNat) (vL l.toNat xs))
theorem Zu{a:AV} {l h:Int}:Vi a xs l h=H6 a xs l h:=by
 unfold Vi H6;rw[AF,rB]
 cases a<;>first|rfl|(simp only[AV.sl.injEq];rw[List.drop_take])
def Vj:IntKind->Nat
 | .i8=>128
 | .u8=>256
 | .i16=>32768
 | .u16=>65536
 | .i32=>2147483648
 | .u32=>4294967296
 | .i64=>9223372036854775808
 | .u64=>18446744073709551616
def Pk(n:Int):Int:=Int.rec (motive:=λ_=>Int) (λm=>Bool.rec (k.wrap n) n (Nat.blt m (Vj k))) (λ_=>k.wrap n) n
theorem F0{k:IntKind} {n:Int}:Pk k n=k.wrap n:=by
 cases n with
 |negSucc m=>rfl
 |ofNat m=>
  show Bool.rec (motive:=λ_=>Int) _ _ (Nat.blt m (Vj k))=_
  cases h:Nat.blt m (Vj k)
  ·rfl
  ·have h:m<Vj k:=by simpa[Hn]using h
   show Int.ofNat m=_
   have e:(Int.ofNat m)=(m:Int):=rfl
   rw[e]
   cases k<;>simp only[Vj]at h<;>simp[IntKind.wrap,IntKind.bits,IntKind.signed]<;>omega
def Vk(x y:Int):Bool:=Int.rec (motive:=λ_=>Bool) (λa=>Int.rec (motive:=λ_=>Bool) (λb=>Nat.blt a b) (λ_=>decide (x<y)) y) (λ_=>decide (x<y)) x
theorem Jn{x y:Int}:Vk x y=decide (x<y):=by
 cases x with
 |negSucc a=>rfl
 |ofNat a=>cases y with
  |negSucc b=>rfl
  |ofNat b=>
   show Nat.blt a b=_
   by_cases h:a<b
   ·have:(Int.ofNat a)<(Int.ofNat b):=by simpa using h
    rw[Pf.2 h,decide_eq_true this]
   ·have:¬(Int.ofNat a)<(Int.ofNat b):=by simpa using h
    rw[decide_eq_false this];cases D:Nat.blt a b
    ·rfl
    ·exact absurd (Pf.1 D) h
def aer(x y:Int):Bool:=Int.rec (motive:=λ_=>Bool) (λa=>Int.rec (motive:=λ_=>Bool) (λb=>Nat.beq a b) (λ_=>x==y) y) (λ_=>x==y) x
theorem Vl{x y:Int}:aer x y=(x==y):=by
 cases x with
 |negSucc a=>rfl
 |ofNat a=>cases y with
  |negSucc b=>rfl
  |ofNat b=>
   show Nat.beq a b=_
   rw[<-bq]
   by_cases h:a=b
   ·subst h;simp
   ·have:¬(Int.ofNat a=Int.ofNat b):=λe=>h (Int.ofNat.inj e)
    rw[wb.2 h,wb.2 this]
def t8(x y:Int):Option AV:=
 match op with
 | .add=>some (.int k (Pk k (Int.add x y)))
 | .sub=>some (.int k (Pk k (Int.sub x y)))
 | .mul=>some (.int k (Pk k (Int.mul x y)))
 | .eql=>some (.bool (aer x y))
 | .neq=>some (.bool (not (aer x y)))
 | .lss=>some (.bool (Vk x y))
 | .leq=>some (.bool (not (Vk y x)))
 | .gtr=>some (.bool (Vk y x))
 | .geq=>some (.bool (not (Vk x y)))
 |_=>oG op k x y
theorem Vm{op:BinOp} {k:IntKind} {x y:Int}:t8 op k x y=oG op k x y:=by
 cases op<;>try rfl
 ·rw[t8,F0];rfl
 ·rw[t8,F0];rfl
 ·rw[t8,F0];rfl
 ·rw[t8,Vl];rfl
 ·rw[t8,Vl];rfl
 ·rw[t8,Jn];rfl
 ·rw[t8,Jn]
  simp only[oG,gc,AV.bool.injEq]
  by_cases h:x<=y
  ·have:¬y<x:=aaN
   simp[h,this]
  ·have:y<x:=aaN
   simp[h,this]
 ·rw[t8,Jn];rfl
 ·rw[t8,Jn]
  simp only[oG,gc,AV.bool.injEq]
  by_cases h:x>=y
  ·have:¬x<y:=aaN
   simp[h,this]
  ·have:x<y:=aaN
   simp[h,this]
def aiC:BinOp->Bool
 | .shl| .shr=>true
 |_=>false
def Vn(D:IntKind):Bool:=match k,D with
 | .i64,.i64=>true
 | .u8,.u8=>true
 | .u16,.u16=>true
 |k,D=>decide (k=D)
theorem Vo{k D:IntKind}:Vn k D=decide (k=D):=by cases k<;>cases D<;>rfl
def Vp(b:AV):Option AV:=
 match a,b with
 | .int k x,.int D y=>Bool.rec (Bool.rec none (t8 op k x y) (Vn k D)) (d7 op (.int k x) (.int D y)) (aiC op)
 |a,b=>d7 op a b
theorem Vq{op:BinOp} {a b:AV}:Vp op a b=d7 op a b:=by
 unfold Vp;split
 ·rename_i k x D y
  cases h:aiC op
  ·show Bool.rec (motive:=λ_=>Option AV) none (t8 op k x y) (Vn k D)=_
   rw[Vo,Vm]
   by_cases hk:k=D
   ·subst hk
    cases op<;>first|(simp only[decide_true,d7,kv];done)|(cases h)
   ·cases op<;>first|(simp only[hk,decide_false,d7,il];done)|(cases h)
  ·rfl
 ·rfl
def Zv(id:Nat) (fr:Option Nat) (lv:Lv):Lv:=match fr with
 |some e=>(id,e)::lv
 |none=>lv
def HN(id:Nat) (ids:List Nat) (sl:Sl) (bx:dU) (lv:Lv):Option Out->Rs
 |some (.ret r fr D)=>(.ok (.dat r (fr.map λ_=>id)) sl (dm ids D bx) (Zv id fr lv))
 |_=>.no
def frc(k:AV->R):R:=match a with
 | .int t n=>Int.rec (motive:=λ_=>R) (λm=>Nat.rec (motive:=λ_=>R) (k (.int t (.ofNat 0))) (λp _=>k (.int t (.ofNat (Nat.succ p)))) m) (λm=>k (.int t (.negSucc m))) n
 | .bool b=>Bool.rec (motive:=λ_=>R) (k (.bool false)) (k (.bool true)) b
 |a=>k a
theorem NR{a:AV} {k:AV->R}:frc a k=k a:=by
 unfold frc;split
 ·rename_i t n
  cases n with
  |ofNat m=>cases m<;>rfl
  |negSucc m=>rfl
 ·rename_i b;cases b<;>rfl
 ·rfl
def dat(a:Option AV) (sl:Sl) (bx:dU) (lv:Lv):Rs:=match a with
 |some a=>frc a λa=>(.ok (.dat a none) sl bx lv)
 |none=>.no
def NS(E:ef) (id:Nat) (sl:Sl) (bx:dU) (lv:Lv) (nx:Nat):Rs:=.no
def aiD(E:ef) (id:Nat) (sl:Sl) (bx:dU) (lv:Lv) (nx:Nat):Rs:=
 match kM sl x with
  |some v=>(.ok v sl bx lv)
  |none=>.no
def Vr(c:aM) (a:aM) (b:aM) (E:ef) (id:Nat) (sl:Sl) (bx:dU) (lv:Lv) (nx:Nat):Rs:=
 match cZ sl c with
  |some (.bool t)=>match kM sl a,kM sl b with
   |some u,some v=>(.ok (if t then u else v) sl bx lv)
   |_,_=>.no
  |_=>.no
def Pm(E:ef) (id:Nat) (sl:Sl) (bx:dU) (lv:Lv) (nx:Nat):Rs:=
 (.ok (.ptr id 0) sl ((id,⟨cs,[]⟩)::bx) lv)
def aap(E:ef) (id:Nat) (sl:Sl) (bx:dU) (lv:Lv) (nx:Nat):Rs:=
 match cZ sl x with
  |some a=>if gS a none then(match a with
   | .agg cs=>(.ok (.ptr id 0) sl ((id,⟨cs,[]⟩)::bx) lv)
   |a=>(.ok (.ptr id 0) sl ((id,⟨[a],[]⟩)::bx) lv))else .no
  |none=>.no
def Pn(zs:List AV) (parts:List (Nat×Nat×aM)) (E:ef) (id:Nat) (sl:Sl) (bx:dU) (lv:Lv) (nx:Nat):Rs:=
 match AJ sl parts with
  |some ps=>(.ok (.dat (.agg (nN zs ps)) none) sl bx lv)
  |none=>.no
def aaq(xs:List aM) (E:ef) (id:Nat) (sl:Sl) (bx:dU) (lv:Lv) (nx:Nat):Rs:=
 match FY sl z xs with
  |some rows=>(.ok (.dat (.sl rows) (some id)) sl bx ((id,e)::lv))
  |none=>.no
def aiE(D:Option Nat) (E:ef) (id:Nat) (sl:Sl) (bx:dU) (lv:Lv) (nx:Nat):Rs:=
 match kM sl x with
  |some (.ptr b off)=>match Gy b bx with
   |some y=>match yE y.cells off D with
    |some a=>(.ok (.dat a (match D with|none=>NP off y.tags|some _=>none)) sl bx lv)
    |none=>.no
   |none=>.no
  |some (.rp cs)=>dat (yE cs 0 D) sl bx lv
  |_=>.no
def aiF(v:aM) (D:Nat) (E:ef) (id:Nat) (sl:Sl) (bx:dU) (lv:Lv) (nx:Nat):Rs:=
 match kM sl x with
  |some (.ptr b off)=>match Gy b bx with
   |some y=>match kM sl v with
    |some (.dat a q)=>if gS a q&&Nat.beq (mK (NQ a)) D&&Nat.ble (off+D) (mK y.cells)then
      (.ok .undef sl (Ve b ⟨aeq y.cells off (NQ a),match q with|some q=>(off,q)::y.tags.filter (λp=>p.1<off||off+D<=p.1)|none=>y.tags.filter (λp=>p.1<off||off+D<=p.1)⟩ bx) lv)else .no
    |_=>.no
   |none=>.no
  |_=>.no
def aiG(E:ef) (id:Nat) (sl:Sl) (bx:dU) (lv:Lv) (nx:Nat):Rs:=
 match kM sl x with
  |some (.ptr b o)=>(.ok (.ptr b (o+off)) sl bx lv)
  |some (.rp cs)=>(.ok (.rp (vL off cs)) sl bx lv)
  |some (.pt 2 ps)=>(.ok (.pt 2 (vL off ps)) sl bx lv)
  |_=>.no
def aar(E:ef) (id:Nat) (sl:Sl) (bx:dU) (lv:Lv) (nx:Nat):Rs:=
 match kM sl x,cZ sl i with
  |some p,some (.int _ i)=>if 0<=i/\i<n then(match p with
    | .ptr b o=>(.ok (.ptr b (o+i.toNat*z)) sl bx lv)
    | .rp cs=>(.ok (.rp (vL (i.toNat*z) cs)) sl bx lv)
    |_=>.no)else .no
  |_,_=>.no
def aas(E:ef) (id:Nat) (sl:Sl) (bx:dU) (lv:Lv) (nx:Nat):Rs:=
 match kM sl x,cZ sl i with
  |some (.dat l _),some (.int _ i)=>match rowsOf l with
   |some xs=>if 0<=i then(match Vh xs i.toNat with
    |some row=>if Nat.beq (mK row) z then(.ok (.rp row) sl bx lv)else .no
    |none=>.no)else .no
   |none=>.no
  |some (.vs b off n D),some (.int _ i)=>if 0<=i/\i<n then(if D=z then(.ok (.ptr b (off+i.toNat*z)) sl bx lv)else .no)else .no
  |_,_=>.no
def aat(D:Option Nat) (E:ef) (id:Nat) (sl:Sl) (bx:dU) (lv:Lv) (nx:Nat):Rs:=
 match cZ sl x with
  |some (.agg cs)=>dat (yE cs off D) sl bx lv
  |_=>.no
def aau(D:Option Nat) (E:ef) (id:Nat) (sl:Sl) (bx:dU) (lv:Lv) (nx:Nat):Rs:=
 match cZ sl x,cZ sl i with
  |some (.agg cs),some (.int _ i)=>if 0<=i/\i<n then dat (yE cs (i.toNat*z) D) sl bx lv else .no
  |_,_=>.no
def aav(x y:aM) (E:ef) (id:Nat) (sl:Sl) (bx:dU) (lv:Lv) (nx:Nat):Rs:=
 match cZ sl x,cZ sl y with
  |some a,some b=>dat (Vp op a b) sl bx lv
  |_,_=>.no
def aaw(D:List CK) (neg:Bool) (x:aM) (y:aM) (E:ef) (id:Nat) (sl:Sl) (bx:dU) (lv:Lv) (nx:Nat):Rs:=
 match cZ sl x,cZ sl y with
  |some (.agg as),some (.agg L)=>match cq D as L with
   |some e=>dat (some (.bool (e !=neg))) sl bx lv
   |none=>.no
  |_,_=>.no
def aiH(x y:aM) (E:ef) (id:Nat) (sl:Sl) (bx:dU) (lv:Lv) (nx:Nat):Rs:=
 match cZ sl x,cZ sl y with
  |some a,some b=>dat (bbA neg a b) sl bx lv
  |_,_=>.no
def aiI(op:UnOp) (x:aM) (E:ef) (id:Nat) (sl:Sl) (bx:dU) (lv:Lv) (nx:Nat):Rs:=
 match cZ sl x with
  |some a=>dat (ZU op a) sl bx lv
  |none=>.no
def Vs(x:aM) (E:ef) (id:Nat) (sl:Sl) (bx:dU) (lv:Lv) (nx:Nat):Rs:=
 match cZ sl x with
  |some a=>dat (Dp k a) sl bx lv
  |none=>.no
def Vt(k:FloatKind) (x:aM) (E:ef) (id:Nat) (sl:Sl) (bx:dU) (lv:Lv) (nx:Nat):Rs:=
 match cZ sl x with
  |some a=>dat (Dq k a) sl bx lv
  |none=>.no
def Vu(x:aM) (E:ef) (id:Nat) (sl:Sl) (bx:dU) (lv:Lv) (nx:Nat):Rs:=
 match cZ sl x with
  |some a=>dat (yI k a) sl bx lv
  |none=>.no
def Vv(E:ef) (id:Nat) (sl:Sl) (bx:dU) (lv:Lv) (nx:Nat):Rs:=
 match kM sl x with
  |some (.dat a _)=>dat (xH a) sl bx lv
  |some (.vs _ _ n _)=>dat (some (.int .i64 n)) sl bx lv
  |_=>.no
def Vw(E:ef) (id:Nat) (sl:Sl) (bx:dU) (lv:Lv) (nx:Nat):Rs:=
 dat (some (.int .i64 n)) sl bx lv
def aax(bytes:Nat) (x y:aM) (E:ef) (id:Nat) (sl:Sl) (bx:dU) (lv:Lv) (nx:Nat):Rs:=
 match kM sl x,cZ sl y with
  |some (.dat a q),some b=>match rowsOf a,rowsOf b with
   |some xs,some D=>if Nat.ble ((mK xs+mK D)*bytes) 140737488355328&&L3 z xs&&L3 z D then(match a,q with
    | .aU,_=>(match D with
     |[]=>(.ok (.dat .aU none) sl bx lv)
     |y::r=>(.ok (.dat (.sl (Ri xs (y::r))) (some id)) sl bx ((id,e)::lv)))
    | .sl _,some q=>(match NP q lv with
     |some L=>if L=e then(.ok (.dat (.sl (Ri xs D)) (some id)) sl bx ((id,e)::L5 q lv))else .no
     |none=>.no)
    |_,_=>.no)else .no
   |_,_=>.no
  |_,_=>.no
def Vx(id:Nat) (sl:Sl) (bx:dU) (lv:Lv) (nx:Nat):Rs:=
 match qd sl args with
  |some as=>HN id [] sl bx lv (E.call f [] (as.map some))
  |none=>.no
def Po(id:Nat) (sl:Sl) (bx:dU) (lv:Lv) (nx:Nat):Rs:=
 match rC true sl args with
  |some (as,ids)=>if nE ids then(match lZ bx ids with
   |some css=>HN id ids sl bx lv (E.call f css as)
   |none=>.no)else .no
  |none=>.no
def Pp(id:Nat) (sl:Sl) (bx:dU) (lv:Lv) (nx:Nat):Rs:=
 match cZ sl g,qd sl args with
  |some (.fn (.func f) first caps),some as=>HN id [] sl bx lv (E.call f [] ((first++as++caps).map some))
  |_,_=>.no
def aay(i:Nat) (E:ef) (id:Nat) (sl:Sl) (bx:dU) (lv:Lv) (nx:Nat):Rs:=
 match cZ sl x with
  |some a=>dat (PS a i) sl bx lv
  |none=>.no
def aaz(fn:Fn) (first:List aM) (caps:List aM) (E:ef) (id:Nat) (sl:Sl) (bx:dU) (lv:Lv) (nx:Nat):Rs:=
 match qd sl first,rC false sl caps with
  |some as,some (cs,ids)=>if nE ids&&iu ids then(match lZ bx ids with
   |some css=>(match gM ids css ⟨sl,bx,lv,nx⟩with
    |⟨M,L,D,_⟩=>(.ok (.dat (.fn fn as (jR cs css)) none) M L D))
   |none=>.no)else .no
  |_,_=>.no
def aaA(x:aM) (lo D:Option aM) (E:ef) (id:Nat) (sl:Sl) (bx:dU) (lv:Lv) (nx:Nat):Rs:=
 match cZ sl x with
  |some a=>match rowsOf a with
   |some xs=>match Pg sl lo,L7 sl xs D with
    |some l,some h=>if(0<=l/\l<=h/\h<=mK xs)then(if L3 z xs then(.ok (.dat (Vi a xs l h) none) sl bx lv)else .no)else .no
    |_,_=>.no
   |none=>.no
  |none=>.no
def aiJ(E:ef) (id:Nat) (sl:Sl) (bx:dU) (lv:Lv) (nx:Nat):Rs:=
 match kM sl x with
  |some (.ptr b o)=>(.ok (.ptr b o) sl bx lv)
  |some (.rp cs)=>(.ok (.rp cs) sl bx lv)
  |some (.dat (.fn (.func f) as D) q)=>(.ok (.dat (.fn (.func f) as D) q) sl bx lv)
  |some (.dat (.ref cs) _)=>(.ok (.rp cs) sl bx lv)
  |_=>.no
def aiK(mx:Bool) (args:List aM) (E:ef) (id:Nat) (sl:Sl) (bx:dU) (lv:Lv) (nx:Nat):Rs:=
 match qd sl args with
  |some (a::r)=>dat (r.foldlM (Wn mx) a) sl bx lv
  |_=>.no
def aiL(e:Xt) (x:aM) (E:ef) (id:Nat) (sl:Sl) (bx:dU) (lv:Lv) (nx:Nat):Rs:=
 match cZ sl x with
  |some a=>dat (xtA e a) sl bx lv
  |none=>.no
def aaB(E:ef) (id:Nat) (sl:Sl) (bx:dU) (lv:Lv) (nx:Nat):Rs:=
 match kM sl x with
  |some (.rp cs)=>if n*z<=cs.length then(.ok (.dat (.sl (cU z n cs)) none) sl bx lv)else .no
  |some (.ptr b off)=>if 4<=b then(match Gy b bx with
   |some y=>if n*z<=(vL off y.cells).length then(.ok (.dat (.sl (cU z n (vL off y.cells))) none) (CC b y.cells sl) (lu b bx) lv)else .no
   |none=>.no)else .no
  |_=>.no
def aaC(x:aM) (E:ef) (id:Nat) (sl:Sl) (bx:dU) (lv:Lv) (nx:Nat):Rs:=
 match cZ sl x with
  |some a=>match HZ neg a with
   |some b=>dat (some (.bool b)) sl bx lv
   |none=>.no
  |none=>.no
def L8(id:Nat) (sl:Sl) (bx:dU) (lv:Lv) (nx:Nat):Rs:=
 match cZ sl g,rC true sl args with
  |some (.fn (.func f) [] []),some (as,ids)=>if nE ids then(match lZ bx ids with
   |some css=>HN id ids sl bx lv (E.call f css as)
   |none=>.no)else .no
  |_,_=>.no
def aaD(E:ef) (id:Nat) (sl:Sl) (bx:dU) (lv:Lv) (nx:Nat):Rs:=
 match cZ sl x,cZ sl i with
  |some (.str b),some (.int _ i)=>dat (JQ b i) sl bx lv
  |_,_=>.no
def aaE(D:Option Nat) (E:ef) (id:Nat) (sl:Sl) (bx:dU) (lv:Lv) (nx:Nat):Rs:=
 match kM sl x with
  |some (.pt 2 ps)=>match D,ps with
   |none,(b,o)::_=>(.ok (.ptr b o) sl bx lv)
   |some n,ps=>if n<=ps.length then(.ok (.pt 0 (ps.take n)) sl bx lv)else .no
   |_,_=>.no
  |_=>.no
def L9(id:Nat) (o:bG):Sl->dU->Lv->Nat->Rs:=
 bG.rec (motive:=λ_=>ef->Nat->Sl->dU->Lv->Nat->Rs) aiD Vr Pm aap Pn aaq aiE aiF aiG aar aas aat aau aav aaw aiH aiI Vs Vt Vu (λ_=>NS) Vv Vw aax Vx Po Pp aay aaz aaA aiJ aiK aiL aaB aaD aaC L8 (λ_ _=>NS) (λ_ _=>NS) (λ_ _ _ _=>NS) (λ_ _ _ _ _=>NS) aaE (λ_ _=>NS) o E id
end
variable{E:ef} {C:aQ}
section
variable {bx:dU} {id:Nat} {lv:Lv} {sl:Sl}
theorem Vy{a:AV}:dat (some a) sl bx lv=.ok (.dat a none) sl bx lv:=by unfold dat;exact NR
theorem sR{a:Option AV} {p:Rs} (h:dat a sl bx lv=p) (D:p≠.no):∃x,a=some x/\p=.ok (.dat x none) sl bx lv:=by
 cases a with
 |none=>subst h;exact absurd rfl D
 |some x=>
  simp only[dat,NR]at h;subst h;exact⟨x,rfl,rfl⟩
theorem AK{ids:List Nat} {o:Option Out} {R:SV} {O:Sl} {L:dU} {M:Lv} (h:HN id ids sl bx lv o=.ok R O L M):∃r fr D,o=some (.ret r fr D)/\R=.dat r (fr.map λ_=>id)/\O=sl/\L=dm ids D bx/\M=Zv id fr lv:=by
 unfold HN at h;split at h
 ·cases h;exact⟨_,_,_,rfl,rfl,rfl,rfl,rfl⟩
 ·cases h
theorem Jo(hE:E.Ok C) {o:bG} {nx:Nat} {v':SV} {ag:Sl} {ae:dU} {ac:Lv} {K:SV->S->Prop} (h:L9 E id o sl bx lv nx=.ok v' ag ae ac) (hk:K v' ⟨ag,ae,ac,nx⟩):bn C id o K ⟨sl,bx,lv,nx⟩:=by
 have q1:∀x,kM sl x=bJ ⟨sl,bx,lv,nx⟩ x:=λ_=>AH
 have q2:∀x,cZ sl x=aG ⟨sl,bx,lv,nx⟩ x:=λ_=>jG
 have q3:∀x,qd sl x=dO ⟨sl,bx,lv,nx⟩ x:=λ_=>Bv
 have q4:∀h x,rC h sl x=dP h ⟨sl,bx,lv,nx⟩ x:=λ_ _=>AI
 have q5:∀x,AJ sl x=gV ⟨sl,bx,lv,nx⟩ x:=λ_=>FX
 have q6:∀z x,FY sl z x=j7 ⟨sl,bx,lv,nx⟩ z x:=λ_ _=>HK
 have q7:∀x,Pg sl x=yK ⟨sl,bx,lv,nx⟩ x:=λ_=>Vf
 have q8:∀z x,L7 sl z x=xJ ⟨sl,bx,lv,nx⟩ z x:=λ_ _=>Vg
 unfold L9 at h
 cases o<;>simp only[NS,aiD,Vr,Pm,aap,Pn,aaq,aiE,aiF,aiG,aar,aas,aat,aau,aav,aaw,aiH,aiI,Vs,Vt,Vu,Vv,Vw,aax,Vx,Po,Pp,aay,aaz,aaA,aiJ,aiK,aiL,aaB,aaD,aaC,L8,aaE,q1,q2,q3,q4,q5,q6,q7,q8,sP,AG,L6,FV,sQ,yD,HM,Vq,Vy,jI,Rj,Zt,rB,Jm,Dg,Zu]at h
 case BA=>cases h
 case rH=>cases h
 case Dl=>cases h
 case ZT=>cases h
 case Dm=>cases h
 case uk=>cases h
 case call f args=>
  split at h<;>try(cases h;done)
  rename_i as L;obtain⟨r,fr,O,M,rfl,rfl,rfl,rfl⟩:=AK h;simp only[bn,L,ax]
  have hg:=(hE.call _ _ _ _ M).2 rfl as rfl
  exact⟨r,fr,hg,hk⟩
 case fu g args=>
  split at h<;>try(cases h;done)
  rename_i f first caps as hg L
  obtain⟨r,fr,O,M,rfl,rfl,rfl,rfl⟩:=AK h;simp only[bn,L,hg,ax]
  have hg:=(hE.call _ _ _ _ M).2 rfl _ rfl
  exact⟨r,fr,hg,hk⟩
 case dR f args=>
  split at h<;>try(cases h;done)
  rename_i as ids L
  split at h<;>try(cases h;done)
  rename_i hn
  split at h<;>try(cases h;done)
  rename_i css Z;obtain⟨r,fr,O,M,rfl,rfl,rfl,rfl⟩:=AK h;simp only[bn,L,ax,Z];exact⟨hn,r,fr,O,(hE.call _ _ _ _ M).1,hk⟩
 case gi g args=>
  split at h<;>try(cases h;done)
  rename_i f as ids hg L
  split at h<;>try(cases h;done)
  rename_i hn
  split at h<;>try(cases h;done)
  rename_i css Z;obtain⟨r,fr,O,M,rfl,rfl,rfl,rfl⟩:=AK h;simp only[bn,L,hg,ax,Z];exact⟨hn,r,fr,O,(hE.call _ _ _ _ M).1,hk⟩
 case pick c a b=>
  split at h<;>try(cases h;done)
  rename_i t M
  split at h<;>try(cases h;done)
  rename_i u v hu R;cases h;simp only[bn,M,hu,R,ax]
  exact⟨λe=>by subst e;exact hk,λe=>by subst e;exact hk⟩
 case ld x sz=>
  split at h<;>try(cases h;done)
  ·rename_i b off D
   split at h<;>try(cases h;done)
   rename_i y hy
   split at h<;>try(cases h;done)
   rename_i a L;cases h;simp only[bn,D,ax,hy,L];exact hk
  ·rename_i cs D
   obtain⟨a,L,e⟩:=sR h aaP;cases e
   simp only[bn,D,ax,L];exact hk
 case st x v sz=>
  split at h<;>try(cases h;done)
  rename_i b off D
  split at h<;>try(cases h;done)
  rename_i y hy
  split at h<;>try(cases h;done)
  rename_i a q R
  split at h<;>try(cases h;done)
  rename_i M;simp only[ed]at M;cases h;simp only[bn,D,R,ax,hy];exact⟨M.1.1,pm M.1.2,fi M.2,hk⟩
 case app e z bytes x y=>
  split at h<;>try(cases h;done)
  rename_i a q b D hy
  split at h<;>try(cases h;done)
  rename_i xs ys h1 h2
  split at h<;>try(cases h;done)
  rename_i M;simp only[ed]at M;simp only[bn,D,hy,ax,h1,h2];refine⟨fi M.1.1,AE M.1.2,AE M.2,?_⟩;split at h
  ·split at h
   ·cases h;exact hk
   ·cases h;exact hk
  ·split at h<;>try(cases h;done)
   rename_i e' hl
   split at h<;>try(cases h;done)
   rename_i he;subst he;cases h;exact⟨hl,hk⟩
  ·cases h
 case MB x i n z=>
  split at h<;>try(cases h;done)
  rename_i pv k i' D V
  split at h<;>try(cases h;done)
  rename_i M;simp only[bn,D,V,ax,idxOf];refine⟨M,?_⟩
  split at h<;>(cases h;try exact hk)
 case V3 x i z=>
  split at h<;>try(cases h;done)
  ·rename_i l q k i' D V
   split at h<;>try(cases h;done)
   rename_i xs ad
   split at h<;>try(cases h;done)
   rename_i h0
   split at h<;>try(cases h;done)
   rename_i row ab
   split at h<;>try(cases h;done)
   rename_i hz;cases h;simp only[bn,D,V,ax,idxOf,ad,ab]
   have am:=(em.1 ab).1
   exact⟨⟨h0,aaN⟩,pm hz,hk⟩
  ·rename_i b off n z' k i' D V
   split at h<;>try(cases h;done)
   rename_i h0
   split at h<;>try(cases h;done)
   rename_i hz;cases h;simp only[bn,D,V,ax,idxOf];exact⟨h0,hz,hk⟩
 case GC x i n z sz=>
  split at h<;>try(cases h;done)
  rename_i cs k i' D V
  split at h<;>try(cases h;done)
  rename_i M
  obtain⟨a,L,e⟩:=sR h aaP;cases e
  simp only[bn,D,V,ax,idxOf,L];exact⟨M,hk⟩
 case uh fn first caps=>
  split at h<;>try(cases h;done)
  rename_i as cs ids L Z
  split at h<;>try(cases h;done)
  rename_i M
  split at h<;>try(cases h;done)
  rename_i css ak;simp only[bn,L,Z,ax,ak];refine⟨M,?_⟩;generalize hf:gM ids css ⟨sl,bx,lv,nx⟩=s' at h;obtain⟨ag,ae,ac,al⟩:=s';cases h
  have aa:=rJ (ids:=ids) (css:=css) (s:=⟨sl,bx,lv,nx⟩)
  rw[hf]at aa
  have aa:al=nx:=aa
  subst aa;exact hk
 case V4 z x lo V=>
  split at h<;>try(cases h;done)
  rename_i a L
  split at h<;>try(cases h;done)
  rename_i xs ad
  split at h<;>try(cases h;done)
  rename_i l hh h1 h2
  split at h<;>try(cases h;done)
  rename_i M
  split at h<;>try(cases h;done)
  rename_i hl;cases h;simp only[bn,L,ad,h1,h2,ax];exact⟨M,AE hl,hk⟩
 case Wj x n z=>
  split at h<;>try(cases h;done)
  ·rename_i cs D
   split at h<;>try(cases h;done)
   rename_i M;cases h;simp only[bn,D,ax];exact⟨M,hk⟩
  ·rename_i b off D
   split at h<;>try(cases h;done)
   rename_i h4
   split at h<;>try(cases h;done)
   rename_i y hy
   split at h<;>try(cases h;done)
   rename_i M;cases h;simp only[bn,D,ax,hy];exact⟨h4,M,hk⟩
 case nc x=>
  split at h<;>(try(cases h;done))<;>(rename_i D;cases h;simp only[bn,D,ax];exact hk)
 case fa x off=>
  split at h<;>(try(cases h;done))<;>(rename_i D;cases h;simp only[bn,D,ax];exact hk)
 case V5 x sz=>
  split at h<;>try(cases h;done)
  rename_i ps D;simp only[bn,D,ax]
  split at h<;>try(cases h;done)
  ·cases h;exact hk
  ·split at h<;>try(cases h;done)
   rename_i M;cases h;exact⟨M,hk⟩
 case JO x=>
  split at h<;>try(cases h;done)
  ·rename_i a q D
   obtain⟨v,L,e⟩:=sR h aaP;cases e
   simp only[bn,D,ax,L];exact hk
  ·rename_i D;cases h;simp only[bn,D,ax];exact hk
 case eqc ks neg x y=>
  split at h<;>try(cases h;done)
  rename_i as bs D hy
  split at h<;>try(cases h;done)
  rename_i e he;cases h;simp only[bn,D,hy,ax,he];exact hk
 case ZS neg x=>
  split at h<;>try(cases h;done)
  rename_i a L
  split at h<;>try(cases h;done)
  rename_i b hb;cases h;simp only[bn,L,hb,ax];exact hk
 case box x=>
  split at h<;>try(cases h;done)
  rename_i a L
  split at h<;>try(cases h;done)
  rename_i hs;simp only[bn,L,ax];refine⟨hs,?_⟩
  cases a<;>(cases h;exact hk)
 case alloc cs=>cases h;exact hk
 case JP n=>cases h;exact hk
 case mv x=>split at h<;>(try(cases h;done));rename_i v R;cases h;simp only[bn,R,ax];exact hk
 case build zs parts=>split at h<;>(try(cases h;done));rename_i v R;cases h;simp only[bn,R,ax];exact hk
 case RG e z xs=>split at h<;>(try(cases h;done));rename_i v R;cases h;simp only[bn,R,ax];exact hk
 case mm mx args=>
  split at h<;>(try(cases h;done))
  rename_i a r R
  obtain⟨v,L,e⟩:=sR h aaP;cases e
  simp only[bn,R,ax,L];exact hk
 case GB x off sz=>
  split at h<;>(try(cases h;done))
  rename_i a R
  obtain⟨v,L,e⟩:=sR h aaP;cases e
  simp only[bn,R,ax,L];exact hk
 case ixB x i=>
  split at h<;>(try(cases h;done))
  rename_i b k i' D V
  obtain⟨v,L,e⟩:=sR h aaP;cases e
  simp only[bn,D,V,ax,idxOf,L];exact hk
 case bin op x y=>
  split at h<;>(try(cases h;done))
  rename_i a b D V
  obtain⟨v,L,e⟩:=sR h aaP;cases e
  simp only[bn,D,V,ax,L];exact hk
 case bb op x y=>
  split at h<;>(try(cases h;done))
  rename_i a b D V
  obtain⟨v,L,e⟩:=sR h aaP;cases e
  simp only[bn,D,V,ax,L];exact hk
 all_goals
  split at h<;>(try(cases h;done))
  rename_i a R
  obtain⟨v,L,e⟩:=sR h aaP;cases e
  simp only[bn,R,ax,L];exact hk
end
end
noncomputable section
section
variable (f id:Nat) (neg:Bool) (e:Nat) (g:aM) (sl:Sl) (t:Nat) (args:List aM) (bx:dU) (x:aM)
inductive XR where
 |ok (v:SV) (sl:Sl) (bx:dU) (lv:Lv)
 |up (p:AV) (sl:Sl) (bx:dU) (lv:Lv)
def oks:Rs->Option XR
 | .ok v sl bx lv=>some (.ok v sl bx lv)
 | .no=>none
def Rk(a:Option AV) (sl:Sl) (bx:dU) (lv:Lv):Option XR:=match a with
 |some a=>frc a λa=>some (.ok (.dat a none) sl bx lv)
 |none=>none
def Zw(ids:List Nat) (sl:Sl) (bx:dU) (lv:Lv):Option Out->Option XR
 |some (.ret r fr D)=>some (.ok (.dat r (fr.map λ_=>id)) sl (dm ids D bx) (Zv id fr lv))
 |some (.up p D)=>some (.up p sl (dm ids D bx) lv)
 |_=>none
def aaF(lv:Lv):Option Out->Option XR
 |some (.ret r fr [])=>some (.ok (.dat r (fr.map λ_=>id)) sl bx (Zv id fr lv))
 |some (.up p [])=>some (.up p sl bx lv)
 |some (.new cs)=>some (.ok (.ptr id 0) sl ((id,⟨cs,[]⟩)::bx) lv)
 |_=>none
def Vz(E:ef) (id:Nat) (sl:Sl) (bx:dU) (lv:Lv) (nx:Nat):Option XR:=none
def aaG(c:bG) (E:ef) (id:Nat) (sl:Sl) (bx:dU) (lv:Lv) (nx:Nat):Option XR:=
 oks (L9 E id c sl bx lv nx)
def Ma(E:ef) (id:Nat) (sl:Sl) (bx:dU) (lv:Lv) (nx:Nat):Option XR:=
 match qd sl args with
  |some as=>aaF id sl bx lv (E.call f [] (as.map some))
  |none=>none
def HO(E:ef) (id:Nat) (sl:Sl) (bx:dU) (lv:Lv) (nx:Nat):Option XR:=
 match rC true sl args with
  |some (as,ids)=>if nE ids then(match lZ bx ids with
   |some css=>Zw id ids sl bx lv (E.call f css as)
   |none=>none)else none
  |none=>none
def HP(b:Bool) (g:aM) (args:List aM) (E:ef) (id:Nat) (sl:Sl) (bx:dU) (lv:Lv) (nx:Nat):Option XR:=
 match kM sl g with
  |some (.mL f as D)=>match rC true sl args with
   |some (ps,ids)=>if nE (ids++D)then(match lZ bx (ids++D)with
    |some css=>Zw id (ids++D) sl bx lv (E.call f css (ps++as))
    |none=>none)else none
   |none=>none
  |some _=>oks (L9 E id (if b then .gi g args else .fu g args) sl bx lv nx)
  |none=>none
def Pq(caps:List aM) (E:ef) (id:Nat) (sl:Sl) (bx:dU) (lv:Lv) (nx:Nat):Option XR:=
 match rC false sl caps with
  |some (as,D)=>some (.ok (.mL f as D) sl bx lv)
  |none=>none
def Pt(E:ef) (id:Nat) (sl:Sl) (bx:dU) (lv:Lv) (nx:Nat):Option XR:=
 match cZ sl x with
  |some a=>if iI a then some (.up a sl bx lv)else none
  |none=>none
def Pu(E:ef) (id:Nat) (sl:Sl) (bx:dU) (lv:Lv) (nx:Nat):Option XR:=
 match cZ sl x with
  |some a=>if gS a none then some (.ok (.dat (.iface t a) none) sl bx lv)else none
  |none=>none
def Pv(z:AV) (x:aM) (E:ef) (id:Nat) (sl:Sl) (bx:dU) (lv:Lv) (nx:Nat):Option XR:=
 match cZ sl x with
  |some a=>Rk (JR t z a) sl bx lv
  |none=>none
def Pw(E:ef) (id:Nat) (sl:Sl) (bx:dU) (lv:Lv) (nx:Nat):Option XR:=
 match cZ sl x with
  |some a=>match MC neg a with
   |some b=>Rk (some (.bool b)) sl bx lv
   |none=>none
  |none=>none
def Px(E:ef) (id:Nat) (sl:Sl) (bx:dU) (lv:Lv) (nx:Nat):Option XR:=
 match kM sl x with
  |some a=>match Dr neg a with
   |some b=>Rk (some (.bool b)) sl bx lv
   |none=>none
  |none=>none
def Py(bytes:Nat) (l c:aM) (E:ef) (id:Nat) (sl:Sl) (bx:dU) (lv:Lv) (nx:Nat):Option XR:=
 match cZ sl l,cZ sl c with
  |some (.int _ l),some (.int _ c)=>if 0<=l/\l<=c/\c*bytes<=140737488355328 then some (.ok (.raw id l.toNat) sl bx ((id,e)::lv))else none
  |_,_=>none
def Pz(y:aM) (E:ef) (id:Nat) (sl:Sl) (bx:dU) (lv:Lv) (nx:Nat):Option XR:=
 match kM sl x,cZ sl y with
  |some (.raw q n),some b=>match rowsOf b with
   |some D=>if Nat.beq (mK D) n&&L3 1 D then(match NP q lv with
    |some L=>if L=e then some (.ok (.dat (.int .i64 n) none) (Du q n (.sl D) id sl) bx ((id,e)::L5 q lv))else none
    |none=>none)else none
   |none=>none
  |_,_=>none
def Mb(E:ef) (id:Nat) (sl:Sl) (bx:dU) (lv:Lv) (nx:Nat):Option XR:=
 match kM sl x with
  |some (.ptr b o)=>some (.ok (.pt 0 [(b,o)]) sl bx lv)
  |_=>none
def Mc(E:ef) (id:Nat) (sl:Sl) (bx:dU) (lv:Lv) (nx:Nat):Option XR:=
 match kM sl x with
  |some (.pt 0 ps)=>some (.ok (.pt 2 ps) sl bx lv)
  |_=>none
def PA(v:aM) (E:ef) (id:Nat) (sl:Sl) (bx:dU) (lv:Lv) (nx:Nat):Option XR:=
 match kM sl x,kM sl v with
  |some (.ptr b 0),some (.pt 0 ps)=>match Gy b bx with
   |some y=>if 4<=b/\y.cells.length=1/\ps.length=1 then some (.ok .undef (Dv b ps sl) (lu b bx) lv)else none
   |none=>none
  |_,_=>none
def Md(xs:List aM) (E:ef) (id:Nat) (sl:Sl) (bx:dU) (lv:Lv) (nx:Nat):Option XR:=
 match FZ sl xs with
  |some ps=>some (.ok (.pt 1 ps) sl bx lv)
  |none=>none
def PB(i:aM) (E:ef) (id:Nat) (sl:Sl) (bx:dU) (lv:Lv) (nx:Nat):Option XR:=
 match kM sl x,cZ sl i with
  |some (.pt 1 ps),some (.int _ i)=>if 0<=i/\i<ps.length then some (.ok (.pt 2 (vL i.toNat ps)) sl bx lv)else none
  |_,_=>none
def PC(E:ef) (id:Nat) (sl:Sl) (bx:dU) (lv:Lv) (nx:Nat):Option XR:=
 match kM sl x with
  |some (.pt 1 ps)=>some (.ok (.dat (.int .i64 ps.length) none) sl bx lv)
  |_=>none
def HQ(E:ef) (id:Nat) (sl:Sl) (bx:dU) (lv:Lv) (nx:Nat):Option XR:=
 match cZ sl g,rC true sl args with
  |some (.fn (.func f) [] []),some (as,ids)=>if nE ids then(match lZ bx ids with
   |some css=>(match E.call f css as with
    |some (.NO j o)=>(match ids[j]? with
     |some b=>some (.ok (.ptr b o) sl (dm ids css bx) lv)
     |none=>none)
    |_=>none)
   |none=>none)else none
  |_,_=>none
def PD(E:ef) (id:Nat) (o:Gd):Sl->dU->Lv->Nat->Option XR:=
 Gd.casesOn (motive:=λ_=>ef->Nat->Sl->dU->Lv->Nat->Option XR) o aaG Ma HO HP Pq Pt Pu Pv Pw Px Py Pz Mb Mc PA Md PB PC HQ (λ_ _ _ _=>Vz) E id
end
variable{E:ef} {C:aQ}
section
variable (d:Option Nat) (v:SV) {bx:dU} {lv:Lv} {p:XR} (sl:Sl)
theorem HR{a:AV} {sl:Sl}:Rk (some a) sl bx lv=some (.ok (.dat a none) sl bx lv):=by unfold Rk;exact NR
theorem Zx{a:Option AV} {sl:Sl} (h:Rk a sl bx lv=some p):∃x,a=some x/\p=.ok (.dat x none) sl bx lv:=by
 cases a with
 |none=>cases h
 |some x=>
  rw[HR]at h;cases h;exact⟨x,rfl,rfl⟩
theorem VA{a:Rs} (h:oks a=some p):∃v sl bx lv,a=.ok v sl bx lv/\p=.ok v sl bx lv:=by
 cases a with
 |no=>cases h
 |ok v sl bx lv=>cases h;exact⟨v,sl,bx,lv,rfl,rfl⟩
def akG(K:SV->S->Prop) (X:AV->S->Prop) (nx:Nat):XR->Prop
 | .ok v sl bx lv=>K v ⟨sl,bx,lv,nx⟩
 | .up p sl bx lv=>X p ⟨sl,bx,lv,nx⟩
theorem Me(hE:E.Ok C) {id:Nat} {o:Gd} {sl:Sl} {nx:Nat} {K:SV->S->Prop} {X:AV->S->Prop} (h:PD E id o sl bx lv nx=some p) (hk:akG K X nx p):cI C id o K X ⟨sl,bx,lv,nx⟩:=by
 have q1:∀x,kM sl x=bJ ⟨sl,bx,lv,nx⟩ x:=λ_=>AH
 have q2:∀x,cZ sl x=aG ⟨sl,bx,lv,nx⟩ x:=λ_=>jG
 have q3:∀x,qd sl x=dO ⟨sl,bx,lv,nx⟩ x:=λ_=>Bv
 have q4:∀h x,rC h sl x=dP h ⟨sl,bx,lv,nx⟩ x:=λ_ _=>AI
 have q5:∀x,FZ sl x=BC ⟨sl,bx,lv,nx⟩ x:=λ_=>HL
 unfold PD at h
 cases o<;>simp only[Vz,aaG,Ma,HO,HP,Pq,Pt,Pu,Pv,Pw,Px,Py,Pz,Mb,Mc,PA,Md,PB,PC,HQ,q1,q2,q3,q4,q5,sP,AG,FV,sQ,yD,HR,jI,rB]at h
 case o c=>
  obtain⟨v,ag,ae,ab,h1,rfl⟩:=VA h;exact Jo hE h1 hk
 case call f args=>
  split at h<;>try(cases h;done)
  rename_i as M;unfold aaF at h
  split at h<;>try(cases h;done)
  ·rename_i r fr D
   cases h;refine .inl ?_;simp only[bn,M,ax];exact⟨r,fr,(hE.call _ _ _ _ D).2 rfl _ rfl,hk⟩
  ·rename_i q D
   cases h;refine .inr ?_;simp only[M,ax];exact .inr (.inl ⟨q,(hE.call _ _ _ _ D),hk⟩)
  ·rename_i cs D
   cases h;refine .inr ?_;simp only[M,ax];exact .inl ⟨cs,(hE.call _ _ _ _ D).2 _ rfl,hk⟩
 case dR f args=>
  split at h<;>try(cases h;done)
  rename_i as ids M
  split at h<;>try(cases h;done)
  rename_i V
  split at h<;>try(cases h;done)
  rename_i css R;unfold Zw at h
  split at h<;>try(cases h;done)
  ·rename_i r fr L D
   cases h;refine .inl ?_;simp only[bn,M,ax,R];exact⟨V,r,fr,L,(hE.call _ _ _ _ D).1,hk⟩
  ·rename_i q L D
   cases h;refine .inr ?_;simp only[M,ax,R];exact⟨V,.inl ⟨q,L,hE.call _ _ _ _ D,hk⟩⟩
 case fu b g args=>
  split at h<;>try(cases h;done)
  ·rename_i f as bs hg
   split at h<;>try(cases h;done)
   rename_i ps ids M
   split at h<;>try(cases h;done)
   rename_i V
   split at h<;>try(cases h;done)
   rename_i css R;unfold Zw at h;simp only[cI,hg,M,ax,R];refine⟨V,?_⟩
   split at h<;>try(cases h;done)
   ·rename_i r fr L D
    cases h;exact .inl ⟨r,fr,L,(hE.call _ _ _ _ D).1,hk⟩
   ·rename_i q L D
    cases h;exact .inr (.inl ⟨q,L,hE.call _ _ _ _ D,hk⟩)
  ·rename_i v aa hg
   obtain⟨v',ag,ae,ab,h1,rfl⟩:=VA h
   have:=Jo hE h1 (K:=K) (nx:=nx) hk
   simp only[cI,hg];cases v
   case mL f as bs=>exact(aa f as bs rfl).elim
   all_goals exact this
 case PO x=>
  split at h<;>try(cases h;done)
  rename_i a M
  split at h<;>try(cases h;done)
  rename_i hr;cases h;simp only[cI,M,ax];exact⟨hr,hk⟩
 case mkI t x=>
  split at h<;>try(cases h;done)
  rename_i a M
  split at h<;>try(cases h;done)
  rename_i hr;cases h;simp only[cI,M,ax];exact⟨hr,hk⟩
 case tas t z x=>
  split at h<;>try(cases h;done)
  rename_i a M;obtain⟨v,O,rfl⟩:=Zx h;simp only[cI,M,ax,O];exact hk
 case isI neg x=>
  split at h<;>try(cases h;done)
  rename_i a M
  split at h<;>try(cases h;done)
  rename_i b Z;cases h;simp only[cI,M,ax,Z];exact hk
 case isP neg x=>
  split at h<;>try(cases h;done)
  rename_i a M
  split at h<;>try(cases h;done)
  rename_i b Z;cases h;simp only[cI,M,ax,Z];exact hk
 case mks e bytes l c=>
  split at h<;>try(cases h;done)
  rename_i k1 l' k2 c' hl D
  split at h<;>try(cases h;done)
  rename_i ac;cases h;simp only[cI,hl,D,ax,idxOf];exact⟨ac,hk⟩
 case cpy e x y=>
  split at h<;>try(cases h;done)
  rename_i q n b hx hy
  split at h<;>try(cases h;done)
  rename_i ys ad
  split at h<;>try(cases h;done)
  rename_i D;simp only[ed]at D
  split at h<;>try(cases h;done)
  rename_i e' hl
  split at h<;>try(cases h;done)
  rename_i he;subst he;cases h;simp only[cI,hx,hy,ax,ad];exact⟨⟨pm D.1,AE D.2⟩,hl,hk⟩
 case stp x v=>
  split at h<;>try(cases h;done)
  rename_i b ps hx O
  split at h<;>try(cases h;done)
  rename_i y hy
  split at h<;>try(cases h;done)
  rename_i D;cases h;simp only[cI,hx,O,ax,hy];exact⟨D,hk⟩
 case iap x i=>
  split at h<;>try(cases h;done)
  rename_i ps k i' hx hi
  split at h<;>try(cases h;done)
  rename_i D;cases h;simp only[cI,hx,hi,ax,idxOf];exact⟨D,hk⟩
 case N0 g args=>
  split at h<;>try(cases h;done)
  rename_i f as ids hg M
  split at h<;>try(cases h;done)
  rename_i V
  split at h<;>try(cases h;done)
  rename_i css R
  split at h<;>try(cases h;done)
  rename_i j o D
  split at h<;>try(cases h;done)
  rename_i b Z;cases h;simp only[cI,hg,M,ax,R];exact⟨V,j,o,b,hE.call _ _ _ _ D,Z,hk⟩
 case apn=>cases h
 case mkc f caps=>split at h<;>(try(cases h;done));rename_i as bs O;cases h;simp only[cI,O,ax];exact hk
 case Wk x=>split at h<;>(try(cases h;done));rename_i O;cases h;simp only[cI,O,ax];exact hk
 case Wl x=>split at h<;>(try(cases h;done));rename_i O;cases h;simp only[cI,O,ax];exact hk
 case Wm x=>split at h<;>(try(cases h;done));rename_i O;cases h;simp only[cI,O,ax];exact hk
 case lnp x=>split at h<;>(try(cases h;done));rename_i O;cases h;simp only[cI,O,ax];exact hk
def Gz:Sl:=match d with
 |none=>sl
 |some d=>(d,v)::sl
theorem AL(bx:dU) (lv:Lv) (nx:Nat):S.put ⟨sl,bx,lv,nx⟩ d v=⟨Gz d v sl,bx,lv,nx⟩:=by cases d<;>rfl
def evG:Option (Nat×Bool)->Option Bool
 |none=>some true
 |some (t,want)=>match lkF t sl with
  |some (.dat (.bool b) _)=>some (cond b want (not want))
  |some .undef=>some false
  |_=>none
theorem F1{sl:Sl} {nx:Nat} {g:Option (Nat×Bool)} {b:Bool} {yes no:Prop} (h:evG sl g=some b) (L:b=true->yes) (M:b=false->no):fj ⟨sl,bx,lv,nx⟩ g yes no:=by
 unfold evG at h;split at h
 ·cases h;exact L rfl
 ·rename_i t want
  rw[yC]at h
  split at h<;>try(cases h;done)
  ·rename_i O q D
   cases h;simp only[fj,D]
   refine⟨λe=>L (by subst e;cases O<;>rfl),λe=>M (by subst e;cases want<;>rfl)⟩
  ·rename_i D
   cases h;simp only[fj,D];exact M rfl
abbrev GA:=Option (Sl×dU×Lv)
abbrev Fo:=ef->Nat->Nat->Nat->Sl->dU->Lv->GA
def aes(o:CO) (O:Fo) (E:ef) (base nx i:Nat) (sl:Sl) (bx:dU) (lv:Lv):GA:=
 CO.rec (motive:=λ_=>GA) (λdst op g=>Option.rec (motive:=λ_=>GA) none
  (λb=>Bool.rec (motive:=λ_=>GA) (O E base nx (Nat.succ i) (Gz dst .undef sl) bx lv)
   (Rs.rec (motive:=λ_=>GA) none (λv M D L=>O E base nx (Nat.succ i) (Gz dst v M) D L) (L9 E (Nat.add base i) op sl bx lv nx)) b) (evG sl g)) o
def aet(E:ef) (base nx i:Nat) (sl:Sl) (bx:dU) (lv:Lv):GA:=some (sl,bx,lv)
def xD(E:ef) (base nx i:Nat) (l:List CO):Sl->dU->Lv->GA:=
 List.rec (motive:=λ_=>Fo) aet (λo _ D=>aes o D) l E base nx i
end
section
variable {R:Type} {m t:Nat} (nx:Nat) (o:XO)
theorem NT(E:ef) (base nx i:Nat) (o:CO) (r:List CO) (sl:Sl) (bx:dU) (lv:Lv):xD E base nx i (o::r) sl bx lv=match evG sl o.g with
 |some true=>match L9 E (base+i) o.op sl bx lv nx with
  | .ok v M L D=>xD E base nx (i+1) r (Gz o.dst v M) L D
  | .no=>none
 |some false=>xD E base nx (i+1) r (Gz o.dst .undef sl) bx lv
 |none=>none:=by
 obtain⟨dst,op,g⟩:=o
 show Option.rec (motive:=λ_=>GA) none _ (evG sl g)=_
 cases evG sl g with
 |none=>rfl
 |some b=>cases b with
  |false=>rfl
  |true=>
   show Rs.rec (motive:=λ_=>GA) none _ (L9 E (base+i) op sl bx lv nx)=_
   cases L9 E (base+i) op sl bx lv nx<;>rfl
theorem vM(hE:E.Ok C) {base nx:Nat} {K:S->Prop}:∀{l:List CO} {i:Nat} {sl:Sl} {bx:dU} {lv:Lv} {p:Sl×dU×Lv},xD E base nx i l sl bx lv=some p->K ⟨p.1,p.2.1,p.2.2,nx⟩->je C base i l K ⟨sl,bx,lv,nx⟩
 |[],i,sl,bx,lv,p,h,hk=>by cases h;exact hk
 |o::r,i,sl,bx,lv,p,h,hk=>by
  rw[NT]at h;simp only[je]
  split at h<;>try(cases h;done)
  ·rename_i D
   split at h<;>try(cases h;done)
   rename_i v R M O L
   refine F1 D (λ_=>Jo hE L ?_) (λe=>by cases e)
   rw[AL];exact vM hE h hk
  ·rename_i D
   refine F1 D (λe=>by cases e) (λ_=>?_)
   rw[AL];exact vM hE h hk
inductive Ex where
 |norm|ret|exit (id:Nat)|goto (l:Nat)|PO (p:AV)
def Ex.to:Ex->Exit
 | .norm=>.normal
 | .ret=>.ret
 | .exit id=>.exit id
 | .goto l=>.goto l
 | .PO p=>.panic (gL p)
abbrev Rc:=Ex×S
abbrev Rx:=Option (Ex×Sl×dU×Lv)
def Zy(O:ef->Nat->Nat->Nat->Sl->dU->Lv->Rx) (E:ef) (base nx i:Nat) (sl:Sl) (bx:dU) (lv:Lv):Rx:=
 match evG sl o.g with
 |some true=>match PD E (base+i) o.op sl bx lv nx with
  |some (.ok v M L D)=>O E base nx (i+1) (Gz o.dst v M) L D
  |some (.up p M L D)=>some (.PO p,M,L,D)
  |none=>none
 |some false=>O E base nx (i+1) (Gz o.dst .undef sl) bx lv
 |none=>none
def Zz(E:ef) (base nx i:Nat) (sl:Sl) (bx:dU) (lv:Lv):Rx:=some (.norm,sl,bx,lv)
def vN(E:ef) (base nx i:Nat) (l:List XO):Sl->dU->Lv->Rx:=
 List.rec (motive:=λ_=>ef->Nat->Nat->Nat->Sl->dU->Lv->Rx) Zz (λo _ D=>Zy o D) l E base nx i
theorem Cz(E:ef) (base nx i:Nat) (o:XO) (r:List XO) (sl:Sl) (bx:dU) (lv:Lv):vN E base nx i (o::r) sl bx lv=match evG sl o.g with
 |some true=>match PD E (base+i) o.op sl bx lv nx with
  |some (.ok v M L D)=>vN E base nx (i+1) r (Gz o.dst v M) L D
  |some (.up p M L D)=>some (.PO p,M,L,D)
  |none=>none
 |some false=>vN E base nx (i+1) r (Gz o.dst .undef sl) bx lv
 |none=>none:=rfl
def exK(K:S->Prop) (X:AV->S->Prop) (nx:Nat):Ex×Sl×dU×Lv->Prop
 |(.norm,sl,bx,lv)=>K ⟨sl,bx,lv,nx⟩
 |(.PO p,sl,bx,lv)=>X p ⟨sl,bx,lv,nx⟩
 |_=>False
theorem wP(hE:E.Ok C) {base nx:Nat} {K:S->Prop} {X:AV->S->Prop}:∀{l:List XO} {i:Nat} {sl:Sl} {bx:dU} {lv:Lv} {p:Ex×Sl×dU×Lv},vN E base nx i l sl bx lv=some p->exK K X nx p->iJ C base i l K X ⟨sl,bx,lv,nx⟩
 |[],i,sl,bx,lv,p,h,hk=>by cases h;exact hk
 |o::r,i,sl,bx,lv,p,h,hk=>by
  rw[Cz]at h;simp only[iJ]
  split at h<;>try(cases h;done)
  ·rename_i D
   split at h<;>try(cases h;done)
   ·rename_i v R M O L
    refine F1 D (λ_=>Me hE L ?_) (λe=>by cases e)
    show iJ _ _ _ _ _ _ _
    rw[AL];exact wP hE h hk
   ·rename_i q R M O L
    cases h
    exact F1 D (λ_=>Me hE L hk) (λe=>by cases e)
  ·rename_i D
   refine F1 D (λe=>by cases e) (λ_=>?_)
   rw[AL];exact wP hE h hk
theorem Bw{base nx:Nat}:∀{l:List XO} {i:Nat} {sl:Sl} {bx:dU} {lv:Lv} {p:Ex×Sl×dU×Lv},vN E base nx i l sl bx lv=some p->p.1=.norm\/∃q,p.1=.PO q
 |[],i,sl,bx,lv,p,h=>by cases h;exact .inl rfl
 |o::r,i,sl,bx,lv,p,h=>by
  rw[Cz]at h
  split at h<;>try(cases h;done)
  ·split at h<;>try(cases h;done)
   ·exact Bw h
   ·cases h;exact .inr ⟨_,rfl⟩
  ·exact Bw h
def Jp(n:Nat) (k:Nat->R):R:=Nat.rec (motive:=λ_=>R) (k 0) (λp _=>k (Nat.succ p)) n
theorem Dh{n:Nat} {k:Nat->R}:Jp n k=k n:=by cases n<;>rfl
def bit(t:Nat):Nat:=Nat.shiftLeft 1 t
def rD(m t:Nat):Nat:=Nat.lor m (bit t)
def tbF(m t:Nat):Bool:=Nat.beq (Nat.land 1 (Nat.shiftRight m t)) 1
theorem By:tbF m t=m.testBit t:=by
 unfold tbF Nat.testBit
 show Nat.beq (1&&&m>>>t) 1=((1&&&m>>>t) !=0)
 have:(1&&&m>>>t)=0\/(1&&&m>>>t)=1:=by
  rw[Nat.and_comm,Nat.and_one_is_mod];omega
 rcases this with h|h<;>rw[h]<;>rfl
def okV:SV->Bool
 | .dat _ none=>true
 | .dat _ (some q)=>Nat.blt q nx
 | .ptr b _=>Nat.blt b nx
 | .rp _=>true
 | .vs b _ _ _=>Nat.blt b nx
 | .undef=>true
 | .mL _ _ D=>D.all λb=>Nat.blt b nx
 | .pt _ ps=>ps.all λp=>Nat.blt p.1 nx
 | .raw _ _=>false
def dd(nx:Nat):Nat->Sl->Sl
 |_,[]=>[]
 |m,(t,v)::r=>bif tbF m t then dd nx m r else bif okV nx v then(t,v)::dd nx (rD m t) r else dd nx (rD m t) r
theorem aeu{nx:Nat} {v:SV} (h:okV nx v=true):yL [] nx v v:=by
 cases v with
 |dat a q=>cases q with
  |none=>rfl
  |some q=>exact⟨rfl,rfl,by simpa[okV,Hn]using h⟩
 |ptr b o=>exact⟨rfl,rfl,by simpa[okV,Hn]using h⟩
 |rp cs=>rfl
 |vs b o n z=>exact⟨⟨rfl,rfl⟩,⟨rfl,rfl⟩,by simpa[okV,Hn]using h⟩
 |undef=>trivial
 |mL f as D=>exact⟨rfl,rfl,rfl,by simpa[okV,Hn]using h⟩
 |pt k ps=>exact⟨rfl,rfl,by simpa[okV,Hn]using h⟩
 |raw q n=>cases h
theorem Mf{u:Nat}:(rD m t).testBit u=(m.testBit u||decide (t=u)):=by
 show(m|||1<<<t).testBit u=_
 rw[Nat.testBit_or,Nat.one_shiftLeft,Nat.testBit_two_pow]
theorem Jq{t:Nat}:∀{a b:Sl},lk t a=none->lk t (a++b)=lk t b
 |[],b,_=>rfl
 |(u,v)::a,b,h=>by
  simp only[lk,sa]at h⊢;cases D:t==u
  ·simp only[D,er]at h⊢;exact Jq h
  ·simp only[D,fx]at h;cases h
theorem PE{nx:Nat}:∀{r:Sl} {m:Nat} {pre:Sl},(∀t,m.testBit t=false->lk t pre=none)->gI [] nx (pre++r) (dd nx m r)
 |[],m,pre,_=>trivial
 |(t,v)::r,m,pre,h=>by
  have M:∀L,(rD m t).testBit L=false->lk L (pre++[(t,v)])=none:=by
   intro L D;rw[Mf,zd]at D;rw[Jq (h L D.1)]
   have:(L==t)=false:=by
    have:=D.2
    simp only[po]at this
    simpa using λe=>this e.symm
   simp[lk,this]
  have O:pre++(t,v)::r=(pre++[(t,v)])++r:=aaP
  simp only[dd,By];cases hm:m.testBit t
  ·simp only[er]
   cases R:okV nx v
   ·simp only[er]
    rw[O];exact PE M
   ·simp only[fx]
    refine⟨?_,by rw[O];exact PE M⟩
    rw[Jq (h t hm)];simp only[lk,nf,fx,ax];exact aeu R
  ·simp only[fx]
   have:∀L,m.testBit L=false->lk L (pre++[(t,v)])=none:=by
    intro L D;rw[Jq (h L D)]
    have:(L==t)=false:=by
     simp only[wb,ne_eq];intro e;subst e;rw[hm]at D;cases D
    simp[lk,this]
   rw[O];exact PE this
def akH:SV->Nat->Nat
 | .dat _ (some q),m=>rD m q
 | .ptr b _,m=>rD m b
 | .vs b _ _ _,m=>rD m b
 | .mL _ _ D,m=>D.foldl (λm b=>rD m b) m
 | .pt _ ps,m=>ps.foldl (λm p=>rD m p.1) m
 |_,m=>m
def refs(sl:Sl):Nat:=sl.foldl (λm p=>akH p.2 m) 15
def ddT(nx:Nat):Nat->List (Nat×Nat)->List (Nat×Nat)
 |_,[]=>[]
 |m,(o,q)::r=>bif tbF m o then ddT nx m r else bif Nat.blt q nx then(o,q)::ddT nx (rD m o) r else ddT nx (rD m o) r
def AT:List (Nat×Nat)->List (Nat×Nat)
 |[]=>[]
 |l=>ddT nx 0 l
def ddB(nx w:Nat):Nat->dU->dU
 |_,[]=>[]
 |m,(b,x)::r=>bif tbF m b then ddB nx w m r else bif tbF w b&&Nat.blt b nx then(b,⟨x.cells,AT nx x.tags⟩)::ddB nx w (rD m b) r else ddB nx w (rD m b) r
def VB(nx w:Nat):Nat->Lv->Lv
 |_,[]=>[]
 |m,(q,e)::r=>bif tbF m q then VB nx w m r else bif tbF w q&&Nat.blt q nx then(q,e)::VB nx w (rD m q) r else VB nx w (rD m q) r
theorem Di{t:Nat}:∀{a b:dU},bO t a=none->bO t (a++b)=bO t b
 |[],b,_=>rfl
 |(u,v)::a,b,h=>by
  simp only[bO,sa]at h⊢;cases D:t==u
  ·simp only[D,er]at h⊢;exact Di h
  ·simp only[D,fx]at h;cases h
theorem sS{t:Nat}:∀{a b:Lv},dJ t a=none->dJ t (a++b)=dJ t b
 |[],b,_=>rfl
 |(u,v)::a,b,h=>by
  simp only[dJ,sa]at h⊢;cases D:t==u
  ·simp only[D,er]at h⊢;exact sS h
  ·simp only[D,fx]at h;cases h
theorem sU{D:Nat} (h:(rD m t).testBit D=false):m.testBit D=false/\(D==t)=false:=by
 rw[Mf,zd]at h;refine⟨h.1,?_⟩
 have:=h.2
 simp only[po]at this
 simpa using λe=>this e.symm
theorem Jr{D:Nat} (hm:m.testBit t=true) (h:m.testBit D=false):(D==t)=false:=by
 simp only[wb,ne_eq];intro e;subst e;rw[hm]at h;cases h
theorem Js{nx:Nat}:∀{r:Lv} {m:Nat} {pre:Lv},(∀t,m.testBit t=false->dJ t pre=none)->j8 [] nx (pre++r) (ddT nx m r)
 |[],m,pre,_=>trivial
 |(t,v)::r,m,pre,h=>by
  have M:∀L,(rD m t).testBit L=false->dJ L (pre++[(t,v)])=none:=by
   intro L D;rw[sS (h L (sU D).1)];simp[dJ,(sU D).2]
  have O:pre++(t,v)::r=(pre++[(t,v)])++r:=aaP
  simp only[ddT,By];cases hm:m.testBit t
  ·simp only[er]
   cases R:Nat.blt v nx
   ·simp only[er]
    rw[O];exact Js M
   ·simp only[fx]
    refine⟨?_,by rw[O];exact Js M⟩
    rw[sS (h t hm)];simp only[dJ,nf,fx]
    exact⟨rfl,by simpa[Hn]using R⟩
  ·simp only[fx]
   have:∀L,m.testBit L=false->dJ L (pre++[(t,v)])=none:=by
    intro L D;rw[sS (h L D)];simp[dJ,Jr hm D]
   rw[O];exact Js this
theorem aev{nx:Nat} {l:List (Nat×Nat)}:j8 [] nx l (AT nx l):=by
 cases l with
 |nil=>trivial
 |cons p r=>exact Js (pre:=[]) λt _=>rfl
theorem Jt{nx w:Nat}:∀{r:dU} {m:Nat} {pre:dU},(∀t,m.testBit t=false->bO t pre=none)->iB [] nx (pre++r) (ddB nx w m r)
 |[],m,pre,_=>trivial
 |(t,v)::r,m,pre,h=>by
  have M:∀L,(rD m t).testBit L=false->bO L (pre++[(t,v)])=none:=by
   intro L D;rw[Di (h L (sU D).1)];simp[bO,(sU D).2]
  have O:pre++(t,v)::r=(pre++[(t,v)])++r:=aaP
  simp only[ddB,By];cases hm:m.testBit t
  ·simp only[er]
   cases R:(w.testBit t&&Nat.blt t nx)
   ·simp only[er]
    rw[O];exact Jt M
   ·simp only[fx]
    refine⟨?_,by rw[O];exact Jt M⟩
    rw[Di (h t hm)];simp only[bO,nf,fx,ax]
    exact⟨trivial,aev,by simpa[Hn]using(Bool.and_eq_true_iff.1 R).2⟩
  ·simp only[fx]
   have:∀L,m.testBit L=false->bO L (pre++[(t,v)])=none:=by
    intro L D;rw[Di (h L D)];simp[bO,Jr hm D]
   rw[O];exact Jt this
theorem Ju{nx w:Nat}:∀{r:Lv} {m:Nat} {pre:Lv},(∀t,m.testBit t=false->dJ t pre=none)->pM [] nx (pre++r) (VB nx w m r)
 |[],m,pre,_=>trivial
 |(t,v)::r,m,pre,h=>by
  have M:∀L,(rD m t).testBit L=false->dJ L (pre++[(t,v)])=none:=by
   intro L D;rw[sS (h L (sU D).1)];simp[dJ,(sU D).2]
  have O:pre++(t,v)::r=(pre++[(t,v)])++r:=aaP
  simp only[VB,By];cases hm:m.testBit t
  ·simp only[er]
   cases R:(w.testBit t&&Nat.blt t nx)
   ·simp only[er]
    rw[O];exact Ju M
   ·simp only[fx]
    refine⟨?_,by rw[O];exact Ju M⟩
    show dJ (Gk [] t) _=_/\_
    rw[show Gk [] t=t from rfl,sS (h t hm)]
    simp only[dJ,nf,fx]
    exact⟨trivial,by simpa[Hn]using(Bool.and_eq_true_iff.1 R).2⟩
  ·simp only[fx]
   have:∀L,m.testBit L=false->dJ L (pre++[(t,v)])=none:=by
    intro L D;rw[sS (h L D)];simp[dJ,Jr hm D]
   rw[O];exact Ju this
theorem AM{nx w:Nat}:∀{r:Lv} {m:Nat},∀p∈VB nx w m r,m.testBit p.1=false
 |[],m,p,h=>by cases h
 |(t,v)::r,m,p,h=>by
  simp only[VB,By]at h;cases hm:m.testBit t
  ·simp only[hm,er]at h
   cases D:(w.testBit t&&Nat.blt t nx)
   ·simp only[D,er]at h
    exact(sU (AM p h)).1
   ·simp only[D,fx]at h
    rcases nb.1 h with rfl|h
    ·exact hm
    ·exact(sU (AM p h)).1
  ·simp only[hm,fx]at h
   exact AM p h
theorem wQ{nx w:Nat}:∀{r:Lv} {m:Nat},((VB nx w m r).map λp=>Gk [] p.1).Nodup
 |[],m=>by simp[VB]
 |(t,v)::r,m=>by
  simp only[VB,By];cases hm:m.testBit t
  ·simp only[er]
   cases L:(w.testBit t&&Nat.blt t nx)
   ·simp only[er];exact wQ
   ·simp only[fx,ka,wd]
    refine⟨λh=>?_,wQ⟩
    obtain⟨p,D,e⟩:=ne.1 h
    have:=AM p D
    have e:p.1=t:=e
    rw[e]at this
    have:=(sU this).2
    simp at this
  ·simp only[fx];exact wQ
def norm(m:Nat) (sl:Sl) (bx:dU) (lv:Lv) (nx:Nat):S:=
 match dd nx m sl with
 |L=>match refs L with
  |w=>match ddB nx w 0 bx with
   |D=>⟨L,D,VB nx (D.foldl (λm p=>p.2.tags.foldl (λm q=>rD m q.2) m) w) 0 lv,nx⟩
theorem norm_le{sl:Sl} {bx:dU} {lv:Lv} {nx:Nat} (h:4<=nx):Le ⟨sl,bx,lv,nx⟩ (norm m sl bx lv nx):=by
 exact⟨h,[],PE (pre:=[]) λt _=>rfl,Jt (pre:=[]) λt _=>rfl,Ju (pre:=[]) λt _=>rfl,wQ⟩
end
end
noncomputable section
variable{E:ef} {C:aQ}
section
variable (F:S->Option Rc) (res:List fq) (m n:Nat) (ops:List CO) (css:List (List AV)) (id l:Nat) (c:aO) (cJ:List (Nat×Nat)) (g:aM) (s:S)
def evL:S->Option Rc:=
 Nat.rec (motive:=λ_=>S->Option Rc) (λ_=>none) (λn D s=>match F s with
  |some (.norm,⟨sl,bx,lv,nx⟩)=>D (cond (cond (Nat.beq m 0) (Nat.beq (Nat.land n 7) 0) true&&Nat.ble 4 nx) (norm m sl bx lv nx) ⟨sl,bx,lv,nx⟩)
  |r=>r) n
theorem VC:evL F m (n+1) s=match F s with
  |some (.norm,⟨sl,bx,lv,nx⟩)=>evL F m n (cond (cond (Nat.beq m 0) (Nat.beq (Nat.land n 7) 0) true&&Nat.ble 4 nx) (norm m sl bx lv nx) ⟨sl,bx,lv,nx⟩)
  |r=>r:=rfl
def PF:AV->AV->Bool
 | .fn (.func f) [] [.ref [.int k n]],.fn (.func D) [] [.ref [.int L M]]=>f==D&&k==L&&n==M
 |_,_=>false
theorem VD{a b:AV} (h:PF a b=true):a=b:=by
 unfold PF at h;split at h
 ·simp only[ed,md]at h
  obtain⟨⟨rfl,rfl⟩,rfl⟩:=h;rfl
 ·cases h
def Mg(g:aM) (D:AV) (ps wr:List Nat) (A B:S->Option Rc):List (List AV)->S->Option Rc
 |[],s=>match cZ s.slots g with
  |some v=>if PF v D then some (.norm,s)else none
  |none=>none
 |x::xs,s=>match cZ s.slots g with
  |some v=>if PF v D then(match A (sW ps x s)with
   |some (.norm,s1)=>match B s1 with
    |some (.norm,s2)=>Mg g D ps wr A B xs (wT wr s2)
    |some (.ret,s2)=>some (.ret,wT wr s2)
    |some (.exit id,s2)=>some (.exit id,wT wr s2)
    |_=>none
   |_=>none)else none
  |none=>none
theorem aiM{g:aM} {D:AV} {ps wr:List Nat} {A B:S->Option Rc} {xs:List (List AV)} {s:S} {r:Rc} (h:Mg g D ps wr A B xs s=some r):aG s g=some D:=by
 have q:∀x,cZ s.slots x=aG s x:=λ_=>jG
 cases xs<;>simp only[Mg,q]at h<;>split at h<;>try(cases h;done)
 all_goals
  rename_i v M
  split at h<;>try(cases h;done)
  rename_i L;rw[M,VD L]
def Rm:aO->Bool
 | .uo _ _| .CA _ _ _ _=>true
 | .seq a b| .join a b| .cond _ a b| .scope _ a b| .um _ _ _ a b=>Rm a||Rm b
 | .block _ c| .loop c=>Rm c
 |_=>false
def NU:aO->Nat
 | .uo ops _| .CA ops _ _ _=>ops.foldl (λm o=>match o.dst with|some d=>m|||bit d|none=>m) 0
 | .seq a b| .join a b| .cond _ a b| .scope _ a b| .um _ _ _ a b=>NU a|||NU b
 | .block _ c| .loop c=>NU c
 |_=>0
def Mh:S->S
 |⟨sl,bx,lv,nx⟩=>bif Nat.ble 4 nx then norm m sl bx lv nx else⟨sl,bx,lv,nx⟩
theorem HS{F:S->Prop} {m:Nat} {s:S} (h:F (Mh m s)):down F s:=by
 obtain⟨sl,bx,lv,nx⟩:=s;simp only[Mh]at h;cases D:Nat.ble 4 nx
 ·rw[D,er]at h;exact gy h
 ·rw[D,fx]at h;exact nu (norm_le (fi D)) h
def aew(E:ef) (N:Nat) (s:S):Option Rc:=some (.norm,s)
def aiN(E:ef) (N:Nat):S->Option Rc
 |⟨sl,bx,lv,nx⟩=>match xD E nx nx 0 ops sl bx lv with
  |some (M,L,D)=>Jp (Nat.add nx (mK ops)) λn=>some (.norm,⟨M,L,D,n⟩)
  |none=>none
def aiO(a b:aO) (D:ef->Nat->S->Option Rc) (L:ef->Nat->S->Option Rc) (E:ef) (N:Nat) (s:S):Option Rc:=match D E N s with
  |some (.norm,M)=>L E N M
  |r=>r
def aex(a b:aO) (D:ef->Nat->S->Option Rc) (L:ef->Nat->S->Option Rc) (E:ef) (N:Nat) (s:S):Option Rc:=match D E N s with
  |some (.norm,M)=>L E N (bif Rm b then Mh (NU b) M else M)
  |r=>r
def aey(c:aM) (a b:aO) (D:ef->Nat->S->Option Rc) (L:ef->Nat->S->Option Rc) (E:ef) (N:Nat) (s:S):Option Rc:=match cZ s.slots c with
  |some (.bool t)=>if t then D E N s else L E N s
  |_=>none
def ZA(c:aO) (L:ef->Nat->S->Option Rc) (E:ef) (N:Nat) (s:S):Option Rc:=match L E N s with
  |some (.exit D,M)=>if D=id then some (.norm,M)else some (.exit D,M)
  |r=>r
def aez(D:ef->Nat->S->Option Rc) (E:ef) (N:Nat) (s:S):Option Rc:=evL (D E N) (NU c) N (Mh (NU c) s)
def aeA(E:ef) (N:Nat) (s:S):Option Rc:=some (.exit id,s)
def aiP(E:ef) (N:Nat) (s:S):Option Rc:=some (.ret,s)
def ZB(c r:aO) (D L:ef->Nat->S->Option Rc) (E:ef) (N:Nat) (s:S):Option Rc:=match D E N s with
  |some (.goto O,M)=>if O=l then(match L E N M with
   |some (.goto _,_)=>none
   |x=>x)else none
  |x=>x
def ZC(l:Nat) (E:ef) (N:Nat) (s:S):Option Rc:=some (.norm,s)
def aeB(E:ef) (N:Nat) (s:S):Option Rc:=some (.goto l,s)
def aeC(ops:List XO) (E:ef) (N:Nat):S->Option Rc
 |⟨sl,bx,lv,nx⟩=>match vN E nx nx 0 ops sl bx lv with
  |some (e,M,L,D)=>Jp (Nat.add nx (mK ops)) λn=>some (e,⟨M,L,D,n⟩)
  |none=>none
def aeD(E:ef) (N:Nat):S->Option Rc
 |⟨sl,bx,lv,nx⟩=>if oM (kO [] 0 ops) cJ nx sl then(match xD E nx nx 0 (kO [] 0 ops) sl bx lv with
  |some (M,L,D)=>Jp (Nat.add nx (mK ops)) λn=>some (.norm,⟨M,L,D,n⟩)
  |none=>none)else none
def aeE(k:Nat) (O:List Nat) (E:ef) (N:Nat):S->Option Rc
 |⟨sl,bx,lv,nx⟩=>if oM (kO [] 0 ops) cJ nx sl then(match xD E nx nx 0 (kO [] 0 ops) sl bx lv with
  |some (M,L,D)=>Jp (Nat.add nx (mK ops)) λn=>some (.norm,⟨M,L,D,n⟩)
  |none=>none)else none
def aeF(ps wr:List Nat) (as O:aO) (D L:ef->Nat->S->Option Rc) (E:ef) (N:Nat) (s:S):Option Rc:=match cZ s.slots g with
  |some M=>match E.it M with
   |some xs=>if L3 ps.length xs then Mg g M ps wr (D E N) (L E N) xs s else none
   |none=>none
  |none=>none
def xE(E:ef) (N:Nat) (c:aO):S->Option Rc:=
 aO.rec (motive:=λ_=>ef->Nat->S->Option Rc) aew aiN aiO aex aey ZA aez aeA aiP aeF aeD ZB ZC aeB aeC aeE c E N
theorem ZD(E:ef) (N:Nat) (ops:List CO) (sl:Sl) (bx:dU) (lv:Lv) (nx:Nat):xE E N (.GD ops) ⟨sl,bx,lv,nx⟩=(match xD E nx nx 0 ops sl bx lv with
  |some (M,L,D)=>Jp (Nat.add nx (mK ops)) λn=>some (.norm,⟨M,L,D,n⟩)
  |none=>none):=rfl
theorem ZE(E:ef) (N:Nat) (a b:aO) (s:S):xE E N (.seq a b) s=(match xE E N a s with
  |some (.norm,D)=>xE E N b D
  |r=>r):=rfl
theorem VE(E:ef) (N:Nat) (a b:aO) (s:S):xE E N (.join a b) s=(match xE E N a s with
  |some (.norm,D)=>xE E N b (bif Rm b then Mh (NU b) D else D)
  |r=>r):=rfl
theorem VF(E:ef) (N:Nat) (c:aM) (a b:aO) (s:S):xE E N (.cond c a b) s=(match cZ s.slots c with
  |some (.bool t)=>if t then xE E N a s else xE E N b s
  |_=>none):=rfl
theorem Rp(E:ef) (N:Nat) (id:Nat) (c:aO) (s:S):xE E N (.block id c) s=(match xE E N c s with
  |some (.exit D,L)=>if D=id then some (.norm,L)else some (.exit D,L)
  |r=>r):=rfl
theorem Rq(E:ef) (N:Nat) (l:Nat) (c r:aO) (s:S):xE E N (.scope l c r) s=(match xE E N c s with
  |some (.goto L,D)=>if L=l then(match xE E N r D with
   |some (.goto _,_)=>none
   |x=>x)else none
  |x=>x):=rfl
theorem VG(E:ef) (N:Nat) (ops:List XO) (sl:Sl) (bx:dU) (lv:Lv) (nx:Nat):xE E N (.oF ops) ⟨sl,bx,lv,nx⟩=(match vN E nx nx 0 ops sl bx lv with
  |some (e,M,L,D)=>Jp (Nat.add nx (mK ops)) λn=>some (e,⟨M,L,D,n⟩)
  |none=>none):=rfl
theorem VH(E:ef) (N:Nat) (ops:List CO) (cJ:List (Nat×Nat)) (sl:Sl) (bx:dU) (lv:Lv) (nx:Nat):xE E N (.uo ops cJ) ⟨sl,bx,lv,nx⟩=(if oM (kO [] 0 ops) cJ nx sl then(match xD E nx nx 0 (kO [] 0 ops) sl bx lv with
  |some (M,L,D)=>Jp (Nat.add nx (mK ops)) λn=>some (.norm,⟨M,L,D,n⟩)
  |none=>none)else none):=rfl
theorem VI(E:ef) (N:Nat) (ops:List CO) (cJ:List (Nat×Nat)) (k:Nat) (D:List Nat) (sl:Sl) (bx:dU) (lv:Lv) (nx:Nat):xE E N (.CA ops cJ k D) ⟨sl,bx,lv,nx⟩=(if oM (kO [] 0 ops) cJ nx sl then(match xD E nx nx 0 (kO [] 0 ops) sl bx lv with
  |some (O,M,L)=>Jp (Nat.add nx (mK ops)) λn=>some (.norm,⟨O,M,L,n⟩)
  |none=>none)else none):=rfl
theorem VJ(E:ef) (N:Nat) (g:aM) (ps wr:List Nat) (as D:aO) (s:S):xE E N (.um g ps wr as D) s=(match cZ s.slots g with
  |some L=>match E.it L with
   |some xs=>if L3 ps.length xs then Mg g L ps wr (xE E N as) (xE E N D) xs s else none
   |none=>none
  |none=>none):=rfl
theorem F2{e:Ex} {s:S} {k:S->Prop} {Q:Exit->S->Prop} (D:e=.norm->k s) (L:e≠.norm->Q e.to s):jk k Q e.to s:=by
 cases e
 case norm=>exact D rfl
 all_goals exact L aaP
theorem NV{F:S->Option Rc} {G:(Exit->S->Prop)->S->Prop} (M:∀Q s e D,F s=some (e,D)->Q e.to D->G Q s) {Q:Exit->S->Prop} {m:Nat}:∀{n:Nat} {s:S} {e:Ex} {D:S},evL F m n s=some (e,D)->Q e.to D->rK G Q n s
 |0,s,e,D,h,_=>by cases h
 |n+1,s,e,D,h,hk=>by
  rw[VC]at h
  cases hF:F s with
  |none=>rw[hF]at h;cases h
  |some p=>
   obtain⟨O,sl,bx,lv,nx⟩:=p;rw[hF]at h;refine M _ _ _ _ hF ?_;cases O
   case norm=>
    show down _ _
    simp only at h;cases L:(cond (Nat.beq m 0) (Nat.beq (Nat.land n 7) 0) true&&Nat.ble 4 nx)
    ·rw[L,er]at h
     exact gy (NV M h hk)
    ·rw[L,fx]at h
     exact nu (norm_le (fi (Bool.and_eq_true_iff.1 L).2)) (NV M h hk)
   all_goals
    cases h;exact hk
theorem eY(hE:E.Ok C) {N:Nat}:∀(c:aO) (Q:Exit->S->Prop) (s:S) (e:Ex) (L:S),xE E N c s=some (e,L)->Q e.to L->aw C c Q s
 | .skip,Q,s,e,L,h,hk=>by cases h;exact hk
 | .GD ops,Q,⟨sl,bx,lv,nx⟩,e,L,h,hk=>by
  simp only[Dh,jI,ZD]at h
  split at h<;>try(cases h;done)
  rename_i ab Z V R;cases h;exact vM hE R hk
 | .seq a b,Q,s,e,L,h,hk=>by
  simp only[ZE]at h;split at h
  ·rename_i s1 D
   exact eY hE a _ s _ _ D (eY hE b _ s1 _ _ h hk)
  ·rename_i M
   refine eY hE a _ s _ _ h (F2 (λO=>?_) (λ_=>hk))
   subst O;exact absurd h (M _)
 | .join a b,Q,s,e,L,h,hk=>by
  simp only[VE]at h;split at h
  ·rename_i s1 D
   refine eY hE a _ s _ _ D ?_
   show down _ _
   cases hb:Rm b
   ·rw[hb,er]at h
    exact gy (eY hE b _ s1 _ _ h hk)
   ·rw[hb,fx]at h
    exact HS (eY hE b _ _ _ _ h hk)
  ·rename_i M
   refine eY hE a _ s _ _ h (F2 (λO=>?_) (λ_=>hk))
   subst O;exact absurd h (M _)
 | .cond c a b,Q,s,e,L,h,hk=>by
  have q:∀(s:S) x,cZ s.slots x=aG s x:=λ_ _=>jG
  simp only[q,VF]at h
  split at h<;>try(cases h;done)
  rename_i t ht;simp only[aw,ht,ax];split at h
  ·rename_i hb
   exact⟨λ_=>eY hE a _ s _ _ h hk,λe=>by rw[hb]at e;cases e⟩
  ·rename_i hb
   exact⟨λe=>absurd e hb,λ_=>eY hE b _ s _ _ h hk⟩
 | .block id c,Q,s,e,L,h,hk=>by
  simp only[Rp]at h;split at h
  ·rename_i aa s1 D
   refine eY hE c _ s _ _ D ?_
   show(if aa=id then Q .normal s1 else Q (.exit aa) s1)
   split at h
   ·rename_i O;cases h;rw[ib O];exact hk
   ·rename_i O;cases h;rw[ge O];exact hk
  ·rename_i M
   refine eY hE c _ s _ _ h ?_;cases e
   case exit aa=>exact absurd h (M _ _)
   all_goals exact hk
 | .loop c,Q,s,e,L,h,hk=>HS ⟨N,NV (λQ s e L D h2=>eY hE c Q s e L D h2) h hk⟩
 | .exit id,Q,s,e,L,h,hk=>by cases h;exact hk
 | .ret,Q,s,e,L,h,hk=>by cases h;exact hk
 | .label l,Q,s,e,L,h,hk=>by cases h;exact hk
 | .goto l,Q,s,e,L,h,hk=>by cases h;exact hk
 | .scope l c r,Q,s,e,L,h,hk=>by
  simp only[Rq]at h;split at h
  ·rename_i l' s1 D
   refine eY hE c _ s _ _ D ?_
   split at h<;>try(cases h;done)
   rename_i hl;refine⟨hl,?_⟩;split at h
   ·cases h
   ·rename_i M
    refine eY hE r _ s1 _ _ h ?_;cases e
    case goto l'=>exact absurd h (M _ _)
    all_goals exact hk
  ·rename_i M
   refine eY hE c _ s _ _ h ?_;cases e
   case goto l'=>exact absurd h (M _ _)
   all_goals exact hk
 | .oF ops,Q,⟨sl,bx,lv,nx⟩,e,L,h,hk=>by
  simp only[Dh,jI,VG]at h
  split at h<;>try(cases h;done)
  rename_i e' ab Z V R;cases h;refine wP hE R ?_
  rcases Bw R with O|⟨q,O⟩<;>(simp only at O;subst O;exact hk)
 | .uo ops cJ,Q,⟨sl,bx,lv,nx⟩,e,L,h,hk=>by
  simp only[Dh,jI,VH]at h
  split at h<;>try(cases h;done)
  rename_i hd
  split at h<;>try(cases h;done)
  rename_i ab Z V R;cases h;exact⟨[],rfl,[],hd,vM hE R hk⟩
 | .CA ops cJ k ae,Q,⟨sl,bx,lv,nx⟩,e,L,h,hk=>by
  simp only[Dh,jI,VI]at h
  split at h<;>try(cases h;done)
  rename_i hd
  split at h<;>try(cases h;done)
  rename_i ab Z V R;cases h;exact .inl ⟨[],rfl,[],hd,vM hE R hk⟩
 | .um g ps wr as bd,Q,s,e,L,h,hk=>by
  have q:∀(s:S) x,cZ s.slots x=aG s x:=λ_ _=>jG
  simp only[q,VJ]at h
  split at h<;>try(cases h;done)
  rename_i gv ad
  split at h<;>try(cases h;done)
  rename_i xs ac
  split at h<;>try(cases h;done)
  rename_i hl;simp only[aw,ad,ax]
  refine⟨xs,hE.it _ _ ac,AE hl,λi s1=>Mg g gv ps wr (xE E N as) (xE E N bd) (xs.drop i) s1=some (e,L),gy h,λi s1 D=>aiM D,λi x s1 hx D=>?_,λs1 D=>?_⟩
  ·have hd:xs.drop i=x::xs.drop (i+1):=by
    rw[em]at hx;obtain⟨hi,rfl⟩:=hx;exact aaa hi
   simp only[hd,Mg,q]at D
   split at D<;>try(cases D;done)
   split at D<;>try(cases D;done)
   split at D<;>try(cases D;done)
   rename_i s2 hA;refine eY hE as _ _ _ _ hA ?_
   show aw C bd _ s2
   split at D<;>try(cases D;done)
   ·rename_i s3 hB
    exact eY hE bd _ _ _ _ hB (gy D)
   ·rename_i s3 hB
    cases D;exact eY hE bd _ _ _ _ hB hk
   ·rename_i id s3 hB
    cases D;exact eY hE bd _ _ _ _ hB hk
  ·simp only[List.drop_length,Mg,q]at D
   split at D<;>try(cases D;done)
   split at D<;>try(cases D;done)
   cases D;exact hk
def HT:List (Option AV)->Bool
 |[]=>true
 |none::r=>HT r
 |_=>false
theorem Mi:∀{a b:List (Option AV)},HT a=true->HT b=true->a.length=b.length->a=b
 |[],[],_,_,_=>rfl
 |[],_::_,_,_,h=>by simp at h
 |_::_,[],_,_,h=>by simp at h
 |none::a,none::b,D,L,h=>by rw[Mi (a:=a) (b:=b) D L (by simpa using h)]
 |some _::a,_,D,_,_=>by cases D
 |none::a,some _::b,_,L,_=>by cases L
def AN(l:dU):Nat->Nat->Option (List (List AV))
 |_,0=>some []
 |k,n+1=>match Gy k l,AN l (k+1) n with
  |some x,some r=>some (x.cells::r)
  |_,_=>none
theorem rE{l:dU}:∀{n k:Nat} {css:List (List AV)},AN l k n=some css->iC l k css/\css.length=n
 |0,k,css,h=>by cases h;exact⟨trivial,rfl⟩
 |n+1,k,css,h=>by
  simp only[AN,sP]at h
  split at h<;>try(cases h;done)
  rename_i x r M O;cases h;obtain⟨D,L⟩:=rE O
  exact⟨⟨by rw[M];rfl,D⟩,by simp[L]⟩
def VK:AV->AV->Bool
 | .int k n,.int D L=>k==D&&n==L
 | .bool a,.bool b=>a==b
 | .float k n,.float D L=>k==D&&n==L
 |_,_=>false
theorem VL{a b:AV} (h:VK a b=true):a=b:=by
 unfold VK at h;split at h
 ·simp only[ed,md]at h;obtain⟨rfl,rfl⟩:=h;rfl
 ·simp only[md]at h;subst h;rfl
 ·simp only[ed,md]at h;obtain⟨rfl,rfl⟩:=h;rfl
 ·cases h
def PG:List AV->List AV->Bool
 |[],[]=>true
 |a::as,b::D=>VK a b&&PG as D
 |_,_=>false
theorem Mj:∀{a b:List AV},PG a b=true->a=b
 |[],[],_=>rfl
 |[],_::_,h=>by cases h
 |_::_,[],h=>by cases h
 |a::as,b::D,h=>by
  simp only[PG,ed]at h;rw[VL h.1,Mj h.2]
def PI:List (List AV)->List (List AV)->Bool
 |[],[]=>true
 |a::as,b::D=>PG a b&&PI as D
 |_,_=>false
theorem Mk:∀{a b:List (List AV)},PI a b=true->a=b
 |[],[],_=>rfl
 |[],_::_,h=>by cases h
 |_::_,[],h=>by cases h
 |a::as,b::D,h=>by
  simp only[PI,ed]at h;rw[Mj h.1,Mk h.2]
def Ml:fq->Option (AV×Option Nat)
 | .tmp t=>match lkF t s.slots with
  |some (.dat a q)=>some (a,q)
  |_=>none
 | .cell t D=>match lkF t s.slots with
  |some (.ptr b off)=>match Gy b s.boxes with
   |some bx=>match yE bx.cells off D with
    |some a=>some (a,match D with|none=>NP off bx.tags|some _=>none)
    |none=>none
   |none=>none
  |_=>none
theorem Mm{s:S} {r:fq}:Ml s r=Iq s r:=by
 cases r with
 |tmp t=>
  simp only[Ml,Iq,yC]
  cases lk t s.slots with
  |none=>rfl
  |some v=>cases v<;>rfl
 |cell t D=>
  simp only[Ml,Iq,yC,sP,AG,HM]
  cases lk t s.slots with
  |none=>rfl
  |some v=>cases v with
   |ptr b off=>
    simp only
    cases bO b s.boxes with
    |none=>rfl
    |some x=>
     simp only
     cases aB x.cells off D with
     |none=>rfl
     |some a=>cases D<;>rfl
   |_=>rfl
def F3(s:S):List fq->Option (List AV)
 |[]=>some []
 |r::D=>match Ml s r,F3 s D with
  |some p,some l=>some (p.1::l)
  |_,_=>none
theorem HU{s:S}:∀{r:List fq},F3 s r=kQ s r
 |[]=>rfl
 |r::D=>by rw[F3,kQ,Mm,HU];congr 1
def Mo:List fq->Option (AV×Option Nat)
 |[r]=>Ml s r
 |D=>(F3 s D).map λl=>(.de l,none)
theorem Mp{s:S} {r:List fq}:Mo s r=dV s r:=by
 match r with
 |[]=>rfl
 |[r]=>exact Mm
 |r::L::D=>show(F3 s _).map _=(kQ s _).map _;rw[HU]
def Rr:Option Out:=
 match Mo s res,AN s.boxes 0 n with
 |some (r,none),some css=>some (.ret r none css)
 |some (r,some q),some css=>some (.ret r (NP q s.live) css)
 |_,_=>none
def PJ:Option Out:=
 match res with
 |[.tmp t]=>match lkF t s.slots with
  |some (.ptr b o)=>if b<4 then(match AN s.boxes 0 css.length with
    |some D=>if b<css.length/\PI css D=true then some (.NO b o)else none
    |none=>none)else(match Gy b s.boxes with
    |some x=>if o=0/\css=[]then some (.new x.cells)else none
    |none=>none)
  |_=>Rr res css.length s
 |_=>Rr res css.length s
def aiQ:Option Rc->Option Out
 |some (.norm,s)=>PJ res css s
 |some (.ret,s)=>PJ res css s
 |some (.PO p,s)=>(AN s.boxes 0 css.length).map (.up p)
 |_=>none
end
section
variable{P:Program}
def VM(E:ef) (N:Nat) (P:Program) (f:Nat) (O:AV) (css:List (List AV)) (args:List (Option AV)):Option (List (List AV)):=
 match Ug P f with
 |some cf=>if Uh O&&Nat.ble args.length cf.nt&&Nat.ble css.length 4 then(match kP css args with
  |⟨sl,bx,lv,nx⟩=>match vN E 4 nx 1 cf.ops (Gz (some cf.d) (.dat O none) sl) bx lv with
   |some (.norm,M,D,L)=>match xE E N cf.code ⟨M,D,L,5+cf.ops.length⟩with
    |some (.norm,s)=>AN s.boxes 0 css.length
    |some (.ret,s)=>AN s.boxes 0 css.length
    |_=>none
   |_=>none)else none
 |none=>none
def Mq(E:ef) (N:Nat) (P:Program) (cf:CH) (as:List (Option AV)) (L:List Nat) (n:Nat) (R:AV):S->Option Out
 |⟨sl,bx,lv,nx⟩=>match lkF cf.t sl with
  |some (.mL g D M)=>if g==cf.g&&HT D&&D.length==as.length&&M==L&&dn L then(match lZ bx L with
   |some cs=>match VM E N P cf.g R cs as with
    |some O=>Rr cf.res n ⟨sl,dm L O bx,lv,nx⟩
    |none=>none
   |none=>none)else none
  |_=>none
def aaK(E:ef) (N:Nat) (P:Program) (cf:CH) (css:List (List AV)) (args:List (Option AV)):Option Out:=
 match xE E N cf.pre (kP css args)with
 |some (.norm,⟨sl,bx,lv,nx⟩)=>match rC false sl cf.caps with
  |some (as,D)=>if HT as then(match xE E N cf.code ⟨(cf.t,.mL cf.g as D)::sl,bx,lv,nx+2⟩with
   |some (.norm,s)=>Mq E N P cf as D css.length .gh s
   |some (.ret,s)=>Mq E N P cf as D css.length .gh s
   |some (.PO p,s)=>if iI p then Mq E N P cf as D css.length p s else none
   |_=>none)else none
  |none=>none
 |_=>none
section
variable {N:Nat} {args:List (Option AV)} {css:List (List AV)} {f:Nat} {fr:Option Nat} {n:Nat} {o:Out} {r:AV} {s:S}
def aeG(E:ef) (N:Nat) (P:Program) (m f:Nat) (css:List (List AV)) (args:List (Option AV)):Option Out:=
 if Nat.ble css.length 4 then(match m with
 |2=>match Uj P f with
  |some cf=>if Nat.ble args.length cf.nt then aaK E N P cf css args else none
  |none=>none
 |m=>match oK (m==1) P f with
  |some cf=>if Nat.ble args.length cf.nt then aiQ cf.res css (xE E N cf.code (kP css args))else none
  |none=>none)else none
def evF(it:AV->Option (List (List AV))) (L:Nat->Nat) (N:Nat) (P:Program) (n:Nat):Nat->List (List AV)->List (Option AV)->Option Out:=
 Nat.rec (motive:=λ_=>Nat->List (List AV)->List (Option AV)->Option Out) (λ_ _ _=>none) (λ_ D f css args=>aeG ⟨D,it⟩ N P (L f) f css args) n
theorem PK{res:List fq} (h:Rr res n s=some o):∃r fr D,o=.ret r fr D/\D.length=n/\∀e,e=Exit.normal\/e=Exit.ret->D6 res r fr D e s:=by
 unfold Rr at h;rw[Mp]at h;simp only[AG]at h
 split at h<;>try(cases h;done)
 ·rename_i r css O V
  cases h;obtain⟨R,M⟩:=rE V
  refine⟨r,none,css,rfl,M,λe L=>?_⟩
  rcases L with rfl|rfl<;>(simp only[D6,O,ax];exact⟨trivial,trivial,R⟩)
 ·rename_i r q css O V
  cases h;obtain⟨R,M⟩:=rE V
  refine⟨r,dJ q s.live,css,rfl,M,λe L=>?_⟩
  have Z:Kk (dJ q s.live) (some q) s.live:=by
   cases hq:dJ q s.live with
   |none=>trivial
   |some e=>exact hq
  rcases L with rfl|rfl<;>(simp only[D6,O,ax];exact⟨trivial,Z,R⟩)
theorem Mr{D:List (List AV)} (h:uz P f css args r fr D):Good (Pure P) f css args (.ret r fr D):=by
 refine⟨h,λe as L=>?_⟩
 subst e;subst L
 have:D=[]:=rc h.2.1
 subst this;exact ET h
theorem VN{E:ef} (hm:P.follows .mixedOrders=true) (hE:E.Ok (Pure P)) {R:AV} {D:List (List AV)} (h:VM E N P f R css args=some D):JX P f R css args D:=by
 unfold VM at h
 split at h<;>try(cases h;done)
 rename_i cf ab
 split at h<;>try(cases h;done)
 rename_i O;simp only[ed]at O;split at h;rename_i sl bx lv nx M
 split at h<;>try(cases h;done)
 rename_i ac V Z hx
 have key:∀e s,xE E N cf.code ⟨ac,V,Z,5+cf.ops.length⟩=some (e,s)->(e=.norm\/e=.ret)->AN s.boxes 0 css.length=some D->JX P f R css args D:=by
  intro e s L aa hh;obtain⟨h1,h2⟩:=rE hh;refine Ld hm ab O.1.1 (fi O.1.2) h2 (fi O.2) ?_;rw[M,AL];refine wP hE hx ?_;refine eY hE _ _ _ _ _ L ?_
  rcases aa with rfl|rfl<;>exact h1
 split at h<;>try(cases h;done)
 ·rename_i s L;exact key _ _ L (.inl rfl) h
 ·rename_i s L;exact key _ _ L (.inr rfl) h
theorem F4{E:ef} (hm:P.follows .mixedOrders=true) (hE:E.Ok (Pure P)) {cf:CH} {as:List (Option AV)} {R:List Nat} {Z:AV} (has:HT as=true) (h:Mq E N P cf as R n Z s=some o):
  ∃r fr D,o=.ret r fr D/\D.length=n/\Nk (Pure P) cf.res r fr D cf.t cf.g as R Z s:=by
 obtain⟨sl,bx,lv,nx⟩:=s;simp only[Mq,yC,sQ]at h
 split at h<;>try(cases h;done)
 rename_i g ab aa hl
 split at h<;>try(cases h;done)
 rename_i V;simp only[ed,md]at V;obtain⟨⟨⟨⟨rfl,h1⟩,h2⟩,rfl⟩,h3⟩:=V
 have:=Mi h1 has h2
 subst this
 split at h<;>try(cases h;done)
 rename_i cs O
 split at h<;>try(cases h;done)
 rename_i M hr;obtain⟨r,fr,D,rfl,L,hf⟩:=PK h
 exact⟨r,fr,D,rfl,L,hl,h3,by rw[O];exact⟨M,VN hm hE hr,hf _ (.inr rfl)⟩⟩
theorem ZF{E:ef} (hm:P.follows .mixedOrders=true) (hE:E.Ok (Pure P)) {m:Nat} (h:aeG E N P m f css args=some o):Good (Pure P) f css args o:=by
 unfold aeG at h
 split at h<;>try(cases h;done)
 rename_i h4
 have h4:=fi h4
 split at h
 ·split at h<;>try(cases h;done)
  rename_i cf V
  split at h<;>try(cases h;done)
  rename_i Z
  have Z:=fi Z
  unfold aaK at h
  split at h<;>try(cases h;done)
  rename_i sl bx lv nx ad
  rw[AI (bx:=bx) (lv:=lv) (nx:=nx)]at h
  split at h<;>try(cases h;done)
  rename_i as bs ae
  split at h<;>try(cases h;done)
  rename_i has
  have key:∀(e:Ex) (s:S) (r:AV) (fr:Option Nat) (D:List (List AV)),xE E N cf.code ⟨(cf.t,.mL cf.g as bs)::sl,bx,lv,nx+2⟩=some (e,s)->Nl (Pure P) cf.res r fr D cf.t cf.g as bs e.to s->D.length=css.length->o=.ret r fr D->Good (Pure P) f css args o:=by
   intro e s r fr D O ac L M;subst M;refine Mr (Lf hm V Z L h4 ?_);refine eY hE _ _ _ _ _ ad ?_
   show aj _ _
   rw[ae];exact eY hE _ _ _ _ _ O ac
  split at h<;>try(cases h;done)
  ·rename_i s O
   obtain⟨r,fr,D,M,L,hf⟩:=F4 hm hE has h;exact key _ _ _ _ _ O hf L M
  ·rename_i s O
   obtain⟨r,fr,D,M,L,hf⟩:=F4 hm hE has h;exact key _ _ _ _ _ O hf L M
  ·rename_i p s O
   split at h<;>try(cases h;done)
   rename_i ag;obtain⟨r,fr,D,M,L,hf⟩:=F4 hm hE has h;exact key _ _ _ _ _ O ⟨p,rfl,ag,hf⟩ L M
 ·split at h<;>try(cases h;done)
  rename_i cf V
  split at h<;>try(cases h;done)
  rename_i Z
  have Z:=fi Z
  have val:∀e s,xE E N cf.code (kP css args)=some (e,s)->(e=.norm\/e=.ret)->Rr cf.res css.length s=some o->Good (Pure P) f css args o:=by
   intro e s O R M;obtain⟨r,fr,D,rfl,L,hf⟩:=PK M;refine Mr (Ko hm V Z L h4 (eY hE _ _ _ _ _ O (hf _ ?_)))
   rcases R with rfl|rfl
   ·exact .inl rfl
   ·exact .inr rfl
  have fin:∀e s,xE E N cf.code (kP css args)=some (e,s)->(e=.norm\/e=.ret)->PJ cf.res css s=some o->Good (Pure P) f css args o:=by
   intro e s O R M;unfold PJ at M;split at M
   ·rename_i t ab
    simp only[yC,sP]at M;split at M
    ·rename_i b off hl
     split at M
     ·rename_i hb
      split at M<;>try(cases M;done)
      rename_i D hh
      split at M<;>try(cases M;done)
      rename_i aa;cases M;obtain⟨h1,h2⟩:=rE hh
      have:=Mk aa.2
      subst this;refine Ue hm V Z h4 aa.1 (eY hE _ _ _ _ _ O ?_);rw[ab]
      rcases R with rfl|rfl<;>exact⟨hl,h1⟩
     ·rename_i hb
      split at M<;>try(cases M;done)
      rename_i x hx
      split at M<;>try(cases M;done)
      rename_i aa;cases M;obtain⟨rfl,rfl⟩:=aa
      refine⟨rfl,λas ha=>?_⟩
      subst ha
      refine Uf hm V (by simpa using Z) (eY hE _ _ _ _ _ O ?_)
      rw[ab]
      rcases R with rfl|rfl<;>(simp only[YF,Ex.to,hl,hx,ax];exact⟨aaN,trivial⟩)
    ·exact val _ _ O R M
   ·exact val _ _ O R M
  unfold aiQ at h
  split at h<;>try(cases h;done)
  ·rename_i s O;exact fin _ _ O (.inl rfl) h
  ·rename_i s O;exact fin _ _ O (.inr rfl) h
  ·rename_i p s O
   simp only[eg]at h;obtain⟨D,hh,rfl⟩:=h;obtain⟨h1,h2⟩:=rE hh;exact Ud hm V Z h2 h4 (eY hE _ _ _ _ _ O ⟨rfl,h1⟩)
theorem VO(hm:P.follows .mixedOrders=true) {it:AV->Option (List (List AV))} (D:∀g xs,it g=some xs->(Pure P).i g xs) {L:Nat->Nat} {N:Nat}:∀{n f:Nat} {css:List (List AV)} {args:List (Option AV)} {o:Out},evF it L N P n f css args=some o->Good (Pure P) f css args o
 |0,_,_,_,_,h=>by cases h
 |n+1,f,css,args,o,h=>ZF (E:=⟨evF it L N P n,it⟩) hm ⟨λf css args o h=>VO hm D h,D⟩ h
theorem aiR(hm:P.follows .mixedOrders=true) {it:AV->Option (List (List AV))} (D:∀g xs,it g=some xs->(Pure P).i g xs) {L:Nat->Nat} {as:List AV} (h:evF it L N P n f [] (as.map some)=some (.ret r fr [])):(Pure P).c f as r fr:=
 (VO hm D h).2 rfl as rfl
end
end
end
end Go.Eng
