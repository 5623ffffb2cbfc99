/- Part 21 of the engine and its library. -/
import Derived.Test.YtjnbemnncjbmgaaGreatPk19
set_option linter.all false
set_option maxRecDepth 10000
set_option maxHeartbeats 4000000
namespace Go.Eng
open Go
section
variable (z:Nat) (l:List (List AV))
inductive Out where
 |ret (r:AV) (fr:Option Nat) (css:List (List AV))
 |up (p:AV) (css:List (List AV))
 |new (cs:List AV)
 |Qr (j o:Nat)
def Good(C:aT) (f:Nat) (css:List (List AV)) (args:List (Option AV)):Out->Prop
 | .ret r fr D=>C.p f css args r fr D/\(css=[]->∀as:List AV,args=as.map some->C.c f as r fr)
 | .up p D=>C.q f css args p D
 | .new cs=>css=[]/\∀as:List AV,args=as.map some->C.n f as cs
 | .Qr j o=>C.r f css args j o
structure eP where
 call:Nat->List (List AV)->List (Option AV)->Option Out
 it:AV->Option (List (List AV))
structure eP.Ok (E:eP) (C:aT):Prop where
 call:∀f css args o,E.call f css args=some o->Good C f css args o
 it:∀g xs,E.it g=some xs->C.i g xs
abbrev Sl:=List (Nat×SV)
abbrev eG:=List (Nat×bV)
abbrev Lv:=List (Nat×Nat)
inductive Rs where
 |no
 |ok (v:SV) (sl:Sl) (bx:eG) (lv:Lv)
end
noncomputable section
section
variable (z:Nat) (l:List (List AV))
def nW{α:Type} (l:List α):Nat:=List.rec (motive:=λ_=>Nat) 0 (λ_ _ D=>Nat.succ D) l
theorem kG{α:Type}:∀{l:List α},nW l=l.length
 |[]=>rfl
 |a::l=>by show Nat.succ (nW l)=_;rw[kG];rfl
def als(l:List (List AV)):Bool:=List.rec (motive:=λ_=>Bool) true (λr _ D=>List.rec (motive:=λ_=>Bool) false (λ_ L _=>List.rec (motive:=λ_=>Bool) D (λ_ _ _=>false) L) r) l
theorem Sn:∀{l:List (List AV)},als l=true->∀r∈l,r.length=1
 |[],_,r,h=>by cases h
 |[]::l,h,r,D=>by cases h
 |[x]::l,h,r,D=>by
  rcases nm.1 D with rfl|D
  ·rfl
  ·exact Sn (l:=l) h r D
 |(x::y::z)::l,h,r,D=>by cases h
def ahi:Bool:=List.rec (motive:=λ_=>Bool) true (λr _ D=>cond (Nat.beq (nW r) z) D false) l
theorem So{z:Nat}:∀{l:List (List AV)},ahi z l=true->∀r∈l,r.length=z
 |[],_,r,h=>by cases h
 |a::l,h,r,L=>by
  have h:cond (Nat.beq (nW a) z) (ahi z l) false=true:=h
  cases D:Nat.beq (nW a) z
  ·rw[D]at h;cases h
  ·rw[D]at h
   rcases nm.1 L with rfl|L
   ·rw[<-kG];exact pB D
   ·exact So h r L
def Ou:Bool:=cond (Nat.beq z 1) (als l) (ahi z l)
end
section
variable (n:Nat) {bx:eG} {lv:Lv} {nx:Nat} {x:Option aR} {α:Type} (l:List α) (sl:Sl)
theorem CD{z:Nat} {l:List (List AV)} (h:Ou z l=true):∀r∈l,r.length=z:=by
 unfold Ou at h;cases D:Nat.beq z 1
 ·rw[D]at h;exact So h
 ·rw[D]at h
  rw[pB D];exact Sn h
def UC(m:List α):List α:=List.rec (motive:=λ_=>List α) m (λa _ D=>a::D) l
theorem FJ{α:Type}:∀{l m:List α},UC l m=l++m
 |[],m=>rfl
 |a::l,m=>by show a::UC l m=_;rw[FJ];rfl
def xR:List α:=Nat.rec (motive:=λ_=>List α->List α) (λl=>l) (λ_ D l=>List.rec (motive:=λ_=>List α) [] (λ_ t _=>D t) l) n l
theorem tK{α:Type}:∀{n:Nat} {l:List α},xR n l=l.drop n
 |0,l=>rfl
 |n+1,[]=>rfl
 |n+1,a::l=>by show xR n l=_;rw[tK];rfl
def Ov:List α:=Nat.rec (motive:=λ_=>List α->List α) (λ_=>[]) (λ_ D l=>List.rec (motive:=λ_=>List α) [] (λa t _=>a::D t) l) n l
theorem CE{α:Type}:∀{n:Nat} {l:List α},Ov n l=l.take n
 |0,l=>rfl
 |n+1,[]=>rfl
 |n+1,a::l=>by show a::Ov n l=_;rw[CE];rfl
def lkF(l:Sl):Option SV:=List.rec (motive:=λ_=>Option SV) none (λp _ D=>Bool.rec D (some p.2) (Nat.beq n p.1)) l
def Jb(l:eG):Option bV:=List.rec (motive:=λ_=>Option bV) none (λp _ D=>Bool.rec D (some p.2) (Nat.beq n p.1)) l
def Qs(l:Lv):Option Nat:=List.rec (motive:=λ_=>Option Nat) none (λp _ D=>Bool.rec D (some p.2) (Nat.beq n p.1)) l
def Ye(b:bV) (l:eG):eG:=List.rec (motive:=λ_=>eG) [] (λp r D=>Bool.rec (p::D) ((p.1,b)::r) (Nat.beq n p.1)) l
def Ow(l:Lv):Lv:=List.rec (motive:=λ_=>Lv) [] (λp r D=>Bool.rec (p::D) D (Nat.beq n p.1)) l
theorem bq(m:Nat):(n==m)=Nat.beq n m:=by
 cases h:Nat.beq n m
 ·exact wc.2 (λe=>by subst e;rw[Nat.beq_refl]at h;cases h)
 ·exact l4.2 (pB h)
theorem Sq{a b:Nat}:Nat.blt a b=true↔a<b:=by rw[Kd]
theorem AK{n:Nat}:∀{l:Sl},lkF n l=lk n l
 |[]=>rfl
 |(m,v)::r=>by
  show Bool.rec (motive:=λ_=>Option SV) (lkF n r) (some v) (Nat.beq n m)=_
  rw[lk,bq,AK];cases Nat.beq n m<;>rfl
theorem uM{n:Nat}:∀{l:eG},Jb n l=cj n l
 |[]=>rfl
 |(m,v)::r=>by
  show Bool.rec (motive:=λ_=>Option bV) (Jb n r) (some v) (Nat.beq n m)=_
  rw[cj,bq,uM];cases Nat.beq n m<;>rfl
theorem CF{n:Nat}:∀{l:Lv},Qs n l=d9 n l
 |[]=>rfl
 |(m,v)::r=>by
  show Bool.rec (motive:=λ_=>Option Nat) (Qs n r) (some v) (Nat.beq n m)=_
  rw[d9,bq,CF];cases Nat.beq n m<;>rfl
theorem Ox{n:Nat} {b:bV}:∀{l:eG},Ye n b l=o7 n b l
 |[]=>rfl
 |(m,v)::r=>by
  show Bool.rec (motive:=λ_=>eG) ((m,v)::Ye n b r) ((m,b)::r) (Nat.beq n m)=_
  rw[o7,bq,Ox];cases h:Nat.beq n m
  ·rfl
  ·rw[pB h];rfl
theorem Iv{n:Nat}:∀{l:Lv},Ow n l=jT n l
 |[]=>rfl
 |(m,v)::r=>by
  show Bool.rec (motive:=λ_=>Lv) ((m,v)::Ow n r) (Ow n r) (Nat.beq n m)=_
  rw[jT,bq,Iv];cases Nat.beq n m<;>rfl
def lV(x:aR):Option SV:=aR.rec (motive:=λ_=>Option SV) (λn=>lkF n sl) (λv=>some (.dat v none)) x
theorem CG{sl:Sl} {x:aR}:lV sl x=bX ⟨sl,bx,lv,nx⟩ x:=by
 cases x
 ·exact AK
 ·rfl
def anB(v:SV):Option AV:=match v with
 | .dat a _=>some a
 | .rp cs=>some (.ref cs)
 |_=>none
def dJ(x:aR):Option AV:=Option.rec (motive:=λ_=>Option AV) none anB (lV sl x)
theorem kD{sl:Sl} {x:aR}:dJ sl x=aL ⟨sl,bx,lv,nx⟩ x:=by
 unfold dJ aL
 rw[CG (bx:=bx) (lv:=lv) (nx:=nx)]
 cases bX ⟨sl,bx,lv,nx⟩ x with
 |none=>rfl
 |some v=>cases v<;>rfl
def sj(sl:Sl):List aR->Option (List AV)
 |[]=>some []
 |x::r=>match dJ sl x,sj sl r with
  |some a,some b=>some (a::b)
  |_,_=>none
theorem DJ{sl:Sl} {bx:eG} {lv:Lv} {nx:Nat}:∀{x:List aR},sj sl x=ei ⟨sl,bx,lv,nx⟩ x
 |[]=>rfl
 |x::r=>by
  rw[sj,ei,kD (bx:=bx) (lv:=lv) (nx:=nx),DJ]
  cases aL ⟨sl,bx,lv,nx⟩ x<;>cases ei ⟨sl,bx,lv,nx⟩ r<;>rfl
def tL(h:Bool) (sl:Sl):List aR->Option (List (Option AV)×List Nat)
 |[]=>some ([],[])
 |x::r=>match lV sl x,tL h sl r with
  |some (.dat a _),some (ps,D)=>some (some a::ps,D)
  |some (.rp cs),some (ps,D)=>some (some (.ref cs)::ps,D)
  |some (.ptr b 0),some (ps,D)=>some (none::ps,b::D)
  |some (.pt 0 [(b,0)]),some (ps,D)=>bif h then some (some .hole::ps,b::D)else none
  |_,_=>none
theorem CH{h:Bool} {sl:Sl} {bx:eG} {lv:Lv} {nx:Nat}:∀{x:List aR},tL h sl x=ej h ⟨sl,bx,lv,nx⟩ x
 |[]=>rfl
 |x::r=>by
  rw[tL,ej,CG (bx:=bx) (lv:=lv) (nx:=nx),CH]
  congr 1
def CJ(sl:Sl):List (Nat×Nat×aR)->Option (List (Nat×List AV))
 |[]=>some []
 |(off,D,x)::r=>match dJ sl x,CJ sl r with
  |some a,some ps=>if a.cells.length=D/\iI a none=true then some ((off,a.cells)::ps)else none
  |_,_=>none
theorem Iw{sl:Sl} {bx:eG} {lv:Lv} {nx:Nat}:∀{x:List (Nat×Nat×aR)},CJ sl x=iN ⟨sl,bx,lv,nx⟩ x
 |[]=>rfl
 |(off,D,x)::r=>by
  rw[CJ,iN,kD (bx:=bx) (lv:=lv) (nx:=nx),Iw]
  congr 1
def Iy(sl:Sl) (z:Nat):List aR->Option (List (List AV))
 |[]=>some []
 |x::r=>match dJ sl x,Iy sl z r with
  |some a,some rows=>if a.cells.length=z/\iI a none=true then some (a.cells::rows)else none
  |_,_=>none
theorem Kc{sl:Sl} {bx:eG} {lv:Lv} {nx z:Nat}:∀{x:List aR},Iy sl z x=lq ⟨sl,bx,lv,nx⟩ z x
 |[]=>rfl
 |x::r=>by
  rw[Iy,lq,kD (bx:=bx) (lv:=lv) (nx:=nx),Kc]
  congr 1
def Iz(sl:Sl):List aR->Option (List (Nat×Nat))
 |[]=>some []
 |x::r=>match lV sl x,Iz sl r with
  |some (.ptr b o),some ps=>some ((b,o)::ps)
  |_,_=>none
theorem Ke{sl:Sl} {bx:eG} {lv:Lv} {nx:Nat}:∀{x:List aR},Iz sl x=DZ ⟨sl,bx,lv,nx⟩ x
 |[]=>rfl
 |x::r=>by
  rw[Iz,DZ,CG (bx:=bx) (lv:=lv) (nx:=nx),Ke]
  congr 1
def Sr:Option aR->Option Int
 |none=>some 0
 |some x=>zO (dJ sl x)
theorem Yf{sl:Sl}:Sr sl x=A0 ⟨sl,bx,lv,nx⟩ x:=by
 cases x
 ·rfl
 ·rw[Sr,A0,kD (bx:=bx) (lv:=lv) (nx:=nx)]
def Oy(xs:List (List AV)):Option aR->Option Int
 |none=>some (nW xs)
 |some x=>zO (dJ sl x)
theorem Yg{sl:Sl} {xs:List (List AV)}:Oy sl xs x=zP ⟨sl,bx,lv,nx⟩ xs x:=by
 cases x
 ·rw[Oy,zP,kG]
 ·rw[Oy,zP,kD (bx:=bx) (lv:=lv) (nx:=nx)]
def nq(l:eG):List Nat->Option (List (List AV))
 |[]=>some []
 |b::D=>match Jb b l,nq l D with
  |some x,some css=>some (x.cells::css)
  |_,_=>none
theorem uN{l:eG}:∀{x:List Nat},nq l x=aW l x
 |[]=>rfl
 |x::r=>by rw[nq,aW,uM,uN];congr 1
def acd(b:Nat):List Nat->Bool
 |[]=>false
 |c::r=>cond (Nat.beq b c) true (acd b r)
theorem Ss{b:Nat}:∀{l:List Nat},acd b l=l.contains b
 |[]=>rfl
 |c::r=>by rw[acd,List.contains_cons,Ss,bq];cases Nat.beq b c<;>rfl
end
section
variable (x i:aR) (n f:Nat) (g:aR) (args:List aR) (cs:List AV) (e z:Nat) (op:BinOp) (k:IntKind) (neg:Bool) (off:Nat) {R:Type} (E:eP) (a:AV)
def oP:List Nat->Bool
 |[]=>true
 |b::D=>cond (acd b D) false (oP D)
theorem AL:∀{l:List Nat},oP l=dS l
 |[]=>rfl
 |c::r=>by rw[oP,dS,Ss,AL];cases r.contains c<;>rfl
def Yh{α:Type} (l:List α):Nat->Option α:=List.rec (motive:=λ_=>Nat->Option α) (λ_=>none) (λa _ D n=>Nat.rec (motive:=λ_=>Option α) (some a) (λm _=>D m) n) l
theorem LU{α:Type}:∀{l:List α} {n:Nat},Yh l n=l[n]?
 |[],n=>by simp[Yh]
 |a::l,0=>rfl
 |a::l,n+1=>by
  show Yh l n=_
  rw[LU];rfl
def AM:Option Nat->Option AV
 |none=>Yh cs off
 |some n=>Bool.rec (Bool.rec none (some (.agg (Ov n (xR off cs)))) (Nat.ble (off+n) (nW cs))) (some (.agg cs)) (and (Nat.beq off 0) (Nat.beq n (nW cs)))
theorem Kf{cs:List AV} {off:Nat} {n:Option Nat}:AM cs off n=aB cs off n:=by
 cases n
 ·exact LU
 ·rename_i n
  rw[AM,aB,kG,CE,tK];cases D:(Nat.beq off 0&&Nat.beq n cs.length)
  ·by_cases h:off+n<=cs.length
   ·rw[fp h,Nat.ble_eq_true_of_le h]
   ·rw[fb h]
    cases L:Nat.ble (off+n) cs.length
    ·rfl
    ·exact absurd (gc L) h
  ·simp only[ed]at D
   have O:=pB D.1
   have M:=pB D.2
   subst O
   rw[fp ado,M]
   simp
def Qt:List AV:=match a with
 | .agg cs=>cs
 |a=>[a]
theorem UD{a:AV}:Qt a=a.cells:=by cases a<;>rfl
def Jc(ps:List AV):List AV:=
 Bool.rec (UC (Ov off cs) (UC ps (xR (off+nW ps) cs))) ps (and (Nat.beq off 0) (Nat.beq (nW ps) (nW cs)))
theorem ace{cs:List AV} {off:Nat} {ps:List AV}:Jc cs off ps=setCells cs off ps:=by
 unfold Jc setCells;rw[kG,kG,CE,tK,FJ,FJ];cases D:(Nat.beq off 0&&Nat.beq ps.length cs.length)
 ·rw[List.append_assoc]
 ·simp only[ed]at D
  have M:=pB D.1
  have L:=pB D.2
  subst M;simp[L]
def Yi(xs:List (List AV)) (l h:Int):AV:=match a with
 | .aZ=>.aZ
 |_=>.sl (Ov (h.toNat-l.toNat) (xR l.toNat xs))
theorem acf{a:AV} {xs:List (List AV)} {l h:Int}:Yi a xs l h=Pf a xs l h:=by
 unfold Yi Pf;rw[CE,tK]
 cases a<;>first|rfl|(simp only[AV.sl.injEq];rw[List.drop_take])
def Yj:IntKind->Nat
 | .i8=>128
 | .u8=>256
 | .i16=>32768
 | .u16=>65536
 | .i32=>2147483648
 | .u32=>4294967296
 | .i64=>9223372036854775808
 | .u64=>18446744073709551616
def St(n:Int):Int:=Int.rec (motive:=λ_=>Int) (λm=>Bool.rec (k.wrap n) n (Nat.blt m (Yj k))) (λ_=>k.wrap n) n
theorem IA{k:IntKind} {n:Int}:St k n=k.wrap n:=by
 cases n with
 |negSucc m=>rfl
 |ofNat m=>
  show Bool.rec (motive:=λ_=>Int) _ _ (Nat.blt m (Yj k))=_
  cases h:Nat.blt m (Yj k)
  ·rfl
  ·have h:m<Yj k:=by simpa[Kd]using h
   show Int.ofNat m=_
   have e:(Int.ofNat m)=(m:Int):=rfl
   rw[e]
   cases k<;>simp only[Yj]at h<;>simp[IntKind.wrap,IntKind.bits,IntKind.signed]<;>omega
def Yk(x y:Int):Bool:=Int.rec (motive:=λ_=>Bool) (λa=>Int.rec (motive:=λ_=>Bool) (λb=>Nat.blt a b) (λ_=>decide (x<y)) y) (λ_=>decide (x<y)) x
theorem LV{x y:Int}:Yk x y=decide (x<y):=by
 cases x with
 |negSucc a=>rfl
 |ofNat a=>cases y with
  |negSucc b=>rfl
  |ofNat b=>
   show Nat.blt a b=_
   by_cases h:a<b
   ·have:(Int.ofNat a)<(Int.ofNat b):=by simpa using h
    rw[Sq.2 h,IR this]
   ·have:¬(Int.ofNat a)<(Int.ofNat b):=by simpa using h
    rw[ut this];cases D:Nat.blt a b
    ·rfl
    ·exact absurd (Sq.1 D) h
def ahj(x y:Int):Bool:=Int.rec (motive:=λ_=>Bool) (λa=>Int.rec (motive:=λ_=>Bool) (λb=>Nat.beq a b) (λ_=>x==y) y) (λ_=>x==y) x
theorem Yl{x y:Int}:ahj x y=(x==y):=by
 cases x with
 |negSucc a=>rfl
 |ofNat a=>cases y with
  |negSucc b=>rfl
  |ofNat b=>
   show Nat.beq a b=_
   rw[<-bq]
   by_cases h:a=b
   ·subst h;simp
   ·have:¬(Int.ofNat a=Int.ofNat b):=λe=>h (Int.ofNat.inj e)
    rw[wc.2 h,wc.2 this]
def vN(x y:Int):Option AV:=
 match op with
 | .add=>some (.int k (St k (Int.add x y)))
 | .sub=>some (.int k (St k (Int.sub x y)))
 | .mul=>some (.int k (St k (Int.mul x y)))
 | .eql=>some (.bool (ahj x y))
 | .neq=>some (.bool (not (ahj x y)))
 | .lss=>some (.bool (Yk x y))
 | .leq=>some (.bool (not (Yk y x)))
 | .gtr=>some (.bool (Yk y x))
 | .geq=>some (.bool (not (Yk x y)))
 |_=>qA op k x y
theorem Ym{op:BinOp} {k:IntKind} {x y:Int}:vN op k x y=qA op k x y:=by
 cases op<;>try rfl
 ·rw[vN,IA];rfl
 ·rw[vN,IA];rfl
 ·rw[vN,IA];rfl
 ·rw[vN,Yl];rfl
 ·rw[vN,Yl];rfl
 ·rw[vN,LV];rfl
 ·rw[vN,LV]
  simp only[qA,fx,AV.bool.injEq]
  by_cases h:x<=y
  ·have:¬y<x:=ado
   simp[h,this]
  ·have:y<x:=ado
   simp[h,this]
 ·rw[vN,LV];rfl
 ·rw[vN,LV]
  simp only[qA,fx,AV.bool.injEq]
  by_cases h:x>=y
  ·have:¬x<y:=ado
   simp[h,this]
  ·have:x<y:=ado
   simp[h,this]
def alu:BinOp->Bool
 | .shl| .shr=>true
 |_=>false
def Yn(D:IntKind):Bool:=match k,D with
 | .i64,.i64=>true
 | .u8,.u8=>true
 | .u16,.u16=>true
 |k,D=>decide (k=D)
theorem Yp{k D:IntKind}:Yn k D=decide (k=D):=by cases k<;>cases D<;>rfl
def Yq(b:AV):Option AV:=
 match a,b with
 | .int k x,.int D y=>Bool.rec (Bool.rec none (vN op k x y) (Yn k D)) (eK op (.int k x) (.int D y)) (alu op)
 |a,b=>eK op a b
theorem Yr{op:BinOp} {a b:AV}:Yq op a b=eK op a b:=by
 unfold Yq;split
 ·rename_i k x D y
  cases h:alu op
  ·show Bool.rec (motive:=λ_=>Option AV) none (vN op k x y) (Yn k D)=_
   rw[Yp,Ym]
   by_cases hk:k=D
   ·subst hk
    cases op<;>first|(simp only[Id,eK,kw];done)|(cases h)
   ·cases op<;>first|(simp only[hk,decide_false,eK,il];done)|(cases h)
  ·rfl
 ·rfl
def acg(id:Nat) (fr:Option Nat) (lv:Lv):Lv:=match fr with
 |some e=>(id,e)::lv
 |none=>lv
def Kg(id:Nat) (ids:List Nat) (sl:Sl) (bx:eG) (lv:Lv):Option Out->Rs
 |some (.ret r fr D)=>(.ok (.dat r (fr.map λ_=>id)) sl (dR ids D bx) (acg id fr lv))
 |_=>.no
def frc(k:AV->R):R:=match a with
 | .int t n=>Int.rec (motive:=λ_=>R) (λm=>Nat.rec (motive:=λ_=>R) (k (.int t (.ofNat 0))) (λp _=>k (.int t (.ofNat (Nat.succ p)))) m) (λm=>k (.int t (.negSucc m))) n
 | .bool b=>Bool.rec (motive:=λ_=>R) (k (.bool false)) (k (.bool true)) b
 |a=>k a
theorem Qu{a:AV} {k:AV->R}:frc a k=k a:=by
 unfold frc;split
 ·rename_i t n
  cases n with
  |ofNat m=>cases m<;>rfl
  |negSucc m=>rfl
 ·rename_i b;cases b<;>rfl
 ·rfl
def dat(a:Option AV) (sl:Sl) (bx:eG) (lv:Lv):Rs:=match a with
 |some a=>frc a λa=>(.ok (.dat a none) sl bx lv)
 |none=>.no
def Qv(E:eP) (id:Nat) (sl:Sl) (bx:eG) (lv:Lv) (nx:Nat):Rs:=.no
def alv(E:eP) (id:Nat) (sl:Sl) (bx:eG) (lv:Lv) (nx:Nat):Rs:=
 match lV sl x with
  |some v=>(.ok v sl bx lv)
  |none=>.no
def Ys(c:aR) (a:aR) (b:aR) (E:eP) (id:Nat) (sl:Sl) (bx:eG) (lv:Lv) (nx:Nat):Rs:=
 match dJ sl c with
  |some (.bool t)=>match lV sl a,lV sl b with
   |some u,some v=>(.ok (if t then u else v) sl bx lv)
   |_,_=>.no
  |_=>.no
def Su(E:eP) (id:Nat) (sl:Sl) (bx:eG) (lv:Lv) (nx:Nat):Rs:=
 (.ok (.ptr id 0) sl ((id,⟨cs,[]⟩)::bx) lv)
def adq(E:eP) (id:Nat) (sl:Sl) (bx:eG) (lv:Lv) (nx:Nat):Rs:=
 match dJ sl x with
  |some a=>if iI a none then(match a with
   | .agg cs=>(.ok (.ptr id 0) sl ((id,⟨cs,[]⟩)::bx) lv)
   |a=>(.ok (.ptr id 0) sl ((id,⟨[a],[]⟩)::bx) lv))else .no
  |none=>.no
def Sv(zs:List AV) (parts:List (Nat×Nat×aR)) (E:eP) (id:Nat) (sl:Sl) (bx:eG) (lv:Lv) (nx:Nat):Rs:=
 match CJ sl parts with
  |some ps=>(.ok (.dat (.agg (o6 zs ps)) none) sl bx lv)
  |none=>.no
def adr(xs:List aR) (E:eP) (id:Nat) (sl:Sl) (bx:eG) (lv:Lv) (nx:Nat):Rs:=
 match Iy sl z xs with
  |some rows=>(.ok (.dat (.sl rows) (some id)) sl bx ((id,e)::lv))
  |none=>.no
def alw(D:Option Nat) (E:eP) (id:Nat) (sl:Sl) (bx:eG) (lv:Lv) (nx:Nat):Rs:=
 match lV sl x with
  |some (.ptr b off)=>match Jb b bx with
   |some y=>match AM y.cells off D with
    |some a=>(.ok (.dat a (match D with|none=>Qs off y.tags|some _=>none)) sl bx lv)
    |none=>.no
   |none=>.no
  |some (.rp cs)=>dat (AM cs 0 D) sl bx lv
  |_=>.no
def alx(v:aR) (D:Nat) (E:eP) (id:Nat) (sl:Sl) (bx:eG) (lv:Lv) (nx:Nat):Rs:=
 match lV sl x with
  |some (.ptr b off)=>match Jb b bx with
   |some y=>match lV sl v with
    |some (.dat a q)=>if iI a q&&Nat.beq (nW (Qt a)) D&&Nat.ble (off+D) (nW y.cells)then
      (.ok .undef sl (Ye b ⟨Jc y.cells off (Qt a),match q with|some q=>(off,q)::y.tags.filter (λp=>p.1<off||off+D<=p.1)|none=>y.tags.filter (λp=>p.1<off||off+D<=p.1)⟩ bx) lv)else .no
    |_=>.no
   |none=>.no
  |_=>.no
def aly(E:eP) (id:Nat) (sl:Sl) (bx:eG) (lv:Lv) (nx:Nat):Rs:=
 match lV sl x with
  |some (.ptr b o)=>(.ok (.ptr b (o+off)) sl bx lv)
  |some (.rp cs)=>(.ok (.rp (xR off cs)) sl bx lv)
  |some (.pt 2 ps)=>(.ok (.pt 2 (xR off ps)) sl bx lv)
  |_=>.no
def ads(E:eP) (id:Nat) (sl:Sl) (bx:eG) (lv:Lv) (nx:Nat):Rs:=
 match lV sl x,dJ sl i with
  |some p,some (.int _ i)=>if 0<=i/\i<n then(match p with
    | .ptr b o=>(.ok (.ptr b (o+i.toNat*z)) sl bx lv)
    | .rp cs=>(.ok (.rp (xR (i.toNat*z) cs)) sl bx lv)
    |_=>.no)else .no
  |_,_=>.no
def adt(E:eP) (id:Nat) (sl:Sl) (bx:eG) (lv:Lv) (nx:Nat):Rs:=
 match lV sl x,dJ sl i with
  |some (.dat l _),some (.int _ i)=>match rowsOf l with
   |some xs=>if 0<=i then(match Yh xs i.toNat with
    |some row=>if Nat.beq (nW row) z then(.ok (.rp row) sl bx lv)else .no
    |none=>.no)else .no
   |none=>.no
  |some (.vs b off n D),some (.int _ i)=>if 0<=i/\i<n then(if D=z then(.ok (.ptr b (off+i.toNat*z)) sl bx lv)else .no)else .no
  |_,_=>.no
def adu(D:Option Nat) (E:eP) (id:Nat) (sl:Sl) (bx:eG) (lv:Lv) (nx:Nat):Rs:=
 match dJ sl x with
  |some (.agg cs)=>dat (AM cs off D) sl bx lv
  |_=>.no
def adv(D:Option Nat) (E:eP) (id:Nat) (sl:Sl) (bx:eG) (lv:Lv) (nx:Nat):Rs:=
 match dJ sl x,dJ sl i with
  |some (.agg cs),some (.int _ i)=>if 0<=i/\i<n then dat (AM cs (i.toNat*z) D) sl bx lv else .no
  |_,_=>.no
def adw(x y:aR) (E:eP) (id:Nat) (sl:Sl) (bx:eG) (lv:Lv) (nx:Nat):Rs:=
 match dJ sl x,dJ sl y with
  |some a,some b=>dat (Yq op a b) sl bx lv
  |_,_=>.no
def adx(L:List CK) (neg:Bool) (x:aR) (y:aR) (E:eP) (id:Nat) (sl:Sl) (bx:eG) (lv:Lv) (nx:Nat):Rs:=
 match dJ sl x,dJ sl y with
  |some (.agg as),some (.agg D)=>match cV L as D with
   |some e=>dat (some (.bool (e !=neg))) sl bx lv
   |none=>.no
  |_,_=>.no
def alz(x y:aR) (E:eP) (id:Nat) (sl:Sl) (bx:eG) (lv:Lv) (nx:Nat):Rs:=
 match dJ sl x,dJ sl y with
  |some a,some b=>dat (bbA neg a b) sl bx lv
  |_,_=>.no
def alA(op:UnOp) (x:aR) (E:eP) (id:Nat) (sl:Sl) (bx:eG) (lv:Lv) (nx:Nat):Rs:=
 match dJ sl x with
  |some a=>dat (unA op a) sl bx lv
  |none=>.no
def Yt(x:aR) (E:eP) (id:Nat) (sl:Sl) (bx:eG) (lv:Lv) (nx:Nat):Rs:=
 match dJ sl x with
  |some a=>dat (FY k a) sl bx lv
  |none=>.no
def Yu(k:FloatKind) (x:aR) (E:eP) (id:Nat) (sl:Sl) (bx:eG) (lv:Lv) (nx:Nat):Rs:=
 match dJ sl x with
  |some a=>dat (FZ k a) sl bx lv
  |none=>.no
def Yv(x:aR) (E:eP) (id:Nat) (sl:Sl) (bx:eG) (lv:Lv) (nx:Nat):Rs:=
 match dJ sl x with
  |some a=>dat (AY k a) sl bx lv
  |none=>.no
def Yw(E:eP) (id:Nat) (sl:Sl) (bx:eG) (lv:Lv) (nx:Nat):Rs:=
 match lV sl x with
  |some (.dat a _)=>dat (zN a) sl bx lv
  |some (.vs _ _ n _)=>dat (some (.int .i64 n)) sl bx lv
  |_=>.no
def Yx(E:eP) (id:Nat) (sl:Sl) (bx:eG) (lv:Lv) (nx:Nat):Rs:=
 dat (some (.int .i64 n)) sl bx lv
def ady(bytes:Nat) (x y:aR) (E:eP) (id:Nat) (sl:Sl) (bx:eG) (lv:Lv) (nx:Nat):Rs:=
 match lV sl x,dJ sl y with
  |some (.dat a q),some b=>match rowsOf a,rowsOf b with
   |some xs,some D=>if Nat.ble ((nW xs+nW D)*bytes) 140737488355328&&Ou z xs&&Ou z D then(match a,q with
    | .aZ,_=>(match D with
     |[]=>(.ok (.dat .aZ none) sl bx lv)
     |y::r=>(.ok (.dat (.sl (UC xs (y::r))) (some id)) sl bx ((id,e)::lv)))
    | .sl _,some q=>(match Qs q lv with
     |some L=>if L=e then(.ok (.dat (.sl (UC xs D)) (some id)) sl bx ((id,e)::Ow q lv))else .no
     |none=>.no)
    |_,_=>.no)else .no
   |_,_=>.no
  |_,_=>.no
def Yy(id:Nat) (sl:Sl) (bx:eG) (lv:Lv) (nx:Nat):Rs:=
 match sj sl args with
  |some as=>Kg id [] sl bx lv (E.call f [] (as.map some))
  |none=>.no
def Sw(id:Nat) (sl:Sl) (bx:eG) (lv:Lv) (nx:Nat):Rs:=
 match tL true sl args with
  |some (as,ids)=>if oP ids then(match nq bx ids with
   |some css=>Kg id ids sl bx lv (E.call f css as)
   |none=>.no)else .no
  |none=>.no
def Sx(id:Nat) (sl:Sl) (bx:eG) (lv:Lv) (nx:Nat):Rs:=
 match dJ sl g,sj sl args with
  |some (.fn (.func f) first caps),some as=>Kg id [] sl bx lv (E.call f [] ((first++as++caps).map some))
  |_,_=>.no
def adz(i:Nat) (E:eP) (id:Nat) (sl:Sl) (bx:eG) (lv:Lv) (nx:Nat):Rs:=
 match dJ sl x with
  |some a=>dat (S2 a i) sl bx lv
  |none=>.no
def adA(fn:Fn) (first:List aR) (caps:List aR) (E:eP) (id:Nat) (sl:Sl) (bx:eG) (lv:Lv) (nx:Nat):Rs:=
 match sj sl first,tL false sl caps with
  |some as,some (cs,ids)=>if oP ids&&i5 ids then(match nq bx ids with
   |some css=>(match iC ids css ⟨sl,bx,lv,nx⟩with
    |⟨L,D,M,_⟩=>(.ok (.dat (.fn fn as (kQ cs css)) none) L D M))
   |none=>.no)else .no
  |_,_=>.no
def adB(x:aR) (lo D:Option aR) (E:eP) (id:Nat) (sl:Sl) (bx:eG) (lv:Lv) (nx:Nat):Rs:=
 match dJ sl x with
  |some a=>match rowsOf a with
   |some xs=>match Sr sl lo,Oy sl xs D with
    |some l,some h=>if(0<=l/\l<=h/\h<=nW xs)then(if Ou z xs then(.ok (.dat (Yi a xs l h) none) sl bx lv)else .no)else .no
    |_,_=>.no
   |none=>.no
  |none=>.no
def alB(E:eP) (id:Nat) (sl:Sl) (bx:eG) (lv:Lv) (nx:Nat):Rs:=
 match lV sl x with
  |some (.ptr b o)=>(.ok (.ptr b o) sl bx lv)
  |some (.rp cs)=>(.ok (.rp cs) sl bx lv)
  |some (.dat (.fn (.func f) as D) q)=>(.ok (.dat (.fn (.func f) as D) q) sl bx lv)
  |some (.dat (.ref cs) _)=>(.ok (.rp cs) sl bx lv)
  |_=>.no
def alC(mx:Bool) (args:List aR) (E:eP) (id:Nat) (sl:Sl) (bx:eG) (lv:Lv) (nx:Nat):Rs:=
 match sj sl args with
  |some (a::r)=>dat (r.foldlM (UY mx) a) sl bx lv
  |_=>.no
def alD(e:Xt) (x:aR) (E:eP) (id:Nat) (sl:Sl) (bx:eG) (lv:Lv) (nx:Nat):Rs:=
 match dJ sl x with
  |some a=>dat (xtA e a) sl bx lv
  |none=>.no
def adC(E:eP) (id:Nat) (sl:Sl) (bx:eG) (lv:Lv) (nx:Nat):Rs:=
 match lV sl x with
  |some (.rp cs)=>if n*z<=cs.length then(.ok (.dat (.sl (dI z n cs)) none) sl bx lv)else .no
  |some (.ptr b off)=>if 4<=b then(match Jb b bx with
   |some y=>if n*z<=(xR off y.cells).length then(.ok (.dat (.sl (dI z n (xR off y.cells))) none) (Fa b y.cells sl) (mI b bx) lv)else .no
   |none=>.no)else .no
  |_=>.no
def adD(x:aR) (E:eP) (id:Nat) (sl:Sl) (bx:eG) (lv:Lv) (nx:Nat):Rs:=
 match dJ sl x with
  |some a=>match Kt neg a with
   |some b=>dat (some (.bool b)) sl bx lv
   |none=>.no
  |none=>.no
def Oz(id:Nat) (sl:Sl) (bx:eG) (lv:Lv) (nx:Nat):Rs:=
 match dJ sl g,tL true sl args with
  |some (.fn (.func f) [] []),some (as,ids)=>if oP ids then(match nq bx ids with
   |some css=>Kg id ids sl bx lv (E.call f css as)
   |none=>.no)else .no
  |_,_=>.no
def adE(E:eP) (id:Nat) (sl:Sl) (bx:eG) (lv:Lv) (nx:Nat):Rs:=
 match dJ sl x,dJ sl i with
  |some (.str b),some (.int _ i)=>dat (Ms b i) sl bx lv
  |_,_=>.no
def adF(D:Option Nat) (E:eP) (id:Nat) (sl:Sl) (bx:eG) (lv:Lv) (nx:Nat):Rs:=
 match lV sl x with
  |some (.pt 2 ps)=>match D,ps with
   |none,(b,o)::_=>(.ok (.ptr b o) sl bx lv)
   |some n,ps=>if n<=ps.length then(.ok (.pt 0 (ps.take n)) sl bx lv)else .no
   |_,_=>.no
  |_=>.no
def OA(id:Nat) (o:bU):Sl->eG->Lv->Nat->Rs:=
 bU.rec (motive:=λ_=>eP->Nat->Sl->eG->Lv->Nat->Rs) alv Ys Su adq Sv adr alw alx aly ads adt adu adv adw adx alz alA Yt Yu Yv (λ_=>Qv) Yw Yx ady Yy Sw Sx adz adA adB alB alC alD adC adE adD Oz (λ_ _=>Qv) (λ_ _=>Qv) (λ_ _ _ _=>Qv) (λ_ _ _ _ _=>Qv) adF (λ_ _=>Qv) o E id
end
variable{E:eP} {C:aT}
section
variable {bx:eG} {id:Nat} {lv:Lv} {sl:Sl}
theorem Yz{a:AV}:dat (some a) sl bx lv=.ok (.dat a none) sl bx lv:=by unfold dat;exact Qu
theorem uO{a:Option AV} {p:Rs} (h:dat a sl bx lv=p) (D:p≠.no):∃x,a=some x/\p=.ok (.dat x none) sl bx lv:=by
 cases a with
 |none=>subst h;exact absurd rfl D
 |some x=>
  simp only[dat,Qu]at h;subst h;exact⟨x,rfl,rfl⟩
theorem CL{ids:List Nat} {o:Option Out} {R:SV} {M:Sl} {L:eG} {O:Lv} (h:Kg id ids sl bx lv o=.ok R M L O):∃r fr D,o=some (.ret r fr D)/\R=.dat r (fr.map λ_=>id)/\M=sl/\L=dR ids D bx/\O=acg id fr lv:=by
 unfold Kg at h;split at h
 ·cases h;exact⟨_,_,_,rfl,rfl,rfl,rfl,rfl⟩
 ·cases h
theorem LW(hE:E.Ok C) {o:bU} {nx:Nat} {v':SV} {ac:Sl} {ad:eG} {ag:Lv} {K:SV->S->Prop} (h:OA E id o sl bx lv nx=.ok v' ac ad ag) (hk:K v' ⟨ac,ad,ag,nx⟩):bF C id o K ⟨sl,bx,lv,nx⟩:=by
 have q1:∀x,lV sl x=bX ⟨sl,bx,lv,nx⟩ x:=λ_=>CG
 have q2:∀x,dJ sl x=aL ⟨sl,bx,lv,nx⟩ x:=λ_=>kD
 have q3:∀x,sj sl x=ei ⟨sl,bx,lv,nx⟩ x:=λ_=>DJ
 have q4:∀h x,tL h sl x=ej h ⟨sl,bx,lv,nx⟩ x:=λ_ _=>CH
 have q5:∀x,CJ sl x=iN ⟨sl,bx,lv,nx⟩ x:=λ_=>Iw
 have q6:∀z x,Iy sl z x=lq ⟨sl,bx,lv,nx⟩ z x:=λ_ _=>Kc
 have q7:∀x,Sr sl x=A0 ⟨sl,bx,lv,nx⟩ x:=λ_=>Yf
 have q8:∀z x,Oy sl z x=zP ⟨sl,bx,lv,nx⟩ z x:=λ_ _=>Yg
 unfold OA at h
 cases o<;>simp only[Qv,alv,Ys,Su,adq,Sv,adr,alw,alx,aly,ads,adt,adu,adv,adw,adx,alz,alA,Yt,Yu,Yv,Yw,Yx,ady,Yy,Sw,Sx,adz,adA,adB,alB,alC,alD,adC,adE,adD,Oz,adF,q1,q2,q3,q4,q5,q6,q7,q8,uM,CF,Ox,Iv,uN,AL,Kf,Yr,Yz,kG,UD,ace,tK,LU,FJ,acf]at h
 case DX=>cases h
 case tR=>cases h
 case FU=>cases h
 case slV=>cases h
 case FV=>cases h
 case vX=>cases h
 case call f args=>
  split at h<;>try(cases h;done)
  rename_i as L;obtain⟨r,fr,O,M,rfl,rfl,rfl,rfl⟩:=CL h;simp only[bF,L,ay]
  have hg:=(hE.call _ _ _ _ M).2 rfl as rfl
  exact⟨r,fr,hg,hk⟩
 case gy g args=>
  split at h<;>try(cases h;done)
  rename_i f first caps as hg L
  obtain⟨r,fr,O,M,rfl,rfl,rfl,rfl⟩:=CL h;simp only[bF,L,hg,ay]
  have hg:=(hE.call _ _ _ _ M).2 rfl _ rfl
  exact⟨r,fr,hg,hk⟩
 case ew f args=>
  split at h<;>try(cases h;done)
  rename_i as ids L
  split at h<;>try(cases h;done)
  rename_i hn
  split at h<;>try(cases h;done)
  rename_i css Z;obtain⟨r,fr,O,M,rfl,rfl,rfl,rfl⟩:=CL h;simp only[bF,L,ay,Z];exact⟨hn,r,fr,O,(hE.call _ _ _ _ M).1,hk⟩
 case gK g args=>
  split at h<;>try(cases h;done)
  rename_i f as ids hg L
  split at h<;>try(cases h;done)
  rename_i hn
  split at h<;>try(cases h;done)
  rename_i css Z;obtain⟨r,fr,O,M,rfl,rfl,rfl,rfl⟩:=CL h;simp only[bF,L,hg,ay,Z];exact⟨hn,r,fr,O,(hE.call _ _ _ _ M).1,hk⟩
 case pick c a b=>
  split at h<;>try(cases h;done)
  rename_i t M
  split at h<;>try(cases h;done)
  rename_i u v hu R;cases h;simp only[bF,M,hu,R,ay]
  exact⟨λe=>by subst e;exact hk,λe=>by subst e;exact hk⟩
 case ld x sz=>
  split at h<;>try(cases h;done)
  ·rename_i b off D
   split at h<;>try(cases h;done)
   rename_i y hy
   split at h<;>try(cases h;done)
   rename_i a L;cases h;simp only[bF,D,ay,hy,L];exact hk
  ·rename_i cs D
   obtain⟨a,L,e⟩:=uO h adI;cases e
   simp only[bF,D,ay,L];exact hk
 case st x v sz=>
  split at h<;>try(cases h;done)
  rename_i b off D
  split at h<;>try(cases h;done)
  rename_i y hy
  split at h<;>try(cases h;done)
  rename_i a q R
  split at h<;>try(cases h;done)
  rename_i M;simp only[ed]at M;cases h;simp only[bF,D,R,ay,hy];exact⟨M.1.1,pB M.1.2,gc M.2,hk⟩
 case app e z bytes x y=>
  split at h<;>try(cases h;done)
  rename_i a q b D hy
  split at h<;>try(cases h;done)
  rename_i xs ys h1 h2
  split at h<;>try(cases h;done)
  rename_i M;simp only[ed]at M;simp only[bF,D,hy,ay,h1,h2];refine⟨gc M.1.1,CD M.1.2,CD M.2,?_⟩;split at h
  ·split at h
   ·cases h;exact hk
   ·cases h;exact hk
  ·split at h<;>try(cases h;done)
   rename_i e' hl
   split at h<;>try(cases h;done)
   rename_i he;subst he;cases h;exact⟨hl,hk⟩
  ·cases h
 case Pd x i n z=>
  split at h<;>try(cases h;done)
  rename_i pv k i' D V
  split at h<;>try(cases h;done)
  rename_i M;simp only[bF,D,V,ay,idxOf];refine⟨M,?_⟩
  split at h<;>(cases h;try exact hk)
 case Za x i z=>
  split at h<;>try(cases h;done)
  ·rename_i l q k i' D V
   split at h<;>try(cases h;done)
   rename_i xs ae
   split at h<;>try(cases h;done)
   rename_i h0
   split at h<;>try(cases h;done)
   rename_i row ab
   split at h<;>try(cases h;done)
   rename_i hz;cases h;simp only[bF,D,V,ay,idxOf,ae,ab]
   have am:=(eo.1 ab).1
   exact⟨⟨h0,ado⟩,pB hz,hk⟩
  ·rename_i b off n z' k i' D V
   split at h<;>try(cases h;done)
   rename_i h0
   split at h<;>try(cases h;done)
   rename_i hz;cases h;simp only[bF,D,V,ay,idxOf];exact⟨h0,hz,hk⟩
 case FT x i n z sz=>
  split at h<;>try(cases h;done)
  rename_i cs k i' D V
  split at h<;>try(cases h;done)
  rename_i M
  obtain⟨a,L,e⟩:=uO h adI;cases e
  simp only[bF,D,V,ay,idxOf,L];exact⟨M,hk⟩
 case vV fn first caps=>
  split at h<;>try(cases h;done)
  rename_i as cs ids L Z
  split at h<;>try(cases h;done)
  rename_i M
  split at h<;>try(cases h;done)
  rename_i css ak;simp only[bF,L,Z,ay,ak];refine⟨M,?_⟩;generalize hf:iC ids css ⟨sl,bx,lv,nx⟩=s' at h;obtain⟨ac,ad,ag,al⟩:=s';cases h
  have aa:=tT (ids:=ids) (css:=css) (s:=⟨sl,bx,lv,nx⟩)
  rw[hf]at aa
  have aa:al=nx:=aa
  subst aa;exact hk
 case Zk z x lo V=>
  split at h<;>try(cases h;done)
  rename_i a L
  split at h<;>try(cases h;done)
  rename_i xs ae
  split at h<;>try(cases h;done)
  rename_i l hh h1 h2
  split at h<;>try(cases h;done)
  rename_i M
  split at h<;>try(cases h;done)
  rename_i hl;cases h;simp only[bF,L,ae,h1,h2,ay];exact⟨M,CD hl,hk⟩
 case Zl x n z=>
  split at h<;>try(cases h;done)
  ·rename_i cs D
   split at h<;>try(cases h;done)
   rename_i M;cases h;simp only[bF,D,ay];exact⟨M,hk⟩
  ·rename_i b off D
   split at h<;>try(cases h;done)
   rename_i h4
   split at h<;>try(cases h;done)
   rename_i y hy
   split at h<;>try(cases h;done)
   rename_i M;cases h;simp only[bF,D,ay,hy];exact⟨h4,M,hk⟩
 case nc x=>
  split at h<;>(try(cases h;done))<;>(rename_i D;cases h;simp only[bF,D,ay];exact hk)
 case fa x off=>
  split at h<;>(try(cases h;done))<;>(rename_i D;cases h;simp only[bF,D,ay];exact hk)
 case Zb x sz=>
  split at h<;>try(cases h;done)
  rename_i ps D;simp only[bF,D,ay]
  split at h<;>try(cases h;done)
  ·cases h;exact hk
  ·split at h<;>try(cases h;done)
   rename_i M;cases h;exact⟨M,hk⟩
 case Mq x=>
  split at h<;>try(cases h;done)
  ·rename_i a q D
   obtain⟨v,L,e⟩:=uO h adI;cases e
   simp only[bF,D,ay,L];exact hk
  ·rename_i D;cases h;simp only[bF,D,ay];exact hk
 case eqc ks neg x y=>
  split at h<;>try(cases h;done)
  rename_i as bs D hy
  split at h<;>try(cases h;done)
  rename_i e he;cases h;simp only[bF,D,hy,ay,he];exact hk
 case isn neg x=>
  split at h<;>try(cases h;done)
  rename_i a L
  split at h<;>try(cases h;done)
  rename_i b hb;cases h;simp only[bF,L,hb,ay];exact hk
 case box x=>
  split at h<;>try(cases h;done)
  rename_i a L
  split at h<;>try(cases h;done)
  rename_i hs;simp only[bF,L,ay];refine⟨hs,?_⟩
  cases a<;>(cases h;exact hk)
 case alloc cs=>cases h;exact hk
 case Mr n=>cases h;exact hk
 case mv x=>split at h<;>(try(cases h;done));rename_i v R;cases h;simp only[bF,R,ay];exact hk
 case build zs parts=>split at h<;>(try(cases h;done));rename_i v R;cases h;simp only[bF,R,ay];exact hk
 case U6 e z xs=>split at h<;>(try(cases h;done));rename_i v R;cases h;simp only[bF,R,ay];exact hk
 case mm mx args=>
  split at h<;>(try(cases h;done))
  rename_i a r R
  obtain⟨v,L,e⟩:=uO h adI;cases e
  simp only[bF,R,ay,L];exact hk
 case Jg x off sz=>
  split at h<;>(try(cases h;done))
  rename_i a R
  obtain⟨v,L,e⟩:=uO h adI;cases e
  simp only[bF,R,ay,L];exact hk
 case ixB x i=>
  split at h<;>(try(cases h;done))
  rename_i b k i' D V
  obtain⟨v,L,e⟩:=uO h adI;cases e
  simp only[bF,D,V,ay,idxOf,L];exact hk
 case bin op x y=>
  split at h<;>(try(cases h;done))
  rename_i a b D V
  obtain⟨v,L,e⟩:=uO h adI;cases e
  simp only[bF,D,V,ay,L];exact hk
 case bb op x y=>
  split at h<;>(try(cases h;done))
  rename_i a b D V
  obtain⟨v,L,e⟩:=uO h adI;cases e
  simp only[bF,D,V,ay,L];exact hk
 all_goals
  split at h<;>(try(cases h;done))
  rename_i a R
  obtain⟨v,L,e⟩:=uO h adI;cases e
  simp only[bF,R,ay,L];exact hk
end
end
section
variable (f id:Nat) (neg:Bool) (e:Nat) (g:aR) (sl:Sl) (t:Nat) (args:List aR) (bx:eG) (x:aR)
end
noncomputable section
section
variable (f id:Nat) (neg:Bool) (e:Nat) (g:aR) (sl:Sl) (t:Nat) (args:List aR) (bx:eG) (x:aR)
inductive XR where
 |ok (v:SV) (sl:Sl) (bx:eG) (lv:Lv)
 |up (p:AV) (sl:Sl) (bx:eG) (lv:Lv)
def oks:Rs->Option XR
 | .ok v sl bx lv=>some (.ok v sl bx lv)
 | .no=>none
def UE(a:Option AV) (sl:Sl) (bx:eG) (lv:Lv):Option XR:=match a with
 |some a=>frc a λa=>some (.ok (.dat a none) sl bx lv)
 |none=>none
def ach(ids:List Nat) (sl:Sl) (bx:eG) (lv:Lv):Option Out->Option XR
 |some (.ret r fr D)=>some (.ok (.dat r (fr.map λ_=>id)) sl (dR ids D bx) (acg id fr lv))
 |some (.up p D)=>some (.up p sl (dR ids D bx) lv)
 |_=>none
def adG(lv:Lv):Option Out->Option XR
 |some (.ret r fr [])=>some (.ok (.dat r (fr.map λ_=>id)) sl bx (acg id fr lv))
 |some (.up p [])=>some (.up p sl bx lv)
 |some (.new cs)=>some (.ok (.ptr id 0) sl ((id,⟨cs,[]⟩)::bx) lv)
 |_=>none
def YA(E:eP) (id:Nat) (sl:Sl) (bx:eG) (lv:Lv) (nx:Nat):Option XR:=none
def adH(c:bU) (E:eP) (id:Nat) (sl:Sl) (bx:eG) (lv:Lv) (nx:Nat):Option XR:=
 oks (OA E id c sl bx lv nx)
def OB(E:eP) (id:Nat) (sl:Sl) (bx:eG) (lv:Lv) (nx:Nat):Option XR:=
 match sj sl args with
  |some as=>adG id sl bx lv (E.call f [] (as.map some))
  |none=>none
def Kh(E:eP) (id:Nat) (sl:Sl) (bx:eG) (lv:Lv) (nx:Nat):Option XR:=
 match tL true sl args with
  |some (as,ids)=>if oP ids then(match nq bx ids with
   |some css=>ach id ids sl bx lv (E.call f css as)
   |none=>none)else none
  |none=>none
def Ki(b:Bool) (g:aR) (args:List aR) (E:eP) (id:Nat) (sl:Sl) (bx:eG) (lv:Lv) (nx:Nat):Option XR:=
 match lV sl g with
  |some (.nX f as D)=>match tL true sl args with
   |some (ps,ids)=>if oP (ids++D)then(match nq bx (ids++D)with
    |some css=>ach id (ids++D) sl bx lv (E.call f css (ps++as))
    |none=>none)else none
   |none=>none
  |some _=>oks (OA E id (if b then .gK g args else .gy g args) sl bx lv nx)
  |none=>none
def Sy(caps:List aR) (E:eP) (id:Nat) (sl:Sl) (bx:eG) (lv:Lv) (nx:Nat):Option XR:=
 match tL false sl caps with
  |some (as,D)=>some (.ok (.nX f as D) sl bx lv)
  |none=>none
def Sz(E:eP) (id:Nat) (sl:Sl) (bx:eG) (lv:Lv) (nx:Nat):Option XR:=
 match dJ sl x with
  |some a=>if jh a then some (.up a sl bx lv)else none
  |none=>none
def SA(E:eP) (id:Nat) (sl:Sl) (bx:eG) (lv:Lv) (nx:Nat):Option XR:=
 match dJ sl x with
  |some a=>if iI a none then some (.ok (.dat (.iface t a) none) sl bx lv)else none
  |none=>none
def SB(z:AV) (x:aR) (E:eP) (id:Nat) (sl:Sl) (bx:eG) (lv:Lv) (nx:Nat):Option XR:=
 match dJ sl x with
  |some a=>UE (Mt t z a) sl bx lv
  |none=>none
def SC(E:eP) (id:Nat) (sl:Sl) (bx:eG) (lv:Lv) (nx:Nat):Option XR:=
 match dJ sl x with
  |some a=>match Pe neg a with
   |some b=>UE (some (.bool b)) sl bx lv
   |none=>none
  |none=>none
def SD(E:eP) (id:Nat) (sl:Sl) (bx:eG) (lv:Lv) (nx:Nat):Option XR:=
 match lV sl x with
  |some a=>match F0 neg a with
   |some b=>UE (some (.bool b)) sl bx lv
   |none=>none
  |none=>none
def SE(bytes:Nat) (l c:aR) (E:eP) (id:Nat) (sl:Sl) (bx:eG) (lv:Lv) (nx:Nat):Option XR:=
 match dJ sl l,dJ sl c with
  |some (.int _ l),some (.int _ c)=>if 0<=l/\l<=c/\c*bytes<=140737488355328 then some (.ok (.raw id l.toNat) sl bx ((id,e)::lv))else none
  |_,_=>none
def SF(y:aR) (E:eP) (id:Nat) (sl:Sl) (bx:eG) (lv:Lv) (nx:Nat):Option XR:=
 match lV sl x,dJ sl y with
  |some (.raw q n),some b=>match rowsOf b with
   |some D=>if Nat.beq (nW D) n&&Ou 1 D then(match Qs q lv with
    |some L=>if L=e then some (.ok (.dat (.int .i64 n) none) (F2 q n (.sl D) id sl) bx ((id,e)::Ow q lv))else none
    |none=>none)else none
   |none=>none
  |_,_=>none
def OC(E:eP) (id:Nat) (sl:Sl) (bx:eG) (lv:Lv) (nx:Nat):Option XR:=
 match lV sl x with
  |some (.ptr b o)=>some (.ok (.pt 0 [(b,o)]) sl bx lv)
  |_=>none
def OD(E:eP) (id:Nat) (sl:Sl) (bx:eG) (lv:Lv) (nx:Nat):Option XR:=
 match lV sl x with
  |some (.pt 0 ps)=>some (.ok (.pt 2 ps) sl bx lv)
  |_=>none
def SG(v:aR) (E:eP) (id:Nat) (sl:Sl) (bx:eG) (lv:Lv) (nx:Nat):Option XR:=
 match lV sl x,lV sl v with
  |some (.ptr b 0),some (.pt 0 ps)=>match Jb b bx with
   |some y=>if 4<=b/\y.cells.length=1/\ps.length=1 then some (.ok .undef (F3 b ps sl) (mI b bx) lv)else none
   |none=>none
  |_,_=>none
def OE(xs:List aR) (E:eP) (id:Nat) (sl:Sl) (bx:eG) (lv:Lv) (nx:Nat):Option XR:=
 match Iz sl xs with
  |some ps=>some (.ok (.pt 1 ps) sl bx lv)
  |none=>none
def SH(i:aR) (E:eP) (id:Nat) (sl:Sl) (bx:eG) (lv:Lv) (nx:Nat):Option XR:=
 match lV sl x,dJ sl i with
  |some (.pt 1 ps),some (.int _ i)=>if 0<=i/\i<ps.length then some (.ok (.pt 2 (xR i.toNat ps)) sl bx lv)else none
  |_,_=>none
def SJ(E:eP) (id:Nat) (sl:Sl) (bx:eG) (lv:Lv) (nx:Nat):Option XR:=
 match lV sl x with
  |some (.pt 1 ps)=>some (.ok (.dat (.int .i64 ps.length) none) sl bx lv)
  |_=>none
def Kj(E:eP) (id:Nat) (sl:Sl) (bx:eG) (lv:Lv) (nx:Nat):Option XR:=
 match dJ sl g,tL true sl args with
  |some (.fn (.func f) [] []),some (as,ids)=>if oP ids then(match nq bx ids with
   |some css=>(match E.call f css as with
    |some (.Qr j o)=>(match ids[j]? with
     |some b=>some (.ok (.ptr b o) sl (dR ids css bx) lv)
     |none=>none)
    |_=>none)
   |none=>none)else none
  |_,_=>none
def SK(E:eP) (id:Nat) (o:IY):Sl->eG->Lv->Nat->Option XR:=
 IY.casesOn (motive:=λ_=>eP->Nat->Sl->eG->Lv->Nat->Option XR) o adH OB Kh Ki Sy Sz SA SB SC SD SE SF OC OD SG OE SH SJ Kj (λ_ _ _ _=>YA) E id
end
variable{E:eP} {C:aT}
section
variable (d:Option Nat) (v:SV) {bx:eG} {lv:Lv} {p:XR} (sl:Sl)
theorem Kk{a:AV} {sl:Sl}:UE (some a) sl bx lv=some (.ok (.dat a none) sl bx lv):=by unfold UE;exact Qu
theorem aci{a:Option AV} {sl:Sl} (h:UE a sl bx lv=some p):∃x,a=some x/\p=.ok (.dat x none) sl bx lv:=by
 cases a with
 |none=>cases h
 |some x=>
  rw[Kk]at h;cases h;exact⟨x,rfl,rfl⟩
theorem YB{a:Rs} (h:oks a=some p):∃v sl bx lv,a=.ok v sl bx lv/\p=.ok v sl bx lv:=by
 cases a with
 |no=>cases h
 |ok v sl bx lv=>cases h;exact⟨v,sl,bx,lv,rfl,rfl⟩
def anD(K:SV->S->Prop) (X:AV->S->Prop) (nx:Nat):XR->Prop
 | .ok v sl bx lv=>K v ⟨sl,bx,lv,nx⟩
 | .up p sl bx lv=>X p ⟨sl,bx,lv,nx⟩
theorem OG(hE:E.Ok C) {id:Nat} {o:IY} {sl:Sl} {nx:Nat} {K:SV->S->Prop} {X:AV->S->Prop} (h:SK E id o sl bx lv nx=some p) (hk:anD K X nx p):dF C id o K X ⟨sl,bx,lv,nx⟩:=by
 have q1:∀x,lV sl x=bX ⟨sl,bx,lv,nx⟩ x:=λ_=>CG
 have q2:∀x,dJ sl x=aL ⟨sl,bx,lv,nx⟩ x:=λ_=>kD
 have q3:∀x,sj sl x=ei ⟨sl,bx,lv,nx⟩ x:=λ_=>DJ
 have q4:∀h x,tL h sl x=ej h ⟨sl,bx,lv,nx⟩ x:=λ_ _=>CH
 have q5:∀x,Iz sl x=DZ ⟨sl,bx,lv,nx⟩ x:=λ_=>Ke
 unfold SK at h
 cases o<;>simp only[YA,adH,OB,Kh,Ki,Sy,Sz,SA,SB,SC,SD,SE,SF,OC,OD,SG,OE,SH,SJ,Kj,q1,q2,q3,q4,q5,uM,CF,Iv,uN,AL,Kk,kG,tK]at h
 case o c=>
  obtain⟨v,aa,ac,ag,h1,rfl⟩:=YB h;exact LW hE h1 hk
 case call f args=>
  split at h<;>try(cases h;done)
  rename_i as M;unfold adG at h
  split at h<;>try(cases h;done)
  ·rename_i r fr D
   cases h;refine .inl ?_;simp only[bF,M,ay];exact⟨r,fr,(hE.call _ _ _ _ D).2 rfl _ rfl,hk⟩
  ·rename_i q D
   cases h;refine .inr ?_;simp only[M,ay];exact .inr (.inl ⟨q,(hE.call _ _ _ _ D),hk⟩)
  ·rename_i cs D
   cases h;refine .inr ?_;simp only[M,ay];exact .inl ⟨cs,(hE.call _ _ _ _ D).2 _ rfl,hk⟩
 case ew f args=>
  split at h<;>try(cases h;done)
  rename_i as ids M
  split at h<;>try(cases h;done)
  rename_i V
  split at h<;>try(cases h;done)
  rename_i css R;unfold ach at h
  split at h<;>try(cases h;done)
  ·rename_i r fr L D
   cases h;refine .inl ?_;simp only[bF,M,ay,R];exact⟨V,r,fr,L,(hE.call _ _ _ _ D).1,hk⟩
  ·rename_i q L D
   cases h;refine .inr ?_;simp only[M,ay,R];exact⟨V,.inl ⟨q,L,hE.call _ _ _ _ D,hk⟩⟩
 case gy b g args=>
  split at h<;>try(cases h;done)
  ·rename_i f as bs hg
   split at h<;>try(cases h;done)
   rename_i ps ids M
   split at h<;>try(cases h;done)
   rename_i V
   split at h<;>try(cases h;done)
   rename_i css R;unfold ach at h;simp only[dF,hg,M,ay,R];refine⟨V,?_⟩
   split at h<;>try(cases h;done)
   ·rename_i r fr L D
    cases h;exact .inl ⟨r,fr,L,(hE.call _ _ _ _ D).1,hk⟩
   ·rename_i q L D
    cases h;exact .inr (.inl ⟨q,L,hE.call _ _ _ _ D,hk⟩)
  ·rename_i v ae hg
   obtain⟨v',aa,ac,ag,h1,rfl⟩:=YB h
   have:=LW hE h1 (K:=K) (nx:=nx) hk
   simp only[dF,hg];cases v
   case nX f as bs=>exact(ae f as bs rfl).elim
   all_goals exact this
 case S0 x=>
  split at h<;>try(cases h;done)
  rename_i a M
  split at h<;>try(cases h;done)
  rename_i hr;cases h;simp only[dF,M,ay];exact⟨hr,hk⟩
 case mkI t x=>
  split at h<;>try(cases h;done)
  rename_i a M
  split at h<;>try(cases h;done)
  rename_i hr;cases h;simp only[dF,M,ay];exact⟨hr,hk⟩
 case tas t z x=>
  split at h<;>try(cases h;done)
  rename_i a M;obtain⟨v,O,rfl⟩:=aci h;simp only[dF,M,ay,O];exact hk
 case isI neg x=>
  split at h<;>try(cases h;done)
  rename_i a M
  split at h<;>try(cases h;done)
  rename_i b hb;cases h;simp only[dF,M,ay,hb];exact hk
 case isP neg x=>
  split at h<;>try(cases h;done)
  rename_i a M
  split at h<;>try(cases h;done)
  rename_i b hb;cases h;simp only[dF,M,ay,hb];exact hk
 case mks e bytes l c=>
  split at h<;>try(cases h;done)
  rename_i k1 l' k2 c' hl D
  split at h<;>try(cases h;done)
  rename_i ab;cases h;simp only[dF,hl,D,ay,idxOf];exact⟨ab,hk⟩
 case cpy e x y=>
  split at h<;>try(cases h;done)
  rename_i q n b Z hy
  split at h<;>try(cases h;done)
  rename_i ys ad
  split at h<;>try(cases h;done)
  rename_i D;simp only[ed]at D
  split at h<;>try(cases h;done)
  rename_i e' hl
  split at h<;>try(cases h;done)
  rename_i he;subst he;cases h;simp only[dF,Z,hy,ay,ad];exact⟨⟨pB D.1,CD D.2⟩,hl,hk⟩
 case stp x v=>
  split at h<;>try(cases h;done)
  rename_i b ps Z O
  split at h<;>try(cases h;done)
  rename_i y hy
  split at h<;>try(cases h;done)
  rename_i D;cases h;simp only[dF,Z,O,ay,hy];exact⟨D,hk⟩
 case iap x i=>
  split at h<;>try(cases h;done)
  rename_i ps k i' Z hi
  split at h<;>try(cases h;done)
  rename_i D;cases h;simp only[dF,Z,hi,ay,idxOf];exact⟨D,hk⟩
 case QH g args=>
  split at h<;>try(cases h;done)
  rename_i f as ids hg M
  split at h<;>try(cases h;done)
  rename_i V
  split at h<;>try(cases h;done)
  rename_i css R
  split at h<;>try(cases h;done)
  rename_i j o D
  split at h<;>try(cases h;done)
  rename_i b hb;cases h;simp only[dF,hg,M,ay,R];exact⟨V,j,o,b,hE.call _ _ _ _ D,hb,hk⟩
 case apn=>cases h
 case mkc f caps=>split at h<;>(try(cases h;done));rename_i as bs O;cases h;simp only[dF,O,ay];exact hk
 case Zm x=>split at h<;>(try(cases h;done));rename_i O;cases h;simp only[dF,O,ay];exact hk
 case Zn x=>split at h<;>(try(cases h;done));rename_i O;cases h;simp only[dF,O,ay];exact hk
 case Zo x=>split at h<;>(try(cases h;done));rename_i O;cases h;simp only[dF,O,ay];exact hk
 case lnp x=>split at h<;>(try(cases h;done));rename_i O;cases h;simp only[dF,O,ay];exact hk
def Jd:Sl:=match d with
 |none=>sl
 |some d=>(d,v)::sl
theorem CM(bx:eG) (lv:Lv) (nx:Nat):S.put ⟨sl,bx,lv,nx⟩ d v=⟨Jd d v sl,bx,lv,nx⟩:=by cases d<;>rfl
def evG:Option (Nat×Bool)->Option Bool
 |none=>some true
 |some (t,want)=>match lkF t sl with
  |some (.dat (.bool b) _)=>some (cond b want (not want))
  |some .undef=>some false
  |_=>none
theorem IB{sl:Sl} {nx:Nat} {g:Option (Nat×Bool)} {b:Bool} {yes no:Prop} (h:evG sl g=some b) (L:b=true->yes) (M:b=false->no):gq ⟨sl,bx,lv,nx⟩ g yes no:=by
 unfold evG at h;split at h
 ·cases h;exact L rfl
 ·rename_i t want
  rw[AK]at h
  split at h<;>try(cases h;done)
  ·rename_i O q D
   cases h;simp only[gq,D]
   refine⟨λe=>L (by subst e;cases O<;>rfl),λe=>M (by subst e;cases want<;>rfl)⟩
  ·rename_i D
   cases h;simp only[gq,D];exact M rfl
abbrev Je:=Option (Sl×eG×Lv)
abbrev Fo:=eP->Nat->Nat->Nat->Sl->eG->Lv->Je
def ahk(o:CO) (O:Fo) (E:eP) (base nx i:Nat) (sl:Sl) (bx:eG) (lv:Lv):Je:=
 CO.rec (motive:=λ_=>Je) (λdst op g=>Option.rec (motive:=λ_=>Je) none
  (λb=>Bool.rec (motive:=λ_=>Je) (O E base nx (Nat.succ i) (Jd dst .undef sl) bx lv)
   (Rs.rec (motive:=λ_=>Je) none (λv L D M=>O E base nx (Nat.succ i) (Jd dst v L) D M) (OA E (Nat.add base i) op sl bx lv nx)) b) (evG sl g)) o
def ahl(E:eP) (base nx i:Nat) (sl:Sl) (bx:eG) (lv:Lv):Je:=some (sl,bx,lv)
def zK(E:eP) (base nx i:Nat) (l:List CO):Sl->eG->Lv->Je:=
 List.rec (motive:=λ_=>Fo) ahl (λo _ D=>ahk o D) l E base nx i
end
section
variable {R:Type} {m t:Nat} (nx:Nat) (o:XO)
theorem Qw(E:eP) (base nx i:Nat) (o:CO) (r:List CO) (sl:Sl) (bx:eG) (lv:Lv):zK E base nx i (o::r) sl bx lv=match evG sl o.g with
 |some true=>match OA E (base+i) o.op sl bx lv nx with
  | .ok v L D M=>zK E base nx (i+1) r (Jd o.dst v L) D M
  | .no=>none
 |some false=>zK E base nx (i+1) r (Jd o.dst .undef sl) bx lv
 |none=>none:=by
 obtain⟨dst,op,g⟩:=o
 show Option.rec (motive:=λ_=>Je) none _ (evG sl g)=_
 cases evG sl g with
 |none=>rfl
 |some b=>cases b with
  |false=>rfl
  |true=>
   show Rs.rec (motive:=λ_=>Je) none _ (OA E (base+i) op sl bx lv nx)=_
   cases OA E (base+i) op sl bx lv nx<;>rfl
theorem xS(hE:E.Ok C) {base nx:Nat} {K:S->Prop}:∀{l:List CO} {i:Nat} {sl:Sl} {bx:eG} {lv:Lv} {p:Sl×eG×Lv},zK E base nx i l sl bx lv=some p->K ⟨p.1,p.2.1,p.2.2,nx⟩->jM C base i l K ⟨sl,bx,lv,nx⟩
 |[],i,sl,bx,lv,p,h,hk=>by cases h;exact hk
 |o::r,i,sl,bx,lv,p,h,hk=>by
  rw[Qw]at h;simp only[jM]
  split at h<;>try(cases h;done)
  ·rename_i D
   split at h<;>try(cases h;done)
   rename_i v O M R L
   refine IB D (λ_=>LW hE L ?_) (λe=>by cases e)
   rw[CM];exact xS hE h hk
  ·rename_i D
   refine IB D (λe=>by cases e) (λ_=>?_)
   rw[CM];exact xS hE h hk
inductive Ex where
 |norm|ret|exit (id:Nat)|goto (l:Nat)|S0 (p:AV)
def Ex.to:Ex->Exit
 | .norm=>.normal
 | .ret=>.ret
 | .exit id=>.exit id
 | .goto l=>.goto l
 | .S0 p=>.panic (iB p)
abbrev Rc:=Ex×S
abbrev Rx:=Option (Ex×Sl×eG×Lv)
def acj(O:eP->Nat->Nat->Nat->Sl->eG->Lv->Rx) (E:eP) (base nx i:Nat) (sl:Sl) (bx:eG) (lv:Lv):Rx:=
 match evG sl o.g with
 |some true=>match SK E (base+i) o.op sl bx lv nx with
  |some (.ok v L D M)=>O E base nx (i+1) (Jd o.dst v L) D M
  |some (.up p L D M)=>some (.S0 p,L,D,M)
  |none=>none
 |some false=>O E base nx (i+1) (Jd o.dst .undef sl) bx lv
 |none=>none
def ack(E:eP) (base nx i:Nat) (sl:Sl) (bx:eG) (lv:Lv):Rx:=some (.norm,sl,bx,lv)
def xT(E:eP) (base nx i:Nat) (l:List XO):Sl->eG->Lv->Rx:=
 List.rec (motive:=λ_=>eP->Nat->Nat->Nat->Sl->eG->Lv->Rx) ack (λo _ D=>acj o D) l E base nx i
theorem E5(E:eP) (base nx i:Nat) (o:XO) (r:List XO) (sl:Sl) (bx:eG) (lv:Lv):xT E base nx i (o::r) sl bx lv=match evG sl o.g with
 |some true=>match SK E (base+i) o.op sl bx lv nx with
  |some (.ok v L D M)=>xT E base nx (i+1) r (Jd o.dst v L) D M
  |some (.up p L D M)=>some (.S0 p,L,D,M)
  |none=>none
 |some false=>xT E base nx (i+1) r (Jd o.dst .undef sl) bx lv
 |none=>none:=rfl
def exK(K:S->Prop) (X:AV->S->Prop) (nx:Nat):Ex×Sl×eG×Lv->Prop
 |(.norm,sl,bx,lv)=>K ⟨sl,bx,lv,nx⟩
 |(.S0 p,sl,bx,lv)=>X p ⟨sl,bx,lv,nx⟩
 |_=>False
theorem yQ(hE:E.Ok C) {base nx:Nat} {K:S->Prop} {X:AV->S->Prop}:∀{l:List XO} {i:Nat} {sl:Sl} {bx:eG} {lv:Lv} {p:Ex×Sl×eG×Lv},xT E base nx i l sl bx lv=some p->exK K X nx p->ji C base i l K X ⟨sl,bx,lv,nx⟩
 |[],i,sl,bx,lv,p,h,hk=>by cases h;exact hk
 |o::r,i,sl,bx,lv,p,h,hk=>by
  rw[E5]at h;simp only[ji]
  split at h<;>try(cases h;done)
  ·rename_i D
   split at h<;>try(cases h;done)
   ·rename_i v O M R L
    refine IB D (λ_=>OG hE L ?_) (λe=>by cases e)
    show ji _ _ _ _ _ _ _
    rw[CM];exact yQ hE h hk
   ·rename_i q O M R L
    cases h
    exact IB D (λ_=>OG hE L hk) (λe=>by cases e)
  ·rename_i D
   refine IB D (λe=>by cases e) (λ_=>?_)
   rw[CM];exact yQ hE h hk
theorem DK{base nx:Nat}:∀{l:List XO} {i:Nat} {sl:Sl} {bx:eG} {lv:Lv} {p:Ex×Sl×eG×Lv},xT E base nx i l sl bx lv=some p->p.1=.norm\/∃q,p.1=.S0 q
 |[],i,sl,bx,lv,p,h=>by cases h;exact .inl rfl
 |o::r,i,sl,bx,lv,p,h=>by
  rw[E5]at h
  split at h<;>try(cases h;done)
  ·split at h<;>try(cases h;done)
   ·exact DK h
   ·cases h;exact .inr ⟨_,rfl⟩
  ·exact DK h
def LY(n:Nat) (k:Nat->R):R:=Nat.rec (motive:=λ_=>R) (k 0) (λp _=>k (Nat.succ p)) n
theorem FK{n:Nat} {k:Nat->R}:LY n k=k n:=by cases n<;>rfl
def bit(t:Nat):Nat:=Nat.shiftLeft 1 t
def tM(m t:Nat):Nat:=Nat.lor m (bit t)
def tbF(m t:Nat):Bool:=Nat.beq (Nat.land 1 (Nat.shiftRight m t)) 1
theorem DL:tbF m t=m.testBit t:=by
 unfold tbF Nat.testBit
 show Nat.beq (1&&&m>>>t) 1=((1&&&m>>>t) !=0)
 have:(1&&&m>>>t)=0\/(1&&&m>>>t)=1:=by
  rw[Nat.and_comm,Nat.and_one_is_mod];omega
 rcases this with h|h<;>rw[h]<;>rfl
def okV:SV->Bool
 | .dat _ none=>true
 | .dat _ (some q)=>Nat.blt q nx
 | .ptr b _=>Nat.blt b nx
 | .rp _=>true
 | .vs b _ _ _=>Nat.blt b nx
 | .undef=>true
 | .nX _ _ D=>D.all λb=>Nat.blt b nx
 | .pt _ ps=>ps.all λp=>Nat.blt p.1 nx
 | .raw _ _=>false
def dd(nx:Nat):Nat->Sl->Sl
 |_,[]=>[]
 |m,(t,v)::r=>bif tbF m t then dd nx m r else bif okV nx v then(t,v)::dd nx (tM m t) r else dd nx (tM m t) r
theorem ahm{nx:Nat} {v:SV} (h:okV nx v=true):A4 [] nx v v:=by
 cases v with
 |dat a q=>cases q with
  |none=>rfl
  |some q=>exact⟨rfl,rfl,by simpa[okV,Kd]using h⟩
 |ptr b o=>exact⟨rfl,rfl,by simpa[okV,Kd]using h⟩
 |rp cs=>rfl
 |vs b o n z=>exact⟨⟨rfl,rfl⟩,⟨rfl,rfl⟩,by simpa[okV,Kd]using h⟩
 |undef=>trivial
 |nX f as D=>exact⟨rfl,rfl,rfl,by simpa[okV,Kd]using h⟩
 |pt k ps=>exact⟨rfl,rfl,by simpa[okV,Kd]using h⟩
 |raw q n=>cases h
theorem OH{u:Nat}:(tM m t).testBit u=(m.testBit u||decide (t=u)):=by
 show(m|||1<<<t).testBit u=_
 rw[Nat.testBit_or,Nat.one_shiftLeft,Nat.testBit_two_pow]
theorem LZ{t:Nat}:∀{a b:Sl},lk t a=none->lk t (a++b)=lk t b
 |[],b,_=>rfl
 |(u,v)::a,b,h=>by
  simp only[lk,ts]at h⊢;cases D:t==u
  ·simp only[D,et]at h⊢;exact LZ h
  ·simp only[D,gs]at h;cases h
theorem SL{nx:Nat}:∀{r:Sl} {m:Nat} {pre:Sl},(∀t,m.testBit t=false->lk t pre=none)->iy [] nx (pre++r) (dd nx m r)
 |[],m,pre,_=>trivial
 |(t,v)::r,m,pre,h=>by
  have M:∀L,(tM m t).testBit L=false->lk L (pre++[(t,v)])=none:=by
   intro L D;rw[OH,Hn]at D;rw[LZ (h L D.1)]
   have:(L==t)=false:=by
    have:=D.2
    simp only[pC]at this
    simpa using λe=>this e.symm
   simp[lk,this]
  have O:pre++(t,v)::r=(pre++[(t,v)])++r:=adI
  simp only[dd,DL];cases hm:m.testBit t
  ·simp only[et]
   cases R:okV nx v
   ·simp only[et]
    rw[O];exact SL M
   ·simp only[gs]
    refine⟨?_,by rw[O];exact SL M⟩
    rw[LZ (h t hm)];simp only[lk,ne,gs,ay];exact ahm R
  ·simp only[gs]
   have:∀L,m.testBit L=false->lk L (pre++[(t,v)])=none:=by
    intro L D;rw[LZ (h L D)]
    have:(L==t)=false:=by
     simp only[wc,ne_eq];intro e;subst e;rw[hm]at D;cases D
    simp[lk,this]
   rw[O];exact SL this
def anE:SV->Nat->Nat
 | .dat _ (some q),m=>tM m q
 | .ptr b _,m=>tM m b
 | .vs b _ _ _,m=>tM m b
 | .nX _ _ D,m=>D.foldl (λm b=>tM m b) m
 | .pt _ ps,m=>ps.foldl (λm p=>tM m p.1) m
 |_,m=>m
def refs(sl:Sl):Nat:=sl.foldl (λm p=>anE p.2 m) 15
def ddT(nx:Nat):Nat->List (Nat×Nat)->List (Nat×Nat)
 |_,[]=>[]
 |m,(o,q)::r=>bif tbF m o then ddT nx m r else bif Nat.blt q nx then(o,q)::ddT nx (tM m o) r else ddT nx (tM m o) r
def CX:List (Nat×Nat)->List (Nat×Nat)
 |[]=>[]
 |l=>ddT nx 0 l
def ddB(nx w:Nat):Nat->eG->eG
 |_,[]=>[]
 |m,(b,x)::r=>bif tbF m b then ddB nx w m r else bif tbF w b&&Nat.blt b nx then(b,⟨x.cells,CX nx x.tags⟩)::ddB nx w (tM m b) r else ddB nx w (tM m b) r
def YC(nx w:Nat):Nat->Lv->Lv
 |_,[]=>[]
 |m,(q,e)::r=>bif tbF m q then YC nx w m r else bif tbF w q&&Nat.blt q nx then(q,e)::YC nx w (tM m q) r else YC nx w (tM m q) r
theorem FL{t:Nat}:∀{a b:eG},cj t a=none->cj t (a++b)=cj t b
 |[],b,_=>rfl
 |(u,v)::a,b,h=>by
  simp only[cj,ts]at h⊢;cases D:t==u
  ·simp only[D,et]at h⊢;exact FL h
  ·simp only[D,gs]at h;cases h
theorem uP{t:Nat}:∀{a b:Lv},d9 t a=none->d9 t (a++b)=d9 t b
 |[],b,_=>rfl
 |(u,v)::a,b,h=>by
  simp only[d9,ts]at h⊢;cases D:t==u
  ·simp only[D,et]at h⊢;exact uP h
  ·simp only[D,gs]at h;cases h
theorem uQ{D:Nat} (h:(tM m t).testBit D=false):m.testBit D=false/\(D==t)=false:=by
 rw[OH,Hn]at h;refine⟨h.1,?_⟩
 have:=h.2
 simp only[pC]at this
 simpa using λe=>this e.symm
theorem L0{D:Nat} (hm:m.testBit t=true) (h:m.testBit D=false):(D==t)=false:=by
 simp only[wc,ne_eq];intro e;subst e;rw[hm]at h;cases h
theorem L1{nx:Nat}:∀{r:Lv} {m:Nat} {pre:Lv},(∀t,m.testBit t=false->d9 t pre=none)->lu [] nx (pre++r) (ddT nx m r)
 |[],m,pre,_=>trivial
 |(t,v)::r,m,pre,h=>by
  have M:∀L,(tM m t).testBit L=false->d9 L (pre++[(t,v)])=none:=by
   intro L D;rw[uP (h L (uQ D).1)];simp[d9,(uQ D).2]
  have O:pre++(t,v)::r=(pre++[(t,v)])++r:=adI
  simp only[ddT,DL];cases hm:m.testBit t
  ·simp only[et]
   cases R:Nat.blt v nx
   ·simp only[et]
    rw[O];exact L1 M
   ·simp only[gs]
    refine⟨?_,by rw[O];exact L1 M⟩
    rw[uP (h t hm)];simp only[d9,ne,gs]
    exact⟨rfl,by simpa[Kd]using R⟩
  ·simp only[gs]
   have:∀L,m.testBit L=false->d9 L (pre++[(t,v)])=none:=by
    intro L D;rw[uP (h L D)];simp[d9,L0 hm D]
   rw[O];exact L1 this
theorem ahn{nx:Nat} {l:List (Nat×Nat)}:lu [] nx l (CX nx l):=by
 cases l with
 |nil=>trivial
 |cons p r=>exact L1 (pre:=[]) λt _=>rfl
theorem L3{nx w:Nat}:∀{r:eG} {m:Nat} {pre:eG},(∀t,m.testBit t=false->cj t pre=none)->i9 [] nx (pre++r) (ddB nx w m r)
 |[],m,pre,_=>trivial
 |(t,v)::r,m,pre,h=>by
  have M:∀L,(tM m t).testBit L=false->cj L (pre++[(t,v)])=none:=by
   intro L D;rw[FL (h L (uQ D).1)];simp[cj,(uQ D).2]
  have O:pre++(t,v)::r=(pre++[(t,v)])++r:=adI
  simp only[ddB,DL];cases hm:m.testBit t
  ·simp only[et]
   cases R:(w.testBit t&&Nat.blt t nx)
   ·simp only[et]
    rw[O];exact L3 M
   ·simp only[gs]
    refine⟨?_,by rw[O];exact L3 M⟩
    rw[FL (h t hm)];simp only[cj,ne,gs,ay]
    exact⟨trivial,ahn,by simpa[Kd]using(Bool.and_eq_true_iff.1 R).2⟩
  ·simp only[gs]
   have:∀L,m.testBit L=false->cj L (pre++[(t,v)])=none:=by
    intro L D;rw[FL (h L D)];simp[cj,L0 hm D]
   rw[O];exact L3 this
theorem L4{nx w:Nat}:∀{r:Lv} {m:Nat} {pre:Lv},(∀t,m.testBit t=false->d9 t pre=none)->rG [] nx (pre++r) (YC nx w m r)
 |[],m,pre,_=>trivial
 |(t,v)::r,m,pre,h=>by
  have M:∀L,(tM m t).testBit L=false->d9 L (pre++[(t,v)])=none:=by
   intro L D;rw[uP (h L (uQ D).1)];simp[d9,(uQ D).2]
  have O:pre++(t,v)::r=(pre++[(t,v)])++r:=adI
  simp only[YC,DL];cases hm:m.testBit t
  ·simp only[et]
   cases R:(w.testBit t&&Nat.blt t nx)
   ·simp only[et]
    rw[O];exact L4 M
   ·simp only[gs]
    refine⟨?_,by rw[O];exact L4 M⟩
    show d9 (I3 [] t) _=_/\_
    rw[show I3 [] t=t from rfl,uP (h t hm)]
    simp only[d9,ne,gs]
    exact⟨trivial,by simpa[Kd]using(Bool.and_eq_true_iff.1 R).2⟩
  ·simp only[gs]
   have:∀L,m.testBit L=false->d9 L (pre++[(t,v)])=none:=by
    intro L D;rw[uP (h L D)];simp[d9,L0 hm D]
   rw[O];exact L4 this
theorem CN{nx w:Nat}:∀{r:Lv} {m:Nat},∀p∈YC nx w m r,m.testBit p.1=false
 |[],m,p,h=>by cases h
 |(t,v)::r,m,p,h=>by
  simp only[YC,DL]at h;cases hm:m.testBit t
  ·simp only[hm,et]at h
   cases D:(w.testBit t&&Nat.blt t nx)
   ·simp only[D,et]at h
    exact(uQ (CN p h)).1
   ·simp only[D,gs]at h
    rcases nm.1 h with rfl|h
    ·exact hm
    ·exact(uQ (CN p h)).1
  ·simp only[hm,gs]at h
   exact CN p h
theorem yR{nx w:Nat}:∀{r:Lv} {m:Nat},((YC nx w m r).map λp=>I3 [] p.1).Nodup
 |[],m=>by simp[YC]
 |(t,v)::r,m=>by
  simp only[YC,DL];cases hm:m.testBit t
  ·simp only[et]
   cases L:(w.testBit t&&Nat.blt t nx)
   ·simp only[et];exact yR
   ·simp only[gs,kr,yi]
    refine⟨λh=>?_,yR⟩
    obtain⟨p,D,e⟩:=mi.1 h
    have:=CN p D
    have e:p.1=t:=e
    rw[e]at this
    have:=(uQ this).2
    simp at this
  ·simp only[gs];exact yR
def norm(m:Nat) (sl:Sl) (bx:eG) (lv:Lv) (nx:Nat):S:=
 match dd nx m sl with
 |L=>match refs L with
  |w=>match ddB nx w 0 bx with
   |D=>⟨L,D,YC nx (D.foldl (λm p=>p.2.tags.foldl (λm q=>tM m q.2) m) w) 0 lv,nx⟩
theorem norm_le{sl:Sl} {bx:eG} {lv:Lv} {nx:Nat} (h:4<=nx):Le ⟨sl,bx,lv,nx⟩ (norm m sl bx lv nx):=by
 exact⟨h,[],SL (pre:=[]) λt _=>rfl,L3 (pre:=[]) λt _=>rfl,L4 (pre:=[]) λt _=>rfl,yR⟩
end
end
noncomputable section
variable{E:eP} {C:aT}
section
variable (F:S->Option Rc) (res:List gu) (m n:Nat) (ops:List CO) (css:List (List AV)) (id l:Nat) (c:aS) (dG:List (Nat×Nat)) (g:aR) (s:S)
def evL:S->Option Rc:=
 Nat.rec (motive:=λ_=>S->Option Rc) (λ_=>none) (λn D s=>match F s with
  |some (.norm,⟨sl,bx,lv,nx⟩)=>D (cond (cond (Nat.beq m 0) (Nat.beq (Nat.land n 7) 0) true&&Nat.ble 4 nx) (norm m sl bx lv nx) ⟨sl,bx,lv,nx⟩)
  |r=>r) n
theorem YD:evL F m (n+1) s=match F s with
  |some (.norm,⟨sl,bx,lv,nx⟩)=>evL F m n (cond (cond (Nat.beq m 0) (Nat.beq (Nat.land n 7) 0) true&&Nat.ble 4 nx) (norm m sl bx lv nx) ⟨sl,bx,lv,nx⟩)
  |r=>r:=rfl
def SM:AV->AV->Bool
 | .fn (.func f) [] [.ref [.int k n]],.fn (.func L) [] [.ref [.int M D]]=>f==L&&k==M&&n==D
 |_,_=>false
theorem YE{a b:AV} (h:SM a b=true):a=b:=by
 unfold SM at h;split at h
 ·simp only[ed,l4]at h
  obtain⟨⟨rfl,rfl⟩,rfl⟩:=h;rfl
 ·cases h
def OI(g:aR) (D:AV) (ps wr:List Nat) (A B:S->Option Rc):List (List AV)->S->Option Rc
 |[],s=>match dJ s.slots g with
  |some v=>if SM v D then some (.norm,s)else none
  |none=>none
 |x::xs,s=>match dJ s.slots g with
  |some v=>if SM v D then(match A (uU ps x s)with
   |some (.norm,s1)=>match B s1 with
    |some (.norm,s2)=>OI g D ps wr A B xs (yV wr s2)
    |some (.ret,s2)=>some (.ret,yV wr s2)
    |some (.exit id,s2)=>some (.exit id,yV wr s2)
    |_=>none
   |_=>none)else none
  |none=>none
theorem alE{g:aR} {D:AV} {ps wr:List Nat} {A B:S->Option Rc} {xs:List (List AV)} {s:S} {r:Rc} (h:OI g D ps wr A B xs s=some r):aL s g=some D:=by
 have q:∀x,dJ s.slots x=aL s x:=λ_=>kD
 cases xs<;>simp only[OI,q]at h<;>split at h<;>try(cases h;done)
 all_goals
  rename_i v M
  split at h<;>try(cases h;done)
  rename_i L;rw[M,YE L]
def UF:aS->Bool
 | .sq _ _| .E8 _ _ _ _=>true
 | .seq a b| .join a b| .cond _ a b| .scope _ a b| .vY _ _ _ a b=>UF a||UF b
 | .block _ c| .loop c=>UF c
 |_=>false
def Qx:aS->Nat
 | .sq ops _| .E8 ops _ _ _=>ops.foldl (λm o=>match o.dst with|some d=>m|||bit d|none=>m) 0
 | .seq a b| .join a b| .cond _ a b| .scope _ a b| .vY _ _ _ a b=>Qx a|||Qx b
 | .block _ c| .loop c=>Qx c
 |_=>0
def OJ:S->S
 |⟨sl,bx,lv,nx⟩=>bif Nat.ble 4 nx then norm m sl bx lv nx else⟨sl,bx,lv,nx⟩
theorem Kl{F:S->Prop} {m:Nat} {s:S} (h:F (OJ m s)):down F s:=by
 obtain⟨sl,bx,lv,nx⟩:=s;simp only[OJ]at h;cases D:Nat.ble 4 nx
 ·rw[D,et]at h;exact gX h
 ·rw[D,gs]at h;exact oI (norm_le (gc D)) h
def aho(E:eP) (N:Nat) (s:S):Option Rc:=some (.norm,s)
def alF(E:eP) (N:Nat):S->Option Rc
 |⟨sl,bx,lv,nx⟩=>match zK E nx nx 0 ops sl bx lv with
  |some (L,D,M)=>LY (Nat.add nx (nW ops)) λn=>some (.norm,⟨L,D,M,n⟩)
  |none=>none
def alG(a b:aS) (D:eP->Nat->S->Option Rc) (L:eP->Nat->S->Option Rc) (E:eP) (N:Nat) (s:S):Option Rc:=match D E N s with
  |some (.norm,M)=>L E N M
  |r=>r
def ahp(a b:aS) (D:eP->Nat->S->Option Rc) (L:eP->Nat->S->Option Rc) (E:eP) (N:Nat) (s:S):Option Rc:=match D E N s with
  |some (.norm,M)=>L E N (bif UF b then OJ (Qx b) M else M)
  |r=>r
def ahq(c:aR) (a b:aS) (D:eP->Nat->S->Option Rc) (L:eP->Nat->S->Option Rc) (E:eP) (N:Nat) (s:S):Option Rc:=match dJ s.slots c with
  |some (.bool t)=>if t then D E N s else L E N s
  |_=>none
def acm(c:aS) (L:eP->Nat->S->Option Rc) (E:eP) (N:Nat) (s:S):Option Rc:=match L E N s with
  |some (.exit D,M)=>if D=id then some (.norm,M)else some (.exit D,M)
  |r=>r
def ahr(D:eP->Nat->S->Option Rc) (E:eP) (N:Nat) (s:S):Option Rc:=evL (D E N) (Qx c) N (OJ (Qx c) s)
def ahs(E:eP) (N:Nat) (s:S):Option Rc:=some (.exit id,s)
def alH(E:eP) (N:Nat) (s:S):Option Rc:=some (.ret,s)
def acn(c r:aS) (D L:eP->Nat->S->Option Rc) (E:eP) (N:Nat) (s:S):Option Rc:=match D E N s with
  |some (.goto O,M)=>if O=l then(match L E N M with
   |some (.goto _,_)=>none
   |x=>x)else none
  |x=>x
def aco(l:Nat) (E:eP) (N:Nat) (s:S):Option Rc:=some (.norm,s)
def aht(E:eP) (N:Nat) (s:S):Option Rc:=some (.goto l,s)
def ahu(ops:List XO) (E:eP) (N:Nat):S->Option Rc
 |⟨sl,bx,lv,nx⟩=>match xT E nx nx 0 ops sl bx lv with
  |some (e,L,D,M)=>LY (Nat.add nx (nW ops)) λn=>some (e,⟨L,D,M,n⟩)
  |none=>none
def ahv(E:eP) (N:Nat):S->Option Rc
 |⟨sl,bx,lv,nx⟩=>if qI (lY [] 0 ops) dG nx sl then(match zK E nx nx 0 (lY [] 0 ops) sl bx lv with
  |some (L,D,M)=>LY (Nat.add nx (nW ops)) λn=>some (.norm,⟨L,D,M,n⟩)
  |none=>none)else none
def ahw(k:Nat) (O:List Nat) (E:eP) (N:Nat):S->Option Rc
 |⟨sl,bx,lv,nx⟩=>if qI (lY [] 0 ops) dG nx sl then(match zK E nx nx 0 (lY [] 0 ops) sl bx lv with
  |some (L,D,M)=>LY (Nat.add nx (nW ops)) λn=>some (.norm,⟨L,D,M,n⟩)
  |none=>none)else none
def ahx(ps wr:List Nat) (as O:aS) (L D:eP->Nat->S->Option Rc) (E:eP) (N:Nat) (s:S):Option Rc:=match dJ s.slots g with
  |some M=>match E.it M with
   |some xs=>if Ou ps.length xs then OI g M ps wr (L E N) (D E N) xs s else none
   |none=>none
  |none=>none
def zL(E:eP) (N:Nat) (c:aS):S->Option Rc:=
 aS.rec (motive:=λ_=>eP->Nat->S->Option Rc) aho alF alG ahp ahq acm ahr ahs alH ahx ahv acn aco aht ahu ahw c E N
theorem acp(E:eP) (N:Nat) (ops:List CO) (sl:Sl) (bx:eG) (lv:Lv) (nx:Nat):zL E N (.Jh ops) ⟨sl,bx,lv,nx⟩=(match zK E nx nx 0 ops sl bx lv with
  |some (L,D,M)=>LY (Nat.add nx (nW ops)) λn=>some (.norm,⟨L,D,M,n⟩)
  |none=>none):=rfl
theorem acq(E:eP) (N:Nat) (a b:aS) (s:S):zL E N (.seq a b) s=(match zL E N a s with
  |some (.norm,D)=>zL E N b D
  |r=>r):=rfl
theorem YF(E:eP) (N:Nat) (a b:aS) (s:S):zL E N (.join a b) s=(match zL E N a s with
  |some (.norm,D)=>zL E N b (bif UF b then OJ (Qx b) D else D)
  |r=>r):=rfl
theorem YG(E:eP) (N:Nat) (c:aR) (a b:aS) (s:S):zL E N (.cond c a b) s=(match dJ s.slots c with
  |some (.bool t)=>if t then zL E N a s else zL E N b s
  |_=>none):=rfl
theorem UG(E:eP) (N:Nat) (id:Nat) (c:aS) (s:S):zL E N (.block id c) s=(match zL E N c s with
  |some (.exit D,L)=>if D=id then some (.norm,L)else some (.exit D,L)
  |r=>r):=rfl
theorem UH(E:eP) (N:Nat) (l:Nat) (c r:aS) (s:S):zL E N (.scope l c r) s=(match zL E N c s with
  |some (.goto L,D)=>if L=l then(match zL E N r D with
   |some (.goto _,_)=>none
   |x=>x)else none
  |x=>x):=rfl
theorem YH(E:eP) (N:Nat) (ops:List XO) (sl:Sl) (bx:eG) (lv:Lv) (nx:Nat):zL E N (.qy ops) ⟨sl,bx,lv,nx⟩=(match xT E nx nx 0 ops sl bx lv with
  |some (e,L,D,M)=>LY (Nat.add nx (nW ops)) λn=>some (e,⟨L,D,M,n⟩)
  |none=>none):=rfl
theorem YI(E:eP) (N:Nat) (ops:List CO) (dG:List (Nat×Nat)) (sl:Sl) (bx:eG) (lv:Lv) (nx:Nat):zL E N (.sq ops dG) ⟨sl,bx,lv,nx⟩=(if qI (lY [] 0 ops) dG nx sl then(match zK E nx nx 0 (lY [] 0 ops) sl bx lv with
  |some (L,D,M)=>LY (Nat.add nx (nW ops)) λn=>some (.norm,⟨L,D,M,n⟩)
  |none=>none)else none):=rfl
theorem YJ(E:eP) (N:Nat) (ops:List CO) (dG:List (Nat×Nat)) (k:Nat) (D:List Nat) (sl:Sl) (bx:eG) (lv:Lv) (nx:Nat):zL E N (.E8 ops dG k D) ⟨sl,bx,lv,nx⟩=(if qI (lY [] 0 ops) dG nx sl then(match zK E nx nx 0 (lY [] 0 ops) sl bx lv with
  |some (M,L,O)=>LY (Nat.add nx (nW ops)) λn=>some (.norm,⟨M,L,O,n⟩)
  |none=>none)else none):=rfl
theorem YK(E:eP) (N:Nat) (g:aR) (ps wr:List Nat) (as D:aS) (s:S):zL E N (.vY g ps wr as D) s=(match dJ s.slots g with
  |some L=>match E.it L with
   |some xs=>if Ou ps.length xs then OI g L ps wr (zL E N as) (zL E N D) xs s else none
   |none=>none
  |none=>none):=rfl
theorem IC{e:Ex} {s:S} {k:S->Prop} {Q:Exit->S->Prop} (L:e=.norm->k s) (D:e≠.norm->Q e.to s):jU k Q e.to s:=by
 cases e
 case norm=>exact L rfl
 all_goals exact D adI
theorem Qy{F:S->Option Rc} {G:(Exit->S->Prop)->S->Prop} (M:∀Q s e D,F s=some (e,D)->Q e.to D->G Q s) {Q:Exit->S->Prop} {m:Nat}:∀{n:Nat} {s:S} {e:Ex} {D:S},evL F m n s=some (e,D)->Q e.to D->tU G Q n s
 |0,s,e,D,h,_=>by cases h
 |n+1,s,e,D,h,hk=>by
  rw[YD]at h
  cases hF:F s with
  |none=>rw[hF]at h;cases h
  |some p=>
   obtain⟨O,sl,bx,lv,nx⟩:=p;rw[hF]at h;refine M _ _ _ _ hF ?_;cases O
   case norm=>
    show down _ _
    simp only at h;cases L:(cond (Nat.beq m 0) (Nat.beq (Nat.land n 7) 0) true&&Nat.ble 4 nx)
    ·rw[L,et]at h
     exact gX (Qy M h hk)
    ·rw[L,gs]at h
     exact oI (norm_le (gc (Bool.and_eq_true_iff.1 L).2)) (Qy M h hk)
   all_goals
    cases h;exact hk
theorem gl(hE:E.Ok C) {N:Nat}:∀(c:aS) (Q:Exit->S->Prop) (s:S) (e:Ex) (L:S),zL E N c s=some (e,L)->Q e.to L->aw C c Q s
 | .skip,Q,s,e,L,h,hk=>by cases h;exact hk
 | .Jh ops,Q,⟨sl,bx,lv,nx⟩,e,L,h,hk=>by
  simp only[FK,kG,acp]at h
  split at h<;>try(cases h;done)
  rename_i Z aa ab R;cases h;exact xS hE R hk
 | .seq a b,Q,s,e,L,h,hk=>by
  simp only[acq]at h;split at h
  ·rename_i s1 D
   exact gl hE a _ s _ _ D (gl hE b _ s1 _ _ h hk)
  ·rename_i M
   refine gl hE a _ s _ _ h (IC (λO=>?_) (λ_=>hk))
   subst O;exact absurd h (M _)
 | .join a b,Q,s,e,L,h,hk=>by
  simp only[YF]at h;split at h
  ·rename_i s1 D
   refine gl hE a _ s _ _ D ?_
   show down _ _
   cases hb:UF b
   ·rw[hb,et]at h
    exact gX (gl hE b _ s1 _ _ h hk)
   ·rw[hb,gs]at h
    exact Kl (gl hE b _ _ _ _ h hk)
  ·rename_i M
   refine gl hE a _ s _ _ h (IC (λO=>?_) (λ_=>hk))
   subst O;exact absurd h (M _)
 | .cond c a b,Q,s,e,L,h,hk=>by
  have q:∀(s:S) x,dJ s.slots x=aL s x:=λ_ _=>kD
  simp only[q,YG]at h
  split at h<;>try(cases h;done)
  rename_i t ht;simp only[aw,ht,ay];split at h
  ·rename_i hb
   exact⟨λ_=>gl hE a _ s _ _ h hk,λe=>by rw[hb]at e;cases e⟩
  ·rename_i hb
   exact⟨λe=>absurd e hb,λ_=>gl hE b _ s _ _ h hk⟩
 | .block id c,Q,s,e,L,h,hk=>by
  simp only[UG]at h;split at h
  ·rename_i V s1 D
   refine gl hE c _ s _ _ D ?_
   show(if V=id then Q .normal s1 else Q (.exit V) s1)
   split at h
   ·rename_i O;cases h;rw[fp O];exact hk
   ·rename_i O;cases h;rw[fb O];exact hk
  ·rename_i M
   refine gl hE c _ s _ _ h ?_;cases e
   case exit V=>exact absurd h (M _ _)
   all_goals exact hk
 | .loop c,Q,s,e,L,h,hk=>Kl ⟨N,Qy (λQ s e L D h2=>gl hE c Q s e L D h2) h hk⟩
 | .exit id,Q,s,e,L,h,hk=>by cases h;exact hk
 | .ret,Q,s,e,L,h,hk=>by cases h;exact hk
 | .label l,Q,s,e,L,h,hk=>by cases h;exact hk
 | .goto l,Q,s,e,L,h,hk=>by cases h;exact hk
 | .scope l c r,Q,s,e,L,h,hk=>by
  simp only[UH]at h;split at h
  ·rename_i l' s1 D
   refine gl hE c _ s _ _ D ?_
   split at h<;>try(cases h;done)
   rename_i hl;refine⟨hl,?_⟩;split at h
   ·cases h
   ·rename_i M
    refine gl hE r _ s1 _ _ h ?_;cases e
    case goto l'=>exact absurd h (M _ _)
    all_goals exact hk
  ·rename_i M
   refine gl hE c _ s _ _ h ?_;cases e
   case goto l'=>exact absurd h (M _ _)
   all_goals exact hk
 | .qy ops,Q,⟨sl,bx,lv,nx⟩,e,L,h,hk=>by
  simp only[FK,kG,YH]at h
  split at h<;>try(cases h;done)
  rename_i e' Z aa ab R;cases h;refine yQ hE R ?_
  rcases DK R with O|⟨q,O⟩<;>(simp only at O;subst O;exact hk)
 | .sq ops dG,Q,⟨sl,bx,lv,nx⟩,e,L,h,hk=>by
  simp only[FK,kG,YI]at h
  split at h<;>try(cases h;done)
  rename_i hd
  split at h<;>try(cases h;done)
  rename_i Z aa ab R;cases h;exact⟨[],rfl,[],hd,xS hE R hk⟩
 | .E8 ops dG k ae,Q,⟨sl,bx,lv,nx⟩,e,L,h,hk=>by
  simp only[FK,kG,YJ]at h
  split at h<;>try(cases h;done)
  rename_i hd
  split at h<;>try(cases h;done)
  rename_i Z aa ab R;cases h;exact .inl ⟨[],rfl,[],hd,xS hE R hk⟩
 | .vY g ps wr as bd,Q,s,e,L,h,hk=>by
  have q:∀(s:S) x,dJ s.slots x=aL s x:=λ_ _=>kD
  simp only[q,YK]at h
  split at h<;>try(cases h;done)
  rename_i gv ac
  split at h<;>try(cases h;done)
  rename_i xs ad
  split at h<;>try(cases h;done)
  rename_i hl;simp only[aw,ac,ay]
  refine⟨xs,hE.it _ _ ad,CD hl,λi s1=>OI g gv ps wr (zL E N as) (zL E N bd) (xs.drop i) s1=some (e,L),gX h,λi s1 D=>alE D,λi x s1 hx D=>?_,λs1 D=>?_⟩
  ·have hd:xs.drop i=x::xs.drop (i+1):=by
    rw[eo]at hx;obtain⟨hi,rfl⟩:=hx;exact acX hi
   simp only[hd,OI,q]at D
   split at D<;>try(cases D;done)
   split at D<;>try(cases D;done)
   split at D<;>try(cases D;done)
   rename_i s2 hA;refine gl hE as _ _ _ _ hA ?_
   show aw C bd _ s2
   split at D<;>try(cases D;done)
   ·rename_i s3 hB
    exact gl hE bd _ _ _ _ hB (gX D)
   ·rename_i s3 hB
    cases D;exact gl hE bd _ _ _ _ hB hk
   ·rename_i id s3 hB
    cases D;exact gl hE bd _ _ _ _ hB hk
  ·simp only[List.drop_length,OI,q]at D
   split at D<;>try(cases D;done)
   split at D<;>try(cases D;done)
   cases D;exact hk
def Km:List (Option AV)->Bool
 |[]=>true
 |none::r=>Km r
 |_=>false
theorem OK:∀{a b:List (Option AV)},Km a=true->Km b=true->a.length=b.length->a=b
 |[],[],_,_,_=>rfl
 |[],_::_,_,_,h=>by simp at h
 |_::_,[],_,_,h=>by simp at h
 |none::a,none::b,L,D,h=>by rw[OK (a:=a) (b:=b) L D (by simpa using h)]
 |some _::a,_,L,_,_=>by cases L
 |none::a,some _::b,_,D,_=>by cases D
def CP(l:eG):Nat->Nat->Option (List (List AV))
 |_,0=>some []
 |k,n+1=>match Jb k l,CP l (k+1) n with
  |some x,some r=>some (x.cells::r)
  |_,_=>none
theorem tN{l:eG}:∀{n k:Nat} {css:List (List AV)},CP l k n=some css->ja l k css/\css.length=n
 |0,k,css,h=>by cases h;exact⟨trivial,rfl⟩
 |n+1,k,css,h=>by
  simp only[CP,uM]at h
  split at h<;>try(cases h;done)
  rename_i x r D O;cases h;obtain⟨M,L⟩:=tN O
  exact⟨⟨by rw[D];rfl,M⟩,by simp[L]⟩
def YL:AV->AV->Bool
 | .int k n,.int L D=>k==L&&n==D
 | .bool a,.bool b=>a==b
 | .float k n,.float L D=>k==L&&n==D
 |_,_=>false
theorem YM{a b:AV} (h:YL a b=true):a=b:=by
 unfold YL at h;split at h
 ·simp only[ed,l4]at h;obtain⟨rfl,rfl⟩:=h;rfl
 ·simp only[l4]at h;subst h;rfl
 ·simp only[ed,l4]at h;obtain⟨rfl,rfl⟩:=h;rfl
 ·cases h
def SN:List AV->List AV->Bool
 |[],[]=>true
 |a::as,b::D=>YL a b&&SN as D
 |_,_=>false
theorem OL:∀{a b:List AV},SN a b=true->a=b
 |[],[],_=>rfl
 |[],_::_,h=>by cases h
 |_::_,[],h=>by cases h
 |a::as,b::D,h=>by
  simp only[SN,ed]at h;rw[YM h.1,OL h.2]
def SO:List (List AV)->List (List AV)->Bool
 |[],[]=>true
 |a::as,b::D=>SN a b&&SO as D
 |_,_=>false
theorem OM:∀{a b:List (List AV)},SO a b=true->a=b
 |[],[],_=>rfl
 |[],_::_,h=>by cases h
 |_::_,[],h=>by cases h
 |a::as,b::D,h=>by
  simp only[SO,ed]at h;rw[OL h.1,OM h.2]
def ON:gu->Option (AV×Option Nat)
 | .tmp t=>match lkF t s.slots with
  |some (.dat a q)=>some (a,q)
  |_=>none
 | .cell t D=>match lkF t s.slots with
  |some (.ptr b off)=>match Jb b s.boxes with
   |some bx=>match AM bx.cells off D with
    |some a=>some (a,match D with|none=>Qs off bx.tags|some _=>none)
    |none=>none
   |none=>none
  |_=>none
theorem OO{s:S} {r:gu}:ON s r=KO s r:=by
 cases r with
 |tmp t=>
  simp only[ON,KO,AK]
  cases lk t s.slots with
  |none=>rfl
  |some v=>cases v<;>rfl
 |cell t D=>
  simp only[ON,KO,AK,uM,CF,Kf]
  cases lk t s.slots with
  |none=>rfl
  |some v=>cases v with
   |ptr b off=>
    simp only
    cases cj b s.boxes with
    |none=>rfl
    |some x=>
     simp only
     cases aB x.cells off D with
     |none=>rfl
     |some a=>cases D<;>rfl
   |_=>rfl
def ID(s:S):List gu->Option (List AV)
 |[]=>some []
 |r::D=>match ON s r,ID s D with
  |some p,some l=>some (p.1::l)
  |_,_=>none
theorem Ko{s:S}:∀{r:List gu},ID s r=l5 s r
 |[]=>rfl
 |r::D=>by rw[ID,l5,OO,Ko];congr 1
def OP:List gu->Option (AV×Option Nat)
 |[r]=>ON s r
 |D=>(ID s D).map λl=>(.dP l,none)
theorem OQ{s:S} {r:List gu}:OP s r=eI s r:=by
 match r with
 |[]=>rfl
 |[r]=>exact OO
 |r::D::L=>show(ID s _).map _=(l5 s _).map _;rw[Ko]
def UI:Option Out:=
 match OP s res,CP s.boxes 0 n with
 |some (r,none),some css=>some (.ret r none css)
 |some (r,some q),some css=>some (.ret r (Qs q s.live) css)
 |_,_=>none
def SP:Option Out:=
 match res with
 |[.tmp t]=>match lkF t s.slots with
  |some (.ptr b o)=>if b<4 then(match CP s.boxes 0 css.length with
    |some D=>if b<css.length/\SO css D=true then some (.Qr b o)else none
    |none=>none)else(match Jb b s.boxes with
    |some x=>if o=0/\css=[]then some (.new x.cells)else none
    |none=>none)
  |_=>UI res css.length s
 |_=>UI res css.length s
def alI:Option Rc->Option Out
 |some (.norm,s)=>SP res css s
 |some (.ret,s)=>SP res css s
 |some (.S0 p,s)=>(CP s.boxes 0 css.length).map (.up p)
 |_=>none
end
section
variable{P:Program}
def YN(E:eP) (N:Nat) (P:Program) (f:Nat) (O:AV) (css:List (List AV)) (args:List (Option AV)):Option (List (List AV)):=
 match Xd P f with
 |some cf=>if Xe O&&Nat.ble args.length cf.nt&&Nat.ble css.length 4 then(match lZ css args with
  |⟨sl,bx,lv,nx⟩=>match xT E 4 nx 1 cf.ops (Jd (some cf.d) (.dat O none) sl) bx lv with
   |some (.norm,L,D,M)=>match zL E N cf.code ⟨L,D,M,5+cf.ops.length⟩with
    |some (.norm,s)=>CP s.boxes 0 css.length
    |some (.ret,s)=>CP s.boxes 0 css.length
    |_=>none
   |_=>none)else none
 |none=>none
def OR(E:eP) (N:Nat) (P:Program) (cf:Ff) (as:List (Option AV)) (L:List Nat) (n:Nat) (R:AV):S->Option Out
 |⟨sl,bx,lv,nx⟩=>match lkF cf.t sl with
  |some (.nX g D O)=>if g==cf.g&&Km D&&D.length==as.length&&O==L&&dS L then(match nq bx L with
   |some cs=>match YN E N P cf.g R cs as with
    |some M=>UI cf.res n ⟨sl,dR L M bx,lv,nx⟩
    |none=>none
   |none=>none)else none
  |_=>none
def adL(E:eP) (N:Nat) (P:Program) (cf:Ff) (css:List (List AV)) (args:List (Option AV)):Option Out:=
 match zL E N cf.pre (lZ css args)with
 |some (.norm,⟨sl,bx,lv,nx⟩)=>match tL false sl cf.caps with
  |some (as,D)=>if Km as then(match zL E N cf.code ⟨(cf.t,.nX cf.g as D)::sl,bx,lv,nx+2⟩with
   |some (.norm,s)=>OR E N P cf as D css.length .gJ s
   |some (.ret,s)=>OR E N P cf as D css.length .gJ s
   |some (.S0 p,s)=>if jh p then OR E N P cf as D css.length p s else none
   |_=>none)else none
  |none=>none
 |_=>none
section
variable {N:Nat} {args:List (Option AV)} {css:List (List AV)} {f:Nat} {fr:Option Nat} {n:Nat} {o:Out} {r:AV} {s:S}
def ahy(E:eP) (N:Nat) (P:Program) (m f:Nat) (css:List (List AV)) (args:List (Option AV)):Option Out:=
 if Nat.ble css.length 4 then(match m with
 |2=>match Xg P f with
  |some cf=>if Nat.ble args.length cf.nt then adL E N P cf css args else none
  |none=>none
 |m=>match qE (m==1) P f with
  |some cf=>if Nat.ble args.length cf.nt then alI cf.res css (zL E N cf.code (lZ css args))else none
  |none=>none)else none
def evF(it:AV->Option (List (List AV))) (L:Nat->Nat) (N:Nat) (P:Program) (n:Nat):Nat->List (List AV)->List (Option AV)->Option Out:=
 Nat.rec (motive:=λ_=>Nat->List (List AV)->List (Option AV)->Option Out) (λ_ _ _=>none) (λ_ D f css args=>ahy ⟨D,it⟩ N P (L f) f css args) n
theorem SQ{res:List gu} (h:UI res n s=some o):∃r fr D,o=.ret r fr D/\D.length=n/\∀e,e=Exit.normal\/e=Exit.ret->Gy res r fr D e s:=by
 unfold UI at h;rw[OQ]at h;simp only[CF]at h
 split at h<;>try(cases h;done)
 ·rename_i r css M L
  cases h;obtain⟨O,R⟩:=tN L
  refine⟨r,none,css,rfl,R,λe V=>?_⟩
  rcases V with rfl|rfl<;>(simp only[Gy,M,ay];exact⟨trivial,trivial,O⟩)
 ·rename_i r q css M L
  cases h;obtain⟨O,R⟩:=tN L
  refine⟨r,d9 q s.live,css,rfl,R,λe V=>?_⟩
  have hf:MW (d9 q s.live) (some q) s.live:=by
   cases Z:d9 q s.live with
   |none=>trivial
   |some e=>exact Z
  rcases V with rfl|rfl<;>(simp only[Gy,M,ay];exact⟨trivial,hf,O⟩)
theorem OS{D:List (List AV)} (h:wj P f css args r fr D):Good (Pure P) f css args (.ret r fr D):=by
 refine⟨h,λe as L=>?_⟩
 subst e;subst L
 have:D=[]:=sT h.2.1
 subst this;exact Ht h
theorem YO{E:eP} (hm:P.follows .mixedOrders=true) (hE:E.Ok (Pure P)) {R:AV} {D:List (List AV)} (h:YN E N P f R css args=some D):Mz P f R css args D:=by
 unfold YN at h
 split at h<;>try(cases h;done)
 rename_i cf ac
 split at h<;>try(cases h;done)
 rename_i O;simp only[ed]at O;split at h;rename_i sl bx lv nx M
 split at h<;>try(cases h;done)
 rename_i Z V aa hx
 have key:∀e s,zL E N cf.code ⟨Z,V,aa,5+cf.ops.length⟩=some (e,s)->(e=.norm\/e=.ret)->CP s.boxes 0 css.length=some D->Mz P f R css args D:=by
  intro e s L ab hh;obtain⟨h1,h2⟩:=tN hh;refine NM hm ac O.1.1 (gc O.1.2) h2 (gc O.2) ?_;rw[M,CM];refine yQ hE hx ?_;refine gl hE _ _ _ _ _ L ?_
  rcases ab with rfl|rfl<;>exact h1
 split at h<;>try(cases h;done)
 ·rename_i s L;exact key _ _ L (.inl rfl) h
 ·rename_i s L;exact key _ _ L (.inr rfl) h
theorem IE{E:eP} (hm:P.follows .mixedOrders=true) (hE:E.Ok (Pure P)) {cf:Ff} {as:List (Option AV)} {Z:List Nat} {V:AV} (has:Km as=true) (h:OR E N P cf as Z n V s=some o):
  ∃r fr D,o=.ret r fr D/\D.length=n/\PX (Pure P) cf.res r fr D cf.t cf.g as Z V s:=by
 obtain⟨sl,bx,lv,nx⟩:=s;simp only[OR,AK,uN]at h
 split at h<;>try(cases h;done)
 rename_i g aa ab hl
 split at h<;>try(cases h;done)
 rename_i R;simp only[ed,l4]at R;obtain⟨⟨⟨⟨rfl,h1⟩,h2⟩,rfl⟩,h3⟩:=R
 have:=OK h1 has h2
 subst this
 split at h<;>try(cases h;done)
 rename_i cs M
 split at h<;>try(cases h;done)
 rename_i O hr;obtain⟨r,fr,D,rfl,L,hf⟩:=SQ h
 exact⟨r,fr,D,rfl,L,hl,h3,by rw[M];exact⟨O,YO hm hE hr,hf _ (.inr rfl)⟩⟩
theorem acr{E:eP} (hm:P.follows .mixedOrders=true) (hE:E.Ok (Pure P)) {m:Nat} (h:ahy E N P m f css args=some o):Good (Pure P) f css args o:=by
 unfold ahy at h
 split at h<;>try(cases h;done)
 rename_i h4
 have h4:=gc h4
 split at h
 ·split at h<;>try(cases h;done)
  rename_i cf V
  split at h<;>try(cases h;done)
  rename_i Z
  have Z:=gc Z
  unfold adL at h
  split at h<;>try(cases h;done)
  rename_i sl bx lv nx ac
  rw[CH (bx:=bx) (lv:=lv) (nx:=nx)]at h
  split at h<;>try(cases h;done)
  rename_i as bs ae
  split at h<;>try(cases h;done)
  rename_i has
  have key:∀(e:Ex) (s:S) (r:AV) (fr:Option Nat) (D:List (List AV)),zL E N cf.code ⟨(cf.t,.nX cf.g as bs)::sl,bx,lv,nx+2⟩=some (e,s)->PY (Pure P) cf.res r fr D cf.t cf.g as bs e.to s->D.length=css.length->o=.ret r fr D->Good (Pure P) f css args o:=by
   intro e s r fr D O ad L M;subst M;refine OS (NN hm V Z L h4 ?_);refine gl hE _ _ _ _ _ ac ?_
   show aj _ _
   rw[ae];exact gl hE _ _ _ _ _ O ad
  split at h<;>try(cases h;done)
  ·rename_i s O
   obtain⟨r,fr,D,M,L,hf⟩:=IE hm hE has h;exact key _ _ _ _ _ O hf L M
  ·rename_i s O
   obtain⟨r,fr,D,M,L,hf⟩:=IE hm hE has h;exact key _ _ _ _ _ O hf L M
  ·rename_i p s O
   split at h<;>try(cases h;done)
   rename_i ag;obtain⟨r,fr,D,M,L,hf⟩:=IE hm hE has h;exact key _ _ _ _ _ O ⟨p,rfl,ag,hf⟩ L M
 ·split at h<;>try(cases h;done)
  rename_i cf V
  split at h<;>try(cases h;done)
  rename_i Z
  have Z:=gc Z
  have val:∀e s,zL E N cf.code (lZ css args)=some (e,s)->(e=.norm\/e=.ret)->UI cf.res css.length s=some o->Good (Pure P) f css args o:=by
   intro e s O R M;obtain⟨r,fr,D,rfl,L,hf⟩:=SQ M;refine OS (MZ hm V Z L h4 (gl hE _ _ _ _ _ O (hf _ ?_)))
   rcases R with rfl|rfl
   ·exact .inl rfl
   ·exact .inr rfl
  have fin:∀e s,zL E N cf.code (lZ css args)=some (e,s)->(e=.norm\/e=.ret)->SP cf.res css s=some o->Good (Pure P) f css args o:=by
   intro e s O R M;unfold SP at M;split at M
   ·rename_i t ab
    simp only[AK,uM]at M;split at M
    ·rename_i b off hl
     split at M
     ·rename_i hb
      split at M<;>try(cases M;done)
      rename_i D hh
      split at M<;>try(cases M;done)
      rename_i aa;cases M;obtain⟨h1,h2⟩:=tN hh
      have:=OM aa.2
      subst this;refine Xb hm V Z h4 aa.1 (gl hE _ _ _ _ _ O ?_);rw[ab]
      rcases R with rfl|rfl<;>exact⟨hl,h1⟩
     ·rename_i hb
      split at M<;>try(cases M;done)
      rename_i x hx
      split at M<;>try(cases M;done)
      rename_i aa;cases M;obtain⟨rfl,rfl⟩:=aa
      refine⟨rfl,λas ha=>?_⟩
      subst ha
      refine Xc hm V (by simpa using Z) (gl hE _ _ _ _ _ O ?_)
      rw[ab]
      rcases R with rfl|rfl<;>(simp only[abr,Ex.to,hl,hx,ay];exact⟨ado,trivial⟩)
    ·exact val _ _ O R M
   ·exact val _ _ O R M
  unfold alI at h
  split at h<;>try(cases h;done)
  ·rename_i s O;exact fin _ _ O (.inl rfl) h
  ·rename_i s O;exact fin _ _ O (.inr rfl) h
  ·rename_i p s O
   simp only[eg]at h;obtain⟨D,hh,rfl⟩:=h;obtain⟨h1,h2⟩:=tN hh;exact Xa hm V Z h2 h4 (gl hE _ _ _ _ _ O ⟨rfl,h1⟩)
theorem YP(hm:P.follows .mixedOrders=true) {it:AV->Option (List (List AV))} (D:∀g xs,it g=some xs->(Pure P).i g xs) {L:Nat->Nat} {N:Nat}:∀{n f:Nat} {css:List (List AV)} {args:List (Option AV)} {o:Out},evF it L N P n f css args=some o->Good (Pure P) f css args o
 |0,_,_,_,_,h=>by cases h
 |n+1,f,css,args,o,h=>acr (E:=⟨evF it L N P n,it⟩) hm ⟨λf css args o h=>YP hm D h,D⟩ h
theorem alJ(hm:P.follows .mixedOrders=true) {it:AV->Option (List (List AV))} (D:∀g xs,it g=some xs->(Pure P).i g xs) {L:Nat->Nat} {as:List AV} (h:evF it L N P n f [] (as.map some)=some (.ret r fr [])):(Pure P).c f as r fr:=
 (YP hm D h).2 rfl as rfl
end
end
end
end Go.Eng
