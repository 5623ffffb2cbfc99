/- The engine and the library,part 1 of 18: what the proofs of this seat need of them. -/
import Derived.WalkKit
import Derived.RangeFuncNested
import Derived.RangeFuncLeaves
import Derived.OrdersIn
import Derived.LoopNIn
import Derived.ChangeKeysEq
import Derived.Laws.Externs
import Derived.Lib.SliceRun
import Derived.Laws.CopyRow
import Derived.Laws.MakeOwn
import Ieee.Arith
import GoSem.Core.Float
import Derived.RecoverIn
import Derived.ProofKit
import Derived.OpenShut
import Derived.ShutString
import Derived.ChangeOld
import Derived.Below
set_option linter.unnecessarySimpa false
set_option linter.unusedSimpArgs false
set_option linter.unusedVariables false
set_option linter.defProp false
set_option maxRecDepth 10000
set_option maxHeartbeats 4000000
namespace Go.Eng
open Go
inductive AV where
 |bool (b:Bool)
 |int (k:IntKind) (n:Int)
 |float (k:FloatKind) (n:Nat)
 |str (s:ByteArray)
 |lF
 |bI
 |sl (xs:List (List AV))
 |fn (f:Fn) (first caps:List AV)
 |wT
 |iface (t:Nat) (v:AV)
 |eH
 |agg (cs:List AV)
 |o7 (vs:List AV)
 |ref (cs:List AV)
 /-- a float (of 64 bits) that is no number,whichever -/
 |gR
 /-- an argument: a struct of one pointer,at the head of the next box -/
 |hole
 deriving Inhabited
inductive SV where
 |dat (a:AV) (q:Option Nat)
 |ptr (b off:Nat)
 |rp (cs:List AV)
 |undef
 /-- a slice AN a box of its own or another's: n elements of z cells each,from off on -/
 |vs (b off n z:Nat)
 /-- a function with values and pointers at the heads of boxes -/
 |mM (f:Nat) (as:List (Option AV)) (bs:List Nat)
 /-- a slice of n elements that nobody has read: the token's row from its head on -/
 |raw (q n:Nat)
 /-- pointers into boxes: 0: a struct of them; 1: a slice; 2: a pointer at the first of a row that is never written -/
 |pt (k:Nat) (ps:List (Nat×Nat))
 deriving Inhabited
structure bO where
 cells:List AV
 tags:List (Nat×Nat)
 deriving Inhabited
structure S where
 slots:List (Nat×SV)
 boxes:List (Nat×bO)
 live:List (Nat×Nat)
 nx:Nat
 deriving Inhabited
inductive bl where
 |t (n:Nat)
 |k (v:AV)
 deriving Inhabited
inductive CK where
 |b|i|f|s
 deriving DecidableEq,Inhabited
inductive Xt where
 |Bt|ffrom|rte
 deriving DecidableEq,Inhabited
inductive bH where
 |mv (x:bl)
 |pick (c a b:bl)
 |alloc (cs:List AV)
 |box (x:bl)
 |build (zs:List AV) (parts:List (Nat×Nat×bl))
 |gA (e z:Nat) (xs:List bl)
 |ld (x:bl) (sz:Option Nat)
 |st (x v:bl) (sz:Nat)
 |fa (x:bl) (off:Nat)
 |C1 (x i:bl) (n z:Nat)
 |wk (x i:bl) (z:Nat)
 |QX (x:bl) (off:Nat) (sz:Option Nat)
 |JC (x i:bl) (n z:Nat) (sz:Option Nat)
 |bin (op:BinOp) (x y:bl)
 |eqc (ks:List CK) (neg:Bool) (x y:bl)
 |bb (neg:Bool) (x y:bl)
 |un (op:UnOp) (x:bl)
 |nk (k:IntKind) (x:bl)
 |Ag (k:FloatKind) (x:bl)
 |Bu (k:IntKind) (x:bl)
 |Ah (x:bl)
 |jW (x:bl)
 |Gt (n:Nat)
 |app (e z bytes:Nat) (s x:bl)
 |call (f:Nat) (args:List bl)
 |aK (f:Nat) (args:List bl)
 |ee (g:bl) (args:List bl)
 |ext (x:bl) (i:Nat)
 |Ai (fn:Fn) (first caps:List bl)
 |JD (z:Nat) (x:bl) (lo hi:Option bl)
 |nc (x:bl)
 |mm (max:Bool) (args:List bl)
 |xt (e:Xt) (x:bl)
 |E3 (x:bl) (n z:Nat)
 |QY (x i:bl)
 |Mw (neg:Bool) (x:bl)
 |gm (g:bl) (args:List bl)
 |wU (f:Nat) (args:List bl)
 |pG (g:bl) (args:List bl)
 |Qw (x:bl) (n z:Nat) (hi:bl)
 |Aj (e z bytes:Nat) (y x:bl)
 /-- what a row of pointers holds: one,or a struct -/
 |jC (x:bl) (sz:Option Nat)
 /-- a call that raises; what is raised is what it yields -/
 |rN (f:Nat) (args:List bl)
 deriving Inhabited
structure CO where
 dst:Option Nat
 op:bH
 g:Option (Nat×Bool)
 deriving Inhabited
inductive Bv where
 |o (c:bH)
 |call (f:Nat) (args:List bl)
 |aK (f:Nat) (args:List bl)
 |ee (p:Bool) (g:bl) (args:List bl)
 |QZ (f:Nat) (caps:List bl)
 |Gm (x:bl)
 |Gn (t:Nat) (x:bl)
 /-- is it of that type? the value,or nothing of that type -/
 |Mx (t:Nat) (z:AV) (x:bl)
 |Qx (neg:Bool) (x:bl)
 |JE (neg:Bool) (x:bl)
 /-- a slice of cells that is made; what is copied into all of it -/
 |Qy (e bytes:Nat) (l c:bl)
 |Qz (e:Nat) (x y:bl)
 /-- pointers in a struct,in a row of its own,in a slice -/
 |E4 (x:bl)
 |rJ (x:bl)
 |QB (x v:bl)
 |Ak (xs:List bl)
 |JF (x i:bl)
 |JG (x:bl)
 /-- a call that yields a pointer into a box that it is given -/
 |zc (g:bl) (args:List bl)
 /-- what is appended to nothing: a slice of its own,which may be written -/
 |MZ (e z bytes:Nat) (y:bl)
 deriving Inhabited
structure XO where
 dst:Option Nat
 op:Bv
 g:Option (Nat×Bool)
 deriving Inhabited
inductive aX where
 |skip
 |zf (ops:List CO)
 |seq (a b:aX)
 |join (a b:aX)
 |cond (c:bl) (a b:aX)
 |block (id:Nat) (c:aX)
 |loop (c:aX)
 |exit (id:Nat)
 |ret
 |yW (g:bl) (ps wr:List Nat) (as bd:aX)
 |uC (ops:List CO) (dr:List (Nat×Nat))
 |scope (l:Nat) (c r:aX)
 |label (l:Nat)
 |goto (l:Nat)
 |aF (ops:List XO)
 /-- as uC; operation k may raise,those of dep come behind it -/
 |vW (ops:List CO) (dr:List (Nat×Nat)) (k:Nat) (dep:List Nat)
 deriving Inhabited
def AV.cells:AV->List AV
 | .agg cs=>cs
 |v=>[v]
def AV.scalar:AV->Bool
 | .agg _| .o7 _=>false
 |_=>true
def E5:Value->Option AV
 | .bool b=>some (.bool b)
 | .int k n=>some (.int k n)
 | .float k n=>some (.float k n)
 | .string s=>some (.str s)
 | .pointer none=>some .lF
 | .slice none 0 0=>some .bI
 | .nilFunc=>some .wT
 | .nilIface=>some .eH
 |_=>none
def U7:Value->Option AV
 | .agg cs=>(cs.toList.mapM E5).map .agg
 |v=>E5 v
def vl(op:BinOp) (k:IntKind) (x y:Int):Option Int:=
 let a:=BitVec.ofInt k.bits x
 let b:=BitVec.ofInt k.bits y
 match op with
 | .and=>some (k.wrap (a&&&b).toNat)
 | .or=>some (k.wrap (a|||b).toNat)
 | .xor=>some (k.wrap (a^^^b).toNat)
 | .andNot=>some (k.wrap (a&&& ~~~b).toNat)
 |_=>none
def o8(op:BinOp) (k:IntKind) (x y:Int):Option AV:=
 match op with
 | .add=>some (.int k (k.wrap (x+y)))
 | .sub=>some (.int k (k.wrap (x-y)))
 | .mul=>some (.int k (k.wrap (x*y)))
 | .quo=>if y=0 then none else some (.int k (k.wrap (x.tdiv y)))
 | .rem=>if y=0 then none else some (.int k (x.tmod y))
 | .and| .or| .xor| .andNot=>(vl op k x y).map (.int k)
 | .eql=>some (.bool (x==y))
 | .neq=>some (.bool (x !=y))
 | .lss=>some (.bool (decide (x<y)))
 | .leq=>some (.bool (decide (x<=y)))
 | .gtr=>some (.bool (decide (x>y)))
 | .geq=>some (.bool (decide (x>=y)))
 |_=>none
def Am(n:Nat):Bool:=match FloatKind.f64.decode n with
 | .nan ..=>true
 |_=>false
def C3:FloatKind->Option Nat->Option AV
 |k,some r=>some (.float k r)
 | .f64,none=>some .gR
 | .f32,none=>none
def Gu:BinOp->Option AV
 | .add| .sub| .mul| .quo=>some .gR
 | .neq=>some (.bool true)
 | .eql| .lss| .leq| .gtr| .geq=>some (.bool false)
 |_=>none
def wV(op:BinOp) (k:FloatKind) (x y:Nat):Option AV:=
 let c:=k.format.order x y
 match op with
 | .add=>C3 k (k.format.add x y)
 | .sub=>C3 k (k.format.sub x y)
 | .mul=>C3 k (k.format.mul x y)
 | .quo=>C3 k (k.format.div x y)
 | .eql=>some (.bool (c==some .eq))
 | .neq=>some (.bool (c !=some .eq))
 | .lss=>some (.bool (c==some .lt))
 | .leq=>some (.bool (c==some .lt||c==some .eq))
 | .gtr=>some (.bool (c==some .gt))
 | .geq=>some (.bool (c==some .gt||c==some .eq))
 |_=>none
def pH(op:BinOp) (k:IntKind) (x y:Int):Option AV:=
 if y<0 then none else
 match op with
 | .shl=>some (.int k (k.wrap (x*2^min y.toNat k.bits)))
 | .shr=>some (.int k (x.fdiv (2^min y.toNat k.bits)))
 |_=>none
def dI(op:BinOp) (a b:AV):Option AV:=
 match op,a,b with
 | .shl,.int k x,.int _ y=>pH .shl k x y
 | .shr,.int k x,.int _ y=>pH .shr k x y
 |op,.int k x,.int k' y=>if k=k' then o8 op k x y else none
 |op,.float k x,.float k' y=>if k=k' then wV op k x y else none
 |op,.gR,.float .f64 _=>Gu op
 |op,.float .f64 _,.gR=>Gu op
 |op,.gR,.gR=>Gu op
 |_,_,_=>none
def QC(neg:Bool):AV->AV->Option AV
 | .bool x,.bool y=>some (.bool (if neg then x !=y else x==y))
 |_,_=>none
def sC:CK->AV->AV->Option Bool
 | .b,.bool x,.bool y=>some (x==y)
 | .i,.int k x,.int k' y=>if k=k' then some (x==y)else none
 | .f,.float k x,.float k' y=>if k=k' then some (k.format.order x y==some .eq)else none
 | .s,.str x,.str y=>some (x==y)
 |_,_,_=>none
def cO:List CK->List AV->List AV->Option Bool
 |[],[],[]=>some true
 |k::ks,a::as,b::bs=>match sC k a b,cO ks as bs with
  |some x,some y=>some (x&&y)
  |_,_=>none
 |_,_,_=>none
def M0(op:UnOp) (a:AV):Option AV:=
 match op,a with
 | .neg,.int k n=>some (.int k (k.wrap (0-n)))
 | .xor,.int k n=>(vl .xor k (if k.signed then -1 else k.max) n).map (.int k)
 | .neg,.float k b=>some (.float k (Op.negFloat k b))
 | .not,.bool b=>some (.bool !b)
 |_,_=>none
def zg(k:IntKind):AV->Option AV
 | .int _ n=>some (.int k (k.wrap n))
 |_=>none
def wW(k:FloatKind):AV->Option AV
 | .int _ n=>some (.float k (k.nearest n))
 |_=>none
def vm(k:IntKind):AV->Option AV
 | .float s b=>match(s.decode b).toInt .zero with
  |some n=>if k.min<=n/\n<=k.max then some (.int k n)else none
  |none=>none
 |_=>none
def An(b:Nat):Option AV:=
 match FloatKind.f64.decode b with
 | .nan _ t=>if FloatKind.f64.format.quiet t=t then some (.float .f64 b)else none
 |d=>some (.float .f64 (FloatKind.f64.encode (d.integral .even)))
def QD:Xt->AV->Option AV
 | .Bt,.float .f64 b=>some (.int .u64 b)
 | .ffrom,.int .u64 n=>some (.float .f64 n.toNat)
 | .rte,.float .f64 b=>An b
 |_,_=>none
def bP(z:Nat):Nat->List AV->List (List AV)
 |0,_=>[]
 |n+1,cs=>cs.take z::bP z n (cs.drop z)
def DW(s:ByteArray) (i:Int):Option AV:=
 if 0<=i/\i<s.size then some (.int .u8 (s[i.toNat]!).toNat)else none
def Ao:AV->Option AV
 | .bI=>some (.int .i64 0)
 | .sl xs=>some (.int .i64 xs.length)
 |_=>none
def Bw:Bool->AV->Option Bool
 |neg,.bI=>some (!neg)
 |neg,.sl _=>some neg
 |_,_=>none
def My(mx:Bool):AV->AV->Option AV
 | .int k x,.int _ y=>some (.int k (if mx then(if y>x then y else x)else(if y<x then y else x)))
 | .float k x,.float k' y=>if k=k' then match k.format.order x y with
   |none=>if k=.f64 then some .gR else none
   |some .lt=>some (.float k (if mx then y else x))
   |some .gt=>some (.float k (if mx then x else y))
   |some .eq=>some (.float k (if mx then(if(k.decode x).neg then y else x)else(if(k.decode x).neg then x else y)))
  else none
 | .gR,.float .f64 _=>some .gR
 | .float .f64 _,.gR=>some .gR
 | .gR,.gR=>some .gR
 |_,_=>none
def Gv:AV->Nat->Option AV
 | .o7 vs,i=>vs[i]?
 |_,_=>none
def bF(cs:List AV) (off:Nat):Option Nat->Option AV
 |none=>cs[off]?
 |some n=>if off+n<=cs.length then some (.agg ((cs.drop off).take n))else none
def gS:List AV->List (Nat×List AV)->List AV
 |cs,[]=>cs
 |cs,(off,ps)::rest=>gS (cs.take off++ps++cs.drop (off+ps.length)) rest
def JH:AV->Value
 | .bool b=>.bool b
 | .int k n=>.int k n
 | .float k n=>.float k n
 | .str s=>.string s
 | .lF=>.pointer none
 | .bI=>.slice none 0 0
 |_=>undef
def lX:AV->Bool
 | .bool _| .int .. | .float .. | .str _| .lF| .bI=>true
 |_=>false
def tC:AV->Value
 | .agg cs=>.agg (cs.map JH).toArray
 |a=>JH a
def tD:AV->Bool
 | .agg cs=>cs.all lX
 |a=>lX a
def C4(t:Nat) (z:AV):AV->Option AV
 | .eH=>some (.o7 [z,.bool false])
 | .iface t' a=>some (if t'=t then .o7 [a,.bool true]else .o7 [z,.bool false])
 |_=>none
def E6(neg:Bool):AV->Option Bool
 | .eH=>some !neg
 | .iface _ _=>some neg
 |_=>none
def yX(neg:Bool):SV->Option Bool
 | .ptr _ _| .rp _| .dat (.ref _) _=>some neg
 | .dat .lF _=>some !neg
 |_=>none
def i4:AV->Bool
 | .iface _ a=>tD a
 |_=>false
def M1:AV->Value
 | .iface t a=>.iface t (tC a)
 |_=>undef
def dz(p:AV):List PanicEntry:=[{v:=M1 p,recovered:=false}]
def lk:Nat->List (Nat×SV)->Option SV
 |_,[]=>none
 |n,(m,v)::r=>bif n==m then some v else lk n r
def bY:Nat->List (Nat×bO)->Option bO
 |_,[]=>none
 |n,(m,v)::r=>bif n==m then some v else bY n r
def dU:Nat->List (Nat×Nat)->Option Nat
 |_,[]=>none
 |n,(m,v)::r=>bif n==m then some v else dU n r
def nq:Nat->bO->List (Nat×bO)->List (Nat×bO)
 |_,_,[]=>[]
 |n,b,(m,v)::r=>bif n==m then(m,b)::r else(m,v)::nq n b r
def lG:Nat->List (Nat×Nat)->List (Nat×Nat)
 |_,[]=>[]
 |n,(m,v)::r=>bif n==m then lG n r else(m,v)::lG n r
def S.put(s:S) (d:Option Nat) (v:SV):S:=
 match d with
 |none=>s
 |some d=>{s with slots:=(d,v)::s.slots}
def bC(s:S):bl->Option SV
 | .t n=>lk n s.slots
 | .k v=>some (.dat v none)
def aM(s:S) (x:bl):Option AV:=
 match bC s x with
 |some (.dat a _)=>some a
 |some (.rp cs)=>some (.ref cs)
 |_=>none
def cQ(s:S):List bl->Option (List AV)
 |[]=>some []
 |x::r=>match aM s x,cQ s r with
  |some a,some as=>some (a::as)
  |_,_=>none
def ah{α:Type} (o:Option α) (k:α->Prop):Prop:=
 match o with
 |some a=>k a
 |none=>False
@[simp] theorem az {α:Type} (a:α) (k:α->Prop):ah (some a) k=k a:=rfl
@[simp] theorem M3 {α:Type} (k:α->Prop):ah none k=False:=rfl
def iQ:AV->Option Nat->Bool
 | .o7 _,_=>false
 | .agg _,some _=>false
 |_,_=>true
def iR(s:S):List (Nat×Nat×bl)->Option (List (Nat×List AV))
 |[]=>some []
 |(off,sz,x)::r=>match aM s x,iR s r with
  |some a,some ps=>if a.cells.length=sz/\iQ a none=true then some ((off,a.cells)::ps)else none
  |_,_=>none
def lf(s:S) (z:Nat):List bl->Option (List (List AV))
 |[]=>some []
 |x::r=>match aM s x,lf s z r with
  |some a,some rows=>if a.cells.length=z/\iQ a none=true then some (a.cells::rows)else none
  |_,_=>none
def idxOf:AV->Option Int
 | .int _ i=>some i
 |_=>none
def setCells(cs:List AV) (off:Nat) (ps:List AV):List AV:=cs.take off++ps++cs.drop (off+ps.length)
def uD:Option AV->Option Int
 |some a=>idxOf a
 |none=>none
def wX(s:S):Option bl->Option Int
 |none=>some 0
 |some x=>uD (aM s x)
def wY(s:S) (xs:List (List AV)):Option bl->Option Int
 |none=>some xs.length
 |some x=>uD (aM s x)
def C5(a:AV) (xs:List (List AV)) (l h:Int):AV:=
 match a with
 | .bI=>.bI
 |_=>.sl ((xs.take h.toNat).drop l.toNat)
structure bt where
 c:Nat->List AV->AV->Option Nat->Prop
 p:Nat->List (List AV)->List (Option AV)->AV->Option Nat->List (List AV)->Prop
 /-- what a function that is ranged AN yields,one after the other -/
 i:AV->List (List AV)->Prop
 /-- a function that raises this -/
 q:Nat->List (List AV)->List (Option AV)->AV->List (List AV)->Prop
 /-- a function that yields a pointer to a new box -/
 n:Nat->List AV->List AV->Prop
 /-- a function that is deferred,with what it recovers: nothing,or what was raised -/
 d:Nat->AV->List (List AV)->List (Option AV)->List (List AV)->Prop
 /-- a function that takes a token with one of its boxes,or leaves one there: which box,which cell,what kind -/
 t:Nat->List (List AV)->Option (Nat×Nat×Nat)->List (Option AV)->AV->List (List AV)->Option (Nat×Nat×Nat)->Prop
 /-- a function that yields a pointer into one of its boxes: which,where -/
 r:Nat->List (List AV)->List (Option AV)->Nat->Nat->Prop
def cI(h:Bool) (s:S):List bl->Option (List (Option AV)×List Nat)
 |[]=>some ([],[])
 |x::r=>match bC s x,cI h s r with
  |some (.dat a _),some (as,bs)=>some (some a::as,bs)
  |some (.rp cs),some (as,bs)=>some (some (.ref cs)::as,bs)
  |some (.ptr b 0),some (as,bs)=>some (none::as,b::bs)
  |some (.pt 0 [(b,0)]),some (as,bs)=>bif h then some (some .hole::as,b::bs)else none
  |_,_=>none
def pI:List (Option AV)->Bool
 |[]=>true
 |some .hole::_=>false
 |some _::r=>pI r
 |none::r=>pI r
theorem Bx{a:AV} {r:List (Option AV)} (h:pI (some a::r)=true):a≠.hole/\pI r=true:=by
 cases a<;>first|exact⟨by simp,h⟩|(cases h)
def pJ(s:S):List bl->Option (List (Nat×Nat))
 |[]=>some []
 |x::r=>match bC s x,pJ s r with
  |some (.ptr b o),some ps=>some ((b,o)::ps)
  |_,_=>none
def aT(l:List (Nat×bO)):List Nat->Option (List (List AV))
 |[]=>some []
 |b::bs=>match bY b l,aT l bs with
  |some x,some css=>some (x.cells::css)
  |_,_=>none
def dA(l:List (Nat×bO)):List Nat->Option (List (List AV))
 |[]=>some []
 |b::bs=>match bY b l,dA l bs with
  |some ⟨cs,[]⟩,some css=>some (cs::css)
  |_,_=>none
def cH:List Nat->List (List AV)->List (Nat×bO)->List (Nat×bO)
 |b::bs,cs::css,l=>cH bs css (nq b ⟨cs,[]⟩ l)
 |_,_,l=>l
def C6(b o q:Nat):List (Nat×bO)->List (Nat×bO)
 |[]=>[]
 |(k,x)::r=>bif b==k then(k,⟨x.cells,[(o,q)]⟩)::r else(k,x)::C6 b o q r
def U8(bx:List (Nat×bO)) (lv:List (Nat×Nat)) (ids:List Nat):Option (Nat×Nat×Nat)->Option (Option Nat)
 |none=>some none
 |some (j,o,e)=>(ids[j]?).bind fun b=>(bY b bx).bind fun x=>(dU o x.tags).bind fun q=>if dU q lv=some e then some (some q)else none
def Gw(id:Nat) (ids:List Nat):Option (Nat×Nat×Nat)->List (Nat×bO)->List (Nat×bO)
 |none,l=>l
 |some (j,o,_),l=>match ids[j]? with
  |some b=>C6 b o id l
  |none=>l
def M4(id:Nat):Option (Nat×Nat×Nat)->List (Nat×Nat)->List (Nat×Nat)
 |none,l=>l
 |some (_,_,e),l=>(id,e)::l
def Gx:Option Nat->List (Nat×Nat)->List (Nat×Nat)
 |none,l=>l
 |some q,l=>lG q l
def DX(C:bt) (f:Nat) (css:List (List AV)) (as:List (Option AV)) (ids:List Nat) (id:Nat) (bx:List (Nat×bO)) (lv:List (Nat×Nat)) (k:SV->List (Nat×bO)->List (Nat×Nat)->Prop):Prop:=
 ∃tg r css' tg',C.t f css tg as r css' tg'/\ah (U8 bx lv ids tg) fun qo=>k (.dat r none) (Gw id ids tg' (cH ids css' bx)) (M4 id tg' (Gx qo lv))
def jD(b:Nat) (cs:List AV):SV->SV
 | .ptr b' o=>bif b'==b then .rp (cs.drop o)else .ptr b' o
 | .vs b' o n z=>bif b'==b&&decide (n*z<=(cs.drop o).length)then .dat (.sl (bP z n (cs.drop o))) none else .vs b' o n z
 |v=>v
def wZ(b:Nat) (cs:List AV):List (Nat×SV)->List (Nat×SV)
 |[]=>[]
 |(t,v)::r=>(t,jD b cs v)::wZ b cs r
def kz:Nat->List (Nat×bO)->List (Nat×bO)
 |_,[]=>[]
 |n,(m,v)::r=>bif n==m then kz n r else(m,v)::kz n r
def gO:List Nat->List (List AV)->S->S
 |b::bs,cs::css,s=>gO bs css {s with slots:=wZ b cs s.slots,boxes:=kz b s.boxes}
 |_,_,s=>s
theorem qR:∀{ids:List Nat} {css:List (List AV)} {s:S},(gO ids css s).nx=s.nx
 |[],css,s=>rfl
 |b::bs,[],s=>rfl
 |b::bs,cs::css,s=>by rw[gO,qR]
def lg:List (Option AV)->List (List AV)->List AV
 |some a::as,css=>a::lg as css
 |none::as,cs::css=>.ref cs::lg as css
 |_,_=>[]
def iS:List Nat->Bool
 |[]=>true
 |b::bs=>decide (4<=b)&&iS bs
def cz:List Nat->Bool
 |[]=>true
 |b::bs=>!bs.contains b&&cz bs
def rowsOf:AV->Option (List (List AV))
 | .bI=>some []
 | .sl xs=>some xs
 |_=>none
def bD(C:bt) (id:Nat) (o:bH) (K:SV->S->Prop) (s:S):Prop:=
 match o with
 | .mv x=>ah (bC s x) fun v=>K v s
 | .pick c a b=>ah (aM s c) fun
   | .bool t=>ah (bC s a) fun u=>ah (bC s b) fun v=>(t=true->K u s)/\(t=false->K v s)
   |_=>False
 | .alloc cs=>K (.ptr id 0) {s with boxes:=(id,⟨cs,[]⟩)::s.boxes}
 | .box x=>ah (aM s x) fun a=>iQ a none=true/\K (.ptr id 0) {s with boxes:=(id,⟨a.cells,[]⟩)::s.boxes}
 | .build zs parts=>ah (iR s parts) fun ps=>K (.dat (.agg (gS zs ps)) none) s
 | .gA e z xs=>ah (lf s z xs) fun rows=>K (.dat (.sl rows) (some id)) {s with live:=(id,e)::s.live}
 | .ld x sz=>ah (bC s x) fun
   | .ptr b off=>ah (bY b s.boxes) fun bx=>ah (bF bx.cells off sz) fun a=>
     K (.dat a (match sz with|none=>dU off bx.tags|some _=>none)) s
   | .rp cs=>ah (bF cs 0 sz) fun a=>K (.dat a none) s
   |_=>False
 | .st x v sz=>ah (bC s x) fun
   | .ptr b off=>ah (bY b s.boxes) fun bx=>ah (bC s v) fun
     | .dat a q=>iQ a q=true/\a.cells.length=sz/\off+sz<=bx.cells.length/\
       K .undef {s with boxes:=nq b ⟨setCells bx.cells off a.cells,match q with|some q=>(off,q)::bx.tags.filter (fun p=>p.1<off||off+sz<=p.1)|none=>bx.tags.filter (fun p=>p.1<off||off+sz<=p.1)⟩ s.boxes}
     |_=>False
   |_=>False
 | .fa x off=>ah (bC s x) fun
   | .ptr b o=>K (.ptr b (o+off)) s
   | .rp cs=>K (.rp (cs.drop off)) s
   | .pt 2 ps=>K (.pt 2 (ps.drop off)) s
   |_=>False
 | .C1 x i n z=>ah (bC s x) fun p=>ah (aM s i) fun a=>ah (idxOf a) fun i=>(0<=i/\i<n)/\
   match p with
   | .ptr b o=>K (.ptr b (o+i.toNat*z)) s
   | .rp cs=>K (.rp (cs.drop (i.toNat*z))) s
   |_=>False
 | .wk x i z=>ah (bC s x) fun
   | .dat l _=>ah (aM s i) fun a=>ah (idxOf a) fun i=>ah (rowsOf l) fun xs=>(0<=i/\i<xs.length)/\ah (xs[i.toNat]?) fun row=>row.length=z/\K (.rp row) s
   | .vs b off n z'=>ah (aM s i) fun a=>ah (idxOf a) fun i=>(0<=i/\i<n)/\z'=z/\K (.ptr b (off+i.toNat*z)) s
   |_=>False
 | .QX x off sz=>ah (aM s x) fun
   | .agg cs=>ah (bF cs off sz) fun a=>K (.dat a none) s
   |_=>False
 | .JC x i n z sz=>ah (aM s x) fun
   | .agg cs=>ah (aM s i) fun a=>ah (idxOf a) fun i=>(0<=i/\i<n)/\ah (bF cs (i.toNat*z) sz) fun a=>K (.dat a none) s
   |_=>False
 | .bin op x y=>ah (aM s x) fun a=>ah (aM s y) fun b=>ah (dI op a b) fun v=>K (.dat v none) s
 | .eqc ks neg x y=>ah (aM s x) fun
   | .agg as=>ah (aM s y) fun
    | .agg bs=>ah (cO ks as bs) fun e=>K (.dat (.bool (e !=neg)) none) s
    |_=>False
   |_=>False
 | .bb neg x y=>ah (aM s x) fun a=>ah (aM s y) fun b=>ah (QC neg a b) fun v=>K (.dat v none) s
 | .un op x=>ah (aM s x) fun a=>ah (M0 op a) fun v=>K (.dat v none) s
 | .nk k x=>ah (aM s x) fun a=>ah (zg k a) fun v=>K (.dat v none) s
 | .Ag k x=>ah (aM s x) fun a=>ah (wW k a) fun v=>K (.dat v none) s
 | .Bu k x=>ah (aM s x) fun a=>ah (vm k a) fun v=>K (.dat v none) s
 | .Ah x=>ah (bC s x) fun v=>K v s
 | .jW x=>ah (bC s x) fun
   | .dat a _=>ah (Ao a) fun v=>K (.dat v none) s
   | .vs _ _ n _=>K (.dat (.int .i64 n) none) s
   |_=>False
 | .Gt n=>K (.dat (.int .i64 n) none) s
 | .app e z bytes x y=>ah (bC s x) fun
   | .dat a q=>ah (rowsOf a) fun xs=>ah (aM s y) fun b=>ah (rowsOf b) fun ys=>
     (xs.length+ys.length)*bytes<=140737488355328/\(∀r∈xs,r.length=z)/\(∀r∈ys,r.length=z)/\
     (match a,q with
      | .bI,_=>if ys=[]then K (.dat .bI none) s else K (.dat (.sl (xs++ys)) (some id)) {s with live:=(id,e)::s.live}
      | .sl _,some q=>dU q s.live=some e/\K (.dat (.sl (xs++ys)) (some id)) {s with live:=(id,e)::lG q s.live}
      |_,_=>False)
   |_=>False
 | .call f args=>ah (cQ s args) fun as=>∃r fr,C.c f as r fr/\K (.dat r (fr.map fun _=>id)) {s with live:=match fr with|some e=>(id,e)::s.live|none=>s.live}
 | .aK f args=>ah (cI true s args) fun p=>cz p.2=true/\ah (aT s.boxes p.2) fun css=>
   ∃r fr css',C.p f css p.1 r fr css'/\K (.dat r (fr.map fun _=>id)) {s with boxes:=cH p.2 css' s.boxes,live:=match fr with|some e=>(id,e)::s.live|none=>s.live}
 | .ee g args=>ah (aM s g) fun
   | .fn (.func f) first caps=>ah (cQ s args) fun as=>∃r fr,C.c f (first++as++caps) r fr/\K (.dat r (fr.map fun _=>id)) {s with live:=match fr with|some e=>(id,e)::s.live|none=>s.live}
   |_=>False
 | .ext x i=>ah (aM s x) fun a=>ah (Gv a i) fun v=>K (.dat v none) s
 | .Ai fn first caps=>ah (cQ s first) fun as=>ah (cI false s caps) fun p=>(cz p.2&&iS p.2)=true/\ah (aT s.boxes p.2) fun css=>
   K (.dat (.fn fn as (lg p.1 css)) none) (gO p.2 css s)
 | .JD z x lo hi=>ah (aM s x) fun a=>ah (rowsOf a) fun xs=>
   ah (wX s lo) fun l=>ah (wY s xs hi) fun h=>
   (0<=l/\l<=h/\h<=xs.length)/\(∀r∈xs,r.length=z)/\K (.dat (C5 a xs l h) none) s
 | .nc x=>ah (bC s x) fun
   | .ptr b o=>K (.ptr b o) s
   | .rp cs=>K (.rp cs) s
   | .dat (.fn (.func f) as bs) q=>K (.dat (.fn (.func f) as bs) q) s
   | .dat (.ref cs) _=>K (.rp cs) s
   |_=>False
 | .mm mx args=>ah (cQ s args) fun
   |[]=>False
   |a::r=>ah (r.foldlM (My mx) a) fun v=>K (.dat v none) s
 | .xt e x=>ah (aM s x) fun a=>ah (QD e a) fun v=>K (.dat v none) s
 | .E3 x n z=>ah (bC s x) fun
   | .rp cs=>n*z<=cs.length/\K (.dat (.sl (bP z n cs)) none) s
   | .ptr b off=>4<=b/\ah (bY b s.boxes) fun bx=>n*z<=(bx.cells.drop off).length/\K (.dat (.sl (bP z n (bx.cells.drop off))) none) (gO [b] [bx.cells] s)
   |_=>False
 | .Mw neg x=>ah (aM s x) fun a=>ah (Bw neg a) fun b=>K (.dat (.bool b) none) s
 | .gm g args=>ah (aM s g) fun
   | .fn (.func f) [] []=>ah (cI true s args) fun p=>cz p.2=true/\ah (aT s.boxes p.2) fun css=>
     ∃r fr css',C.p f css p.1 r fr css'/\K (.dat r (fr.map fun _=>id)) {s with boxes:=cH p.2 css' s.boxes,live:=match fr with|some e=>(id,e)::s.live|none=>s.live}
   |_=>False
 | .wU f args=>ah (cI true s args) fun p=>cz p.2=true/\ah (dA s.boxes p.2) fun css=>
   ∃r,C.p f css p.1 r none css/\K (.dat r none) s
 | .pG g args=>ah (aM s g) fun
   | .fn (.func f) [] []=>ah (cI true s args) fun p=>cz p.2=true/\ah (dA s.boxes p.2) fun css=>
     ∃r,C.p f css p.1 r none css/\K (.dat r none) s
   |_=>False
 | .Qw x n z hi=>ah (bC s x) fun
   | .ptr b off=>ah (aM s hi) fun a=>ah (idxOf a) fun h=>(0<=h/\h<=n)/\K (.vs b off h.toNat z) s
   |_=>False
 | .Aj e z bytes y x=>ah (bC s y) fun
   | .vs b off n z'=>ah (bC s x) fun
     | .ptr b' _=>(b'=b/\z'=z)/\ah (bY b s.boxes) fun bx=>(n*z<=(bx.cells.drop off).length/\n*bytes<=140737488355328)/\
       (if n=0 then K (.dat .bI none) s else K (.dat (.sl (bP z n (bx.cells.drop off))) (some id)) {s with live:=(id,e)::s.live})
     |_=>False
   |_=>False
 | .QY x i=>ah (aM s x) fun
   | .str b=>ah (aM s i) fun a=>ah (idxOf a) fun j=>ah (DW b j) fun v=>K (.dat v none) s
   |_=>False
 | .jC x sz=>ah (bC s x) fun
   | .pt 2 ps=>match sz,ps with
    |none,(b,o)::_=>K (.ptr b o) s
    |some n,ps=>n<=ps.length/\K (.pt 0 (ps.take n)) s
    |_,_=>False
   |_=>False
 | .rN f args=>ah (cI true s args) fun p=>cz p.2=true/\ah (aT s.boxes p.2) fun css=>
   ∃v css',C.q f css p.1 v css'/\K (.dat v none) {s with boxes:=cH p.2 css' s.boxes}
def w5(q n:Nat) (a:AV) (id:Nat):SV->SV
 | .raw q' n'=>bif q'==q&&n'==n then .dat a (some id)else .raw q' n'
 |v=>v
def yY(q n:Nat) (a:AV) (id:Nat):List (Nat×SV)->List (Nat×SV)
 |[]=>[]
 |(t,v)::r=>(t,w5 q n a id v)::yY q n a id r
def rO(b:Nat) (ps:List (Nat×Nat)):SV->SV
 | .ptr b' o=>bif b'==b then .pt 2 (ps.drop o)else .ptr b' o
 |v=>v
def rP(b:Nat) (ps:List (Nat×Nat)):List (Nat×SV)->List (Nat×SV)
 |[]=>[]
 |(t,v)::r=>(t,rO b ps v)::rP b ps r
def rQ(z:Nat) (rows:List (List AV)):Bool:=rows.all fun r=>r.length==z&&r.all lX
def bu(C:bt) (id:Nat) (o:Bv) (K:SV->S->Prop) (X:AV->S->Prop) (s:S):Prop:=
 match o with
 | .o c=>bD C id c K s
 | .call f args=>bD C id (.call f args) K s\/(ah (cQ s args) fun as=>(∃cs,C.n f as cs/\K (.ptr id 0) {s with boxes:=(id,⟨cs,[]⟩)::s.boxes})\/(∃p,C.q f [] (as.map some) p []/\X p s)\/
   ∃rows e z,C.c f as (.sl rows) (some e)/\rQ z rows=true/\K (.vs id 0 rows.length z) {s with boxes:=(id,⟨rows.flatten,[]⟩)::s.boxes})
 | .aK f args=>bD C id (.aK f args) K s\/ah (cI true s args) fun p=>cz p.2=true/\ah (aT s.boxes p.2) fun css=>
   (∃v css',C.q f css p.1 v css'/\X v {s with boxes:=cH p.2 css' s.boxes})\/DX C f css p.1 p.2 id s.boxes s.live fun v bx lv=>K v {s with boxes:=bx,live:=lv}
 | .ee b g args=>match bC s g with
   |some (.mM f as bs)=>ah (cI true s args) fun p=>cz (p.2++bs)=true/\ah (aT s.boxes (p.2++bs)) fun css=>
     (∃r fr css',C.p f css (p.1++as) r fr css'/\K (.dat r (fr.map fun _=>id)) {s with boxes:=cH (p.2++bs) css' s.boxes,live:=match fr with|some e=>(id,e)::s.live|none=>s.live})\/
     (∃v css',C.q f css (p.1++as) v css'/\X v {s with boxes:=cH (p.2++bs) css' s.boxes})\/DX C f css (p.1++as) (p.2++bs) id s.boxes s.live fun v bx lv=>K v {s with boxes:=bx,live:=lv}
   |_=>bD C id (if b then .gm g args else .ee g args) K s
 | .QZ f caps=>ah (cI false s caps) fun p=>K (.mM f p.1 p.2) s
 | .Gm x=>ah (aM s x) fun a=>i4 a=true/\X a s
 | .Gn t x=>ah (aM s x) fun a=>iQ a none=true/\K (.dat (.iface t a) none) s
 | .Mx t z x=>ah (aM s x) fun a=>ah (C4 t z a) fun v=>K (.dat v none) s
 | .Qx neg x=>ah (aM s x) fun a=>ah (E6 neg a) fun b=>K (.dat (.bool b) none) s
 | .JE neg x=>ah (bC s x) fun v=>ah (yX neg v) fun b=>K (.dat (.bool b) none) s
 | .Qy e bytes l c=>ah (aM s l) fun a=>ah (idxOf a) fun l=>ah (aM s c) fun b=>ah (idxOf b) fun c=>(0<=l/\l<=c/\c*bytes<=140737488355328)/\K (.raw id l.toNat) {s with live:=(id,e)::s.live}
 | .Qz e x y=>ah (bC s x) fun
   | .raw q n=>ah (aM s y) fun b=>ah (rowsOf b) fun ys=>(ys.length=n/\∀r∈ys,r.length=1)/\dU q s.live=some e/\
     K (.dat (.int .i64 n) none) {s with slots:=yY q n (.sl ys) id s.slots,live:=(id,e)::lG q s.live}
   |_=>False
 | .E4 x=>ah (bC s x) fun
   | .ptr b o=>K (.pt 0 [(b,o)]) s
   |_=>False
 | .rJ x=>ah (bC s x) fun
   | .pt 0 ps=>K (.pt 2 ps) s
   |_=>False
 | .QB x v=>ah (bC s x) fun
   | .ptr b 0=>ah (bC s v) fun
     | .pt 0 ps=>ah (bY b s.boxes) fun y=>(4<=b/\y.cells.length=1/\ps.length=1)/\K .undef {s with slots:=rP b ps s.slots,boxes:=kz b s.boxes}
     |_=>False
   |_=>False
 | .Ak xs=>ah (pJ s xs) fun ps=>K (.pt 1 ps) s
 | .JF x i=>ah (bC s x) fun
   | .pt 1 ps=>ah (aM s i) fun a=>ah (idxOf a) fun i=>(0<=i/\i<ps.length)/\K (.pt 2 (ps.drop i.toNat)) s
   |_=>False
 | .JG x=>ah (bC s x) fun
   | .pt 1 ps=>K (.dat (.int .i64 ps.length) none) s
   |_=>False
 | .zc g args=>ah (aM s g) fun
   | .fn (.func f) [] []=>ah (cI true s args) fun p=>cz p.2=true/\ah (aT s.boxes p.2) fun css=>∃j o b,C.r f css p.1 j o/\p.2[j]? =some b/\K (.ptr b o) {s with boxes:=cH p.2 css s.boxes}
   |_=>False
 | .MZ e z bytes y=>ah (aM s y) fun a=>ah (rowsOf a) fun rows=>(rows≠[]/\rows.length*bytes<=140737488355328)/\rQ z rows=true/\K (.vs id 0 rows.length z) {s with boxes:=(id,⟨rows.flatten,[]⟩)::s.boxes}
def dQ(s:S) (g:Option (Nat×Bool)) (yes no:Prop):Prop:=
 match g with
 |none=>yes
 |some (t,want)=>match lk t s.slots with
  |some (.dat (.bool b) _)=>(b=want->yes)/\(b=!want->no)
  |some .undef=>no
  |_=>False
def iT(C:bt) (base:Nat):Nat->List CO->(S->Prop)->S->Prop
 |_,[],K,s=>K s
 |i,o::r,K,s=>dQ s o.g
   (bD C (base+i) o.op (fun v s'=>iT C base (i+1) r K (s'.put o.dst v)) s)
   (iT C base (i+1) r K (s.put o.dst .undef))
def dZ(C:bt) (base:Nat):Nat->List XO->(S->Prop)->(AV->S->Prop)->S->Prop
 |_,[],K,_,s=>K s
 |i,o::r,K,X,s=>dQ s o.g
   (bu C (base+i) o.op (fun v s'=>dZ C base (i+1) r K X (s'.put o.dst v)) X s)
   (dZ C base (i+1) r K X (s.put o.dst .undef))
def jE(k:S->Prop) (Q:Exit->S->Prop):Exit->S->Prop
 | .normal,s=>k s
 |e,s=>Q e s
def gn(id:Nat) (Q:Exit->S->Prop):Exit->S->Prop
 | .exit id',s=>if id'=id then Q .normal s else Q (.exit id') s
 |e,s=>Q e s
def Bq(m:List (Nat×Nat)) (q:Nat):Nat:=(dU q m).getD q
def cK(m:List (Nat×Nat)) (nx:Nat):SV->SV->Prop
 | .dat a _,.dat a' none=>a=a'
 | .dat a (some q),.dat a' (some q')=>a=a'/\q=Bq m q'/\q'<nx
 | .ptr b o,.ptr b' o'=>b=b'/\o=o'/\b'<nx
 | .rp cs,.rp cs'=>cs=cs'
 | .vs b o n z,.vs b' o' n' z'=>(b=b'/\o=o')/\(n=n'/\z=z')/\b'<nx
 | .undef,.undef=>True
 | .mM f as bs,.mM f' as' bs'=>f=f'/\as=as'/\bs=bs'/\∀b∈bs',b<nx
 | .pt k ps,.pt k' ps'=>k=k'/\ps=ps'/\∀p∈ps',p.1<nx
 |_,_=>False
def iH(m:List (Nat×Nat)) (nx:Nat) (a:List (Nat×SV)):List (Nat×SV)->Prop
 |[]=>True
 |(t,v)::r=>ah (lk t a) (fun u=>cK m nx u v)/\iH m nx a r
def kO(m:List (Nat×Nat)) (nx:Nat) (a:List (Nat×Nat)):List (Nat×Nat)->Prop
 |[]=>True
 |(o,q)::r=>(dU o a=some (Bq m q)/\q<nx)/\kO m nx a r
def iI(m:List (Nat×Nat)) (nx:Nat) (a:List (Nat×bO)):List (Nat×bO)->Prop
 |[]=>True
 |(b,x)::r=>ah (bY b a) (fun y=>y.cells=x.cells/\kO m nx y.tags x.tags/\b<nx)/\iI m nx a r
def jl(m:List (Nat×Nat)) (nx:Nat) (a:List (Nat×Nat)):List (Nat×Nat)->Prop
 |[]=>True
 |(q,e)::r=>(dU (Bq m q) a=some e/\q<nx)/\jl m nx a r
def bJ(m:List (Nat×Nat)) (l:List (Nat×Nat)):Prop:=((l.map fun p=>Bq m p.1).Nodup)
def Le(s s1:S):Prop:=
 4<=s1.nx/\∃m,iH m s1.nx s.slots s1.slots/\iI m s1.nx s.boxes s1.boxes/\jl m s1.nx s.live s1.live/\bJ m s1.live
def Vs(F:S->Prop) (s:S):Prop:=∃ids,(cz ids&&iS ids)=true/\ah (aT s.boxes ids) fun css=>F (gO ids css s)
def down(F:S->Prop) (s:S):Prop:=∃s1,Le s s1/\(F s1\/Vs F s1)\/F s
theorem iJ{F:S->Prop} {s:S} (h:F s):down F s:=⟨s,.inr h⟩
theorem qS{F:S->Prop} {s s1:S} (h:Le s s1) (hF:F s1):down F s:=⟨s1,.inl ⟨h,.inl hF⟩⟩
theorem w7{F:S->Prop} {s s1:S} (h:Le s s1) (hF:Vs F s1):down F s:=⟨s1,.inl ⟨h,.inr hF⟩⟩
def mN(F:(Exit->S->Prop)->S->Prop) (Q:Exit->S->Prop):Nat->S->Prop
 |0,_=>False
 |n+1,s=>F (jE (down (mN F Q n)) Q) s
def bl.rd:bl->List Nat
 | .t n=>[n]
 | .k _=>[]
def DY:Option bl->List Nat
 |some x=>x.rd
 |none=>[]
def aW:List bl->List Nat
 |[]=>[]
 |x::r=>x.rd++aW r
def tE:List (Nat×Nat×bl)->List Nat
 |[]=>[]
 |(_,_,x)::r=>x.rd++tE r
def bH.rd:bH->List Nat
 | .mv x=>x.rd
 | .pick c a b=>c.rd++a.rd++b.rd
 | .alloc _=>[]
 | .box x=>x.rd
 | .build _ ps=>tE ps
 | .gA _ _ xs=>aW xs
 | .ld x _=>x.rd
 | .st x v _=>x.rd++v.rd
 | .fa x _=>x.rd
 | .C1 x i _ _=>x.rd++i.rd
 | .wk x i _=>x.rd++i.rd
 | .QX x _ _=>x.rd
 | .JC x i _ _ _=>x.rd++i.rd
 | .bin _ x y=>x.rd++y.rd
 | .eqc _ _ x y=>x.rd++y.rd
 | .bb _ x y=>x.rd++y.rd
 | .un _ x=>x.rd
 | .nk _ x=>x.rd
 | .Ag _ x=>x.rd
 | .Bu _ x=>x.rd
 | .Ah x=>x.rd
 | .jW x=>x.rd
 | .Gt _=>[]
 | .app _ _ _ x y=>x.rd++y.rd
 | .call _ args=>aW args
 | .aK _ args=>aW args
 | .ee g args=>g.rd++aW args
 | .ext x _=>x.rd
 | .Ai _ a b=>aW a++aW b
 | .JD _ x lo hi=>x.rd++DY lo++DY hi
 | .nc x=>x.rd
 | .mm _ args=>aW args
 | .xt _ x=>x.rd
 | .E3 x _ _=>x.rd
 | .QY x i=>x.rd++i.rd
 | .Mw _ x=>x.rd
 | .gm g args=>g.rd++aW args
 | .wU _ args=>aW args
 | .pG g args=>g.rd++aW args
 | .Qw x _ _ hi=>x.rd++hi.rd
 | .Aj _ _ _ y x=>y.rd++x.rd
 | .jC x _=>x.rd
 | .rN _ args=>aW args
def bH.isApp:bH->Bool
 | .app ..=>true
 |_=>false
def bH.rR:bH->List Nat
 | .ld x _=>x.rd
 | .st x _ _=>x.rd
 | .aK _ args=>aW args
 | .gm _ args=>aW args
 | .wU _ args=>aW args
 | .pG _ args=>aW args
 | .rN _ args=>aW args
 | .Ai _ _ b=>aW b
 | .E3 x _ _=>x.rd
 | .Aj _ _ _ _ x=>x.rd
 |_=>[]
def bH.DZ:bH->List Nat
 | .st x _ _=>x.rd
 | .aK _ args=>aW args
 | .rN _ args=>aW args
 | .gm _ args=>aW args
 | .Ai _ _ b=>aW b
 | .E3 x _ _=>x.rd
 |_=>[]
def bH.vn:bH->Bool
 | .Ai _ _ b=>!b.isEmpty
 | .E3 ..=>true
 |_=>false
def bH.pK:bH->List Nat
 | .mv x| .fa x _| .C1 x _ _ _| .wk x _ _| .nc x| .Ah x| .jC x _| .Qw x _ _ _=>x.rd
 | .pick _ a b=>a.rd++b.rd
 |_=>[]
def bH.Gy:bH->Bool
 | .alloc _| .box _=>true
 |_=>false
def bH.ro:bH->bH
 | .aK f args=>.wU f args
 | .gm g args=>.pG g args
 |o=>o
def CO.ro(o:CO):CO:=⟨o.dst,o.op.ro,o.g⟩
def mI(ro:List Nat):Nat->List CO->List CO
 |_,[]=>[]
 |i,o::r=>(bif ro.contains i then o.ro else o)::mI ro (i+1) r
theorem oo:∀{i:Nat} {l:List CO},mI [] i l=l
 |_,[]=>rfl
 |i,o::l=>by show o::mI [] (i+1) l=_;rw[oo]
def uE(k:Nat) (dep:List Nat) (i:Nat) (o:CO):CO:=
 if i=k then(match o.op with| .aK f args=>⟨o.dst,.rN f args,o.g⟩|_=>o)else if dep.contains i=true then⟨none,.mv (.k .lF),none⟩else o
def lH(k:Nat) (dep:List Nat):Nat->List CO->List CO
 |_,[]=>[]
 |i,o::r=>uE k dep i o::lH k dep (i+1) r
def CO.rd(o:CO):List Nat:=o.op.rd++(match o.g with|some (t,_)=>[t]|none=>[])
abbrev Tag:=Option (Option Nat)
def Tag.yU:Tag->Nat->Bool
 |none,_=>true
 |some z,b=>z==some b
def Tag.U9:Tag->Tag->Bool
 |some none,_=>true
 |_,some none=>true
 |some (some a),some (some b)=>a !=b
 |_,_=>false
def look:List (Nat×Tag)->Nat->Tag
 |[],_=>none
 |(t,z)::r,n=>bif n==t then z else look r n
def CO.indep(x y:CO):Bool:=
 (match x.dst with|some d=>!y.rd.contains d&&y.dst !=some d|none=>true)&&
 (match y.dst with|some d=>!x.rd.contains d|none=>true)&& !(x.op.isApp&&y.op.isApp)
def CO.half(T:List (Nat×Tag)) (x y:CO):Bool:=
 x.op.DZ.all fun t=>y.op.rR.all (fun u=>(look T t).U9 (look T u))&&(!x.op.vn||y.rd.all fun u=>(look T t).U9 (look T u))
def CO.pL(T:List (Nat×Tag)) (x y:CO):Bool:=x.indep y&&x.half T y&&y.half T x
def CO.apart(x y:CO):Bool:=x.pL [] y
def Mz(T:List (Nat×Tag)):List Nat->Tag
 |[]=>some none
 |[t]=>look T t
 |t::r=>if look T t==Mz T r then look T t else none
def Gz(T:List (Nat×Tag)) (base:Nat):Nat->List CO->List (Nat×Tag)
 |_,[]=>T
 |i,o::r=>Gz (match o.dst with|some t=>(t,if o.op.Gy then some (some (base+i))else Mz T o.op.pK)::T|none=>T) base (i+1) r
def sD:List (Nat×SV)->List (Nat×Tag)
 |[]=>[]
 |(t,.ptr b _)::r=>(t,some (some b))::sD r
 |(t,.vs b _ _ _)::r=>(t,some (some b))::sD r
 |(t,.pt _ [(b,_)])::r=>(t,some (some b))::sD r
 |(t,.pt _ _)::r=>(t,none)::sD r
 |(t,_)::r=>(t,some none)::sD r
def ko(T:List (Nat×Tag)):List (Nat×SV)->Bool
 |[]=>true
 |(t,.ptr b _)::r=>(look T t).yU b&&ko T r
 |(t,.vs b _ _ _)::r=>(look T t).yU b&&ko T r
 |(t,.pt _ ps)::r=>(ps.all fun p=>(look T t).yU p.1)&&ko T r
 |(_,_)::r=>ko T r
def oq(T:List (Nat×Tag)) (id:Nat) (o:CO):Bool:=
 match o.dst with
 |none=>true
 |some t=>match look T t with
  |none=>true
  |some z=>if o.op.Gy then z==some id else o.op.pK.all fun u=>match look T u with|some z'=>z'==none||z'==z|none=>false
def kq(T:List (Nat×Tag)) (base:Nat):Nat->List CO->Bool
 |_,[]=>true
 |i,o::r=>oq T (base+i) o&&kq T base (i+1) r
def tG(T:List (Nat×Tag)) (ops:List CO):List (Nat×Nat)->Bool
 |[]=>true
 |(i,j)::r=>(match ops[i]?,ops[j]? with|some x,some y=>x.pL T y|_,_=>false)&&tG T ops r
def JI(T:List (Nat×Tag)) (ops:List CO) (dr:List (Nat×Nat)) (base:Nat) (sl:List (Nat×SV)):Bool:=ko T sl&&kq T base 0 ops&&tG T ops dr
def pM(ops:List CO) (dr:List (Nat×Nat)) (base:Nat) (sl:List (Nat×SV)):Bool:=JI (Gz (sD sl) base 0 ops) ops dr base sl
def pN:List Nat->List AV->S->S
 |p::ps,x::xs,s=>pN ps xs (s.put (some p) (.dat x none))
 |_,_,s=>s
def mK(wr:List Nat):List (Nat×SV)->List (Nat×SV)
 |[]=>[]
 |(t,v)::r=>bif wr.contains t then mK wr r else(t,v)::mK wr r
def sE(wr:List Nat) (s:S):S:={s with slots:=mK wr s.slots}
def D0(wr:List Nat) (F:S->Prop) (Q:Exit->S->Prop):Exit->S->Prop
 | .normal,s=>down F (sE wr s)
 | .ret,s=>Q .ret (sE wr s)
 | .exit id,s=>Q (.exit id) (sE wr s)
 |_,_=>False
def tH(K:S->Prop):Exit->S->Prop
 | .normal,s=>K s
 |_,_=>False
def lY(l:Nat) (K:S->Prop) (Q:Exit->S->Prop):Exit->S->Prop
 | .goto l',s=>l'=l/\K s
 |e,s=>Q e s
def vX(Q:Exit->S->Prop):Exit->S->Prop
 | .goto _,_=>False
 |e,s=>Q e s
def E7(C:bt) (ops:List CO) (dr:List (Nat×Nat)) (K:S->Prop) (s:S):Prop:=
 ∃ro,pM (mI ro 0 ops) dr s.nx s.slots=true/\iT C s.nx 0 (mI ro 0 ops) K s
def M5(C:bt) (ops:List CO) (dr:List (Nat×Nat)) (k:Nat) (dep:List Nat) (ds:List Nat) (X:AV->S->Prop) (s:S):Prop:=
 pM (lH k dep 0 ops) dr s.nx s.slots=true/\iT C s.nx 0 (lH k dep 0 ops) (fun s'=>∃d p,(ops[k]?).bind CO.dst=some d/\lk d s'.slots=some (.dat p none)/\X p (sE ds s')) s
def aw(C:bt):aX->(Exit->S->Prop)->S->Prop
 | .skip,Q,s=>Q .normal s
 | .zf ops,Q,s=>iT C s.nx 0 ops (fun s'=>Q .normal {s' with nx:=s.nx+ops.length}) s
 | .seq a b,Q,s=>aw C a (jE (aw C b Q) Q) s
 | .join a b,Q,s=>aw C a (jE (down (aw C b Q)) Q) s
 | .cond c a b,Q,s=>ah (aM s c) fun
   | .bool t=>(t=true->aw C a Q s)/\(t=false->aw C b Q s)
   |_=>False
 | .block id c,Q,s=>aw C c (gn id Q) s
 | .loop c,Q,s=>down (fun s=>∃n,mN (aw C c) Q n s) s
 | .exit id,Q,s=>Q (.exit id) s
 | .ret,Q,s=>Q .ret s
 | .scope l c r,Q,s=>aw C c (lY l (aw C r (vX Q)) Q) s
 | .label _,Q,s=>Q .normal s
 | .goto l,Q,s=>Q (.goto l) s
 | .aF ops,Q,s=>dZ C s.nx 0 ops (fun s'=>Q .normal {s' with nx:=s.nx+ops.length}) (fun p s'=>Q (.panic (dz p)) {s' with nx:=s.nx+ops.length}) s
 | .uC ops dr,Q,s=>∃ids,(cz ids&&iS ids)=true/\ah (aT s.boxes ids) fun css=>E7 C ops dr (fun s'=>Q .normal {s' with nx:=s.nx+ops.length}) (gO ids css s)
 | .vW ops dr k dep,Q,s=>(∃ids,(cz ids&&iS ids)=true/\ah (aT s.boxes ids) fun css=>E7 C ops dr (fun s'=>Q .normal {s' with nx:=s.nx+ops.length}) (gO ids css s))\/
   M5 C ops dr k dep (ops.flatMap fun o=>o.dst.toList) (fun p s'=>Q (.panic (dz p)) {s' with nx:=s.nx+ops.length}) s
 | .yW g ps wr as bd,Q,s=>ah (aM s g) fun gv=>∃xs,C.i gv xs/\(∀x∈xs,x.length=ps.length)/\∃F:Nat->S->Prop,down (F 0) s/\(∀i s',F i s'->aM s' g=some gv)/\
   (∀i x s',xs[i]? =some x->F i s'->aw C as (tH (aw C bd (D0 wr (F (i+1)) Q))) (pN ps x s'))/\∀s',F xs.length s'->Q .normal s'
def ez(P:Program) (t:TypeId):Option Nat:=(P.info? t).map (·.size)
def mL(P:Program) (t:TypeId):Bool:=
 match P.underlying t with
 |some (.struct _)|some (.array _ _)=>true
 |_=>false
def tI(P:Program) (t:TypeId):Option (Option Nat):=
 match P.underlying t with
 |some (.struct _)|some (.array _ _)=>(ez P t).map some
 |some _=>some none
 |none=>none
def zeroOf(P:Program) (t:TypeId):Option (List AV):=
 match(P.info? t).bind (·.zero)with
 |some z=>z.cells.toList.mapM E5
 |none=>none
def bU:Operand->Option bl
 | .tmp t=>some (.t t)
 | .const v=>(U7 v).map .k
 | .func f=>some (.k (.fn (.func f) [] []))
 | .global _=>none
def eV(l:Array Operand):Option (List bl):=l.toList.mapM bU
def tJ(P:Program) (s:TypeId) (f:Nat):Option Field:=
 match P.underlying s with
 |some (.struct fs)=>fs[f]?
 |_=>none
def By(P:Program) (rec:TypeId->Option (List CK)):List Field->Nat->Option (List CK)
 |[],_=>some []
 |f::fs,off=>
  if f.name = "_" ∨ f.offset ≠ off then none else
  match rec f.type with
  |some ks=>if ez P f.type=some ks.length/\0<ks.length then(By P rec fs (off+ks.length)).map (ks++·)else none
  |none=>none
def lZ(P:Program):Nat->TypeId->Option (List CK)
 |0,_=>none
 |d+1,t=>match P.underlying t with
  |some .bool=>some [.b]
  |some (.int _)=>some [.i]
  |some (.float _)=>some [.f]
  |some .string=>some [.s]
  |some (.struct fs)=>if P.stoodInHeld t then none else By P (lZ P d) fs.toList 0
  |some (.array n e)=>match lZ P d e with
   |some ks=>if ez P e=some ks.length then some (List.replicate n ks).flatten else none
   |none=>none
  |_=>none
def Q0(P:Program) (t:TypeId) (neg:Bool) (x y:bl):Option bH:=
 match lZ P 20 t with
 |some ks=>if mL P t&& !P.eqGuardType P.depth t then some (.eqc ks neg x y)else none
 |none=>none
def D1(P:Program) (t:TypeId):Bool:=
 match P.underlying t with
 |some (.int _)|some (.float _)=>true
 |_=>false
def GA(P:Program) (t:TypeId):Bool:=
 match P.underlying t with
 |some .bool=>true
 |_=>false
def bQ(P:Program) (f:FuncId):Bool:=
 match P.funcs[f]? with
 | some fn => fn.name != "runtime.NumGoroutine" && fn.body.isSome
 |none=>false
def D2(P:Program) (t:TypeId) (i:Nat):Option (Nat×Nat):=
 match P.underlying t with
 |some (.struct fs)=>match fs[i]? with
  |some f=>(ez P f.type).map fun z=>(f.offset,z)
  |none=>none
 |some (.array _ e)=>(ez P e).map fun z=>(i*z,z)
 |_=>none
def uF(P:Program) (t:TypeId):List (Nat×Operand)->Option (List (Nat×Nat×bl))
 |[]=>some []
 |(i,x)::r=>match D2 P t i,bU x,uF P t r with
  |some (o,z),some x,some ps=>some ((o,z,x)::ps)
  |_,_,_=>none
def sliceB(P:Program) (t:TypeId):Bool:=match P.underlying t with|some (.slice _)=>true|_=>false
def Ap(P:Program) (t:TypeId):Bool:=
 match P.underlying t with
 |some (.struct fs)=>fs.toList.all fun f=>(ez P f.type).isSome
 |some (.array _ e)=>(ez P e).isSome
 |_=>false
def pO(zs:Nat):List (Nat×Nat×bl)->Bool
 |[]=>true
 |(o,z,_)::r=>decide (o+z<=zs)&&pO zs r
def cOpt:Option Operand->Option (Option bl)
 |none=>some none
 |some x=>(bU x).map some
def Bz(P:Program) (s d:TypeId) (x:bl):Option bH:=
 match P.underlying s,P.underlying d with
 |some (.int _),some (.int k)=>some (.nk k x)
 |some (.int _),some (.float k)=>some (.Ag k x)
 |some (.float _),some (.int k)=>some (.Bu k x)
 |_,_=>none
def vY(P:Program) (t:TypeId):Bool:=match P.underlying t with|some (.pointer _)=>true|_=>false
def C7(P:Program) (t:TypeId):Bool:=
 match P.underlying t with
 |some (.struct fs)=>match fs.toList with
  |[f]=>vY P f.type&&f.offset==0&&ez P f.type==some 1
  |_=>false
 |_=>false
def ot(P:Program):List TypeId->Bool
 |[]=>false
 |t::r=>(vY P t||C7 P t)||ot P r
def M6(P:Program) (f:FuncId):Option Xt:=
 match P.funcs[f]? with
 |some fn=>if fn.body.isNone&&(Extern.findNext fn).isNone then
   if fn.name == "math.Float64bits" then some .Bt
   else if fn.name == "math.Float64frombits" then some .ffrom
   else if fn.name == "math.RoundToEven" then some .rte
   else none
  else none
 |none=>none
def rS(P:Program) (c:Call):Option bH:=
 match c.callee with
 | .value (.func f)=>if bQ P f then(eV c.args).map (if ot P c.argTypes.toList then .aK f else .call f)
  else match M6 P f,c.args.toList with
   |some e,[x]=>(bU x).map (.xt e)
   |_,_=>none
 | .value g=>match bU g,eV c.args with
  |some g,some as=>some (if ot P c.argTypes.toList then .gm g as else .ee g as)
  |_,_=>none
 | .builtin .len=>match c.argTypes[0]?,c.args[0]? with
  |some t,some x=>match P.underlying t with
   |some (.slice _)=>(bU x).map .jW
   |some (.array n _)=>some (.Gt n)
   |_=>none
  |_,_=>none
 | .builtin .append=>match c.argTypes.toList,c.args.toList with
  |[t,t'],[x,y]=>if t=t' then match P.underlying t,bU x,bU y with
    |some (.slice e),some x,some y=>match P.info? e with
     |some i=>match i.zero with
      |some z=>if 0<i.size&&z.cells.size==i.size&&0<i.bytes then some (.app e i.size i.bytes x y)else none
      |none=>none
     |none=>none
    |_,_,_=>none
   else none
  |_,_=>none
 | .builtin .max=>(eV c.args).map (.mm true)
 | .builtin .min=>(eV c.args).map (.mm false)
 |_=>none
def Jv(P:Program):Op->Option bH
 | .move x| .assign x=>(bU x).map .mv
 | .pick c a b=>match bU c,bU a,bU b with
  |some c,some a,some b=>some (.pick c a b)
  |_,_,_=>none
 | .alloc t=>(zeroOf P t).map .alloc
 | .box _ x=>(bU x).map .box
 | .build t ps=>match zeroOf P t,uF P t ps.toList with
  |some zs,some ps=>if pO zs.length ps&&Ap P t then some (.build zs ps)else none
  |_,_=>none
 | .buildSlice t n ps=>match P.underlying t with
  |some (.slice e)=>match zeroOf P e,ez P e,ps.toList.mapM (fun p=>bU p.2)with
   |some zs,some z,some xs=>if n*z<=16777216&&0<z&&zs.length==z&&ps.toList.map (·.1)==List.range n then some (.gA e z xs)else none
   |_,_,_=>none
  |_=>none
 | .load t x=>match tI P t,bU x with
  |some r,some x=>some (if vY P t||C7 P t then .jC x r else .ld x r)
  |_,_=>none
 | .store t x v=>match ez P t,bU x,bU v with
  |some z,some x,some v=>some (.st x v z)
  |_,_,_=>none
 | .nilCheck x=>(bU x).map .nc
 | .binOp op t x y _=>match bU x,bU y with
  |some x,some y=>
   if D1 P t then some (.bin op x y)
   else if GA P t then(match op with| .eql=>some (.bb false x y)| .neq=>some (.bb true x y)|_=>none)
   else if sliceB P t then(match op,y with| .eql,.k .bI=>some (.Mw false x)| .neq,.k .bI=>some (.Mw true x)|_,_=>none)
   else match op with
    | .eql=>Q0 P t false x y
    | .neq=>Q0 P t true x y
    |_=>none
  |_,_=>none
 | .unOp op _ x=>(bU x).map (.un op)
 | .convert s d x=>(bU x).bind (Bz P s d)
 | .fieldAddr s x f=>match tJ P s f,bU x with
  |some fd,some x=>if ez P fd.type==some 0||(ez P fd.type).isNone then none else some (.fa x fd.offset)
  |_,_=>none
 | .field s x f=>match tJ P s f,bU x with
  |some fd,some x=>(tI P fd.type).map (.QX x fd.offset)
  |_,_=>none
 | .indexAddr t x i=>match P.underlying t,bU x,bU i with
  |some (.array n e),some x,some i=>(ez P e).map (.C1 x i n)
  |some (.slice e),some x,some i=>(ez P e).map (.wk x i)
  |_,_,_=>none
 | .index t x i=>match P.underlying t,bU x,bU i with
  |some (.array n e),some x,some i=>match ez P e,tI P e with
   |some z,some r=>some (.JC x i n z r)
   |_,_=>none
  |some .string,some x,some i=>some (.QY x i)
  |_,_,_=>none
 | .extract x i=>(bU x).map (.ext · i)
 | .makeFunc (.func f) a b=>match eV a,eV b with
  |some a,some b=>if bQ P f then some (.Ai (.func f) a b)else none
  |_,_=>none
 | .slice t x lo hi none=>match P.underlying t,bU x,cOpt lo,cOpt hi with
  |some (.slice e),some x,some lo,some hi=>(ez P e).map fun z=>.JD z x lo hi
  |some (.array n e),some x,some none,some none=>(ez P e).map fun z=>.E3 x n z
  |some (.array n e),some x,some none,some (some hi)=>(ez P e).map fun z=>.Qw x n z hi
  |_,_,_,_=>none
 | .call c=>rS P c
 |_=>none
def Q1(P:Program) (ops:List Oper) (y:Nat):Option Operand:=
 match ops.find? (fun o=>o.dst==some y)with
 |some o=>match o.op with
  | .slice t x none (some _) none=>match P.underlying t with
   |some (.array _ _)=>some x
   |_=>none
  |_=>none
 |none=>none
def sF(P:Program) (ops:List Oper):Op->Option bH
 | .call c=>match c.callee,c.argTypes.toList,c.args.toList with
  | .builtin .append,[t,t'],[.const (.slice none 0 0),.tmp y]=>if t=t' then match P.underlying t,(Q1 P ops y).bind bU with
    |some (.slice e),some x=>match P.info? e with
     |some i=>match i.zero with
      |some z=>if 0<i.size&&z.cells.size==i.size&&0<i.bytes then some (.Aj e i.size i.bytes (.t y) x)else none
      |none=>none
     |none=>none
    |_,_=>none
   else none
  |_,_,_=>none
 |_=>none
def M7(ops:List Oper):Operand->Bool
 | .tmp y=>match ops.find? (fun o=>o.dst==some y)with
  |some o=>match o.op with
   | .fieldAddr .. | .indexAddr ..=>true
   |_=>false
  |none=>false
 |_=>false
def E8(P:Program) (ops:List Oper):Op->Option bH
 | .load t x=>if vY P t&& !M7 ops x then match tI P t,bU x with
   |some r,some x=>some (.ld x r)
   |_,_=>none
  else none
 |_=>none
def GB(P:Program) (ops:List Oper) (o:Op):Option bH:=
 match sF P ops o with
 |some c=>some c
 |none=>match E8 P ops o with
  |some c=>some c
  |none=>Jv P o
def Aq(ops:Array Oper):Option (Nat×Bool)->Option (Option (Nat×Bool))
 |none=>some none
 |some (j,w)=>match(ops[j]?).bind (·.dst)with
  |some t=>some (some (t,w))
  |none=>none
def mO(P:Program) (ops:Array Oper) (o:Oper):Option CO:=
 match GB P ops.toList o.op,Aq ops o.guard with
 |some c,some g=>some ⟨o.dst,c,g⟩
 |_,_=>none
def sG(P:Program) (ops:Array Oper):List Oper->Option (List CO)
 |[]=>some []
 |o::r=>match mO P ops o,sG P ops r with
  |some c,some cs=>some (c::cs)
  |_,_=>none
def waits(ops:List Oper) (i:Nat) (oj:Oper):Bool:=
 oj.after.any fun e=>Region.binds .any e&&(e.on==i||match ops[e.on]? with
  |some ok=>ok.after.any fun e'=>Region.binds .any e'&&e'.on==i
  |none=>false)
def mP(dr:List (Nat×Nat)) (ops:List Oper) (i:Nat) (x:CO):Nat->List Oper->List CO->Bool
 |j,oj::os,y::ys=>(decide (j<=i)||oj.after.any (fun e=>Region.binds .any e&&e.on==i)||x.apart y||waits ops i oj||dr.contains (i,j))&&mP dr ops i x (j+1) os ys
 |_,_,_=>true
def l5(dr:List (Nat×Nat)) (ops:List Oper) (cos:List CO):Nat->List Oper->List CO->Bool
 |i,oi::os,x::xs=>oi.after.all (fun e=>!Region.binds .any e||decide (e.on<i))&&mP dr ops i x 0 ops cos&&l5 dr ops cos (i+1) os xs
 |_,_,_=>true
def jm(dr:List (Nat×Nat)) (ops:List Oper) (cos:List CO):Bool:=l5 dr ops cos 0 ops cos
def GC(ops:List Oper) (i:Nat) (x:CO):Nat->List Oper->List CO->List (Nat×Nat)
 |j,oj::os,y::ys=>(if decide (j<=i)||oj.after.any (fun e=>Region.binds .any e&&e.on==i)||x.apart y||waits ops i oj then[]else[(i,j)])++GC ops i x (j+1) os ys
 |_,_,_=>[]
def wm(ops:List Oper) (cos:List CO):Nat->List CO->List (Nat×Nat)
 |i,x::xs=>GC ops i x 0 ops cos++wm ops cos (i+1) xs
 |_,[]=>[]
def D3(cos:List CO):List (Nat×Nat)->Bool
 |[]=>true
 |(i,j)::r=>(match cos[i]?,cos[j]? with|some x,some y=>x.indep y|_,_=>false)&&D3 cos r
def zeroV(P:Program) (t:TypeId):Option AV:=((P.info? t).bind (·.zero)).bind U7
def ou(P:Program) (t:TypeId):Bool:=match P.underlying t with|some (.interface _)=>true|_=>false
def GD(P:Program) (c:Call):Option Bv:=
 match c.callee with
 | .value (.func f)=>if bQ P f then(eV c.args).map (if ot P c.argTypes.toList then .aK f else .call f)else none
 | .value (.tmp g)=>(eV c.args).map (.ee (ot P c.argTypes.toList) (.t g))
 | .builtin .copy=>match c.argTypes.toList,c.args.toList with
  |[t,_],[x,y]=>match P.underlying t,bU x,bU y with
   |some (.slice e),some x,some y=>if ez P e==some 1 then some (.Qz e x y)else none
   |_,_,_=>none
  |_,_=>none
 |_=>none
def Q2(P:Program) (op:BinOp) (t:TypeId) (x y:Operand):Option Bv:=
 match op,y with
 | .eql,.const .nilIface=>if ou P t then(bU x).map (.Qx false)else none
 | .neq,.const .nilIface=>if ou P t then(bU x).map (.Qx true)else none
 | .eql,.const (.pointer none)=>if vY P t then(bU x).map (.JE false)else none
 | .neq,.const (.pointer none)=>if vY P t then(bU x).map (.JE true)else none
 |_,_=>none
def GF(P:Program) (t:TypeId) (c:Call):Option Bv:=
 match c.callee with
 | .value (.tmp g)=>if vY P t then(eV c.args).map (.zc (.t g))else none
 |_=>none
def Va(P:Program) (t:TypeId):Op->Option Bv
 | .box t x=>if C7 P t then(bU x).map .rJ else none
 | .build t ps=>if C7 P t then match zeroOf P t,ps.toList with
   |some [_],[(0,x)]=>(bU x).map .E4
   |_,_=>none
  else none
 | .buildSlice t n ps=>match P.underlying t with
  |some (.slice e)=>if vY P e then match zeroOf P e,ps.toList.mapM (fun p=>bU p.2)with
    |some [_],some xs=>if 0<n&&n<=16777216&&ez P e==some 1&&ps.toList.map (·.1)==List.range n then some (.Ak xs)else none
    |_,_=>none
   else none
  |_=>none
 | .indexAddr t x i=>match P.underlying t with
  |some (.slice e)=>if vY P e&&ez P e==some 1 then match bU x,bU i with
    |some x,some i=>some (.JF x i)
    |_,_=>none
   else none
  |_=>none
 | .store t x v=>if C7 P t&&ez P t==some 1 then match bU x,bU v with
   |some x,some v=>some (.QB x v)
   |_,_=>none
  else none
 | .call c=>match c.callee,c.argTypes.toList,c.args.toList with
  | .builtin .len,[t],[x]=>match P.underlying t with
   |some (.slice e)=>if vY P e then(bU x).map .JG else none
   |_=>none
  |_,_,_=>GF P t c
 |_=>none
def M8(P:Program) (c:Call):Option Bv:=
 match rS P c with
 |some (.app e z b (.k .bI) y)=>some (.MZ e z b y)
 |_=>none
def JJ(P:Program):Op->Option Bv
 | .panic x=>(bU x).map .Gm
 | .makeSlice t l c=>match P.underlying t,bU l,bU c with
  |some (.slice e),some l,some c=>match P.info? e with
   |some i=>if i.size==1&&i.zero.isSome&&decide (0<i.bytes)then some (.Qy e i.bytes l c)else none
   |none=>none
  |_,_,_=>none
 | .makeInterface t x=>if ou P t||(P.underlying t).isNone then none else(bU x).map (.Gn t)
 | .typeAssert x _ t true=>if ou P t||(P.underlying t).isNone then none else match zeroV P t,bU x with
  |some z,some x=>some (.Mx t z x)
  |_,_=>none
 | .binOp op t x y _=>Q2 P op t x y
 | .makeFunc (.func f) a b=>if a.isEmpty&& !b.isEmpty&&bQ P f then(eV b).map (.QZ f)else none
 | .call c=>match M8 P c with
  |some x=>some x
  |none=>GD P c
 |_=>none
def QE(P:Program) (t:TypeId) (o:Op):Option Bv:=
 match Va P t o with
 |some x=>some x
 |none=>JJ P o
def pP(P:Program) (ops:Array Oper) (o:Oper):Option XO:=
 match QE P o.type o.op with
 |some x=>match Aq ops o.guard with
  |some g=>some ⟨o.dst,x,g⟩
  |none=>none
 |none=>(mO P ops o).map fun c=>⟨c.dst,.o c.op,c.g⟩
def pQ(P:Program) (ops:Array Oper):List Oper->Option (List XO)
 |[]=>some []
 |o::r=>match pP P ops o,pQ P ops r with
  |some c,some cs=>some (c::cs)
  |_,_=>none
def BA:List XO->List Nat
 |[]=>[]
 |o::r=>(match o.dst with|some d=>[d]|none=>[])++BA r
def l6(n:Nat):List XO->Bool
 |[]=>true
 |o::r=>(match o.dst with|some d=>decide (d<n)|none=>true)&&l6 n r
def Q3:Code->Bool
 | .region ..=>true
 | .skip=>true
 |_=>false
def dstsOf:List CO->List Nat
 |[]=>[]
 |o::r=>(match o.dst with|some d=>[d]|none=>[])++dstsOf r
def aX.writes:aX->List Nat
 | .zf ops=>dstsOf ops
 | .uC ops _=>dstsOf ops
 | .vW ops _ _ _=>dstsOf ops
 | .seq a b| .join a b| .cond _ a b=>a.writes++b.writes
 | .block _ c| .loop c=>c.writes
 | .yW _ _ wr _ _=>wr
 | .scope _ c r=>c.writes++r.writes
 | .aF ops=>BA ops
 |_=>[]
def aX.after(l:Nat):aX->Option aX
 | .seq a b| .join a b=>match a.after l with
  |some r=>some (.join r b)
  |none=>b.after l
 | .label l'=>if l'==l then some .skip else none
 |_=>none
def aX.labels:aX->List Nat
 | .seq a b| .join a b=>a.labels++b.labels
 | .label l=>[l]
 |_=>[]
def bH.quiet:bH->Bool
 | .mv _| .fa _ _| .ld _ _| .jC _ _| .JD _ _ _ _=>true
 |_=>false
def Q4(P:Program) (o:Oper):Bool:=
 match o.op with
 | .call c=>(match c.callee with| .value (.func f)=>bQ P f|_=>false)&&c.argTypes.toList.any (C7 P)
 |_=>false
def GG(P:Program):Nat->List Oper->Option Nat
 |_,[]=>none
 |i,o::r=>if Q4 P o then some i else GG P (i+1) r
def MA(k:Nat):Nat->List Nat->List Oper->List Nat
 |_,dep,[]=>dep
 |i,dep,o::r=>MA k (i+1) (if decide (k<i)&&o.after.any (fun e=>Region.binds .any e&&(e.on==k||dep.contains e.on))then dep++[i]else dep) r
def zh(k:Nat) (dep:List Nat):Nat->List Oper->Bool
 |_,[]=>true
 |i,o::r=>(!dep.contains i||o.after.any fun e=>Region.binds .any e&&(e.on==k||(dep.contains e.on&&decide (e.on<i))))&&zh k dep (i+1) r
def xb(k:Nat) (dep:List Nat) (d:Nat):Nat->List CO->Bool
 |_,[]=>true
 |i,o::r=>(if i=k then(match o.op with| .aK _ _=>o.g.isNone&&o.dst==some d|_=>false)else dep.contains i||(o.op.quiet&&o.g.isNone&&o.dst.isSome&&o.dst !=some d))&&xb k dep d (i+1) r
def Ar(P:Program) (ops:List Oper) (cos:List CO) (dr:List (Nat×Nat)):Option aX:=
 match GG P 0 ops with
 |some k=>match(cos[k]?).bind CO.dst with
  |some d=>let dep:=MA k 0 [] ops
   if jm dr ops (lH k dep 0 cos)&&zh k dep 0 ops&&xb k dep d 0 cos&&decide (k<ops.length)then some (.vW cos dr k dep)else none
  |none=>none
 |none=>none
def bE(m:Bool) (P:Program):Code->Option aX
 | .skip=>some .skip
 | .region _ ops kB=>if m&& !kB then(pQ P ops ops.toList).map .aF else match sG P ops ops.toList with
  |some cos=>if kB then
    if m&&(GG P 0 ops.toList).isSome then
     if jm (wm ops.toList cos 0 cos) ops.toList cos then Ar P ops.toList cos (wm ops.toList cos 0 cos)else none
    else match wm ops.toList cos 0 cos with
    |[]=>if jm [] ops.toList cos then some (.zf cos)else none
    |dr=>if jm dr ops.toList cos&&D3 cos dr then some (.uC cos dr)else none
   else some (.zf cos)
  |none=>none
 | .seq a b=>match bE m P a,bE m P b with
  |some x,some y=>some (if Q3 a then .seq x y else .join x y)
  |_,_=>none
 | .cond c a b=>match bU c,bE m P a,bE m P b with
  |some c,some a,some b=>some (.cond c a b)
  |_,_,_=>none
 | .block id c=>(bE m P c).map (.block id)
 | .loop c=>(bE m P c).map .loop
 | .exit id=>some (.exit id)
 | .ret=>some .ret
 | .label l=>some (.label l)
 | .goto l=>some (.goto l)
 | .scope c=>match bE m P c with
  |some c=>match c.labels with
   |[l]=>(c.after l).map (.scope l c)
   |_=>none
  |none=>none
 | .rangeFunc g ps as bd=>match bU g,bE m P as,bE m P bd with
  |some g,some a,some b=>
   let wr:=ps.toList++a.writes++b.writes
   if g.rd.all (fun t=>!wr.contains t)then some (.yW g ps.toList wr a b)else none
  |_,_,_=>none
 |_=>none
abbrev Wv (P:Program):Code->Option aX:=bE false P
def fq(n:Nat):List CO->Bool
 |[]=>true
 |o::r=>(match o.dst with|some d=>decide (d<n)|none=>true)&&fq n r
def aX.fits(n:Nat):aX->Bool
 | .zf ops=>fq n ops
 | .uC ops _=>fq n ops
 | .vW ops _ _ _=>fq n ops
 | .seq a b| .join a b| .cond _ a b=>a.fits n&&b.fits n
 | .block _ c| .loop c=>c.fits n
 | .scope _ c r=>c.fits n&&r.fits n
 | .aF ops=>l6 n ops
 | .yW _ ps wr a b=>ps.all (fun t=>decide (t<n))&&a.fits n&&b.fits n&&ps.all (fun t=>wr.contains t)&&a.writes.all (fun t=>wr.contains t)&&b.writes.all (fun t=>wr.contains t)
 |_=>true
inductive eZ where
 |tmp (t:Nat)
 |cell (t:Nat) (sz:Option Nat)
 deriving Inhabited
def yZ(P:Program):ResultVar->Option eZ
 | .tmp t=>some (.tmp t)
 | .cell a t=>(tI P t).map (.cell a)
structure cU where
 nt:Nat
 res:List eZ
 code:aX
def gB(m:Bool) (P:Program) (f:FuncId):Option cU:=
 match P.funcs[f]? with
 |some fn=>match fn.body,fn.results.toList.mapM (yZ P)with
  |some c,some rs=>match bE m P c with
   |some cc=>if cc.fits fn.ntmps&&bQ P f then some ⟨fn.ntmps,rs,cc⟩else none
   |none=>none
  |_,_=>none
 |none=>none
abbrev dY (P:Program) (f:FuncId):Option cU:=gB false P f
open Go.RowKit (Below)
inductive DV (w:World) (π:Nat->Nat->Prop):AV->Value->Prop
 |bool (b:Bool):DV w π (.bool b) (.bool b)
 |int (k:IntKind) (n:Int):DV w π (.int k n) (.int k n)
 |float (k:FloatKind) (n:Nat):DV w π (.float k n) (.float k n)
 |str (s:ByteArray):DV w π (.str s) (.string s)
 |lF:DV w π .lF (.pointer none)
 |bI:DV w π .bI (.slice none 0 0)
 |wT:DV w π .wT .nilFunc
 |eH:DV w π .eH .nilIface
 |gR (n:Nat):Am n=true->DV w π .gR (.float .f64 n)
 |iface (t:Nat) (a:AV) (v:Value):DV w π a v->DV w π (.iface t a) (.iface t v)
 |agg (as:List AV) (vs:Array Value):as.length=vs.size->(∀a∈as,a.scalar=true)->(∀(i:Nat) (a:AV) (v:Value),as[i]? =some a->vs[i]? =some v->DV w π a v)->DV w π (.agg as) (.agg vs)
 |o7 (as:List AV) (vs:Array Value):as.length=vs.size->(∀(i:Nat) (a:AV) (v:Value),as[i]? =some a->vs[i]? =some v->DV w π a v)->DV w π (.o7 as) (.tuple vs)
 |fn (f:Fn) (as:List AV) (vs:Array Value) (bs:List AV) (us:Array Value):as.length=vs.size->bs.length=us.size->
   (∀(i:Nat) (a:AV) (v:Value),as[i]? =some a->vs[i]? =some v->DV w π a v)->(∀(i:Nat) (a:AV) (v:Value),bs[i]? =some a->us[i]? =some v->DV w π a v)->DV w π (.fn f as bs) (.func f vs us)
 |sl (xs:List (List AV)) (B off cap z:Nat) (f:Nat->Nat->Value):xs.length<=cap->(∀(i:Nat) (r:List AV),xs[i]? =some r->r.length=z)->
   (∀(i j:Nat) (r:List AV) (a:AV),xs[i]? =some r->r[j]? =some a->a.scalar=true)->
   (∀(i j:Nat) (r:List AV) (a:AV),xs[i]? =some r->r[j]? =some a->π B (off+i*z+j))->
   (∀(i j:Nat) (r:List AV) (a:AV),xs[i]? =some r->r[j]? =some a->w.cell? ⟨B,off+i*z+j,none⟩=some (f i j))->
   (∀(i j:Nat) (r:List AV) (a:AV),xs[i]? =some r->r[j]? =some a->DV w π a (f i j))->DV w π (.sl xs) (.slice (some ⟨B,off,none⟩) xs.length cap)
 |Gp (A:Addr):DV w π (.sl []) (.slice (some A) 0 0)
 |ref (cs:List AV) (B off:Nat) (f:Nat->Value):(∀(j:Nat) (a:AV),cs[j]? =some a->a.scalar=true)->(∀(j:Nat) (a:AV),cs[j]? =some a->π B (off+j))->
   (∀(j:Nat) (a:AV),cs[j]? =some a->w.cell? ⟨B,off+j,none⟩=some (f j))->(∀(j:Nat) (a:AV),cs[j]? =some a->DV w π a (f j))->DV w π (.ref cs) (.pointer (some ⟨B,off,none⟩))
theorem DV.mono{w w':World} {π π':Nat->Nat->Prop} (hp:∀b o,π b o->π' b o) (hc:∀b o,π b o->w'.cell? ⟨b,o,none⟩=w.cell? ⟨b,o,none⟩) {a:AV} {v:Value} (h:DV w π a v):DV w' π' a v:=by
 induction h with
 |bool|int|float|str|lF|bI|wT|eH=>constructor
 |iface t a v _ ih=>exact .iface t a v ih
 |gR n h=>exact .gR n h
 |agg as vs hl hs _ ih=>exact .agg as vs hl hs ih
 |o7 as vs hl _ ih=>exact .o7 as vs hl ih
 |fn f as vs bs us h1 h2 _ _ ih1 ih2=>exact .fn f as vs bs us h1 h2 ih1 ih2
 |sl xs B off cap z f h1 h2 h3 h4 h5 _ ih=>
  exact .sl xs B off cap z f h1 h2 h3 (fun i j r a hr ha=>hp _ _ (h4 i j r a hr ha)) (fun i j r a hr ha=>(hc _ _ (h4 i j r a hr ha)).trans (h5 i j r a hr ha)) ih
 |Gp A=>exact .Gp A
 |ref cs B off f h1 h2 h3 _ ih=>exact .ref cs B off f h1 (fun j a ha=>hp _ _ (h2 j a ha)) (fun j a ha=>(hc _ _ (h2 j a ha)).trans (h3 j a ha)) ih
def i5(w:World) (π:Nat->Nat->Prop) (as:List AV) (vs:List Value):Prop:=
 as.length=vs.length/\∀(i:Nat) (a:AV) (v:Value),as[i]? =some a->vs[i]? =some v->DV w π a v
theorem i5.mono{w w':World} {π π':Nat->Nat->Prop} (hp:∀b o,π b o->π' b o) (hc:∀b o,π b o->w'.cell? ⟨b,o,none⟩=w.cell? ⟨b,o,none⟩) {as:List AV} {vs:List Value} (h:i5 w π as vs):i5 w' π' as vs:=
 ⟨h.1,fun i a v ha hv=>(h.2 i a v ha hv).mono hp hc⟩
theorem i5.nil(w:World) (π:Nat->Nat->Prop):i5 w π [] []:=⟨rfl,fun i a v h=>by simp at h⟩
theorem i5.cons{w:World} {π:Nat->Nat->Prop} {a:AV} {v:Value} {as:List AV} {vs:List Value} (h:DV w π a v) (hs:i5 w π as vs):i5 w π (a::as) (v::vs):=by
 refine⟨by simp[hs.1],fun i x u hx hu=>?_⟩
 cases i with
 |zero=>simp at hx hu;subst hx;subst hu;exact h
 |succ i=>exact hs.2 i x u (by simpa using hx) (by simpa using hu)
theorem i5.append{w:World} {π:Nat->Nat->Prop} {as bs:List AV} {vs us:List Value} (h:i5 w π as vs) (k:i5 w π bs us):i5 w π (as++bs) (vs++us):=by
 refine⟨by simp[h.1,k.1],fun i x u hx hu=>?_⟩
 by_cases hi:i<as.length
 ·exact h.2 i x u (by rwa[List.getElem?_append_left hi]at hx) (by rwa[List.getElem?_append_left (by rw[<-h.1];exact hi)]at hu)
 ·rw[List.getElem?_append_right (by omega)]at hx
  rw[List.getElem?_append_right (by rw[<-h.1];omega)]at hu
  exact k.2 (i-as.length) x u hx (by rw[h.1];exact hu)
theorem i5.get{w:World} {π:Nat->Nat->Prop} {as:List AV} {vs:List Value} (h:i5 w π as vs) {i:Nat} {a:AV} (ha:as[i]? =some a):∃v,vs[i]? =some v/\DV w π a v:=by
 have hi:i<as.length:=by
  rcases Nat.lt_or_ge i as.length with h|h
  ·exact h
  ·rw[List.getElem?_eq_none h]at ha;cases ha
 have hv:vs[i]? =some vs[i]!:=by
  rw[List.getElem?_eq_getElem (by rw[<-h.1];exact hi)]
  simp[getElem!_pos vs i (by rw[<-h.1];exact hi)]
 exact⟨_,hv,h.2 i a _ ha hv⟩
theorem DV.D4{w:World} {π:Nat->Nat->Prop} {a:AV} {v:Value} (h:DV w π a v) (hs:a.scalar=true):v.oneCell'=true:=by
 cases h<;>first|rfl|(simp[AV.scalar]at hs)
theorem DV.cells{w:World} {π:Nat->Nat->Prop} {a:AV} {v:Value} (h:DV w π a v) (ht:∀vs,a≠.o7 vs):i5 w π a.cells v.cells.toList/\∀x∈a.cells,x.scalar=true:=by
 cases h with
 |agg as vs hl hs hd=>exact⟨⟨by simpa[AV.cells,Value.cells]using hl,fun i a v ha hv=>hd i a v ha (by simpa[Value.cells]using hv)⟩,hs⟩
 |o7 as vs=>exact absurd rfl (ht as)
 |bool b=>exact⟨.cons (.bool b) (.nil _ _),by simp[AV.cells,AV.scalar]⟩
 |int k n=>exact⟨.cons (.int k n) (.nil _ _),by simp[AV.cells,AV.scalar]⟩
 |float k n=>exact⟨.cons (.float k n) (.nil _ _),by simp[AV.cells,AV.scalar]⟩
 |str s=>exact⟨.cons (.str s) (.nil _ _),by simp[AV.cells,AV.scalar]⟩
 |lF=>exact⟨.cons .lF (.nil _ _),by simp[AV.cells,AV.scalar]⟩
 |bI=>exact⟨.cons .bI (.nil _ _),by simp[AV.cells,AV.scalar]⟩
 |wT=>exact⟨.cons .wT (.nil _ _),by simp[AV.cells,AV.scalar]⟩
 |eH=>exact⟨.cons .eH (.nil _ _),by simp[AV.cells,AV.scalar]⟩
 |iface t a v h=>exact⟨.cons (.iface t a v h) (.nil _ _),by simp[AV.cells,AV.scalar]⟩
 |gR n h=>exact⟨.cons (.gR n h) (.nil _ _),by simp[AV.cells,AV.scalar]⟩
 |fn f as vs bs us h1 h2 h3 h4=>exact⟨.cons (.fn f as vs bs us h1 h2 h3 h4) (.nil _ _),by simp[AV.cells,AV.scalar]⟩
 |ref cs B off f h1 h2 h3 h4=>exact⟨.cons (.ref cs B off f h1 h2 h3 h4) (.nil _ _),by simp[AV.cells,AV.scalar]⟩
 |Gp A=>exact⟨.cons (.Gp A) (.nil _ _),by simp[AV.cells,AV.scalar]⟩
 |sl xs B off cap z f h1 h2 h3 h4 h5 h6=>exact⟨.cons (.sl xs B off cap z f h1 h2 h3 h4 h5 h6) (.nil _ _),by simp[AV.cells,AV.scalar]⟩
theorem D5{w:World} {π:Nat->Nat->Prop} {v:Value} {a:AV} (h:E5 v=some a):DV w π a v/\a.scalar=true:=by
 unfold E5 at h
 split at h<;>first|(cases h;exact⟨by constructor,rfl⟩)|cases h
theorem uG{w:World} {π:Nat->Nat->Prop}:∀(l:List Value) (as:List AV),l.mapM E5=some as->i5 w π as l/\∀a∈as,a.scalar=true
 |[],as,h=>by simp at h;subst h;exact⟨.nil _ _,by simp⟩
 |v::l,as,h=>by
  simp only[List.mapM_cons,Option.bind_eq_bind,Option.bind_eq_some_iff,Option.pure_def,Option.some.injEq]at h;obtain⟨a,ha,as',has,rfl⟩:=h
  have h1:=D5 (w:=w) (π:=π) ha
  have h2:=uG (w:=w) (π:=π) l as' has
  exact⟨.cons h1.1 h2.1,by simpa using⟨h1.2,h2.2⟩⟩
theorem GH{w:World} {π:Nat->Nat->Prop} {v:Value} {a:AV} (h:U7 v=some a):DV w π a v:=by
 unfold U7 at h;split at h
 ·rename_i cs
  simp only[Option.map_eq_some_iff]at h;obtain⟨as,has,rfl⟩:=h
  have h2:=uG (w:=w) (π:=π) _ _ has
  exact .agg as cs (by simpa using h2.1.1) h2.2 (fun i a v ha hv=>h2.1.2 i a v ha (by simpa using hv))
 ·exact(D5 h).1
structure gp where
 n:Nat
 X:Nat->Prop
 β:Nat->Nat
def gp.ok(F:gp) (B:Nat):Prop:=F.n<=B\/F.X B
def gp.WN(F:gp) (b B:Nat):Prop:=F.n<=B\/(b<4/\F.X B)
def gp.top(w:World):gp:=⟨w.heap.size,fun _=>False,id⟩
structure rK (n:gp) (w w':World):Prop where
 os:w'.os=w.os
 tape:w'.tape=w.tape
 output:w'.output=w.output
 size:w.heap.size<=w'.heap.size
 block:∀k,k<n.n->¬n.X k->w'.heap[k]? =w.heap[k]?
 /-- what is no variables' block lies as it lay -/
 others:∀(k:Nat) (o:Obj),w.heap[k]? =some o->o.isCells=false->w'.heap[k]? =some o
theorem rK.refl(n:gp) (w:World):rK n w w:=⟨rfl,rfl,rfl,Nat.le_refl _,fun _ _ _=>rfl,fun _ _ h _=>h⟩
theorem rK.trans{n:gp} {a b c:World} (h:rK n a b) (k:rK n b c):rK n a c:=
 ⟨k.os.trans h.os,k.tape.trans h.tape,k.output.trans h.output,Nat.le_trans h.size k.size,fun i hi hx=>(k.block i hi hx).trans (h.block i hi hx),fun i o hi ho=>k.others i o (h.others i o hi ho) ho⟩
theorem rK.of{n:gp} {w w':World} (h:Below w.heap.size w w') (hn:n.n<=w.heap.size):rK n w w':=⟨h.os,h.tape,h.output,h.size,fun k hk _=>h.block k (by omega),fun k o hk _=>(h.block k (Array.getElem?_eq_some_iff.1 hk).1).trans hk⟩
theorem rK.below{n:gp} {w w':World} (h:rK n w w') (hX:∀k,¬n.X k):Below n.n w w':=⟨h.os,h.tape,h.output,h.size,fun k hk=>h.block k hk (hX k)⟩
def zi(P:Program) (w:World) (π:Nat->Nat->Prop) (ok:Nat->Prop) (e:Nat) (v:Value):Prop:=
 v=.slice none 0 0\/∃B len cap cur i,v=.slice (some ⟨B,0,none⟩) len cap/\ok B/\w.heap[B]? =some (.cells cur e (0,0))/\len<=cap/\cap<=maxLen/\P.info? e=some i/\cur.size=cap*i.size/\∀o,len*i.size<=o->¬π B o
def i7:Value->Option Nat
 | .slice (some a) _ _=>some a.block
 |_=>none
def BB(P:Program) (f:FuncId) (args:List AV) (r:AV) (fr:Option Nat):Prop:=
 bQ P f=true/\
 ∀(w:World) (π:Nat->Nat->Prop) (vs:List Value),(∀b o,π b o->b<w.heap.size)->i5 w π args vs->
  Calls P f vs.toArray w fun e w'=>∃v π',e=.returned v/\Below w.heap.size w w'/\(∀b o,π b o->π' b o)/\(∀b o,π' b o->π b o\/w.heap.size<=b)/\
   (∀b o,π' b o->b<w'.heap.size)/\DV w' π' r v/\∀t,fr=some t->zi P w' π' (fun B=>w.heap.size<=B) t v
def d4(w:World) (π:Nat->Nat->Prop):List (Option AV)->List Nat->List Value->Prop
 |[],[],[]=>True
 |some .hole::as,B::Bs,v::vs=>v=.agg #[.pointer (some ⟨B,0,none⟩)]/\d4 w π as Bs vs
 |some a::as,Bs,v::vs=>DV w π a v/\d4 w π as Bs vs
 |none::as,B::Bs,v::vs=>v=.pointer (some ⟨B,0,none⟩)/\d4 w π as Bs vs
 |_,_,_=>False
def RV(β:Nat->Nat) (τ:Nat->Value) (w:World) (π:Nat->Nat->Prop):SV->Value->Prop
 | .dat a q,v=>DV w π a v/\∀t,q=some t->v=τ t
 | .ptr b off,v=>v=.pointer (some ⟨β b,off,none⟩)
 | .rp cs,v=>∃(B off:Nat) (f:Nat->Value),v=.pointer (some ⟨B,off,none⟩)/\(∀(j:Nat) (a:AV),cs[j]? =some a->a.scalar=true)/\(∀(j:Nat) (a:AV),cs[j]? =some a->π B (off+j))/\
   (∀(j:Nat) (a:AV),cs[j]? =some a->w.cell? ⟨B,off+j,none⟩=some (f j))/\∀(j:Nat) (a:AV),cs[j]? =some a->DV w π a (f j)
 | .undef,v=>v=undef
 | .mM f as bs,v=>∃us:Array Value,v=.func (.func f) #[] us/\d4 w π as (bs.map β) us.toList
 | .raw q n,v=>∃B cap,τ q=.slice (some ⟨B,0,none⟩) 0 cap/\v=.slice (some ⟨B,0,none⟩) n cap/\n<=cap
 | .vs b off n _,v=>∃cap,n<=cap/\v=.slice (some ⟨β b,off,none⟩) n cap
 | .pt 0 ps,v=>v=.agg (ps.map fun p=>Value.pointer (some ⟨β p.1,p.2,none⟩)).toArray
 | .pt k ps,v=>∃B off cap,(v=if k=1 then .slice (some ⟨B,off,none⟩) ps.length cap else .pointer (some ⟨B,off,none⟩))/\ps.length<=cap/\
   ∀(i:Nat) (p:Nat×Nat),ps[i]? =some p->π B (off+i)/\w.cell? ⟨B,off+i,none⟩=some (.pointer (some ⟨β p.1,p.2,none⟩))
def SV.fo(U:Nat->Prop):SV->Prop
 | .dat _ (some q)=>U q
 | .ptr b _=>U b
 | .vs b _ _ _=>U b
 | .mM _ _ bs=>∀b∈bs,U b
 | .raw q _=>U q
 | .pt _ ps=>∀p∈ps,U p.1
 |_=>True
def nH(τ:Nat->Value) (w:World) (π:Nat->Nat->Prop) (B:Nat) (x:bO):Prop:=
 ∃cur el,w.heap[B]? =some (.cells cur el (0,0))/\i5 w π x.cells (cur.toList.take x.cells.length)/\(∀a∈x.cells,a.scalar=true)/\(∀o q,dU o x.tags=some q->cur[o]? =some (τ q))/\∀o,¬π B o
theorem i5.take{w:World} {π:Nat->Nat->Prop} {as:List AV} {vs:List Value} (h:i5 w π as vs):i5 w π as (vs.take as.length):=by
 rw[List.take_of_length_le (Nat.le_of_eq h.1.symm)];exact h
def cg(w:World) (π:Nat->Nat->Prop):List (List AV)->List Nat->Prop
 |[],[]=>True
 |cs::css,B::Bs=>nH (fun _=>undef) w π B ⟨cs,[]⟩/\cg w π css Bs
 |_,_=>False
def gp.gF(w:World) (Bs:List Nat):gp:=⟨w.heap.size,fun B=>B∈Bs,fun k=>Bs.getD k 0⟩
def xd(P:Program) (f:FuncId) (css:List (List AV)) (args:List (Option AV)) (r:AV) (fr:Option Nat) (css':List (List AV)):Prop:=
 bQ P f=true/\css'.length=css.length/\css.length<=4/\
 ∀(w:World) (π:Nat->Nat->Prop) (Bs:List Nat) (vs:List Value),(∀b o,π b o->b<w.heap.size)->Bs.Nodup->cg w π css Bs->d4 w π args Bs vs->
  Calls P f vs.toArray w fun e w'=>∃v π',e=.returned v/\rK (gp.gF w Bs) w w'/\(∀b o,π b o->π' b o)/\(∀b o,π' b o->π b o\/w.heap.size<=b)/\
   (∀b o,π' b o->b<w'.heap.size)/\cg w' π' css' Bs/\DV w' π' r v/\∀t,fr=some t->zi P w' π' (fun B=>w.heap.size<=B) t v
theorem DV.lX{w:World} {π:Nat->Nat->Prop} {a:AV} (h:Eng.lX a=true):DV w π a (JH a):=by
 cases a<;>first|(simp[Eng.lX]at h;done)|constructor
theorem DV.flat{w:World} {π:Nat->Nat->Prop} {a:AV} (h:tD a=true):DV w π a (tC a):=by
 cases a with
 |agg cs=>
  simp only[tD,List.all_eq_true]at h
  refine .agg cs _ (by simp) (fun a ha=>?_) (fun i a v ha hv=>?_)
  ·have:=h a ha;cases a<;>first|rfl|(simp[Eng.lX]at this;done)
  ·simp only[List.getElem?_toArray,List.getElem?_map,ha,Option.map_some,Option.some.injEq]at hv
   subst hv;exact .lX (h a (List.mem_of_getElem? ha))
 |_=>first|exact .lX h|(simp[tD,Eng.lX]at h;done)
def Iter(P:Program) (gv:AV) (xs:List (List AV)):Prop:=
 ∃gf caps,gv=.fn (.func gf) [] caps/\bQ P gf=true/\(∀x∈xs,∀a∈x,tD a=true)/\
 ∀(l:Nat) (J:Nat->World->Prop) (Jx:World->Prop) (W:World) (π:Nat->Nat->Prop) (vs:List Value),(∀b o,π b o->b<W.heap.size)->i5 W π caps vs->
  (∀i W',J i W'->∀b o,π b o->W'.cell? ⟨b,o,none⟩=W.cell? ⟨b,o,none⟩)->
  (∀i W W',J i W->Below W.heap.size W W'->J i W')->(∀W W',Jx W->Below W.heap.size W W'->Jx W')->
  (∀n i x W,xs[i]? =some x->J i W->YieldAt Fence.wide n P l (x.map tC).toArray W fun e W'=>(e=.returned (.bool true)/\J (i+1) W')\/(e=.returned (.bool false)/\Jx W'))->
  J 0 W->
  Calls P gf (#[.func (.yield l) #[] #[]]++vs.toArray) W fun e W'=>(∃v,e=.returned v)/\(J xs.length W'\/Jx W')
def GI(P:Program) (f:FuncId) (css:List (List AV)) (args:List (Option AV)) (p:AV) (css':List (List AV)):Prop:=
 bQ P f=true/\css'.length=css.length/\css.length<=4/\
 ∀(w:World) (π:Nat->Nat->Prop) (Bs:List Nat) (vs:List Value),(∀b o,π b o->b<w.heap.size)->Bs.Nodup->cg w π css Bs->d4 w π args Bs vs->
  Calls P f vs.toArray w fun e w'=>∃π',e=.panicked (dz p)/\rK (gp.gF w Bs) w w'/\(∀b o,π b o->π' b o)/\(∀b o,π' b o->π b o\/w.heap.size<=b)/\
   (∀b o,π' b o->b<w'.heap.size)/\cg w' π' css' Bs
def MB(P:Program) (f:FuncId) (args:List AV) (cs:List AV):Prop:=
 bQ P f=true/\
 ∀(w:World) (π:Nat->Nat->Prop) (vs:List Value),(∀b o,π b o->b<w.heap.size)->i5 w π args vs->
  Calls P f vs.toArray w fun e w'=>∃B π',e=.returned (.pointer (some ⟨B,0,none⟩))/\w.heap.size<=B/\Below w.heap.size w w'/\(∀b o,π b o->π' b o)/\(∀b o,π' b o->π b o\/w.heap.size<=b)/\
   (∀b o,π' b o->b<w'.heap.size)/\nH (fun _=>undef) w' π' B ⟨cs,[]⟩
def xg:AV->FrameMode
 | .eH=>.returning
 |p=>.panicking (dz p)
def GJ(P:Program) (f:FuncId) (rv:AV) (css:List (List AV)) (args:List (Option AV)) (css':List (List AV)):Prop:=
 bQ P f=true/\css'.length=css.length/\css.length<=4/\
 ∀(w:World) (π:Nat->Nat->Prop) (Bs:List Nat) (vs:List Value),(∀b o,π b o->b<w.heap.size)->Bs.Nodup->cg w π css Bs->d4 w π args Bs vs->
  CallsDIn Fence.wide 0 P f vs.toArray (xg rv) w fun e u' w'=>∃v π',e=.returned v/\settle u'=.returning/\rK (gp.gF w Bs) w w'/\(∀b o,π b o->π' b o)/\(∀b o,π' b o->π b o\/w.heap.size<=b)/\
   (∀b o,π' b o->b<w'.heap.size)/\cg w' π' css' Bs
def gp.Q5(w:World) (Bs:List Nat) (tb:Nat->Prop):gp:=⟨w.heap.size,fun B=>B∈Bs\/tb B,fun k=>Bs.getD k 0⟩
def E9(P:Program) (w:World) (π:Nat->Nat->Prop) (Bs:List Nat) (ok:Nat->Prop) (tv:Value):Option (Nat×Nat×Nat)->Prop
 |none=>True
 |some (j,o,e)=>∃B cur el,Bs[j]? =some B/\w.heap[B]? =some (.cells cur el (0,0))/\cur[o]? =some tv/\zi P w π ok e tv/\∀TB,i7 tv=some TB->TB∉Bs
def Jw(tg:Option (Nat×Nat×Nat)) (tv:Value) (B:Nat):Prop:=tg.isSome=true/\i7 tv=some B
def MC(P:Program) (f:FuncId) (css:List (List AV)) (tg:Option (Nat×Nat×Nat)) (args:List (Option AV)) (r:AV) (css':List (List AV)) (tg':Option (Nat×Nat×Nat)):Prop:=
 bQ P f=true/\css'.length=css.length/\css.length<=4/\
 ∀(w:World) (π:Nat->Nat->Prop) (Bs:List Nat) (vs:List Value) (tv:Value),(∀b o,π b o->b<w.heap.size)->Bs.Nodup->cg w π css Bs->d4 w π args Bs vs->E9 P w π Bs (fun _=>True) tv tg->
  Calls P f vs.toArray w fun e w'=>∃v π' tv',e=.returned v/\rK (gp.Q5 w Bs (Jw tg tv)) w w'/\(∀b o,π b o->π' b o)/\(∀b o,π' b o->π b o\/w.heap.size<=b\/Jw tg tv b)/\
   (∀b o,π' b o->b<w'.heap.size)/\(∀b o,π b o->w'.cell? ⟨b,o,none⟩=w.cell? ⟨b,o,none⟩)/\cg w' π' css' Bs/\DV w' π' r v/\E9 P w' π' Bs (fun B=>w.heap.size<=B\/Jw tg tv B) tv' tg'
def GK(P:Program) (f:FuncId) (css:List (List AV)) (args:List (Option AV)) (j o:Nat):Prop:=
 bQ P f=true/\css.length<=4/\
 ∀(w:World) (π:Nat->Nat->Prop) (Bs:List Nat) (vs:List Value),(∀b o,π b o->b<w.heap.size)->Bs.Nodup->cg w π css Bs->d4 w π args Bs vs->
  Calls P f vs.toArray w fun e w'=>∃B π',Bs[j]? =some B/\e=.returned (.pointer (some ⟨B,o,none⟩))/\rK (gp.gF w Bs) w w'/\(∀b o,π b o->π' b o)/\(∀b o,π' b o->π b o\/w.heap.size<=b)/\
   (∀b o,π' b o->b<w'.heap.size)/\cg w' π' css Bs
def Pure(P:Program):bt:=⟨BB P,xd P,Iter P,GI P,MB P,GJ P,MC P,GK P⟩
structure Rel (P:Program) (nt:Nat) (n0:gp) (w0:World) (π0:Nat->Nat->Prop) (U:Nat->Prop) (s:S) (a:Act) (w:World) (β:Nat->Nat) (τ:Nat->Value) (π:Nat->Nat->Prop):Prop where
 size:a.tmps.size=nt
 slots:∀t v,lk t s.slots=some v->(∃x,a.tmps[t]? =some x/\RV β τ w π v x)/\v.fo U
 boxes:∀b x,bY b s.boxes=some x->U b/\n0.WN b (β b)/\nH τ w π (β b) x/\∀o q,dU o x.tags=some q->U q
 inj:∀b b' x x',bY b s.boxes=some x->bY b' s.boxes=some x'->β b=β b'->b=b'
 live:∀q e,dU q s.live=some e->U q/\zi P w π n0.ok e (τ q)
 bJ:∀q q' e e' B,dU q s.live=some e->dU q' s.live=some e'->i7 (τ q)=some B->i7 (τ q')=some B->q=q'
 cn:∀q e b x,dU q s.live=some e->bY b s.boxes=some x->i7 (τ q)≠some (β b)
 below:rK n0 w0 w
 eA:n0.n<=w0.heap.size
 dJ:∀b o,π b o->b<w.heap.size
 dL:∀b o,π0 b o->π b o
 cj:∀b o,π b o->π0 b o\/n0.ok b
 kP:∀k,k<4->β k=n0.β k
 i9:∀k,k<4->U k
 kept:∀b o,π0 b o->w.cell? ⟨b,o,none⟩=w0.cell? ⟨b,o,none⟩
end Go.Eng
