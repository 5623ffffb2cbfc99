/- The engine and the library,part 1 of 21: what the proofs of this seat need of them. -/
import Derived.WalkKit
import Derived.RangeFuncNested
import Derived.RangeFuncLeaves
import Derived.OrdersIn
import Derived.LoopNIn
import Derived.ChangeKeysEq
import Derived.Laws.Externs
import Derived.Lib.SliceRun
import Derived.Laws.CopyRow
import Derived.Laws.MakeOwn
import Ieee.Arith
import GoSem.Core.Float
import Derived.RecoverIn
import Derived.ProofKit
import Derived.OpenShut
import Derived.ShutString
import Derived.ChangeOld
import Derived.Below
set_option linter.unnecessarySimpa false
set_option linter.unusedSimpArgs false
set_option linter.unusedVariables false
set_option linter.defProp false
set_option maxRecDepth 10000
set_option maxHeartbeats 4000000
namespace Go.Eng
open Go
inductive AV where
 |bool (b:Bool)
 |int (k:IntKind) (n:Int)
 |float (k:FloatKind) (n:Nat)
 |str (s:ByteArray)
 |mh
 |bL
 |sl (xs:List (List AV))
 |fn (f:Fn) (first caps:List AV)
 |ye
 |iface (t:Nat) (v:AV)
 |fJ
 |agg (cs:List AV)
 |qf (vs:List AV)
 |ref (cs:List AV)
 /-- a float (of 64 bits) that is no number,whichever -/
 |iw
 /-- an argument: a struct of one pointer,at the head of the next box -/
 |hole
 deriving Inhabited
inductive SV where
 |dat (a:AV) (q:Option Nat)
 |ptr (b off:Nat)
 |rp (cs:List AV)
 |undef
 /-- a slice BX a box of its own or another's: n elements of z cells each,from off on -/
 |vs (b off n z:Nat)
 /-- a function with values and pointers at the heads of boxes -/
 |nD (f:Nat) (as:List (Option AV)) (bs:List Nat)
 /-- a slice of n elements that nobody has read: the token's row from its head on -/
 |raw (q n:Nat)
 /-- pointers into boxes: 0: a struct of them; 1: a slice; 2: a pointer at the first of a row that is never written -/
 |pt (k:Nat) (ps:List (Nat×Nat))
 deriving Inhabited
structure bY where
 cells:List AV
 tags:List (Nat×Nat)
 deriving Inhabited
structure S where
 slots:List (Nat×SV)
 boxes:List (Nat×bY)
 live:List (Nat×Nat)
 nx:Nat
 deriving Inhabited
inductive bE where
 |t (n:Nat)
 |k (v:AV)
 deriving Inhabited
inductive CK where
 |b|i|f|s
 deriving DecidableEq,Inhabited
inductive Xt where
 |yf|ffrom|rte
 deriving DecidableEq,Inhabited
inductive bR where
 |mv (x:bE)
 |pick (c a b:bE)
 |alloc (cs:List AV)
 |box (x:bE)
 |build (zs:List AV) (parts:List (Nat×Nat×bE))
 |f9 (e z:Nat) (xs:List bE)
 |ld (x:bE) (sz:Option Nat)
 |st (x v:bE) (sz:Nat)
 |fa (x:bE) (off:Nat)
 |Aw (x i:bE) (n z:Nat)
 |CC (x i:bE) (z:Nat)
 |Sk (x:bE) (off:Nat) (sz:Option Nat)
 |KY (x i:bE) (n z:Nat) (sz:Option Nat)
 |bin (op:BinOp) (x y:bE)
 |eqc (ks:List CK) (neg:Bool) (x y:bE)
 |bb (neg:Bool) (x y:bE)
 |un (op:UnOp) (x:bE)
 |j4 (k:IntKind) (x:bE)
 |Ak (k:FloatKind) (x:bE)
 |Bp (k:IntKind) (x:bE)
 |Bq (x:bE)
 |uB (x:bE)
 |HE (n:Nat)
 |app (e z bytes:Nat) (s x:bE)
 |call (f:Nat) (args:List bE)
 |aE (f:Nat) (args:List bE)
 |fc (g:bE) (args:List bE)
 |ext (x:bE) (i:Nat)
 |Br (fn:Fn) (first caps:List bE)
 |KS (z:Nat) (x:bE) (lo hi:Option bE)
 |nc (x:bE)
 |mm (max:Bool) (args:List bE)
 |xt (e:Xt) (x:bE)
 |Ed (x:bE) (n z:Nat)
 |Sl (x i:bE)
 |NN (neg:Bool) (x:bE)
 |gL (g:bE) (args:List bE)
 |yg (f:Nat) (args:List bE)
 |ql (g:bE) (args:List bE)
 |RG (x:bE) (n z:Nat) (hi:bE)
 |Bt (e z bytes:Nat) (y x:bE)
 /-- what a row of pointers holds: one,or a struct -/
 |jY (x:bE) (sz:Option Nat)
 /-- a call that raises; what is raised is what it yields -/
 |sZ (f:Nat) (args:List bE)
 deriving Inhabited
structure CO where
 dst:Option Nat
 op:bR
 g:Option (Nat×Bool)
 deriving Inhabited
inductive CD where
 |o (c:bR)
 |call (f:Nat) (args:List bE)
 |aE (f:Nat) (args:List bE)
 |fc (p:Bool) (g:bE) (args:List bE)
 |Sm (f:Nat) (caps:List bE)
 |Hy (x:bE)
 |Hz (t:Nat) (x:bE)
 /-- is it of that type? the value,or nothing of that type -/
 |NO (t:Nat) (z:AV) (x:bE)
 |RH (neg:Bool) (x:bE)
 |RI (neg:Bool) (x:bE)
 /-- a slice of cells that is made; what is copied into all of it -/
 |RJ (e bytes:Nat) (l c:bE)
 |RM (e:Nat) (x y:bE)
 /-- pointers in a struct,in a row of its own,in a slice -/
 |Gc (x:bE)
 |sU (x:bE)
 |RO (x v:bE)
 |Bu (xs:List bE)
 |KZ (x i:bE)
 |K0 (x:bE)
 /-- a call that yields a pointer into a box that it is given -/
 |Ay (g:bE) (args:List bE)
 /-- what is appended to nothing: a slice of its own,which may be written -/
 |Sn (e z bytes:Nat) (y:bE)
 deriving Inhabited
structure XO where
 dst:Option Nat
 op:CD
 g:Option (Nat×Bool)
 deriving Inhabited
inductive bn where
 |skip
 |Bv (ops:List CO)
 |seq (a b:bn)
 |join (a b:bn)
 |cond (c:bE) (a b:bn)
 |block (id:Nat) (c:bn)
 |loop (c:bn)
 |exit (id:Nat)
 |ret
 |Am (g:bE) (ps wr:List Nat) (as bd:bn)
 |sV (ops:List CO) (dZ:List (Nat×Nat))
 |scope (l:Nat) (c r:bn)
 |label (l:Nat)
 |goto (l:Nat)
 |aT (ops:List XO)
 /-- as sV; operation k may raise,those of dep come behind it -/
 |xJ (ops:List CO) (dZ:List (Nat×Nat)) (k:Nat) (dep:List Nat)
 deriving Inhabited
def AV.cells:AV->List AV
 | .agg cs=>cs
 |v=>[v]
def AV.scalar:AV->Bool
 | .agg _| .qf _=>false
 |_=>true
def Gd:Value->Option AV
 | .bool b=>some (.bool b)
 | .int k n=>some (.int k n)
 | .float k n=>some (.float k n)
 | .string s=>some (.str s)
 | .pointer none=>some .mh
 | .slice none 0 0=>some .bL
 | .nilFunc=>some .ye
 | .nilIface=>some .fJ
 |_=>none
def V2:Value->Option AV
 | .agg cs=>(cs.toList.mapM Gd).map .agg
 |v=>Gd v
def wT(op:BinOp) (k:IntKind) (x y:Int):Option Int:=
 let a:=BitVec.ofInt k.bits x
 let b:=BitVec.ofInt k.bits y
 match op with
 | .and=>some (k.wrap (a&&&b).toNat)
 | .or=>some (k.wrap (a|||b).toNat)
 | .xor=>some (k.wrap (a^^^b).toNat)
 | .andNot=>some (k.wrap (a&&& ~~~b).toNat)
 |_=>none
def qg(op:BinOp) (k:IntKind) (x y:Int):Option AV:=
 match op with
 | .add=>some (.int k (k.wrap (x+y)))
 | .sub=>some (.int k (k.wrap (x-y)))
 | .mul=>some (.int k (k.wrap (x*y)))
 | .quo=>if y=0 then none else some (.int k (k.wrap (x.tdiv y)))
 | .rem=>if y=0 then none else some (.int k (x.tmod y))
 | .and| .or| .xor| .andNot=>(wT op k x y).map (.int k)
 | .eql=>some (.bool (x==y))
 | .neq=>some (.bool (x !=y))
 | .lss=>some (.bool (decide (x<y)))
 | .leq=>some (.bool (decide (x<=y)))
 | .gtr=>some (.bool (decide (x>y)))
 | .geq=>some (.bool (decide (x>=y)))
 |_=>none
def Bw(n:Nat):Bool:=match FloatKind.f64.decode n with
 | .nan ..=>true
 |_=>false
def Ee:FloatKind->Option Nat->Option AV
 |k,some r=>some (.float k r)
 | .f64,none=>some .iw
 | .f32,none=>none
def HF:BinOp->Option AV
 | .add| .sub| .mul| .quo=>some .iw
 | .neq=>some (.bool true)
 | .eql| .lss| .leq| .gtr| .geq=>some (.bool false)
 |_=>none
def yh(op:BinOp) (k:FloatKind) (x y:Nat):Option AV:=
 let c:=k.format.order x y
 match op with
 | .add=>Ee k (k.format.add x y)
 | .sub=>Ee k (k.format.sub x y)
 | .mul=>Ee k (k.format.mul x y)
 | .quo=>Ee k (k.format.div x y)
 | .eql=>some (.bool (c==some .eq))
 | .neq=>some (.bool (c !=some .eq))
 | .lss=>some (.bool (c==some .lt))
 | .leq=>some (.bool (c==some .lt||c==some .eq))
 | .gtr=>some (.bool (c==some .gt))
 | .geq=>some (.bool (c==some .gt||c==some .eq))
 |_=>none
def qm(op:BinOp) (k:IntKind) (x y:Int):Option AV:=
 if y<0 then none else
 match op with
 | .shl=>some (.int k (k.wrap (x*2^min y.toNat k.bits)))
 | .shr=>some (.int k (x.fdiv (2^min y.toNat k.bits)))
 |_=>none
def ez(op:BinOp) (a b:AV):Option AV:=
 match op,a,b with
 | .shl,.int k x,.int _ y=>qm .shl k x y
 | .shr,.int k x,.int _ y=>qm .shr k x y
 |op,.int k x,.int k' y=>if k=k' then qg op k x y else none
 |op,.float k x,.float k' y=>if k=k' then yh op k x y else none
 |op,.iw,.float .f64 _=>HF op
 |op,.float .f64 _,.iw=>HF op
 |op,.iw,.iw=>HF op
 |_,_,_=>none
def RQ(neg:Bool):AV->AV->Option AV
 | .bool x,.bool y=>some (.bool (if neg then x !=y else x==y))
 |_,_=>none
def lO:CK->AV->AV->Option Bool
 | .b,.bool x,.bool y=>some (x==y)
 | .i,.int k x,.int k' y=>if k=k' then some (x==y)else none
 | .f,.float k x,.float k' y=>if k=k' then some (k.format.order x y==some .eq)else none
 | .s,.str x,.str y=>some (x==y)
 |_,_,_=>none
def bt:List CK->List AV->List AV->Option Bool
 |[],[],[]=>some true
 |k::ks,a::as,b::bs=>match lO k a b,bt ks as bs with
  |some x,some y=>some (x&&y)
  |_,_=>none
 |_,_,_=>none
def Og(op:UnOp) (a:AV):Option AV:=
 match op,a with
 | .neg,.int k n=>some (.int k (k.wrap (0-n)))
 | .xor,.int k n=>(wT .xor k (if k.signed then -1 else k.max) n).map (.int k)
 | .neg,.float k b=>some (.float k (Op.negFloat k b))
 | .not,.bool b=>some (.bool !b)
 |_,_=>none
def Az(k:IntKind):AV->Option AV
 | .int _ n=>some (.int k (k.wrap n))
 |_=>none
def yj(k:FloatKind):AV->Option AV
 | .int _ n=>some (.float k (k.nearest n))
 |_=>none
def uC(k:IntKind):AV->Option AV
 | .float s b=>match(s.decode b).toInt .zero with
  |some n=>if k.min<=n/\n<=k.max then some (.int k n)else none
  |none=>none
 |_=>none
def Bx(b:Nat):Option AV:=
 match FloatKind.f64.decode b with
 | .nan _ t=>if FloatKind.f64.format.quiet t=t then some (.float .f64 b)else none
 |d=>some (.float .f64 (FloatKind.f64.encode (d.integral .even)))
def RR:Xt->AV->Option AV
 | .yf,.float .f64 b=>some (.int .u64 b)
 | .ffrom,.int .u64 n=>some (.float .f64 n.toNat)
 | .rte,.float .f64 b=>Bx b
 |_,_=>none
def bZ(z:Nat):Nat->List AV->List (List AV)
 |0,_=>[]
 |n+1,cs=>cs.take z::bZ z n (cs.drop z)
def Fa(s:ByteArray) (i:Int):Option AV:=
 if 0<=i/\i<s.size then some (.int .u8 (s[i.toNat]!).toNat)else none
def By:AV->Option AV
 | .bL=>some (.int .i64 0)
 | .sl xs=>some (.int .i64 xs.length)
 |_=>none
def CE:Bool->AV->Option Bool
 |neg,.bL=>some (!neg)
 |neg,.sl _=>some neg
 |_,_=>none
def NP(mx:Bool):AV->AV->Option AV
 | .int k x,.int _ y=>some (.int k (if mx then(if y>x then y else x)else(if y<x then y else x)))
 | .float k x,.float k' y=>if k=k' then match k.format.order x y with
   |none=>if k=.f64 then some .iw else none
   |some .lt=>some (.float k (if mx then y else x))
   |some .gt=>some (.float k (if mx then x else y))
   |some .eq=>some (.float k (if mx then(if(k.decode x).neg then y else x)else(if(k.decode x).neg then x else y)))
  else none
 | .iw,.float .f64 _=>some .iw
 | .float .f64 _,.iw=>some .iw
 | .iw,.iw=>some .iw
 |_,_=>none
def HG:AV->Nat->Option AV
 | .qf vs,i=>vs[i]?
 |_,_=>none
def bF(cs:List AV) (off:Nat):Option Nat->Option AV
 |none=>cs[off]?
 |some n=>if off+n<=cs.length then some (.agg ((cs.drop off).take n))else none
def iy:List AV->List (Nat×List AV)->List AV
 |cs,[]=>cs
 |cs,(off,ps)::rest=>iy (cs.take off++ps++cs.drop (off+ps.length)) rest
def K1:AV->Value
 | .bool b=>.bool b
 | .int k n=>.int k n
 | .float k n=>.float k n
 | .str s=>.string s
 | .mh=>.pointer none
 | .bL=>.slice none 0 0
 |_=>undef
def mK:AV->Bool
 | .bool _| .int .. | .float .. | .str _| .mh| .bL=>true
 |_=>false
def uD:AV->Value
 | .agg cs=>.agg (cs.map K1).toArray
 |a=>K1 a
def uE:AV->Bool
 | .agg cs=>cs.all mK
 |a=>mK a
def Ef(t:Nat) (z:AV):AV->Option AV
 | .fJ=>some (.qf [z,.bool false])
 | .iface t' a=>some (if t'=t then .qf [a,.bool true]else .qf [z,.bool false])
 |_=>none
def Ge(neg:Bool):AV->Option Bool
 | .fJ=>some !neg
 | .iface _ _=>some neg
 |_=>none
def An(neg:Bool):SV->Option Bool
 | .ptr _ _| .rp _| .dat (.ref _) _=>some neg
 | .dat .mh _=>some !neg
 |_=>none
def jo:AV->Bool
 | .iface _ a=>uE a
 |_=>false
def Oh:AV->Value
 | .iface t a=>.iface t (uD a)
 |_=>undef
def d8(p:AV):List PanicEntry:=[{v:=Oh p,recovered:=false}]
def lk:Nat->List (Nat×SV)->Option SV
 |_,[]=>none
 |n,(m,v)::r=>bif n==m then some v else lk n r
def ct:Nat->List (Nat×bY)->Option bY
 |_,[]=>none
 |n,(m,v)::r=>bif n==m then some v else ct n r
def eK:Nat->List (Nat×Nat)->Option Nat
 |_,[]=>none
 |n,(m,v)::r=>bif n==m then some v else eK n r
def nW:Nat->bY->List (Nat×bY)->List (Nat×bY)
 |_,_,[]=>[]
 |n,b,(m,v)::r=>bif n==m then(m,b)::r else(m,v)::nW n b r
def mj:Nat->List (Nat×Nat)->List (Nat×Nat)
 |_,[]=>[]
 |n,(m,v)::r=>bif n==m then mj n r else(m,v)::mj n r
def S.put(s:S) (d:Option Nat) (v:SV):S:=
 match d with
 |none=>s
 |some d=>{s with slots:=(d,v)::s.slots}
def bM(s:S):bE->Option SV
 | .t n=>lk n s.slots
 | .k v=>some (.dat v none)
def aQ(s:S) (x:bE):Option AV:=
 match bM s x with
 |some (.dat a _)=>some a
 |some (.rp cs)=>some (.ref cs)
 |_=>none
def dL(s:S):List bE->Option (List AV)
 |[]=>some []
 |x::r=>match aQ s x,dL s r with
  |some a,some as=>some (a::as)
  |_,_=>none
def aj{α:Type} (o:Option α) (k:α->Prop):Prop:=
 match o with
 |some a=>k a
 |none=>False
@[simp] theorem aG {α:Type} (a:α) (k:α->Prop):aj (some a) k=k a:=rfl
@[simp] theorem Oi {α:Type} (k:α->Prop):aj none k=False:=rfl
def jq:AV->Option Nat->Bool
 | .qf _,_=>false
 | .agg _,some _=>false
 |_,_=>true
def jg(s:S):List (Nat×Nat×bE)->Option (List (Nat×List AV))
 |[]=>some []
 |(off,sz,x)::r=>match aQ s x,jg s r with
  |some a,some ps=>if a.cells.length=sz/\jq a none=true then some ((off,a.cells)::ps)else none
  |_,_=>none
def lV(s:S) (z:Nat):List bE->Option (List (List AV))
 |[]=>some []
 |x::r=>match aQ s x,lV s z r with
  |some a,some rows=>if a.cells.length=z/\jq a none=true then some (a.cells::rows)else none
  |_,_=>none
def idxOf:AV->Option Int
 | .int _ i=>some i
 |_=>none
def setCells(cs:List AV) (off:Nat) (ps:List AV):List AV:=cs.take off++ps++cs.drop (off+ps.length)
def vS:Option AV->Option Int
 |some a=>idxOf a
 |none=>none
def yl(s:S):Option bE->Option Int
 |none=>some 0
 |some x=>vS (aQ s x)
def ym(s:S) (xs:List (List AV)):Option bE->Option Int
 |none=>some xs.length
 |some x=>vS (aQ s x)
def Bz(a:AV) (xs:List (List AV)) (l h:Int):AV:=
 match a with
 | .bL=>.bL
 |_=>.sl ((xs.take h.toNat).drop l.toNat)
structure bw where
 c:Nat->List AV->AV->Option Nat->Prop
 p:Nat->List (List AV)->List (Option AV)->AV->Option Nat->List (List AV)->Prop
 /-- what a function that is ranged BX yields,one after the other -/
 i:AV->List (List AV)->Prop
 /-- a function that raises this -/
 q:Nat->List (List AV)->List (Option AV)->AV->List (List AV)->Prop
 /-- a function that yields a pointer to a new box -/
 n:Nat->List AV->List AV->Prop
 /-- a function that is deferred,with what it recovers: nothing,or what was raised -/
 d:Nat->AV->List (List AV)->List (Option AV)->List (List AV)->Prop
 /-- a function that takes a token with one of its boxes,or leaves one there: which box,which cell,what kind -/
 t:Nat->List (List AV)->Option (Nat×Nat×Nat)->List (Option AV)->AV->List (List AV)->Option (Nat×Nat×Nat)->Prop
 /-- a function that yields a pointer into one of its boxes: which,where -/
 r:Nat->List (List AV)->List (Option AV)->Nat->Nat->Prop
def dB(h:Bool) (s:S):List bE->Option (List (Option AV)×List Nat)
 |[]=>some ([],[])
 |x::r=>match bM s x,dB h s r with
  |some (.dat a _),some (as,bs)=>some (some a::as,bs)
  |some (.rp cs),some (as,bs)=>some (some (.ref cs)::as,bs)
  |some (.ptr b 0),some (as,bs)=>some (none::as,b::bs)
  |some (.pt 0 [(b,0)]),some (as,bs)=>bif h then some (some .hole::as,b::bs)else none
  |_,_=>none
def qn:List (Option AV)->Bool
 |[]=>true
 |some .hole::_=>false
 |some _::r=>qn r
 |none::r=>qn r
theorem CF{a:AV} {r:List (Option AV)} (h:qn (some a::r)=true):a≠.hole/\qn r=true:=by
 cases a<;>first|exact⟨by simp,h⟩|(cases h)
def qp(s:S):List bE->Option (List (Nat×Nat))
 |[]=>some []
 |x::r=>match bM s x,qp s r with
  |some (.ptr b o),some ps=>some ((b,o)::ps)
  |_,_=>none
def bh(l:List (Nat×bY)):List Nat->Option (List (List AV))
 |[]=>some []
 |b::bs=>match ct b l,bh l bs with
  |some x,some css=>some (x.cells::css)
  |_,_=>none
def d9(l:List (Nat×bY)):List Nat->Option (List (List AV))
 |[]=>some []
 |b::bs=>match ct b l,d9 l bs with
  |some ⟨cs,[]⟩,some css=>some (cs::css)
  |_,_=>none
def dz:List Nat->List (List AV)->List (Nat×bY)->List (Nat×bY)
 |b::bs,cs::css,l=>dz bs css (nW b ⟨cs,[]⟩ l)
 |_,_,l=>l
def Eg(b o q:Nat):List (Nat×bY)->List (Nat×bY)
 |[]=>[]
 |(k,x)::r=>bif b==k then(k,⟨x.cells,[(o,q)]⟩)::r else(k,x)::Eg b o q r
def V3(bx:List (Nat×bY)) (lv:List (Nat×Nat)) (ids:List Nat):Option (Nat×Nat×Nat)->Option (Option Nat)
 |none=>some none
 |some (j,o,e)=>(ids[j]?).bind fun b=>(ct b bx).bind fun x=>(eK o x.tags).bind fun q=>if eK q lv=some e then some (some q)else none
def HH(id:Nat) (ids:List Nat):Option (Nat×Nat×Nat)->List (Nat×bY)->List (Nat×bY)
 |none,l=>l
 |some (j,o,_),l=>match ids[j]? with
  |some b=>Eg b o id l
  |none=>l
def Oj(id:Nat):Option (Nat×Nat×Nat)->List (Nat×Nat)->List (Nat×Nat)
 |none,l=>l
 |some (_,_,e),l=>(id,e)::l
def HI:Option Nat->List (Nat×Nat)->List (Nat×Nat)
 |none,l=>l
 |some q,l=>mj q l
def Fb(C:bw) (f:Nat) (css:List (List AV)) (as:List (Option AV)) (ids:List Nat) (id:Nat) (bx:List (Nat×bY)) (lv:List (Nat×Nat)) (k:SV->List (Nat×bY)->List (Nat×Nat)->Prop):Prop:=
 ∃tg r css' tg',C.t f css tg as r css' tg'/\aj (V3 bx lv ids tg) fun qo=>k (.dat r none) (HH id ids tg' (dz ids css' bx)) (Oj id tg' (HI qo lv))
def jZ(b:Nat) (cs:List AV):SV->SV
 | .ptr b' o=>bif b'==b then .rp (cs.drop o)else .ptr b' o
 | .vs b' o n z=>bif b'==b&&decide (n*z<=(cs.drop o).length)then .dat (.sl (bZ z n (cs.drop o))) none else .vs b' o n z
 |v=>v
def yo(b:Nat) (cs:List AV):List (Nat×SV)->List (Nat×SV)
 |[]=>[]
 |(t,v)::r=>(t,jZ b cs v)::yo b cs r
def kZ:Nat->List (Nat×bY)->List (Nat×bY)
 |_,[]=>[]
 |n,(m,v)::r=>bif n==m then kZ n r else(m,v)::kZ n r
def gM:List Nat->List (List AV)->S->S
 |b::bs,cs::css,s=>gM bs css {s with slots:=yo b cs s.slots,boxes:=kZ b s.boxes}
 |_,_,s=>s
theorem rR:∀{ids:List Nat} {css:List (List AV)} {s:S},(gM ids css s).nx=s.nx
 |[],css,s=>rfl
 |b::bs,[],s=>rfl
 |b::bs,cs::css,s=>by rw[gM,rR]
def lW:List (Option AV)->List (List AV)->List AV
 |some a::as,css=>a::lW as css
 |none::as,cs::css=>.ref cs::lW as css
 |_,_=>[]
def iz:List Nat->Bool
 |[]=>true
 |b::bs=>decide (4<=b)&&iz bs
def cY:List Nat->Bool
 |[]=>true
 |b::bs=>!bs.contains b&&cY bs
def rowsOf:AV->Option (List (List AV))
 | .bL=>some []
 | .sl xs=>some xs
 |_=>none
def bN(C:bw) (id:Nat) (o:bR) (K:SV->S->Prop) (s:S):Prop:=
 match o with
 | .mv x=>aj (bM s x) fun v=>K v s
 | .pick c a b=>aj (aQ s c) fun
   | .bool t=>aj (bM s a) fun u=>aj (bM s b) fun v=>(t=true->K u s)/\(t=false->K v s)
   |_=>False
 | .alloc cs=>K (.ptr id 0) {s with boxes:=(id,⟨cs,[]⟩)::s.boxes}
 | .box x=>aj (aQ s x) fun a=>jq a none=true/\K (.ptr id 0) {s with boxes:=(id,⟨a.cells,[]⟩)::s.boxes}
 | .build zs parts=>aj (jg s parts) fun ps=>K (.dat (.agg (iy zs ps)) none) s
 | .f9 e z xs=>aj (lV s z xs) fun rows=>K (.dat (.sl rows) (some id)) {s with live:=(id,e)::s.live}
 | .ld x sz=>aj (bM s x) fun
   | .ptr b off=>aj (ct b s.boxes) fun bx=>aj (bF bx.cells off sz) fun a=>
     K (.dat a (match sz with|none=>eK off bx.tags|some _=>none)) s
   | .rp cs=>aj (bF cs 0 sz) fun a=>K (.dat a none) s
   |_=>False
 | .st x v sz=>aj (bM s x) fun
   | .ptr b off=>aj (ct b s.boxes) fun bx=>aj (bM s v) fun
     | .dat a q=>jq a q=true/\a.cells.length=sz/\off+sz<=bx.cells.length/\
       K .undef {s with boxes:=nW b ⟨setCells bx.cells off a.cells,match q with|some q=>(off,q)::bx.tags.filter (fun p=>p.1<off||off+sz<=p.1)|none=>bx.tags.filter (fun p=>p.1<off||off+sz<=p.1)⟩ s.boxes}
     |_=>False
   |_=>False
 | .fa x off=>aj (bM s x) fun
   | .ptr b o=>K (.ptr b (o+off)) s
   | .rp cs=>K (.rp (cs.drop off)) s
   | .pt 2 ps=>K (.pt 2 (ps.drop off)) s
   |_=>False
 | .Aw x i n z=>aj (bM s x) fun p=>aj (aQ s i) fun a=>aj (idxOf a) fun i=>(0<=i/\i<n)/\
   match p with
   | .ptr b o=>K (.ptr b (o+i.toNat*z)) s
   | .rp cs=>K (.rp (cs.drop (i.toNat*z))) s
   |_=>False
 | .CC x i z=>aj (bM s x) fun
   | .dat l _=>aj (aQ s i) fun a=>aj (idxOf a) fun i=>aj (rowsOf l) fun xs=>(0<=i/\i<xs.length)/\aj (xs[i.toNat]?) fun row=>row.length=z/\K (.rp row) s
   | .vs b off n z'=>aj (aQ s i) fun a=>aj (idxOf a) fun i=>(0<=i/\i<n)/\z'=z/\K (.ptr b (off+i.toNat*z)) s
   |_=>False
 | .Sk x off sz=>aj (aQ s x) fun
   | .agg cs=>aj (bF cs off sz) fun a=>K (.dat a none) s
   |_=>False
 | .KY x i n z sz=>aj (aQ s x) fun
   | .agg cs=>aj (aQ s i) fun a=>aj (idxOf a) fun i=>(0<=i/\i<n)/\aj (bF cs (i.toNat*z) sz) fun a=>K (.dat a none) s
   |_=>False
 | .bin op x y=>aj (aQ s x) fun a=>aj (aQ s y) fun b=>aj (ez op a b) fun v=>K (.dat v none) s
 | .eqc ks neg x y=>aj (aQ s x) fun
   | .agg as=>aj (aQ s y) fun
    | .agg bs=>aj (bt ks as bs) fun e=>K (.dat (.bool (e !=neg)) none) s
    |_=>False
   |_=>False
 | .bb neg x y=>aj (aQ s x) fun a=>aj (aQ s y) fun b=>aj (RQ neg a b) fun v=>K (.dat v none) s
 | .un op x=>aj (aQ s x) fun a=>aj (Og op a) fun v=>K (.dat v none) s
 | .j4 k x=>aj (aQ s x) fun a=>aj (Az k a) fun v=>K (.dat v none) s
 | .Ak k x=>aj (aQ s x) fun a=>aj (yj k a) fun v=>K (.dat v none) s
 | .Bp k x=>aj (aQ s x) fun a=>aj (uC k a) fun v=>K (.dat v none) s
 | .Bq x=>aj (bM s x) fun v=>K v s
 | .uB x=>aj (bM s x) fun
   | .dat a _=>aj (By a) fun v=>K (.dat v none) s
   | .vs _ _ n _=>K (.dat (.int .i64 n) none) s
   |_=>False
 | .HE n=>K (.dat (.int .i64 n) none) s
 | .app e z bytes x y=>aj (bM s x) fun
   | .dat a q=>aj (rowsOf a) fun xs=>aj (aQ s y) fun b=>aj (rowsOf b) fun ys=>
     (xs.length+ys.length)*bytes<=140737488355328/\(∀r∈xs,r.length=z)/\(∀r∈ys,r.length=z)/\
     (match a,q with
      | .bL,_=>if ys=[]then K (.dat .bL none) s else K (.dat (.sl (xs++ys)) (some id)) {s with live:=(id,e)::s.live}
      | .sl _,some q=>eK q s.live=some e/\K (.dat (.sl (xs++ys)) (some id)) {s with live:=(id,e)::mj q s.live}
      |_,_=>False)
   |_=>False
 | .call f args=>aj (dL s args) fun as=>∃r fr,C.c f as r fr/\K (.dat r (fr.map fun _=>id)) {s with live:=match fr with|some e=>(id,e)::s.live|none=>s.live}
 | .aE f args=>aj (dB true s args) fun p=>cY p.2=true/\aj (bh s.boxes p.2) fun css=>
   ∃r fr css',C.p f css p.1 r fr css'/\K (.dat r (fr.map fun _=>id)) {s with boxes:=dz p.2 css' s.boxes,live:=match fr with|some e=>(id,e)::s.live|none=>s.live}
 | .fc g args=>aj (aQ s g) fun
   | .fn (.func f) first caps=>aj (dL s args) fun as=>∃r fr,C.c f (first++as++caps) r fr/\K (.dat r (fr.map fun _=>id)) {s with live:=match fr with|some e=>(id,e)::s.live|none=>s.live}
   |_=>False
 | .ext x i=>aj (aQ s x) fun a=>aj (HG a i) fun v=>K (.dat v none) s
 | .Br fn first caps=>aj (dL s first) fun as=>aj (dB false s caps) fun p=>(cY p.2&&iz p.2)=true/\aj (bh s.boxes p.2) fun css=>
   K (.dat (.fn fn as (lW p.1 css)) none) (gM p.2 css s)
 | .KS z x lo hi=>aj (aQ s x) fun a=>aj (rowsOf a) fun xs=>
   aj (yl s lo) fun l=>aj (ym s xs hi) fun h=>
   (0<=l/\l<=h/\h<=xs.length)/\(∀r∈xs,r.length=z)/\K (.dat (Bz a xs l h) none) s
 | .nc x=>aj (bM s x) fun
   | .ptr b o=>K (.ptr b o) s
   | .rp cs=>K (.rp cs) s
   | .dat (.fn (.func f) as bs) q=>K (.dat (.fn (.func f) as bs) q) s
   | .dat (.ref cs) _=>K (.rp cs) s
   |_=>False
 | .mm mx args=>aj (dL s args) fun
   |[]=>False
   |a::r=>aj (r.foldlM (NP mx) a) fun v=>K (.dat v none) s
 | .xt e x=>aj (aQ s x) fun a=>aj (RR e a) fun v=>K (.dat v none) s
 | .Ed x n z=>aj (bM s x) fun
   | .rp cs=>n*z<=cs.length/\K (.dat (.sl (bZ z n cs)) none) s
   | .ptr b off=>4<=b/\aj (ct b s.boxes) fun bx=>n*z<=(bx.cells.drop off).length/\K (.dat (.sl (bZ z n (bx.cells.drop off))) none) (gM [b] [bx.cells] s)
   |_=>False
 | .NN neg x=>aj (aQ s x) fun a=>aj (CE neg a) fun b=>K (.dat (.bool b) none) s
 | .gL g args=>aj (aQ s g) fun
   | .fn (.func f) [] []=>aj (dB true s args) fun p=>cY p.2=true/\aj (bh s.boxes p.2) fun css=>
     ∃r fr css',C.p f css p.1 r fr css'/\K (.dat r (fr.map fun _=>id)) {s with boxes:=dz p.2 css' s.boxes,live:=match fr with|some e=>(id,e)::s.live|none=>s.live}
   |_=>False
 | .yg f args=>aj (dB true s args) fun p=>cY p.2=true/\aj (d9 s.boxes p.2) fun css=>
   ∃r,C.p f css p.1 r none css/\K (.dat r none) s
 | .ql g args=>aj (aQ s g) fun
   | .fn (.func f) [] []=>aj (dB true s args) fun p=>cY p.2=true/\aj (d9 s.boxes p.2) fun css=>
     ∃r,C.p f css p.1 r none css/\K (.dat r none) s
   |_=>False
 | .RG x n z hi=>aj (bM s x) fun
   | .ptr b off=>aj (aQ s hi) fun a=>aj (idxOf a) fun h=>(0<=h/\h<=n)/\K (.vs b off h.toNat z) s
   |_=>False
 | .Bt e z bytes y x=>aj (bM s y) fun
   | .vs b off n z'=>aj (bM s x) fun
     | .ptr b' _=>(b'=b/\z'=z)/\aj (ct b s.boxes) fun bx=>(n*z<=(bx.cells.drop off).length/\n*bytes<=140737488355328)/\
       (if n=0 then K (.dat .bL none) s else K (.dat (.sl (bZ z n (bx.cells.drop off))) (some id)) {s with live:=(id,e)::s.live})
     |_=>False
   |_=>False
 | .Sl x i=>aj (aQ s x) fun
   | .str b=>aj (aQ s i) fun a=>aj (idxOf a) fun j=>aj (Fa b j) fun v=>K (.dat v none) s
   |_=>False
 | .jY x sz=>aj (bM s x) fun
   | .pt 2 ps=>match sz,ps with
    |none,(b,o)::_=>K (.ptr b o) s
    |some n,ps=>n<=ps.length/\K (.pt 0 (ps.take n)) s
    |_,_=>False
   |_=>False
 | .sZ f args=>aj (dB true s args) fun p=>cY p.2=true/\aj (bh s.boxes p.2) fun css=>
   ∃v css',C.q f css p.1 v css'/\K (.dat v none) {s with boxes:=dz p.2 css' s.boxes}
def yp(q n:Nat) (a:AV) (id:Nat):SV->SV
 | .raw q' n'=>bif q'==q&&n'==n then .dat a (some id)else .raw q' n'
 |v=>v
def Ao(q n:Nat) (a:AV) (id:Nat):List (Nat×SV)->List (Nat×SV)
 |[]=>[]
 |(t,v)::r=>(t,yp q n a id v)::Ao q n a id r
def s6(b:Nat) (ps:List (Nat×Nat)):SV->SV
 | .ptr b' o=>bif b'==b then .pt 2 (ps.drop o)else .ptr b' o
 |v=>v
def s7(b:Nat) (ps:List (Nat×Nat)):List (Nat×SV)->List (Nat×SV)
 |[]=>[]
 |(t,v)::r=>(t,s6 b ps v)::s7 b ps r
def uF(z:Nat) (rows:List (List AV)):Bool:=rows.all fun r=>r.length==z&&r.all mK
def bH(C:bw) (id:Nat) (o:CD) (K:SV->S->Prop) (X:AV->S->Prop) (s:S):Prop:=
 match o with
 | .o c=>bN C id c K s
 | .call f args=>bN C id (.call f args) K s\/(aj (dL s args) fun as=>(∃cs,C.n f as cs/\K (.ptr id 0) {s with boxes:=(id,⟨cs,[]⟩)::s.boxes})\/(∃p,C.q f [] (as.map some) p []/\X p s)\/
   ∃rows e z,C.c f as (.sl rows) (some e)/\uF z rows=true/\K (.vs id 0 rows.length z) {s with boxes:=(id,⟨rows.flatten,[]⟩)::s.boxes})
 | .aE f args=>bN C id (.aE f args) K s\/aj (dB true s args) fun p=>cY p.2=true/\aj (bh s.boxes p.2) fun css=>
   (∃v css',C.q f css p.1 v css'/\X v {s with boxes:=dz p.2 css' s.boxes})\/Fb C f css p.1 p.2 id s.boxes s.live fun v bx lv=>K v {s with boxes:=bx,live:=lv}
 | .fc b g args=>match bM s g with
   |some (.nD f as bs)=>aj (dB true s args) fun p=>cY (p.2++bs)=true/\aj (bh s.boxes (p.2++bs)) fun css=>
     (∃r fr css',C.p f css (p.1++as) r fr css'/\K (.dat r (fr.map fun _=>id)) {s with boxes:=dz (p.2++bs) css' s.boxes,live:=match fr with|some e=>(id,e)::s.live|none=>s.live})\/
     (∃v css',C.q f css (p.1++as) v css'/\X v {s with boxes:=dz (p.2++bs) css' s.boxes})\/Fb C f css (p.1++as) (p.2++bs) id s.boxes s.live fun v bx lv=>K v {s with boxes:=bx,live:=lv}
   |_=>bN C id (if b then .gL g args else .fc g args) K s
 | .Sm f caps=>aj (dB false s caps) fun p=>K (.nD f p.1 p.2) s
 | .Hy x=>aj (aQ s x) fun a=>jo a=true/\X a s
 | .Hz t x=>aj (aQ s x) fun a=>jq a none=true/\K (.dat (.iface t a) none) s
 | .NO t z x=>aj (aQ s x) fun a=>aj (Ef t z a) fun v=>K (.dat v none) s
 | .RH neg x=>aj (aQ s x) fun a=>aj (Ge neg a) fun b=>K (.dat (.bool b) none) s
 | .RI neg x=>aj (bM s x) fun v=>aj (An neg v) fun b=>K (.dat (.bool b) none) s
 | .RJ e bytes l c=>aj (aQ s l) fun a=>aj (idxOf a) fun l=>aj (aQ s c) fun b=>aj (idxOf b) fun c=>(0<=l/\l<=c/\c*bytes<=140737488355328)/\K (.raw id l.toNat) {s with live:=(id,e)::s.live}
 | .RM e x y=>aj (bM s x) fun
   | .raw q n=>aj (aQ s y) fun b=>aj (rowsOf b) fun ys=>(ys.length=n/\∀r∈ys,r.length=1)/\eK q s.live=some e/\
     K (.dat (.int .i64 n) none) {s with slots:=Ao q n (.sl ys) id s.slots,live:=(id,e)::mj q s.live}
   |_=>False
 | .Gc x=>aj (bM s x) fun
   | .ptr b o=>K (.pt 0 [(b,o)]) s
   |_=>False
 | .sU x=>aj (bM s x) fun
   | .pt 0 ps=>K (.pt 2 ps) s
   |_=>False
 | .RO x v=>aj (bM s x) fun
   | .ptr b 0=>aj (bM s v) fun
     | .pt 0 ps=>aj (ct b s.boxes) fun y=>(4<=b/\y.cells.length=1/\ps.length=1)/\K .undef {s with slots:=s7 b ps s.slots,boxes:=kZ b s.boxes}
     |_=>False
   |_=>False
 | .Bu xs=>aj (qp s xs) fun ps=>K (.pt 1 ps) s
 | .KZ x i=>aj (bM s x) fun
   | .pt 1 ps=>aj (aQ s i) fun a=>aj (idxOf a) fun i=>(0<=i/\i<ps.length)/\K (.pt 2 (ps.drop i.toNat)) s
   |_=>False
 | .K0 x=>aj (bM s x) fun
   | .pt 1 ps=>K (.dat (.int .i64 ps.length) none) s
   |_=>False
 | .Ay g args=>aj (aQ s g) fun
   | .fn (.func f) [] []=>aj (dB true s args) fun p=>cY p.2=true/\aj (bh s.boxes p.2) fun css=>∃j o b,C.r f css p.1 j o/\p.2[j]? =some b/\K (.ptr b o) {s with boxes:=dz p.2 css s.boxes}
   |_=>False
 | .Sn e z bytes y=>aj (aQ s y) fun a=>aj (rowsOf a) fun rows=>(rows≠[]/\rows.length*bytes<=140737488355328)/\uF z rows=true/\K (.vs id 0 rows.length z) {s with boxes:=(id,⟨rows.flatten,[]⟩)::s.boxes}
def eA(s:S) (g:Option (Nat×Bool)) (yes no:Prop):Prop:=
 match g with
 |none=>yes
 |some (t,want)=>match lk t s.slots with
  |some (.dat (.bool b) _)=>(b=want->yes)/\(b=!want->no)
  |some .undef=>no
  |_=>False
def jh(C:bw) (base:Nat):Nat->List CO->(S->Prop)->S->Prop
 |_,[],K,s=>K s
 |i,o::r,K,s=>eA s o.g
   (bN C (base+i) o.op (fun v s'=>jh C base (i+1) r K (s'.put o.dst v)) s)
   (jh C base (i+1) r K (s.put o.dst .undef))
def eU(C:bw) (base:Nat):Nat->List XO->(S->Prop)->(AV->S->Prop)->S->Prop
 |_,[],K,_,s=>K s
 |i,o::r,K,X,s=>eA s o.g
   (bH C (base+i) o.op (fun v s'=>eU C base (i+1) r K X (s'.put o.dst v)) X s)
   (eU C base (i+1) r K X (s.put o.dst .undef))
def j5(k:S->Prop) (Q:Exit->S->Prop):Exit->S->Prop
 | .normal,s=>k s
 |e,s=>Q e s
def gN(id:Nat) (Q:Exit->S->Prop):Exit->S->Prop
 | .exit id',s=>if id'=id then Q .normal s else Q (.exit id') s
 |e,s=>Q e s
def CA(m:List (Nat×Nat)) (q:Nat):Nat:=(eK q m).getD q
def cR(m:List (Nat×Nat)) (nx:Nat):SV->SV->Prop
 | .dat a _,.dat a' none=>a=a'
 | .dat a (some q),.dat a' (some q')=>a=a'/\q=CA m q'/\q'<nx
 | .ptr b o,.ptr b' o'=>b=b'/\o=o'/\b'<nx
 | .rp cs,.rp cs'=>cs=cs'
 | .vs b o n z,.vs b' o' n' z'=>(b=b'/\o=o')/\(n=n'/\z=z')/\b'<nx
 | .undef,.undef=>True
 | .nD f as bs,.nD f' as' bs'=>f=f'/\as=as'/\bs=bs'/\∀b∈bs',b<nx
 | .pt k ps,.pt k' ps'=>k=k'/\ps=ps'/\∀p∈ps',p.1<nx
 |_,_=>False
def iZ(m:List (Nat×Nat)) (nx:Nat) (a:List (Nat×SV)):List (Nat×SV)->Prop
 |[]=>True
 |(t,v)::r=>aj (lk t a) (fun u=>cR m nx u v)/\iZ m nx a r
def lP(m:List (Nat×Nat)) (nx:Nat) (a:List (Nat×Nat)):List (Nat×Nat)->Prop
 |[]=>True
 |(o,q)::r=>(eK o a=some (CA m q)/\q<nx)/\lP m nx a r
def i4(m:List (Nat×Nat)) (nx:Nat) (a:List (Nat×bY)):List (Nat×bY)->Prop
 |[]=>True
 |(b,x)::r=>aj (ct b a) (fun y=>y.cells=x.cells/\lP m nx y.tags x.tags/\b<nx)/\i4 m nx a r
def jG(m:List (Nat×Nat)) (nx:Nat) (a:List (Nat×Nat)):List (Nat×Nat)->Prop
 |[]=>True
 |(q,e)::r=>(eK (CA m q) a=some e/\q<nx)/\jG m nx a r
def bS(m:List (Nat×Nat)) (l:List (Nat×Nat)):Prop:=((l.map fun p=>CA m p.1).Nodup)
def Le(s s1:S):Prop:=
 4<=s1.nx/\∃m,iZ m s1.nx s.slots s1.slots/\i4 m s1.nx s.boxes s1.boxes/\jG m s1.nx s.live s1.live/\bS m s1.live
def Wm(F:S->Prop) (s:S):Prop:=∃ids,(cY ids&&iz ids)=true/\aj (bh s.boxes ids) fun css=>F (gM ids css s)
def down(F:S->Prop) (s:S):Prop:=∃s1,Le s s1/\(F s1\/Wm F s1)\/F s
theorem i5{F:S->Prop} {s:S} (h:F s):down F s:=⟨s,.inr h⟩
theorem rS{F:S->Prop} {s s1:S} (h:Le s s1) (hF:F s1):down F s:=⟨s1,.inl ⟨h,.inl hF⟩⟩
theorem yq{F:S->Prop} {s s1:S} (h:Le s s1) (hF:Wm F s1):down F s:=⟨s1,.inl ⟨h,.inr hF⟩⟩
def nE(F:(Exit->S->Prop)->S->Prop) (Q:Exit->S->Prop):Nat->S->Prop
 |0,_=>False
 |n+1,s=>F (j5 (down (nE F Q n)) Q) s
def bE.rd:bE->List Nat
 | .t n=>[n]
 | .k _=>[]
def Fc:Option bE->List Nat
 |some x=>x.rd
 |none=>[]
def bl:List bE->List Nat
 |[]=>[]
 |x::r=>x.rd++bl r
def uG:List (Nat×Nat×bE)->List Nat
 |[]=>[]
 |(_,_,x)::r=>x.rd++uG r
def bR.rd:bR->List Nat
 | .mv x=>x.rd
 | .pick c a b=>c.rd++a.rd++b.rd
 | .alloc _=>[]
 | .box x=>x.rd
 | .build _ ps=>uG ps
 | .f9 _ _ xs=>bl xs
 | .ld x _=>x.rd
 | .st x v _=>x.rd++v.rd
 | .fa x _=>x.rd
 | .Aw x i _ _=>x.rd++i.rd
 | .CC x i _=>x.rd++i.rd
 | .Sk x _ _=>x.rd
 | .KY x i _ _ _=>x.rd++i.rd
 | .bin _ x y=>x.rd++y.rd
 | .eqc _ _ x y=>x.rd++y.rd
 | .bb _ x y=>x.rd++y.rd
 | .un _ x=>x.rd
 | .j4 _ x=>x.rd
 | .Ak _ x=>x.rd
 | .Bp _ x=>x.rd
 | .Bq x=>x.rd
 | .uB x=>x.rd
 | .HE _=>[]
 | .app _ _ _ x y=>x.rd++y.rd
 | .call _ args=>bl args
 | .aE _ args=>bl args
 | .fc g args=>g.rd++bl args
 | .ext x _=>x.rd
 | .Br _ a b=>bl a++bl b
 | .KS _ x lo hi=>x.rd++Fc lo++Fc hi
 | .nc x=>x.rd
 | .mm _ args=>bl args
 | .xt _ x=>x.rd
 | .Ed x _ _=>x.rd
 | .Sl x i=>x.rd++i.rd
 | .NN _ x=>x.rd
 | .gL g args=>g.rd++bl args
 | .yg _ args=>bl args
 | .ql g args=>g.rd++bl args
 | .RG x _ _ hi=>x.rd++hi.rd
 | .Bt _ _ _ y x=>y.rd++x.rd
 | .jY x _=>x.rd
 | .sZ _ args=>bl args
def bR.isApp:bR->Bool
 | .app ..=>true
 |_=>false
def bR.ta:bR->List Nat
 | .ld x _=>x.rd
 | .st x _ _=>x.rd
 | .aE _ args=>bl args
 | .gL _ args=>bl args
 | .yg _ args=>bl args
 | .ql _ args=>bl args
 | .sZ _ args=>bl args
 | .Br _ _ b=>bl b
 | .Ed x _ _=>x.rd
 | .Bt _ _ _ _ x=>x.rd
 |_=>[]
def bR.Fe:bR->List Nat
 | .st x _ _=>x.rd
 | .aE _ args=>bl args
 | .sZ _ args=>bl args
 | .gL _ args=>bl args
 | .Br _ _ b=>bl b
 | .Ed x _ _=>x.rd
 |_=>[]
def bR.wU:bR->Bool
 | .Br _ _ b=>!b.isEmpty
 | .Ed ..=>true
 |_=>false
def bR.qq:bR->List Nat
 | .mv x| .fa x _| .Aw x _ _ _| .CC x _ _| .nc x| .Bq x| .jY x _| .RG x _ _ _=>x.rd
 | .pick _ a b=>a.rd++b.rd
 |_=>[]
def bR.HJ:bR->Bool
 | .alloc _| .box _=>true
 |_=>false
def bR.ro:bR->bR
 | .aE f args=>.yg f args
 | .gL g args=>.ql g args
 |o=>o
def CO.ro(o:CO):CO:=⟨o.dst,o.op.ro,o.g⟩
def ny(ro:List Nat):Nat->List CO->List CO
 |_,[]=>[]
 |i,o::r=>(bif ro.contains i then o.ro else o)::ny ro (i+1) r
theorem o3:∀{i:Nat} {l:List CO},ny [] i l=l
 |_,[]=>rfl
 |i,o::l=>by show o::ny [] (i+1) l=_;rw[o3]
def vT(k:Nat) (dep:List Nat) (i:Nat) (o:CO):CO:=
 if i=k then(match o.op with| .aE f args=>⟨o.dst,.sZ f args,o.g⟩|_=>o)else if dep.contains i=true then⟨none,.mv (.k .mh),none⟩else o
def mq(k:Nat) (dep:List Nat):Nat->List CO->List CO
 |_,[]=>[]
 |i,o::r=>vT k dep i o::mq k dep (i+1) r
def CO.rd(o:CO):List Nat:=o.op.rd++(match o.g with|some (t,_)=>[t]|none=>[])
abbrev Tag:=Option (Option Nat)
def Tag.Ah:Tag->Nat->Bool
 |none,_=>true
 |some z,b=>z==some b
def Tag.V4:Tag->Tag->Bool
 |some none,_=>true
 |_,some none=>true
 |some (some a),some (some b)=>a !=b
 |_,_=>false
def look:List (Nat×Tag)->Nat->Tag
 |[],_=>none
 |(t,z)::r,n=>bif n==t then z else look r n
def CO.indep(x y:CO):Bool:=
 (match x.dst with|some d=>!y.rd.contains d&&y.dst !=some d|none=>true)&&
 (match y.dst with|some d=>!x.rd.contains d|none=>true)&& !(x.op.isApp&&y.op.isApp)
def CO.half(T:List (Nat×Tag)) (x y:CO):Bool:=
 x.op.Fe.all fun t=>y.op.ta.all (fun u=>(look T t).V4 (look T u))&&(!x.op.wU||y.rd.all fun u=>(look T t).V4 (look T u))
def CO.qt(T:List (Nat×Tag)) (x y:CO):Bool:=x.indep y&&x.half T y&&y.half T x
def CO.apart(x y:CO):Bool:=x.qt [] y
def NQ(T:List (Nat×Tag)):List Nat->Tag
 |[]=>some none
 |[t]=>look T t
 |t::r=>if look T t==NQ T r then look T t else none
def HK(T:List (Nat×Tag)) (base:Nat):Nat->List CO->List (Nat×Tag)
 |_,[]=>T
 |i,o::r=>HK (match o.dst with|some t=>(t,if o.op.HJ then some (some (base+i))else NQ T o.op.qq)::T|none=>T) base (i+1) r
def tK:List (Nat×SV)->List (Nat×Tag)
 |[]=>[]
 |(t,.ptr b _)::r=>(t,some (some b))::tK r
 |(t,.vs b _ _ _)::r=>(t,some (some b))::tK r
 |(t,.pt _ [(b,_)])::r=>(t,some (some b))::tK r
 |(t,.pt _ _)::r=>(t,none)::tK r
 |(t,_)::r=>(t,some none)::tK r
def kR(T:List (Nat×Tag)):List (Nat×SV)->Bool
 |[]=>true
 |(t,.ptr b _)::r=>(look T t).Ah b&&kR T r
 |(t,.vs b _ _ _)::r=>(look T t).Ah b&&kR T r
 |(t,.pt _ ps)::r=>(ps.all fun p=>(look T t).Ah p.1)&&kR T r
 |(_,_)::r=>kR T r
def o4(T:List (Nat×Tag)) (id:Nat) (o:CO):Bool:=
 match o.dst with
 |none=>true
 |some t=>match look T t with
  |none=>true
  |some z=>if o.op.HJ then z==some id else o.op.qq.all fun u=>match look T u with|some z'=>z'==none||z'==z|none=>false
def kS(T:List (Nat×Tag)) (base:Nat):Nat->List CO->Bool
 |_,[]=>true
 |i,o::r=>o4 T (base+i) o&&kS T base (i+1) r
def uH(T:List (Nat×Tag)) (ops:List CO):List (Nat×Nat)->Bool
 |[]=>true
 |(i,j)::r=>(match ops[i]?,ops[j]? with|some x,some y=>x.qt T y|_,_=>false)&&uH T ops r
def K2(T:List (Nat×Tag)) (ops:List CO) (dZ:List (Nat×Nat)) (base:Nat) (sl:List (Nat×SV)):Bool:=kR T sl&&kS T base 0 ops&&uH T ops dZ
def qw(ops:List CO) (dZ:List (Nat×Nat)) (base:Nat) (sl:List (Nat×SV)):Bool:=K2 (HK (tK sl) base 0 ops) ops dZ base sl
def qx:List Nat->List AV->S->S
 |p::ps,x::xs,s=>qx ps xs (s.put (some p) (.dat x none))
 |_,_,s=>s
def nB(wr:List Nat):List (Nat×SV)->List (Nat×SV)
 |[]=>[]
 |(t,v)::r=>bif wr.contains t then nB wr r else(t,v)::nB wr r
def tL(wr:List Nat) (s:S):S:={s with slots:=nB wr s.slots}
def Ff(wr:List Nat) (F:S->Prop) (Q:Exit->S->Prop):Exit->S->Prop
 | .normal,s=>down F (tL wr s)
 | .ret,s=>Q .ret (tL wr s)
 | .exit id,s=>Q (.exit id) (tL wr s)
 |_,_=>False
def uI(K:S->Prop):Exit->S->Prop
 | .normal,s=>K s
 |_,_=>False
def mL(l:Nat) (K:S->Prop) (Q:Exit->S->Prop):Exit->S->Prop
 | .goto l',s=>l'=l/\K s
 |e,s=>Q e s
def xK(Q:Exit->S->Prop):Exit->S->Prop
 | .goto _,_=>False
 |e,s=>Q e s
def Gf(C:bw) (ops:List CO) (dZ:List (Nat×Nat)) (K:S->Prop) (s:S):Prop:=
 ∃ro,qw (ny ro 0 ops) dZ s.nx s.slots=true/\jh C s.nx 0 (ny ro 0 ops) K s
def Ol(C:bw) (ops:List CO) (dZ:List (Nat×Nat)) (k:Nat) (dep:List Nat) (ds:List Nat) (X:AV->S->Prop) (s:S):Prop:=
 qw (mq k dep 0 ops) dZ s.nx s.slots=true/\jh C s.nx 0 (mq k dep 0 ops) (fun s'=>∃d p,(ops[k]?).bind CO.dst=some d/\lk d s'.slots=some (.dat p none)/\X p (tL ds s')) s
def aw(C:bw):bn->(Exit->S->Prop)->S->Prop
 | .skip,Q,s=>Q .normal s
 | .Bv ops,Q,s=>jh C s.nx 0 ops (fun s'=>Q .normal {s' with nx:=s.nx+ops.length}) s
 | .seq a b,Q,s=>aw C a (j5 (aw C b Q) Q) s
 | .join a b,Q,s=>aw C a (j5 (down (aw C b Q)) Q) s
 | .cond c a b,Q,s=>aj (aQ s c) fun
   | .bool t=>(t=true->aw C a Q s)/\(t=false->aw C b Q s)
   |_=>False
 | .block id c,Q,s=>aw C c (gN id Q) s
 | .loop c,Q,s=>down (fun s=>∃n,nE (aw C c) Q n s) s
 | .exit id,Q,s=>Q (.exit id) s
 | .ret,Q,s=>Q .ret s
 | .scope l c r,Q,s=>aw C c (mL l (aw C r (xK Q)) Q) s
 | .label _,Q,s=>Q .normal s
 | .goto l,Q,s=>Q (.goto l) s
 | .aT ops,Q,s=>eU C s.nx 0 ops (fun s'=>Q .normal {s' with nx:=s.nx+ops.length}) (fun p s'=>Q (.panic (d8 p)) {s' with nx:=s.nx+ops.length}) s
 | .sV ops dZ,Q,s=>∃ids,(cY ids&&iz ids)=true/\aj (bh s.boxes ids) fun css=>Gf C ops dZ (fun s'=>Q .normal {s' with nx:=s.nx+ops.length}) (gM ids css s)
 | .xJ ops dZ k dep,Q,s=>(∃ids,(cY ids&&iz ids)=true/\aj (bh s.boxes ids) fun css=>Gf C ops dZ (fun s'=>Q .normal {s' with nx:=s.nx+ops.length}) (gM ids css s))\/
   Ol C ops dZ k dep (ops.flatMap fun o=>o.dst.toList) (fun p s'=>Q (.panic (d8 p)) {s' with nx:=s.nx+ops.length}) s
 | .Am g ps wr as bd,Q,s=>aj (aQ s g) fun gv=>∃xs,C.i gv xs/\(∀x∈xs,x.length=ps.length)/\∃F:Nat->S->Prop,down (F 0) s/\(∀i s',F i s'->aQ s' g=some gv)/\
   (∀i x s',xs[i]? =some x->F i s'->aw C as (uI (aw C bd (Ff wr (F (i+1)) Q))) (qx ps x s'))/\∀s',F xs.length s'->Q .normal s'
def fq(P:Program) (t:TypeId):Option Nat:=(P.info? t).map (·.size)
def nC(P:Program) (t:TypeId):Bool:=
 match P.underlying t with
 |some (.struct _)|some (.array _ _)=>true
 |_=>false
def uJ(P:Program) (t:TypeId):Option (Option Nat):=
 match P.underlying t with
 |some (.struct _)|some (.array _ _)=>(fq P t).map some
 |some _=>some none
 |none=>none
def zeroOf(P:Program) (t:TypeId):Option (List AV):=
 match(P.info? t).bind (·.zero)with
 |some z=>z.cells.toList.mapM Gd
 |none=>none
def cn:Operand->Option bE
 | .tmp t=>some (.t t)
 | .const v=>(V2 v).map .k
 | .func f=>some (.k (.fn (.func f) [] []))
 | .global _=>none
def ga(l:Array Operand):Option (List bE):=l.toList.mapM cn
def uK(P:Program) (s:TypeId) (f:Nat):Option Field:=
 match P.underlying s with
 |some (.struct fs)=>fs[f]?
 |_=>none
def CG(P:Program) (rec:TypeId->Option (List CK)):List Field->Nat->Option (List CK)
 |[],_=>some []
 |f::fs,off=>
  if f.name = "_" ∨ f.offset ≠ off then none else
  match rec f.type with
  |some ks=>if fq P f.type=some ks.length/\0<ks.length then(CG P rec fs (off+ks.length)).map (ks++·)else none
  |none=>none
def mM(P:Program):Nat->TypeId->Option (List CK)
 |0,_=>none
 |d+1,t=>match P.underlying t with
  |some .bool=>some [.b]
  |some (.int _)=>some [.i]
  |some (.float _)=>some [.f]
  |some .string=>some [.s]
  |some (.struct fs)=>if P.stoodInHeld t then none else CG P (mM P d) fs.toList 0
  |some (.array n e)=>match mM P d e with
   |some ks=>if fq P e=some ks.length then some (List.replicate n ks).flatten else none
   |none=>none
  |_=>none
def So(P:Program) (t:TypeId) (neg:Bool) (x y:bE):Option bR:=
 match mM P 20 t with
 |some ks=>if nC P t&& !P.eqGuardType P.depth t then some (.eqc ks neg x y)else none
 |none=>none
def Fg(P:Program) (t:TypeId):Bool:=
 match P.underlying t with
 |some (.int _)|some (.float _)=>true
 |_=>false
def HL(P:Program) (t:TypeId):Bool:=
 match P.underlying t with
 |some .bool=>true
 |_=>false
def cg(P:Program) (f:FuncId):Bool:=
 match P.funcs[f]? with
 | some fn => fn.name != "runtime.NumGoroutine" && fn.body.isSome
 |none=>false
def Fh(P:Program) (t:TypeId) (i:Nat):Option (Nat×Nat):=
 match P.underlying t with
 |some (.struct fs)=>match fs[i]? with
  |some f=>(fq P f.type).map fun z=>(f.offset,z)
  |none=>none
 |some (.array _ e)=>(fq P e).map fun z=>(i*z,z)
 |_=>none
def vU(P:Program) (t:TypeId):List (Nat×Operand)->Option (List (Nat×Nat×bE))
 |[]=>some []
 |(i,x)::r=>match Fh P t i,cn x,vU P t r with
  |some (o,z),some x,some ps=>some ((o,z,x)::ps)
  |_,_,_=>none
def sliceB(P:Program) (t:TypeId):Bool:=match P.underlying t with|some (.slice _)=>true|_=>false
def BA(P:Program) (t:TypeId):Bool:=
 match P.underlying t with
 |some (.struct fs)=>fs.toList.all fun f=>(fq P f.type).isSome
 |some (.array _ e)=>(fq P e).isSome
 |_=>false
def qy(zs:Nat):List (Nat×Nat×bE)->Bool
 |[]=>true
 |(o,z,_)::r=>decide (o+z<=zs)&&qy zs r
def cOpt:Option Operand->Option (Option bE)
 |none=>some none
 |some x=>(cn x).map some
def CH(P:Program) (s d:TypeId) (x:bE):Option bR:=
 match P.underlying s,P.underlying d with
 |some (.int _),some (.int k)=>some (.j4 k x)
 |some (.int _),some (.float k)=>some (.Ak k x)
 |some (.float _),some (.int k)=>some (.Bp k x)
 |_,_=>none
def xL(P:Program) (t:TypeId):Bool:=match P.underlying t with|some (.pointer _)=>true|_=>false
def Eh(P:Program) (t:TypeId):Bool:=
 match P.underlying t with
 |some (.struct fs)=>match fs.toList with
  |[f]=>xL P f.type&&f.offset==0&&fq P f.type==some 1
  |_=>false
 |_=>false
def o5(P:Program):List TypeId->Bool
 |[]=>false
 |t::r=>(xL P t||Eh P t)||o5 P r
def Om(P:Program) (f:FuncId):Option Xt:=
 match P.funcs[f]? with
 |some fn=>if fn.body.isNone&&(Extern.findNext fn).isNone then
   if fn.name == "math.Float64bits" then some .yf
   else if fn.name == "math.Float64frombits" then some .ffrom
   else if fn.name == "math.RoundToEven" then some .rte
   else none
  else none
 |none=>none
def tc(P:Program) (c:Call):Option bR:=
 match c.callee with
 | .value (.func f)=>if cg P f then(ga c.args).map (if o5 P c.argTypes.toList then .aE f else .call f)
  else match Om P f,c.args.toList with
   |some e,[x]=>(cn x).map (.xt e)
   |_,_=>none
 | .value g=>match cn g,ga c.args with
  |some g,some as=>some (if o5 P c.argTypes.toList then .gL g as else .fc g as)
  |_,_=>none
 | .builtin .len=>match c.argTypes[0]?,c.args[0]? with
  |some t,some x=>match P.underlying t with
   |some (.slice _)=>(cn x).map .uB
   |some (.array n _)=>some (.HE n)
   |_=>none
  |_,_=>none
 | .builtin .append=>match c.argTypes.toList,c.args.toList with
  |[t,t'],[x,y]=>if t=t' then match P.underlying t,cn x,cn y with
    |some (.slice e),some x,some y=>match P.info? e with
     |some i=>match i.zero with
      |some z=>if 0<i.size&&z.cells.size==i.size&&0<i.bytes then some (.app e i.size i.bytes x y)else none
      |none=>none
     |none=>none
    |_,_,_=>none
   else none
  |_,_=>none
 | .builtin .max=>(ga c.args).map (.mm true)
 | .builtin .min=>(ga c.args).map (.mm false)
 |_=>none
def KT(P:Program):Op->Option bR
 | .move x| .assign x=>(cn x).map .mv
 | .pick c a b=>match cn c,cn a,cn b with
  |some c,some a,some b=>some (.pick c a b)
  |_,_,_=>none
 | .alloc t=>(zeroOf P t).map .alloc
 | .box _ x=>(cn x).map .box
 | .build t ps=>match zeroOf P t,vU P t ps.toList with
  |some zs,some ps=>if qy zs.length ps&&BA P t then some (.build zs ps)else none
  |_,_=>none
 | .buildSlice t n ps=>match P.underlying t with
  |some (.slice e)=>match zeroOf P e,fq P e,ps.toList.mapM (fun p=>cn p.2)with
   |some zs,some z,some xs=>if n*z<=16777216&&0<z&&zs.length==z&&ps.toList.map (·.1)==List.range n then some (.f9 e z xs)else none
   |_,_,_=>none
  |_=>none
 | .load t x=>match uJ P t,cn x with
  |some r,some x=>some (if xL P t||Eh P t then .jY x r else .ld x r)
  |_,_=>none
 | .store t x v=>match fq P t,cn x,cn v with
  |some z,some x,some v=>some (.st x v z)
  |_,_,_=>none
 | .nilCheck x=>(cn x).map .nc
 | .binOp op t x y _=>match cn x,cn y with
  |some x,some y=>
   if Fg P t then some (.bin op x y)
   else if HL P t then(match op with| .eql=>some (.bb false x y)| .neq=>some (.bb true x y)|_=>none)
   else if sliceB P t then(match op,y with| .eql,.k .bL=>some (.NN false x)| .neq,.k .bL=>some (.NN true x)|_,_=>none)
   else match op with
    | .eql=>So P t false x y
    | .neq=>So P t true x y
    |_=>none
  |_,_=>none
 | .unOp op _ x=>(cn x).map (.un op)
 | .convert s d x=>(cn x).bind (CH P s d)
 | .fieldAddr s x f=>match uK P s f,cn x with
  |some fd,some x=>if fq P fd.type==some 0||(fq P fd.type).isNone then none else some (.fa x fd.offset)
  |_,_=>none
 | .field s x f=>match uK P s f,cn x with
  |some fd,some x=>(uJ P fd.type).map (.Sk x fd.offset)
  |_,_=>none
 | .indexAddr t x i=>match P.underlying t,cn x,cn i with
  |some (.array n e),some x,some i=>(fq P e).map (.Aw x i n)
  |some (.slice e),some x,some i=>(fq P e).map (.CC x i)
  |_,_,_=>none
 | .index t x i=>match P.underlying t,cn x,cn i with
  |some (.array n e),some x,some i=>match fq P e,uJ P e with
   |some z,some r=>some (.KY x i n z r)
   |_,_=>none
  |some .string,some x,some i=>some (.Sl x i)
  |_,_,_=>none
 | .extract x i=>(cn x).map (.ext · i)
 | .makeFunc (.func f) a b=>match ga a,ga b with
  |some a,some b=>if cg P f then some (.Br (.func f) a b)else none
  |_,_=>none
 | .slice t x lo hi none=>match P.underlying t,cn x,cOpt lo,cOpt hi with
  |some (.slice e),some x,some lo,some hi=>(fq P e).map fun z=>.KS z x lo hi
  |some (.array n e),some x,some none,some none=>(fq P e).map fun z=>.Ed x n z
  |some (.array n e),some x,some none,some (some hi)=>(fq P e).map fun z=>.RG x n z hi
  |_,_,_,_=>none
 | .call c=>tc P c
 |_=>none
def Sq(P:Program) (ops:List Oper) (y:Nat):Option Operand:=
 match ops.find? (fun o=>o.dst==some y)with
 |some o=>match o.op with
  | .slice t x none (some _) none=>match P.underlying t with
   |some (.array _ _)=>some x
   |_=>none
  |_=>none
 |none=>none
def tM(P:Program) (ops:List Oper):Op->Option bR
 | .call c=>match c.callee,c.argTypes.toList,c.args.toList with
  | .builtin .append,[t,t'],[.const (.slice none 0 0),.tmp y]=>if t=t' then match P.underlying t,(Sq P ops y).bind cn with
    |some (.slice e),some x=>match P.info? e with
     |some i=>match i.zero with
      |some z=>if 0<i.size&&z.cells.size==i.size&&0<i.bytes then some (.Bt e i.size i.bytes (.t y) x)else none
      |none=>none
     |none=>none
    |_,_=>none
   else none
  |_,_,_=>none
 |_=>none
def On(ops:List Oper):Operand->Bool
 | .tmp y=>match ops.find? (fun o=>o.dst==some y)with
  |some o=>match o.op with
   | .fieldAddr .. | .indexAddr ..=>true
   |_=>false
  |none=>false
 |_=>false
def Gg(P:Program) (ops:List Oper):Op->Option bR
 | .load t x=>if xL P t&& !On ops x then match uJ P t,cn x with
   |some r,some x=>some (.ld x r)
   |_,_=>none
  else none
 |_=>none
def HM(P:Program) (ops:List Oper) (o:Op):Option bR:=
 match tM P ops o with
 |some c=>some c
 |none=>match Gg P ops o with
  |some c=>some c
  |none=>KT P o
def BB(ops:Array Oper):Option (Nat×Bool)->Option (Option (Nat×Bool))
 |none=>some none
 |some (j,w)=>match(ops[j]?).bind (·.dst)with
  |some t=>some (some (t,w))
  |none=>none
def nF(P:Program) (ops:Array Oper) (o:Oper):Option CO:=
 match HM P ops.toList o.op,BB ops o.guard with
 |some c,some g=>some ⟨o.dst,c,g⟩
 |_,_=>none
def tN(P:Program) (ops:Array Oper):List Oper->Option (List CO)
 |[]=>some []
 |o::r=>match nF P ops o,tN P ops r with
  |some c,some cs=>some (c::cs)
  |_,_=>none
def waits(ops:List Oper) (i:Nat) (oj:Oper):Bool:=
 oj.after.any fun e=>Region.binds .any e&&(e.on==i||match ops[e.on]? with
  |some ok=>ok.after.any fun e'=>Region.binds .any e'&&e'.on==i
  |none=>false)
def nG(dZ:List (Nat×Nat)) (ops:List Oper) (i:Nat) (x:CO):Nat->List Oper->List CO->Bool
 |j,oj::os,y::ys=>(decide (j<=i)||oj.after.any (fun e=>Region.binds .any e&&e.on==i)||x.apart y||waits ops i oj||dZ.contains (i,j))&&nG dZ ops i x (j+1) os ys
 |_,_,_=>true
def mN(dZ:List (Nat×Nat)) (ops:List Oper) (cos:List CO):Nat->List Oper->List CO->Bool
 |i,oi::os,x::xs=>oi.after.all (fun e=>!Region.binds .any e||decide (e.on<i))&&nG dZ ops i x 0 ops cos&&mN dZ ops cos (i+1) os xs
 |_,_,_=>true
def jH(dZ:List (Nat×Nat)) (ops:List Oper) (cos:List CO):Bool:=mN dZ ops cos 0 ops cos
def HN(ops:List Oper) (i:Nat) (x:CO):Nat->List Oper->List CO->List (Nat×Nat)
 |j,oj::os,y::ys=>(if decide (j<=i)||oj.after.any (fun e=>Region.binds .any e&&e.on==i)||x.apart y||waits ops i oj then[]else[(i,j)])++HN ops i x (j+1) os ys
 |_,_,_=>[]
def xR(ops:List Oper) (cos:List CO):Nat->List CO->List (Nat×Nat)
 |i,x::xs=>HN ops i x 0 ops cos++xR ops cos (i+1) xs
 |_,[]=>[]
def Fi(cos:List CO):List (Nat×Nat)->Bool
 |[]=>true
 |(i,j)::r=>(match cos[i]?,cos[j]? with|some x,some y=>x.indep y|_,_=>false)&&Fi cos r
def zeroV(P:Program) (t:TypeId):Option AV:=((P.info? t).bind (·.zero)).bind V2
def o6(P:Program) (t:TypeId):Bool:=match P.underlying t with|some (.interface _)=>true|_=>false
def HO(P:Program) (c:Call):Option CD:=
 match c.callee with
 | .value (.func f)=>if cg P f then(ga c.args).map (if o5 P c.argTypes.toList then .aE f else .call f)else none
 | .value (.tmp g)=>(ga c.args).map (.fc (o5 P c.argTypes.toList) (.t g))
 | .builtin .copy=>match c.argTypes.toList,c.args.toList with
  |[t,_],[x,y]=>match P.underlying t,cn x,cn y with
   |some (.slice e),some x,some y=>if fq P e==some 1 then some (.RM e x y)else none
   |_,_,_=>none
  |_,_=>none
 |_=>none
def Sr(P:Program) (op:BinOp) (t:TypeId) (x y:Operand):Option CD:=
 match op,y with
 | .eql,.const .nilIface=>if o6 P t then(cn x).map (.RH false)else none
 | .neq,.const .nilIface=>if o6 P t then(cn x).map (.RH true)else none
 | .eql,.const (.pointer none)=>if xL P t then(cn x).map (.RI false)else none
 | .neq,.const (.pointer none)=>if xL P t then(cn x).map (.RI true)else none
 |_,_=>none
def HP(P:Program) (t:TypeId) (c:Call):Option CD:=
 match c.callee with
 | .value (.tmp g)=>if xL P t then(ga c.args).map (.Ay (.t g))else none
 |_=>none
def V5(P:Program) (t:TypeId):Op->Option CD
 | .box t x=>if Eh P t then(cn x).map .sU else none
 | .build t ps=>if Eh P t then match zeroOf P t,ps.toList with
   |some [_],[(0,x)]=>(cn x).map .Gc
   |_,_=>none
  else none
 | .buildSlice t n ps=>match P.underlying t with
  |some (.slice e)=>if xL P e then match zeroOf P e,ps.toList.mapM (fun p=>cn p.2)with
    |some [_],some xs=>if 0<n&&n<=16777216&&fq P e==some 1&&ps.toList.map (·.1)==List.range n then some (.Bu xs)else none
    |_,_=>none
   else none
  |_=>none
 | .indexAddr t x i=>match P.underlying t with
  |some (.slice e)=>if xL P e&&fq P e==some 1 then match cn x,cn i with
    |some x,some i=>some (.KZ x i)
    |_,_=>none
   else none
  |_=>none
 | .store t x v=>if Eh P t&&fq P t==some 1 then match cn x,cn v with
   |some x,some v=>some (.RO x v)
   |_,_=>none
  else none
 | .call c=>match c.callee,c.argTypes.toList,c.args.toList with
  | .builtin .len,[t],[x]=>match P.underlying t with
   |some (.slice e)=>if xL P e then(cn x).map .K0 else none
   |_=>none
  |_,_,_=>HP P t c
 |_=>none
def Oo(P:Program) (c:Call):Option CD:=
 match tc P c with
 |some (.app e z b (.k .bL) y)=>some (.Sn e z b y)
 |_=>none
def K3(P:Program):Op->Option CD
 | .panic x=>(cn x).map .Hy
 | .makeSlice t l c=>match P.underlying t,cn l,cn c with
  |some (.slice e),some l,some c=>match P.info? e with
   |some i=>if i.size==1&&i.zero.isSome&&decide (0<i.bytes)then some (.RJ e i.bytes l c)else none
   |none=>none
  |_,_,_=>none
 | .makeInterface t x=>if o6 P t||(P.underlying t).isNone then none else(cn x).map (.Hz t)
 | .typeAssert x _ t true=>if o6 P t||(P.underlying t).isNone then none else match zeroV P t,cn x with
  |some z,some x=>some (.NO t z x)
  |_,_=>none
 | .binOp op t x y _=>Sr P op t x y
 | .makeFunc (.func f) a b=>if a.isEmpty&& !b.isEmpty&&cg P f then(ga b).map (.Sm f)else none
 | .call c=>match Oo P c with
  |some x=>some x
  |none=>HO P c
 |_=>none
def RS(P:Program) (t:TypeId) (o:Op):Option CD:=
 match V5 P t o with
 |some x=>some x
 |none=>K3 P o
def qz(P:Program) (ops:Array Oper) (o:Oper):Option XO:=
 match RS P o.type o.op with
 |some x=>match BB ops o.guard with
  |some g=>some ⟨o.dst,x,g⟩
  |none=>none
 |none=>(nF P ops o).map fun c=>⟨c.dst,.o c.op,c.g⟩
def qA(P:Program) (ops:Array Oper):List Oper->Option (List XO)
 |[]=>some []
 |o::r=>match qz P ops o,qA P ops r with
  |some c,some cs=>some (c::cs)
  |_,_=>none
def CI:List XO->List Nat
 |[]=>[]
 |o::r=>(match o.dst with|some d=>[d]|none=>[])++CI r
def mO(n:Nat):List XO->Bool
 |[]=>true
 |o::r=>(match o.dst with|some d=>decide (d<n)|none=>true)&&mO n r
def Ss:Code->Bool
 | .region ..=>true
 | .skip=>true
 |_=>false
def dstsOf:List CO->List Nat
 |[]=>[]
 |o::r=>(match o.dst with|some d=>[d]|none=>[])++dstsOf r
def bn.writes:bn->List Nat
 | .Bv ops=>dstsOf ops
 | .sV ops _=>dstsOf ops
 | .xJ ops _ _ _=>dstsOf ops
 | .seq a b| .join a b| .cond _ a b=>a.writes++b.writes
 | .block _ c| .loop c=>c.writes
 | .Am _ _ wr _ _=>wr
 | .scope _ c r=>c.writes++r.writes
 | .aT ops=>CI ops
 |_=>[]
def bn.after(l:Nat):bn->Option bn
 | .seq a b| .join a b=>match a.after l with
  |some r=>some (.join r b)
  |none=>b.after l
 | .label l'=>if l'==l then some .skip else none
 |_=>none
def bn.labels:bn->List Nat
 | .seq a b| .join a b=>a.labels++b.labels
 | .label l=>[l]
 |_=>[]
def bR.quiet:bR->Bool
 | .mv _| .fa _ _| .ld _ _| .jY _ _| .KS _ _ _ _=>true
 |_=>false
def St(P:Program) (o:Oper):Bool:=
 match o.op with
 | .call c=>(match c.callee with| .value (.func f)=>cg P f|_=>false)&&c.argTypes.toList.any (Eh P)
 |_=>false
def HQ(P:Program):Nat->List Oper->Option Nat
 |_,[]=>none
 |i,o::r=>if St P o then some i else HQ P (i+1) r
def NR(k:Nat):Nat->List Nat->List Oper->List Nat
 |_,dep,[]=>dep
 |i,dep,o::r=>NR k (i+1) (if decide (k<i)&&o.after.any (fun e=>Region.binds .any e&&(e.on==k||dep.contains e.on))then dep++[i]else dep) r
def AA(k:Nat) (dep:List Nat):Nat->List Oper->Bool
 |_,[]=>true
 |i,o::r=>(!dep.contains i||o.after.any fun e=>Region.binds .any e&&(e.on==k||(dep.contains e.on&&decide (e.on<i))))&&AA k dep (i+1) r
def yu(k:Nat) (dep:List Nat) (d:Nat):Nat->List CO->Bool
 |_,[]=>true
 |i,o::r=>(if i=k then(match o.op with| .aE _ _=>o.g.isNone&&o.dst==some d|_=>false)else dep.contains i||(o.op.quiet&&o.g.isNone&&o.dst.isSome&&o.dst !=some d))&&yu k dep d (i+1) r
def BC(P:Program) (ops:List Oper) (cos:List CO) (dZ:List (Nat×Nat)):Option bn:=
 match HQ P 0 ops with
 |some k=>match(cos[k]?).bind CO.dst with
  |some d=>let dep:=NR k 0 [] ops
   if jH dZ ops (mq k dep 0 cos)&&AA k dep 0 ops&&yu k dep d 0 cos&&decide (k<ops.length)then some (.xJ cos dZ k dep)else none
  |none=>none
 |none=>none
def bP(m:Bool) (P:Program):Code->Option bn
 | .skip=>some .skip
 | .region _ ops lg=>if m&& !lg then(qA P ops ops.toList).map .aT else match tN P ops ops.toList with
  |some cos=>if lg then
    if m&&(HQ P 0 ops.toList).isSome then
     if jH (xR ops.toList cos 0 cos) ops.toList cos then BC P ops.toList cos (xR ops.toList cos 0 cos)else none
    else match xR ops.toList cos 0 cos with
    |[]=>if jH [] ops.toList cos then some (.Bv cos)else none
    |dZ=>if jH dZ ops.toList cos&&Fi cos dZ then some (.sV cos dZ)else none
   else some (.Bv cos)
  |none=>none
 | .seq a b=>match bP m P a,bP m P b with
  |some x,some y=>some (if Ss a then .seq x y else .join x y)
  |_,_=>none
 | .cond c a b=>match cn c,bP m P a,bP m P b with
  |some c,some a,some b=>some (.cond c a b)
  |_,_,_=>none
 | .block id c=>(bP m P c).map (.block id)
 | .loop c=>(bP m P c).map .loop
 | .exit id=>some (.exit id)
 | .ret=>some .ret
 | .label l=>some (.label l)
 | .goto l=>some (.goto l)
 | .scope c=>match bP m P c with
  |some c=>match c.labels with
   |[l]=>(c.after l).map (.scope l c)
   |_=>none
  |none=>none
 | .rangeFunc g ps as bd=>match cn g,bP m P as,bP m P bd with
  |some g,some a,some b=>
   let wr:=ps.toList++a.writes++b.writes
   if g.rd.all (fun t=>!wr.contains t)then some (.Am g ps.toList wr a b)else none
  |_,_,_=>none
 |_=>none
abbrev Xz (P:Program):Code->Option bn:=bP false P
def gq(n:Nat):List CO->Bool
 |[]=>true
 |o::r=>(match o.dst with|some d=>decide (d<n)|none=>true)&&gq n r
def bn.fits(n:Nat):bn->Bool
 | .Bv ops=>gq n ops
 | .sV ops _=>gq n ops
 | .xJ ops _ _ _=>gq n ops
 | .seq a b| .join a b| .cond _ a b=>a.fits n&&b.fits n
 | .block _ c| .loop c=>c.fits n
 | .scope _ c r=>c.fits n&&r.fits n
 | .aT ops=>mO n ops
 | .Am _ ps wr a b=>ps.all (fun t=>decide (t<n))&&a.fits n&&b.fits n&&ps.all (fun t=>wr.contains t)&&a.writes.all (fun t=>wr.contains t)&&b.writes.all (fun t=>wr.contains t)
 |_=>true
inductive gb where
 |tmp (t:Nat)
 |cell (t:Nat) (sz:Option Nat)
 deriving Inhabited
def Ap(P:Program):ResultVar->Option gb
 | .tmp t=>some (.tmp t)
 | .cell a t=>(uJ P t).map (.cell a)
structure dc where
 nt:Nat
 res:List gb
 code:bn
def ji(m:Bool) (P:Program) (f:FuncId):Option dc:=
 match P.funcs[f]? with
 |some fn=>match fn.body,fn.results.toList.mapM (Ap P)with
  |some c,some rs=>match bP m P c with
   |some cc=>if cc.fits fn.ntmps&&cg P f then some ⟨fn.ntmps,rs,cc⟩else none
   |none=>none
  |_,_=>none
 |none=>none
abbrev de (P:Program) (f:FuncId):Option dc:=ji false P f
open Go.RowKit (Below)
inductive DV (w:World) (π:Nat->Nat->Prop):AV->Value->Prop
 |bool (b:Bool):DV w π (.bool b) (.bool b)
 |int (k:IntKind) (n:Int):DV w π (.int k n) (.int k n)
 |float (k:FloatKind) (n:Nat):DV w π (.float k n) (.float k n)
 |str (s:ByteArray):DV w π (.str s) (.string s)
 |mh:DV w π .mh (.pointer none)
 |bL:DV w π .bL (.slice none 0 0)
 |ye:DV w π .ye .nilFunc
 |fJ:DV w π .fJ .nilIface
 |iw (n:Nat):Bw n=true->DV w π .iw (.float .f64 n)
 |iface (t:Nat) (a:AV) (v:Value):DV w π a v->DV w π (.iface t a) (.iface t v)
 |agg (as:List AV) (vs:Array Value):as.length=vs.size->(∀a∈as,a.scalar=true)->(∀(i:Nat) (a:AV) (v:Value),as[i]? =some a->vs[i]? =some v->DV w π a v)->DV w π (.agg as) (.agg vs)
 |qf (as:List AV) (vs:Array Value):as.length=vs.size->(∀(i:Nat) (a:AV) (v:Value),as[i]? =some a->vs[i]? =some v->DV w π a v)->DV w π (.qf as) (.tuple vs)
 |fn (f:Fn) (as:List AV) (vs:Array Value) (bs:List AV) (us:Array Value):as.length=vs.size->bs.length=us.size->
   (∀(i:Nat) (a:AV) (v:Value),as[i]? =some a->vs[i]? =some v->DV w π a v)->(∀(i:Nat) (a:AV) (v:Value),bs[i]? =some a->us[i]? =some v->DV w π a v)->DV w π (.fn f as bs) (.func f vs us)
 |sl (xs:List (List AV)) (B off cap z:Nat) (f:Nat->Nat->Value):xs.length<=cap->(∀(i:Nat) (r:List AV),xs[i]? =some r->r.length=z)->
   (∀(i j:Nat) (r:List AV) (a:AV),xs[i]? =some r->r[j]? =some a->a.scalar=true)->
   (∀(i j:Nat) (r:List AV) (a:AV),xs[i]? =some r->r[j]? =some a->π B (off+i*z+j))->
   (∀(i j:Nat) (r:List AV) (a:AV),xs[i]? =some r->r[j]? =some a->w.cell? ⟨B,off+i*z+j,none⟩=some (f i j))->
   (∀(i j:Nat) (r:List AV) (a:AV),xs[i]? =some r->r[j]? =some a->DV w π a (f i j))->DV w π (.sl xs) (.slice (some ⟨B,off,none⟩) xs.length cap)
 |HA (A:Addr):DV w π (.sl []) (.slice (some A) 0 0)
 |ref (cs:List AV) (B off:Nat) (f:Nat->Value):(∀(j:Nat) (a:AV),cs[j]? =some a->a.scalar=true)->(∀(j:Nat) (a:AV),cs[j]? =some a->π B (off+j))->
   (∀(j:Nat) (a:AV),cs[j]? =some a->w.cell? ⟨B,off+j,none⟩=some (f j))->(∀(j:Nat) (a:AV),cs[j]? =some a->DV w π a (f j))->DV w π (.ref cs) (.pointer (some ⟨B,off,none⟩))
theorem DV.mono{w w':World} {π π':Nat->Nat->Prop} (hp:∀b o,π b o->π' b o) (hc:∀b o,π b o->w'.cell? ⟨b,o,none⟩=w.cell? ⟨b,o,none⟩) {a:AV} {v:Value} (h:DV w π a v):DV w' π' a v:=by
 induction h with
 |bool|int|float|str|mh|bL|ye|fJ=>constructor
 |iface t a v _ ih=>exact .iface t a v ih
 |iw n h=>exact .iw n h
 |agg as vs hl hs _ ih=>exact .agg as vs hl hs ih
 |qf as vs hl _ ih=>exact .qf as vs hl ih
 |fn f as vs bs us h1 h2 _ _ ih1 ih2=>exact .fn f as vs bs us h1 h2 ih1 ih2
 |sl xs B off cap z f h1 h2 h3 h4 h5 _ ih=>
  exact .sl xs B off cap z f h1 h2 h3 (fun i j r a hr ha=>hp _ _ (h4 i j r a hr ha)) (fun i j r a hr ha=>(hc _ _ (h4 i j r a hr ha)).trans (h5 i j r a hr ha)) ih
 |HA A=>exact .HA A
 |ref cs B off f h1 h2 h3 _ ih=>exact .ref cs B off f h1 (fun j a ha=>hp _ _ (h2 j a ha)) (fun j a ha=>(hc _ _ (h2 j a ha)).trans (h3 j a ha)) ih
def jr(w:World) (π:Nat->Nat->Prop) (as:List AV) (vs:List Value):Prop:=
 as.length=vs.length/\∀(i:Nat) (a:AV) (v:Value),as[i]? =some a->vs[i]? =some v->DV w π a v
theorem jr.mono{w w':World} {π π':Nat->Nat->Prop} (hp:∀b o,π b o->π' b o) (hc:∀b o,π b o->w'.cell? ⟨b,o,none⟩=w.cell? ⟨b,o,none⟩) {as:List AV} {vs:List Value} (h:jr w π as vs):jr w' π' as vs:=
 ⟨h.1,fun i a v ha hv=>(h.2 i a v ha hv).mono hp hc⟩
theorem jr.nil(w:World) (π:Nat->Nat->Prop):jr w π [] []:=⟨rfl,fun i a v h=>by simp at h⟩
theorem jr.cons{w:World} {π:Nat->Nat->Prop} {a:AV} {v:Value} {as:List AV} {vs:List Value} (h:DV w π a v) (hs:jr w π as vs):jr w π (a::as) (v::vs):=by
 refine⟨by simp[hs.1],fun i x u hx hu=>?_⟩
 cases i with
 |zero=>simp at hx hu;subst hx;subst hu;exact h
 |succ i=>exact hs.2 i x u (by simpa using hx) (by simpa using hu)
theorem jr.append{w:World} {π:Nat->Nat->Prop} {as bs:List AV} {vs us:List Value} (h:jr w π as vs) (k:jr w π bs us):jr w π (as++bs) (vs++us):=by
 refine⟨by simp[h.1,k.1],fun i x u hx hu=>?_⟩
 by_cases hi:i<as.length
 ·exact h.2 i x u (by rwa[List.getElem?_append_left hi]at hx) (by rwa[List.getElem?_append_left (by rw[<-h.1];exact hi)]at hu)
 ·rw[List.getElem?_append_right (by omega)]at hx
  rw[List.getElem?_append_right (by rw[<-h.1];omega)]at hu
  exact k.2 (i-as.length) x u hx (by rw[h.1];exact hu)
theorem jr.get{w:World} {π:Nat->Nat->Prop} {as:List AV} {vs:List Value} (h:jr w π as vs) {i:Nat} {a:AV} (ha:as[i]? =some a):∃v,vs[i]? =some v/\DV w π a v:=by
 have hi:i<as.length:=by
  rcases Nat.lt_or_ge i as.length with h|h
  ·exact h
  ·rw[List.getElem?_eq_none h]at ha;cases ha
 have hv:vs[i]? =some vs[i]!:=by
  rw[List.getElem?_eq_getElem (by rw[<-h.1];exact hi)]
  simp[getElem!_pos vs i (by rw[<-h.1];exact hi)]
 exact⟨_,hv,h.2 i a _ ha hv⟩
theorem DV.Fj{w:World} {π:Nat->Nat->Prop} {a:AV} {v:Value} (h:DV w π a v) (hs:a.scalar=true):v.oneCell'=true:=by
 cases h<;>first|rfl|(simp[AV.scalar]at hs)
theorem DV.cells{w:World} {π:Nat->Nat->Prop} {a:AV} {v:Value} (h:DV w π a v) (ht:∀vs,a≠.qf vs):jr w π a.cells v.cells.toList/\∀x∈a.cells,x.scalar=true:=by
 cases h with
 |agg as vs hl hs hd=>exact⟨⟨by simpa[AV.cells,Value.cells]using hl,fun i a v ha hv=>hd i a v ha (by simpa[Value.cells]using hv)⟩,hs⟩
 |qf as vs=>exact absurd rfl (ht as)
 |bool b=>exact⟨.cons (.bool b) (.nil _ _),by simp[AV.cells,AV.scalar]⟩
 |int k n=>exact⟨.cons (.int k n) (.nil _ _),by simp[AV.cells,AV.scalar]⟩
 |float k n=>exact⟨.cons (.float k n) (.nil _ _),by simp[AV.cells,AV.scalar]⟩
 |str s=>exact⟨.cons (.str s) (.nil _ _),by simp[AV.cells,AV.scalar]⟩
 |mh=>exact⟨.cons .mh (.nil _ _),by simp[AV.cells,AV.scalar]⟩
 |bL=>exact⟨.cons .bL (.nil _ _),by simp[AV.cells,AV.scalar]⟩
 |ye=>exact⟨.cons .ye (.nil _ _),by simp[AV.cells,AV.scalar]⟩
 |fJ=>exact⟨.cons .fJ (.nil _ _),by simp[AV.cells,AV.scalar]⟩
 |iface t a v h=>exact⟨.cons (.iface t a v h) (.nil _ _),by simp[AV.cells,AV.scalar]⟩
 |iw n h=>exact⟨.cons (.iw n h) (.nil _ _),by simp[AV.cells,AV.scalar]⟩
 |fn f as vs bs us h1 h2 h3 h4=>exact⟨.cons (.fn f as vs bs us h1 h2 h3 h4) (.nil _ _),by simp[AV.cells,AV.scalar]⟩
 |ref cs B off f h1 h2 h3 h4=>exact⟨.cons (.ref cs B off f h1 h2 h3 h4) (.nil _ _),by simp[AV.cells,AV.scalar]⟩
 |HA A=>exact⟨.cons (.HA A) (.nil _ _),by simp[AV.cells,AV.scalar]⟩
 |sl xs B off cap z f h1 h2 h3 h4 h5 h6=>exact⟨.cons (.sl xs B off cap z f h1 h2 h3 h4 h5 h6) (.nil _ _),by simp[AV.cells,AV.scalar]⟩
theorem Fk{w:World} {π:Nat->Nat->Prop} {v:Value} {a:AV} (h:Gd v=some a):DV w π a v/\a.scalar=true:=by
 unfold Gd at h
 split at h<;>first|(cases h;exact⟨by constructor,rfl⟩)|cases h
theorem vV{w:World} {π:Nat->Nat->Prop}:∀(l:List Value) (as:List AV),l.mapM Gd=some as->jr w π as l/\∀a∈as,a.scalar=true
 |[],as,h=>by simp at h;subst h;exact⟨.nil _ _,by simp⟩
 |v::l,as,h=>by
  simp only[List.mapM_cons,Option.bind_eq_bind,Option.bind_eq_some_iff,Option.pure_def,Option.some.injEq]at h;obtain⟨a,ha,as',has,rfl⟩:=h
  have h1:=Fk (w:=w) (π:=π) ha
  have h2:=vV (w:=w) (π:=π) l as' has
  exact⟨.cons h1.1 h2.1,by simpa using⟨h1.2,h2.2⟩⟩
theorem HR{w:World} {π:Nat->Nat->Prop} {v:Value} {a:AV} (h:V2 v=some a):DV w π a v:=by
 unfold V2 at h;split at h
 ·rename_i cs
  simp only[Option.map_eq_some_iff]at h;obtain⟨as,has,rfl⟩:=h
  have h2:=vV (w:=w) (π:=π) _ _ has
  exact .agg as cs (by simpa using h2.1.1) h2.2 (fun i a v ha hv=>h2.1.2 i a v ha (by simpa using hv))
 ·exact(Fk h).1
structure gO where
 n:Nat
 X:Nat->Prop
 β:Nat->Nat
def gO.ok(F:gO) (B:Nat):Prop:=F.n<=B\/F.X B
def gO.XN(F:gO) (b B:Nat):Prop:=F.n<=B\/(b<4/\F.X B)
def gO.top(w:World):gO:=⟨w.heap.size,fun _=>False,id⟩
structure sW (n:gO) (w w':World):Prop where
 os:w'.os=w.os
 tape:w'.tape=w.tape
 output:w'.output=w.output
 size:w.heap.size<=w'.heap.size
 block:∀k,k<n.n->¬n.X k->w'.heap[k]? =w.heap[k]?
 /-- what is no variables' block lies as it lay -/
 others:∀(k:Nat) (o:Obj),w.heap[k]? =some o->o.isCells=false->w'.heap[k]? =some o
theorem sW.refl(n:gO) (w:World):sW n w w:=⟨rfl,rfl,rfl,Nat.le_refl _,fun _ _ _=>rfl,fun _ _ h _=>h⟩
theorem sW.trans{n:gO} {a b c:World} (h:sW n a b) (k:sW n b c):sW n a c:=
 ⟨k.os.trans h.os,k.tape.trans h.tape,k.output.trans h.output,Nat.le_trans h.size k.size,fun i hi hx=>(k.block i hi hx).trans (h.block i hi hx),fun i o hi ho=>k.others i o (h.others i o hi ho) ho⟩
theorem sW.of{n:gO} {w w':World} (h:Below w.heap.size w w') (hn:n.n<=w.heap.size):sW n w w':=⟨h.os,h.tape,h.output,h.size,fun k hk _=>h.block k (by omega),fun k o hk _=>(h.block k (Array.getElem?_eq_some_iff.1 hk).1).trans hk⟩
theorem sW.below{n:gO} {w w':World} (h:sW n w w') (hX:∀k,¬n.X k):Below n.n w w':=⟨h.os,h.tape,h.output,h.size,fun k hk=>h.block k hk (hX k)⟩
def AB(P:Program) (w:World) (π:Nat->Nat->Prop) (ok:Nat->Prop) (e:Nat) (v:Value):Prop:=
 v=.slice none 0 0\/∃B len cap cur i,v=.slice (some ⟨B,0,none⟩) len cap/\ok B/\w.heap[B]? =some (.cells cur e (0,0))/\len<=cap/\cap<=maxLen/\P.info? e=some i/\cur.size=cap*i.size/\∀o,len*i.size<=o->¬π B o
def js:Value->Option Nat
 | .slice (some a) _ _=>some a.block
 |_=>none
def CJ(P:Program) (f:FuncId) (args:List AV) (r:AV) (fr:Option Nat):Prop:=
 cg P f=true/\
 ∀(w:World) (π:Nat->Nat->Prop) (vs:List Value),(∀b o,π b o->b<w.heap.size)->jr w π args vs->
  Calls P f vs.toArray w fun e w'=>∃v π',e=.returned v/\Below w.heap.size w w'/\(∀b o,π b o->π' b o)/\(∀b o,π' b o->π b o\/w.heap.size<=b)/\
   (∀b o,π' b o->b<w'.heap.size)/\DV w' π' r v/\∀t,fr=some t->AB P w' π' (fun B=>w.heap.size<=B) t v
def eV(w:World) (π:Nat->Nat->Prop):List (Option AV)->List Nat->List Value->Prop
 |[],[],[]=>True
 |some .hole::as,B::Bs,v::vs=>v=.agg #[.pointer (some ⟨B,0,none⟩)]/\eV w π as Bs vs
 |some a::as,Bs,v::vs=>DV w π a v/\eV w π as Bs vs
 |none::as,B::Bs,v::vs=>v=.pointer (some ⟨B,0,none⟩)/\eV w π as Bs vs
 |_,_,_=>False
def RV(β:Nat->Nat) (τ:Nat->Value) (w:World) (π:Nat->Nat->Prop):SV->Value->Prop
 | .dat a q,v=>DV w π a v/\∀t,q=some t->v=τ t
 | .ptr b off,v=>v=.pointer (some ⟨β b,off,none⟩)
 | .rp cs,v=>∃(B off:Nat) (f:Nat->Value),v=.pointer (some ⟨B,off,none⟩)/\(∀(j:Nat) (a:AV),cs[j]? =some a->a.scalar=true)/\(∀(j:Nat) (a:AV),cs[j]? =some a->π B (off+j))/\
   (∀(j:Nat) (a:AV),cs[j]? =some a->w.cell? ⟨B,off+j,none⟩=some (f j))/\∀(j:Nat) (a:AV),cs[j]? =some a->DV w π a (f j)
 | .undef,v=>v=undef
 | .nD f as bs,v=>∃us:Array Value,v=.func (.func f) #[] us/\eV w π as (bs.map β) us.toList
 | .raw q n,v=>∃B cap,τ q=.slice (some ⟨B,0,none⟩) 0 cap/\v=.slice (some ⟨B,0,none⟩) n cap/\n<=cap
 | .vs b off n _,v=>∃cap,n<=cap/\v=.slice (some ⟨β b,off,none⟩) n cap
 | .pt 0 ps,v=>v=.agg (ps.map fun p=>Value.pointer (some ⟨β p.1,p.2,none⟩)).toArray
 | .pt k ps,v=>∃B off cap,(v=if k=1 then .slice (some ⟨B,off,none⟩) ps.length cap else .pointer (some ⟨B,off,none⟩))/\ps.length<=cap/\
   ∀(i:Nat) (p:Nat×Nat),ps[i]? =some p->π B (off+i)/\w.cell? ⟨B,off+i,none⟩=some (.pointer (some ⟨β p.1,p.2,none⟩))
def SV.gp(U:Nat->Prop):SV->Prop
 | .dat _ (some q)=>U q
 | .ptr b _=>U b
 | .vs b _ _ _=>U b
 | .nD _ _ bs=>∀b∈bs,U b
 | .raw q _=>U q
 | .pt _ ps=>∀p∈ps,U p.1
 |_=>True
def ou(τ:Nat->Value) (w:World) (π:Nat->Nat->Prop) (B:Nat) (x:bY):Prop:=
 ∃cur el,w.heap[B]? =some (.cells cur el (0,0))/\jr w π x.cells (cur.toList.take x.cells.length)/\(∀a∈x.cells,a.scalar=true)/\(∀o q,eK o x.tags=some q->cur[o]? =some (τ q))/\∀o,¬π B o
theorem jr.take{w:World} {π:Nat->Nat->Prop} {as:List AV} {vs:List Value} (h:jr w π as vs):jr w π as (vs.take as.length):=by
 rw[List.take_of_length_le (Nat.le_of_eq h.1.symm)];exact h
def cG(w:World) (π:Nat->Nat->Prop):List (List AV)->List Nat->Prop
 |[],[]=>True
 |cs::css,B::Bs=>ou (fun _=>undef) w π B ⟨cs,[]⟩/\cG w π css Bs
 |_,_=>False
def gO.gY(w:World) (Bs:List Nat):gO:=⟨w.heap.size,fun B=>B∈Bs,fun k=>Bs.getD k 0⟩
def yw(P:Program) (f:FuncId) (css:List (List AV)) (args:List (Option AV)) (r:AV) (fr:Option Nat) (css':List (List AV)):Prop:=
 cg P f=true/\css'.length=css.length/\css.length<=4/\
 ∀(w:World) (π:Nat->Nat->Prop) (Bs:List Nat) (vs:List Value),(∀b o,π b o->b<w.heap.size)->Bs.Nodup->cG w π css Bs->eV w π args Bs vs->
  Calls P f vs.toArray w fun e w'=>∃v π',e=.returned v/\sW (gO.gY w Bs) w w'/\(∀b o,π b o->π' b o)/\(∀b o,π' b o->π b o\/w.heap.size<=b)/\
   (∀b o,π' b o->b<w'.heap.size)/\cG w' π' css' Bs/\DV w' π' r v/\∀t,fr=some t->AB P w' π' (fun B=>w.heap.size<=B) t v
theorem DV.mK{w:World} {π:Nat->Nat->Prop} {a:AV} (h:Eng.mK a=true):DV w π a (K1 a):=by
 cases a<;>first|(simp[Eng.mK]at h;done)|constructor
theorem DV.flat{w:World} {π:Nat->Nat->Prop} {a:AV} (h:uE a=true):DV w π a (uD a):=by
 cases a with
 |agg cs=>
  simp only[uE,List.all_eq_true]at h
  refine .agg cs _ (by simp) (fun a ha=>?_) (fun i a v ha hv=>?_)
  ·have:=h a ha;cases a<;>first|rfl|(simp[Eng.mK]at this;done)
  ·simp only[List.getElem?_toArray,List.getElem?_map,ha,Option.map_some,Option.some.injEq]at hv
   subst hv;exact .mK (h a (List.mem_of_getElem? ha))
 |_=>first|exact .mK h|(simp[uE,Eng.mK]at h;done)
def Iter(P:Program) (gv:AV) (xs:List (List AV)):Prop:=
 ∃gf caps,gv=.fn (.func gf) [] caps/\cg P gf=true/\(∀x∈xs,∀a∈x,uE a=true)/\
 ∀(l:Nat) (J:Nat->World->Prop) (Jx:World->Prop) (W:World) (π:Nat->Nat->Prop) (vs:List Value),(∀b o,π b o->b<W.heap.size)->jr W π caps vs->
  (∀i W',J i W'->∀b o,π b o->W'.cell? ⟨b,o,none⟩=W.cell? ⟨b,o,none⟩)->
  (∀i W W',J i W->Below W.heap.size W W'->J i W')->(∀W W',Jx W->Below W.heap.size W W'->Jx W')->
  (∀n i x W,xs[i]? =some x->J i W->YieldAt Fence.wide n P l (x.map uD).toArray W fun e W'=>(e=.returned (.bool true)/\J (i+1) W')\/(e=.returned (.bool false)/\Jx W'))->
  J 0 W->
  Calls P gf (#[.func (.yield l) #[] #[]]++vs.toArray) W fun e W'=>(∃v,e=.returned v)/\(J xs.length W'\/Jx W')
def HS(P:Program) (f:FuncId) (css:List (List AV)) (args:List (Option AV)) (p:AV) (css':List (List AV)):Prop:=
 cg P f=true/\css'.length=css.length/\css.length<=4/\
 ∀(w:World) (π:Nat->Nat->Prop) (Bs:List Nat) (vs:List Value),(∀b o,π b o->b<w.heap.size)->Bs.Nodup->cG w π css Bs->eV w π args Bs vs->
  Calls P f vs.toArray w fun e w'=>∃π',e=.panicked (d8 p)/\sW (gO.gY w Bs) w w'/\(∀b o,π b o->π' b o)/\(∀b o,π' b o->π b o\/w.heap.size<=b)/\
   (∀b o,π' b o->b<w'.heap.size)/\cG w' π' css' Bs
def NS(P:Program) (f:FuncId) (args:List AV) (cs:List AV):Prop:=
 cg P f=true/\
 ∀(w:World) (π:Nat->Nat->Prop) (vs:List Value),(∀b o,π b o->b<w.heap.size)->jr w π args vs->
  Calls P f vs.toArray w fun e w'=>∃B π',e=.returned (.pointer (some ⟨B,0,none⟩))/\w.heap.size<=B/\Below w.heap.size w w'/\(∀b o,π b o->π' b o)/\(∀b o,π' b o->π b o\/w.heap.size<=b)/\
   (∀b o,π' b o->b<w'.heap.size)/\ou (fun _=>undef) w' π' B ⟨cs,[]⟩
def yx:AV->FrameMode
 | .fJ=>.returning
 |p=>.panicking (d8 p)
def HT(P:Program) (f:FuncId) (rv:AV) (css:List (List AV)) (args:List (Option AV)) (css':List (List AV)):Prop:=
 cg P f=true/\css'.length=css.length/\css.length<=4/\
 ∀(w:World) (π:Nat->Nat->Prop) (Bs:List Nat) (vs:List Value),(∀b o,π b o->b<w.heap.size)->Bs.Nodup->cG w π css Bs->eV w π args Bs vs->
  CallsDIn Fence.wide 0 P f vs.toArray (yx rv) w fun e u' w'=>∃v π',e=.returned v/\settle u'=.returning/\sW (gO.gY w Bs) w w'/\(∀b o,π b o->π' b o)/\(∀b o,π' b o->π b o\/w.heap.size<=b)/\
   (∀b o,π' b o->b<w'.heap.size)/\cG w' π' css' Bs
def gO.Su(w:World) (Bs:List Nat) (tb:Nat->Prop):gO:=⟨w.heap.size,fun B=>B∈Bs\/tb B,fun k=>Bs.getD k 0⟩
def Gh(P:Program) (w:World) (π:Nat->Nat->Prop) (Bs:List Nat) (ok:Nat->Prop) (tv:Value):Option (Nat×Nat×Nat)->Prop
 |none=>True
 |some (j,o,e)=>∃B cur el,Bs[j]? =some B/\w.heap[B]? =some (.cells cur el (0,0))/\cur[o]? =some tv/\AB P w π ok e tv/\∀TB,js tv=some TB->TB∉Bs
def KU(tg:Option (Nat×Nat×Nat)) (tv:Value) (B:Nat):Prop:=tg.isSome=true/\js tv=some B
def NT(P:Program) (f:FuncId) (css:List (List AV)) (tg:Option (Nat×Nat×Nat)) (args:List (Option AV)) (r:AV) (css':List (List AV)) (tg':Option (Nat×Nat×Nat)):Prop:=
 cg P f=true/\css'.length=css.length/\css.length<=4/\
 ∀(w:World) (π:Nat->Nat->Prop) (Bs:List Nat) (vs:List Value) (tv:Value),(∀b o,π b o->b<w.heap.size)->Bs.Nodup->cG w π css Bs->eV w π args Bs vs->Gh P w π Bs (fun _=>True) tv tg->
  Calls P f vs.toArray w fun e w'=>∃v π' tv',e=.returned v/\sW (gO.Su w Bs (KU tg tv)) w w'/\(∀b o,π b o->π' b o)/\(∀b o,π' b o->π b o\/w.heap.size<=b\/KU tg tv b)/\
   (∀b o,π' b o->b<w'.heap.size)/\(∀b o,π b o->w'.cell? ⟨b,o,none⟩=w.cell? ⟨b,o,none⟩)/\cG w' π' css' Bs/\DV w' π' r v/\Gh P w' π' Bs (fun B=>w.heap.size<=B\/KU tg tv B) tv' tg'
def HU(P:Program) (f:FuncId) (css:List (List AV)) (args:List (Option AV)) (j o:Nat):Prop:=
 cg P f=true/\css.length<=4/\
 ∀(w:World) (π:Nat->Nat->Prop) (Bs:List Nat) (vs:List Value),(∀b o,π b o->b<w.heap.size)->Bs.Nodup->cG w π css Bs->eV w π args Bs vs->
  Calls P f vs.toArray w fun e w'=>∃B π',Bs[j]? =some B/\e=.returned (.pointer (some ⟨B,o,none⟩))/\sW (gO.gY w Bs) w w'/\(∀b o,π b o->π' b o)/\(∀b o,π' b o->π b o\/w.heap.size<=b)/\
   (∀b o,π' b o->b<w'.heap.size)/\cG w' π' css Bs
def Pure(P:Program):bw:=⟨CJ P,yw P,Iter P,HS P,NS P,HT P,NT P,HU P⟩
structure Rel (P:Program) (nt:Nat) (n0:gO) (w0:World) (π0:Nat->Nat->Prop) (U:Nat->Prop) (s:S) (a:Act) (w:World) (β:Nat->Nat) (τ:Nat->Value) (π:Nat->Nat->Prop):Prop where
 size:a.tmps.size=nt
 slots:∀t v,lk t s.slots=some v->(∃x,a.tmps[t]? =some x/\RV β τ w π v x)/\v.gp U
 boxes:∀b x,ct b s.boxes=some x->U b/\n0.XN b (β b)/\ou τ w π (β b) x/\∀o q,eK o x.tags=some q->U q
 inj:∀b b' x x',ct b s.boxes=some x->ct b' s.boxes=some x'->β b=β b'->b=b'
 live:∀q e,eK q s.live=some e->U q/\AB P w π n0.ok e (τ q)
 bS:∀q q' e e' B,eK q s.live=some e->eK q' s.live=some e'->js (τ q)=some B->js (τ q')=some B->q=q'
 cK:∀q e b x,eK q s.live=some e->ct b s.boxes=some x->js (τ q)≠some (β b)
 below:sW n0 w0 w
 fu:n0.n<=w0.heap.size
 ej:∀b o,π b o->b<w.heap.size
 eo:∀b o,π0 b o->π b o
 cH:∀b o,π b o->π0 b o\/n0.ok b
 lQ:∀k,k<4->β k=n0.β k
 jt:∀k,k<4->U k
 kept:∀b o,π0 b o->w.cell? ⟨b,o,none⟩=w0.cell? ⟨b,o,none⟩
end Go.Eng
