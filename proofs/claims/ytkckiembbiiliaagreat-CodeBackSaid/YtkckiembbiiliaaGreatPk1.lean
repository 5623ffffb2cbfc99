/- The engine and the library,part 1 of 20: what the proofs of this seat need of them. -/
import Derived.WalkKit
import Derived.RangeFuncNested
import Derived.RangeFuncLeaves
import Derived.OrdersIn
import Derived.LoopNIn
import Derived.ChangeKeysEq
import Derived.Laws.Externs
import Derived.Lib.SliceRun
import Derived.Laws.CopyRow
import Derived.Laws.MakeOwn
import Ieee.Arith
import GoSem.Core.Float
import Derived.RecoverIn
import Derived.ProofKit
import Derived.OpenShut
import Derived.ShutString
import Derived.ChangeOld
import Derived.Below
set_option linter.unnecessarySimpa false
set_option linter.unusedSimpArgs false
set_option linter.unusedVariables false
set_option linter.defProp false
set_option maxRecDepth 10000
set_option maxHeartbeats 4000000
namespace Go.Eng
open Go
inductive AV where
 |bool (b:Bool)
 |int (k:IntKind) (n:Int)
 |float (k:FloatKind) (n:Nat)
 |str (s:ByteArray)
 |mj
 |bM
 |sl (xs:List (List AV))
 |fn (f:Fn) (first caps:List AV)
 |yf
 |iface (t:Nat) (v:AV)
 |fq
 |agg (cs:List AV)
 |qb (vs:List AV)
 |ref (cs:List AV)
 /-- a float (of 64 bits) that is no number,whichever -/
 |iz
 /-- an argument: a struct of one pointer,at the head of the next box -/
 |hole
 deriving Inhabited
inductive SV where
 |dat (a:AV) (q:Option Nat)
 |ptr (b off:Nat)
 |rp (cs:List AV)
 |undef
 /-- a slice wo a box of its own or another's: n elements of z cells each,from off on -/
 |vs (b off n z:Nat)
 /-- a function with values and pointers at the heads of boxes -/
 |ot (f:Nat) (as:List (Option AV)) (bs:List Nat)
 /-- a slice of n elements that nobody has read: the token's row from its head on -/
 |raw (q n:Nat)
 /-- pointers into boxes: 0: a struct of them; 1: a slice; 2: a pointer at the first of a row that is never written -/
 |pt (k:Nat) (ps:List (Nat×Nat))
 deriving Inhabited
structure cg where
 cells:List AV
 tags:List (Nat×Nat)
 deriving Inhabited
structure S where
 slots:List (Nat×SV)
 boxes:List (Nat×cg)
 live:List (Nat×Nat)
 nx:Nat
 deriving Inhabited
inductive bD where
 |t (n:Nat)
 |k (v:AV)
 deriving Inhabited
inductive CK where
 |b|i|f|s
 deriving DecidableEq,Inhabited
inductive Xt where
 |Aw|ffrom|rte
 deriving DecidableEq,Inhabited
inductive bT where
 |mv (x:bD)
 |pick (c a b:bD)
 |alloc (cs:List AV)
 |box (x:bD)
 |build (zs:List AV) (parts:List (Nat×Nat×bD))
 |gw (e z:Nat) (xs:List bD)
 |ld (x:bD) (sz:Option Nat)
 |st (x v:bD) (sz:Nat)
 |fa (x:bD) (off:Nat)
 |Ay (x i:bD) (n z:Nat)
 |Bl (x i:bD) (z:Nat)
 |Sd (x:bD) (off:Nat) (sz:Option Nat)
 |K1 (x i:bD) (n z:Nat) (sz:Option Nat)
 |bin (op:BinOp) (x y:bD)
 |eqc (ks:List CK) (neg:Bool) (x y:bD)
 |bb (neg:Bool) (x y:bD)
 |un (op:UnOp) (x:bD)
 |kF (k:IntKind) (x:bD)
 |Ah (k:FloatKind) (x:bD)
 |Bm (k:IntKind) (x:bD)
 |Bn (x:bD)
 |nC (x:bD)
 |HC (n:Nat)
 |app (e z bytes:Nat) (s x:bD)
 |call (f:Nat) (args:List bD)
 |aB (f:Nat) (args:List bD)
 |eS (g:bD) (args:List bD)
 |ext (x:bD) (i:Nat)
 |Bo (fn:Fn) (first caps:List bD)
 |HD (z:Nat) (x:bD) (lo hi:Option bD)
 |nc (x:bD)
 |mm (max:Bool) (args:List bD)
 |xt (e:Xt) (x:bD)
 |Gd (x:bD) (n z:Nat)
 |Se (x i:bD)
 |NK (neg:Bool) (x:bD)
 |gN (g:bD) (args:List bD)
 |yg (f:Nat) (args:List bD)
 |qx (g:bD) (args:List bD)
 |Sf (x:bD) (n z:Nat) (hi:bD)
 |Bp (e z bytes:Nat) (y x:bD)
 /-- what a row of pointers holds: one,or a struct -/
 |jX (x:bD) (sz:Option Nat)
 /-- a call that raises; what is raised is what it yields -/
 |tj (f:Nat) (args:List bD)
 deriving Inhabited
structure CO where
 dst:Option Nat
 op:bT
 g:Option (Nat×Bool)
 deriving Inhabited
inductive D7 where
 |o (c:bT)
 |call (f:Nat) (args:List bD)
 |aB (f:Nat) (args:List bD)
 |eS (p:Bool) (g:bD) (args:List bD)
 |Sg (f:Nat) (caps:List bD)
 |Hx (x:bD)
 |Hy (t:Nat) (x:bD)
 /-- is it of that type? the value,or nothing of that type -/
 |NL (t:Nat) (z:AV) (x:bD)
 |RD (neg:Bool) (x:bD)
 |K2 (neg:Bool) (x:bD)
 /-- a slice of cells that is made; what is copied into all of it -/
 |RE (e bytes:Nat) (l c:bD)
 |RF (e:Nat) (x y:bD)
 /-- pointers in a struct,in a row of its own,in a slice -/
 |Ge (x:bD)
 |tc (x:bD)
 |RG (x v:bD)
 |Bq (xs:List bD)
 |K3 (x i:bD)
 |K4 (x:bD)
 /-- a call that yields a pointer into a box that it is given -/
 |Az (g:bD) (args:List bD)
 deriving Inhabited
structure XO where
 dst:Option Nat
 op:D7
 g:Option (Nat×Bool)
 deriving Inhabited
inductive bp where
 |skip
 |Cv (ops:List CO)
 |seq (a b:bp)
 |join (a b:bp)
 |cond (c:bD) (a b:bp)
 |block (id:Nat) (c:bp)
 |loop (c:bp)
 |exit (id:Nat)
 |ret
 |Ai (g:bD) (ps wr:List Nat) (as bd:bp)
 |qm (ops:List CO) (dQ:List (Nat×Nat))
 |scope (l:Nat) (c r:bp)
 |label (l:Nat)
 |goto (l:Nat)
 |aO (ops:List XO)
 /-- as qm; operation k may raise,those of dep come behind it -/
 |xH (ops:List CO) (dQ:List (Nat×Nat)) (k:Nat) (dep:List Nat)
 deriving Inhabited
def AV.cells:AV->List AV
 | .agg cs=>cs
 |v=>[v]
def AV.scalar:AV->Bool
 | .agg _| .qb _=>false
 |_=>true
def Gf:Value->Option AV
 | .bool b=>some (.bool b)
 | .int k n=>some (.int k n)
 | .float k n=>some (.float k n)
 | .string s=>some (.str s)
 | .pointer none=>some .mj
 | .slice none 0 0=>some .bM
 | .nilFunc=>some .yf
 | .nilIface=>some .fq
 |_=>none
def VX:Value->Option AV
 | .agg cs=>(cs.toList.mapM Gf).map .agg
 |v=>Gf v
def wR(op:BinOp) (k:IntKind) (x y:Int):Option Int:=
 let a:=BitVec.ofInt k.bits x
 let b:=BitVec.ofInt k.bits y
 match op with
 | .and=>some (k.wrap (a&&&b).toNat)
 | .or=>some (k.wrap (a|||b).toNat)
 | .xor=>some (k.wrap (a^^^b).toNat)
 | .andNot=>some (k.wrap (a&&& ~~~b).toNat)
 |_=>none
def qn(op:BinOp) (k:IntKind) (x y:Int):Option AV:=
 match op with
 | .add=>some (.int k (k.wrap (x+y)))
 | .sub=>some (.int k (k.wrap (x-y)))
 | .mul=>some (.int k (k.wrap (x*y)))
 | .quo=>if y=0 then none else some (.int k (k.wrap (x.tdiv y)))
 | .rem=>if y=0 then none else some (.int k (x.tmod y))
 | .and| .or| .xor| .andNot=>(wR op k x y).map (.int k)
 | .eql=>some (.bool (x==y))
 | .neq=>some (.bool (x !=y))
 | .lss=>some (.bool (decide (x<y)))
 | .leq=>some (.bool (decide (x<=y)))
 | .gtr=>some (.bool (decide (x>y)))
 | .geq=>some (.bool (decide (x>=y)))
 |_=>none
def Br(n:Nat):Bool:=match FloatKind.f64.decode n with
 | .nan ..=>true
 |_=>false
def Ed:FloatKind->Option Nat->Option AV
 |k,some r=>some (.float k r)
 | .f64,none=>some .iz
 | .f32,none=>none
def HE:BinOp->Option AV
 | .add| .sub| .mul| .quo=>some .iz
 | .neq=>some (.bool true)
 | .eql| .lss| .leq| .gtr| .geq=>some (.bool false)
 |_=>none
def yh(op:BinOp) (k:FloatKind) (x y:Nat):Option AV:=
 let c:=k.format.order x y
 match op with
 | .add=>Ed k (k.format.add x y)
 | .sub=>Ed k (k.format.sub x y)
 | .mul=>Ed k (k.format.mul x y)
 | .quo=>Ed k (k.format.div x y)
 | .eql=>some (.bool (c==some .eq))
 | .neq=>some (.bool (c !=some .eq))
 | .lss=>some (.bool (c==some .lt))
 | .leq=>some (.bool (c==some .lt||c==some .eq))
 | .gtr=>some (.bool (c==some .gt))
 | .geq=>some (.bool (c==some .gt||c==some .eq))
 |_=>none
def qy(op:BinOp) (k:IntKind) (x y:Int):Option AV:=
 if y<0 then none else
 match op with
 | .shl=>some (.int k (k.wrap (x*2^min y.toNat k.bits)))
 | .shr=>some (.int k (x.fdiv (2^min y.toNat k.bits)))
 |_=>none
def ep(op:BinOp) (a b:AV):Option AV:=
 match op,a,b with
 | .shl,.int k x,.int _ y=>qy .shl k x y
 | .shr,.int k x,.int _ y=>qy .shr k x y
 |op,.int k x,.int k' y=>if k=k' then qn op k x y else none
 |op,.float k x,.float k' y=>if k=k' then yh op k x y else none
 |op,.iz,.float .f64 _=>HE op
 |op,.float .f64 _,.iz=>HE op
 |op,.iz,.iz=>HE op
 |_,_,_=>none
def RH(neg:Bool):AV->AV->Option AV
 | .bool x,.bool y=>some (.bool (if neg then x !=y else x==y))
 |_,_=>none
def lP:CK->AV->AV->Option Bool
 | .b,.bool x,.bool y=>some (x==y)
 | .i,.int k x,.int k' y=>if k=k' then some (x==y)else none
 | .f,.float k x,.float k' y=>if k=k' then some (k.format.order x y==some .eq)else none
 | .s,.str x,.str y=>some (x==y)
 |_,_,_=>none
def bn:List CK->List AV->List AV->Option Bool
 |[],[],[]=>some true
 |k::ks,a::as,b::bs=>match lP k a b,bn ks as bs with
  |some x,some y=>some (x&&y)
  |_,_=>none
 |_,_,_=>none
def Oi(op:UnOp) (a:AV):Option AV:=
 match op,a with
 | .neg,.int k n=>some (.int k (k.wrap (0-n)))
 | .xor,.int k n=>(wR .xor k (if k.signed then -1 else k.max) n).map (.int k)
 | .neg,.float k b=>some (.float k (Op.negFloat k b))
 | .not,.bool b=>some (.bool !b)
 |_,_=>none
def AA(k:IntKind):AV->Option AV
 | .int _ n=>some (.int k (k.wrap n))
 |_=>none
def yj(k:FloatKind):AV->Option AV
 | .int _ n=>some (.float k (k.nearest n))
 |_=>none
def uC(k:IntKind):AV->Option AV
 | .float s b=>match(s.decode b).toInt .zero with
  |some n=>if k.min<=n/\n<=k.max then some (.int k n)else none
  |none=>none
 |_=>none
def Bt(b:Nat):Option AV:=
 match FloatKind.f64.decode b with
 | .nan _ t=>if FloatKind.f64.format.quiet t=t then some (.float .f64 b)else none
 |d=>some (.float .f64 (FloatKind.f64.encode (d.integral .even)))
def RI:Xt->AV->Option AV
 | .Aw,.float .f64 b=>some (.int .u64 b)
 | .ffrom,.int .u64 n=>some (.float .f64 n.toNat)
 | .rte,.float .f64 b=>Bt b
 |_,_=>none
def cN(z:Nat):Nat->List AV->List (List AV)
 |0,_=>[]
 |n+1,cs=>cs.take z::cN z n (cs.drop z)
def E8(s:ByteArray) (i:Int):Option AV:=
 if 0<=i/\i<s.size then some (.int .u8 (s[i.toNat]!).toNat)else none
def Cz:AV->Option AV
 | .bM=>some (.int .i64 0)
 | .sl xs=>some (.int .i64 xs.length)
 |_=>none
def CA:Bool->AV->Option Bool
 |neg,.bM=>some (!neg)
 |neg,.sl _=>some neg
 |_,_=>none
def NM(mx:Bool):AV->AV->Option AV
 | .int k x,.int _ y=>some (.int k (if mx then(if y>x then y else x)else(if y<x then y else x)))
 | .float k x,.float k' y=>if k=k' then match k.format.order x y with
   |none=>if k=.f64 then some .iz else none
   |some .lt=>some (.float k (if mx then y else x))
   |some .gt=>some (.float k (if mx then x else y))
   |some .eq=>some (.float k (if mx then(if(k.decode x).neg then y else x)else(if(k.decode x).neg then x else y)))
  else none
 | .iz,.float .f64 _=>some .iz
 | .float .f64 _,.iz=>some .iz
 | .iz,.iz=>some .iz
 |_,_=>none
def HF:AV->Nat->Option AV
 | .qb vs,i=>vs[i]?
 |_,_=>none
def bG(cs:List AV) (off:Nat):Option Nat->Option AV
 |none=>cs[off]?
 |some n=>if off+n<=cs.length then some (.agg ((cs.drop off).take n))else none
def iA:List AV->List (Nat×List AV)->List AV
 |cs,[]=>cs
 |cs,(off,ps)::rest=>iA (cs.take off++ps++cs.drop (off+ps.length)) rest
def K5:AV->Value
 | .bool b=>.bool b
 | .int k n=>.int k n
 | .float k n=>.float k n
 | .str s=>.string s
 | .mj=>.pointer none
 | .bM=>.slice none 0 0
 |_=>undef
def qc:AV->Bool
 | .bool _| .int .. | .float .. | .str _| .mj| .bM=>true
 |_=>false
def uD:AV->Value
 | .agg cs=>.agg (cs.map K5).toArray
 |a=>K5 a
def uE:AV->Bool
 | .agg cs=>cs.all qc
 |a=>qc a
def Ee(t:Nat) (z:AV):AV->Option AV
 | .fq=>some (.qb [z,.bool false])
 | .iface t' a=>some (if t'=t then .qb [a,.bool true]else .qb [z,.bool false])
 |_=>none
def Gg(neg:Bool):AV->Option Bool
 | .fq=>some !neg
 | .iface _ _=>some neg
 |_=>none
def Aj(neg:Bool):SV->Option Bool
 | .ptr _ _| .rp _| .dat (.ref _) _=>some neg
 | .dat .mj _=>some !neg
 |_=>none
def jn:AV->Bool
 | .iface _ a=>uE a
 |_=>false
def Oj:AV->Value
 | .iface t a=>.iface t (uD a)
 |_=>undef
def dS(p:AV):List PanicEntry:=[{v:=Oj p,recovered:=false}]
def lk:Nat->List (Nat×SV)->Option SV
 |_,[]=>none
 |n,(m,v)::r=>bif n==m then some v else lk n r
def cm:Nat->List (Nat×cg)->Option cg
 |_,[]=>none
 |n,(m,v)::r=>bif n==m then some v else cm n r
def er:Nat->List (Nat×Nat)->Option Nat
 |_,[]=>none
 |n,(m,v)::r=>bif n==m then some v else er n r
def nZ:Nat->cg->List (Nat×cg)->List (Nat×cg)
 |_,_,[]=>[]
 |n,b,(m,v)::r=>bif n==m then(m,b)::r else(m,v)::nZ n b r
def mq:Nat->List (Nat×Nat)->List (Nat×Nat)
 |_,[]=>[]
 |n,(m,v)::r=>bif n==m then mq n r else(m,v)::mq n r
def S.put(s:S) (d:Option Nat) (v:SV):S:=
 match d with
 |none=>s
 |some d=>{s with slots:=(d,v)::s.slots}
def bQ(s:S):bD->Option SV
 | .t n=>lk n s.slots
 | .k v=>some (.dat v none)
def aR(s:S) (x:bD):Option AV:=
 match bQ s x with
 |some (.dat a _)=>some a
 |some (.rp cs)=>some (.ref cs)
 |_=>none
def dA(s:S):List bD->Option (List AV)
 |[]=>some []
 |x::r=>match aR s x,dA s r with
  |some a,some as=>some (a::as)
  |_,_=>none
def aj{α:Type} (o:Option α) (k:α->Prop):Prop:=
 match o with
 |some a=>k a
 |none=>False
@[simp] theorem aE {α:Type} (a:α) (k:α->Prop):aj (some a) k=k a:=rfl
@[simp] theorem Ol {α:Type} (k:α->Prop):aj none k=False:=rfl
def jD:AV->Option Nat->Bool
 | .qb _,_=>false
 | .agg _,some _=>false
 |_,_=>true
def jf(s:S):List (Nat×Nat×bD)->Option (List (Nat×List AV))
 |[]=>some []
 |(off,sz,x)::r=>match aR s x,jf s r with
  |some a,some ps=>if a.cells.length=sz/\jD a none=true then some ((off,a.cells)::ps)else none
  |_,_=>none
def lY(s:S) (z:Nat):List bD->Option (List (List AV))
 |[]=>some []
 |x::r=>match aR s x,lY s z r with
  |some a,some rows=>if a.cells.length=z/\jD a none=true then some (a.cells::rows)else none
  |_,_=>none
def idxOf:AV->Option Int
 | .int _ i=>some i
 |_=>none
def setCells(cs:List AV) (off:Nat) (ps:List AV):List AV:=cs.take off++ps++cs.drop (off+ps.length)
def vR:Option AV->Option Int
 |some a=>idxOf a
 |none=>none
def yl(s:S):Option bD->Option Int
 |none=>some 0
 |some x=>vR (aR s x)
def ym(s:S) (xs:List (List AV)):Option bD->Option Int
 |none=>some xs.length
 |some x=>vR (aR s x)
def yo(a:AV) (xs:List (List AV)) (l h:Int):AV:=
 match a with
 | .bM=>.bM
 |_=>.sl ((xs.take h.toNat).drop l.toNat)
structure bz where
 c:Nat->List AV->AV->Option Nat->Prop
 p:Nat->List (List AV)->List (Option AV)->AV->Option Nat->List (List AV)->Prop
 /-- what a function that is ranged wo yields,one after the other -/
 i:AV->List (List AV)->Prop
 /-- a function that raises this -/
 q:Nat->List (List AV)->List (Option AV)->AV->List (List AV)->Prop
 /-- a function that yields a pointer to a new box -/
 n:Nat->List AV->List AV->Prop
 /-- a function that is deferred,with what it recovers: nothing,or what was raised -/
 d:Nat->AV->List (List AV)->List (Option AV)->List (List AV)->Prop
 /-- a function that takes a token with one of its boxes,or leaves one there: which box,which cell,what kind -/
 t:Nat->List (List AV)->Option (Nat×Nat×Nat)->List (Option AV)->AV->List (List AV)->Option (Nat×Nat×Nat)->Prop
 /-- a function that yields a pointer into one of its boxes: which,where -/
 r:Nat->List (List AV)->List (Option AV)->Nat->Nat->Prop
def de(h:Bool) (s:S):List bD->Option (List (Option AV)×List Nat)
 |[]=>some ([],[])
 |x::r=>match bQ s x,de h s r with
  |some (.dat a _),some (as,bs)=>some (some a::as,bs)
  |some (.rp cs),some (as,bs)=>some (some (.ref cs)::as,bs)
  |some (.ptr b 0),some (as,bs)=>some (none::as,b::bs)
  |some (.pt 0 [(b,0)]),some (as,bs)=>bif h then some (some .hole::as,b::bs)else none
  |_,_=>none
def qz:List (Option AV)->Bool
 |[]=>true
 |some .hole::_=>false
 |some _::r=>qz r
 |none::r=>qz r
theorem CB{a:AV} {r:List (Option AV)} (h:qz (some a::r)=true):a≠.hole/\qz r=true:=by
 cases a<;>first|exact⟨by simp,h⟩|(cases h)
def qA(s:S):List bD->Option (List (Nat×Nat))
 |[]=>some []
 |x::r=>match bQ s x,qA s r with
  |some (.ptr b o),some ps=>some ((b,o)::ps)
  |_,_=>none
def bh(l:List (Nat×cg)):List Nat->Option (List (List AV))
 |[]=>some []
 |b::bs=>match cm b l,bh l bs with
  |some x,some css=>some (x.cells::css)
  |_,_=>none
def dU(l:List (Nat×cg)):List Nat->Option (List (List AV))
 |[]=>some []
 |b::bs=>match cm b l,dU l bs with
  |some ⟨cs,[]⟩,some css=>some (cs::css)
  |_,_=>none
def dc:List Nat->List (List AV)->List (Nat×cg)->List (Nat×cg)
 |b::bs,cs::css,l=>dc bs css (nZ b ⟨cs,[]⟩ l)
 |_,_,l=>l
def Ef(b o q:Nat):List (Nat×cg)->List (Nat×cg)
 |[]=>[]
 |(k,x)::r=>bif b==k then(k,⟨x.cells,[(o,q)]⟩)::r else(k,x)::Ef b o q r
def VY(bx:List (Nat×cg)) (lv:List (Nat×Nat)) (ids:List Nat):Option (Nat×Nat×Nat)->Option (Option Nat)
 |none=>some none
 |some (j,o,e)=>(ids[j]?).bind fun b=>(cm b bx).bind fun x=>(er o x.tags).bind fun q=>if er q lv=some e then some (some q)else none
def HG(id:Nat) (ids:List Nat):Option (Nat×Nat×Nat)->List (Nat×cg)->List (Nat×cg)
 |none,l=>l
 |some (j,o,_),l=>match ids[j]? with
  |some b=>Ef b o id l
  |none=>l
def Om(id:Nat):Option (Nat×Nat×Nat)->List (Nat×Nat)->List (Nat×Nat)
 |none,l=>l
 |some (_,_,e),l=>(id,e)::l
def HH:Option Nat->List (Nat×Nat)->List (Nat×Nat)
 |none,l=>l
 |some q,l=>mq q l
def E9(C:bz) (f:Nat) (css:List (List AV)) (as:List (Option AV)) (ids:List Nat) (id:Nat) (bx:List (Nat×cg)) (lv:List (Nat×Nat)) (k:SV->List (Nat×cg)->List (Nat×Nat)->Prop):Prop:=
 ∃tg r css' tg',C.t f css tg as r css' tg'/\aj (VY bx lv ids tg) fun qo=>k (.dat r none) (HG id ids tg' (dc ids css' bx)) (Om id tg' (HH qo lv))
def ov(b:Nat) (cs:List AV):SV->SV
 | .ptr b' o=>bif b'==b then .rp (cs.drop o)else .ptr b' o
 |v=>v
def yp(b:Nat) (cs:List AV):List (Nat×SV)->List (Nat×SV)
 |[]=>[]
 |(t,v)::r=>(t,ov b cs v)::yp b cs r
def lg:Nat->List (Nat×cg)->List (Nat×cg)
 |_,[]=>[]
 |n,(m,v)::r=>bif n==m then lg n r else(m,v)::lg n r
def iB:List Nat->List (List AV)->S->S
 |b::bs,cs::css,s=>iB bs css {s with slots:=yp b cs s.slots,boxes:=lg b s.boxes}
 |_,_,s=>s
theorem xQ:∀{ids:List Nat} {css:List (List AV)} {s:S},(iB ids css s).nx=s.nx
 |[],css,s=>rfl
 |b::bs,[],s=>rfl
 |b::bs,cs::css,s=>by rw[iB,xQ]
def lZ:List (Option AV)->List (List AV)->List AV
 |some a::as,css=>a::lZ as css
 |none::as,cs::css=>.ref cs::lZ as css
 |_,_=>[]
def jE:List Nat->Bool
 |[]=>true
 |b::bs=>decide (4<=b)&&jE bs
def cU:List Nat->Bool
 |[]=>true
 |b::bs=>!bs.contains b&&cU bs
def rowsOf:AV->Option (List (List AV))
 | .bM=>some []
 | .sl xs=>some xs
 |_=>none
def bJ(C:bz) (id:Nat) (o:bT) (K:SV->S->Prop) (s:S):Prop:=
 match o with
 | .mv x=>aj (bQ s x) fun v=>K v s
 | .pick c a b=>aj (aR s c) fun
   | .bool t=>aj (bQ s a) fun u=>aj (bQ s b) fun v=>(t=true->K u s)/\(t=false->K v s)
   |_=>False
 | .alloc cs=>K (.ptr id 0) {s with boxes:=(id,⟨cs,[]⟩)::s.boxes}
 | .box x=>aj (aR s x) fun a=>jD a none=true/\K (.ptr id 0) {s with boxes:=(id,⟨a.cells,[]⟩)::s.boxes}
 | .build zs parts=>aj (jf s parts) fun ps=>K (.dat (.agg (iA zs ps)) none) s
 | .gw e z xs=>aj (lY s z xs) fun rows=>K (.dat (.sl rows) (some id)) {s with live:=(id,e)::s.live}
 | .ld x sz=>aj (bQ s x) fun
   | .ptr b off=>aj (cm b s.boxes) fun bx=>aj (bG bx.cells off sz) fun a=>
     K (.dat a (match sz with|none=>er off bx.tags|some _=>none)) s
   | .rp cs=>aj (bG cs 0 sz) fun a=>K (.dat a none) s
   |_=>False
 | .st x v sz=>aj (bQ s x) fun
   | .ptr b off=>aj (cm b s.boxes) fun bx=>aj (bQ s v) fun
     | .dat a q=>jD a q=true/\a.cells.length=sz/\off+sz<=bx.cells.length/\
       K .undef {s with boxes:=nZ b ⟨setCells bx.cells off a.cells,match q with|some q=>(off,q)::bx.tags.filter (fun p=>p.1<off||off+sz<=p.1)|none=>bx.tags.filter (fun p=>p.1<off||off+sz<=p.1)⟩ s.boxes}
     |_=>False
   |_=>False
 | .fa x off=>aj (bQ s x) fun
   | .ptr b o=>K (.ptr b (o+off)) s
   | .rp cs=>K (.rp (cs.drop off)) s
   | .pt 2 ps=>K (.pt 2 (ps.drop off)) s
   |_=>False
 | .Ay x i n z=>aj (bQ s x) fun p=>aj (aR s i) fun a=>aj (idxOf a) fun i=>(0<=i/\i<n)/\
   match p with
   | .ptr b o=>K (.ptr b (o+i.toNat*z)) s
   | .rp cs=>K (.rp (cs.drop (i.toNat*z))) s
   |_=>False
 | .Bl x i z=>aj (aR s x) fun l=>aj (aR s i) fun a=>aj (idxOf a) fun i=>aj (rowsOf l) fun xs=>(0<=i/\i<xs.length)/\aj (xs[i.toNat]?) fun row=>row.length=z/\K (.rp row) s
 | .Sd x off sz=>aj (aR s x) fun
   | .agg cs=>aj (bG cs off sz) fun a=>K (.dat a none) s
   |_=>False
 | .K1 x i n z sz=>aj (aR s x) fun
   | .agg cs=>aj (aR s i) fun a=>aj (idxOf a) fun i=>(0<=i/\i<n)/\aj (bG cs (i.toNat*z) sz) fun a=>K (.dat a none) s
   |_=>False
 | .bin op x y=>aj (aR s x) fun a=>aj (aR s y) fun b=>aj (ep op a b) fun v=>K (.dat v none) s
 | .eqc ks neg x y=>aj (aR s x) fun
   | .agg as=>aj (aR s y) fun
    | .agg bs=>aj (bn ks as bs) fun e=>K (.dat (.bool (e !=neg)) none) s
    |_=>False
   |_=>False
 | .bb neg x y=>aj (aR s x) fun a=>aj (aR s y) fun b=>aj (RH neg a b) fun v=>K (.dat v none) s
 | .un op x=>aj (aR s x) fun a=>aj (Oi op a) fun v=>K (.dat v none) s
 | .kF k x=>aj (aR s x) fun a=>aj (AA k a) fun v=>K (.dat v none) s
 | .Ah k x=>aj (aR s x) fun a=>aj (yj k a) fun v=>K (.dat v none) s
 | .Bm k x=>aj (aR s x) fun a=>aj (uC k a) fun v=>K (.dat v none) s
 | .Bn x=>aj (bQ s x) fun v=>K v s
 | .nC x=>aj (aR s x) fun a=>aj (Cz a) fun v=>K (.dat v none) s
 | .HC n=>K (.dat (.int .i64 n) none) s
 | .app e z bytes x y=>aj (bQ s x) fun
   | .dat a q=>aj (rowsOf a) fun xs=>aj (aR s y) fun b=>aj (rowsOf b) fun ys=>
     (xs.length+ys.length)*bytes<=140737488355328/\(∀r∈xs,r.length=z)/\(∀r∈ys,r.length=z)/\
     (match a,q with
      | .bM,_=>if ys=[]then K (.dat .bM none) s else K (.dat (.sl (xs++ys)) (some id)) {s with live:=(id,e)::s.live}
      | .sl _,some q=>er q s.live=some e/\K (.dat (.sl (xs++ys)) (some id)) {s with live:=(id,e)::mq q s.live}
      |_,_=>False)
   |_=>False
 | .call f args=>aj (dA s args) fun as=>∃r fr,C.c f as r fr/\K (.dat r (fr.map fun _=>id)) {s with live:=match fr with|some e=>(id,e)::s.live|none=>s.live}
 | .aB f args=>aj (de true s args) fun p=>cU p.2=true/\aj (bh s.boxes p.2) fun css=>
   ∃r fr css',C.p f css p.1 r fr css'/\K (.dat r (fr.map fun _=>id)) {s with boxes:=dc p.2 css' s.boxes,live:=match fr with|some e=>(id,e)::s.live|none=>s.live}
 | .eS g args=>aj (aR s g) fun
   | .fn (.func f) first caps=>aj (dA s args) fun as=>∃r fr,C.c f (first++as++caps) r fr/\K (.dat r (fr.map fun _=>id)) {s with live:=match fr with|some e=>(id,e)::s.live|none=>s.live}
   |_=>False
 | .ext x i=>aj (aR s x) fun a=>aj (HF a i) fun v=>K (.dat v none) s
 | .Bo fn first caps=>aj (dA s first) fun as=>aj (de false s caps) fun p=>(cU p.2&&jE p.2)=true/\aj (bh s.boxes p.2) fun css=>
   K (.dat (.fn fn as (lZ p.1 css)) none) (iB p.2 css s)
 | .HD z x lo hi=>aj (aR s x) fun a=>aj (rowsOf a) fun xs=>
   aj (yl s lo) fun l=>aj (ym s xs hi) fun h=>
   (0<=l/\l<=h/\h<=xs.length)/\(∀r∈xs,r.length=z)/\K (.dat (yo a xs l h) none) s
 | .nc x=>aj (bQ s x) fun
   | .ptr b o=>K (.ptr b o) s
   | .rp cs=>K (.rp cs) s
   | .dat (.fn (.func f) as bs) q=>K (.dat (.fn (.func f) as bs) q) s
   | .dat (.ref cs) _=>K (.rp cs) s
   |_=>False
 | .mm mx args=>aj (dA s args) fun
   |[]=>False
   |a::r=>aj (r.foldlM (NM mx) a) fun v=>K (.dat v none) s
 | .xt e x=>aj (aR s x) fun a=>aj (RI e a) fun v=>K (.dat v none) s
 | .Gd x n z=>aj (bQ s x) fun
   | .rp cs=>n*z<=cs.length/\K (.dat (.sl (cN z n cs)) none) s
   | .ptr b off=>4<=b/\aj (cm b s.boxes) fun bx=>n*z<=(bx.cells.drop off).length/\K (.dat (.sl (cN z n (bx.cells.drop off))) none) (iB [b] [bx.cells] s)
   |_=>False
 | .NK neg x=>aj (aR s x) fun a=>aj (CA neg a) fun b=>K (.dat (.bool b) none) s
 | .gN g args=>aj (aR s g) fun
   | .fn (.func f) [] []=>aj (de true s args) fun p=>cU p.2=true/\aj (bh s.boxes p.2) fun css=>
     ∃r fr css',C.p f css p.1 r fr css'/\K (.dat r (fr.map fun _=>id)) {s with boxes:=dc p.2 css' s.boxes,live:=match fr with|some e=>(id,e)::s.live|none=>s.live}
   |_=>False
 | .yg f args=>aj (de true s args) fun p=>cU p.2=true/\aj (dU s.boxes p.2) fun css=>
   ∃r,C.p f css p.1 r none css/\K (.dat r none) s
 | .qx g args=>aj (aR s g) fun
   | .fn (.func f) [] []=>aj (de true s args) fun p=>cU p.2=true/\aj (dU s.boxes p.2) fun css=>
     ∃r,C.p f css p.1 r none css/\K (.dat r none) s
   |_=>False
 | .Sf x n z hi=>aj (bQ s x) fun
   | .ptr b off=>aj (aR s hi) fun a=>aj (idxOf a) fun h=>(0<=h/\h<=n)/\K (.vs b off h.toNat z) s
   |_=>False
 | .Bp e z bytes y x=>aj (bQ s y) fun
   | .vs b off n z'=>aj (bQ s x) fun
     | .ptr b' _=>(b'=b/\z'=z)/\aj (cm b s.boxes) fun bx=>(n*z<=(bx.cells.drop off).length/\n*bytes<=140737488355328)/\
       (if n=0 then K (.dat .bM none) s else K (.dat (.sl (cN z n (bx.cells.drop off))) (some id)) {s with live:=(id,e)::s.live})
     |_=>False
   |_=>False
 | .Se x i=>aj (aR s x) fun
   | .str b=>aj (aR s i) fun a=>aj (idxOf a) fun j=>aj (E8 b j) fun v=>K (.dat v none) s
   |_=>False
 | .jX x sz=>aj (bQ s x) fun
   | .pt 2 ps=>match sz,ps with
    |none,(b,o)::_=>K (.ptr b o) s
    |some n,ps=>n<=ps.length/\K (.pt 0 (ps.take n)) s
    |_,_=>False
   |_=>False
 | .tj f args=>aj (de true s args) fun p=>cU p.2=true/\aj (bh s.boxes p.2) fun css=>
   ∃v css',C.q f css p.1 v css'/\K (.dat v none) {s with boxes:=dc p.2 css' s.boxes}
def yq(q n:Nat) (a:AV) (id:Nat):SV->SV
 | .raw q' n'=>bif q'==q&&n'==n then .dat a (some id)else .raw q' n'
 |v=>v
def Ak(q n:Nat) (a:AV) (id:Nat):List (Nat×SV)->List (Nat×SV)
 |[]=>[]
 |(t,v)::r=>(t,yq q n a id v)::Ak q n a id r
def tn(b:Nat) (ps:List (Nat×Nat)):SV->SV
 | .ptr b' o=>bif b'==b then .pt 2 (ps.drop o)else .ptr b' o
 |v=>v
def tq(b:Nat) (ps:List (Nat×Nat)):List (Nat×SV)->List (Nat×SV)
 |[]=>[]
 |(t,v)::r=>(t,tn b ps v)::tq b ps r
def bI(C:bz) (id:Nat) (o:D7) (K:SV->S->Prop) (X:AV->S->Prop) (s:S):Prop:=
 match o with
 | .o c=>bJ C id c K s
 | .call f args=>bJ C id (.call f args) K s\/(aj (dA s args) fun as=>(∃cs,C.n f as cs/\K (.ptr id 0) {s with boxes:=(id,⟨cs,[]⟩)::s.boxes})\/∃p,C.q f [] (as.map some) p []/\X p s)
 | .aB f args=>bJ C id (.aB f args) K s\/aj (de true s args) fun p=>cU p.2=true/\aj (bh s.boxes p.2) fun css=>
   (∃v css',C.q f css p.1 v css'/\X v {s with boxes:=dc p.2 css' s.boxes})\/E9 C f css p.1 p.2 id s.boxes s.live fun v bx lv=>K v {s with boxes:=bx,live:=lv}
 | .eS b g args=>match bQ s g with
   |some (.ot f as bs)=>aj (de true s args) fun p=>cU (p.2++bs)=true/\aj (bh s.boxes (p.2++bs)) fun css=>
     (∃r fr css',C.p f css (p.1++as) r fr css'/\K (.dat r (fr.map fun _=>id)) {s with boxes:=dc (p.2++bs) css' s.boxes,live:=match fr with|some e=>(id,e)::s.live|none=>s.live})\/
     (∃v css',C.q f css (p.1++as) v css'/\X v {s with boxes:=dc (p.2++bs) css' s.boxes})\/E9 C f css (p.1++as) (p.2++bs) id s.boxes s.live fun v bx lv=>K v {s with boxes:=bx,live:=lv}
   |_=>bJ C id (if b then .gN g args else .eS g args) K s
 | .Sg f caps=>aj (de false s caps) fun p=>K (.ot f p.1 p.2) s
 | .Hx x=>aj (aR s x) fun a=>jn a=true/\X a s
 | .Hy t x=>aj (aR s x) fun a=>jD a none=true/\K (.dat (.iface t a) none) s
 | .NL t z x=>aj (aR s x) fun a=>aj (Ee t z a) fun v=>K (.dat v none) s
 | .RD neg x=>aj (aR s x) fun a=>aj (Gg neg a) fun b=>K (.dat (.bool b) none) s
 | .K2 neg x=>aj (bQ s x) fun v=>aj (Aj neg v) fun b=>K (.dat (.bool b) none) s
 | .RE e bytes l c=>aj (aR s l) fun a=>aj (idxOf a) fun l=>aj (aR s c) fun b=>aj (idxOf b) fun c=>(0<=l/\l<=c/\c*bytes<=140737488355328)/\K (.raw id l.toNat) {s with live:=(id,e)::s.live}
 | .RF e x y=>aj (bQ s x) fun
   | .raw q n=>aj (aR s y) fun b=>aj (rowsOf b) fun ys=>(ys.length=n/\∀r∈ys,r.length=1)/\er q s.live=some e/\
     K (.dat (.int .i64 n) none) {s with slots:=Ak q n (.sl ys) id s.slots,live:=(id,e)::mq q s.live}
   |_=>False
 | .Ge x=>aj (bQ s x) fun
   | .ptr b o=>K (.pt 0 [(b,o)]) s
   |_=>False
 | .tc x=>aj (bQ s x) fun
   | .pt 0 ps=>K (.pt 2 ps) s
   |_=>False
 | .RG x v=>aj (bQ s x) fun
   | .ptr b 0=>aj (bQ s v) fun
     | .pt 0 ps=>aj (cm b s.boxes) fun y=>(4<=b/\y.cells.length=1/\ps.length=1)/\K .undef {s with slots:=tq b ps s.slots,boxes:=lg b s.boxes}
     |_=>False
   |_=>False
 | .Bq xs=>aj (qA s xs) fun ps=>K (.pt 1 ps) s
 | .K3 x i=>aj (bQ s x) fun
   | .pt 1 ps=>aj (aR s i) fun a=>aj (idxOf a) fun i=>(0<=i/\i<ps.length)/\K (.pt 2 (ps.drop i.toNat)) s
   |_=>False
 | .K4 x=>aj (bQ s x) fun
   | .pt 1 ps=>K (.dat (.int .i64 ps.length) none) s
   |_=>False
 | .Az g args=>aj (aR s g) fun
   | .fn (.func f) [] []=>aj (de true s args) fun p=>cU p.2=true/\aj (bh s.boxes p.2) fun css=>∃j o b,C.r f css p.1 j o/\p.2[j]? =some b/\K (.ptr b o) {s with boxes:=dc p.2 css s.boxes}
   |_=>False
def ee(s:S) (g:Option (Nat×Bool)) (yes no:Prop):Prop:=
 match g with
 |none=>yes
 |some (t,want)=>match lk t s.slots with
  |some (.dat (.bool b) _)=>(b=want->yes)/\(b=!want->no)
  |some .undef=>no
  |_=>False
def jg(C:bz) (base:Nat):Nat->List CO->(S->Prop)->S->Prop
 |_,[],K,s=>K s
 |i,o::r,K,s=>ee s o.g
   (bJ C (base+i) o.op (fun v s'=>jg C base (i+1) r K (s'.put o.dst v)) s)
   (jg C base (i+1) r K (s.put o.dst .undef))
def eJ(C:bz) (base:Nat):Nat->List XO->(S->Prop)->(AV->S->Prop)->S->Prop
 |_,[],K,_,s=>K s
 |i,o::r,K,X,s=>ee s o.g
   (bI C (base+i) o.op (fun v s'=>eJ C base (i+1) r K X (s'.put o.dst v)) X s)
   (eJ C base (i+1) r K X (s.put o.dst .undef))
def jZ(k:S->Prop) (Q:Exit->S->Prop):Exit->S->Prop
 | .normal,s=>k s
 |e,s=>Q e s
def gO(id:Nat) (Q:Exit->S->Prop):Exit->S->Prop
 | .exit id',s=>if id'=id then Q .normal s else Q (.exit id') s
 |e,s=>Q e s
def Cw(m:List (Nat×Nat)) (q:Nat):Nat:=(er q m).getD q
def ef(m:List (Nat×Nat)) (nx:Nat):SV->SV->Prop
 | .dat a _,.dat a' none=>a=a'
 | .dat a (some q),.dat a' (some q')=>a=a'/\q=Cw m q'/\q'<nx
 | .ptr b o,.ptr b' o'=>b=b'/\o=o'/\b'<nx
 | .rp cs,.rp cs'=>cs=cs'
 | .undef,.undef=>True
 | .ot f as bs,.ot f' as' bs'=>f=f'/\as=as'/\bs=bs'/\∀b∈bs',b<nx
 | .pt k ps,.pt k' ps'=>k=k'/\ps=ps'/\∀p∈ps',p.1<nx
 |_,_=>False
def i4(m:List (Nat×Nat)) (nx:Nat) (a:List (Nat×SV)):List (Nat×SV)->Prop
 |[]=>True
 |(t,v)::r=>aj (lk t a) (fun u=>ef m nx u v)/\i4 m nx a r
def lQ(m:List (Nat×Nat)) (nx:Nat) (a:List (Nat×Nat)):List (Nat×Nat)->Prop
 |[]=>True
 |(o,q)::r=>(er o a=some (Cw m q)/\q<nx)/\lQ m nx a r
def i5(m:List (Nat×Nat)) (nx:Nat) (a:List (Nat×cg)):List (Nat×cg)->Prop
 |[]=>True
 |(b,x)::r=>aj (cm b a) (fun y=>y.cells=x.cells/\lQ m nx y.tags x.tags/\b<nx)/\i5 m nx a r
def jF(m:List (Nat×Nat)) (nx:Nat) (a:List (Nat×Nat)):List (Nat×Nat)->Prop
 |[]=>True
 |(q,e)::r=>(er (Cw m q) a=some e/\q<nx)/\jF m nx a r
def bR(m:List (Nat×Nat)) (l:List (Nat×Nat)):Prop:=((l.map fun p=>Cw m p.1).Nodup)
def Le(s s1:S):Prop:=
 4<=s1.nx/\∃m,i4 m s1.nx s.slots s1.slots/\i5 m s1.nx s.boxes s1.boxes/\jF m s1.nx s.live s1.live/\bR m s1.live
def down(F:S->Prop) (s:S):Prop:=∃s1,Le s s1/\F s1\/F s
theorem gA{F:S->Prop} {s:S} (h:F s):down F s:=⟨s,.inr h⟩
def nG(F:(Exit->S->Prop)->S->Prop) (Q:Exit->S->Prop):Nat->S->Prop
 |0,_=>False
 |n+1,s=>F (jZ (down (nG F Q n)) Q) s
def bD.rd:bD->List Nat
 | .t n=>[n]
 | .k _=>[]
def Fa:Option bD->List Nat
 |some x=>x.rd
 |none=>[]
def bk:List bD->List Nat
 |[]=>[]
 |x::r=>x.rd++bk r
def uF:List (Nat×Nat×bD)->List Nat
 |[]=>[]
 |(_,_,x)::r=>x.rd++uF r
def bT.rd:bT->List Nat
 | .mv x=>x.rd
 | .pick c a b=>c.rd++a.rd++b.rd
 | .alloc _=>[]
 | .box x=>x.rd
 | .build _ ps=>uF ps
 | .gw _ _ xs=>bk xs
 | .ld x _=>x.rd
 | .st x v _=>x.rd++v.rd
 | .fa x _=>x.rd
 | .Ay x i _ _=>x.rd++i.rd
 | .Bl x i _=>x.rd++i.rd
 | .Sd x _ _=>x.rd
 | .K1 x i _ _ _=>x.rd++i.rd
 | .bin _ x y=>x.rd++y.rd
 | .eqc _ _ x y=>x.rd++y.rd
 | .bb _ x y=>x.rd++y.rd
 | .un _ x=>x.rd
 | .kF _ x=>x.rd
 | .Ah _ x=>x.rd
 | .Bm _ x=>x.rd
 | .Bn x=>x.rd
 | .nC x=>x.rd
 | .HC _=>[]
 | .app _ _ _ x y=>x.rd++y.rd
 | .call _ args=>bk args
 | .aB _ args=>bk args
 | .eS g args=>g.rd++bk args
 | .ext x _=>x.rd
 | .Bo _ a b=>bk a++bk b
 | .HD _ x lo hi=>x.rd++Fa lo++Fa hi
 | .nc x=>x.rd
 | .mm _ args=>bk args
 | .xt _ x=>x.rd
 | .Gd x _ _=>x.rd
 | .Se x i=>x.rd++i.rd
 | .NK _ x=>x.rd
 | .gN g args=>g.rd++bk args
 | .yg _ args=>bk args
 | .qx g args=>g.rd++bk args
 | .Sf x _ _ hi=>x.rd++hi.rd
 | .Bp _ _ _ y x=>y.rd++x.rd
 | .jX x _=>x.rd
 | .tj _ args=>bk args
def bT.isApp:bT->Bool
 | .app ..=>true
 |_=>false
def bT.tr:bT->List Nat
 | .ld x _=>x.rd
 | .st x _ _=>x.rd
 | .aB _ args=>bk args
 | .gN _ args=>bk args
 | .yg _ args=>bk args
 | .qx _ args=>bk args
 | .tj _ args=>bk args
 | .Bo _ _ b=>bk b
 | .Gd x _ _=>x.rd
 | .Bp _ _ _ _ x=>x.rd
 |_=>[]
def bT.Fb:bT->List Nat
 | .st x _ _=>x.rd
 | .aB _ args=>bk args
 | .tj _ args=>bk args
 | .gN _ args=>bk args
 | .Bo _ _ b=>bk b
 | .Gd x _ _=>x.rd
 |_=>[]
def bT.wS:bT->Bool
 | .Bo _ _ b=>!b.isEmpty
 | .Gd ..=>true
 |_=>false
def bT.qB:bT->List Nat
 | .mv x| .fa x _| .Ay x _ _ _| .nc x| .Bn x| .jX x _=>x.rd
 | .pick _ a b=>a.rd++b.rd
 |_=>[]
def bT.HI:bT->Bool
 | .alloc _| .box _=>true
 |_=>false
def bT.ro:bT->bT
 | .aB f args=>.yg f args
 | .gN g args=>.qx g args
 |o=>o
def CO.ro(o:CO):CO:=⟨o.dst,o.op.ro,o.g⟩
def nA(ro:List Nat):Nat->List CO->List CO
 |_,[]=>[]
 |i,o::r=>(bif ro.contains i then o.ro else o)::nA ro (i+1) r
theorem oZ:∀{i:Nat} {l:List CO},nA [] i l=l
 |_,[]=>rfl
 |i,o::l=>by show o::nA [] (i+1) l=_;rw[oZ]
def vS(k:Nat) (dep:List Nat) (i:Nat) (o:CO):CO:=
 if i=k then(match o.op with| .aB f args=>⟨o.dst,.tj f args,o.g⟩|_=>o)else if dep.contains i=true then⟨none,.mv (.k .mj),none⟩else o
def mu(k:Nat) (dep:List Nat):Nat->List CO->List CO
 |_,[]=>[]
 |i,o::r=>vS k dep i o::mu k dep (i+1) r
def CO.rd(o:CO):List Nat:=o.op.rd++(match o.g with|some (t,_)=>[t]|none=>[])
abbrev Tag:=Option (Option Nat)
def Tag.Am:Tag->Nat->Bool
 |none,_=>true
 |some z,b=>z==some b
def Tag.VZ:Tag->Tag->Bool
 |some none,_=>true
 |_,some none=>true
 |some (some a),some (some b)=>a !=b
 |_,_=>false
def look:List (Nat×Tag)->Nat->Tag
 |[],_=>none
 |(t,z)::r,n=>bif n==t then z else look r n
def CO.indep(x y:CO):Bool:=
 (match x.dst with|some d=>!y.rd.contains d&&y.dst !=some d|none=>true)&&
 (match y.dst with|some d=>!x.rd.contains d|none=>true)&& !(x.op.isApp&&y.op.isApp)
def CO.half(T:List (Nat×Tag)) (x y:CO):Bool:=
 x.op.Fb.all fun t=>y.op.tr.all (fun u=>(look T t).VZ (look T u))&&(!x.op.wS||y.rd.all fun u=>(look T t).VZ (look T u))
def CO.qC(T:List (Nat×Tag)) (x y:CO):Bool:=x.indep y&&x.half T y&&y.half T x
def CO.apart(x y:CO):Bool:=x.qC [] y
def NN(T:List (Nat×Tag)):List Nat->Tag
 |[]=>some none
 |[t]=>look T t
 |t::r=>if look T t==NN T r then look T t else none
def HJ(T:List (Nat×Tag)) (base:Nat):Nat->List CO->List (Nat×Tag)
 |_,[]=>T
 |i,o::r=>HJ (match o.dst with|some t=>(t,if o.op.HI then some (some (base+i))else NN T o.op.qB)::T|none=>T) base (i+1) r
def vT:List (Nat×SV)->List (Nat×Tag)
 |[]=>[]
 |(t,.ptr b _)::r=>(t,some (some b))::vT r
 |(t,.pt _ [(b,_)])::r=>(t,some (some b))::vT r
 |(t,.pt _ _)::r=>(t,none)::vT r
 |(t,_)::r=>(t,some none)::vT r
def nH(T:List (Nat×Tag)):List (Nat×SV)->Bool
 |[]=>true
 |(t,.ptr b _)::r=>(look T t).Am b&&nH T r
 |(t,.pt _ ps)::r=>(ps.all fun p=>(look T t).Am p.1)&&nH T r
 |(_,_)::r=>nH T r
def o3(T:List (Nat×Tag)) (id:Nat) (o:CO):Bool:=
 match o.dst with
 |none=>true
 |some t=>match look T t with
  |none=>true
  |some z=>if o.op.HI then z==some id else o.op.qB.all fun u=>match look T u with|some z'=>z'==none||z'==z|none=>false
def kX(T:List (Nat×Tag)) (base:Nat):Nat->List CO->Bool
 |_,[]=>true
 |i,o::r=>o3 T (base+i) o&&kX T base (i+1) r
def uG(T:List (Nat×Tag)) (ops:List CO):List (Nat×Nat)->Bool
 |[]=>true
 |(i,j)::r=>(match ops[i]?,ops[j]? with|some x,some y=>x.qC T y|_,_=>false)&&uG T ops r
def K6(T:List (Nat×Tag)) (ops:List CO) (dQ:List (Nat×Nat)) (base:Nat) (sl:List (Nat×SV)):Bool:=nH T sl&&kX T base 0 ops&&uG T ops dQ
def qD(ops:List CO) (dQ:List (Nat×Nat)) (base:Nat) (sl:List (Nat×SV)):Bool:=K6 (HJ (vT sl) base 0 ops) ops dQ base sl
def qE:List Nat->List AV->S->S
 |p::ps,x::xs,s=>qE ps xs (s.put (some p) (.dat x none))
 |_,_,s=>s
def nD(wr:List Nat):List (Nat×SV)->List (Nat×SV)
 |[]=>[]
 |(t,v)::r=>bif wr.contains t then nD wr r else(t,v)::nD wr r
def tf(wr:List Nat) (s:S):S:={s with slots:=nD wr s.slots}
def Fc(wr:List Nat) (F:S->Prop) (Q:Exit->S->Prop):Exit->S->Prop
 | .normal,s=>down F (tf wr s)
 | .ret,s=>Q .ret (tf wr s)
 | .exit id,s=>Q (.exit id) (tf wr s)
 |_,_=>False
def uH(K:S->Prop):Exit->S->Prop
 | .normal,s=>K s
 |_,_=>False
def mM(l:Nat) (K:S->Prop) (Q:Exit->S->Prop):Exit->S->Prop
 | .goto l',s=>l'=l/\K s
 |e,s=>Q e s
def xI(Q:Exit->S->Prop):Exit->S->Prop
 | .goto _,_=>False
 |e,s=>Q e s
def Gh(C:bz) (ops:List CO) (dQ:List (Nat×Nat)) (K:S->Prop) (s:S):Prop:=
 ∃ro,qD (nA ro 0 ops) dQ s.nx s.slots=true/\jg C s.nx 0 (nA ro 0 ops) K s
def On(C:bz) (ops:List CO) (dQ:List (Nat×Nat)) (k:Nat) (dep:List Nat) (ds:List Nat) (X:AV->S->Prop) (s:S):Prop:=
 qD (mu k dep 0 ops) dQ s.nx s.slots=true/\jg C s.nx 0 (mu k dep 0 ops) (fun s'=>∃d p,(ops[k]?).bind CO.dst=some d/\lk d s'.slots=some (.dat p none)/\X p (tf ds s')) s
def aw(C:bz):bp->(Exit->S->Prop)->S->Prop
 | .skip,Q,s=>Q .normal s
 | .Cv ops,Q,s=>jg C s.nx 0 ops (fun s'=>Q .normal {s' with nx:=s.nx+ops.length}) s
 | .seq a b,Q,s=>aw C a (jZ (aw C b Q) Q) s
 | .join a b,Q,s=>aw C a (jZ (down (aw C b Q)) Q) s
 | .cond c a b,Q,s=>aj (aR s c) fun
   | .bool t=>(t=true->aw C a Q s)/\(t=false->aw C b Q s)
   |_=>False
 | .block id c,Q,s=>aw C c (gO id Q) s
 | .loop c,Q,s=>down (fun s=>∃n,nG (aw C c) Q n s) s
 | .exit id,Q,s=>Q (.exit id) s
 | .ret,Q,s=>Q .ret s
 | .scope l c r,Q,s=>aw C c (mM l (aw C r (xI Q)) Q) s
 | .label _,Q,s=>Q .normal s
 | .goto l,Q,s=>Q (.goto l) s
 | .aO ops,Q,s=>eJ C s.nx 0 ops (fun s'=>Q .normal {s' with nx:=s.nx+ops.length}) (fun p s'=>Q (.panic (dS p)) {s' with nx:=s.nx+ops.length}) s
 | .qm ops dQ,Q,s=>∃ids,(cU ids&&jE ids)=true/\aj (bh s.boxes ids) fun css=>Gh C ops dQ (fun s'=>Q .normal {s' with nx:=s.nx+ops.length}) (iB ids css s)
 | .xH ops dQ k dep,Q,s=>(∃ids,(cU ids&&jE ids)=true/\aj (bh s.boxes ids) fun css=>Gh C ops dQ (fun s'=>Q .normal {s' with nx:=s.nx+ops.length}) (iB ids css s))\/
   On C ops dQ k dep (ops.flatMap fun o=>o.dst.toList) (fun p s'=>Q (.panic (dS p)) {s' with nx:=s.nx+ops.length}) s
 | .Ai g ps wr as bd,Q,s=>aj (aR s g) fun gv=>∃xs,C.i gv xs/\(∀x∈xs,x.length=ps.length)/\∃F:Nat->S->Prop,down (F 0) s/\(∀i s',F i s'->aR s' g=some gv)/\
   (∀i x s',xs[i]? =some x->F i s'->aw C as (uH (aw C bd (Fc wr (F (i+1)) Q))) (qE ps x s'))/\∀s',F xs.length s'->Q .normal s'
def fm(P:Program) (t:TypeId):Option Nat:=(P.info? t).map (·.size)
def nE(P:Program) (t:TypeId):Bool:=
 match P.underlying t with
 |some (.struct _)|some (.array _ _)=>true
 |_=>false
def uI(P:Program) (t:TypeId):Option (Option Nat):=
 match P.underlying t with
 |some (.struct _)|some (.array _ _)=>(fm P t).map some
 |some _=>some none
 |none=>none
def zeroOf(P:Program) (t:TypeId):Option (List AV):=
 match(P.info? t).bind (·.zero)with
 |some z=>z.cells.toList.mapM Gf
 |none=>none
def cq:Operand->Option bD
 | .tmp t=>some (.t t)
 | .const v=>(VX v).map .k
 | .func f=>some (.k (.fn (.func f) [] []))
 | .global _=>none
def ga(l:Array Operand):Option (List bD):=l.toList.mapM cq
def uJ(P:Program) (s:TypeId) (f:Nat):Option Field:=
 match P.underlying s with
 |some (.struct fs)=>fs[f]?
 |_=>none
def CC(P:Program) (rec:TypeId->Option (List CK)):List Field->Nat->Option (List CK)
 |[],_=>some []
 |f::fs,off=>
  if f.name = "_" ∨ f.offset ≠ off then none else
  match rec f.type with
  |some ks=>if fm P f.type=some ks.length/\0<ks.length then(CC P rec fs (off+ks.length)).map (ks++·)else none
  |none=>none
def mN(P:Program):Nat->TypeId->Option (List CK)
 |0,_=>none
 |d+1,t=>match P.underlying t with
  |some .bool=>some [.b]
  |some (.int _)=>some [.i]
  |some (.float _)=>some [.f]
  |some .string=>some [.s]
  |some (.struct fs)=>if P.stoodInHeld t then none else CC P (mN P d) fs.toList 0
  |some (.array n e)=>match mN P d e with
   |some ks=>if fm P e=some ks.length then some (List.replicate n ks).flatten else none
   |none=>none
  |_=>none
def Si(P:Program) (t:TypeId) (neg:Bool) (x y:bD):Option bT:=
 match mN P 20 t with
 |some ks=>if nE P t&& !P.eqGuardType P.depth t then some (.eqc ks neg x y)else none
 |none=>none
def Fe(P:Program) (t:TypeId):Bool:=
 match P.underlying t with
 |some (.int _)|some (.float _)=>true
 |_=>false
def HK(P:Program) (t:TypeId):Bool:=
 match P.underlying t with
 |some .bool=>true
 |_=>false
def bY(P:Program) (f:FuncId):Bool:=
 match P.funcs[f]? with
 | some fn => fn.name != "runtime.NumGoroutine" && fn.body.isSome
 |none=>false
def Ff(P:Program) (t:TypeId) (i:Nat):Option (Nat×Nat):=
 match P.underlying t with
 |some (.struct fs)=>match fs[i]? with
  |some f=>(fm P f.type).map fun z=>(f.offset,z)
  |none=>none
 |some (.array _ e)=>(fm P e).map fun z=>(i*z,z)
 |_=>none
def vU(P:Program) (t:TypeId):List (Nat×Operand)->Option (List (Nat×Nat×bD))
 |[]=>some []
 |(i,x)::r=>match Ff P t i,cq x,vU P t r with
  |some (o,z),some x,some ps=>some ((o,z,x)::ps)
  |_,_,_=>none
def sliceB(P:Program) (t:TypeId):Bool:=match P.underlying t with|some (.slice _)=>true|_=>false
def Bu(P:Program) (t:TypeId):Bool:=
 match P.underlying t with
 |some (.struct fs)=>fs.toList.all fun f=>(fm P f.type).isSome
 |some (.array _ e)=>(fm P e).isSome
 |_=>false
def qF(zs:Nat):List (Nat×Nat×bD)->Bool
 |[]=>true
 |(o,z,_)::r=>decide (o+z<=zs)&&qF zs r
def cOpt:Option Operand->Option (Option bD)
 |none=>some none
 |some x=>(cq x).map some
def CD(P:Program) (s d:TypeId) (x:bD):Option bT:=
 match P.underlying s,P.underlying d with
 |some (.int _),some (.int k)=>some (.kF k x)
 |some (.int _),some (.float k)=>some (.Ah k x)
 |some (.float _),some (.int k)=>some (.Bm k x)
 |_,_=>none
def xJ(P:Program) (t:TypeId):Bool:=match P.underlying t with|some (.pointer _)=>true|_=>false
def Eg(P:Program) (t:TypeId):Bool:=
 match P.underlying t with
 |some (.struct fs)=>match fs.toList with
  |[f]=>xJ P f.type&&f.offset==0&&fm P f.type==some 1
  |_=>false
 |_=>false
def o4(P:Program):List TypeId->Bool
 |[]=>false
 |t::r=>(xJ P t||Eg P t)||o4 P r
def Oo(P:Program) (f:FuncId):Option Xt:=
 match P.funcs[f]? with
 |some fn=>if fn.body.isNone&&(Extern.findNext fn).isNone then
   if fn.name == "math.Float64bits" then some .Aw
   else if fn.name == "math.Float64frombits" then some .ffrom
   else if fn.name == "math.RoundToEven" then some .rte
   else none
  else none
 |none=>none
def AB(P:Program) (c:Call):Option bT:=
 match c.callee with
 | .value (.func f)=>if bY P f then(ga c.args).map (if o4 P c.argTypes.toList then .aB f else .call f)
  else match Oo P f,c.args.toList with
   |some e,[x]=>(cq x).map (.xt e)
   |_,_=>none
 | .value g=>match cq g,ga c.args with
  |some g,some as=>some (if o4 P c.argTypes.toList then .gN g as else .eS g as)
  |_,_=>none
 | .builtin .len=>match c.argTypes[0]?,c.args[0]? with
  |some t,some x=>match P.underlying t with
   |some (.slice _)=>(cq x).map .nC
   |some (.array n _)=>some (.HC n)
   |_=>none
  |_,_=>none
 | .builtin .append=>match c.argTypes.toList,c.args.toList with
  |[t,t'],[x,y]=>if t=t' then match P.underlying t,cq x,cq y with
    |some (.slice e),some x,some y=>match P.info? e with
     |some i=>match i.zero with
      |some z=>if 0<i.size&&z.cells.size==i.size&&0<i.bytes then some (.app e i.size i.bytes x y)else none
      |none=>none
     |none=>none
    |_,_,_=>none
   else none
  |_,_=>none
 | .builtin .max=>(ga c.args).map (.mm true)
 | .builtin .min=>(ga c.args).map (.mm false)
 |_=>none
def KY(P:Program):Op->Option bT
 | .move x| .assign x=>(cq x).map .mv
 | .pick c a b=>match cq c,cq a,cq b with
  |some c,some a,some b=>some (.pick c a b)
  |_,_,_=>none
 | .alloc t=>(zeroOf P t).map .alloc
 | .box _ x=>(cq x).map .box
 | .build t ps=>match zeroOf P t,vU P t ps.toList with
  |some zs,some ps=>if qF zs.length ps&&Bu P t then some (.build zs ps)else none
  |_,_=>none
 | .buildSlice t n ps=>match P.underlying t with
  |some (.slice e)=>match zeroOf P e,fm P e,ps.toList.mapM (fun p=>cq p.2)with
   |some zs,some z,some xs=>if n*z<=16777216&&0<z&&zs.length==z&&ps.toList.map (·.1)==List.range n then some (.gw e z xs)else none
   |_,_,_=>none
  |_=>none
 | .load t x=>match uI P t,cq x with
  |some r,some x=>some (if xJ P t||Eg P t then .jX x r else .ld x r)
  |_,_=>none
 | .store t x v=>match fm P t,cq x,cq v with
  |some z,some x,some v=>some (.st x v z)
  |_,_,_=>none
 | .nilCheck x=>(cq x).map .nc
 | .binOp op t x y _=>match cq x,cq y with
  |some x,some y=>
   if Fe P t then some (.bin op x y)
   else if HK P t then(match op with| .eql=>some (.bb false x y)| .neq=>some (.bb true x y)|_=>none)
   else if sliceB P t then(match op,y with| .eql,.k .bM=>some (.NK false x)| .neq,.k .bM=>some (.NK true x)|_,_=>none)
   else match op with
    | .eql=>Si P t false x y
    | .neq=>Si P t true x y
    |_=>none
  |_,_=>none
 | .unOp op _ x=>(cq x).map (.un op)
 | .convert s d x=>(cq x).bind (CD P s d)
 | .fieldAddr s x f=>match uJ P s f,cq x with
  |some fd,some x=>if fm P fd.type==some 0||(fm P fd.type).isNone then none else some (.fa x fd.offset)
  |_,_=>none
 | .field s x f=>match uJ P s f,cq x with
  |some fd,some x=>(uI P fd.type).map (.Sd x fd.offset)
  |_,_=>none
 | .indexAddr t x i=>match P.underlying t,cq x,cq i with
  |some (.array n e),some x,some i=>(fm P e).map (.Ay x i n)
  |some (.slice e),some x,some i=>(fm P e).map (.Bl x i)
  |_,_,_=>none
 | .index t x i=>match P.underlying t,cq x,cq i with
  |some (.array n e),some x,some i=>match fm P e,uI P e with
   |some z,some r=>some (.K1 x i n z r)
   |_,_=>none
  |some .string,some x,some i=>some (.Se x i)
  |_,_,_=>none
 | .extract x i=>(cq x).map (.ext · i)
 | .makeFunc (.func f) a b=>match ga a,ga b with
  |some a,some b=>if bY P f then some (.Bo (.func f) a b)else none
  |_,_=>none
 | .slice t x lo hi none=>match P.underlying t,cq x,cOpt lo,cOpt hi with
  |some (.slice e),some x,some lo,some hi=>(fm P e).map fun z=>.HD z x lo hi
  |some (.array n e),some x,some none,some none=>(fm P e).map fun z=>.Gd x n z
  |some (.array n e),some x,some none,some (some hi)=>(fm P e).map fun z=>.Sf x n z hi
  |_,_,_,_=>none
 | .call c=>AB P c
 |_=>none
def Sj(P:Program) (ops:List Oper) (y:Nat):Option Operand:=
 match ops.find? (fun o=>o.dst==some y)with
 |some o=>match o.op with
  | .slice t x none (some _) none=>match P.underlying t with
   |some (.array _ _)=>some x
   |_=>none
  |_=>none
 |none=>none
def tR(P:Program) (ops:List Oper):Op->Option bT
 | .call c=>match c.callee,c.argTypes.toList,c.args.toList with
  | .builtin .append,[t,t'],[.const (.slice none 0 0),.tmp y]=>if t=t' then match P.underlying t,(Sj P ops y).bind cq with
    |some (.slice e),some x=>match P.info? e with
     |some i=>match i.zero with
      |some z=>if 0<i.size&&z.cells.size==i.size&&0<i.bytes then some (.Bp e i.size i.bytes (.t y) x)else none
      |none=>none
     |none=>none
    |_,_=>none
   else none
  |_,_,_=>none
 |_=>none
def Oq(ops:List Oper):Operand->Bool
 | .tmp y=>match ops.find? (fun o=>o.dst==some y)with
  |some o=>match o.op with
   | .fieldAddr .. | .indexAddr ..=>true
   |_=>false
  |none=>false
 |_=>false
def Gi(P:Program) (ops:List Oper):Op->Option bT
 | .load t x=>if xJ P t&& !Oq ops x then match uI P t,cq x with
   |some r,some x=>some (.ld x r)
   |_,_=>none
  else none
 |_=>none
def HL(P:Program) (ops:List Oper) (o:Op):Option bT:=
 match tR P ops o with
 |some c=>some c
 |none=>match Gi P ops o with
  |some c=>some c
  |none=>KY P o
def Bv(ops:Array Oper):Option (Nat×Bool)->Option (Option (Nat×Bool))
 |none=>some none
 |some (j,w)=>match(ops[j]?).bind (·.dst)with
  |some t=>some (some (t,w))
  |none=>none
def nI(P:Program) (ops:Array Oper) (o:Oper):Option CO:=
 match HL P ops.toList o.op,Bv ops o.guard with
 |some c,some g=>some ⟨o.dst,c,g⟩
 |_,_=>none
def tS(P:Program) (ops:Array Oper):List Oper->Option (List CO)
 |[]=>some []
 |o::r=>match nI P ops o,tS P ops r with
  |some c,some cs=>some (c::cs)
  |_,_=>none
def waits(ops:List Oper) (i:Nat) (oj:Oper):Bool:=
 oj.after.any fun e=>Region.binds .any e&&(e.on==i||match ops[e.on]? with
  |some ok=>ok.after.any fun e'=>Region.binds .any e'&&e'.on==i
  |none=>false)
def nJ(dQ:List (Nat×Nat)) (ops:List Oper) (i:Nat) (x:CO):Nat->List Oper->List CO->Bool
 |j,oj::os,y::ys=>(decide (j<=i)||oj.after.any (fun e=>Region.binds .any e&&e.on==i)||x.apart y||waits ops i oj||dQ.contains (i,j))&&nJ dQ ops i x (j+1) os ys
 |_,_,_=>true
def mO(dQ:List (Nat×Nat)) (ops:List Oper) (cos:List CO):Nat->List Oper->List CO->Bool
 |i,oi::os,x::xs=>oi.after.all (fun e=>!Region.binds .any e||decide (e.on<i))&&nJ dQ ops i x 0 ops cos&&mO dQ ops cos (i+1) os xs
 |_,_,_=>true
def jG(dQ:List (Nat×Nat)) (ops:List Oper) (cos:List CO):Bool:=mO dQ ops cos 0 ops cos
def HM(ops:List Oper) (i:Nat) (x:CO):Nat->List Oper->List CO->List (Nat×Nat)
 |j,oj::os,y::ys=>(if decide (j<=i)||oj.after.any (fun e=>Region.binds .any e&&e.on==i)||x.apart y||waits ops i oj then[]else[(i,j)])++HM ops i x (j+1) os ys
 |_,_,_=>[]
def xR(ops:List Oper) (cos:List CO):Nat->List CO->List (Nat×Nat)
 |i,x::xs=>HM ops i x 0 ops cos++xR ops cos (i+1) xs
 |_,[]=>[]
def Fg(cos:List CO):List (Nat×Nat)->Bool
 |[]=>true
 |(i,j)::r=>(match cos[i]?,cos[j]? with|some x,some y=>x.indep y|_,_=>false)&&Fg cos r
def zeroV(P:Program) (t:TypeId):Option AV:=((P.info? t).bind (·.zero)).bind VX
def o5(P:Program) (t:TypeId):Bool:=match P.underlying t with|some (.interface _)=>true|_=>false
def HN(P:Program) (c:Call):Option D7:=
 match c.callee with
 | .value (.func f)=>if bY P f then(ga c.args).map (if o4 P c.argTypes.toList then .aB f else .call f)else none
 | .value (.tmp g)=>(ga c.args).map (.eS (o4 P c.argTypes.toList) (.t g))
 | .builtin .copy=>match c.argTypes.toList,c.args.toList with
  |[t,_],[x,y]=>match P.underlying t,cq x,cq y with
   |some (.slice e),some x,some y=>if fm P e==some 1 then some (.RF e x y)else none
   |_,_,_=>none
  |_,_=>none
 |_=>none
def Sk(P:Program) (op:BinOp) (t:TypeId) (x y:Operand):Option D7:=
 match op,y with
 | .eql,.const .nilIface=>if o5 P t then(cq x).map (.RD false)else none
 | .neq,.const .nilIface=>if o5 P t then(cq x).map (.RD true)else none
 | .eql,.const (.pointer none)=>if xJ P t then(cq x).map (.K2 false)else none
 | .neq,.const (.pointer none)=>if xJ P t then(cq x).map (.K2 true)else none
 |_,_=>none
def HO(P:Program) (t:TypeId) (c:Call):Option D7:=
 match c.callee with
 | .value (.tmp g)=>if xJ P t then(ga c.args).map (.Az (.t g))else none
 |_=>none
def V0(P:Program) (t:TypeId):Op->Option D7
 | .box t x=>if Eg P t then(cq x).map .tc else none
 | .build t ps=>if Eg P t then match zeroOf P t,ps.toList with
   |some [_],[(0,x)]=>(cq x).map .Ge
   |_,_=>none
  else none
 | .buildSlice t n ps=>match P.underlying t with
  |some (.slice e)=>if xJ P e then match zeroOf P e,ps.toList.mapM (fun p=>cq p.2)with
    |some [_],some xs=>if 0<n&&n<=16777216&&fm P e==some 1&&ps.toList.map (·.1)==List.range n then some (.Bq xs)else none
    |_,_=>none
   else none
  |_=>none
 | .indexAddr t x i=>match P.underlying t with
  |some (.slice e)=>if xJ P e&&fm P e==some 1 then match cq x,cq i with
    |some x,some i=>some (.K3 x i)
    |_,_=>none
   else none
  |_=>none
 | .store t x v=>if Eg P t&&fm P t==some 1 then match cq x,cq v with
   |some x,some v=>some (.RG x v)
   |_,_=>none
  else none
 | .call c=>match c.callee,c.argTypes.toList,c.args.toList with
  | .builtin .len,[t],[x]=>match P.underlying t with
   |some (.slice e)=>if xJ P e then(cq x).map .K4 else none
   |_=>none
  |_,_,_=>HO P t c
 |_=>none
def K7(P:Program):Op->Option D7
 | .panic x=>(cq x).map .Hx
 | .makeSlice t l c=>match P.underlying t,cq l,cq c with
  |some (.slice e),some l,some c=>match P.info? e with
   |some i=>if i.size==1&&i.zero.isSome&&decide (0<i.bytes)then some (.RE e i.bytes l c)else none
   |none=>none
  |_,_,_=>none
 | .makeInterface t x=>if o5 P t||(P.underlying t).isNone then none else(cq x).map (.Hy t)
 | .typeAssert x _ t true=>if o5 P t||(P.underlying t).isNone then none else match zeroV P t,cq x with
  |some z,some x=>some (.NL t z x)
  |_,_=>none
 | .binOp op t x y _=>Sk P op t x y
 | .makeFunc (.func f) a b=>if a.isEmpty&& !b.isEmpty&&bY P f then(ga b).map (.Sg f)else none
 | .call c=>HN P c
 |_=>none
def RJ(P:Program) (t:TypeId) (o:Op):Option D7:=
 match V0 P t o with
 |some x=>some x
 |none=>K7 P o
def qG(P:Program) (ops:Array Oper) (o:Oper):Option XO:=
 match RJ P o.type o.op with
 |some x=>match Bv ops o.guard with
  |some g=>some ⟨o.dst,x,g⟩
  |none=>none
 |none=>(nI P ops o).map fun c=>⟨c.dst,.o c.op,c.g⟩
def qH(P:Program) (ops:Array Oper):List Oper->Option (List XO)
 |[]=>some []
 |o::r=>match qG P ops o,qH P ops r with
  |some c,some cs=>some (c::cs)
  |_,_=>none
def CE:List XO->List Nat
 |[]=>[]
 |o::r=>(match o.dst with|some d=>[d]|none=>[])++CE r
def mP(n:Nat):List XO->Bool
 |[]=>true
 |o::r=>(match o.dst with|some d=>decide (d<n)|none=>true)&&mP n r
def Sl:Code->Bool
 | .region ..=>true
 | .skip=>true
 |_=>false
def dstsOf:List CO->List Nat
 |[]=>[]
 |o::r=>(match o.dst with|some d=>[d]|none=>[])++dstsOf r
def bp.writes:bp->List Nat
 | .Cv ops=>dstsOf ops
 | .qm ops _=>dstsOf ops
 | .xH ops _ _ _=>dstsOf ops
 | .seq a b| .join a b| .cond _ a b=>a.writes++b.writes
 | .block _ c| .loop c=>c.writes
 | .Ai _ _ wr _ _=>wr
 | .scope _ c r=>c.writes++r.writes
 | .aO ops=>CE ops
 |_=>[]
def bp.after(l:Nat):bp->Option bp
 | .seq a b| .join a b=>match a.after l with
  |some r=>some (.join r b)
  |none=>b.after l
 | .label l'=>if l'==l then some .skip else none
 |_=>none
def bp.labels:bp->List Nat
 | .seq a b| .join a b=>a.labels++b.labels
 | .label l=>[l]
 |_=>[]
def bT.quiet:bT->Bool
 | .mv _| .fa _ _| .ld _ _| .jX _ _| .HD _ _ _ _=>true
 |_=>false
def Sm(P:Program) (o:Oper):Bool:=
 match o.op with
 | .call c=>(match c.callee with| .value (.func f)=>bY P f|_=>false)&&c.argTypes.toList.any (Eg P)
 |_=>false
def HP(P:Program):Nat->List Oper->Option Nat
 |_,[]=>none
 |i,o::r=>if Sm P o then some i else HP P (i+1) r
def NO(k:Nat):Nat->List Nat->List Oper->List Nat
 |_,dep,[]=>dep
 |i,dep,o::r=>NO k (i+1) (if decide (k<i)&&o.after.any (fun e=>Region.binds .any e&&(e.on==k||dep.contains e.on))then dep++[i]else dep) r
def AD(k:Nat) (dep:List Nat):Nat->List Oper->Bool
 |_,[]=>true
 |i,o::r=>(!dep.contains i||o.after.any fun e=>Region.binds .any e&&(e.on==k||(dep.contains e.on&&decide (e.on<i))))&&AD k dep (i+1) r
def yu(k:Nat) (dep:List Nat) (d:Nat):Nat->List CO->Bool
 |_,[]=>true
 |i,o::r=>(if i=k then(match o.op with| .aB _ _=>o.g.isNone&&o.dst==some d|_=>false)else dep.contains i||(o.op.quiet&&o.g.isNone&&o.dst.isSome&&o.dst !=some d))&&yu k dep d (i+1) r
def Bw(P:Program) (ops:List Oper) (cos:List CO) (dQ:List (Nat×Nat)):Option bp:=
 match HP P 0 ops with
 |some k=>match(cos[k]?).bind CO.dst with
  |some d=>let dep:=NO k 0 [] ops
   if jG dQ ops (mu k dep 0 cos)&&AD k dep 0 ops&&yu k dep d 0 cos&&decide (k<ops.length)then some (.xH cos dQ k dep)else none
  |none=>none
 |none=>none
def bN(m:Bool) (P:Program):Code->Option bp
 | .skip=>some .skip
 | .region _ ops lq=>if m&& !lq then(qH P ops ops.toList).map .aO else match tS P ops ops.toList with
  |some cos=>if lq then
    if m&&(HP P 0 ops.toList).isSome then
     if jG (xR ops.toList cos 0 cos) ops.toList cos then Bw P ops.toList cos (xR ops.toList cos 0 cos)else none
    else match xR ops.toList cos 0 cos with
    |[]=>if jG [] ops.toList cos then some (.Cv cos)else none
    |dQ=>if jG dQ ops.toList cos&&Fg cos dQ then some (.qm cos dQ)else none
   else some (.Cv cos)
  |none=>none
 | .seq a b=>match bN m P a,bN m P b with
  |some x,some y=>some (if Sl a then .seq x y else .join x y)
  |_,_=>none
 | .cond c a b=>match cq c,bN m P a,bN m P b with
  |some c,some a,some b=>some (.cond c a b)
  |_,_,_=>none
 | .block id c=>(bN m P c).map (.block id)
 | .loop c=>(bN m P c).map .loop
 | .exit id=>some (.exit id)
 | .ret=>some .ret
 | .label l=>some (.label l)
 | .goto l=>some (.goto l)
 | .scope c=>match bN m P c with
  |some c=>match c.labels with
   |[l]=>(c.after l).map (.scope l c)
   |_=>none
  |none=>none
 | .rangeFunc g ps as bd=>match cq g,bN m P as,bN m P bd with
  |some g,some a,some b=>
   let wr:=ps.toList++a.writes++b.writes
   if g.rd.all (fun t=>!wr.contains t)then some (.Ai g ps.toList wr a b)else none
  |_,_,_=>none
 |_=>none
abbrev Xn (P:Program):Code->Option bp:=bN false P
def gx(n:Nat):List CO->Bool
 |[]=>true
 |o::r=>(match o.dst with|some d=>decide (d<n)|none=>true)&&gx n r
def bp.fits(n:Nat):bp->Bool
 | .Cv ops=>gx n ops
 | .qm ops _=>gx n ops
 | .xH ops _ _ _=>gx n ops
 | .seq a b| .join a b| .cond _ a b=>a.fits n&&b.fits n
 | .block _ c| .loop c=>c.fits n
 | .scope _ c r=>c.fits n&&r.fits n
 | .aO ops=>mP n ops
 | .Ai _ ps wr a b=>ps.all (fun t=>decide (t<n))&&a.fits n&&b.fits n&&ps.all (fun t=>wr.contains t)&&a.writes.all (fun t=>wr.contains t)&&b.writes.all (fun t=>wr.contains t)
 |_=>true
inductive gb where
 |tmp (t:Nat)
 |cell (t:Nat) (sz:Option Nat)
 deriving Inhabited
def An(P:Program):ResultVar->Option gb
 | .tmp t=>some (.tmp t)
 | .cell a t=>(uI P t).map (.cell a)
structure cR where
 nt:Nat
 res:List gb
 code:bp
def iC(m:Bool) (P:Program) (f:FuncId):Option cR:=
 match P.funcs[f]? with
 |some fn=>match fn.body,fn.results.toList.mapM (An P)with
  |some c,some rs=>match bN m P c with
   |some cc=>if cc.fits fn.ntmps&&bY P f then some ⟨fn.ntmps,rs,cc⟩else none
   |none=>none
  |_,_=>none
 |none=>none
abbrev cZ (P:Program) (f:FuncId):Option cR:=iC false P f
open Go.RowKit (Below)
inductive DV (w:World) (π:Nat->Nat->Prop):AV->Value->Prop
 |bool (b:Bool):DV w π (.bool b) (.bool b)
 |int (k:IntKind) (n:Int):DV w π (.int k n) (.int k n)
 |float (k:FloatKind) (n:Nat):DV w π (.float k n) (.float k n)
 |str (s:ByteArray):DV w π (.str s) (.string s)
 |mj:DV w π .mj (.pointer none)
 |bM:DV w π .bM (.slice none 0 0)
 |yf:DV w π .yf .nilFunc
 |fq:DV w π .fq .nilIface
 |iz (n:Nat):Br n=true->DV w π .iz (.float .f64 n)
 |iface (t:Nat) (a:AV) (v:Value):DV w π a v->DV w π (.iface t a) (.iface t v)
 |agg (as:List AV) (vs:Array Value):as.length=vs.size->(∀a∈as,a.scalar=true)->(∀(i:Nat) (a:AV) (v:Value),as[i]? =some a->vs[i]? =some v->DV w π a v)->DV w π (.agg as) (.agg vs)
 |qb (as:List AV) (vs:Array Value):as.length=vs.size->(∀(i:Nat) (a:AV) (v:Value),as[i]? =some a->vs[i]? =some v->DV w π a v)->DV w π (.qb as) (.tuple vs)
 |fn (f:Fn) (as:List AV) (vs:Array Value) (bs:List AV) (us:Array Value):as.length=vs.size->bs.length=us.size->
   (∀(i:Nat) (a:AV) (v:Value),as[i]? =some a->vs[i]? =some v->DV w π a v)->(∀(i:Nat) (a:AV) (v:Value),bs[i]? =some a->us[i]? =some v->DV w π a v)->DV w π (.fn f as bs) (.func f vs us)
 |sl (xs:List (List AV)) (B off cap z:Nat) (f:Nat->Nat->Value):xs.length<=cap->(∀(i:Nat) (r:List AV),xs[i]? =some r->r.length=z)->
   (∀(i j:Nat) (r:List AV) (a:AV),xs[i]? =some r->r[j]? =some a->a.scalar=true)->
   (∀(i j:Nat) (r:List AV) (a:AV),xs[i]? =some r->r[j]? =some a->π B (off+i*z+j))->
   (∀(i j:Nat) (r:List AV) (a:AV),xs[i]? =some r->r[j]? =some a->w.cell? ⟨B,off+i*z+j,none⟩=some (f i j))->
   (∀(i j:Nat) (r:List AV) (a:AV),xs[i]? =some r->r[j]? =some a->DV w π a (f i j))->DV w π (.sl xs) (.slice (some ⟨B,off,none⟩) xs.length cap)
 |HQ (A:Addr):DV w π (.sl []) (.slice (some A) 0 0)
 |ref (cs:List AV) (B off:Nat) (f:Nat->Value):(∀(j:Nat) (a:AV),cs[j]? =some a->a.scalar=true)->(∀(j:Nat) (a:AV),cs[j]? =some a->π B (off+j))->
   (∀(j:Nat) (a:AV),cs[j]? =some a->w.cell? ⟨B,off+j,none⟩=some (f j))->(∀(j:Nat) (a:AV),cs[j]? =some a->DV w π a (f j))->DV w π (.ref cs) (.pointer (some ⟨B,off,none⟩))
theorem DV.mono{w w':World} {π π':Nat->Nat->Prop} (hp:∀b o,π b o->π' b o) (hc:∀b o,π b o->w'.cell? ⟨b,o,none⟩=w.cell? ⟨b,o,none⟩) {a:AV} {v:Value} (h:DV w π a v):DV w' π' a v:=by
 induction h with
 |bool|int|float|str|mj|bM|yf|fq=>constructor
 |iface t a v _ ih=>exact .iface t a v ih
 |iz n h=>exact .iz n h
 |agg as vs hl hs _ ih=>exact .agg as vs hl hs ih
 |qb as vs hl _ ih=>exact .qb as vs hl ih
 |fn f as vs bs us h1 h2 _ _ ih1 ih2=>exact .fn f as vs bs us h1 h2 ih1 ih2
 |sl xs B off cap z f h1 h2 h3 h4 h5 _ ih=>
  exact .sl xs B off cap z f h1 h2 h3 (fun i j r a hr ha=>hp _ _ (h4 i j r a hr ha)) (fun i j r a hr ha=>(hc _ _ (h4 i j r a hr ha)).trans (h5 i j r a hr ha)) ih
 |HQ A=>exact .HQ A
 |ref cs B off f h1 h2 h3 _ ih=>exact .ref cs B off f h1 (fun j a ha=>hp _ _ (h2 j a ha)) (fun j a ha=>(hc _ _ (h2 j a ha)).trans (h3 j a ha)) ih
def j0(w:World) (π:Nat->Nat->Prop) (as:List AV) (vs:List Value):Prop:=
 as.length=vs.length/\∀(i:Nat) (a:AV) (v:Value),as[i]? =some a->vs[i]? =some v->DV w π a v
theorem j0.mono{w w':World} {π π':Nat->Nat->Prop} (hp:∀b o,π b o->π' b o) (hc:∀b o,π b o->w'.cell? ⟨b,o,none⟩=w.cell? ⟨b,o,none⟩) {as:List AV} {vs:List Value} (h:j0 w π as vs):j0 w' π' as vs:=
 ⟨h.1,fun i a v ha hv=>(h.2 i a v ha hv).mono hp hc⟩
theorem j0.nil(w:World) (π:Nat->Nat->Prop):j0 w π [] []:=⟨rfl,fun i a v h=>by simp at h⟩
theorem j0.cons{w:World} {π:Nat->Nat->Prop} {a:AV} {v:Value} {as:List AV} {vs:List Value} (h:DV w π a v) (hs:j0 w π as vs):j0 w π (a::as) (v::vs):=by
 refine⟨by simp[hs.1],fun i x u hx hu=>?_⟩
 cases i with
 |zero=>simp at hx hu;subst hx;subst hu;exact h
 |succ i=>exact hs.2 i x u (by simpa using hx) (by simpa using hu)
theorem j0.append{w:World} {π:Nat->Nat->Prop} {as bs:List AV} {vs us:List Value} (h:j0 w π as vs) (k:j0 w π bs us):j0 w π (as++bs) (vs++us):=by
 refine⟨by simp[h.1,k.1],fun i x u hx hu=>?_⟩
 by_cases hi:i<as.length
 ·exact h.2 i x u (by rwa[List.getElem?_append_left hi]at hx) (by rwa[List.getElem?_append_left (by rw[<-h.1];exact hi)]at hu)
 ·rw[List.getElem?_append_right (by omega)]at hx
  rw[List.getElem?_append_right (by rw[<-h.1];omega)]at hu
  exact k.2 (i-as.length) x u hx (by rw[h.1];exact hu)
theorem j0.get{w:World} {π:Nat->Nat->Prop} {as:List AV} {vs:List Value} (h:j0 w π as vs) {i:Nat} {a:AV} (ha:as[i]? =some a):∃v,vs[i]? =some v/\DV w π a v:=by
 have hi:i<as.length:=by
  rcases Nat.lt_or_ge i as.length with h|h
  ·exact h
  ·rw[List.getElem?_eq_none h]at ha;cases ha
 have hv:vs[i]? =some vs[i]!:=by
  rw[List.getElem?_eq_getElem (by rw[<-h.1];exact hi)]
  simp[getElem!_pos vs i (by rw[<-h.1];exact hi)]
 exact⟨_,hv,h.2 i a _ ha hv⟩
theorem DV.Fh{w:World} {π:Nat->Nat->Prop} {a:AV} {v:Value} (h:DV w π a v) (hs:a.scalar=true):v.oneCell'=true:=by
 cases h<;>first|rfl|(simp[AV.scalar]at hs)
theorem DV.cells{w:World} {π:Nat->Nat->Prop} {a:AV} {v:Value} (h:DV w π a v) (ht:∀vs,a≠.qb vs):j0 w π a.cells v.cells.toList/\∀x∈a.cells,x.scalar=true:=by
 cases h with
 |agg as vs hl hs hd=>exact⟨⟨by simpa[AV.cells,Value.cells]using hl,fun i a v ha hv=>hd i a v ha (by simpa[Value.cells]using hv)⟩,hs⟩
 |qb as vs=>exact absurd rfl (ht as)
 |bool b=>exact⟨.cons (.bool b) (.nil _ _),by simp[AV.cells,AV.scalar]⟩
 |int k n=>exact⟨.cons (.int k n) (.nil _ _),by simp[AV.cells,AV.scalar]⟩
 |float k n=>exact⟨.cons (.float k n) (.nil _ _),by simp[AV.cells,AV.scalar]⟩
 |str s=>exact⟨.cons (.str s) (.nil _ _),by simp[AV.cells,AV.scalar]⟩
 |mj=>exact⟨.cons .mj (.nil _ _),by simp[AV.cells,AV.scalar]⟩
 |bM=>exact⟨.cons .bM (.nil _ _),by simp[AV.cells,AV.scalar]⟩
 |yf=>exact⟨.cons .yf (.nil _ _),by simp[AV.cells,AV.scalar]⟩
 |fq=>exact⟨.cons .fq (.nil _ _),by simp[AV.cells,AV.scalar]⟩
 |iface t a v h=>exact⟨.cons (.iface t a v h) (.nil _ _),by simp[AV.cells,AV.scalar]⟩
 |iz n h=>exact⟨.cons (.iz n h) (.nil _ _),by simp[AV.cells,AV.scalar]⟩
 |fn f as vs bs us h1 h2 h3 h4=>exact⟨.cons (.fn f as vs bs us h1 h2 h3 h4) (.nil _ _),by simp[AV.cells,AV.scalar]⟩
 |ref cs B off f h1 h2 h3 h4=>exact⟨.cons (.ref cs B off f h1 h2 h3 h4) (.nil _ _),by simp[AV.cells,AV.scalar]⟩
 |HQ A=>exact⟨.cons (.HQ A) (.nil _ _),by simp[AV.cells,AV.scalar]⟩
 |sl xs B off cap z f h1 h2 h3 h4 h5 h6=>exact⟨.cons (.sl xs B off cap z f h1 h2 h3 h4 h5 h6) (.nil _ _),by simp[AV.cells,AV.scalar]⟩
theorem Fi{w:World} {π:Nat->Nat->Prop} {v:Value} {a:AV} (h:Gf v=some a):DV w π a v/\a.scalar=true:=by
 unfold Gf at h
 split at h<;>first|(cases h;exact⟨by constructor,rfl⟩)|cases h
theorem vV{w:World} {π:Nat->Nat->Prop}:∀(l:List Value) (as:List AV),l.mapM Gf=some as->j0 w π as l/\∀a∈as,a.scalar=true
 |[],as,h=>by simp at h;subst h;exact⟨.nil _ _,by simp⟩
 |v::l,as,h=>by
  simp only[List.mapM_cons,Option.bind_eq_bind,Option.bind_eq_some_iff,Option.pure_def,Option.some.injEq]at h;obtain⟨a,ha,as',has,rfl⟩:=h
  have h1:=Fi (w:=w) (π:=π) ha
  have h2:=vV (w:=w) (π:=π) l as' has
  exact⟨.cons h1.1 h2.1,by simpa using⟨h1.2,h2.2⟩⟩
theorem HR{w:World} {π:Nat->Nat->Prop} {v:Value} {a:AV} (h:VX v=some a):DV w π a v:=by
 unfold VX at h;split at h
 ·rename_i cs
  simp only[Option.map_eq_some_iff]at h;obtain⟨as,has,rfl⟩:=h
  have h2:=vV (w:=w) (π:=π) _ _ has
  exact .agg as cs (by simpa using h2.1.1) h2.2 (fun i a v ha hv=>h2.1.2 i a v ha (by simpa using hv))
 ·exact(Fi h).1
structure gP where
 n:Nat
 X:Nat->Prop
 β:Nat->Nat
def gP.ok(F:gP) (B:Nat):Prop:=F.n<=B\/F.X B
def gP.XG(F:gP) (b B:Nat):Prop:=F.n<=B\/(b<4/\F.X B)
def gP.top(w:World):gP:=⟨w.heap.size,fun _=>False,id⟩
structure th (n:gP) (w w':World):Prop where
 os:w'.os=w.os
 tape:w'.tape=w.tape
 output:w'.output=w.output
 size:w.heap.size<=w'.heap.size
 block:∀k,k<n.n->¬n.X k->w'.heap[k]? =w.heap[k]?
 /-- what is no variables' block lies as it lay -/
 others:∀(k:Nat) (o:Obj),w.heap[k]? =some o->o.isCells=false->w'.heap[k]? =some o
theorem th.refl(n:gP) (w:World):th n w w:=⟨rfl,rfl,rfl,Nat.le_refl _,fun _ _ _=>rfl,fun _ _ h _=>h⟩
theorem th.trans{n:gP} {a b c:World} (h:th n a b) (k:th n b c):th n a c:=
 ⟨k.os.trans h.os,k.tape.trans h.tape,k.output.trans h.output,Nat.le_trans h.size k.size,fun i hi hx=>(k.block i hi hx).trans (h.block i hi hx),fun i o hi ho=>k.others i o (h.others i o hi ho) ho⟩
theorem th.of{n:gP} {w w':World} (h:Below w.heap.size w w') (hn:n.n<=w.heap.size):th n w w':=⟨h.os,h.tape,h.output,h.size,fun k hk _=>h.block k (by omega),fun k o hk _=>(h.block k (Array.getElem?_eq_some_iff.1 hk).1).trans hk⟩
theorem th.below{n:gP} {w w':World} (h:th n w w') (hX:∀k,¬n.X k):Below n.n w w':=⟨h.os,h.tape,h.output,h.size,fun k hk=>h.block k hk (hX k)⟩
def Bx(P:Program) (w:World) (π:Nat->Nat->Prop) (ok:Nat->Prop) (e:Nat) (v:Value):Prop:=
 v=.slice none 0 0\/∃B len cap cur i,v=.slice (some ⟨B,0,none⟩) len cap/\ok B/\w.heap[B]? =some (.cells cur e (0,0))/\len<=cap/\cap<=maxLen/\P.info? e=some i/\cur.size=cap*i.size/\∀o,len*i.size<=o->¬π B o
def jo:Value->Option Nat
 | .slice (some a) _ _=>some a.block
 |_=>none
def CF(P:Program) (f:FuncId) (args:List AV) (r:AV) (fr:Option Nat):Prop:=
 bY P f=true/\
 ∀(w:World) (π:Nat->Nat->Prop) (vs:List Value),(∀b o,π b o->b<w.heap.size)->j0 w π args vs->
  Calls P f vs.toArray w fun e w'=>∃v π',e=.returned v/\Below w.heap.size w w'/\(∀b o,π b o->π' b o)/\(∀b o,π' b o->π b o\/w.heap.size<=b)/\
   (∀b o,π' b o->b<w'.heap.size)/\DV w' π' r v/\∀t,fr=some t->Bx P w' π' (fun B=>w.heap.size<=B) t v
def eK(w:World) (π:Nat->Nat->Prop):List (Option AV)->List Nat->List Value->Prop
 |[],[],[]=>True
 |some .hole::as,B::Bs,v::vs=>v=.agg #[.pointer (some ⟨B,0,none⟩)]/\eK w π as Bs vs
 |some a::as,Bs,v::vs=>DV w π a v/\eK w π as Bs vs
 |none::as,B::Bs,v::vs=>v=.pointer (some ⟨B,0,none⟩)/\eK w π as Bs vs
 |_,_,_=>False
def RV(β:Nat->Nat) (τ:Nat->Value) (w:World) (π:Nat->Nat->Prop):SV->Value->Prop
 | .dat a q,v=>DV w π a v/\∀t,q=some t->v=τ t
 | .ptr b off,v=>v=.pointer (some ⟨β b,off,none⟩)
 | .rp cs,v=>∃(B off:Nat) (f:Nat->Value),v=.pointer (some ⟨B,off,none⟩)/\(∀(j:Nat) (a:AV),cs[j]? =some a->a.scalar=true)/\(∀(j:Nat) (a:AV),cs[j]? =some a->π B (off+j))/\
   (∀(j:Nat) (a:AV),cs[j]? =some a->w.cell? ⟨B,off+j,none⟩=some (f j))/\∀(j:Nat) (a:AV),cs[j]? =some a->DV w π a (f j)
 | .undef,v=>v=undef
 | .ot f as bs,v=>∃us:Array Value,v=.func (.func f) #[] us/\eK w π as (bs.map β) us.toList
 | .raw q n,v=>∃B cap,τ q=.slice (some ⟨B,0,none⟩) 0 cap/\v=.slice (some ⟨B,0,none⟩) n cap/\n<=cap
 | .vs b off n _,v=>∃cap,n<=cap/\v=.slice (some ⟨β b,off,none⟩) n cap
 | .pt 0 ps,v=>v=.agg (ps.map fun p=>Value.pointer (some ⟨β p.1,p.2,none⟩)).toArray
 | .pt k ps,v=>∃B off cap,(v=if k=1 then .slice (some ⟨B,off,none⟩) ps.length cap else .pointer (some ⟨B,off,none⟩))/\ps.length<=cap/\
   ∀(i:Nat) (p:Nat×Nat),ps[i]? =some p->π B (off+i)/\w.cell? ⟨B,off+i,none⟩=some (.pointer (some ⟨β p.1,p.2,none⟩))
def SV.gB(U:Nat->Prop):SV->Prop
 | .dat _ (some q)=>U q
 | .ptr b _=>U b
 | .vs b _ _ _=>U b
 | .ot _ _ bs=>∀b∈bs,U b
 | .raw q _=>U q
 | .pt _ ps=>∀p∈ps,U p.1
 |_=>True
def o6(τ:Nat->Value) (w:World) (π:Nat->Nat->Prop) (B:Nat) (x:cg):Prop:=
 ∃cur el,w.heap[B]? =some (.cells cur el (0,0))/\j0 w π x.cells cur.toList/\(∀a∈x.cells,a.scalar=true)/\(∀o q,er o x.tags=some q->cur[o]? =some (τ q))/\∀o,¬π B o
def cz(w:World) (π:Nat->Nat->Prop):List (List AV)->List Nat->Prop
 |[],[]=>True
 |cs::css,B::Bs=>o6 (fun _=>undef) w π B ⟨cs,[]⟩/\cz w π css Bs
 |_,_=>False
def gP.ia(w:World) (Bs:List Nat):gP:=⟨w.heap.size,fun B=>B∈Bs,fun k=>Bs.getD k 0⟩
def yw(P:Program) (f:FuncId) (css:List (List AV)) (args:List (Option AV)) (r:AV) (fr:Option Nat) (css':List (List AV)):Prop:=
 bY P f=true/\css'.length=css.length/\css.length<=4/\
 ∀(w:World) (π:Nat->Nat->Prop) (Bs:List Nat) (vs:List Value),(∀b o,π b o->b<w.heap.size)->Bs.Nodup->cz w π css Bs->eK w π args Bs vs->
  Calls P f vs.toArray w fun e w'=>∃v π',e=.returned v/\th (gP.ia w Bs) w w'/\(∀b o,π b o->π' b o)/\(∀b o,π' b o->π b o\/w.heap.size<=b)/\
   (∀b o,π' b o->b<w'.heap.size)/\cz w' π' css' Bs/\DV w' π' r v/\∀t,fr=some t->Bx P w' π' (fun B=>w.heap.size<=B) t v
theorem DV.qc{w:World} {π:Nat->Nat->Prop} {a:AV} (h:Eng.qc a=true):DV w π a (K5 a):=by
 cases a<;>first|(simp[Eng.qc]at h;done)|constructor
theorem DV.flat{w:World} {π:Nat->Nat->Prop} {a:AV} (h:uE a=true):DV w π a (uD a):=by
 cases a with
 |agg cs=>
  simp only[uE,List.all_eq_true]at h
  refine .agg cs _ (by simp) (fun a ha=>?_) (fun i a v ha hv=>?_)
  ·have:=h a ha;cases a<;>first|rfl|(simp[Eng.qc]at this;done)
  ·simp only[List.getElem?_toArray,List.getElem?_map,ha,Option.map_some,Option.some.injEq]at hv
   subst hv;exact .qc (h a (List.mem_of_getElem? ha))
 |_=>first|exact .qc h|(simp[uE,Eng.qc]at h;done)
def Iter(P:Program) (gv:AV) (xs:List (List AV)):Prop:=
 ∃gf caps,gv=.fn (.func gf) [] caps/\bY P gf=true/\(∀x∈xs,∀a∈x,uE a=true)/\
 ∀(l:Nat) (J:Nat->World->Prop) (Jx:World->Prop) (W:World) (π:Nat->Nat->Prop) (vs:List Value),(∀b o,π b o->b<W.heap.size)->j0 W π caps vs->
  (∀i W',J i W'->∀b o,π b o->W'.cell? ⟨b,o,none⟩=W.cell? ⟨b,o,none⟩)->
  (∀i W W',J i W->Below W.heap.size W W'->J i W')->(∀W W',Jx W->Below W.heap.size W W'->Jx W')->
  (∀n i x W,xs[i]? =some x->J i W->YieldAt Fence.wide n P l (x.map uD).toArray W fun e W'=>(e=.returned (.bool true)/\J (i+1) W')\/(e=.returned (.bool false)/\Jx W'))->
  J 0 W->
  Calls P gf (#[.func (.yield l) #[] #[]]++vs.toArray) W fun e W'=>(∃v,e=.returned v)/\(J xs.length W'\/Jx W')
def HS(P:Program) (f:FuncId) (css:List (List AV)) (args:List (Option AV)) (p:AV) (css':List (List AV)):Prop:=
 bY P f=true/\css'.length=css.length/\css.length<=4/\
 ∀(w:World) (π:Nat->Nat->Prop) (Bs:List Nat) (vs:List Value),(∀b o,π b o->b<w.heap.size)->Bs.Nodup->cz w π css Bs->eK w π args Bs vs->
  Calls P f vs.toArray w fun e w'=>∃π',e=.panicked (dS p)/\th (gP.ia w Bs) w w'/\(∀b o,π b o->π' b o)/\(∀b o,π' b o->π b o\/w.heap.size<=b)/\
   (∀b o,π' b o->b<w'.heap.size)/\cz w' π' css' Bs
def NP(P:Program) (f:FuncId) (args:List AV) (cs:List AV):Prop:=
 bY P f=true/\
 ∀(w:World) (π:Nat->Nat->Prop) (vs:List Value),(∀b o,π b o->b<w.heap.size)->j0 w π args vs->
  Calls P f vs.toArray w fun e w'=>∃B π',e=.returned (.pointer (some ⟨B,0,none⟩))/\w.heap.size<=B/\Below w.heap.size w w'/\(∀b o,π b o->π' b o)/\(∀b o,π' b o->π b o\/w.heap.size<=b)/\
   (∀b o,π' b o->b<w'.heap.size)/\o6 (fun _=>undef) w' π' B ⟨cs,[]⟩
def yx:AV->FrameMode
 | .fq=>.returning
 |p=>.panicking (dS p)
def HT(P:Program) (f:FuncId) (rv:AV) (css:List (List AV)) (args:List (Option AV)) (css':List (List AV)):Prop:=
 bY P f=true/\css'.length=css.length/\css.length<=4/\
 ∀(w:World) (π:Nat->Nat->Prop) (Bs:List Nat) (vs:List Value),(∀b o,π b o->b<w.heap.size)->Bs.Nodup->cz w π css Bs->eK w π args Bs vs->
  CallsDIn Fence.wide 0 P f vs.toArray (yx rv) w fun e u' w'=>∃v π',e=.returned v/\settle u'=.returning/\th (gP.ia w Bs) w w'/\(∀b o,π b o->π' b o)/\(∀b o,π' b o->π b o\/w.heap.size<=b)/\
   (∀b o,π' b o->b<w'.heap.size)/\cz w' π' css' Bs
def gP.Sn(w:World) (Bs:List Nat) (tb:Nat->Prop):gP:=⟨w.heap.size,fun B=>B∈Bs\/tb B,fun k=>Bs.getD k 0⟩
def Gj(P:Program) (w:World) (π:Nat->Nat->Prop) (Bs:List Nat) (ok:Nat->Prop) (tv:Value):Option (Nat×Nat×Nat)->Prop
 |none=>True
 |some (j,o,e)=>∃B cur el,Bs[j]? =some B/\w.heap[B]? =some (.cells cur el (0,0))/\cur[o]? =some tv/\Bx P w π ok e tv/\∀TB,jo tv=some TB->TB∉Bs
def KZ(tg:Option (Nat×Nat×Nat)) (tv:Value) (B:Nat):Prop:=tg.isSome=true/\jo tv=some B
def NQ(P:Program) (f:FuncId) (css:List (List AV)) (tg:Option (Nat×Nat×Nat)) (args:List (Option AV)) (r:AV) (css':List (List AV)) (tg':Option (Nat×Nat×Nat)):Prop:=
 bY P f=true/\css'.length=css.length/\css.length<=4/\
 ∀(w:World) (π:Nat->Nat->Prop) (Bs:List Nat) (vs:List Value) (tv:Value),(∀b o,π b o->b<w.heap.size)->Bs.Nodup->cz w π css Bs->eK w π args Bs vs->Gj P w π Bs (fun _=>True) tv tg->
  Calls P f vs.toArray w fun e w'=>∃v π' tv',e=.returned v/\th (gP.Sn w Bs (KZ tg tv)) w w'/\(∀b o,π b o->π' b o)/\(∀b o,π' b o->π b o\/w.heap.size<=b\/KZ tg tv b)/\
   (∀b o,π' b o->b<w'.heap.size)/\(∀b o,π b o->w'.cell? ⟨b,o,none⟩=w.cell? ⟨b,o,none⟩)/\cz w' π' css' Bs/\DV w' π' r v/\Gj P w' π' Bs (fun B=>w.heap.size<=B\/KZ tg tv B) tv' tg'
def HU(P:Program) (f:FuncId) (css:List (List AV)) (args:List (Option AV)) (j o:Nat):Prop:=
 bY P f=true/\css.length<=4/\
 ∀(w:World) (π:Nat->Nat->Prop) (Bs:List Nat) (vs:List Value),(∀b o,π b o->b<w.heap.size)->Bs.Nodup->cz w π css Bs->eK w π args Bs vs->
  Calls P f vs.toArray w fun e w'=>∃B π',Bs[j]? =some B/\e=.returned (.pointer (some ⟨B,o,none⟩))/\th (gP.ia w Bs) w w'/\(∀b o,π b o->π' b o)/\(∀b o,π' b o->π b o\/w.heap.size<=b)/\
   (∀b o,π' b o->b<w'.heap.size)/\cz w' π' css Bs
def Pure(P:Program):bz:=⟨CF P,yw P,Iter P,HS P,NP P,HT P,NQ P,HU P⟩
structure Rel (P:Program) (nt:Nat) (n0:gP) (w0:World) (π0:Nat->Nat->Prop) (U:Nat->Prop) (s:S) (a:Act) (w:World) (β:Nat->Nat) (τ:Nat->Value) (π:Nat->Nat->Prop):Prop where
 size:a.tmps.size=nt
 slots:∀t v,lk t s.slots=some v->(∃x,a.tmps[t]? =some x/\RV β τ w π v x)/\v.gB U
 boxes:∀b x,cm b s.boxes=some x->U b/\n0.XG b (β b)/\o6 τ w π (β b) x/\∀o q,er o x.tags=some q->U q
 inj:∀b b' x x',cm b s.boxes=some x->cm b' s.boxes=some x'->β b=β b'->b=b'
 live:∀q e,er q s.live=some e->U q/\Bx P w π n0.ok e (τ q)
 bR:∀q q' e e' B,er q s.live=some e->er q' s.live=some e'->jo (τ q)=some B->jo (τ q')=some B->q=q'
 cG:∀q e b x,er q s.live=some e->cm b s.boxes=some x->jo (τ q)≠some (β b)
 below:th n0 w0 w
 fo:n0.n<=w0.heap.size
 eu:∀b o,π b o->b<w.heap.size
 dZ:∀b o,π0 b o->π b o
 cF:∀b o,π b o->π0 b o\/n0.ok b
 lR:∀k,k<4->β k=n0.β k
 jq:∀k,k<4->U k
 kept:∀b o,π0 b o->w.cell? ⟨b,o,none⟩=w0.cell? ⟨b,o,none⟩
end Go.Eng
