/- The engine and the library,part 1 of 18: what the proofs of this seat need of them. -/
import Derived.WalkKit
import Derived.RangeFuncNested
import Derived.RangeFuncLeaves
import Derived.OrdersIn
import Derived.LoopNIn
import Derived.ChangeKeysEq
import Derived.Laws.Externs
import Derived.Lib.SliceRun
import Derived.Laws.CopyRow
import Derived.Laws.MakeOwn
import Ieee.Arith
import GoSem.Core.Float
import Derived.RecoverIn
import Derived.ProofKit
import Derived.OpenShut
import Derived.ShutString
import Derived.ChangeOld
import Derived.Below
set_option linter.unnecessarySimpa false
set_option linter.unusedSimpArgs false
set_option linter.unusedVariables false
set_option linter.defProp false
set_option maxRecDepth 10000
set_option maxHeartbeats 4000000
namespace Go.Eng
open Go
inductive AV where
 |bool (b:Bool)
 |int (k:IntKind) (n:Int)
 |float (k:FloatKind) (n:Nat)
 |str (s:ByteArray)
 |Aw
 |aL
 |sl (xs:List (List AV))
 |fn (f:Fn) (first caps:List AV)
 |eK
 |iface (t:Nat) (v:AV)
 |gk
 |agg (cs:List AV)
 |cN (vs:List AV)
 |ref (cs:List AV)
 /-- a float (of 64 bits) that is no number,whichever -/
 |eM
 deriving Inhabited
inductive SV where
 |dat (a:AV) (q:Option Nat)
 |ptr (b off:Nat)
 |rp (cs:List AV)
 |undef
 /-- a slice BT a box of its own or another's: n elements of z cells each,from off on -/
 |vs (b off n z:Nat)
 /-- a function with values and pointers at the heads of boxes -/
 |oF (f:Nat) (as:List (Option AV)) (bs:List Nat)
 /-- a slice of n elements that nobody has read: the token's row from its head on -/
 |raw (q n:Nat)
 deriving Inhabited
structure bV where
 cells:List AV
 tags:List (Nat×Nat)
 deriving Inhabited
structure S where
 slots:List (Nat×SV)
 boxes:List (Nat×bV)
 live:List (Nat×Nat)
 nx:Nat
 deriving Inhabited
inductive bB where
 |t (n:Nat)
 |k (v:AV)
 deriving Inhabited
inductive CK where
 |b|i|f|s
 deriving DecidableEq,Inhabited
inductive Xt where
 |Gs|ffrom|rte
 deriving DecidableEq,Inhabited
inductive bW where
 |mv (x:bB)
 |pick (c a b:bB)
 |alloc (cs:List AV)
 |box (x:bB)
 |build (zs:List AV) (parts:List (Nat×Nat×bB))
 |mz (e z:Nat) (xs:List bB)
 |ld (x:bB) (sz:Option Nat)
 |st (x v:bB) (sz:Nat)
 |fa (x:bB) (off:Nat)
 |Gj (x i:bB) (n z:Nat)
 |Pm (x i:bB) (z:Nat)
 |EZ (x:bB) (off:Nat) (sz:Option Nat)
 |DU (x i:bB) (n z:Nat) (sz:Option Nat)
 |bin (op:BinOp) (x y:bB)
 |eqc (ks:List CK) (neg:Bool) (x y:bB)
 |bb (neg:Bool) (x y:bB)
 |un (op:UnOp) (x:bB)
 |oG (k:IntKind) (x:bB)
 |DH (k:FloatKind) (x:bB)
 |Gt (k:IntKind) (x:bB)
 |E0 (x:bB)
 |KV (x:bB)
 |Ms (n:Nat)
 |app (e z bytes:Nat) (s x:bB)
 |call (f:Nat) (args:List bB)
 |bI (f:Nat) (args:List bB)
 |eP (g:bB) (args:List bB)
 |ext (x:bB) (i:Nat)
 |rW (fn:Fn) (first caps:List bB)
 |SX (z:Nat) (x:bB) (lo hi:Option bB)
 |nc (x:bB)
 |mm (max:Bool) (args:List bB)
 |xt (e:Xt) (x:bB)
 |Sq (x:bB) (n z:Nat)
 |WS (x i:bB)
 |SY (neg:Bool) (x:bB)
 |fQ (g:bB) (args:List bB)
 |Ba (f:Nat) (args:List bB)
 |rX (g:bB) (args:List bB)
 |Wn (x:bB) (n z:Nat) (hi:bB)
 |DI (e z bytes:Nat) (y x:bB)
 deriving Inhabited
structure CO where
 dst:Option Nat
 op:bW
 g:Option (Nat×Bool)
 deriving Inhabited
inductive Mt where
 |o (c:bW)
 |call (f:Nat) (args:List bB)
 |bI (f:Nat) (args:List bB)
 |eP (p:Bool) (g:bB) (args:List bB)
 |Wo (f:Nat) (caps:List bB)
 |WT (x:bB)
 |WU (t:Nat) (x:bB)
 /-- is it of that type? the value,or nothing of that type -/
 |WV (t:Nat) (z:AV) (x:bB)
 |SZ (neg:Bool) (x:bB)
 |Wp (neg:Bool) (x:bB)
 /-- a slice of cells that is made; what is copied into all of it -/
 |WW (e bytes:Nat) (l c:bB)
 |WX (e:Nat) (x y:bB)
 deriving Inhabited
structure XO where
 dst:Option Nat
 op:Mt
 g:Option (Nat×Bool)
 deriving Inhabited
inductive aT where
 |skip
 |KY (ops:List CO)
 |seq (a b:aT)
 |join (a b:aT)
 |cond (c:bB) (a b:aT)
 |block (id:Nat) (c:aT)
 |loop (c:aT)
 |exit (id:Nat)
 |ret
 |mI (g:bB) (ps wr:List Nat) (as bd:aT)
 |kL (ops:List CO) (dU:List (Nat×Nat))
 |scope (l:Nat) (c r:aT)
 |label (l:Nat)
 |goto (l:Nat)
 |ff (ops:List XO)
 deriving Inhabited
def AV.cells:AV->List AV
 | .agg cs=>cs
 |v=>[v]
def AV.scalar:AV->Bool
 | .agg _| .cN _=>false
 |_=>true
def KZ:Value->Option AV
 | .bool b=>some (.bool b)
 | .int k n=>some (.int k n)
 | .float k n=>some (.float k n)
 | .string s=>some (.str s)
 | .pointer none=>some .Aw
 | .slice none 0 0=>some .aL
 | .nilFunc=>some .eK
 | .nilIface=>some .gk
 |_=>none
def ofV:Value->Option AV
 | .agg cs=>(cs.toList.mapM KZ).map .agg
 |v=>KZ v
def zn(op:BinOp) (k:IntKind) (x y:Int):Option Int:=
 let a:=BitVec.ofInt k.bits x
 let b:=BitVec.ofInt k.bits y
 match op with
 | .and=>some (k.wrap (a&&&b).toNat)
 | .or=>some (k.wrap (a|||b).toNat)
 | .xor=>some (k.wrap (a^^^b).toNat)
 | .andNot=>some (k.wrap (a&&& ~~~b).toNat)
 |_=>none
def rP(op:BinOp) (k:IntKind) (x y:Int):Option AV:=
 match op with
 | .add=>some (.int k (k.wrap (x+y)))
 | .sub=>some (.int k (k.wrap (x-y)))
 | .mul=>some (.int k (k.wrap (x*y)))
 | .quo=>if y=0 then none else some (.int k (k.wrap (x.tdiv y)))
 | .rem=>if y=0 then none else some (.int k (x.tmod y))
 | .and| .or| .xor| .andNot=>(zn op k x y).map (.int k)
 | .eql=>some (.bool (x==y))
 | .neq=>some (.bool (x !=y))
 | .lss=>some (.bool (decide (x<y)))
 | .leq=>some (.bool (decide (x<=y)))
 | .gtr=>some (.bool (decide (x>y)))
 | .geq=>some (.bool (decide (x>=y)))
 |_=>none
def DJ(n:Nat):Bool:=match FloatKind.f64.decode n with
 | .nan ..=>true
 |_=>false
def IB:FloatKind->Option Nat->Option AV
 |k,some r=>some (.float k r)
 | .f64,none=>some .eM
 | .f32,none=>none
def vB:BinOp->Option AV
 | .add| .sub| .mul| .quo=>some .eM
 | .neq=>some (.bool true)
 | .eql| .lss| .leq| .gtr| .geq=>some (.bool false)
 |_=>none
def Bb(op:BinOp) (k:FloatKind) (x y:Nat):Option AV:=
 let c:=k.format.order x y
 match op with
 | .add=>IB k (k.format.add x y)
 | .sub=>IB k (k.format.sub x y)
 | .mul=>IB k (k.format.mul x y)
 | .quo=>IB k (k.format.div x y)
 | .eql=>some (.bool (c==some .eq))
 | .neq=>some (.bool (c !=some .eq))
 | .lss=>some (.bool (c==some .lt))
 | .leq=>some (.bool (c==some .lt||c==some .eq))
 | .gtr=>some (.bool (c==some .gt))
 | .geq=>some (.bool (c==some .gt||c==some .eq))
 |_=>none
def rY(op:BinOp) (k:IntKind) (x y:Int):Option AV:=
 if y<0 then none else
 match op with
 | .shl=>some (.int k (k.wrap (x*2^min y.toNat k.bits)))
 | .shr=>some (.int k (x.fdiv (2^min y.toNat k.bits)))
 |_=>none
def dZ(op:BinOp) (a b:AV):Option AV:=
 match op,a,b with
 | .shl,.int k x,.int _ y=>rY .shl k x y
 | .shr,.int k x,.int _ y=>rY .shr k x y
 |op,.int k x,.int k' y=>if k=k' then rP op k x y else none
 |op,.float k x,.float k' y=>if k=k' then Bb op k x y else none
 |op,.eM,.float .f64 _=>vB op
 |op,.float .f64 _,.eM=>vB op
 |op,.eM,.eM=>vB op
 |_,_,_=>none
def Wq(neg:Bool):AV->AV->Option AV
 | .bool x,.bool y=>some (.bool (if neg then x !=y else x==y))
 |_,_=>none
def pU:CK->AV->AV->Option Bool
 | .b,.bool x,.bool y=>some (x==y)
 | .i,.int k x,.int k' y=>if k=k' then some (x==y)else none
 | .f,.float k x,.float k' y=>if k=k' then some (k.format.order x y==some .eq)else none
 | .s,.str x,.str y=>some (x==y)
 |_,_,_=>none
def bZ:List CK->List AV->List AV->Option Bool
 |[],[],[]=>some true
 |k::ks,a::as,b::bs=>match pU k a b,bZ ks as bs with
  |some x,some y=>some (x&&y)
  |_,_=>none
 |_,_,_=>none
def S0(op:UnOp) (a:AV):Option AV:=
 match op,a with
 | .neg,.int k n=>some (.int k (k.wrap (0-n)))
 | .xor,.int k n=>(zn .xor k (if k.signed then -1 else k.max) n).map (.int k)
 | .neg,.float k b=>some (.float k (Op.negFloat k b))
 | .not,.bool b=>some (.bool !b)
 |_,_=>none
def DW(k:IntKind):AV->Option AV
 | .int _ n=>some (.int k (k.wrap n))
 |_=>none
def DX(k:FloatKind):AV->Option AV
 | .int _ n=>some (.float k (k.nearest n))
 |_=>none
def zo(k:IntKind):AV->Option AV
 | .float s b=>match(s.decode b).toInt .zero with
  |some n=>if k.min<=n/\n<=k.max then some (.int k n)else none
  |none=>none
 |_=>none
def E1(b:Nat):Option AV:=
 match FloatKind.f64.decode b with
 | .nan _ t=>if FloatKind.f64.format.quiet t=t then some (.float .f64 b)else none
 |d=>some (.float .f64 (FloatKind.f64.encode (d.integral .even)))
def Wr:Xt->AV->Option AV
 | .Gs,.float .f64 b=>some (.int .u64 b)
 | .ffrom,.int .u64 n=>some (.float .f64 n.toNat)
 | .rte,.float .f64 b=>E1 b
 |_,_=>none
def dB(z:Nat):Nat->List AV->List (List AV)
 |0,_=>[]
 |n+1,cs=>cs.take z::dB z n (cs.drop z)
def JL(s:ByteArray) (i:Int):Option AV:=
 if 0<=i/\i<s.size then some (.int .u8 (s[i.toNat]!).toNat)else none
def Ay:AV->Option AV
 | .aL=>some (.int .i64 0)
 | .sl xs=>some (.int .i64 xs.length)
 |_=>none
def Gu:Bool->AV->Option Bool
 |neg,.aL=>some (!neg)
 |neg,.sl _=>some neg
 |_,_=>none
def Sr(mx:Bool):AV->AV->Option AV
 | .int k x,.int _ y=>some (.int k (if mx then(if y>x then y else x)else(if y<x then y else x)))
 | .float k x,.float k' y=>if k=k' then match k.format.order x y with
   |none=>if k=.f64 then some .eM else none
   |some .lt=>some (.float k (if mx then y else x))
   |some .gt=>some (.float k (if mx then x else y))
   |some .eq=>some (.float k (if mx then(if(k.decode x).neg then y else x)else(if(k.decode x).neg then x else y)))
  else none
 | .eM,.float .f64 _=>some .eM
 | .float .f64 _,.eM=>some .eM
 | .eM,.eM=>some .eM
 |_,_=>none
def Mu:AV->Nat->Option AV
 | .cN vs,i=>vs[i]?
 |_,_=>none
def ay(cs:List AV) (off:Nat):Option Nat->Option AV
 |none=>cs[off]?
 |some n=>if off+n<=cs.length then some (.agg ((cs.drop off).take n))else none
def nF:List AV->List (Nat×List AV)->List AV
 |cs,[]=>cs
 |cs,(off,ps)::rest=>nF (cs.take off++ps++cs.drop (off+ps.length)) rest
def Pn:AV->Value
 | .bool b=>.bool b
 | .int k n=>.int k n
 | .float k n=>.float k n
 | .str s=>.string s
 | .Aw=>.pointer none
 | .aL=>.slice none 0 0
 |_=>undef
def kM:AV->Bool
 | .bool _| .int .. | .float .. | .str _| .Aw| .aL=>true
 |_=>false
def wF:AV->Value
 | .agg cs=>.agg (cs.map Pn).toArray
 |a=>Pn a
def je:AV->Bool
 | .agg cs=>cs.all kM
 |a=>kM a
def II(t:Nat) (z:AV):AV->Option AV
 | .gk=>some (.cN [z,.bool false])
 | .iface t' a=>some (if t'=t then .cN [a,.bool true]else .cN [z,.bool false])
 |_=>none
def K0(neg:Bool):AV->Option Bool
 | .gk=>some !neg
 | .iface _ _=>some neg
 |_=>none
def DK(neg:Bool):SV->Option Bool
 | .ptr _ _| .rp _| .dat (.ref _) _=>some neg
 | .dat .Aw _=>some !neg
 |_=>none
def ju:AV->Bool
 | .iface _ a=>je a
 |_=>false
def S1:AV->Value
 | .iface t a=>.iface t (wF a)
 |_=>undef
def i7(p:AV):List PanicEntry:=[{v:=S1 p,recovered:=false}]
def lk:Nat->List (Nat×SV)->Option SV
 |_,[]=>none
 |n,(m,v)::r=>bif n==m then some v else lk n r
def b9:Nat->List (Nat×bV)->Option bV
 |_,[]=>none
 |n,(m,v)::r=>bif n==m then some v else b9 n r
def d7:Nat->List (Nat×Nat)->Option Nat
 |_,[]=>none
 |n,(m,v)::r=>bif n==m then some v else d7 n r
def rQ:Nat->bV->List (Nat×bV)->List (Nat×bV)
 |_,_,[]=>[]
 |n,b,(m,v)::r=>bif n==m then(m,b)::r else(m,v)::rQ n b r
def jr:Nat->List (Nat×Nat)->List (Nat×Nat)
 |_,[]=>[]
 |n,(m,v)::r=>bif n==m then jr n r else(m,v)::jr n r
def S.put(s:S) (d:Option Nat) (v:SV):S:=
 match d with
 |none=>s
 |some d=>{s with slots:=(d,v)::s.slots}
def dh(s:S):bB->Option SV
 | .t n=>lk n s.slots
 | .k v=>some (.dat v none)
def aF(s:S) (x:bB):Option AV:=
 match dh s x with
 |some (.dat a _)=>some a
 |some (.rp cs)=>some (.ref cs)
 |_=>none
def dQ(s:S):List bB->Option (List AV)
 |[]=>some []
 |x::r=>match aF s x,dQ s r with
  |some a,some as=>some (a::as)
  |_,_=>none
def an{α:Type} (o:Option α) (k:α->Prop):Prop:=
 match o with
 |some a=>k a
 |none=>False
@[simp] theorem aE {α:Type} (a:α) (k:α->Prop):an (some a) k=k a:=rfl
@[simp] theorem S2 {α:Type} (k:α->Prop):an none k=False:=rfl
def ig:AV->Option Nat->Bool
 | .cN _,_=>false
 | .agg _,some _=>false
 |_,_=>true
def iD(s:S):List (Nat×Nat×bB)->Option (List (Nat×List AV))
 |[]=>some []
 |(off,sz,x)::r=>match aF s x,iD s r with
  |some a,some ps=>if a.cells.length=sz/\ig a none=true then some ((off,a.cells)::ps)else none
  |_,_=>none
def lT(s:S) (z:Nat):List bB->Option (List (List AV))
 |[]=>some []
 |x::r=>match aF s x,lT s z r with
  |some a,some rows=>if a.cells.length=z/\ig a none=true then some (a.cells::rows)else none
  |_,_=>none
def idxOf:AV->Option Int
 | .int _ i=>some i
 |_=>none
def setCells(cs:List AV) (off:Nat) (ps:List AV):List AV:=cs.take off++ps++cs.drop (off+ps.length)
def yF:Option AV->Option Int
 |some a=>idxOf a
 |none=>none
def Bc(s:S):Option bB->Option Int
 |none=>some 0
 |some x=>yF (aF s x)
def Bd(s:S) (xs:List (List AV)):Option bB->Option Int
 |none=>some xs.length
 |some x=>yF (aF s x)
def Mv(a:AV) (xs:List (List AV)) (l h:Int):AV:=
 match a with
 | .aL=>.aL
 |_=>.sl ((xs.take h.toNat).drop l.toNat)
structure aS where
 c:Nat->List AV->AV->Option Nat->Prop
 p:Nat->List (List AV)->List (Option AV)->AV->Option Nat->List (List AV)->Prop
 /-- what a function that is ranged BT yields,one after the other -/
 i:AV->List (List AV)->Prop
 /-- a function that raises this -/
 q:Nat->List (List AV)->List (Option AV)->AV->List (List AV)->Prop
 /-- a function that yields a pointer to a new box -/
 n:Nat->List AV->List AV->Prop
 /-- a function that is deferred,with what it recovers: nothing,or what was raised -/
 d:Nat->AV->List (List AV)->List (Option AV)->List (List AV)->Prop
 /-- a function that takes a token with one of its boxes,or leaves one there: which box,which cell,what kind -/
 t:Nat->List (List AV)->Option (Nat×Nat×Nat)->List (Option AV)->AV->List (List AV)->Option (Nat×Nat×Nat)->Prop
def ef(s:S):List bB->Option (List (Option AV)×List Nat)
 |[]=>some ([],[])
 |x::r=>match dh s x,ef s r with
  |some (.dat a _),some (as,bs)=>some (some a::as,bs)
  |some (.rp cs),some (as,bs)=>some (some (.ref cs)::as,bs)
  |some (.ptr b 0),some (as,bs)=>some (none::as,b::bs)
  |_,_=>none
def bq(l:List (Nat×bV)):List Nat->Option (List (List AV))
 |[]=>some []
 |b::bs=>match b9 b l,bq l bs with
  |some x,some css=>some (x.cells::css)
  |_,_=>none
def eI(l:List (Nat×bV)):List Nat->Option (List (List AV))
 |[]=>some []
 |b::bs=>match b9 b l,eI l bs with
  |some ⟨cs,[]⟩,some css=>some (cs::css)
  |_,_=>none
def d8:List Nat->List (List AV)->List (Nat×bV)->List (Nat×bV)
 |b::bs,cs::css,l=>d8 bs css (rQ b ⟨cs,[]⟩ l)
 |_,_,l=>l
def Az(b o q:Nat):List (Nat×bV)->List (Nat×bV)
 |[]=>[]
 |(k,x)::r=>bif b==k then(k,⟨x.cells,[(o,q)]⟩)::r else(k,x)::Az b o q r
def IJ(bx:List (Nat×bV)) (lv:List (Nat×Nat)) (ids:List Nat):Option (Nat×Nat×Nat)->Option (Option Nat)
 |none=>some none
 |some (j,o,e)=>(ids[j]?).bind fun b=>(b9 b bx).bind fun x=>(d7 o x.tags).bind fun q=>if d7 q lv=some e then some (some q)else none
def qM(id:Nat) (ids:List Nat):Option (Nat×Nat×Nat)->List (Nat×bV)->List (Nat×bV)
 |none,l=>l
 |some (j,o,_),l=>match ids[j]? with
  |some b=>Az b o id l
  |none=>l
def yG(id:Nat):Option (Nat×Nat×Nat)->List (Nat×Nat)->List (Nat×Nat)
 |none,l=>l
 |some (_,_,e),l=>(id,e)::l
def Gv:Option Nat->List (Nat×Nat)->List (Nat×Nat)
 |none,l=>l
 |some q,l=>jr q l
def JM(C:aS) (f:Nat) (css:List (List AV)) (as:List (Option AV)) (ids:List Nat) (id:Nat) (bx:List (Nat×bV)) (lv:List (Nat×Nat)) (k:SV->List (Nat×bV)->List (Nat×Nat)->Prop):Prop:=
 ∃tg r css' tg',C.t f css tg as r css' tg'/\an (IJ bx lv ids tg) fun qo=>k (.dat r none) (qM id ids tg' (d8 ids css' bx)) (yG id tg' (Gv qo lv))
def pV(b:Nat) (cs:List AV):SV->SV
 | .ptr b' o=>bif b'==b then .rp (cs.drop o)else .ptr b' o
 |v=>v
def Be(b:Nat) (cs:List AV):List (Nat×SV)->List (Nat×SV)
 |[]=>[]
 |(t,v)::r=>(t,pV b cs v)::Be b cs r
def uO:Nat->List (Nat×bV)->List (Nat×bV)
 |_,[]=>[]
 |n,(m,v)::r=>bif n==m then uO n r else(m,v)::uO n r
def gS:List Nat->List (List AV)->S->S
 |b::bs,cs::css,s=>gS bs css {s with slots:=Be b cs s.slots,boxes:=uO b s.boxes}
 |_,_,s=>s
theorem E2:∀{ids:List Nat} {css:List (List AV)} {s:S},(gS ids css s).nx=s.nx
 |[],css,s=>rfl
 |b::bs,[],s=>rfl
 |b::bs,cs::css,s=>by rw[gS,E2]
def jv:List (Option AV)->List (List AV)->List AV
 |some a::as,css=>a::jv as css
 |none::as,cs::css=>.ref cs::jv as css
 |_,_=>[]
def kg:List Nat->Bool
 |[]=>true
 |b::bs=>decide (4<=b)&&kg bs
def er:List Nat->Bool
 |[]=>true
 |b::bs=>!bs.contains b&&er bs
def rowsOf:AV->Option (List (List AV))
 | .aL=>some []
 | .sl xs=>some xs
 |_=>none
def bN(C:aS) (id:Nat) (o:bW) (K:SV->S->Prop) (s:S):Prop:=
 match o with
 | .mv x=>an (dh s x) fun v=>K v s
 | .pick c a b=>an (aF s c) fun
   | .bool t=>an (dh s a) fun u=>an (dh s b) fun v=>(t=true->K u s)/\(t=false->K v s)
   |_=>False
 | .alloc cs=>K (.ptr id 0) {s with boxes:=(id,⟨cs,[]⟩)::s.boxes}
 | .box x=>an (aF s x) fun a=>ig a none=true/\K (.ptr id 0) {s with boxes:=(id,⟨a.cells,[]⟩)::s.boxes}
 | .build zs parts=>an (iD s parts) fun ps=>K (.dat (.agg (nF zs ps)) none) s
 | .mz e z xs=>an (lT s z xs) fun rows=>K (.dat (.sl rows) (some id)) {s with live:=(id,e)::s.live}
 | .ld x sz=>an (dh s x) fun
   | .ptr b off=>an (b9 b s.boxes) fun bx=>an (ay bx.cells off sz) fun a=>
     K (.dat a (match sz with|none=>d7 off bx.tags|some _=>none)) s
   | .rp cs=>an (ay cs 0 sz) fun a=>K (.dat a none) s
   |_=>False
 | .st x v sz=>an (dh s x) fun
   | .ptr b off=>an (b9 b s.boxes) fun bx=>an (dh s v) fun
     | .dat a q=>ig a q=true/\a.cells.length=sz/\off+sz<=bx.cells.length/\
       K .undef {s with boxes:=rQ b ⟨setCells bx.cells off a.cells,match q with|some q=>(off,q)::bx.tags.filter (fun p=>p.1<off||off+sz<=p.1)|none=>bx.tags.filter (fun p=>p.1<off||off+sz<=p.1)⟩ s.boxes}
     |_=>False
   |_=>False
 | .fa x off=>an (dh s x) fun
   | .ptr b o=>K (.ptr b (o+off)) s
   | .rp cs=>K (.rp (cs.drop off)) s
   |_=>False
 | .Gj x i n z=>an (dh s x) fun p=>an (aF s i) fun a=>an (idxOf a) fun i=>(0<=i/\i<n)/\
   match p with
   | .ptr b o=>K (.ptr b (o+i.toNat*z)) s
   | .rp cs=>K (.rp (cs.drop (i.toNat*z))) s
   |_=>False
 | .Pm x i z=>an (aF s x) fun l=>an (aF s i) fun a=>an (idxOf a) fun i=>an (rowsOf l) fun xs=>(0<=i/\i<xs.length)/\an (xs[i.toNat]?) fun row=>row.length=z/\K (.rp row) s
 | .EZ x off sz=>an (aF s x) fun
   | .agg cs=>an (ay cs off sz) fun a=>K (.dat a none) s
   |_=>False
 | .DU x i n z sz=>an (aF s x) fun
   | .agg cs=>an (aF s i) fun a=>an (idxOf a) fun i=>(0<=i/\i<n)/\an (ay cs (i.toNat*z) sz) fun a=>K (.dat a none) s
   |_=>False
 | .bin op x y=>an (aF s x) fun a=>an (aF s y) fun b=>an (dZ op a b) fun v=>K (.dat v none) s
 | .eqc ks neg x y=>an (aF s x) fun
   | .agg as=>an (aF s y) fun
    | .agg bs=>an (bZ ks as bs) fun e=>K (.dat (.bool (e !=neg)) none) s
    |_=>False
   |_=>False
 | .bb neg x y=>an (aF s x) fun a=>an (aF s y) fun b=>an (Wq neg a b) fun v=>K (.dat v none) s
 | .un op x=>an (aF s x) fun a=>an (S0 op a) fun v=>K (.dat v none) s
 | .oG k x=>an (aF s x) fun a=>an (DW k a) fun v=>K (.dat v none) s
 | .DH k x=>an (aF s x) fun a=>an (DX k a) fun v=>K (.dat v none) s
 | .Gt k x=>an (aF s x) fun a=>an (zo k a) fun v=>K (.dat v none) s
 | .E0 x=>an (dh s x) fun v=>K v s
 | .KV x=>an (aF s x) fun a=>an (Ay a) fun v=>K (.dat v none) s
 | .Ms n=>K (.dat (.int .i64 n) none) s
 | .app e z bytes x y=>an (dh s x) fun
   | .dat a q=>an (rowsOf a) fun xs=>an (aF s y) fun b=>an (rowsOf b) fun ys=>
     (xs.length+ys.length)*bytes<=140737488355328/\(∀r∈xs,r.length=z)/\(∀r∈ys,r.length=z)/\
     (match a,q with
      | .aL,_=>if ys=[]then K (.dat .aL none) s else K (.dat (.sl (xs++ys)) (some id)) {s with live:=(id,e)::s.live}
      | .sl _,some q=>d7 q s.live=some e/\K (.dat (.sl (xs++ys)) (some id)) {s with live:=(id,e)::jr q s.live}
      |_,_=>False)
   |_=>False
 | .call f args=>an (dQ s args) fun as=>∃r fr,C.c f as r fr/\K (.dat r (fr.map fun _=>id)) {s with live:=match fr with|some e=>(id,e)::s.live|none=>s.live}
 | .bI f args=>an (ef s args) fun p=>er p.2=true/\an (bq s.boxes p.2) fun css=>
   ∃r fr css',C.p f css p.1 r fr css'/\K (.dat r (fr.map fun _=>id)) {s with boxes:=d8 p.2 css' s.boxes,live:=match fr with|some e=>(id,e)::s.live|none=>s.live}
 | .eP g args=>an (aF s g) fun
   | .fn (.func f) first caps=>an (dQ s args) fun as=>∃r fr,C.c f (first++as++caps) r fr/\K (.dat r (fr.map fun _=>id)) {s with live:=match fr with|some e=>(id,e)::s.live|none=>s.live}
   |_=>False
 | .ext x i=>an (aF s x) fun a=>an (Mu a i) fun v=>K (.dat v none) s
 | .rW fn first caps=>an (dQ s first) fun as=>an (ef s caps) fun p=>(er p.2&&kg p.2)=true/\an (bq s.boxes p.2) fun css=>
   K (.dat (.fn fn as (jv p.1 css)) none) (gS p.2 css s)
 | .SX z x lo hi=>an (aF s x) fun a=>an (rowsOf a) fun xs=>
   an (Bc s lo) fun l=>an (Bd s xs hi) fun h=>
   (0<=l/\l<=h/\h<=xs.length)/\(∀r∈xs,r.length=z)/\K (.dat (Mv a xs l h) none) s
 | .nc x=>an (dh s x) fun
   | .ptr b o=>K (.ptr b o) s
   | .rp cs=>K (.rp cs) s
   | .dat (.fn (.func f) as bs) q=>K (.dat (.fn (.func f) as bs) q) s
   | .dat (.ref cs) _=>K (.rp cs) s
   |_=>False
 | .mm mx args=>an (dQ s args) fun
   |[]=>False
   |a::r=>an (r.foldlM (Sr mx) a) fun v=>K (.dat v none) s
 | .xt e x=>an (aF s x) fun a=>an (Wr e a) fun v=>K (.dat v none) s
 | .Sq x n z=>an (dh s x) fun
   | .rp cs=>n*z<=cs.length/\K (.dat (.sl (dB z n cs)) none) s
   | .ptr b off=>4<=b/\an (b9 b s.boxes) fun bx=>n*z<=(bx.cells.drop off).length/\K (.dat (.sl (dB z n (bx.cells.drop off))) none) (gS [b] [bx.cells] s)
   |_=>False
 | .SY neg x=>an (aF s x) fun a=>an (Gu neg a) fun b=>K (.dat (.bool b) none) s
 | .fQ g args=>an (aF s g) fun
   | .fn (.func f) [] []=>an (ef s args) fun p=>er p.2=true/\an (bq s.boxes p.2) fun css=>
     ∃r fr css',C.p f css p.1 r fr css'/\K (.dat r (fr.map fun _=>id)) {s with boxes:=d8 p.2 css' s.boxes,live:=match fr with|some e=>(id,e)::s.live|none=>s.live}
   |_=>False
 | .Ba f args=>an (ef s args) fun p=>er p.2=true/\an (eI s.boxes p.2) fun css=>
   ∃r,C.p f css p.1 r none css/\K (.dat r none) s
 | .rX g args=>an (aF s g) fun
   | .fn (.func f) [] []=>an (ef s args) fun p=>er p.2=true/\an (eI s.boxes p.2) fun css=>
     ∃r,C.p f css p.1 r none css/\K (.dat r none) s
   |_=>False
 | .Wn x n z hi=>an (dh s x) fun
   | .ptr b off=>an (aF s hi) fun a=>an (idxOf a) fun h=>(0<=h/\h<=n)/\K (.vs b off h.toNat z) s
   |_=>False
 | .DI e z bytes y x=>an (dh s y) fun
   | .vs b off n z'=>an (dh s x) fun
     | .ptr b' _=>(b'=b/\z'=z)/\an (b9 b s.boxes) fun bx=>(n*z<=(bx.cells.drop off).length/\n*bytes<=140737488355328)/\
       (if n=0 then K (.dat .aL none) s else K (.dat (.sl (dB z n (bx.cells.drop off))) (some id)) {s with live:=(id,e)::s.live})
     |_=>False
   |_=>False
 | .WS x i=>an (aF s x) fun
   | .str b=>an (aF s i) fun a=>an (idxOf a) fun j=>an (JL b j) fun v=>K (.dat v none) s
   |_=>False
def Bf(q n:Nat) (a:AV) (id:Nat):SV->SV
 | .raw q' n'=>bif q'==q&&n'==n then .dat a (some id)else .raw q' n'
 |v=>v
def DL(q n:Nat) (a:AV) (id:Nat):List (Nat×SV)->List (Nat×SV)
 |[]=>[]
 |(t,v)::r=>(t,Bf q n a id v)::DL q n a id r
def cZ(C:aS) (id:Nat) (o:Mt) (K:SV->S->Prop) (X:AV->S->Prop) (s:S):Prop:=
 match o with
 | .o c=>bN C id c K s
 | .call f args=>bN C id (.call f args) K s\/(an (dQ s args) fun as=>(∃cs,C.n f as cs/\K (.ptr id 0) {s with boxes:=(id,⟨cs,[]⟩)::s.boxes})\/∃p,C.q f [] (as.map some) p []/\X p s)
 | .bI f args=>bN C id (.bI f args) K s\/an (ef s args) fun p=>er p.2=true/\an (bq s.boxes p.2) fun css=>
   (∃v css',C.q f css p.1 v css'/\X v {s with boxes:=d8 p.2 css' s.boxes})\/JM C f css p.1 p.2 id s.boxes s.live fun v bx lv=>K v {s with boxes:=bx,live:=lv}
 | .eP b g args=>match dh s g with
   |some (.oF f as bs)=>an (ef s args) fun p=>er (p.2++bs)=true/\an (bq s.boxes (p.2++bs)) fun css=>
     (∃r fr css',C.p f css (p.1++as) r fr css'/\K (.dat r (fr.map fun _=>id)) {s with boxes:=d8 (p.2++bs) css' s.boxes,live:=match fr with|some e=>(id,e)::s.live|none=>s.live})\/
     (∃v css',C.q f css (p.1++as) v css'/\X v {s with boxes:=d8 (p.2++bs) css' s.boxes})\/JM C f css (p.1++as) (p.2++bs) id s.boxes s.live fun v bx lv=>K v {s with boxes:=bx,live:=lv}
   |_=>bN C id (if b then .fQ g args else .eP g args) K s
 | .Wo f caps=>an (ef s caps) fun p=>K (.oF f p.1 p.2) s
 | .WT x=>an (aF s x) fun a=>ju a=true/\X a s
 | .WU t x=>an (aF s x) fun a=>ig a none=true/\K (.dat (.iface t a) none) s
 | .WV t z x=>an (aF s x) fun a=>an (II t z a) fun v=>K (.dat v none) s
 | .SZ neg x=>an (aF s x) fun a=>an (K0 neg a) fun b=>K (.dat (.bool b) none) s
 | .Wp neg x=>an (dh s x) fun v=>an (DK neg v) fun b=>K (.dat (.bool b) none) s
 | .WW e bytes l c=>an (aF s l) fun a=>an (idxOf a) fun l=>an (aF s c) fun b=>an (idxOf b) fun c=>(0<=l/\l<=c/\c*bytes<=140737488355328)/\K (.raw id l.toNat) {s with live:=(id,e)::s.live}
 | .WX e x y=>an (dh s x) fun
   | .raw q n=>an (aF s y) fun b=>an (rowsOf b) fun ys=>(ys.length=n/\∀r∈ys,r.length=1)/\d7 q s.live=some e/\
     K (.dat (.int .i64 n) none) {s with slots:=DL q n (.sl ys) id s.slots,live:=(id,e)::jr q s.live}
   |_=>False
def eN(s:S) (g:Option (Nat×Bool)) (yes no:Prop):Prop:=
 match g with
 |none=>yes
 |some (t,want)=>match lk t s.slots with
  |some (.dat (.bool b) _)=>(b=want->yes)/\(b=!want->no)
  |some .undef=>no
  |_=>False
def jw(C:aS) (base:Nat):Nat->List CO->(S->Prop)->S->Prop
 |_,[],K,s=>K s
 |i,o::r,K,s=>eN s o.g
   (bN C (base+i) o.op (fun v s'=>jw C base (i+1) r K (s'.put o.dst v)) s)
   (jw C base (i+1) r K (s.put o.dst .undef))
def eE(C:aS) (base:Nat):Nat->List XO->(S->Prop)->(AV->S->Prop)->S->Prop
 |_,[],K,_,s=>K s
 |i,o::r,K,X,s=>eN s o.g
   (cZ C (base+i) o.op (fun v s'=>eE C base (i+1) r K X (s'.put o.dst v)) X s)
   (eE C base (i+1) r K X (s.put o.dst .undef))
def jx(k:S->Prop) (Q:Exit->S->Prop):Exit->S->Prop
 | .normal,s=>k s
 |e,s=>Q e s
def gq(id:Nat) (Q:Exit->S->Prop):Exit->S->Prop
 | .exit id',s=>if id'=id then Q .normal s else Q (.exit id') s
 |e,s=>Q e s
def Gk(m:List (Nat×Nat)) (q:Nat):Nat:=(d7 q m).getD q
def AA(m:List (Nat×Nat)) (nx:Nat):SV->SV->Prop
 | .dat a _,.dat a' none=>a=a'
 | .dat a (some q),.dat a' (some q')=>a=a'/\q=Gk m q'/\q'<nx
 | .ptr b o,.ptr b' o'=>b=b'/\o=o'/\b'<nx
 | .rp cs,.rp cs'=>cs=cs'
 | .undef,.undef=>True
 | .oF f as bs,.oF f' as' bs'=>f=f'/\as=as'/\bs=bs'/\∀b∈bs',b<nx
 |_,_=>False
def gu(m:List (Nat×Nat)) (nx:Nat) (a:List (Nat×SV)):List (Nat×SV)->Prop
 |[]=>True
 |(t,v)::r=>an (lk t a) (fun u=>AA m nx u v)/\gu m nx a r
def lE(m:List (Nat×Nat)) (nx:Nat) (a:List (Nat×Nat)):List (Nat×Nat)->Prop
 |[]=>True
 |(o,q)::r=>(d7 o a=some (Gk m q)/\q<nx)/\lE m nx a r
def ij(m:List (Nat×Nat)) (nx:Nat) (a:List (Nat×bV)):List (Nat×bV)->Prop
 |[]=>True
 |(b,x)::r=>an (b9 b a) (fun y=>y.cells=x.cells/\lE m nx y.tags x.tags/\b<nx)/\ij m nx a r
def pW(m:List (Nat×Nat)) (nx:Nat) (a:List (Nat×Nat)):List (Nat×Nat)->Prop
 |[]=>True
 |(q,e)::r=>(d7 (Gk m q) a=some e/\q<nx)/\pW m nx a r
def cq(m:List (Nat×Nat)) (l:List (Nat×Nat)):Prop:=((l.map fun p=>Gk m p.1).Nodup)
def Le(s s1:S):Prop:=
 4<=s1.nx/\∃m,gu m s1.nx s.slots s1.slots/\ij m s1.nx s.boxes s1.boxes/\pW m s1.nx s.live s1.live/\cq m s1.live
def down(F:S->Prop) (s:S):Prop:=∃s1,Le s s1/\F s1\/F s
theorem gi{F:S->Prop} {s:S} (h:F s):down F s:=⟨s,.inr h⟩
def nG(F:(Exit->S->Prop)->S->Prop) (Q:Exit->S->Prop):Nat->S->Prop
 |0,_=>False
 |n+1,s=>F (jx (down (nG F Q n)) Q) s
def bB.rd:bB->List Nat
 | .t n=>[n]
 | .k _=>[]
def JN:Option bB->List Nat
 |some x=>x.rd
 |none=>[]
def bu:List bB->List Nat
 |[]=>[]
 |x::r=>x.rd++bu r
def wG:List (Nat×Nat×bB)->List Nat
 |[]=>[]
 |(_,_,x)::r=>x.rd++wG r
def bW.rd:bW->List Nat
 | .mv x=>x.rd
 | .pick c a b=>c.rd++a.rd++b.rd
 | .alloc _=>[]
 | .box x=>x.rd
 | .build _ ps=>wG ps
 | .mz _ _ xs=>bu xs
 | .ld x _=>x.rd
 | .st x v _=>x.rd++v.rd
 | .fa x _=>x.rd
 | .Gj x i _ _=>x.rd++i.rd
 | .Pm x i _=>x.rd++i.rd
 | .EZ x _ _=>x.rd
 | .DU x i _ _ _=>x.rd++i.rd
 | .bin _ x y=>x.rd++y.rd
 | .eqc _ _ x y=>x.rd++y.rd
 | .bb _ x y=>x.rd++y.rd
 | .un _ x=>x.rd
 | .oG _ x=>x.rd
 | .DH _ x=>x.rd
 | .Gt _ x=>x.rd
 | .E0 x=>x.rd
 | .KV x=>x.rd
 | .Ms _=>[]
 | .app _ _ _ x y=>x.rd++y.rd
 | .call _ args=>bu args
 | .bI _ args=>bu args
 | .eP g args=>g.rd++bu args
 | .ext x _=>x.rd
 | .rW _ a b=>bu a++bu b
 | .SX _ x lo hi=>x.rd++JN lo++JN hi
 | .nc x=>x.rd
 | .mm _ args=>bu args
 | .xt _ x=>x.rd
 | .Sq x _ _=>x.rd
 | .WS x i=>x.rd++i.rd
 | .SY _ x=>x.rd
 | .fQ g args=>g.rd++bu args
 | .Ba _ args=>bu args
 | .rX g args=>g.rd++bu args
 | .Wn x _ _ hi=>x.rd++hi.rd
 | .DI _ _ _ y x=>y.rd++x.rd
def bW.isApp:bW->Bool
 | .app ..=>true
 |_=>false
def bW.vC:bW->List Nat
 | .ld x _=>x.rd
 | .st x _ _=>x.rd
 | .bI _ args=>bu args
 | .fQ _ args=>bu args
 | .Ba _ args=>bu args
 | .rX _ args=>bu args
 | .rW _ _ b=>bu b
 | .Sq x _ _=>x.rd
 | .DI _ _ _ _ x=>x.rd
 |_=>[]
def bW.JO:bW->List Nat
 | .st x _ _=>x.rd
 | .bI _ args=>bu args
 | .fQ _ args=>bu args
 | .rW _ _ b=>bu b
 | .Sq x _ _=>x.rd
 |_=>[]
def bW.zq:bW->Bool
 | .rW _ _ b=>!b.isEmpty
 | .Sq ..=>true
 |_=>false
def bW.rZ:bW->List Nat
 | .mv x| .fa x _| .Gj x _ _ _| .nc x| .E0 x=>x.rd
 | .pick _ a b=>a.rd++b.rd
 |_=>[]
def bW.Mw:bW->Bool
 | .alloc _| .box _=>true
 |_=>false
def bW.ro:bW->bW
 | .bI f args=>.Ba f args
 | .fQ g args=>.rX g args
 |o=>o
def CO.ro(o:CO):CO:=⟨o.dst,o.op.ro,o.g⟩
def nB(ro:List Nat):Nat->List CO->List CO
 |_,[]=>[]
 |i,o::r=>(bif ro.contains i then o.ro else o)::nB ro (i+1) r
theorem tX:∀{i:Nat} {l:List CO},nB [] i l=l
 |_,[]=>rfl
 |i,o::l=>by show o::nB [] (i+1) l=_;rw[tX]
def CO.rd(o:CO):List Nat:=o.op.rd++(match o.g with|some (t,_)=>[t]|none=>[])
abbrev Tag:=Option (Option Nat)
def Tag.DD:Tag->Nat->Bool
 |none,_=>true
 |some z,b=>z==some b
def Tag.dis:Tag->Tag->Bool
 |some none,_=>true
 |_,some none=>true
 |some (some a),some (some b)=>a !=b
 |_,_=>false
def look:List (Nat×Tag)->Nat->Tag
 |[],_=>none
 |(t,z)::r,n=>bif n==t then z else look r n
def CO.indep(x y:CO):Bool:=
 (match x.dst with|some d=>!y.rd.contains d&&y.dst !=some d|none=>true)&&
 (match y.dst with|some d=>!x.rd.contains d|none=>true)&& !(x.op.isApp&&y.op.isApp)
def CO.half(T:List (Nat×Tag)) (x y:CO):Bool:=
 x.op.JO.all fun t=>y.op.vC.all (fun u=>(look T t).dis (look T u))&&(!x.op.zq||y.rd.all fun u=>(look T t).dis (look T u))
def CO.r5(T:List (Nat×Tag)) (x y:CO):Bool:=x.indep y&&x.half T y&&y.half T x
def CO.apart(x y:CO):Bool:=x.r5 [] y
def Ss(T:List (Nat×Tag)):List Nat->Tag
 |[]=>some none
 |[t]=>look T t
 |t::r=>if look T t==Ss T r then look T t else none
def St(T:List (Nat×Tag)) (base:Nat):Nat->List CO->List (Nat×Tag)
 |_,[]=>T
 |i,o::r=>St (match o.dst with|some t=>(t,if o.op.Mw then some (some (base+i))else Ss T o.op.rZ)::T|none=>T) base (i+1) r
def IK:List (Nat×SV)->List (Nat×Tag)
 |[]=>[]
 |(t,.ptr b _)::r=>(t,some (some b))::IK r
 |(t,_)::r=>(t,some none)::IK r
def tY(T:List (Nat×Tag)):List (Nat×SV)->Bool
 |[]=>true
 |(t,.ptr b _)::r=>(look T t).DD b&&tY T r
 |(_,_)::r=>tY T r
def r8(T:List (Nat×Tag)) (id:Nat) (o:CO):Bool:=
 match o.dst with
 |none=>true
 |some t=>match look T t with
  |none=>true
  |some z=>if o.op.Mw then z==some id else o.op.rZ.all fun u=>match look T u with|some z'=>z'==none||z'==z|none=>false
def mh(T:List (Nat×Tag)) (base:Nat):Nat->List CO->Bool
 |_,[]=>true
 |i,o::r=>r8 T (base+i) o&&mh T base (i+1) r
def zu(T:List (Nat×Tag)) (ops:List CO):List (Nat×Nat)->Bool
 |[]=>true
 |(i,j)::r=>(match ops[i]?,ops[j]? with|some x,some y=>x.r5 T y|_,_=>false)&&zu T ops r
def WY(T:List (Nat×Tag)) (ops:List CO) (dU:List (Nat×Nat)) (base:Nat) (sl:List (Nat×SV)):Bool:=tY T sl&&mh T base 0 ops&&zu T ops dU
def DY(ops:List CO) (dU:List (Nat×Nat)) (base:Nat) (sl:List (Nat×SV)):Bool:=WY (St (IK sl) base 0 ops) ops dU base sl
def oH:List Nat->List AV->S->S
 |p::ps,x::xs,s=>oH ps xs (s.put (some p) (.dat x none))
 |_,_,s=>s
def DM(wr:List Nat):List (Nat×SV)->List (Nat×SV)
 |[]=>[]
 |(t,v)::r=>bif wr.contains t then DM wr r else(t,v)::DM wr r
def Bg(wr:List Nat) (s:S):S:={s with slots:=DM wr s.slots}
def IC(wr:List Nat) (F:S->Prop) (Q:Exit->S->Prop):Exit->S->Prop
 | .normal,s=>down F (Bg wr s)
 | .ret,s=>Q .ret (Bg wr s)
 | .exit id,s=>Q (.exit id) (Bg wr s)
 |_,_=>False
def r9(K:S->Prop):Exit->S->Prop
 | .normal,s=>K s
 |_,_=>False
def mJ(l:Nat) (K:S->Prop) (Q:Exit->S->Prop):Exit->S->Prop
 | .goto l',s=>l'=l/\K s
 |e,s=>Q e s
def AB(Q:Exit->S->Prop):Exit->S->Prop
 | .goto _,_=>False
 |e,s=>Q e s
def S3(C:aS) (ops:List CO) (dU:List (Nat×Nat)) (K:S->Prop) (s:S):Prop:=
 ∃ro,DY (nB ro 0 ops) dU s.nx s.slots=true/\jw C s.nx 0 (nB ro 0 ops) K s
def aw(C:aS):aT->(Exit->S->Prop)->S->Prop
 | .skip,Q,s=>Q .normal s
 | .KY ops,Q,s=>jw C s.nx 0 ops (fun s'=>Q .normal {s' with nx:=s.nx+ops.length}) s
 | .seq a b,Q,s=>aw C a (jx (aw C b Q) Q) s
 | .join a b,Q,s=>aw C a (jx (down (aw C b Q)) Q) s
 | .cond c a b,Q,s=>an (aF s c) fun
   | .bool t=>(t=true->aw C a Q s)/\(t=false->aw C b Q s)
   |_=>False
 | .block id c,Q,s=>aw C c (gq id Q) s
 | .loop c,Q,s=>down (fun s=>∃n,nG (aw C c) Q n s) s
 | .exit id,Q,s=>Q (.exit id) s
 | .ret,Q,s=>Q .ret s
 | .scope l c r,Q,s=>aw C c (mJ l (aw C r (AB Q)) Q) s
 | .label _,Q,s=>Q .normal s
 | .goto l,Q,s=>Q (.goto l) s
 | .ff ops,Q,s=>eE C s.nx 0 ops (fun s'=>Q .normal {s' with nx:=s.nx+ops.length}) (fun p s'=>Q (.panic (i7 p)) {s' with nx:=s.nx+ops.length}) s
 | .kL ops dU,Q,s=>∃ids,(er ids&&kg ids)=true/\an (bq s.boxes ids) fun css=>S3 C ops dU (fun s'=>Q .normal {s' with nx:=s.nx+ops.length}) (gS ids css s)
 | .mI g ps wr as bd,Q,s=>an (aF s g) fun gv=>∃xs,C.i gv xs/\(∀x∈xs,x.length=ps.length)/\∃F:Nat->S->Prop,down (F 0) s/\(∀i s',F i s'->aF s' g=some gv)/\
   (∀i x s',xs[i]? =some x->F i s'->aw C as (r9 (aw C bd (IC wr (F (i+1)) Q))) (oH ps x s'))/\∀s',F xs.length s'->Q .normal s'
def gj(P:Program) (t:TypeId):Option Nat:=(P.info? t).map (·.size)
def nC(P:Program) (t:TypeId):Bool:=
 match P.underlying t with
 |some (.struct _)|some (.array _ _)=>true
 |_=>false
def AD(P:Program) (t:TypeId):Option (Option Nat):=
 match P.underlying t with
 |some (.struct _)|some (.array _ _)=>(gj P t).map some
 |some _=>some none
 |none=>none
def zeroOf(P:Program) (t:TypeId):Option (List AV):=
 match(P.info? t).bind (·.zero)with
 |some z=>z.cells.toList.mapM KZ
 |none=>none
def dr:Operand->Option bB
 | .tmp t=>some (.t t)
 | .const v=>(ofV v).map .k
 | .func f=>some (.k (.fn (.func f) [] []))
 | .global _=>none
def gl(l:Array Operand):Option (List bB):=l.toList.mapM dr
def wH(P:Program) (s:TypeId) (f:Nat):Option Field:=
 match P.underlying s with
 |some (.struct fs)=>fs[f]?
 |_=>none
def Gw(P:Program) (rec:TypeId->Option (List CK)):List Field->Nat->Option (List CK)
 |[],_=>some []
 |f::fs,off=>
  if f.name = "_" ∨ f.offset ≠ off then none else
  match rec f.type with
  |some ks=>if gj P f.type=some ks.length/\0<ks.length then(Gw P rec fs (off+ks.length)).map (ks++·)else none
  |none=>none
def mK(P:Program):Nat->TypeId->Option (List CK)
 |0,_=>none
 |d+1,t=>match P.underlying t with
  |some .bool=>some [.b]
  |some (.int _)=>some [.i]
  |some (.float _)=>some [.f]
  |some .string=>some [.s]
  |some (.struct fs)=>if P.stoodInHeld t then none else Gw P (mK P d) fs.toList 0
  |some (.array n e)=>match mK P d e with
   |some ks=>if gj P e=some ks.length then some (List.replicate n ks).flatten else none
   |none=>none
  |_=>none
def cEq(P:Program) (t:TypeId) (neg:Bool) (x y:bB):Option bW:=
 match mK P 20 t with
 |some ks=>if nC P t&& !P.eqGuardType P.depth t then some (.eqc ks neg x y)else none
 |none=>none
def JP(P:Program) (t:TypeId):Bool:=
 match P.underlying t with
 |some (.int _)|some (.float _)=>true
 |_=>false
def Mx(P:Program) (t:TypeId):Bool:=
 match P.underlying t with
 |some .bool=>true
 |_=>false
def cg(P:Program) (f:FuncId):Bool:=
 match P.funcs[f]? with
 | some fn => fn.name != "runtime.NumGoroutine" && fn.body.isSome
 |none=>false
def JQ(P:Program) (t:TypeId) (i:Nat):Option (Nat×Nat):=
 match P.underlying t with
 |some (.struct fs)=>match fs[i]? with
  |some f=>(gj P f.type).map fun z=>(f.offset,z)
  |none=>none
 |some (.array _ e)=>(gj P e).map fun z=>(i*z,z)
 |_=>none
def yH(P:Program) (t:TypeId):List (Nat×Operand)->Option (List (Nat×Nat×bB))
 |[]=>some []
 |(i,x)::r=>match JQ P t i,dr x,yH P t r with
  |some (o,z),some x,some ps=>some ((o,z,x)::ps)
  |_,_,_=>none
def sliceB(P:Program) (t:TypeId):Bool:=match P.underlying t with|some (.slice _)=>true|_=>false
def E3(P:Program) (t:TypeId):Bool:=
 match P.underlying t with
 |some (.struct fs)=>fs.toList.all fun f=>(gj P f.type).isSome
 |some (.array _ e)=>(gj P e).isSome
 |_=>false
def sg(zs:Nat):List (Nat×Nat×bB)->Bool
 |[]=>true
 |(o,z,_)::r=>decide (o+z<=zs)&&sg zs r
def cOpt:Option Operand->Option (Option bB)
 |none=>some none
 |some x=>(dr x).map some
def JR(P:Program) (s d:TypeId) (x:bB):Option bW:=
 match P.underlying s,P.underlying d with
 |some (.int _),some (.int k)=>some (.oG k x)
 |some (.int _),some (.float k)=>some (.DH k x)
 |some (.float _),some (.int k)=>some (.Gt k x)
 |_,_=>none
def vD(P:Program):List TypeId->Bool
 |[]=>false
 |t::r=>(match P.underlying t with|some (.pointer _)=>true|_=>false)||vD P r
def S4(P:Program) (f:FuncId):Option Xt:=
 match P.funcs[f]? with
 |some fn=>if fn.body.isNone&&(Extern.findNext fn).isNone then
   if fn.name == "math.Float64bits" then some .Gs
   else if fn.name == "math.Float64frombits" then some .ffrom
   else if fn.name == "math.RoundToEven" then some .rte
   else none
  else none
 |none=>none
def Gx(P:Program) (c:Call):Option bW:=
 match c.callee with
 | .value (.func f)=>if cg P f then(gl c.args).map (if vD P c.argTypes.toList then .bI f else .call f)
  else match S4 P f,c.args.toList with
   |some e,[x]=>(dr x).map (.xt e)
   |_,_=>none
 | .value g=>match dr g,gl c.args with
  |some g,some as=>some (if vD P c.argTypes.toList then .fQ g as else .eP g as)
  |_,_=>none
 | .builtin .len=>match c.argTypes[0]?,c.args[0]? with
  |some t,some x=>match P.underlying t with
   |some (.slice _)=>(dr x).map .KV
   |some (.array n _)=>some (.Ms n)
   |_=>none
  |_,_=>none
 | .builtin .append=>match c.argTypes.toList,c.args.toList with
  |[t,t'],[x,y]=>if t=t' then match P.underlying t,dr x,dr y with
    |some (.slice e),some x,some y=>match P.info? e with
     |some i=>match i.zero with
      |some z=>if 0<i.size&&z.cells.size==i.size&&0<i.bytes then some (.app e i.size i.bytes x y)else none
      |none=>none
     |none=>none
    |_,_,_=>none
   else none
  |_,_=>none
 | .builtin .max=>(gl c.args).map (.mm true)
 | .builtin .min=>(gl c.args).map (.mm false)
 |_=>none
def Su(P:Program):Op->Option bW
 | .move x| .assign x=>(dr x).map .mv
 | .pick c a b=>match dr c,dr a,dr b with
  |some c,some a,some b=>some (.pick c a b)
  |_,_,_=>none
 | .alloc t=>(zeroOf P t).map .alloc
 | .box _ x=>(dr x).map .box
 | .build t ps=>match zeroOf P t,yH P t ps.toList with
  |some zs,some ps=>if sg zs.length ps&&E3 P t then some (.build zs ps)else none
  |_,_=>none
 | .buildSlice t n ps=>match P.underlying t with
  |some (.slice e)=>match zeroOf P e,gj P e,ps.toList.mapM (fun p=>dr p.2)with
   |some zs,some z,some xs=>if n*z<=16777216&&0<z&&zs.length==z&&ps.toList.map (·.1)==List.range n then some (.mz e z xs)else none
   |_,_,_=>none
  |_=>none
 | .load t x=>match AD P t,dr x with
  |some r,some x=>some (.ld x r)
  |_,_=>none
 | .store t x v=>match gj P t,dr x,dr v with
  |some z,some x,some v=>some (.st x v z)
  |_,_,_=>none
 | .nilCheck x=>(dr x).map .nc
 | .binOp op t x y _=>match dr x,dr y with
  |some x,some y=>
   if JP P t then some (.bin op x y)
   else if Mx P t then(match op with| .eql=>some (.bb false x y)| .neq=>some (.bb true x y)|_=>none)
   else if sliceB P t then(match op,y with| .eql,.k .aL=>some (.SY false x)| .neq,.k .aL=>some (.SY true x)|_,_=>none)
   else match op with
    | .eql=>cEq P t false x y
    | .neq=>cEq P t true x y
    |_=>none
  |_,_=>none
 | .unOp op _ x=>(dr x).map (.un op)
 | .convert s d x=>(dr x).bind (JR P s d)
 | .fieldAddr s x f=>match wH P s f,dr x with
  |some fd,some x=>if gj P fd.type==some 0||(gj P fd.type).isNone then none else some (.fa x fd.offset)
  |_,_=>none
 | .field s x f=>match wH P s f,dr x with
  |some fd,some x=>(AD P fd.type).map (.EZ x fd.offset)
  |_,_=>none
 | .indexAddr t x i=>match P.underlying t,dr x,dr i with
  |some (.array n e),some x,some i=>(gj P e).map (.Gj x i n)
  |some (.slice e),some x,some i=>(gj P e).map (.Pm x i)
  |_,_,_=>none
 | .index t x i=>match P.underlying t,dr x,dr i with
  |some (.array n e),some x,some i=>match gj P e,AD P e with
   |some z,some r=>some (.DU x i n z r)
   |_,_=>none
  |some .string,some x,some i=>some (.WS x i)
  |_,_,_=>none
 | .extract x i=>(dr x).map (.ext · i)
 | .makeFunc (.func f) a b=>match gl a,gl b with
  |some a,some b=>if cg P f then some (.rW (.func f) a b)else none
  |_,_=>none
 | .slice t x lo hi none=>match P.underlying t,dr x,cOpt lo,cOpt hi with
  |some (.slice e),some x,some lo,some hi=>(gj P e).map fun z=>.SX z x lo hi
  |some (.array n e),some x,some none,some none=>(gj P e).map fun z=>.Sq x n z
  |some (.array n e),some x,some none,some (some hi)=>(gj P e).map fun z=>.Wn x n z hi
  |_,_,_,_=>none
 | .call c=>Gx P c
 |_=>none
def WZ(P:Program) (ops:List Oper) (y:Nat):Option Operand:=
 match ops.find? (fun o=>o.dst==some y)with
 |some o=>match o.op with
  | .slice t x none (some _) none=>match P.underlying t with
   |some (.array _ _)=>some x
   |_=>none
  |_=>none
 |none=>none
def Bh(P:Program) (ops:List Oper):Op->Option bW
 | .call c=>match c.callee,c.argTypes.toList,c.args.toList with
  | .builtin .append,[t,t'],[.const (.slice none 0 0),.tmp y]=>if t=t' then match P.underlying t,(WZ P ops y).bind dr with
    |some (.slice e),some x=>match P.info? e with
     |some i=>match i.zero with
      |some z=>if 0<i.size&&z.cells.size==i.size&&0<i.bytes then some (.DI e i.size i.bytes (.t y) x)else none
      |none=>none
     |none=>none
    |_,_=>none
   else none
  |_,_,_=>none
 |_=>none
def Po(P:Program) (ops:List Oper) (o:Op):Option bW:=
 match Bh P ops o with
 |some c=>some c
 |none=>Su P o
def E4(ops:Array Oper):Option (Nat×Bool)->Option (Option (Nat×Bool))
 |none=>some none
 |some (j,w)=>match(ops[j]?).bind (·.dst)with
  |some t=>some (some (t,w))
  |none=>none
def uR(P:Program) (ops:Array Oper) (o:Oper):Option CO:=
 match Po P ops.toList o.op,E4 ops o.guard with
 |some c,some g=>some ⟨o.dst,c,g⟩
 |_,_=>none
def yI(P:Program) (ops:Array Oper):List Oper->Option (List CO)
 |[]=>some []
 |o::r=>match uR P ops o,yI P ops r with
  |some c,some cs=>some (c::cs)
  |_,_=>none
def waits(ops:List Oper) (i:Nat) (oj:Oper):Bool:=
 oj.after.any fun e=>Region.binds .any e&&(e.on==i||match ops[e.on]? with
  |some ok=>ok.after.any fun e'=>Region.binds .any e'&&e'.on==i
  |none=>false)
def nH(dU:List (Nat×Nat)) (ops:List Oper) (i:Nat) (x:CO):Nat->List Oper->List CO->Bool
 |j,oj::os,y::ys=>(decide (j<=i)||oj.after.any (fun e=>Region.binds .any e&&e.on==i)||x.apart y||waits ops i oj||dU.contains (i,j))&&nH dU ops i x (j+1) os ys
 |_,_,_=>true
def mL(dU:List (Nat×Nat)) (ops:List Oper) (cos:List CO):Nat->List Oper->List CO->Bool
 |i,oi::os,x::xs=>oi.after.all (fun e=>!Region.binds .any e||decide (e.on<i))&&nH dU ops i x 0 ops cos&&mL dU ops cos (i+1) os xs
 |_,_,_=>true
def pX(dU:List (Nat×Nat)) (ops:List Oper) (cos:List CO):Bool:=mL dU ops cos 0 ops cos
def My(ops:List Oper) (i:Nat) (x:CO):Nat->List Oper->List CO->List (Nat×Nat)
 |j,oj::os,y::ys=>(if decide (j<=i)||oj.after.any (fun e=>Region.binds .any e&&e.on==i)||x.apart y||waits ops i oj then[]else[(i,j)])++My ops i x (j+1) os ys
 |_,_,_=>[]
def JS(ops:List Oper) (cos:List CO):Nat->List CO->List (Nat×Nat)
 |i,x::xs=>My ops i x 0 ops cos++JS ops cos (i+1) xs
 |_,[]=>[]
def JT(cos:List CO):List (Nat×Nat)->Bool
 |[]=>true
 |(i,j)::r=>(match cos[i]?,cos[j]? with|some x,some y=>x.indep y|_,_=>false)&&JT cos r
def zeroV(P:Program) (t:TypeId):Option AV:=((P.info? t).bind (·.zero)).bind ofV
def pY(P:Program) (t:TypeId):Bool:=match P.underlying t with|some (.interface _)=>true|_=>false
def Pp(P:Program) (t:TypeId):Bool:=match P.underlying t with|some (.pointer _)=>true|_=>false
def Sv(P:Program) (c:Call):Option Mt:=
 match c.callee with
 | .value (.func f)=>if cg P f then(gl c.args).map (if vD P c.argTypes.toList then .bI f else .call f)else none
 | .value (.tmp g)=>(gl c.args).map (.eP (vD P c.argTypes.toList) (.t g))
 | .builtin .copy=>match c.argTypes.toList,c.args.toList with
  |[t,_],[x,y]=>match P.underlying t,dr x,dr y with
   |some (.slice e),some x,some y=>if gj P e==some 1 then some (.WX e x y)else none
   |_,_,_=>none
  |_,_=>none
 |_=>none
def W0(P:Program) (op:BinOp) (t:TypeId) (x y:Operand):Option Mt:=
 match op,y with
 | .eql,.const .nilIface=>if pY P t then(dr x).map (.SZ false)else none
 | .neq,.const .nilIface=>if pY P t then(dr x).map (.SZ true)else none
 | .eql,.const (.pointer none)=>if Pp P t then(dr x).map (.Wp false)else none
 | .neq,.const (.pointer none)=>if Pp P t then(dr x).map (.Wp true)else none
 |_,_=>none
def xOp(P:Program):Op->Option Mt
 | .panic x=>(dr x).map .WT
 | .makeSlice t l c=>match P.underlying t,dr l,dr c with
  |some (.slice e),some l,some c=>match P.info? e with
   |some i=>if i.size==1&&i.zero.isSome&&decide (0<i.bytes)then some (.WW e i.bytes l c)else none
   |none=>none
  |_,_,_=>none
 | .makeInterface t x=>if pY P t||(P.underlying t).isNone then none else(dr x).map (.WU t)
 | .typeAssert x _ t true=>if pY P t||(P.underlying t).isNone then none else match zeroV P t,dr x with
  |some z,some x=>some (.WV t z x)
  |_,_=>none
 | .binOp op t x y _=>W0 P op t x y
 | .makeFunc (.func f) a b=>if a.isEmpty&& !b.isEmpty&&cg P f then(gl b).map (.Wo f)else none
 | .call c=>Sv P c
 |_=>none
def wI(P:Program) (ops:Array Oper) (o:Oper):Option XO:=
 match xOp P o.op with
 |some x=>match E4 ops o.guard with
  |some g=>some ⟨o.dst,x,g⟩
  |none=>none
 |none=>(uR P ops o).map fun c=>⟨c.dst,.o c.op,c.g⟩
def si(P:Program) (ops:Array Oper):List Oper->Option (List XO)
 |[]=>some []
 |o::r=>match wI P ops o,si P ops r with
  |some c,some cs=>some (c::cs)
  |_,_=>none
def Gy:List XO->List Nat
 |[]=>[]
 |o::r=>(match o.dst with|some d=>[d]|none=>[])++Gy r
def mM(n:Nat):List XO->Bool
 |[]=>true
 |o::r=>(match o.dst with|some d=>decide (d<n)|none=>true)&&mM n r
def W4:Code->Bool
 | .region ..=>true
 | .skip=>true
 |_=>false
def dstsOf:List CO->List Nat
 |[]=>[]
 |o::r=>(match o.dst with|some d=>[d]|none=>[])++dstsOf r
def aT.writes:aT->List Nat
 | .KY ops=>dstsOf ops
 | .kL ops _=>dstsOf ops
 | .seq a b| .join a b| .cond _ a b=>a.writes++b.writes
 | .block _ c| .loop c=>c.writes
 | .mI _ _ wr _ _=>wr
 | .scope _ c r=>c.writes++r.writes
 | .ff ops=>Gy ops
 |_=>[]
def aT.after(l:Nat):aT->Option aT
 | .seq a b| .join a b=>match a.after l with
  |some r=>some (.join r b)
  |none=>b.after l
 | .label l'=>if l'==l then some .skip else none
 |_=>none
def aT.labels:aT->List Nat
 | .seq a b| .join a b=>a.labels++b.labels
 | .label l=>[l]
 |_=>[]
def bJ(m:Bool) (P:Program):Code->Option aT
 | .skip=>some .skip
 | .region _ ops kP=>if m&& !kP then(si P ops ops.toList).map .ff else match yI P ops ops.toList with
  |some cos=>if kP then
    match JS ops.toList cos 0 cos with
    |[]=>if pX [] ops.toList cos then some (.KY cos)else none
    |dU=>if pX dU ops.toList cos&&JT cos dU then some (.kL cos dU)else none
   else some (.KY cos)
  |none=>none
 | .seq a b=>match bJ m P a,bJ m P b with
  |some x,some y=>some (if W4 a then .seq x y else .join x y)
  |_,_=>none
 | .cond c a b=>match dr c,bJ m P a,bJ m P b with
  |some c,some a,some b=>some (.cond c a b)
  |_,_,_=>none
 | .block id c=>(bJ m P c).map (.block id)
 | .loop c=>(bJ m P c).map .loop
 | .exit id=>some (.exit id)
 | .ret=>some .ret
 | .label l=>some (.label l)
 | .goto l=>some (.goto l)
 | .scope c=>match bJ m P c with
  |some c=>match c.labels with
   |[l]=>(c.after l).map (.scope l c)
   |_=>none
  |none=>none
 | .rangeFunc g ps as bd=>match dr g,bJ m P as,bJ m P bd with
  |some g,some a,some b=>
   let wr:=ps.toList++a.writes++b.writes
   if g.rd.all (fun t=>!wr.contains t)then some (.mI g ps.toList wr a b)else none
  |_,_,_=>none
 |_=>none
abbrev abM (P:Program):Code->Option aT:=bJ false P
def i4(n:Nat):List CO->Bool
 |[]=>true
 |o::r=>(match o.dst with|some d=>decide (d<n)|none=>true)&&i4 n r
def aT.fits(n:Nat):aT->Bool
 | .KY ops=>i4 n ops
 | .kL ops _=>i4 n ops
 | .seq a b| .join a b| .cond _ a b=>a.fits n&&b.fits n
 | .block _ c| .loop c=>c.fits n
 | .scope _ c r=>c.fits n&&r.fits n
 | .ff ops=>mM n ops
 | .mI _ ps wr a b=>ps.all (fun t=>decide (t<n))&&a.fits n&&b.fits n&&ps.all (fun t=>wr.contains t)&&a.writes.all (fun t=>wr.contains t)&&b.writes.all (fun t=>wr.contains t)
 |_=>true
inductive gG where
 |tmp (t:Nat)
 |cell (t:Nat) (sz:Option Nat)
 deriving Inhabited
def Gz(P:Program):ResultVar->Option gG
 | .tmp t=>some (.tmp t)
 | .cell a t=>(AD P t).map (.cell a)
structure bM where
 nt:Nat
 res:List gG
 code:aT
def pZ(m:Bool) (P:Program) (f:FuncId):Option bM:=
 match P.funcs[f]? with
 |some fn=>match fn.body,fn.results.toList.mapM (Gz P)with
  |some c,some rs=>match bJ m P c with
   |some cc=>if cc.fits fn.ntmps&&cg P f then some ⟨fn.ntmps,rs,cc⟩else none
   |none=>none
  |_,_=>none
 |none=>none
abbrev bF (P:Program) (f:FuncId):Option bM:=pZ false P f
open Go.RowKit (Below)
inductive DV (w:World) (π:Nat->Nat->Prop):AV->Value->Prop
 |bool (b:Bool):DV w π (.bool b) (.bool b)
 |int (k:IntKind) (n:Int):DV w π (.int k n) (.int k n)
 |float (k:FloatKind) (n:Nat):DV w π (.float k n) (.float k n)
 |str (s:ByteArray):DV w π (.str s) (.string s)
 |Aw:DV w π .Aw (.pointer none)
 |aL:DV w π .aL (.slice none 0 0)
 |eK:DV w π .eK .nilFunc
 |gk:DV w π .gk .nilIface
 |eM (n:Nat):DJ n=true->DV w π .eM (.float .f64 n)
 |iface (t:Nat) (a:AV) (v:Value):DV w π a v->DV w π (.iface t a) (.iface t v)
 |agg (as:List AV) (vs:Array Value):as.length=vs.size->(∀a∈as,a.scalar=true)->(∀(i:Nat) (a:AV) (v:Value),as[i]? =some a->vs[i]? =some v->DV w π a v)->DV w π (.agg as) (.agg vs)
 |cN (as:List AV) (vs:Array Value):as.length=vs.size->(∀(i:Nat) (a:AV) (v:Value),as[i]? =some a->vs[i]? =some v->DV w π a v)->DV w π (.cN as) (.tuple vs)
 |fn (f:Fn) (as:List AV) (vs:Array Value) (bs:List AV) (us:Array Value):as.length=vs.size->bs.length=us.size->
   (∀(i:Nat) (a:AV) (v:Value),as[i]? =some a->vs[i]? =some v->DV w π a v)->(∀(i:Nat) (a:AV) (v:Value),bs[i]? =some a->us[i]? =some v->DV w π a v)->DV w π (.fn f as bs) (.func f vs us)
 |sl (xs:List (List AV)) (B off cap z:Nat) (f:Nat->Nat->Value):xs.length<=cap->(∀(i:Nat) (r:List AV),xs[i]? =some r->r.length=z)->
   (∀(i j:Nat) (r:List AV) (a:AV),xs[i]? =some r->r[j]? =some a->a.scalar=true)->
   (∀(i j:Nat) (r:List AV) (a:AV),xs[i]? =some r->r[j]? =some a->π B (off+i*z+j))->
   (∀(i j:Nat) (r:List AV) (a:AV),xs[i]? =some r->r[j]? =some a->w.cell? ⟨B,off+i*z+j,none⟩=some (f i j))->
   (∀(i j:Nat) (r:List AV) (a:AV),xs[i]? =some r->r[j]? =some a->DV w π a (f i j))->DV w π (.sl xs) (.slice (some ⟨B,off,none⟩) xs.length cap)
 |Mm (A:Addr):DV w π (.sl []) (.slice (some A) 0 0)
 |ref (cs:List AV) (B off:Nat) (f:Nat->Value):(∀(j:Nat) (a:AV),cs[j]? =some a->a.scalar=true)->(∀(j:Nat) (a:AV),cs[j]? =some a->π B (off+j))->
   (∀(j:Nat) (a:AV),cs[j]? =some a->w.cell? ⟨B,off+j,none⟩=some (f j))->(∀(j:Nat) (a:AV),cs[j]? =some a->DV w π a (f j))->DV w π (.ref cs) (.pointer (some ⟨B,off,none⟩))
theorem DV.mono{w w':World} {π π':Nat->Nat->Prop} (hp:∀b o,π b o->π' b o) (hc:∀b o,π b o->w'.cell? ⟨b,o,none⟩=w.cell? ⟨b,o,none⟩) {a:AV} {v:Value} (h:DV w π a v):DV w' π' a v:=by
 induction h with
 |bool|int|float|str|Aw|aL|eK|gk=>constructor
 |iface t a v _ ih=>exact .iface t a v ih
 |eM n h=>exact .eM n h
 |agg as vs hl hs _ ih=>exact .agg as vs hl hs ih
 |cN as vs hl _ ih=>exact .cN as vs hl ih
 |fn f as vs bs us h1 h2 _ _ ih1 ih2=>exact .fn f as vs bs us h1 h2 ih1 ih2
 |sl xs B off cap z f h1 h2 h3 h4 h5 _ ih=>
  exact .sl xs B off cap z f h1 h2 h3 (fun i j r a hr ha=>hp _ _ (h4 i j r a hr ha)) (fun i j r a hr ha=>(hc _ _ (h4 i j r a hr ha)).trans (h5 i j r a hr ha)) ih
 |Mm A=>exact .Mm A
 |ref cs B off f h1 h2 h3 _ ih=>exact .ref cs B off f h1 (fun j a ha=>hp _ _ (h2 j a ha)) (fun j a ha=>(hc _ _ (h2 j a ha)).trans (h3 j a ha)) ih
def jt(w:World) (π:Nat->Nat->Prop) (as:List AV) (vs:List Value):Prop:=
 as.length=vs.length/\∀(i:Nat) (a:AV) (v:Value),as[i]? =some a->vs[i]? =some v->DV w π a v
theorem jt.mono{w w':World} {π π':Nat->Nat->Prop} (hp:∀b o,π b o->π' b o) (hc:∀b o,π b o->w'.cell? ⟨b,o,none⟩=w.cell? ⟨b,o,none⟩) {as:List AV} {vs:List Value} (h:jt w π as vs):jt w' π' as vs:=
 ⟨h.1,fun i a v ha hv=>(h.2 i a v ha hv).mono hp hc⟩
theorem jt.nil(w:World) (π:Nat->Nat->Prop):jt w π [] []:=⟨rfl,fun i a v h=>by simp at h⟩
theorem jt.cons{w:World} {π:Nat->Nat->Prop} {a:AV} {v:Value} {as:List AV} {vs:List Value} (h:DV w π a v) (hs:jt w π as vs):jt w π (a::as) (v::vs):=by
 refine⟨by simp[hs.1],fun i x u hx hu=>?_⟩
 cases i with
 |zero=>simp at hx hu;subst hx;subst hu;exact h
 |succ i=>exact hs.2 i x u (by simpa using hx) (by simpa using hu)
theorem jt.append{w:World} {π:Nat->Nat->Prop} {as bs:List AV} {vs us:List Value} (h:jt w π as vs) (k:jt w π bs us):jt w π (as++bs) (vs++us):=by
 refine⟨by simp[h.1,k.1],fun i x u hx hu=>?_⟩
 by_cases hi:i<as.length
 ·exact h.2 i x u (by rwa[List.getElem?_append_left hi]at hx) (by rwa[List.getElem?_append_left (by rw[<-h.1];exact hi)]at hu)
 ·rw[List.getElem?_append_right (by omega)]at hx
  rw[List.getElem?_append_right (by rw[<-h.1];omega)]at hu
  exact k.2 (i-as.length) x u hx (by rw[h.1];exact hu)
theorem jt.get{w:World} {π:Nat->Nat->Prop} {as:List AV} {vs:List Value} (h:jt w π as vs) {i:Nat} {a:AV} (ha:as[i]? =some a):∃v,vs[i]? =some v/\DV w π a v:=by
 have hi:i<as.length:=by
  rcases Nat.lt_or_ge i as.length with h|h
  ·exact h
  ·rw[List.getElem?_eq_none h]at ha;cases ha
 have hv:vs[i]? =some vs[i]!:=by
  rw[List.getElem?_eq_getElem (by rw[<-h.1];exact hi)]
  simp[getElem!_pos vs i (by rw[<-h.1];exact hi)]
 exact⟨_,hv,h.2 i a _ ha hv⟩
theorem DV.JU{w:World} {π:Nat->Nat->Prop} {a:AV} {v:Value} (h:DV w π a v) (hs:a.scalar=true):v.oneCell'=true:=by
 cases h<;>first|rfl|(simp[AV.scalar]at hs)
theorem DV.cells{w:World} {π:Nat->Nat->Prop} {a:AV} {v:Value} (h:DV w π a v) (ht:∀vs,a≠.cN vs):jt w π a.cells v.cells.toList/\∀x∈a.cells,x.scalar=true:=by
 cases h with
 |agg as vs hl hs hd=>exact⟨⟨by simpa[AV.cells,Value.cells]using hl,fun i a v ha hv=>hd i a v ha (by simpa[Value.cells]using hv)⟩,hs⟩
 |cN as vs=>exact absurd rfl (ht as)
 |bool b=>exact⟨.cons (.bool b) (.nil _ _),by simp[AV.cells,AV.scalar]⟩
 |int k n=>exact⟨.cons (.int k n) (.nil _ _),by simp[AV.cells,AV.scalar]⟩
 |float k n=>exact⟨.cons (.float k n) (.nil _ _),by simp[AV.cells,AV.scalar]⟩
 |str s=>exact⟨.cons (.str s) (.nil _ _),by simp[AV.cells,AV.scalar]⟩
 |Aw=>exact⟨.cons .Aw (.nil _ _),by simp[AV.cells,AV.scalar]⟩
 |aL=>exact⟨.cons .aL (.nil _ _),by simp[AV.cells,AV.scalar]⟩
 |eK=>exact⟨.cons .eK (.nil _ _),by simp[AV.cells,AV.scalar]⟩
 |gk=>exact⟨.cons .gk (.nil _ _),by simp[AV.cells,AV.scalar]⟩
 |iface t a v h=>exact⟨.cons (.iface t a v h) (.nil _ _),by simp[AV.cells,AV.scalar]⟩
 |eM n h=>exact⟨.cons (.eM n h) (.nil _ _),by simp[AV.cells,AV.scalar]⟩
 |fn f as vs bs us h1 h2 h3 h4=>exact⟨.cons (.fn f as vs bs us h1 h2 h3 h4) (.nil _ _),by simp[AV.cells,AV.scalar]⟩
 |ref cs B off f h1 h2 h3 h4=>exact⟨.cons (.ref cs B off f h1 h2 h3 h4) (.nil _ _),by simp[AV.cells,AV.scalar]⟩
 |Mm A=>exact⟨.cons (.Mm A) (.nil _ _),by simp[AV.cells,AV.scalar]⟩
 |sl xs B off cap z f h1 h2 h3 h4 h5 h6=>exact⟨.cons (.sl xs B off cap z f h1 h2 h3 h4 h5 h6) (.nil _ _),by simp[AV.cells,AV.scalar]⟩
theorem JV{w:World} {π:Nat->Nat->Prop} {v:Value} {a:AV} (h:KZ v=some a):DV w π a v/\a.scalar=true:=by
 unfold KZ at h
 split at h<;>first|(cases h;exact⟨by constructor,rfl⟩)|cases h
theorem yJ{w:World} {π:Nat->Nat->Prop}:∀(l:List Value) (as:List AV),l.mapM KZ=some as->jt w π as l/\∀a∈as,a.scalar=true
 |[],as,h=>by simp at h;subst h;exact⟨.nil _ _,by simp⟩
 |v::l,as,h=>by
  simp only[List.mapM_cons,Option.bind_eq_bind,Option.bind_eq_some_iff,Option.pure_def,Option.some.injEq]at h;obtain⟨a,ha,as',has,rfl⟩:=h
  have h1:=JV (w:=w) (π:=π) ha
  have h2:=yJ (w:=w) (π:=π) l as' has
  exact⟨.cons h1.1 h2.1,by simpa using⟨h1.2,h2.2⟩⟩
theorem Mz{w:World} {π:Nat->Nat->Prop} {v:Value} {a:AV} (h:ofV v=some a):DV w π a v:=by
 unfold ofV at h;split at h
 ·rename_i cs
  simp only[Option.map_eq_some_iff]at h;obtain⟨as,has,rfl⟩:=h
  have h2:=yJ (w:=w) (π:=π) _ _ has
  exact .agg as cs (by simpa using h2.1.1) h2.2 (fun i a v ha hv=>h2.1.2 i a v ha (by simpa using hv))
 ·exact(JV h).1
structure gb where
 n:Nat
 X:Nat->Prop
 β:Nat->Nat
def gb.ok(F:gb) (B:Nat):Prop:=F.n<=B\/F.X B
def gb.mA(F:gb) (b B:Nat):Prop:=F.n<=B\/(b<4/\F.X B)
def gb.top(w:World):gb:=⟨w.heap.size,fun _=>False,id⟩
structure uS (n:gb) (w w':World):Prop where
 os:w'.os=w.os
 tape:w'.tape=w.tape
 output:w'.output=w.output
 size:w.heap.size<=w'.heap.size
 block:∀k,k<n.n->¬n.X k->w'.heap[k]? =w.heap[k]?
 /-- what is no variables' block lies as it lay -/
 others:∀(k:Nat) (o:Obj),w.heap[k]? =some o->o.isCells=false->w'.heap[k]? =some o
theorem uS.refl(n:gb) (w:World):uS n w w:=⟨rfl,rfl,rfl,Nat.le_refl _,fun _ _ _=>rfl,fun _ _ h _=>h⟩
theorem uS.trans{n:gb} {a b c:World} (h:uS n a b) (k:uS n b c):uS n a c:=
 ⟨k.os.trans h.os,k.tape.trans h.tape,k.output.trans h.output,Nat.le_trans h.size k.size,fun i hi hx=>(k.block i hi hx).trans (h.block i hi hx),fun i o hi ho=>k.others i o (h.others i o hi ho) ho⟩
theorem uS.of{n:gb} {w w':World} (h:Below w.heap.size w w') (hn:n.n<=w.heap.size):uS n w w':=⟨h.os,h.tape,h.output,h.size,fun k hk _=>h.block k (by omega),fun k o hk _=>(h.block k (Array.getElem?_eq_some_iff.1 hk).1).trans hk⟩
theorem uS.below{n:gb} {w w':World} (h:uS n w w') (hX:∀k,¬n.X k):Below n.n w w':=⟨h.os,h.tape,h.output,h.size,fun k hk=>h.block k hk (hX k)⟩
def E5(P:Program) (w:World) (π:Nat->Nat->Prop) (ok:Nat->Prop) (e:Nat) (v:Value):Prop:=
 v=.slice none 0 0\/∃B len cap cur i,v=.slice (some ⟨B,0,none⟩) len cap/\ok B/\w.heap[B]? =some (.cells cur e (0,0))/\len<=cap/\cap<=maxLen/\P.info? e=some i/\cur.size=cap*i.size/\∀o,len*i.size<=o->¬π B o
def iH:Value->Option Nat
 | .slice (some a) _ _=>some a.block
 |_=>none
def DZ(P:Program) (f:FuncId) (args:List AV) (r:AV) (fr:Option Nat):Prop:=
 cg P f=true/\
 ∀(w:World) (π:Nat->Nat->Prop) (vs:List Value),(∀b o,π b o->b<w.heap.size)->jt w π args vs->
  Calls P f vs.toArray w fun e w'=>∃v π',e=.returned v/\Below w.heap.size w w'/\(∀b o,π b o->π' b o)/\(∀b o,π' b o->π b o\/w.heap.size<=b)/\
   (∀b o,π' b o->b<w'.heap.size)/\DV w' π' r v/\∀t,fr=some t->E5 P w' π' (fun B=>w.heap.size<=B) t v
def fh(w:World) (π:Nat->Nat->Prop):List (Option AV)->List Nat->List Value->Prop
 |[],[],[]=>True
 |some a::as,Bs,v::vs=>DV w π a v/\fh w π as Bs vs
 |none::as,B::Bs,v::vs=>v=.pointer (some ⟨B,0,none⟩)/\fh w π as Bs vs
 |_,_,_=>False
def RV(β:Nat->Nat) (τ:Nat->Value) (w:World) (π:Nat->Nat->Prop):SV->Value->Prop
 | .dat a q,v=>DV w π a v/\∀t,q=some t->v=τ t
 | .ptr b off,v=>v=.pointer (some ⟨β b,off,none⟩)
 | .rp cs,v=>∃(B off:Nat) (f:Nat->Value),v=.pointer (some ⟨B,off,none⟩)/\(∀(j:Nat) (a:AV),cs[j]? =some a->a.scalar=true)/\(∀(j:Nat) (a:AV),cs[j]? =some a->π B (off+j))/\
   (∀(j:Nat) (a:AV),cs[j]? =some a->w.cell? ⟨B,off+j,none⟩=some (f j))/\∀(j:Nat) (a:AV),cs[j]? =some a->DV w π a (f j)
 | .undef,v=>v=undef
 | .oF f as bs,v=>∃us:Array Value,v=.func (.func f) #[] us/\fh w π as (bs.map β) us.toList
 | .raw q n,v=>∃B cap,τ q=.slice (some ⟨B,0,none⟩) 0 cap/\v=.slice (some ⟨B,0,none⟩) n cap/\n<=cap
 | .vs b off n _,v=>∃cap,n<=cap/\v=.slice (some ⟨β b,off,none⟩) n cap
def SV.gR(U:Nat->Prop):SV->Prop
 | .dat _ (some q)=>U q
 | .ptr b _=>U b
 | .vs b _ _ _=>U b
 | .oF _ _ bs=>∀b∈bs,U b
 | .raw q _=>U q
 |_=>True
def p8(τ:Nat->Value) (w:World) (π:Nat->Nat->Prop) (B:Nat) (x:bV):Prop:=
 ∃cur el,w.heap[B]? =some (.cells cur el (0,0))/\jt w π x.cells cur.toList/\(∀a∈x.cells,a.scalar=true)/\(∀o q,d7 o x.tags=some q->cur[o]? =some (τ q))/\∀o,¬π B o
def cw(w:World) (π:Nat->Nat->Prop):List (List AV)->List Nat->Prop
 |[],[]=>True
 |cs::css,B::Bs=>p8 (fun _=>undef) w π B ⟨cs,[]⟩/\cw w π css Bs
 |_,_=>False
def gb.js(w:World) (Bs:List Nat):gb:=⟨w.heap.size,fun B=>B∈Bs,fun k=>Bs.getD k 0⟩
def wJ(P:Program) (f:FuncId) (css:List (List AV)) (args:List (Option AV)) (r:AV) (fr:Option Nat) (css':List (List AV)):Prop:=
 cg P f=true/\css'.length=css.length/\css.length<=4/\
 ∀(w:World) (π:Nat->Nat->Prop) (Bs:List Nat) (vs:List Value),(∀b o,π b o->b<w.heap.size)->Bs.Nodup->cw w π css Bs->fh w π args Bs vs->
  Calls P f vs.toArray w fun e w'=>∃v π',e=.returned v/\uS (gb.js w Bs) w w'/\(∀b o,π b o->π' b o)/\(∀b o,π' b o->π b o\/w.heap.size<=b)/\
   (∀b o,π' b o->b<w'.heap.size)/\cw w' π' css' Bs/\DV w' π' r v/\∀t,fr=some t->E5 P w' π' (fun B=>w.heap.size<=B) t v
theorem DV.kM{w:World} {π:Nat->Nat->Prop} {a:AV} (h:Eng.kM a=true):DV w π a (Pn a):=by
 cases a<;>first|(simp[Eng.kM]at h;done)|constructor
theorem DV.flat{w:World} {π:Nat->Nat->Prop} {a:AV} (h:je a=true):DV w π a (wF a):=by
 cases a with
 |agg cs=>
  simp only[je,List.all_eq_true]at h
  refine .agg cs _ (by simp) (fun a ha=>?_) (fun i a v ha hv=>?_)
  ·have:=h a ha;cases a<;>first|rfl|(simp[Eng.kM]at this;done)
  ·simp only[List.getElem?_toArray,List.getElem?_map,ha,Option.map_some,Option.some.injEq]at hv
   subst hv;exact .kM (h a (List.mem_of_getElem? ha))
 |_=>first|exact .kM h|(simp[je,Eng.kM]at h;done)
def Iter(P:Program) (gv:AV) (xs:List (List AV)):Prop:=
 ∃gf caps,gv=.fn (.func gf) [] caps/\cg P gf=true/\(∀x∈xs,∀a∈x,je a=true)/\
 ∀(l:Nat) (J:Nat->World->Prop) (Jx:World->Prop) (W:World) (π:Nat->Nat->Prop) (vs:List Value),(∀b o,π b o->b<W.heap.size)->jt W π caps vs->
  (∀i W',J i W'->∀b o,π b o->W'.cell? ⟨b,o,none⟩=W.cell? ⟨b,o,none⟩)->
  (∀i W W',J i W->Below W.heap.size W W'->J i W')->(∀W W',Jx W->Below W.heap.size W W'->Jx W')->
  (∀n i x W,xs[i]? =some x->J i W->YieldAt Fence.wide n P l (x.map wF).toArray W fun e W'=>(e=.returned (.bool true)/\J (i+1) W')\/(e=.returned (.bool false)/\Jx W'))->
  J 0 W->
  Calls P gf (#[.func (.yield l) #[] #[]]++vs.toArray) W fun e W'=>(∃v,e=.returned v)/\(J xs.length W'\/Jx W')
def Sw(P:Program) (f:FuncId) (css:List (List AV)) (args:List (Option AV)) (p:AV) (css':List (List AV)):Prop:=
 cg P f=true/\css'.length=css.length/\css.length<=4/\
 ∀(w:World) (π:Nat->Nat->Prop) (Bs:List Nat) (vs:List Value),(∀b o,π b o->b<w.heap.size)->Bs.Nodup->cw w π css Bs->fh w π args Bs vs->
  Calls P f vs.toArray w fun e w'=>∃π',e=.panicked (i7 p)/\uS (gb.js w Bs) w w'/\(∀b o,π b o->π' b o)/\(∀b o,π' b o->π b o\/w.heap.size<=b)/\
   (∀b o,π' b o->b<w'.heap.size)/\cw w' π' css' Bs
def W5(P:Program) (f:FuncId) (args:List AV) (cs:List AV):Prop:=
 cg P f=true/\
 ∀(w:World) (π:Nat->Nat->Prop) (vs:List Value),(∀b o,π b o->b<w.heap.size)->jt w π args vs->
  Calls P f vs.toArray w fun e w'=>∃B π',e=.returned (.pointer (some ⟨B,0,none⟩))/\w.heap.size<=B/\Below w.heap.size w w'/\(∀b o,π b o->π' b o)/\(∀b o,π' b o->π b o\/w.heap.size<=b)/\
   (∀b o,π' b o->b<w'.heap.size)/\p8 (fun _=>undef) w' π' B ⟨cs,[]⟩
def Bi:AV->FrameMode
 | .gk=>.returning
 |p=>.panicking (i7 p)
def MA(P:Program) (f:FuncId) (rv:AV) (css:List (List AV)) (args:List (Option AV)) (css':List (List AV)):Prop:=
 cg P f=true/\css'.length=css.length/\css.length<=4/\
 ∀(w:World) (π:Nat->Nat->Prop) (Bs:List Nat) (vs:List Value),(∀b o,π b o->b<w.heap.size)->Bs.Nodup->cw w π css Bs->fh w π args Bs vs->
  CallsDIn Fence.wide 0 P f vs.toArray (Bi rv) w fun e u' w'=>∃v π',e=.returned v/\settle u'=.returning/\uS (gb.js w Bs) w w'/\(∀b o,π b o->π' b o)/\(∀b o,π' b o->π b o\/w.heap.size<=b)/\
   (∀b o,π' b o->b<w'.heap.size)/\cw w' π' css' Bs
def gb.wK(w:World) (Bs:List Nat) (tb:Nat->Prop):gb:=⟨w.heap.size,fun B=>B∈Bs\/tb B,fun k=>Bs.getD k 0⟩
def E6(P:Program) (w:World) (π:Nat->Nat->Prop) (Bs:List Nat) (ok:Nat->Prop) (tv:Value):Option (Nat×Nat×Nat)->Prop
 |none=>True
 |some (j,o,e)=>∃B cur el,Bs[j]? =some B/\w.heap[B]? =some (.cells cur el (0,0))/\cur[o]? =some tv/\E5 P w π ok e tv/\∀TB,iH tv=some TB->TB∉Bs
def Bj(tg:Option (Nat×Nat×Nat)) (tv:Value) (B:Nat):Prop:=tg.isSome=true/\iH tv=some B
def MB(P:Program) (f:FuncId) (css:List (List AV)) (tg:Option (Nat×Nat×Nat)) (args:List (Option AV)) (r:AV) (css':List (List AV)) (tg':Option (Nat×Nat×Nat)):Prop:=
 cg P f=true/\css'.length=css.length/\css.length<=4/\
 ∀(w:World) (π:Nat->Nat->Prop) (Bs:List Nat) (vs:List Value) (tv:Value),(∀b o,π b o->b<w.heap.size)->Bs.Nodup->cw w π css Bs->fh w π args Bs vs->E6 P w π Bs (fun _=>True) tv tg->
  Calls P f vs.toArray w fun e w'=>∃v π' tv',e=.returned v/\uS (gb.wK w Bs (Bj tg tv)) w w'/\(∀b o,π b o->π' b o)/\(∀b o,π' b o->π b o\/w.heap.size<=b\/Bj tg tv b)/\
   (∀b o,π' b o->b<w'.heap.size)/\(∀b o,π b o->w'.cell? ⟨b,o,none⟩=w.cell? ⟨b,o,none⟩)/\cw w' π' css' Bs/\DV w' π' r v/\E6 P w' π' Bs (fun B=>w.heap.size<=B\/Bj tg tv B) tv' tg'
def Pure(P:Program):aS:=⟨DZ P,wJ P,Iter P,Sw P,W5 P,MA P,MB P⟩
structure Rel (P:Program) (nt:Nat) (n0:gb) (w0:World) (π0:Nat->Nat->Prop) (U:Nat->Prop) (s:S) (a:Act) (w:World) (β:Nat->Nat) (τ:Nat->Value) (π:Nat->Nat->Prop):Prop where
 size:a.tmps.size=nt
 slots:∀t v,lk t s.slots=some v->(∃x,a.tmps[t]? =some x/\RV β τ w π v x)/\v.gR U
 boxes:∀b x,b9 b s.boxes=some x->U b/\n0.mA b (β b)/\p8 τ w π (β b) x/\∀o q,d7 o x.tags=some q->U q
 inj:∀b b' x x',b9 b s.boxes=some x->b9 b' s.boxes=some x'->β b=β b'->b=b'
 live:∀q e,d7 q s.live=some e->U q/\E5 P w π n0.ok e (τ q)
 cq:∀q q' e e' B,d7 q s.live=some e->d7 q' s.live=some e'->iH (τ q)=some B->iH (τ q')=some B->q=q'
 cH:∀q e b x,d7 q s.live=some e->b9 b s.boxes=some x->iH (τ q)≠some (β b)
 below:uS n0 w0 w
 eS:n0.n<=w0.heap.size
 eO:∀b o,π b o->b<w.heap.size
 eF:∀b o,π0 b o->π b o
 dc:∀b o,π b o->π0 b o\/n0.ok b
 mj:∀k,k<4->β k=n0.β k
 jf:∀k,k<4->U k
 kept:∀b o,π0 b o->w.cell? ⟨b,o,none⟩=w0.cell? ⟨b,o,none⟩
open Go.RowKit (Below)
theorem Below.tZ{n:Nat} {w w':World} (h:Below n w w') {b o:Nat} (hb:b<n):w'.cell? ⟨b,o,none⟩=w.cell? ⟨b,o,none⟩:=Below.cell h (p:=⟨b,o,none⟩) hb
theorem fh.mono{w w':World} {π π':Nat->Nat->Prop} (hp:∀b o,π b o->π' b o) (hc:∀b o,π b o->w'.cell? ⟨b,o,none⟩=w.cell? ⟨b,o,none⟩):∀{as:List (Option AV)} {Bs:List Nat} {vs:List Value},fh w π as Bs vs->fh w' π' as Bs vs
 |[],[],[],_=>trivial
 |[],[],v::vs,h=>h.elim
 |[],B::Bs,vs,h=>by cases vs<;>exact h.elim
 |some a::as,Bs,[],h=>by cases Bs<;>exact h.elim
 |some a::as,[],v::vs,h=>⟨h.1.mono hp hc,fh.mono hp hc h.2⟩
 |some a::as,B::Bs,v::vs,h=>⟨h.1.mono hp hc,fh.mono hp hc h.2⟩
 |none::as,[],vs,h=>by cases vs<;>exact h.elim
 |none::as,B::Bs,[],h=>h.elim
 |none::as,B::Bs,v::vs,h=>⟨h.1,fh.mono hp hc h.2⟩
theorem RV.mono{β β':Nat->Nat} {τ τ':Nat->Value} {w w':World} {π π':Nat->Nat->Prop} {U:Nat->Prop} (hβ:∀b,U b->β' b=β b) (hτ:∀b,U b->τ' b=τ b)
  (hp:∀b o,π b o->π' b o) (hc:∀b o,π b o->w'.cell? ⟨b,o,none⟩=w.cell? ⟨b,o,none⟩) {v:SV} {x:Value} (hU:v.gR U) (h:RV β τ w π v x):RV β' τ' w' π' v x:=by
 cases v with
 |dat a q=>
  refine⟨h.1.mono hp hc,fun t ht=>?_⟩
  subst ht;rw[hτ t hU];exact h.2 t rfl
 |ptr b off=>
  show x=_
  rw[hβ b hU];exact h
 |rp cs=>
  obtain⟨B,off,f,hx,h1,h2,h3,h4⟩:=h
  exact⟨B,off,f,hx,h1,fun j a ha=>hp _ _ (h2 j a ha),fun j a ha=>(hc _ _ (h2 j a ha)).trans (h3 j a ha),fun j a ha=>(h4 j a ha).mono hp hc⟩
 |undef=>exact h
 |vs b off n z=>
  obtain⟨cap,h1,h2⟩:=h
  exact⟨cap,h1,by rw[hβ b hU];exact h2⟩
 |oF f as bs=>
  obtain⟨us,h1,h2⟩:=h;refine⟨us,h1,?_⟩
  have e:bs.map β'=bs.map β:=List.map_congr_left fun b hb=>hβ b (hU b hb)
  rw[e];exact h2.mono hp hc
 |raw q n=>
  obtain⟨B,cap,h1,h2⟩:=h
  exact⟨B,cap,by rw[hτ q hU];exact h1,h2⟩
theorem SV.sj{U U':Nat->Prop} (hU:∀n,U n->U' n) {v:SV} (h:v.gR U):v.gR U':=by
 cases v with
 |dat a q=>cases q with
  |none=>trivial
  |some q=>exact hU _ h
 |ptr b off=>exact hU _ h
 |rp cs=>trivial
 |undef=>trivial
 |vs b off n z=>exact hU _ h
 |oF f as bs=>exact fun b hb=>hU _ (h b hb)
 |raw q n=>exact hU _ h
theorem nI{w:World} {B:Nat} {o:Obj} (h:w.heap[B]? =some o):B<w.heap.size:=(Array.getElem?_eq_some_iff.1 h).1
theorem E5.block{P:Program} {w:World} {π:Nat->Nat->Prop} {ok:Nat->Prop} {e B:Nat} {v:Value} (h:E5 P w π ok e v) (hB:iH v=some B):
  ok B/\B<w.heap.size:=by
 rcases h with rfl|⟨B',len,cap,cur,i,rfl,h1,h2,_⟩
 ·simp[iH]at hB
 ·simp[iH]at hB;subst hB;exact⟨h1,nI h2⟩
theorem E5.keep{P:Program} {w w':World} {π π':Nat->Nat->Prop} {ok:Nat->Prop} {e:Nat} {v:Value} (h:E5 P w π ok e v)
  (hb:∀B,iH v=some B->w'.heap[B]? =w.heap[B]?) (hp:∀B o,iH v=some B->π' B o->π B o):E5 P w' π' ok e v:=by
 rcases h with rfl|⟨B',len,cap,cur,i,rfl,h1,h2,h3,h4,h5,h6,h7⟩
 ·exact .inl rfl
 ·exact .inr ⟨B',len,cap,cur,i,rfl,h1,(hb B' rfl).trans h2,h3,h4,h5,h6,fun o ho hc=>h7 o ho (hp B' o rfl hc)⟩
theorem p8.keep{τ τ':Nat->Value} {w w':World} {π π':Nat->Nat->Prop} {U:Nat->Prop} {B:Nat} {x:bV} (h:p8 τ w π B x) (hτ:∀q,U q->τ' q=τ q) (hU:∀o q,d7 o x.tags=some q->U q)
  (hb:w'.heap[B]? =w.heap[B]?) (hp:∀b o,π b o->π' b o) (hc:∀b o,π b o->w'.cell? ⟨b,o,none⟩=w.cell? ⟨b,o,none⟩) (hn:∀o,¬π' B o):p8 τ' w' π' B x:=by
 obtain⟨cur,el,h1,h2,h3,h4,_⟩:=h
 exact⟨cur,el,hb.trans h1,h2.mono hp hc,h3,fun o q hq=>by rw[hτ q (hU o q hq)];exact h4 o q hq,hn⟩
section
variable{P:Program} {nt:Nat} {n0:gb} {w0:World} {π0:Nat->Nat->Prop} {U U':Nat->Prop} {s:S} {a:Act} {w w':World} {β β':Nat->Nat} {τ τ':Nat->Value} {π π':Nat->Nat->Prop}
theorem Rel.frame(R:Rel P nt n0 w0 π0 U s a w β τ π) (hβ:∀b,U b->β' b=β b) (hτ:∀b,U b->τ' b=τ b) (hU:∀n,U n->U' n)
  (hp:∀b o,π b o->π' b o) (hp':∀b o,π' b o->π b o\/w.heap.size<=b) (hpl:∀b o,π' b o->b<w'.heap.size) (hbel:Below w.heap.size w w'):
  Rel P nt n0 w0 π0 U' s a w' β' τ' π':=by
 have hc:∀b o,π b o->w'.cell? ⟨b,o,none⟩=w.cell? ⟨b,o,none⟩:=fun b o h=>Below.tZ hbel (R.eO b o h)
 have hsz:n0.n<=w.heap.size:=Nat.le_trans R.eS R.below.size
 refine⟨R.size,fun t v h=>?_,fun b x h=>?_,fun b b' x x' h h' e=>?_,fun q e h=>?_,fun q q' e e' B h h' hB hB'=>?_,fun q e b x h h' hB=>?_,R.below.trans (.of hbel hsz),R.eS,hpl,fun b o h=>hp _ _ (R.eF b o h),fun b o h=>?_,fun k hk=>by rw[hβ k (R.jf k hk)];exact R.mj k hk,fun k hk=>hU k (R.jf k hk),fun b o h=>(hc b o (R.eF b o h)).trans (R.kept b o h)⟩
 ·obtain⟨⟨x,hx,hv⟩,hu⟩:=R.slots t v h
  exact⟨⟨x,hx,RV.mono hβ hτ hp hc hu hv⟩,SV.sj hU hu⟩
 ·obtain⟨h1,h2,h3,h4⟩:=R.boxes b x h
  rw[hβ b h1]
  have hlt:β b<w.heap.size:=by obtain⟨cur,el,hh,_⟩:=h3;exact nI hh
  refine⟨hU b h1,h2,h3.keep hτ h4 (hbel.block _ hlt) hp hc (fun o ho=>?_),fun o q hq=>hU _ (h4 o q hq)⟩
  rcases hp' _ _ ho with h|h
  ·obtain⟨_,_,_,_,_,_,hn⟩:=h3;exact hn o h
  ·omega
 ·rw[hβ b (R.boxes b x h).1,hβ b' (R.boxes b' x' h').1]at e
  exact R.inj b b' x x' h h' e
 ·obtain⟨h1,h2⟩:=R.live q e h
  rw[hτ q h1]
  refine⟨hU q h1,h2.keep (fun B hB=>hbel.block _ (h2.block hB).2) (fun B o hB ho=>?_)⟩
  rcases hp' _ _ ho with h|h
  ·exact h
  ·have:=(h2.block hB).2;omega
 ·rw[hτ q (R.live q e h).1]at hB
  rw[hτ q' (R.live q' e' h').1]at hB';exact R.cq q q' e e' B h h' hB hB'
 ·rw[hτ q (R.live q e h).1,hβ b (R.boxes b x h').1]at hB
  exact R.cH q e b x h h' hB
 ·rcases hp' b o h with h|h
  ·exact R.dc b o h
  ·exact .inr (.inl (by omega))
theorem Rel.sub(R:Rel P nt n0 w0 π0 U s a w β τ π) (hU:∀n,U n->U' n):Rel P nt n0 w0 π0 U' s a w β τ π:=
 R.frame (fun _ _=>rfl) (fun _ _=>rfl) hU (fun _ _ h=>h) (fun _ _ h=>.inl h) R.eO (Below.refl _ _)
theorem Rel.put(R:Rel P nt n0 w0 π0 U s a w β τ π) (d:Option Nat) {v:SV} {x:Value} (hd:∀t,d=some t->t<nt) (hv:RV β τ w π v x) (hu:v.gR U):Rel P nt n0 w0 π0 U (s.put d v) (a.put d x) w β τ π:=by
 cases d with
 |none=>exact R
 |some d=>
  refine⟨by simp[Act.put,R.size],fun t u h=>?_,R.boxes,R.inj,R.live,R.cq,R.cH,R.below,R.eS,R.eO,R.eF,R.dc,R.mj,R.jf,R.kept⟩
  simp only[S.put,lk]at h
  by_cases e:t=d
  ·subst e
   simp at h;subst h
   exact⟨⟨x,by simp[Act.put,R.size,hd t rfl],hv⟩,hu⟩
  ·have:(t==d)=false:=by simpa using e
   simp only[this,cond_false]at h;obtain⟨⟨y,hy,hr⟩,hu'⟩:=R.slots t u h
   exact⟨⟨y,by simp[Act.put,Array.getElem?_setIfInBounds_ne (Ne.symm e),hy],hr⟩,hu'⟩
theorem Rel.dh(R:Rel P nt n0 w0 π0 U s a w β τ π) {X:Operand} {x:bB} {v:SV} (hx:dr X=some x) (hv:dh s x=some v):RV β τ w π v (a.eval X)/\v.gR U:=by
 cases X with
 |tmp t=>
  simp[dr]at hx;subst hx;obtain⟨⟨y,hy,hr⟩,hu⟩:=R.slots t v hv;refine⟨?_,hu⟩
  have:a.eval (.tmp t)=y:=by simp[Act.eval,hy]
  rw[this];exact hr
 |const c=>
  simp only[dr,Option.map_eq_some_iff]at hx;obtain⟨k,hk,rfl⟩:=hx;simp[Eng.dh]at hv;subst hv
  exact⟨⟨Mz hk,fun t ht=>by cases ht⟩,trivial⟩
 |global g=>simp[dr]at hx
 |func f=>
  simp[dr]at hx;subst hx;simp[Eng.dh]at hv;subst hv
  refine⟨⟨?_,fun t ht=>by cases ht⟩,trivial⟩
  exact .fn (.func f) [] #[] [] #[] rfl rfl (fun i a v h=>by simp at h) (fun i a v h=>by simp at h)
theorem RV.ref{β:Nat->Nat} {τ:Nat->Value} {w:World} {π:Nat->Nat->Prop} {cs:List AV} {v:Value}:RV β τ w π (.rp cs) v↔DV w π (.ref cs) v:=by
 constructor
 ·rintro⟨B,off,f,rfl,h1,h2,h3,h4⟩
  exact .ref cs B off f h1 h2 h3 h4
 ·intro h
  cases h with
  |ref _ B off f h1 h2 h3 h4=>exact⟨B,off,f,rfl,h1,h2,h3,h4⟩
theorem Rel.aF(R:Rel P nt n0 w0 π0 U s a w β τ π) {X:Operand} {x:bB} {v:AV} (hx:dr X=some x) (hv:Eng.aF s x=some v):DV w π v (a.eval X):=by
 unfold Eng.aF at hv;split at hv
 ·rename_i b q ho
  cases hv;exact(R.dh hx ho).1.1
 ·rename_i cs ho
  cases hv;exact RV.ref.1 (R.dh hx ho).1
 ·cases hv
theorem Rel.dQ(R:Rel P nt n0 w0 π0 U s a w β τ π):∀{Xs:List Operand} {xs:List bB} {vs:List AV},Xs.mapM dr=some xs->Eng.dQ s xs=some vs->jt w π vs (Xs.map a.eval)
 |[],xs,vs,hx,hv=>by
  simp at hx;subst hx;simp[Eng.dQ]at hv;subst hv;exact .nil _ _
 |X::Xs,xs,vs,hx,hv=>by
  simp only[List.mapM_cons,Option.bind_eq_bind,Option.bind_eq_some_iff,Option.pure_def,Option.some.injEq]at hx;obtain⟨x,hx,xs',hxs,rfl⟩:=hx;simp only[Eng.dQ]at hv;split at hv
  ·rename_i a' as h1 h2
   cases hv;exact .cons (R.aF hx h1) (R.dQ hxs h2)
  ·cases hv
def DN{α:Type} (f:Nat->α) (n:Nat) (x:α):Nat->α:=fun m=>if m=n then x else f m
theorem cj{α:Type} (f:Nat->α) (n:Nat) (x:α):DN f n x n=x:=by simp[DN]
theorem vE{α:Type} (f:Nat->α) (n:Nat) (x:α) {m:Nat} (h:m≠n):DN f n x m=f m:=by simp[DN,h]
def fk(U:Nat->Prop) (n:Nat):Nat->Prop:=fun m=>U m\/m=n
theorem Rel.MC(R:Rel P nt n0 w0 π0 U s a w β τ π) {id:Nat} (hid:¬U id) {cells:List AV} {cs:Array Value} (e:TypeId) (hd:jt w π cells cs.toList) (hs:∀a∈cells,a.scalar=true):
  Rel P nt n0 w0 π0 (fk U id) {s with boxes:=(id,⟨cells,[]⟩)::s.boxes} a (w.alloc (.cells cs e)) (DN β id w.heap.size) τ π:=by
 have hne:∀b,U b->b≠id:=fun b hb e=>hid (e▸hb)
 have hbel:Below w.heap.size w (w.alloc (.cells cs e)):=(Below.refl _ _).alloc (Nat.le_refl _) _
 have R1:Rel P nt n0 w0 π0 (fk U id) s a (w.alloc (.cells cs e)) (DN β id w.heap.size) τ π:=
  R.frame (fun b hb=>vE _ _ _ (hne b hb)) (fun _ _=>rfl) (fun n h=>.inl h) (fun _ _ h=>h) (fun _ _ h=>.inl h) (fun b o h=>by have:=R.eO b o h;simp;omega) hbel
 have hsz:n0.n<=w.heap.size:=Nat.le_trans R.eS R.below.size
 have hold:∀b x,b9 b s.boxes=some x->DN β id w.heap.size b≠w.heap.size:=fun b x h=>by
  obtain⟨h1,_,⟨cur,el,hh,_⟩,_⟩:=R.boxes b x h;rw[vE _ _ _ (hne b h1)]
  have:=nI hh
  omega
 refine⟨R1.size,R1.slots,fun b x h=>?_,fun b b' x x' h h' e=>?_,R1.live,R1.cq,fun q e' b x h h' hB=>?_,R1.below,R1.eS,R1.eO,R1.eF,R1.dc,R1.mj,R1.jf,R1.kept⟩
 ·simp only[b9]at h
  by_cases hb:b=id
  ·subst hb
   simp at h;subst h
   refine⟨.inr rfl,by rw[cj];exact .inl hsz,?_,fun o q h=>by simp[d7]at h⟩
   rw[cj]
   refine⟨cs,e,heap_alloc_new w _,hd.mono (fun _ _ h=>h) (fun b o h=>Below.tZ hbel (R.eO b o h)),hs,fun o q h=>by simp[d7]at h,fun o h=>?_⟩
   have:=R.eO _ _ h;omega
  ·have:(b==id)=false:=by simpa using hb
   simp only[this,cond_false]at h;exact R1.boxes b x h
 ·simp only[b9]at h h'
  by_cases hb:b=id
  ·by_cases hb':b'=id
   ·rw[hb,hb']
   ·have hf:(b'==id)=false:=by simpa using hb'
    simp only[hf,cond_false]at h';subst hb;rw[cj]at e;exact absurd e.symm (hold b' x' h')
  ·have hf:(b==id)=false:=by simpa using hb
   simp only[hf,cond_false]at h
   by_cases hb':b'=id
   ·subst hb'
    rw[cj]at e;exact absurd e (hold b x h)
   ·have hf':(b'==id)=false:=by simpa using hb'
    simp only[hf',cond_false]at h';exact R1.inj b b' x x' h h' e
 ·simp only[b9]at h'
  by_cases hb:b=id
  ·subst hb
   rw[cj]at hB
   have:=((R.live q e' h).2.block hB).2
   omega
  ·have hf:(b==id)=false:=by simpa using hb
   simp only[hf,cond_false]at h';exact R1.cH q e' b x h h' hB
theorem mN{n m:Nat} {b:bV}:∀{l:List (Nat×bV)} {x:bV},b9 n (rQ m b l)=some x->(n=m/\x=b/\∃y,b9 m l=some y)\/(n≠m/\b9 n l=some x)
 |[],x,h=>by simp[rQ,b9]at h
 |(k,v)::r,x,h=>by
  simp only[rQ]at h
  by_cases hk:m=k
  ·subst hk
   simp only[beq_self_eq_true,cond_true,b9]at h
   by_cases hn:n=m
   ·subst hn
    simp at h
    exact .inl ⟨rfl,h.symm,v,by simp[b9]⟩
   ·have hf:(n==m)=false:=by simpa using hn
    simp only[hf,cond_false]at h
    exact .inr ⟨hn,by simp[b9,hf,h]⟩
  ·have hf:(m==k)=false:=by simpa using hk
   simp only[hf,cond_false,b9]at h
   by_cases hn:n=k
   ·subst hn
    simp at h
    exact .inr ⟨fun e=>hk e.symm,by simp[b9,h]⟩
   ·have hf':(n==k)=false:=by simpa using hn
    simp only[hf',cond_false]at h
    rcases mN h with⟨h1,h2,y,h3⟩|⟨h1,h2⟩
    ·exact .inl ⟨h1,h2,y,by simp[b9,hf,h3]⟩
    ·exact .inr ⟨h1,by simp[b9,hf',h2]⟩
theorem Rel.S5(R:Rel P nt n0 w0 π0 U s a w β τ π) {b:Nat} {x y:bV} (hb:b9 b s.boxes=some x) {cur cur':Array Value} {el:TypeId}
  (hh:w.heap[β b]? =some (.cells cur el (0,0))) (hd:jt w π y.cells cur'.toList) (hs:∀a∈y.cells,a.scalar=true)
  (ht:∀o q,d7 o y.tags=some q->cur'[o]? =some (τ q)/\U q):
  Rel P nt n0 w0 π0 U {s with boxes:=rQ b y s.boxes} a (w.setRow (β b) cur') β τ π:=by
 obtain⟨hUb,hn0,⟨_,_,hh',_,_,_,hnp⟩,_⟩:=R.boxes b x hb
 have hsz:n0.n<=w.heap.size:=Nat.le_trans R.eS R.below.size
 have hother:∀k,k≠β b->(w.setRow (β b) cur').heap[k]? =w.heap[k]?:=fun k hk=>setRow_other w _ k cur' hk
 have hc:∀B o,π B o->(w.setRow (β b) cur').cell? ⟨B,o,none⟩=w.cell? ⟨B,o,none⟩:=fun B o h=>cell_setRow_other w _ cur' ⟨B,o,none⟩ (fun e=>hnp o (by simpa[<-e]using h))
 have hbel:uS n0 w (w.setRow (β b) cur'):=⟨rfl,rfl,rfl,by simp,fun k hk hx=>hother k (fun e=>by subst e;rcases hn0 with h|h;exact absurd h (by omega);exact hx h.2),fun k o hk ho=>(hother k (fun e=>by subst e;rw[hh]at hk;cases hk;cases ho)).trans hk⟩
 refine⟨R.size,fun t v h=>?_,fun c z h=>?_,fun c c' z z' h h' e=>?_,fun q e h=>?_,R.cq,fun q e c z h h' hB=>?_,R.below.trans hbel,R.eS,fun B o h=>by simpa using R.eO B o h,R.eF,R.dc,R.mj,R.jf,fun b o h=>(hc b o (R.eF b o h)).trans (R.kept b o h)⟩
 ·obtain⟨⟨z,hz,hv⟩,hu⟩:=R.slots t v h
  exact⟨⟨z,hz,RV.mono (fun _ _=>rfl) (fun _ _=>rfl) (fun _ _ h=>h) hc hu hv⟩,hu⟩
 ·rcases mN h with⟨rfl,rfl,_⟩|⟨hne,h⟩
  ·exact⟨hUb,hn0,⟨cur',el,setRow_heap w _ cur _ el _ hh,hd.mono (fun _ _ h=>h) hc,hs,fun o q hq=>(ht o q hq).1,hnp⟩,fun o q hq=>(ht o q hq).2⟩
  ·obtain⟨h1,h2,h3,h4⟩:=R.boxes c z h
   refine⟨h1,h2,h3.keep (fun _ _=>rfl) h4 (hother _ (fun e=>hne (R.inj c b z x h hb e))) (fun _ _ h=>h) hc ?_,h4⟩
   obtain⟨_,_,_,_,_,_,hn⟩:=h3;exact hn
 ·have:∃u,b9 c s.boxes=some u:=by
   rcases mN h with⟨rfl,_,_⟩|⟨_,h⟩
   ·exact⟨x,hb⟩
   ·exact⟨z,h⟩
  have k':∃u,b9 c' s.boxes=some u:=by
   rcases mN h' with⟨rfl,_,_⟩|⟨_,h⟩
   ·exact⟨x,hb⟩
   ·exact⟨z',h⟩
  obtain⟨u,hu⟩:=this;obtain⟨u',hu'⟩:=k';exact R.inj c c' u u' hu hu' e
 ·obtain⟨h1,h2⟩:=R.live q e h
  exact⟨h1,h2.keep (fun B hB=>hother B (fun eB=>R.cH q e b x h hb (by rw[hB,eB]))) (fun B o _ h=>h)⟩
 ·have:∃u,b9 c s.boxes=some u:=by
   rcases mN h' with⟨rfl,_,_⟩|⟨_,h⟩
   ·exact⟨x,hb⟩
   ·exact⟨z,h⟩
  obtain⟨u,hu⟩:=this;exact R.cH q e c u h hu hB
end
end Go.Eng
