/- Part 1 of the engine and its library. -/
import Derived.WalkKit
import Derived.RangeFuncNested
import Derived.RangeFuncLeaves
import Derived.OrdersIn
import Derived.LoopNIn
import Derived.ChangeKeysEq
import Derived.Laws.Externs
import Derived.Lib.SliceRun
import Derived.Laws.CopyRow
import Derived.Laws.MakeOwn
import Ieee.Arith
import GoSem.Core.Float
import Derived.RecoverIn
import Derived.ProofKit
import Derived.OpenShut
import Derived.ShutString
import Derived.ChangeOld
import Derived.Below
set_option linter.all false
set_option maxRecDepth 10000
set_option maxHeartbeats 4000000
namespace Go.Eng
open Go
section
variable (op:BinOp) (k:IntKind) (x:Int) {p:Prop} (y:Int)
theorem ST(h:p:=by omega):p:=h
theorem Ts(h:p:=by decide):p:=h
theorem TB(h:p:=by simp):p:=h
def cB:=@And.intro
def dC:=@of_decide_eq_true
def dE:=@of_decide_eq_false
def dT:=@List.getElem?_eq_getElem
def ed:=@Bool.and_eq_true
def eg:=@Option.map_eq_some_iff
def eh:=@List.getD_eq_getElem?_getD
def ek:=@if_neg
def em:=@List.mem_of_getElem?
def er:=@List.getElem?_eq_some_iff
def et:=@if_pos
def ev:=@Bool.false_eq_true
def eQ:=@cond_false
def eW:=@List.length_cons
def e9:=@Go.Result.andThen_ok
def fi:=@Go.Sem.run_bind
def fl:=@List.length_nil
def fo:=@Option.some.injEq
def fp:=@List.mem_range
def fx:=@Bool.not_false
def gc:=@decide_eq_true_eq
def ge:=@cond_true
def gg:=@Nat.le_of_ble_eq_true
def gn:=@List.take_length
def gs:=@Bool.not_true
def ia:=@Nat.le_refl
def ib:=@if_false
def ii:=@Go.run_underlying
def ik:=@Nat.mul_le_mul_right
def il:=@List.mem_append
def im:=@List.getElem?_map
def io:=@List.range_succ
def ip:=@List.getElem?_eq_none
def iv:=@Go.Sem.run_pure
def ix:=@Int.toNat_natCast
def i8:=@List.mem_map
def jp:=@Option.bind_eq_some_iff
def j9:=@Array.getElem?_eq_some_iff
def ka:=@Nat.le_trans
def kb:=@beq_iff_eq
def kd:=@decide_eq_false
def kf:=@Nat.pow_add
def kh:=@if_true
def km:=@List.getElem?_cons_zero
def kn:=@Nat.lt_or_ge
def kp:=@List.mem_cons_of_mem
def kr:=@List.getElem?_range
def kt:=@Bool.true_and
def kv:=@List.getElem?_cons_succ
def kw:=@List.getElem?_append_right
def kx:=@List.nil_append
def la:=@Nat.zero_add
def lc:=@List.getElem?_append_left
def lh:=@List.getElem?_drop
def lj:=@List.all_eq_true
def ll:=@Array.toList_inj
def lm:=@List.mem_singleton
def lr:=@List.mem_cons_self
def lw:=@Nat.mul_assoc
def lL:=@List.drop_zero
def l3:=@List.mem_iff_getElem?
def l4:=@List.take_of_length_le
def ma:=@Option.map_some
def md:=@List.map_cons
def mf:=@List.find?_eq_none
def mi:=@Bool.or_eq_true
def ml:=@Nat.pow_le_pow_right
def mn:=@Bool.false_and
def mp:=@List.mem_cons
def mr:=@List.drop_succ_cons
def mt:=@List.length_map
def my:=@List.map_append
def na:=@decide_eq_true
def nb:=@Bool.not_eq_true'
def nd:=@Bool.and_false
def ne:=@congrArg
def nf:=@List.mem_of_mem_drop
def nl:=@List.eq_nil_of_length_eq_zero
def nm:=@Nat.lt_of_lt_of_le
def np:=@Bool.eq_iff_iff
def ns:=@beq_self_eq_true
def nz:=@Bool.false_or
def pb:=@Nat.mul_one
def pc:=@List.length_filter_le
def pd:=@Nat.mul_comm
def pm:=@Nat.add_zero
def po:=@decide_eq_false_iff_not
def pu:=@Nat.sub_add_cancel
def pv:=@List.length_append
def px:=@List.mem_filter
def py:=@List.append_nil
def pA:=@Bool.and_true
def pB:=@Nat.shiftLeft_eq
def pC:=@Option.bind_eq_bind
def p4:=@List.contains_nil
def p5:=@List.getElem?_take_of_lt
def p7:=@List.foldl_cons
def rc:=@Nat.eq_zero_or_pos
def rf:=@List.filter_append
def rh:=@List.getElem?_append
def sa:=@Array.getD_eq_getD_getElem?
def sd:=@Go.World.putObj_heap_other
def se:=@List.map_nil
def sh:=@List.map_congr_left
def sk:=@Int.toNat_of_nonneg
def sm:=@Option.getD_some
def sT:=@List.mem_flatMap
def s8:=@List.getElem?_take
def s9:=@List.cons_append
def ti:=@Bool.true_or
def tl:=@List.mem_of_mem_take
def tp:=@List.mapM_cons
def tt:=@List.foldl_append
def tz:=@Option.some.inj
def t0:=@Go.Oper.upon_enter
def ui:=@true_and
def ul:=@Go.cell_of_row
def ut:=@List.take_zero
def vd:=@List.mem_of_find?_eq_some
def vx:=@Option.pure_def
def wa:=@List.nodup_cons
def wc:=@List.flatMap_cons
def wi:=@Bool.or_true
def wn:=@Bool.or_self
def ws:=@Array.getElem?_setIfInBounds_ne
def wt:=@Nat.mul_le_mul_left
def ww:=@List.take_succ_cons
def xa:=@Nat.mod_eq_of_lt
def xc:=@Nat.div_eq_of_lt
def xf:=@List.drop_drop
def xi:=@Bool.not_eq_true
def xn:=@BitVec.eq_of_getLsbD_eq
def xo:=@Go.mem_ready
def xr:=@decide_true
def xv:=@List.mem_filterMap
def yi:=@List.drop_of_length_le
def yk:=@Array.getElem?_eq_none
def yn:=@Nat.div_add_mod
def yr:=@List.take_range
def yv:=@List.filter_nil
def zd:=@Nat.add_assoc
def zr:=@List.sum_cons
def Ax:=@Nat.mul_lt_mul_of_pos_right
def AC:=@Bool.eq_false_iff
def B0:=@List.length_take
def Do:=@List.getElem_mem
def EQ:=@List.mem_map_of_mem
def Fd:=@Bool.and_self
def FS:=@Int.tmod_lt_of_pos
def GE:=@BitVec.getLsbD_and
def GT:=@Nat.le_mul_of_pos_right
def Ha:=@List.set_eq_take_append_cons_drop
def Hb:=@Go.wpIn_mono
def Hc:=@not_true_eq_false
def Hd:=@Prod.ext
def Hk:=@Nat.pow_zero
def Hm:=@Array.size_eq_zero_iff
def Hn:=@Go.heap_alloc_new
def H0:=@List.getElem?_toArray
def H1:=@List.mem_flatten
def H2:=@List.filter_cons
def H3:=@List.take_append_of_le_length
def H4:=@Int.le_refl
def H5:=@Bool.or_eq_false_iff
def Id:=@Option.map_none
def If:=@List.take_left'
def In:=@List.find?_cons
def Ix:=@List.flatMap_append
def IH:=@Option.ne_none_iff_exists'
def IN:=@Nat.mul_div_cancel
def IO:=@Nat.mod_lt
def IR:=@Nat.le_of_mul_le_mul_right
def Kd:=@Nat.eq_of_mul_eq_mul_right
def Kp:=@Int.fdiv_eq_ediv_of_nonneg
def LE:=@BitVec.toNat_ofInt
def LT:=@Array.any_eq_true'
def M2:=@Go.run_sliceBound
def NE:=@List.flatten_cons
def Os:=@List.find?_append
def OF:=@Int.lt_trichotomy
def Pi:=@BitVec.getLsbD_or
def Pl:=@Option.isSome_iff_exists
def Ps:=@Go.cell_setRow_other
def PH:=@Nat.log2_self_le
def PP:=@List.getElem?_replicate
def PQ:=@List.drop_append
def P0:=@Nat.testBit_lt_two_pow
def QP:=@List.filter_eq_nil_iff
def QQ:=@Nat.le_div_iff_mul_le
def QR:=@Go.World.putObj_heap_same
inductive AV where
 |bool (b:Bool)
 |int (k:IntKind) (n:Int)
 |float (k:FloatKind) (n:Nat)
 |str (s:ByteArray)
 |tA
 |bV
 |sl (xs:List (List AV))
 |fn (f:Fn) (first caps:List AV)
 |jf
 |iface (t:Nat) (v:AV)
 |oI
 |agg (cs:List AV)
 |dF (vs:List AV)
 |ref (cs:List AV)
 /-- a float (of 64 bits) that is no number,whichever -/
 |fm
 /-- an argument: a struct of one pointer,at the head of the next box -/
 |hole
 deriving Inhabited
inductive SV where
 |dat (a:AV) (q:Option Nat)
 |ptr (b off:Nat)
 |rp (cs:List AV)
 |undef
 /-- a slice El a box of its own or another's: n elements of z cells each,from off on -/
 |vs (b off n z:Nat)
 /-- a function with values and pointers at the heads of boxes -/
 |wz (f:Nat) (as:List (Option AV)) (bs:List Nat)
 /-- a slice of n elements that nobody has read: the token's row from its head on -/
 |raw (q n:Nat)
 /-- pointers into boxes: 0: a struct of them; 1: a slice; 2: a pointer at the first of a row that is never written -/
 |pt (k:Nat) (ps:List (Nat×Nat))
 deriving Inhabited
structure dH where
 cells:List AV
 tags:List (Nat×Nat)
 deriving Inhabited
structure S where
 slots:List (Nat×SV)
 boxes:List (Nat×dH)
 live:List (Nat×Nat)
 nx:Nat
 deriving Inhabited
inductive bC where
 |t (n:Nat)
 |k (v:AV)
 deriving Inhabited
inductive CK where
 |b|i|f|s
 deriving DecidableEq,Inhabited
inductive Xt where
 |IJ|ffrom|rte
 deriving DecidableEq,Inhabited
inductive bU where
 |mv (x:bC)
 |pick (c a b:bC)
 |alloc (cs:List AV)
 |box (x:bC)
 |build (zs:List AV) (parts:List (Nat×Nat×bC))
 |SP (e z:Nat) (xs:List bC)
 |ld (x:bC) (sz:Option Nat)
 |st (x v:bC) (sz:Nat)
 |fa (x:bC) (off:Nat)
 |Pd (x i:bC) (n z:Nat)
 |S0 (x i:bC) (z:Nat)
 |He (x:bC) (off:Nat) (sz:Option Nat)
 |KO (x i:bC) (n z:Nat) (sz:Option Nat)
 |bin (op:BinOp) (x y:bC)
 |eqc (ks:List CK) (neg:Bool) (x y:bC)
 |bb (neg:Bool) (x y:bC)
 |un (op:UnOp) (x:bC)
 |rm (k:IntKind) (x:bC)
 |Dw (k:FloatKind) (x:bC)
 |Hf (k:IntKind) (x:bC)
 |Hg (x:bC)
 |KY (x:bC)
 |KZ (n:Nat)
 |app (e z bytes:Nat) (s x:bC)
 |call (f:Nat) (args:List bC)
 |eo (f:Nat) (args:List bC)
 |kN (g:bC) (args:List bC)
 |ext (x:bC) (i:Nat)
 |A5 (fn:Fn) (first caps:List bC)
 |Wc (z:Nat) (x:bC) (lo hi:Option bC)
 |nc (x:bC)
 |mm (max:Bool) (args:List bC)
 |xt (e:Xt) (x:bC)
 |Wd (x:bC) (n z:Nat)
 |ixB (x i:bC)
 |WE (neg:Bool) (x:bC)
 |gU (g:bC) (args:List bC)
 |Dx (f:Nat) (args:List bC)
 |tJ (g:bC) (args:List bC)
 |WG (x:bC) (n z:Nat) (hi:bC)
 |FQ (e z bytes:Nat) (y x:bC)
 /-- what a row of pointers holds: one,or a struct -/
 |S1 (x:bC) (sz:Option Nat)
 /-- a call that raises; what is raised is what it yields -/
 |wA (f:Nat) (args:List bC)
 deriving Inhabited
structure CO where
 dst:Option Nat
 op:bU
 g:Option (Nat×Bool)
 deriving Inhabited
inductive IK where
 |o (c:bU)
 |call (f:Nat) (args:List bC)
 |eo (f:Nat) (args:List bC)
 |kN (p:Bool) (g:bC) (args:List bC)
 |mkc (f:Nat) (caps:List bC)
 |pan (x:bC)
 |mkI (t:Nat) (x:bC)
 /-- is it of that type? the value,or nothing of that type -/
 |tas (t:Nat) (z:AV) (x:bC)
 |isI (neg:Bool) (x:bC)
 |isP (neg:Bool) (x:bC)
 /-- a slice of cells that is made; what is copied into all of it -/
 |mks (e bytes:Nat) (l c:bC)
 |cpy (e:Nat) (x y:bC)
 /-- pointers in a struct,in a row of its own,in a slice -/
 |WH (x:bC)
 |WJ (x:bC)
 |stp (x v:bC)
 |WK (xs:List bC)
 |iap (x i:bC)
 |lnp (x:bC)
 /-- a call that yields a pointer into a box that it is given -/
 |Pn (g:bC) (args:List bC)
 /-- what is appended to nothing: a slice of its own,which may be written -/
 |apn (e z bytes:Nat) (y:bC)
 deriving Inhabited
structure XO where
 dst:Option Nat
 op:IK
 g:Option (Nat×Bool)
 deriving Inhabited
inductive br where
 |skip
 |Mo (ops:List CO)
 |seq (a b:br)
 |join (a b:br)
 |cond (c:bC) (a b:br)
 |block (id:Nat) (c:br)
 |loop (c:br)
 |exit (id:Nat)
 |ret
 |C5 (g:bC) (ps wr:List Nat) (as bd:br)
 |Dy (ops:List CO) (dc:List (Nat×Nat))
 |scope (l:Nat) (c r:br)
 |label (l:Nat)
 |goto (l:Nat)
 |NI (ops:List XO)
 /-- as Dy; operation k may raise,Co of dep come behind it -/
 |K0 (ops:List CO) (dc:List (Nat×Nat)) (k:Nat) (dep:List Nat)
 deriving Inhabited
def AV.cells:AV->List AV
 | .agg cs=>cs
 |v=>[v]
def AV.scalar:AV->Bool
 | .agg _| .dF _=>false
 |_=>true
def NJ:Value->Option AV
 | .bool b=>some (.bool b)
 | .int k n=>some (.int k n)
 | .float k n=>some (.float k n)
 | .string s=>some (.str s)
 | .pointer none=>some .tA
 | .slice none 0 0=>some .bV
 | .nilFunc=>some .jf
 | .nilIface=>some .oI
 |_=>none
def ofV:Value->Option AV
 | .agg cs=>(cs.toList.mapM NJ).map .agg
 |v=>NJ v
def BU:Option Int:=
 let a:=BitVec.ofInt k.bits x
 let b:=BitVec.ofInt k.bits y
 match op with
 | .and=>some (k.wrap (a&&&b).toNat)
 | .or=>some (k.wrap (a|||b).toNat)
 | .xor=>some (k.wrap (a^^^b).toNat)
 | .andNot=>some (k.wrap (a&&& ~~~b).toNat)
 |_=>none
def tB:Option AV:=
 match op with
 | .add=>some (.int k (k.wrap (x+y)))
 | .sub=>some (.int k (k.wrap (x-y)))
 | .mul=>some (.int k (k.wrap (x*y)))
 | .quo=>if y=0 then none else some (.int k (k.wrap (x.tdiv y)))
 | .rem=>if y=0 then none else some (.int k (x.tmod y))
 | .and| .or| .xor| .andNot=>(BU op k x y).map (.int k)
 | .eql=>some (.bool (x==y))
 | .neq=>some (.bool (x !=y))
 | .lss=>some (.bool (decide (x<y)))
 | .leq=>some (.bool (decide (x<=y)))
 | .gtr=>some (.bool (decide (x>y)))
 | .geq=>some (.bool (decide (x>=y)))
 |_=>none
def FR(n:Nat):Bool:=match FloatKind.f64.decode n with
 | .nan ..=>true
 |_=>false
def KQ:FloatKind->Option Nat->Option AV
 |k,some r=>some (.float k r)
 | .f64,none=>some .fm
 | .f32,none=>none
def xS:BinOp->Option AV
 | .add| .sub| .mul| .quo=>some .fm
 | .neq=>some (.bool true)
 | .eql| .lss| .leq| .gtr| .geq=>some (.bool false)
 |_=>none
def Dz(k:FloatKind) (x y:Nat):Option AV:=
 let c:=k.format.order x y
 match op with
 | .add=>KQ k (k.format.add x y)
 | .sub=>KQ k (k.format.sub x y)
 | .mul=>KQ k (k.format.mul x y)
 | .quo=>KQ k (k.format.div x y)
 | .eql=>some (.bool (c==some .eq))
 | .neq=>some (.bool (c !=some .eq))
 | .lss=>some (.bool (c==some .lt))
 | .leq=>some (.bool (c==some .lt||c==some .eq))
 | .gtr=>some (.bool (c==some .gt))
 | .geq=>some (.bool (c==some .gt||c==some .eq))
 |_=>none
def tK:Option AV:=
 if y<0 then none else
 match op with
 | .shl=>some (.int k (k.wrap (x*2^min y.toNat k.bits)))
 | .shr=>some (.int k (x.fdiv (2^min y.toNat k.bits)))
 |_=>none
def eP(a b:AV):Option AV:=
 match op,a,b with
 | .shl,.int k x,.int _ y=>tK .shl k x y
 | .shr,.int k x,.int _ y=>tK .shr k x y
 |op,.int k x,.int A y=>if k=A then tB op k x y else none
 |op,.float k x,.float A y=>if k=A then Dz op k x y else none
 |op,.fm,.float .f64 _=>xS op
 |op,.float .f64 _,.fm=>xS op
 |op,.fm,.fm=>xS op
 |_,_,_=>none
end
section
variable (P:Program) (t:TypeId) (wr:List Nat) (F:S->Prop) (bx:List (Nat×dH)) (id:Nat) (x:CO) (a:AV) (b:Nat) (cs:List AV) (dc lv m:List (Nat×Nat)) (ops:List Oper) (s:S) {α:Type} (Q:Exit->S->Prop) (c:Call) (f:FuncId) (i:Nat) (ids:List Nat) (neg:Bool) (off q:Nat) (xs:List (List AV)) (y:CO)
def ZS:AV->AV->Option AV
 | .bool x,.bool y=>some (.bool (if neg then x !=y else x==y))
 |_,_=>none
def ru:CK->AV->AV->Option Bool
 | .b,.bool x,.bool y=>some (x==y)
 | .i,.int k x,.int A y=>if k=A then some (x==y)else none
 | .f,.float k x,.float A y=>if k=A then some (k.format.order x y==some .eq)else none
 | .s,.str x,.str y=>some (x==y)
 |_,_,_=>none
def cU:List CK->List AV->List AV->Option Bool
 |[],[],[]=>some true
 |k::A,a::as,b::B=>match ru k a b,cU A as B with
  |some x,some y=>some (x&&y)
  |_,_=>none
 |_,_,_=>none
def WL(op:UnOp) (a:AV):Option AV:=
 match op,a with
 | .neg,.int k n=>some (.int k (k.wrap (0-n)))
 | .xor,.int k n=>(BU .xor k (if k.signed then -1 else k.max) n).map (.int k)
 | .neg,.float k b=>some (.float k (Op.negFloat k b))
 | .not,.bool b=>some (.bool !b)
 |_,_=>none
def F6(k:IntKind):AV->Option AV
 | .int _ n=>some (.int k (k.wrap n))
 |_=>none
def F7(k:FloatKind):AV->Option AV
 | .int _ n=>some (.float k (k.nearest n))
 |_=>none
def yQ(k:IntKind):AV->Option AV
 | .float s b=>match(s.decode b).toInt .zero with
  |some n=>if k.min<=n/\n<=k.max then some (.int k n)else none
  |none=>none
 |_=>none
def Hh:Option AV:=
 match FloatKind.f64.decode b with
 | .nan _ t=>if FloatKind.f64.format.quiet t=t then some (.float .f64 b)else none
 |d=>some (.float .f64 (FloatKind.f64.encode (d.integral .even)))
def ZT:Xt->AV->Option AV
 | .IJ,.float .f64 b=>some (.int .u64 b)
 | .ffrom,.int .u64 n=>some (.float .f64 n.toNat)
 | .rte,.float .f64 b=>Hh b
 |_,_=>none
def dA(z:Nat):Nat->List AV->List (List AV)
 |0,_=>[]
 |n+1,cs=>cs.take z::dA z n (cs.drop z)
def Mp(s:ByteArray) (i:Int):Option AV:=
 if 0<=i/\i<s.size then some (.int .u8 (s[i.toNat]!).toNat)else none
def yR:AV->Option AV
 | .bV=>some (.int .i64 0)
 | .sl xs=>some (.int .i64 xs.length)
 |_=>none
def IL:Bool->AV->Option Bool
 |neg,.bV=>some (!neg)
 |neg,.sl _=>some neg
 |_,_=>none
def We(mx:Bool):AV->AV->Option AV
 | .int k x,.int _ y=>some (.int k (if mx then(if y>x then y else x)else(if y<x then y else x)))
 | .float k x,.float A y=>if k=A then match k.format.order x y with
   |none=>if k=.f64 then some .fm else none
   |some .lt=>some (.float k (if mx then y else x))
   |some .gt=>some (.float k (if mx then x else y))
   |some .eq=>some (.float k (if mx then(if(k.decode x).neg then y else x)else(if(k.decode x).neg then x else y)))
  else none
 | .fm,.float .f64 _=>some .fm
 | .float .f64 _,.fm=>some .fm
 | .fm,.fm=>some .fm
 |_,_=>none
def Po:AV->Nat->Option AV
 | .dF vs,i=>vs[i]?
 |_,_=>none
def aF:Option Nat->Option AV
 |none=>cs[off]?
 |some n=>if off+n<=cs.length then some (.agg ((cs.drop off).take n))else none
def nG:List AV->List (Nat×List AV)->List AV
 |cs,[]=>cs
 |cs,(off,ps)::rest=>nG (cs.take off++ps++cs.drop (off+ps.length)) rest
def S2:AV->Value
 | .bool b=>.bool b
 | .int k n=>.int k n
 | .float k n=>.float k n
 | .str s=>.string s
 | .tA=>.pointer none
 | .bV=>.slice none 0 0
 |_=>undef
def jN:AV->Bool
 | .bool _| .int .. | .float .. | .str _| .tA| .bV=>true
 |_=>false
def yS:AV->Value
 | .agg cs=>.agg (cs.map S2).toArray
 |a=>S2 a
def jO:AV->Bool
 | .agg cs=>cs.all jN
 |a=>jN a
def WM(t:Nat) (z:AV):AV->Option AV
 | .oI=>some (.dF [z,.bool false])
 | .iface A a=>some (if A=t then .dF [a,.bool true]else .dF [z,.bool false])
 |_=>none
def WN:AV->Option Bool
 | .oI=>some !neg
 | .iface _ _=>some neg
 |_=>none
def NK:SV->Option Bool
 | .ptr _ _| .rp _| .dat (.ref _) _=>some neg
 | .dat .tA _=>some !neg
 |_=>none
def DA:AV->Bool
 | .iface _ a=>jO a
 |_=>false
def adS:AV->Value
 | .iface t a=>.iface t (yS a)
 |_=>undef
def j7(p:AV):List PanicEntry:=[{v:=adS p,recovered:=false}]
def lk:Nat->List (Nat×SV)->Option SV
 |_,[]=>none
 |n,(m,v)::r=>bif n==m then some v else lk n r
def dh:Nat->List (Nat×dH)->Option dH
 |_,[]=>none
 |n,(m,v)::r=>bif n==m then some v else dh n r
def fq:Nat->List (Nat×Nat)->Option Nat
 |_,[]=>none
 |n,(m,v)::r=>bif n==m then some v else fq n r
def pn:Nat->dH->List (Nat×dH)->List (Nat×dH)
 |_,_,[]=>[]
 |n,b,(m,v)::r=>bif n==m then(m,b)::r else(m,v)::pn n b r
def nH:Nat->List (Nat×Nat)->List (Nat×Nat)
 |_,[]=>[]
 |n,(m,v)::r=>bif n==m then nH n r else(m,v)::nH n r
def S.put(d:Option Nat) (v:SV):S:=
 match d with
 |none=>s
 |some d=>{s with slots:=(d,v)::s.slots}
def bX:bC->Option SV
 | .t n=>lk n s.slots
 | .k v=>some (.dat v none)
def aM(x:bC):Option AV:=
 match bX s x with
 |some (.dat a _)=>some a
 |some (.rp cs)=>some (.ref cs)
 |_=>none
def eS(s:S):List bC->Option (List AV)
 |[]=>some []
 |x::r=>match aM s x,eS s r with
  |some a,some as=>some (a::as)
  |_,_=>none
def ax(o:Option α) (k:α->Prop):Prop:=
 match o with
 |some a=>k a
 |none=>False
@[simp] theorem aG(a:α) (k:α->Prop):ax (some a) k=k a:=rfl
@[simp] theorem WO(k:α->Prop):ax none k=False:=rfl
def jo:AV->Option Nat->Bool
 | .dF _,_=>false
 | .agg _,some _=>false
 |_,_=>true
def jk(s:S):List (Nat×Nat×bC)->Option (List (Nat×List AV))
 |[]=>some []
 |(off,A,x)::r=>match aM s x,jk s r with
  |some a,some ps=>if a.cells.length=A/\jo a none=true then some ((off,a.cells)::ps)else none
  |_,_=>none
def mS(s:S) (z:Nat):List bC->Option (List (List AV))
 |[]=>some []
 |x::r=>match aM s x,mS s z r with
  |some a,some rows=>if a.cells.length=z/\jo a none=true then some (a.cells::rows)else none
  |_,_=>none
def idxOf:AV->Option Int
 | .int _ i=>some i
 |_=>none
def setCells(ps:List AV):List AV:=cs.take off++ps++cs.drop (off+ps.length)
def Ba:Option AV->Option Int
 |some a=>idxOf a
 |none=>none
def DB:Option bC->Option Int
 |none=>some 0
 |some x=>Ba (aM s x)
def DC:Option bC->Option Int
 |none=>some xs.length
 |some x=>Ba (aM s x)
def Pp(l h:Int):AV:=
 match a with
 | .bV=>.bV
 |_=>.sl ((xs.take h.toNat).drop l.toNat)
structure aY where
 c:Nat->List AV->AV->Option Nat->Prop
 p:Nat->List (List AV)->List (Option AV)->AV->Option Nat->List (List AV)->Prop
 /-- what a function that is ranged El yields,one after the other -/
 i:AV->List (List AV)->Prop
 /-- a function that raises this -/
 q:Nat->List (List AV)->List (Option AV)->AV->List (List AV)->Prop
 /-- a function that yields a pointer to a new box -/
 n:Nat->List AV->List AV->Prop
 /-- a function that is deferred,with what it recovers: nothing,or what was raised -/
 d:Nat->AV->List (List AV)->List (Option AV)->List (List AV)->Prop
 /-- a function that takes a token with one of its boxes,or leaves one there: which box,which cell,what kind -/
 t:Nat->List (List AV)->Option (Nat×Nat×Nat)->List (Option AV)->AV->List (List AV)->Option (Nat×Nat×Nat)->Prop
 /-- a function that yields a pointer into one of its boxes: which,where -/
 r:Nat->List (List AV)->List (Option AV)->Nat->Nat->Prop
def eV(h:Bool) (s:S):List bC->Option (List (Option AV)×List Nat)
 |[]=>some ([],[])
 |x::r=>match bX s x,eV h s r with
  |some (.dat a _),some (as,A)=>some (some a::as,A)
  |some (.rp cs),some (as,A)=>some (some (.ref cs)::as,A)
  |some (.ptr b 0),some (as,A)=>some (none::as,b::A)
  |some (.pt 0 [(b,0)]),some (as,A)=>bif h then some (some .hole::as,b::A)else none
  |_,_=>none
def nI:List (Option AV)->Bool
 |[]=>true
 |some .hole::_=>false
 |some _::r=>nI r
 |none::r=>nI r
theorem IM{a:AV} {r:List (Option AV)} (h:nI (some a::r)=true):a≠.hole/\nI r=true:=by
 cases a<;>first|exact⟨TB,h⟩|(cases h)
def IP(s:S):List bC->Option (List (Nat×Nat))
 |[]=>some []
 |x::r=>match bX s x,IP s r with
  |some (.ptr b o),some ps=>some ((b,o)::ps)
  |_,_=>none
def bh(l:List (Nat×dH)):List Nat->Option (List (List AV))
 |[]=>some []
 |b::A=>match dh b l,bh l A with
  |some x,some css=>some (x.cells::css)
  |_,_=>none
def eY(l:List (Nat×dH)):List Nat->Option (List (List AV))
 |[]=>some []
 |b::A=>match dh b l,eY l A with
  |some ⟨cs,[]⟩,some css=>some (cs::css)
  |_,_=>none
def eG:List Nat->List (List AV)->List (Nat×dH)->List (Nat×dH)
 |b::A,cs::css,l=>eG A css (pn b ⟨cs,[]⟩ l)
 |_,_,l=>l
def K1(b o q:Nat):List (Nat×dH)->List (Nat×dH)
 |[]=>[]
 |(k,x)::r=>bif b==k then(k,⟨x.cells,[(o,q)]⟩)::r else(k,x)::K1 b o q r
def tgQ:Option (Nat×Nat×Nat)->Option (Option Nat)
 |none=>some none
 |some (j,o,e)=>(ids[j]?).bind λb=>(dh b bx).bind λx=>(fq o x.tags).bind λq=>if fq q lv=some e then some (some q)else none
def Pq:Option (Nat×Nat×Nat)->List (Nat×dH)->List (Nat×dH)
 |none,l=>l
 |some (j,o,_),l=>match ids[j]? with
  |some b=>K1 b o id l
  |none=>l
def WQ:Option (Nat×Nat×Nat)->List (Nat×Nat)->List (Nat×Nat)
 |none,l=>l
 |some (_,_,e),l=>(id,e)::l
def Pt:Option Nat->List (Nat×Nat)->List (Nat×Nat)
 |none,l=>l
 |some q,l=>nH q l
def Mq(C:aY) (f:Nat) (css:List (List AV)) (as:List (Option AV)) (ids:List Nat) (id:Nat) (bx:List (Nat×dH)) (lv:List (Nat×Nat)) (k:SV->List (Nat×dH)->List (Nat×Nat)->Prop):Prop:=
 ∃D r A B,C.t f css D as r A B/\ax (tgQ bx lv ids D) λE=>k (.dat r none) (Pq id ids B (eG ids A bx)) (WQ id B (Pt E lv))
def kM:SV->SV
 | .ptr A o=>bif A==b then .rp (cs.drop o)else .ptr A o
 | .vs A o n z=>bif A==b&&decide (n*z<=(cs.drop o).length)then .dat (.sl (dA z n (cs.drop o))) none else .vs A o n z
 |v=>v
def DD(b:Nat) (cs:List AV):List (Nat×SV)->List (Nat×SV)
 |[]=>[]
 |(t,v)::r=>(t,kM b cs v)::DD b cs r
def mH:Nat->List (Nat×dH)->List (Nat×dH)
 |_,[]=>[]
 |n,(m,v)::r=>bif n==m then mH n r else(m,v)::mH n r
def iA:List Nat->List (List AV)->S->S
 |b::A,cs::css,s=>iA A css {s with slots:=DD b cs s.slots,boxes:=mH b s.boxes}
 |_,_,s=>s
theorem yT:∀{ids:List Nat} {css:List (List AV)} {s:S},(iA ids css s).nx=s.nx
 |[],css,s=>rfl
 |b::A,[],s=>rfl
 |b::A,cs::css,s=>by rw[iA,yT]
def j8:List (Option AV)->List (List AV)->List AV
 |some a::as,css=>a::j8 as css
 |none::as,cs::css=>.ref cs::j8 as css
 |_,_=>[]
def jl:List Nat->Bool
 |[]=>true
 |b::A=>decide (4<=b)&&jl A
def dY:List Nat->Bool
 |[]=>true
 |b::A=>!A.contains b&&dY A
def rowsOf:AV->Option (List (List AV))
 | .bV=>some []
 | .sl xs=>some xs
 |_=>none
def bS(C:aY) (id:Nat) (o:bU) (K:SV->S->Prop) (s:S):Prop:=
 match o with
 | .mv x=>ax (bX s x) λv=>K v s
 | .pick c a b=>ax (aM s c) fun
   | .bool t=>ax (bX s a) λu=>ax (bX s b) λv=>(t=true->K u s)/\(t=false->K v s)
   |_=>False
 | .alloc cs=>K (.ptr id 0) {s with boxes:=(id,⟨cs,[]⟩)::s.boxes}
 | .box x=>ax (aM s x) λa=>jo a none=true/\K (.ptr id 0) {s with boxes:=(id,⟨a.cells,[]⟩)::s.boxes}
 | .build zs parts=>ax (jk s parts) λps=>K (.dat (.agg (nG zs ps)) none) s
 | .SP e z xs=>ax (mS s z xs) λrows=>K (.dat (.sl rows) (some id)) {s with live:=(id,e)::s.live}
 | .ld x B=>ax (bX s x) fun
   | .ptr b off=>ax (dh b s.boxes) λbx=>ax (aF bx.cells off B) λa=>
     K (.dat a (match B with|none=>fq off bx.tags|some _=>none)) s
   | .rp cs=>ax (aF cs 0 B) λa=>K (.dat a none) s
   |_=>False
 | .st x v B=>ax (bX s x) fun
   | .ptr b off=>ax (dh b s.boxes) λbx=>ax (bX s v) fun
     | .dat a q=>jo a q=true/\a.cells.length=B/\off+B<=bx.cells.length/\
       K .undef {s with boxes:=pn b ⟨setCells bx.cells off a.cells,match q with|some q=>(off,q)::bx.tags.filter (λp=>p.1<off||off+B<=p.1)|none=>bx.tags.filter (λp=>p.1<off||off+B<=p.1)⟩ s.boxes}
     |_=>False
   |_=>False
 | .fa x off=>ax (bX s x) fun
   | .ptr b o=>K (.ptr b (o+off)) s
   | .rp cs=>K (.rp (cs.drop off)) s
   | .pt 2 ps=>K (.pt 2 (ps.drop off)) s
   |_=>False
 | .Pd x i n z=>ax (bX s x) λp=>ax (aM s i) λa=>ax (idxOf a) λi=>(0<=i/\i<n)/\
   match p with
   | .ptr b o=>K (.ptr b (o+i.toNat*z)) s
   | .rp cs=>K (.rp (cs.drop (i.toNat*z))) s
   |_=>False
 | .S0 x i z=>ax (bX s x) fun
   | .dat l _=>ax (aM s i) λa=>ax (idxOf a) λi=>ax (rowsOf l) λxs=>(0<=i/\i<xs.length)/\ax (xs[i.toNat]?) λrow=>row.length=z/\K (.rp row) s
   | .vs b off n L=>ax (aM s i) λa=>ax (idxOf a) λi=>(0<=i/\i<n)/\L=z/\K (.ptr b (off+i.toNat*z)) s
   |_=>False
 | .He x off B=>ax (aM s x) fun
   | .agg cs=>ax (aF cs off B) λa=>K (.dat a none) s
   |_=>False
 | .KO x i n z B=>ax (aM s x) fun
   | .agg cs=>ax (aM s i) λa=>ax (idxOf a) λi=>(0<=i/\i<n)/\ax (aF cs (i.toNat*z) B) λa=>K (.dat a none) s
   |_=>False
 | .bin op x y=>ax (aM s x) λa=>ax (aM s y) λb=>ax (eP op a b) λv=>K (.dat v none) s
 | .eqc R neg x y=>ax (aM s x) fun
   | .agg as=>ax (aM s y) fun
    | .agg E=>ax (cU R as E) λe=>K (.dat (.bool (e !=neg)) none) s
    |_=>False
   |_=>False
 | .bb neg x y=>ax (aM s x) λa=>ax (aM s y) λb=>ax (ZS neg a b) λv=>K (.dat v none) s
 | .un op x=>ax (aM s x) λa=>ax (WL op a) λv=>K (.dat v none) s
 | .rm k x=>ax (aM s x) λa=>ax (F6 k a) λv=>K (.dat v none) s
 | .Dw k x=>ax (aM s x) λa=>ax (F7 k a) λv=>K (.dat v none) s
 | .Hf k x=>ax (aM s x) λa=>ax (yQ k a) λv=>K (.dat v none) s
 | .Hg x=>ax (bX s x) λv=>K v s
 | .KY x=>ax (bX s x) fun
   | .dat a _=>ax (yR a) λv=>K (.dat v none) s
   | .vs _ _ n _=>K (.dat (.int .i64 n) none) s
   |_=>False
 | .KZ n=>K (.dat (.int .i64 n) none) s
 | .app e z bytes x y=>ax (bX s x) fun
   | .dat a q=>ax (rowsOf a) λxs=>ax (aM s y) λb=>ax (rowsOf b) λD=>
     (xs.length+D.length)*bytes<=140737488355328/\(∀r∈xs,r.length=z)/\(∀r∈D,r.length=z)/\
     (match a,q with
      | .bV,_=>if D=[]then K (.dat .bV none) s else K (.dat (.sl (xs++D)) (some id)) {s with live:=(id,e)::s.live}
      | .sl _,some q=>fq q s.live=some e/\K (.dat (.sl (xs++D)) (some id)) {s with live:=(id,e)::nH q s.live}
      |_,_=>False)
   |_=>False
 | .call f args=>ax (eS s args) λas=>∃r fr,C.c f as r fr/\K (.dat r (fr.map λ_=>id)) {s with live:=match fr with|some e=>(id,e)::s.live|none=>s.live}
 | .eo f args=>ax (eV true s args) λp=>dY p.2=true/\ax (bh s.boxes p.2) λcss=>
   ∃r fr A,C.p f css p.1 r fr A/\K (.dat r (fr.map λ_=>id)) {s with boxes:=eG p.2 A s.boxes,live:=match fr with|some e=>(id,e)::s.live|none=>s.live}
 | .kN g args=>ax (aM s g) fun
   | .fn (.func f) first caps=>ax (eS s args) λas=>∃r fr,C.c f (first++as++caps) r fr/\K (.dat r (fr.map λ_=>id)) {s with live:=match fr with|some e=>(id,e)::s.live|none=>s.live}
   |_=>False
 | .ext x i=>ax (aM s x) λa=>ax (Po a i) λv=>K (.dat v none) s
 | .A5 fn first caps=>ax (eS s first) λas=>ax (eV false s caps) λp=>(dY p.2&&jl p.2)=true/\ax (bh s.boxes p.2) λcss=>
   K (.dat (.fn fn as (j8 p.1 css)) none) (iA p.2 css s)
 | .Wc z x lo M=>ax (aM s x) λa=>ax (rowsOf a) λxs=>
   ax (DB s lo) λl=>ax (DC s xs M) λh=>
   (0<=l/\l<=h/\h<=xs.length)/\(∀r∈xs,r.length=z)/\K (.dat (Pp a xs l h) none) s
 | .nc x=>ax (bX s x) fun
   | .ptr b o=>K (.ptr b o) s
   | .rp cs=>K (.rp cs) s
   | .dat (.fn (.func f) as E) q=>K (.dat (.fn (.func f) as E) q) s
   | .dat (.ref cs) _=>K (.rp cs) s
   |_=>False
 | .mm mx args=>ax (eS s args) fun
   |[]=>False
   |a::r=>ax (r.foldlM (We mx) a) λv=>K (.dat v none) s
 | .xt e x=>ax (aM s x) λa=>ax (ZT e a) λv=>K (.dat v none) s
 | .Wd x n z=>ax (bX s x) fun
   | .rp cs=>n*z<=cs.length/\K (.dat (.sl (dA z n cs)) none) s
   | .ptr b off=>4<=b/\ax (dh b s.boxes) λbx=>n*z<=(bx.cells.drop off).length/\K (.dat (.sl (dA z n (bx.cells.drop off))) none) (iA [b] [bx.cells] s)
   |_=>False
 | .WE neg x=>ax (aM s x) λa=>ax (IL neg a) λb=>K (.dat (.bool b) none) s
 | .gU g args=>ax (aM s g) fun
   | .fn (.func f) [] []=>ax (eV true s args) λp=>dY p.2=true/\ax (bh s.boxes p.2) λcss=>
     ∃r fr A,C.p f css p.1 r fr A/\K (.dat r (fr.map λ_=>id)) {s with boxes:=eG p.2 A s.boxes,live:=match fr with|some e=>(id,e)::s.live|none=>s.live}
   |_=>False
 | .Dx f args=>ax (eV true s args) λp=>dY p.2=true/\ax (eY s.boxes p.2) λcss=>
   ∃r,C.p f css p.1 r none css/\K (.dat r none) s
 | .tJ g args=>ax (aM s g) fun
   | .fn (.func f) [] []=>ax (eV true s args) λp=>dY p.2=true/\ax (eY s.boxes p.2) λcss=>
     ∃r,C.p f css p.1 r none css/\K (.dat r none) s
   |_=>False
 | .WG x n z M=>ax (bX s x) fun
   | .ptr b off=>ax (aM s M) λa=>ax (idxOf a) λh=>(0<=h/\h<=n)/\K (.vs b off h.toNat z) s
   |_=>False
 | .FQ e z bytes y x=>ax (bX s y) fun
   | .vs b off n L=>ax (bX s x) fun
     | .ptr O _=>(O=b/\L=z)/\ax (dh b s.boxes) λbx=>(n*z<=(bx.cells.drop off).length/\n*bytes<=140737488355328)/\
       (if n=0 then K (.dat .bV none) s else K (.dat (.sl (dA z n (bx.cells.drop off))) (some id)) {s with live:=(id,e)::s.live})
     |_=>False
   |_=>False
 | .ixB x i=>ax (aM s x) fun
   | .str b=>ax (aM s i) λa=>ax (idxOf a) λj=>ax (Mp b j) λv=>K (.dat v none) s
   |_=>False
 | .S1 x B=>ax (bX s x) fun
   | .pt 2 ps=>match B,ps with
    |none,(b,o)::_=>K (.ptr b o) s
    |some n,ps=>n<=ps.length/\K (.pt 0 (ps.take n)) s
    |_,_=>False
   |_=>False
 | .wA f args=>ax (eV true s args) λp=>dY p.2=true/\ax (bh s.boxes p.2) λcss=>
   ∃v A,C.q f css p.1 v A/\K (.dat v none) {s with boxes:=eG p.2 A s.boxes}
def S3(n:Nat) (a:AV) (id:Nat):SV->SV
 | .raw B A=>bif B==q&&A==n then .dat a (some id)else .raw B A
 |v=>v
def NL(q n:Nat) (a:AV) (id:Nat):List (Nat×SV)->List (Nat×SV)
 |[]=>[]
 |(t,v)::r=>(t,S3 q n a id v)::NL q n a id r
def Pu(ps:List (Nat×Nat)):SV->SV
 | .ptr A o=>bif A==b then .pt 2 (ps.drop o)else .ptr A o
 |v=>v
def F8(b:Nat) (ps:List (Nat×Nat)):List (Nat×SV)->List (Nat×SV)
 |[]=>[]
 |(t,v)::r=>(t,Pu b ps v)::F8 b ps r
def F9(z:Nat) (rows:List (List AV)):Bool:=rows.all λr=>r.length==z&&r.all jN
def gi(C:aY) (id:Nat) (o:IK) (K:SV->S->Prop) (X:AV->S->Prop) (s:S):Prop:=
 match o with
 | .o c=>bS C id c K s
 | .call f args=>bS C id (.call f args) K s\/(ax (eS s args) λas=>(∃cs,C.n f as cs/\K (.ptr id 0) {s with boxes:=(id,⟨cs,[]⟩)::s.boxes})\/(∃p,C.q f [] (as.map some) p []/\X p s)\/
   ∃rows e z,C.c f as (.sl rows) (some e)/\F9 z rows=true/\K (.vs id 0 rows.length z) {s with boxes:=(id,⟨rows.flatten,[]⟩)::s.boxes})
 | .eo f args=>bS C id (.eo f args) K s\/ax (eV true s args) λp=>dY p.2=true/\ax (bh s.boxes p.2) λcss=>
   (∃v A,C.q f css p.1 v A/\X v {s with boxes:=eG p.2 A s.boxes})\/Mq C f css p.1 p.2 id s.boxes s.live λv bx lv=>K v {s with boxes:=bx,live:=lv}
 | .kN b g args=>match bX s g with
   |some (.wz f as B)=>ax (eV true s args) λp=>dY (p.2++B)=true/\ax (bh s.boxes (p.2++B)) λcss=>
     (∃r fr A,C.p f css (p.1++as) r fr A/\K (.dat r (fr.map λ_=>id)) {s with boxes:=eG (p.2++B) A s.boxes,live:=match fr with|some e=>(id,e)::s.live|none=>s.live})\/
     (∃v A,C.q f css (p.1++as) v A/\X v {s with boxes:=eG (p.2++B) A s.boxes})\/Mq C f css (p.1++as) (p.2++B) id s.boxes s.live λv bx lv=>K v {s with boxes:=bx,live:=lv}
   |_=>bS C id (if b then .gU g args else .kN g args) K s
 | .mkc f caps=>ax (eV false s caps) λp=>K (.wz f p.1 p.2) s
 | .pan x=>ax (aM s x) λa=>DA a=true/\X a s
 | .mkI t x=>ax (aM s x) λa=>jo a none=true/\K (.dat (.iface t a) none) s
 | .tas t z x=>ax (aM s x) λa=>ax (WM t z a) λv=>K (.dat v none) s
 | .isI neg x=>ax (aM s x) λa=>ax (WN neg a) λb=>K (.dat (.bool b) none) s
 | .isP neg x=>ax (bX s x) λv=>ax (NK neg v) λb=>K (.dat (.bool b) none) s
 | .mks e bytes l c=>ax (aM s l) λa=>ax (idxOf a) λl=>ax (aM s c) λb=>ax (idxOf b) λc=>(0<=l/\l<=c/\c*bytes<=140737488355328)/\K (.raw id l.toNat) {s with live:=(id,e)::s.live}
 | .cpy e x y=>ax (bX s x) fun
   | .raw q n=>ax (aM s y) λb=>ax (rowsOf b) λD=>(D.length=n/\∀r∈D,r.length=1)/\fq q s.live=some e/\
     K (.dat (.int .i64 n) none) {s with slots:=NL q n (.sl D) id s.slots,live:=(id,e)::nH q s.live}
   |_=>False
 | .WH x=>ax (bX s x) fun
   | .ptr b o=>K (.pt 0 [(b,o)]) s
   |_=>False
 | .WJ x=>ax (bX s x) fun
   | .pt 0 ps=>K (.pt 2 ps) s
   |_=>False
 | .stp x v=>ax (bX s x) fun
   | .ptr b 0=>ax (bX s v) fun
     | .pt 0 ps=>ax (dh b s.boxes) λy=>(4<=b/\y.cells.length=1/\ps.length=1)/\K .undef {s with slots:=F8 b ps s.slots,boxes:=mH b s.boxes}
     |_=>False
   |_=>False
 | .WK xs=>ax (IP s xs) λps=>K (.pt 1 ps) s
 | .iap x i=>ax (bX s x) fun
   | .pt 1 ps=>ax (aM s i) λa=>ax (idxOf a) λi=>(0<=i/\i<ps.length)/\K (.pt 2 (ps.drop i.toNat)) s
   |_=>False
 | .lnp x=>ax (bX s x) fun
   | .pt 1 ps=>K (.dat (.int .i64 ps.length) none) s
   |_=>False
 | .Pn g args=>ax (aM s g) fun
   | .fn (.func f) [] []=>ax (eV true s args) λp=>dY p.2=true/\ax (bh s.boxes p.2) λcss=>∃j o b,C.r f css p.1 j o/\p.2[j]? =some b/\K (.ptr b o) {s with boxes:=eG p.2 css s.boxes}
   |_=>False
 | .apn e z bytes y=>ax (aM s y) λa=>ax (rowsOf a) λrows=>(rows≠[]/\rows.length*bytes<=140737488355328)/\F9 z rows=true/\K (.vs id 0 rows.length z) {s with boxes:=(id,⟨rows.flatten,[]⟩)::s.boxes}
def gM(g:Option (Nat×Bool)) (yes no:Prop):Prop:=
 match g with
 |none=>yes
 |some (t,want)=>match lk t s.slots with
  |some (.dat (.bool b) _)=>(b=want->yes)/\(b=!want->no)
  |some .undef=>no
  |_=>False
def j6(C:aY) (base:Nat):Nat->List CO->(S->Prop)->S->Prop
 |_,[],K,s=>K s
 |i,o::r,K,s=>gM s o.g
   (bS C (base+i) o.op (λv A=>j6 C base (i+1) r K (A.put o.dst v)) s)
   (j6 C base (i+1) r K (s.put o.dst .undef))
def tL(C:aY) (base:Nat):Nat->List XO->(S->Prop)->(AV->S->Prop)->S->Prop
 |_,[],K,_,s=>K s
 |i,o::r,K,X,s=>gM s o.g
   (gi C (base+i) o.op (λv A=>tL C base (i+1) r K X (A.put o.dst v)) X s)
   (tL C base (i+1) r K X (s.put o.dst .undef))
def kO(k:S->Prop) (Q:Exit->S->Prop):Exit->S->Prop
 | .normal,s=>k s
 |e,s=>Q e s
def jH:Exit->S->Prop
 | .exit A,s=>if A=id then Q .normal s else Q (.exit A) s
 |e,s=>Q e s
def IE:Nat:=(fq q m).getD q
def DE(nx:Nat):SV->SV->Prop
 | .dat a _,.dat a' none=>a=a'
 | .dat a (some q),.dat a' (some M)=>a=a'/\q=IE m M/\M<nx
 | .ptr b o,.ptr A o'=>b=A/\o=o'/\A<nx
 | .rp cs,.rp E=>cs=E
 | .vs b o n z,.vs A o' O Z=>(b=A/\o=o')/\(n=O/\z=Z)/\A<nx
 | .undef,.undef=>True
 | .wz f as V,.wz R L B=>f=R/\as=L/\V=B/\∀b∈B,b<nx
 | .pt k ps,.pt k' D=>k=k'/\ps=D/\∀p∈D,p.1<nx
 |_,_=>False
def ig(m:List (Nat×Nat)) (nx:Nat) (a:List (Nat×SV)):List (Nat×SV)->Prop
 |[]=>True
 |(t,v)::r=>ax (lk t a) (λu=>DE m nx u v)/\ig m nx a r
def mI(m:List (Nat×Nat)) (nx:Nat) (a:List (Nat×Nat)):List (Nat×Nat)->Prop
 |[]=>True
 |(o,q)::r=>(fq o a=some (IE m q)/\q<nx)/\mI m nx a r
def i6(m:List (Nat×Nat)) (nx:Nat) (a:List (Nat×dH)):List (Nat×dH)->Prop
 |[]=>True
 |(b,x)::r=>ax (dh b a) (λy=>y.cells=x.cells/\mI m nx y.tags x.tags/\b<nx)/\i6 m nx a r
def ry(m:List (Nat×Nat)) (nx:Nat) (a:List (Nat×Nat)):List (Nat×Nat)->Prop
 |[]=>True
 |(q,e)::r=>(fq (IE m q) a=some e/\q<nx)/\ry m nx a r
def dm(l:List (Nat×Nat)):Prop:=((l.map λp=>IE m p.1).Nodup)
def Le(s1:S):Prop:=
 4<=s1.nx/\∃m,ig m s1.nx s.slots s1.slots/\i6 m s1.nx s.boxes s1.boxes/\ry m s1.nx s.live s1.live/\dm m s1.live
def Frz:Prop:=∃ids,(dY ids&&jl ids)=true/\ax (bh s.boxes ids) λcss=>F (iA ids css s)
def down:Prop:=∃s1,Le s s1/\(F s1\/Frz F s1)\/F s
theorem nA{F:S->Prop} {s:S} (h:F s):down F s:=⟨s,.inr h⟩
theorem rA{F:S->Prop} {s s1:S} (h:Le s s1) (hF:F s1):down F s:=⟨s1,.inl ⟨h,.inl hF⟩⟩
theorem Pv{F:S->Prop} {s s1:S} (h:Le s s1) (hF:Frz F s1):down F s:=⟨s1,.inl ⟨h,.inr hF⟩⟩
def vM(F:(Exit->S->Prop)->S->Prop) (Q:Exit->S->Prop):Nat->S->Prop
 |0,_=>False
 |n+1,s=>F (kO (down (vM F Q n)) Q) s
def bC.rd:bC->List Nat
 | .t n=>[n]
 | .k _=>[]
def Mr:Option bC->List Nat
 |some x=>x.rd
 |none=>[]
def aX:List bC->List Nat
 |[]=>[]
 |x::r=>x.rd++aX r
def yU:List (Nat×Nat×bC)->List Nat
 |[]=>[]
 |(_,_,x)::r=>x.rd++yU r
def bU.rd:bU->List Nat
 | .mv x=>x.rd
 | .pick c a b=>c.rd++a.rd++b.rd
 | .alloc _=>[]
 | .box x=>x.rd
 | .build _ ps=>yU ps
 | .SP _ _ xs=>aX xs
 | .ld x _=>x.rd
 | .st x v _=>x.rd++v.rd
 | .fa x _=>x.rd
 | .Pd x i _ _=>x.rd++i.rd
 | .S0 x i _=>x.rd++i.rd
 | .He x _ _=>x.rd
 | .KO x i _ _ _=>x.rd++i.rd
 | .bin _ x y=>x.rd++y.rd
 | .eqc _ _ x y=>x.rd++y.rd
 | .bb _ x y=>x.rd++y.rd
 | .un _ x=>x.rd
 | .rm _ x=>x.rd
 | .Dw _ x=>x.rd
 | .Hf _ x=>x.rd
 | .Hg x=>x.rd
 | .KY x=>x.rd
 | .KZ _=>[]
 | .app _ _ _ x y=>x.rd++y.rd
 | .call _ args=>aX args
 | .eo _ args=>aX args
 | .kN g args=>g.rd++aX args
 | .ext x _=>x.rd
 | .A5 _ a b=>aX a++aX b
 | .Wc _ x lo A=>x.rd++Mr lo++Mr A
 | .nc x=>x.rd
 | .mm _ args=>aX args
 | .xt _ x=>x.rd
 | .Wd x _ _=>x.rd
 | .ixB x i=>x.rd++i.rd
 | .WE _ x=>x.rd
 | .gU g args=>g.rd++aX args
 | .Dx _ args=>aX args
 | .tJ g args=>g.rd++aX args
 | .WG x _ _ A=>x.rd++A.rd
 | .FQ _ _ _ y x=>y.rd++x.rd
 | .S1 x _=>x.rd
 | .wA _ args=>aX args
def bU.isApp:bU->Bool
 | .app ..=>true
 |_=>false
def bU.wC:bU->List Nat
 | .ld x _=>x.rd
 | .st x _ _=>x.rd
 | .eo _ args=>aX args
 | .gU _ args=>aX args
 | .Dx _ args=>aX args
 | .tJ _ args=>aX args
 | .wA _ args=>aX args
 | .A5 _ _ b=>aX b
 | .Wd x _ _=>x.rd
 | .FQ _ _ _ _ x=>x.rd
 |_=>[]
def bU.Ms:bU->List Nat
 | .st x _ _=>x.rd
 | .eo _ args=>aX args
 | .wA _ args=>aX args
 | .gU _ args=>aX args
 | .A5 _ _ b=>aX b
 | .Wd x _ _=>x.rd
 |_=>[]
def bU.BV:bU->Bool
 | .A5 _ _ b=>!b.isEmpty
 | .Wd ..=>true
 |_=>false
def bU.tM:bU->List Nat
 | .mv x| .fa x _| .Pd x _ _ _| .S0 x _ _| .nc x| .Hg x| .S1 x _| .WG x _ _ _=>x.rd
 | .pick _ a b=>a.rd++b.rd
 |_=>[]
def bU.Pw:bU->Bool
 | .alloc _| .box _=>true
 |_=>false
def bU.ro:bU->bU
 | .eo f args=>.Dx f args
 | .gU g args=>.tJ g args
 |o=>o
def CO.ro(o:CO):CO:=⟨o.dst,o.op.ro,o.g⟩
def oD(ro:List Nat):Nat->List CO->List CO
 |_,[]=>[]
 |i,o::r=>(bif ro.contains i then o.ro else o)::oD ro (i+1) r
theorem yV:∀{i:Nat} {l:List CO},oD [] i l=l
 |_,[]=>rfl
 |i,o::l=>by show o::oD [] (i+1) l=_;rw[yV]
def Bb(k:Nat) (A:List Nat) (i:Nat) (o:CO):CO:=
 if i=k then(match o.op with| .eo f args=>⟨o.dst,.wA f args,o.g⟩|_=>o)else if A.contains i=true then⟨none,.mv (.k .tA),none⟩else o
def oE(k:Nat) (A:List Nat):Nat->List CO->List CO
 |_,[]=>[]
 |i,o::r=>Bb k A i o::oE k A (i+1) r
def CO.rd(o:CO):List Nat:=o.op.rd++(match o.g with|some (t,_)=>[t]|none=>[])
abbrev Tag:=Option (Option Nat)
def Tag.FO:Tag->Nat->Bool
 |none,_=>true
 |some z,b=>z==some b
def Tag.dis:Tag->Tag->Bool
 |some none,_=>true
 |_,some none=>true
 |some (some a),some (some b)=>a !=b
 |_,_=>false
def look:List (Nat×Tag)->Nat->Tag
 |[],_=>none
 |(t,z)::r,n=>bif n==t then z else look r n
def CO.indep:Bool:=
 (match x.dst with|some d=>!y.rd.contains d&&y.dst !=some d|none=>true)&&
 (match y.dst with|some d=>!x.rd.contains d|none=>true)&& !(x.op.isApp&&y.op.isApp)
def CO.half(T:List (Nat×Tag)) (x y:CO):Bool:=
 x.op.Ms.all λt=>y.op.wC.all (λu=>(look T t).dis (look T u))&&(!x.op.BV||y.rd.all λu=>(look T t).dis (look T u))
def CO.tN(T:List (Nat×Tag)) (x y:CO):Bool:=x.indep y&&x.half T y&&y.half T x
def CO.apart:Bool:=x.tN [] y
def Wf(T:List (Nat×Tag)):List Nat->Tag
 |[]=>some none
 |[t]=>look T t
 |t::r=>if look T t==Wf T r then look T t else none
def Px(T:List (Nat×Tag)) (base:Nat):Nat->List CO->List (Nat×Tag)
 |_,[]=>T
 |i,o::r=>Px (match o.dst with|some t=>(t,if o.op.Pw then some (some (base+i))else Wf T o.op.tM)::T|none=>T) base (i+1) r
def xT:List (Nat×SV)->List (Nat×Tag)
 |[]=>[]
 |(t,.ptr b _)::r=>(t,some (some b))::xT r
 |(t,.vs b _ _ _)::r=>(t,some (some b))::xT r
 |(t,.pt _ [(b,_)])::r=>(t,some (some b))::xT r
 |(t,.pt _ _)::r=>(t,none)::xT r
 |(t,_)::r=>(t,some none)::xT r
def lQ(T:List (Nat×Tag)):List (Nat×SV)->Bool
 |[]=>true
 |(t,.ptr b _)::r=>(look T t).FO b&&lQ T r
 |(t,.vs b _ _ _)::r=>(look T t).FO b&&lQ T r
 |(t,.pt _ ps)::r=>(ps.all λp=>(look T t).FO p.1)&&lQ T r
 |(_,_)::r=>lQ T r
def rB(T:List (Nat×Tag)) (id:Nat) (o:CO):Bool:=
 match o.dst with
 |none=>true
 |some t=>match look T t with
  |none=>true
  |some z=>if o.op.Pw then z==some id else o.op.tM.all λu=>match look T u with|some A=>A==none||A==z|none=>false
def nj(T:List (Nat×Tag)) (base:Nat):Nat->List CO->Bool
 |_,[]=>true
 |i,o::r=>rB T (base+i) o&&nj T base (i+1) r
def BW(T:List (Nat×Tag)) (ops:List CO):List (Nat×Nat)->Bool
 |[]=>true
 |(i,j)::r=>(match ops[i]?,ops[j]? with|some x,some y=>x.tN T y|_,_=>false)&&BW T ops r
def WR(T:List (Nat×Tag)) (ops:List CO) (dc:List (Nat×Nat)) (base:Nat) (sl:List (Nat×SV)):Bool:=lQ T sl&&nj T base 0 ops&&BW T ops dc
def yW(ops:List CO) (dc:List (Nat×Nat)) (base:Nat) (sl:List (Nat×SV)):Bool:=WR (Px (xT sl) base 0 ops) ops dc base sl
def tO:List Nat->List AV->S->S
 |p::ps,x::xs,s=>tO ps xs (s.put (some p) (.dat x none))
 |_,_,s=>s
def oF(wr:List Nat):List (Nat×SV)->List (Nat×SV)
 |[]=>[]
 |(t,v)::r=>bif wr.contains t then oF wr r else(t,v)::oF wr r
def Bc:S:={s with slots:=oF wr s.slots}
def Py:Exit->S->Prop
 | .normal,s=>down F (Bc wr s)
 | .ret,s=>Q .ret (Bc wr s)
 | .exit id,s=>Q (.exit id) (Bc wr s)
 |_,_=>False
def IQ(K:S->Prop):Exit->S->Prop
 | .normal,s=>K s
 |_,_=>False
def tP(l:Nat) (K:S->Prop) (Q:Exit->S->Prop):Exit->S->Prop
 | .goto A,s=>A=l/\K s
 |e,s=>Q e s
def IS:Exit->S->Prop
 | .goto _,_=>False
 |e,s=>Q e s
def Pz(C:aY) (ops:List CO) (dc:List (Nat×Nat)) (K:S->Prop) (s:S):Prop:=
 ∃ro,yW (oD ro 0 ops) dc s.nx s.slots=true/\j6 C s.nx 0 (oD ro 0 ops) K s
def WS(C:aY) (ops:List CO) (dc:List (Nat×Nat)) (k:Nat) (A:List Nat) (ds:List Nat) (X:AV->S->Prop) (s:S):Prop:=
 yW (oE k A 0 ops) dc s.nx s.slots=true/\j6 C s.nx 0 (oE k A 0 ops) (λB=>∃d p,(ops[k]?).bind CO.dst=some d/\lk d B.slots=some (.dat p none)/\X p (Bc ds B)) s
def aw(C:aY):br->(Exit->S->Prop)->S->Prop
 | .skip,Q,s=>Q .normal s
 | .Mo ops,Q,s=>j6 C s.nx 0 ops (λs'=>Q .normal {s' with nx:=s.nx+ops.length}) s
 | .seq a b,Q,s=>aw C a (kO (aw C b Q) Q) s
 | .join a b,Q,s=>aw C a (kO (down (aw C b Q)) Q) s
 | .cond c a b,Q,s=>ax (aM s c) fun
   | .bool t=>(t=true->aw C a Q s)/\(t=false->aw C b Q s)
   |_=>False
 | .block id c,Q,s=>aw C c (jH id Q) s
 | .loop c,Q,s=>down (λs=>∃n,vM (aw C c) Q n s) s
 | .exit id,Q,s=>Q (.exit id) s
 | .ret,Q,s=>Q .ret s
 | .scope l c r,Q,s=>aw C c (tP l (aw C r (IS Q)) Q) s
 | .label _,Q,s=>Q .normal s
 | .goto l,Q,s=>Q (.goto l) s
 | .NI ops,Q,s=>tL C s.nx 0 ops (λs'=>Q .normal {s' with nx:=s.nx+ops.length}) (λp s'=>Q (.panic (j7 p)) {s' with nx:=s.nx+ops.length}) s
 | .Dy ops dc,Q,s=>∃ids,(dY ids&&jl ids)=true/\ax (bh s.boxes ids) λcss=>Pz C ops dc (λs'=>Q .normal {s' with nx:=s.nx+ops.length}) (iA ids css s)
 | .K0 ops dc k A,Q,s=>(∃ids,(dY ids&&jl ids)=true/\ax (bh s.boxes ids) λcss=>Pz C ops dc (λs'=>Q .normal {s' with nx:=s.nx+ops.length}) (iA ids css s))\/
   WS C ops dc k A (ops.flatMap λo=>o.dst.toList) (λp s'=>Q (.panic (j7 p)) {s' with nx:=s.nx+ops.length}) s
 | .C5 g ps wr as D,Q,s=>ax (aM s g) λB=>∃xs,C.i B xs/\(∀x∈xs,x.length=ps.length)/\∃F:Nat->S->Prop,down (F 0) s/\(∀i s',F i s'->aM s' g=some B)/\
   (∀i x s',xs[i]? =some x->F i s'->aw C as (IQ (aw C D (Py wr (F (i+1)) Q))) (tO ps x s'))/\∀s',F xs.length s'->Q .normal s'
def gq:Option Nat:=(P.info? t).map (·.size)
def oG:Bool:=
 match P.underlying t with
 |some (.struct _)|some (.array _ _)=>true
 |_=>false
def yX:Option (Option Nat):=
 match P.underlying t with
 |some (.struct _)|some (.array _ _)=>(gq P t).map some
 |some _=>some none
 |none=>none
def zeroOf:Option (List AV):=
 match(P.info? t).bind (·.zero)with
 |some z=>z.cells.toList.mapM NJ
 |none=>none
def cq:Operand->Option bC
 | .tmp t=>some (.t t)
 | .const v=>(ofV v).map .k
 | .func f=>some (.k (.fn (.func f) [] []))
 | .global _=>none
def gV(l:Array Operand):Option (List bC):=l.toList.mapM cq
def yY(s:TypeId) (f:Nat):Option Field:=
 match P.underlying s with
 |some (.struct A)=>A[f]?
 |_=>none
def IT(P:Program) (rec:TypeId->Option (List CK)):List Field->Nat->Option (List CK)
 |[],_=>some []
 |f::fs,off=>
  if f.name = "_" ∨ f.offset ≠ off then none else
  match rec f.type with
  |some ks=>if gq P f.type=some ks.length/\0<ks.length then(IT P rec fs (off+ks.length)).map (ks++·)else none
  |none=>none
def nJ(P:Program):Nat->TypeId->Option (List CK)
 |0,_=>none
 |d+1,t=>match P.underlying t with
  |some .bool=>some [.b]
  |some (.int _)=>some [.i]
  |some (.float _)=>some [.f]
  |some .string=>some [.s]
  |some (.struct B)=>if P.stoodInHeld t then none else IT P (nJ P d) B.toList 0
  |some (.array n e)=>match nJ P d e with
   |some A=>if gq P e=some A.length then some (List.replicate n A).flatten else none
   |none=>none
  |_=>none
def cEq(x y:bC):Option bU:=
 match nJ P 20 t with
 |some A=>if oG P t&& !P.eqGuardType P.depth t then some (.eqc A neg x y)else none
 |none=>none
def Mt:Bool:=
 match P.underlying t with
 |some (.int _)|some (.float _)=>true
 |_=>false
def PA:Bool:=
 match P.underlying t with
 |some .bool=>true
 |_=>false
def dB:Bool:=
 match P.funcs[f]? with
 | some fn => fn.name != "runtime.NumGoroutine" && fn.body.isSome
 |none=>false
def Mu:Option (Nat×Nat):=
 match P.underlying t with
 |some (.struct A)=>match A[i]? with
  |some f=>(gq P f.type).map λz=>(f.offset,z)
  |none=>none
 |some (.array _ e)=>(gq P e).map λz=>(i*z,z)
 |_=>none
def Bd(P:Program) (t:TypeId):List (Nat×Operand)->Option (List (Nat×Nat×bC))
 |[]=>some []
 |(i,x)::r=>match Mu P t i,cq x,Bd P t r with
  |some (o,z),some x,some ps=>some ((o,z,x)::ps)
  |_,_,_=>none
def sliceB:Bool:=match P.underlying t with|some (.slice _)=>true|_=>false
def Hi:Bool:=
 match P.underlying t with
 |some (.struct A)=>A.toList.all λf=>(gq P f.type).isSome
 |some (.array _ e)=>(gq P e).isSome
 |_=>false
def tQ(zs:Nat):List (Nat×Nat×bC)->Bool
 |[]=>true
 |(o,z,_)::r=>decide (o+z<=zs)&&tQ zs r
def cOpt:Option Operand->Option (Option bC)
 |none=>some none
 |some x=>(cq x).map some
def IU(s d:TypeId) (x:bC):Option bU:=
 match P.underlying s,P.underlying d with
 |some (.int _),some (.int k)=>some (.rm k x)
 |some (.int _),some (.float k)=>some (.Dw k x)
 |some (.float _),some (.int k)=>some (.Hf k x)
 |_,_=>none
def C6:Bool:=match P.underlying t with|some (.pointer _)=>true|_=>false
def K2:Bool:=
 match P.underlying t with
 |some (.struct A)=>match A.toList with
  |[f]=>C6 P f.type&&f.offset==0&&gq P f.type==some 1
  |_=>false
 |_=>false
def rC(P:Program):List TypeId->Bool
 |[]=>false
 |t::r=>(C6 P t||K2 P t)||rC P r
def WT:Option Xt:=
 match P.funcs[f]? with
 |some fn=>if fn.body.isNone&&(Extern.findNext fn).isNone then
   if fn.name == "math.Float64bits" then some .IJ
   else if fn.name == "math.Float64frombits" then some .ffrom
   else if fn.name == "math.RoundToEven" then some .rte
   else none
  else none
 |none=>none
def wD:Option bU:=
 match c.callee with
 | .value (.func f)=>if dB P f then(gV c.args).map (if rC P c.argTypes.toList then .eo f else .call f)
  else match WT P f,c.args.toList with
   |some e,[x]=>(cq x).map (.xt e)
   |_,_=>none
 | .value g=>match cq g,gV c.args with
  |some g,some as=>some (if rC P c.argTypes.toList then .gU g as else .kN g as)
  |_,_=>none
 | .builtin .len=>match c.argTypes[0]?,c.args[0]? with
  |some t,some x=>match P.underlying t with
   |some (.slice _)=>(cq x).map .KY
   |some (.array n _)=>some (.KZ n)
   |_=>none
  |_,_=>none
 | .builtin .append=>match c.argTypes.toList,c.args.toList with
  |[t,A],[x,y]=>if t=A then match P.underlying t,cq x,cq y with
    |some (.slice e),some x,some y=>match P.info? e with
     |some i=>match i.zero with
      |some z=>if 0<i.size&&z.cells.size==i.size&&0<i.bytes then some (.app e i.size i.bytes x y)else none
      |none=>none
     |none=>none
    |_,_,_=>none
   else none
  |_,_=>none
 | .builtin .max=>(gV c.args).map (.mm true)
 | .builtin .min=>(gV c.args).map (.mm false)
 |_=>none
def SQ:Op->Option bU
 | .move x| .assign x=>(cq x).map .mv
 | .pick c a b=>match cq c,cq a,cq b with
  |some c,some a,some b=>some (.pick c a b)
  |_,_,_=>none
 | .alloc t=>(zeroOf P t).map .alloc
 | .box _ x=>(cq x).map .box
 | .build t ps=>match zeroOf P t,Bd P t ps.toList with
  |some zs,some ps=>if tQ zs.length ps&&Hi P t then some (.build zs ps)else none
  |_,_=>none
 | .buildSlice t n ps=>match P.underlying t with
  |some (.slice e)=>match zeroOf P e,gq P e,ps.toList.mapM (λp=>cq p.2)with
   |some zs,some z,some xs=>if n*z<=16777216&&0<z&&zs.length==z&&ps.toList.map (·.1)==List.range n then some (.SP e z xs)else none
   |_,_,_=>none
  |_=>none
 | .load t x=>match yX P t,cq x with
  |some r,some x=>some (if C6 P t||K2 P t then .S1 x r else .ld x r)
  |_,_=>none
 | .store t x v=>match gq P t,cq x,cq v with
  |some z,some x,some v=>some (.st x v z)
  |_,_,_=>none
 | .nilCheck x=>(cq x).map .nc
 | .binOp op t x y _=>match cq x,cq y with
  |some x,some y=>
   if Mt P t then some (.bin op x y)
   else if PA P t then(match op with| .eql=>some (.bb false x y)| .neq=>some (.bb true x y)|_=>none)
   else if sliceB P t then(match op,y with| .eql,.k .bV=>some (.WE false x)| .neq,.k .bV=>some (.WE true x)|_,_=>none)
   else match op with
    | .eql=>cEq P t false x y
    | .neq=>cEq P t true x y
    |_=>none
  |_,_=>none
 | .unOp op _ x=>(cq x).map (.un op)
 | .convert s d x=>(cq x).bind (IU P s d)
 | .fieldAddr s x f=>match yY P s f,cq x with
  |some A,some x=>if gq P A.type==some 0||(gq P A.type).isNone then none else some (.fa x A.offset)
  |_,_=>none
 | .field s x f=>match yY P s f,cq x with
  |some A,some x=>(yX P A.type).map (.He x A.offset)
  |_,_=>none
 | .indexAddr t x i=>match P.underlying t,cq x,cq i with
  |some (.array n e),some x,some i=>(gq P e).map (.Pd x i n)
  |some (.slice e),some x,some i=>(gq P e).map (.S0 x i)
  |_,_,_=>none
 | .index t x i=>match P.underlying t,cq x,cq i with
  |some (.array n e),some x,some i=>match gq P e,yX P e with
   |some z,some r=>some (.KO x i n z r)
   |_,_=>none
  |some .string,some x,some i=>some (.ixB x i)
  |_,_,_=>none
 | .extract x i=>(cq x).map (.ext · i)
 | .makeFunc (.func f) a b=>match gV a,gV b with
  |some a,some b=>if dB P f then some (.A5 (.func f) a b)else none
  |_,_=>none
 | .slice t x lo B none=>match P.underlying t,cq x,cOpt lo,cOpt B with
  |some (.slice e),some x,some lo,some B=>(gq P e).map λz=>.Wc z x lo B
  |some (.array n e),some x,some none,some none=>(gq P e).map λz=>.Wd x n z
  |some (.array n e),some x,some none,some (some B)=>(gq P e).map λz=>.WG x n z B
  |_,_,_,_=>none
 | .call c=>wD P c
 |_=>none
def aag(y:Nat):Option Operand:=
 match ops.find? (λo=>o.dst==some y)with
 |some o=>match o.op with
  | .slice t x none (some _) none=>match P.underlying t with
   |some (.array _ _)=>some x
   |_=>none
  |_=>none
 |none=>none
def xU:Op->Option bU
 | .call c=>match c.callee,c.argTypes.toList,c.args.toList with
  | .builtin .append,[t,A],[.const (.slice none 0 0),.tmp y]=>if t=A then match P.underlying t,(aag P ops y).bind cq with
    |some (.slice e),some x=>match P.info? e with
     |some i=>match i.zero with
      |some z=>if 0<i.size&&z.cells.size==i.size&&0<i.bytes then some (.FQ e i.size i.bytes (.t y) x)else none
      |none=>none
     |none=>none
    |_,_=>none
   else none
  |_,_,_=>none
 |_=>none
def WU:Operand->Bool
 | .tmp y=>match ops.find? (λo=>o.dst==some y)with
  |some o=>match o.op with
   | .fieldAddr .. | .indexAddr ..=>true
   |_=>false
  |none=>false
 |_=>false
def NM:Op->Option bU
 | .load t x=>if C6 P t&& !WU ops x then match yX P t,cq x with
   |some r,some x=>some (.ld x r)
   |_,_=>none
  else none
 |_=>none
def PB(o:Op):Option bU:=
 match xU P ops o with
 |some c=>some c
 |none=>match NM P ops o with
  |some c=>some c
  |none=>SQ P o
def Hj(ops:Array Oper):Option (Nat×Bool)->Option (Option (Nat×Bool))
 |none=>some none
 |some (j,w)=>match(ops[j]?).bind (·.dst)with
  |some t=>some (some (t,w))
  |none=>none
def oJ(ops:Array Oper) (o:Oper):Option CO:=
 match PB P ops.toList o.op,Hj ops o.guard with
 |some c,some g=>some ⟨o.dst,c,g⟩
 |_,_=>none
def xV(P:Program) (ops:Array Oper):List Oper->Option (List CO)
 |[]=>some []
 |o::r=>match oJ P ops o,xV P ops r with
  |some c,some cs=>some (c::cs)
  |_,_=>none
def waits(B:Oper):Bool:=
 B.after.any λe=>Region.binds .any e&&(e.on==i||match ops[e.on]? with
  |some ok=>ok.after.any λA=>Region.binds .any A&&A.on==i
  |none=>false)
def oK(dc:List (Nat×Nat)) (ops:List Oper) (i:Nat) (x:CO):Nat->List Oper->List CO->Bool
 |j,A::os,y::B=>(decide (j<=i)||A.after.any (λe=>Region.binds .any e&&e.on==i)||x.apart y||waits ops i A||dc.contains (i,j))&&oK dc ops i x (j+1) os B
 |_,_,_=>true
def nK(dc:List (Nat×Nat)) (ops:List Oper) (cos:List CO):Nat->List Oper->List CO->Bool
 |i,A::os,x::xs=>A.after.all (λe=>!Region.binds .any e||decide (e.on<i))&&oK dc ops i x 0 ops cos&&nK dc ops cos (i+1) os xs
 |_,_,_=>true
def lA(cos:List CO):Bool:=nK dc ops cos 0 ops cos
def PC(ops:List Oper) (i:Nat) (x:CO):Nat->List Oper->List CO->List (Nat×Nat)
 |j,A::os,y::B=>(if decide (j<=i)||A.after.any (λe=>Region.binds .any e&&e.on==i)||x.apart y||waits ops i A then[]else[(i,j)])++PC ops i x (j+1) os B
 |_,_,_=>[]
def Db(ops:List Oper) (cos:List CO):Nat->List CO->List (Nat×Nat)
 |i,x::xs=>PC ops i x 0 ops cos++Db ops cos (i+1) xs
 |_,[]=>[]
def Mv(cos:List CO):List (Nat×Nat)->Bool
 |[]=>true
 |(i,j)::r=>(match cos[i]?,cos[j]? with|some x,some y=>x.indep y|_,_=>false)&&Mv cos r
def zeroV:Option AV:=((P.info? t).bind (·.zero)).bind ofV
def rD:Bool:=match P.underlying t with|some (.interface _)=>true|_=>false
def PD:Option IK:=
 match c.callee with
 | .value (.func f)=>if dB P f then(gV c.args).map (if rC P c.argTypes.toList then .eo f else .call f)else none
 | .value (.tmp g)=>(gV c.args).map (.kN (rC P c.argTypes.toList) (.t g))
 | .builtin .copy=>match c.argTypes.toList,c.args.toList with
  |[t,_],[x,y]=>match P.underlying t,cq x,cq y with
   |some (.slice e),some x,some y=>if gq P e==some 1 then some (.cpy e x y)else none
   |_,_,_=>none
  |_,_=>none
 |_=>none
def aah(op:BinOp) (t:TypeId) (x y:Operand):Option IK:=
 match op,y with
 | .eql,.const .nilIface=>if rD P t then(cq x).map (.isI false)else none
 | .neq,.const .nilIface=>if rD P t then(cq x).map (.isI true)else none
 | .eql,.const (.pointer none)=>if C6 P t then(cq x).map (.isP false)else none
 | .neq,.const (.pointer none)=>if C6 P t then(cq x).map (.isP true)else none
 |_,_=>none
def PE:Option IK:=
 match c.callee with
 | .value (.tmp g)=>if C6 P t then(gV c.args).map (.Pn (.t g))else none
 |_=>none
def xPt:Op->Option IK
 | .box t x=>if K2 P t then(cq x).map .WJ else none
 | .build t ps=>if K2 P t then match zeroOf P t,ps.toList with
   |some [_],[(0,x)]=>(cq x).map .WH
   |_,_=>none
  else none
 | .buildSlice t n ps=>match P.underlying t with
  |some (.slice e)=>if C6 P e then match zeroOf P e,ps.toList.mapM (λp=>cq p.2)with
    |some [_],some xs=>if 0<n&&n<=16777216&&gq P e==some 1&&ps.toList.map (·.1)==List.range n then some (.WK xs)else none
    |_,_=>none
   else none
  |_=>none
 | .indexAddr t x i=>match P.underlying t with
  |some (.slice e)=>if C6 P e&&gq P e==some 1 then match cq x,cq i with
    |some x,some i=>some (.iap x i)
    |_,_=>none
   else none
  |_=>none
 | .store t x v=>if K2 P t&&gq P t==some 1 then match cq x,cq v with
   |some x,some v=>some (.stp x v)
   |_,_=>none
  else none
 | .call c=>match c.callee,c.argTypes.toList,c.args.toList with
  | .builtin .len,[t],[x]=>match P.underlying t with
   |some (.slice e)=>if C6 P e then(cq x).map .lnp else none
   |_=>none
  |_,_,_=>PE P t c
 |_=>none
def WV:Option IK:=
 match wD P c with
 |some (.app e z b (.k .bV) y)=>some (.apn e z b y)
 |_=>none
def S4:Op->Option IK
 | .panic x=>(cq x).map .pan
 | .makeSlice t l c=>match P.underlying t,cq l,cq c with
  |some (.slice e),some l,some c=>match P.info? e with
   |some i=>if i.size==1&&i.zero.isSome&&decide (0<i.bytes)then some (.mks e i.bytes l c)else none
   |none=>none
  |_,_,_=>none
 | .makeInterface t x=>if rD P t||(P.underlying t).isNone then none else(cq x).map (.mkI t)
 | .typeAssert x _ t true=>if rD P t||(P.underlying t).isNone then none else match zeroV P t,cq x with
  |some z,some x=>some (.tas t z x)
  |_,_=>none
 | .binOp op t x y _=>aah P op t x y
 | .makeFunc (.func f) a b=>if a.isEmpty&& !b.isEmpty&&dB P f then(gV b).map (.mkc f)else none
 | .call c=>match WV P c with
  |some x=>some x
  |none=>PD P c
 |_=>none
def ZU(o:Op):Option IK:=
 match xPt P t o with
 |some x=>some x
 |none=>S4 P o
def tR(ops:Array Oper) (o:Oper):Option XO:=
 match ZU P o.type o.op with
 |some x=>match Hj ops o.guard with
  |some g=>some ⟨o.dst,x,g⟩
  |none=>none
 |none=>(oJ P ops o).map λc=>⟨c.dst,.o c.op,c.g⟩
def Be(P:Program) (ops:Array Oper):List Oper->Option (List XO)
 |[]=>some []
 |o::r=>match tR P ops o,Be P ops r with
  |some c,some cs=>some (c::cs)
  |_,_=>none
def IV:List XO->List Nat
 |[]=>[]
 |o::r=>(match o.dst with|some d=>[d]|none=>[])++IV r
def tS(n:Nat):List XO->Bool
 |[]=>true
 |o::r=>(match o.dst with|some d=>decide (d<n)|none=>true)&&tS n r
def aai:Code->Bool
 | .region ..=>true
 | .skip=>true
 |_=>false
def dstsOf:List CO->List Nat
 |[]=>[]
 |o::r=>(match o.dst with|some d=>[d]|none=>[])++dstsOf r
def br.writes:br->List Nat
 | .Mo ops=>dstsOf ops
 | .Dy ops _=>dstsOf ops
 | .K0 ops _ _ _=>dstsOf ops
 | .seq a b| .join a b| .cond _ a b=>a.writes++b.writes
 | .block _ c| .loop c=>c.writes
 | .C5 _ _ wr _ _=>wr
 | .scope _ c r=>c.writes++r.writes
 | .NI ops=>IV ops
 |_=>[]
def br.after(l:Nat):br->Option br
 | .seq a b| .join a b=>match a.after l with
  |some r=>some (.join r b)
  |none=>b.after l
 | .label A=>if A==l then some .skip else none
 |_=>none
def br.labels:br->List Nat
 | .seq a b| .join a b=>a.labels++b.labels
 | .label l=>[l]
 |_=>[]
def bU.quiet:bU->Bool
 | .mv _| .fa _ _| .ld _ _| .S1 _ _| .Wc _ _ _ _=>true
 |_=>false
def aaj(o:Oper):Bool:=
 match o.op with
 | .call c=>(match c.callee with| .value (.func f)=>dB P f|_=>false)&&c.argTypes.toList.any (K2 P)
 |_=>false
def PF(P:Program):Nat->List Oper->Option Nat
 |_,[]=>none
 |i,o::r=>if aaj P o then some i else PF P (i+1) r
def Wg(k:Nat):Nat->List Nat->List Oper->List Nat
 |_,A,[]=>A
 |i,A,o::r=>Wg k (i+1) (if decide (k<i)&&o.after.any (λe=>Region.binds .any e&&(e.on==k||A.contains e.on))then A++[i]else A) r
def Ga(k:Nat) (A:List Nat):Nat->List Oper->Bool
 |_,[]=>true
 |i,o::r=>(!A.contains i||o.after.any λe=>Region.binds .any e&&(e.on==k||(A.contains e.on&&decide (e.on<i))))&&Ga k A (i+1) r
def DG(k:Nat) (A:List Nat) (d:Nat):Nat->List CO->Bool
 |_,[]=>true
 |i,o::r=>(if i=k then(match o.op with| .eo _ _=>o.g.isNone&&o.dst==some d|_=>false)else A.contains i||(o.op.quiet&&o.g.isNone&&o.dst.isSome&&o.dst !=some d))&&DG k A d (i+1) r
def K3(cos:List CO) (dc:List (Nat×Nat)):Option br:=
 match PF P 0 ops with
 |some k=>match(cos[k]?).bind CO.dst with
  |some d=>let A:=Wg k 0 [] ops
   if lA dc ops (oE k A 0 cos)&&Ga k A 0 ops&&DG k A d 0 cos&&decide (k<ops.length)then some (.K0 cos dc k A)else none
  |none=>none
 |none=>none
def ei(m:Bool) (P:Program):Code->Option br
 | .skip=>some .skip
 | .region _ ops oM=>if m&& !oM then(Be P ops ops.toList).map .NI else match xV P ops ops.toList with
  |some cos=>if oM then
    if m&&(PF P 0 ops.toList).isSome then
     if lA (Db ops.toList cos 0 cos) ops.toList cos then K3 P ops.toList cos (Db ops.toList cos 0 cos)else none
    else match Db ops.toList cos 0 cos with
    |[]=>if lA [] ops.toList cos then some (.Mo cos)else none
    |dc=>if lA dc ops.toList cos&&Mv cos dc then some (.Dy cos dc)else none
   else some (.Mo cos)
  |none=>none
 | .seq a b=>match ei m P a,ei m P b with
  |some x,some y=>some (if aai a then .seq x y else .join x y)
  |_,_=>none
 | .cond c a b=>match cq c,ei m P a,ei m P b with
  |some c,some a,some b=>some (.cond c a b)
  |_,_,_=>none
 | .block id c=>(ei m P c).map (.block id)
 | .loop c=>(ei m P c).map .loop
 | .exit id=>some (.exit id)
 | .ret=>some .ret
 | .label l=>some (.label l)
 | .goto l=>some (.goto l)
 | .scope c=>match ei m P c with
  |some c=>match c.labels with
   |[l]=>(c.after l).map (.scope l c)
   |_=>none
  |none=>none
 | .rangeFunc g ps as A=>match cq g,ei m P as,ei m P A with
  |some g,some a,some b=>
   let wr:=ps.toList++a.writes++b.writes
   if g.rd.all (λt=>!wr.contains t)then some (.C5 g ps.toList wr a b)else none
  |_,_,_=>none
 |_=>none
abbrev aeP (P:Program):Code->Option br:=ei false P
def iJ(n:Nat):List CO->Bool
 |[]=>true
 |o::r=>(match o.dst with|some d=>decide (d<n)|none=>true)&&iJ n r
def br.fits(n:Nat):br->Bool
 | .Mo ops=>iJ n ops
 | .Dy ops _=>iJ n ops
 | .K0 ops _ _ _=>iJ n ops
 | .seq a b| .join a b| .cond _ a b=>a.fits n&&b.fits n
 | .block _ c| .loop c=>c.fits n
 | .scope _ c r=>c.fits n&&r.fits n
 | .NI ops=>tS n ops
 | .C5 _ ps wr a b=>ps.all (λt=>decide (t<n))&&a.fits n&&b.fits n&&ps.all (λt=>wr.contains t)&&a.writes.all (λt=>wr.contains t)&&b.writes.all (λt=>wr.contains t)
 |_=>true
inductive ke where
 |tmp (t:Nat)
 |cell (t:Nat) (sz:Option Nat)
 deriving Inhabited
def NN:ResultVar->Option ke
 | .tmp t=>some (.tmp t)
 | .cell a t=>(yX P t).map (.cell a)
structure bB where
 nt:Nat
 res:List ke
 code:br
def K4(m:Bool) (P:Program) (f:FuncId):Option bB:=
 match P.funcs[f]? with
 |some fn=>match fn.body,fn.results.toList.mapM (NN P)with
  |some c,some A=>match ei m P c with
   |some cc=>if cc.fits fn.ntmps&&dB P f then some ⟨fn.ntmps,A,cc⟩else none
   |none=>none
  |_,_=>none
 |none=>none
abbrev bu (P:Program) (f:FuncId):Option bB:=K4 false P f
end
open Go.RowKit (Below)
section
variable (P:Program) (f:FuncId) (css:List (List AV)) (args:List (Option AV)) (r:AV) {a:AV} {as:List AV} {v:Value} {vs:List Value} {w w':World} {π:Nat->Nat->Prop} (fr:Option Nat) (τ:Nat->Value)
inductive DV (w:World) (π:Nat->Nat->Prop):AV->Value->Prop
 |bool (b:Bool):DV w π (.bool b) (.bool b)
 |int (k:IntKind) (n:Int):DV w π (.int k n) (.int k n)
 |float (k:FloatKind) (n:Nat):DV w π (.float k n) (.float k n)
 |str (s:ByteArray):DV w π (.str s) (.string s)
 |tA:DV w π .tA (.pointer none)
 |bV:DV w π .bV (.slice none 0 0)
 |jf:DV w π .jf .nilFunc
 |oI:DV w π .oI .nilIface
 |fm (n:Nat):FR n=true->DV w π .fm (.float .f64 n)
 |iface (t:Nat) (a:AV) (v:Value):DV w π a v->DV w π (.iface t a) (.iface t v)
 |agg (as:List AV) (vs:Array Value):as.length=vs.size->(∀a∈as,a.scalar=true)->(∀(i:Nat) (a:AV) (v:Value),as[i]? =some a->vs[i]? =some v->DV w π a v)->DV w π (.agg as) (.agg vs)
 |dF (as:List AV) (vs:Array Value):as.length=vs.size->(∀(i:Nat) (a:AV) (v:Value),as[i]? =some a->vs[i]? =some v->DV w π a v)->DV w π (.dF as) (.tuple vs)
 |fn (f:Fn) (as:List AV) (vs:Array Value) (bs:List AV) (us:Array Value):as.length=vs.size->bs.length=us.size->
   (∀(i:Nat) (a:AV) (v:Value),as[i]? =some a->vs[i]? =some v->DV w π a v)->(∀(i:Nat) (a:AV) (v:Value),bs[i]? =some a->us[i]? =some v->DV w π a v)->DV w π (.fn f as bs) (.func f vs us)
 |sl (xs:List (List AV)) (B off cap z:Nat) (f:Nat->Nat->Value):xs.length<=cap->(∀(i:Nat) (r:List AV),xs[i]? =some r->r.length=z)->
   (∀(i j:Nat) (r:List AV) (a:AV),xs[i]? =some r->r[j]? =some a->a.scalar=true)->
   (∀(i j:Nat) (r:List AV) (a:AV),xs[i]? =some r->r[j]? =some a->π B (off+i*z+j))->
   (∀(i j:Nat) (r:List AV) (a:AV),xs[i]? =some r->r[j]? =some a->w.cell? ⟨B,off+i*z+j,none⟩=some (f i j))->
   (∀(i j:Nat) (r:List AV) (a:AV),xs[i]? =some r->r[j]? =some a->DV w π a (f i j))->DV w π (.sl xs) (.slice (some ⟨B,off,none⟩) xs.length cap)
 |NO (A:Addr):DV w π (.sl []) (.slice (some A) 0 0)
 |ref (cs:List AV) (B off:Nat) (f:Nat->Value):(∀(j:Nat) (a:AV),cs[j]? =some a->a.scalar=true)->(∀(j:Nat) (a:AV),cs[j]? =some a->π B (off+j))->
   (∀(j:Nat) (a:AV),cs[j]? =some a->w.cell? ⟨B,off+j,none⟩=some (f j))->(∀(j:Nat) (a:AV),cs[j]? =some a->DV w π a (f j))->DV w π (.ref cs) (.pointer (some ⟨B,off,none⟩))
theorem DV.mono{π':Nat->Nat->Prop} (hp:∀b o,π b o->π' b o) (hc:∀b o,π b o->w'.cell? ⟨b,o,none⟩=w.cell? ⟨b,o,none⟩) (h:DV w π a v):DV w' π' a v:=by
 induction h with
 |bool|int|float|str|tA|bV|jf|oI=>constructor
 |iface t a v _ D=>exact .iface t a v D
 |fm n h=>exact .fm n h
 |agg as vs R hs _ D=>exact .agg as vs R hs D
 |dF as vs R _ D=>exact .dF as vs R D
 |fn f as vs bs us M L _ _ Z aa=>exact .fn f as vs bs us M L Z aa
 |sl xs B off cap z f M L V h4 h5 _ D=>
  exact .sl xs B off cap z f M L V (λi j r a O E=>hp _ _ (h4 i j r a O E)) (λi j r a O E=>(hc _ _ (h4 i j r a O E)).trans (h5 i j r a O E)) D
 |NO A=>exact .NO A
 |ref cs B off f M L V _ D=>exact .ref cs B off f M (λj a E=>hp _ _ (L j a E)) (λj a E=>(hc _ _ (L j a E)).trans (V j a E)) D
def jn(w:World) (π:Nat->Nat->Prop) (as:List AV) (vs:List Value):Prop:=
 as.length=vs.length/\∀(i:Nat) (a:AV) (v:Value),as[i]? =some a->vs[i]? =some v->DV w π a v
theorem jn.mono{w w':World} {π π':Nat->Nat->Prop} (A:∀b o,π b o->π' b o) (D:∀b o,π b o->w'.cell? ⟨b,o,none⟩=w.cell? ⟨b,o,none⟩) {as:List AV} {vs:List Value} (h:jn w π as vs):jn w' π' as vs:=
 ⟨h.1,λi a v B E=>(h.2 i a v B E).mono A D⟩
theorem jn.nil(w:World) (π:Nat->Nat->Prop):jn w π [] []:=⟨rfl,λi a v h=>by simp at h⟩
theorem jn.cons(h:DV w π a v) (D:jn w π as vs):jn w π (a::as) (v::vs):=by
 refine⟨by simp[D.1],λi x u B A=>?_⟩
 cases i with
 |zero=>simp at B A;subst B;subst A;exact h
 |succ i=>exact D.2 i x u (by simpa using B) (by simpa using A)
theorem jn.append{E:List AV} {us:List Value} (h:jn w π as vs) (k:jn w π E us):jn w π (as++E) (vs++us):=by
 refine⟨by simp[h.1,k.1],λi x u B A=>?_⟩
 by_cases D:i<as.length
 ·exact h.2 i x u (by rwa[lc D]at B) (by rwa[lc (by rw[<-h.1];exact D)]at A)
 ·rw[kw ST]at B
  rw[kw (by rw[<-h.1];omega)]at A
  exact k.2 (i-as.length) x u B (by rw[h.1];exact A)
theorem jn.get(h:jn w π as vs) {i:Nat} (A:as[i]? =some a):∃v,vs[i]? =some v/\DV w π a v:=by
 have D:i<as.length:=by
  rcases kn i as.length with h|h
  ·exact h
  ·rw[ip h]at A;cases A
 have B:vs[i]? =some vs[i]!:=by
  rw[dT (by rw[<-h.1];exact D)]
  simp[getElem!_pos vs i (by rw[<-h.1];exact D)]
 exact⟨_,B,h.2 i a _ A B⟩
theorem DV.Mw(h:DV w π a v) (A:a.scalar=true):v.oneCell'=true:=by
 cases h<;>first|rfl|(simp[AV.scalar]at A)
theorem DV.cells{w:World} {π:Nat->Nat->Prop} {a:AV} {v:Value} (h:DV w π a v) (ht:∀vs,a≠.dF vs):jn w π a.cells v.cells.toList/\∀x∈a.cells,x.scalar=true:=by
 cases h with
 |agg as vs V hs hd=>exact⟨⟨by simpa[AV.cells,Value.cells]using V,λi a v Z R=>hd i a v Z (by simpa[Value.cells]using R)⟩,hs⟩
 |dF as vs=>exact absurd rfl (ht as)
 |bool b=>exact⟨.cons (.bool b) (.nil _ _),by simp[AV.cells,AV.scalar]⟩
 |int k n=>exact⟨.cons (.int k n) (.nil _ _),by simp[AV.cells,AV.scalar]⟩
 |float k n=>exact⟨.cons (.float k n) (.nil _ _),by simp[AV.cells,AV.scalar]⟩
 |str s=>exact⟨.cons (.str s) (.nil _ _),by simp[AV.cells,AV.scalar]⟩
 |tA=>exact⟨.cons .tA (.nil _ _),by simp[AV.cells,AV.scalar]⟩
 |bV=>exact⟨.cons .bV (.nil _ _),by simp[AV.cells,AV.scalar]⟩
 |jf=>exact⟨.cons .jf (.nil _ _),by simp[AV.cells,AV.scalar]⟩
 |oI=>exact⟨.cons .oI (.nil _ _),by simp[AV.cells,AV.scalar]⟩
 |iface t a v h=>exact⟨.cons (.iface t a v h) (.nil _ _),by simp[AV.cells,AV.scalar]⟩
 |fm n h=>exact⟨.cons (.fm n h) (.nil _ _),by simp[AV.cells,AV.scalar]⟩
 |fn f as vs bs us L D M E=>exact⟨.cons (.fn f as vs bs us L D M E) (.nil _ _),by simp[AV.cells,AV.scalar]⟩
 |ref cs B off f L D M E=>exact⟨.cons (.ref cs B off f L D M E) (.nil _ _),by simp[AV.cells,AV.scalar]⟩
 |NO A=>exact⟨.cons (.NO A) (.nil _ _),by simp[AV.cells,AV.scalar]⟩
 |sl xs B off cap z f L D M E h5 O=>exact⟨.cons (.sl xs B off cap z f L D M E h5 O) (.nil _ _),by simp[AV.cells,AV.scalar]⟩
theorem Mx(h:NJ v=some a):DV w π a v/\a.scalar=true:=by
 unfold NJ at h
 split at h<;>first|(cases h;exact⟨by constructor,rfl⟩)|cases h
theorem Bf{w:World} {π:Nat->Nat->Prop}:∀(l:List Value) (as:List AV),l.mapM NJ=some as->jn w π as l/\∀a∈as,a.scalar=true
 |[],as,h=>by simp at h;subst h;exact⟨.nil _ _,TB⟩
 |v::l,as,h=>by
  simp only[tp,pC,jp,vx,fo]at h;obtain⟨a,E,A,has,rfl⟩:=h
  have B:=Mx (w:=w) (π:=π) E
  have D:=Bf (w:=w) (π:=π) l A has
  exact⟨.cons B.1 D.1,by simpa using⟨B.2,D.2⟩⟩
theorem PG(h:ofV v=some a):DV w π a v:=by
 unfold ofV at h;split at h
 ·rename_i cs
  simp only[eg]at h;obtain⟨as,has,rfl⟩:=h
  have A:=Bf (w:=w) (π:=π) _ _ has
  exact .agg as cs (by simpa using A.1.1) A.2 (λi a v D B=>A.1.2 i a v D (by simpa using B))
 ·exact(Mx h).1
structure kL where
 n:Nat
 X:Nat->Prop
 β:Nat->Nat
def kL.ok(F:kL) (B:Nat):Prop:=F.n<=B\/F.X B
def kL.okb(F:kL) (b B:Nat):Prop:=F.n<=B\/(b<4/\F.X B)
def kL.top(w:World):kL:=⟨w.heap.size,λ_=>False,id⟩
structure A6 (n:kL) (w w':World):Prop where
 os:w'.os=w.os
 tape:w'.tape=w.tape
 output:w'.output=w.output
 size:w.heap.size<=w'.heap.size
 block:∀k,k<n.n->¬n.X k->w'.heap[k]? =w.heap[k]?
 /-- what is no variables' block lies as it lay -/
 others:∀(k:Nat) (o:Obj),w.heap[k]? =some o->o.isCells=false->w'.heap[k]? =some o
theorem A6.refl(n:kL) (w:World):A6 n w w:=⟨rfl,rfl,rfl,ia _,λ_ _ _=>rfl,λ_ _ h _=>h⟩
theorem A6.trans{n:kL} {a b c:World} (h:A6 n a b) (k:A6 n b c):A6 n a c:=
 ⟨k.os.trans h.os,k.tape.trans h.tape,k.output.trans h.output,ka h.size k.size,λi A B=>(k.block i A B).trans (h.block i A B),λi o A D=>k.others i o (h.others i o A D) D⟩
theorem A6.of{n:kL} (h:Below w.heap.size w w') (A:n.n<=w.heap.size):A6 n w w':=⟨h.os,h.tape,h.output,h.size,λk hk _=>h.block k ST,λk o hk _=>(h.block k (j9.1 hk).1).trans hk⟩
theorem A6.below{n:kL} (h:A6 n w w') (hX:∀k,¬n.X k):Below n.n w w':=⟨h.os,h.tape,h.output,h.size,λk hk=>h.block k hk (hX k)⟩
def Hl(w:World) (π:Nat->Nat->Prop) (ok:Nat->Prop) (e:Nat) (v:Value):Prop:=
 v=.slice none 0 0\/∃B len cap A i,v=.slice (some ⟨B,0,none⟩) len cap/\ok B/\w.heap[B]? =some (.cells A e (0,0))/\len<=cap/\cap<=maxLen/\P.info? e=some i/\A.size=cap*i.size/\∀o,len*i.size<=o->¬π B o
def jq:Value->Option Nat
 | .slice (some a) _ _=>some a.block
 |_=>none
def Gb(args:List AV) (r:AV) (fr:Option Nat):Prop:=
 dB P f=true/\
 ∀(w:World) (π:Nat->Nat->Prop) (vs:List Value),(∀b o,π b o->b<w.heap.size)->jn w π args vs->
  Calls P f vs.toArray w λe w'=>∃v π',e=.returned v/\Below w.heap.size w w'/\(∀b o,π b o->π' b o)/\(∀b o,π' b o->π b o\/w.heap.size<=b)/\
   (∀b o,π' b o->b<w'.heap.size)/\DV w' π' r v/\∀t,fr=some t->Hl P w' π' (λB=>w.heap.size<=B) t v
def gh(w:World) (π:Nat->Nat->Prop):List (Option AV)->List Nat->List Value->Prop
 |[],[],[]=>True
 |some .hole::as,B::Bs,v::vs=>v=.agg #[.pointer (some ⟨B,0,none⟩)]/\gh w π as Bs vs
 |some a::as,Bs,v::vs=>DV w π a v/\gh w π as Bs vs
 |none::as,B::Bs,v::vs=>v=.pointer (some ⟨B,0,none⟩)/\gh w π as Bs vs
 |_,_,_=>False
def RV(β:Nat->Nat) (τ:Nat->Value) (w:World) (π:Nat->Nat->Prop):SV->Value->Prop
 | .dat a q,v=>DV w π a v/\∀t,q=some t->v=τ t
 | .ptr b off,v=>v=.pointer (some ⟨β b,off,none⟩)
 | .rp cs,v=>∃(B off:Nat) (f:Nat->Value),v=.pointer (some ⟨B,off,none⟩)/\(∀(j:Nat) (a:AV),cs[j]? =some a->a.scalar=true)/\(∀(j:Nat) (a:AV),cs[j]? =some a->π B (off+j))/\
   (∀(j:Nat) (a:AV),cs[j]? =some a->w.cell? ⟨B,off+j,none⟩=some (f j))/\∀(j:Nat) (a:AV),cs[j]? =some a->DV w π a (f j)
 | .undef,v=>v=undef
 | .wz f as A,v=>∃us:Array Value,v=.func (.func f) #[] us/\gh w π as (A.map β) us.toList
 | .raw q n,v=>∃B cap,τ q=.slice (some ⟨B,0,none⟩) 0 cap/\v=.slice (some ⟨B,0,none⟩) n cap/\n<=cap
 | .vs b off n _,v=>∃cap,n<=cap/\v=.slice (some ⟨β b,off,none⟩) n cap
 | .pt 0 ps,v=>v=.agg (ps.map λp=>Value.pointer (some ⟨β p.1,p.2,none⟩)).toArray
 | .pt k ps,v=>∃B off cap,(v=if k=1 then .slice (some ⟨B,off,none⟩) ps.length cap else .pointer (some ⟨B,off,none⟩))/\ps.length<=cap/\
   ∀(i:Nat) (p:Nat×Nat),ps[i]? =some p->π B (off+i)/\w.cell? ⟨B,off+i,none⟩=some (.pointer (some ⟨β p.1,p.2,none⟩))
def SV.gS(U:Nat->Prop):SV->Prop
 | .dat _ (some q)=>U q
 | .ptr b _=>U b
 | .vs b _ _ _=>U b
 | .wz _ _ A=>∀b∈A,U b
 | .raw q _=>U q
 | .pt _ ps=>∀p∈ps,U p.1
 |_=>True
def tC(w:World) (π:Nat->Nat->Prop) (B:Nat) (x:dH):Prop:=
 ∃A D,w.heap[B]? =some (.cells A D (0,0))/\jn w π x.cells (A.toList.take x.cells.length)/\(∀a∈x.cells,a.scalar=true)/\(∀o q,fq o x.tags=some q->A[o]? =some (τ q))/\∀o,¬π B o
theorem jn.take{w:World} {π:Nat->Nat->Prop} {as:List AV} {vs:List Value} (h:jn w π as vs):jn w π as (vs.take as.length):=by
 rw[l4 (Nat.le_of_eq h.1.symm)];exact h
def dV(w:World) (π:Nat->Nat->Prop):List (List AV)->List Nat->Prop
 |[],[]=>True
 |cs::css,B::Bs=>tC (λ_=>undef) w π B ⟨cs,[]⟩/\dV w π css Bs
 |_,_=>False
def kL.tD(w:World) (Bs:List Nat):kL:=⟨w.heap.size,λB=>B∈Bs,λk=>Bs.getD k 0⟩
def DH(A:List (List AV)):Prop:=
 dB P f=true/\A.length=css.length/\css.length<=4/\
 ∀(w:World) (π:Nat->Nat->Prop) (Bs:List Nat) (vs:List Value),(∀b o,π b o->b<w.heap.size)->Bs.Nodup->dV w π css Bs->gh w π args Bs vs->
  Calls P f vs.toArray w λe w'=>∃v π',e=.returned v/\A6 (kL.tD w Bs) w w'/\(∀b o,π b o->π' b o)/\(∀b o,π' b o->π b o\/w.heap.size<=b)/\
   (∀b o,π' b o->b<w'.heap.size)/\dV w' π' A Bs/\DV w' π' r v/\∀t,fr=some t->Hl P w' π' (λB=>w.heap.size<=B) t v
theorem DV.jN{w:World} {π:Nat->Nat->Prop} {a:AV} (h:Eng.jN a=true):DV w π a (S2 a):=by
 cases a<;>first|(simp[Eng.jN]at h;done)|constructor
theorem DV.flat(h:jO a=true):DV w π a (yS a):=by
 cases a with
 |agg cs=>
  simp only[jO,lj]at h
  refine .agg cs _ TB (λa A=>?_) (λi a v A B=>?_)
  ·have:=h a A;cases a<;>first|rfl|(simp[Eng.jN]at this;done)
  ·simp only[H0,im,A,ma,fo]at B
   subst B;exact .jN (h a (em A))
 |_=>first|exact .jN h|(simp[jO,Eng.jN]at h;done)
def Iter(D:AV) (xs:List (List AV)):Prop:=
 ∃B caps,D=.fn (.func B) [] caps/\dB P B=true/\(∀x∈xs,∀a∈x,jO a=true)/\
 ∀(l:Nat) (J:Nat->World->Prop) (A:World->Prop) (W:World) (π:Nat->Nat->Prop) (vs:List Value),(∀b o,π b o->b<W.heap.size)->jn W π caps vs->
  (∀i W',J i W'->∀b o,π b o->W'.cell? ⟨b,o,none⟩=W.cell? ⟨b,o,none⟩)->
  (∀i W W',J i W->Below W.heap.size W W'->J i W')->(∀W W',A W->Below W.heap.size W W'->A W')->
  (∀n i x W,xs[i]? =some x->J i W->YieldAt Fence.wide n P l (x.map yS).toArray W λe W'=>(e=.returned (.bool true)/\J (i+1) W')\/(e=.returned (.bool false)/\A W'))->
  J 0 W->
  Calls P B (#[.func (.yield l) #[] #[]]++vs.toArray) W λe W'=>(∃v,e=.returned v)/\(J xs.length W'\/A W')
def Wh(p:AV) (A:List (List AV)):Prop:=
 dB P f=true/\A.length=css.length/\css.length<=4/\
 ∀(w:World) (π:Nat->Nat->Prop) (Bs:List Nat) (vs:List Value),(∀b o,π b o->b<w.heap.size)->Bs.Nodup->dV w π css Bs->gh w π args Bs vs->
  Calls P f vs.toArray w λe w'=>∃π',e=.panicked (j7 p)/\A6 (kL.tD w Bs) w w'/\(∀b o,π b o->π' b o)/\(∀b o,π' b o->π b o\/w.heap.size<=b)/\
   (∀b o,π' b o->b<w'.heap.size)/\dV w' π' A Bs
def aak(args cs:List AV):Prop:=
 dB P f=true/\
 ∀(w:World) (π:Nat->Nat->Prop) (vs:List Value),(∀b o,π b o->b<w.heap.size)->jn w π args vs->
  Calls P f vs.toArray w λe w'=>∃B π',e=.returned (.pointer (some ⟨B,0,none⟩))/\w.heap.size<=B/\Below w.heap.size w w'/\(∀b o,π b o->π' b o)/\(∀b o,π' b o->π b o\/w.heap.size<=b)/\
   (∀b o,π' b o->b<w'.heap.size)/\tC (λ_=>undef) w' π' B ⟨cs,[]⟩
def WW:AV->FrameMode
 | .oI=>.returning
 |p=>.panicking (j7 p)
def aal(D:AV) (css:List (List AV)) (args:List (Option AV)) (A:List (List AV)):Prop:=
 dB P f=true/\A.length=css.length/\css.length<=4/\
 ∀(w:World) (π:Nat->Nat->Prop) (Bs:List Nat) (vs:List Value),(∀b o,π b o->b<w.heap.size)->Bs.Nodup->dV w π css Bs->gh w π args Bs vs->
  CallsDIn Fence.wide 0 P f vs.toArray (WW D) w λe B w'=>∃v π',e=.returned v/\settle B=.returning/\A6 (kL.tD w Bs) w w'/\(∀b o,π b o->π' b o)/\(∀b o,π' b o->π b o\/w.heap.size<=b)/\
   (∀b o,π' b o->b<w'.heap.size)/\dV w' π' A Bs
def kL.aam(w:World) (Bs:List Nat) (tb:Nat->Prop):kL:=⟨w.heap.size,λB=>B∈Bs\/tb B,λk=>Bs.getD k 0⟩
def NP(w:World) (π:Nat->Nat->Prop) (Bs:List Nat) (ok:Nat->Prop) (D:Value):Option (Nat×Nat×Nat)->Prop
 |none=>True
 |some (j,o,e)=>∃B A L,Bs[j]? =some B/\w.heap[B]? =some (.cells A L (0,0))/\A[o]? =some D/\Hl P w π ok e D/\∀E,jq D=some E->E∉Bs
def SR(D:Option (Nat×Nat×Nat)) (A:Value) (B:Nat):Prop:=D.isSome=true/\jq A=some B
def Wi(E:Option (Nat×Nat×Nat)) (args:List (Option AV)) (r:AV) (A:List (List AV)) (L:Option (Nat×Nat×Nat)):Prop:=
 dB P f=true/\A.length=css.length/\css.length<=4/\
 ∀(w:World) (π:Nat->Nat->Prop) (Bs:List Nat) (vs:List Value) (D:Value),(∀b o,π b o->b<w.heap.size)->Bs.Nodup->dV w π css Bs->gh w π args Bs vs->NP P w π Bs (λ_=>True) D E->
  Calls P f vs.toArray w λe w'=>∃v π' M,e=.returned v/\A6 (kL.aam w Bs (SR E D)) w w'/\(∀b o,π b o->π' b o)/\(∀b o,π' b o->π b o\/w.heap.size<=b\/SR E D b)/\
   (∀b o,π' b o->b<w'.heap.size)/\(∀b o,π b o->w'.cell? ⟨b,o,none⟩=w.cell? ⟨b,o,none⟩)/\dV w' π' A Bs/\DV w' π' r v/\NP P w' π' Bs (λB=>w.heap.size<=B\/SR E D B) M L
def Wj(j o:Nat):Prop:=
 dB P f=true/\css.length<=4/\
 ∀(w:World) (π:Nat->Nat->Prop) (Bs:List Nat) (vs:List Value),(∀b o,π b o->b<w.heap.size)->Bs.Nodup->dV w π css Bs->gh w π args Bs vs->
  Calls P f vs.toArray w λe w'=>∃B π',Bs[j]? =some B/\e=.returned (.pointer (some ⟨B,o,none⟩))/\A6 (kL.tD w Bs) w w'/\(∀b o,π b o->π' b o)/\(∀b o,π' b o->π b o\/w.heap.size<=b)/\
   (∀b o,π' b o->b<w'.heap.size)/\dV w' π' css Bs
def Pure:aY:=⟨Gb P,DH P,Iter P,Wh P,aak P,aal P,Wi P,Wj P⟩
structure Rel (P:Program) (nt:Nat) (n0:kL) (w0:World) (π0:Nat->Nat->Prop) (U:Nat->Prop) (s:S) (a:Act) (w:World) (β:Nat->Nat) (τ:Nat->Value) (π:Nat->Nat->Prop):Prop where
 size:a.tmps.size=nt
 slots:∀t v,lk t s.slots=some v->(∃x,a.tmps[t]? =some x/\RV β τ w π v x)/\v.gS U
 boxes:∀b x,dh b s.boxes=some x->U b/\n0.okb b (β b)/\tC τ w π (β b) x/\∀o q,fq o x.tags=some q->U q
 inj:∀b b' x x',dh b s.boxes=some x->dh b' s.boxes=some x'->β b=β b'->b=b'
 live:∀q e,fq q s.live=some e->U q/\Hl P w π n0.ok e (τ q)
 dm:∀q q' e e' B,fq q s.live=some e->fq q' s.live=some e'->jq (τ q)=some B->jq (τ q')=some B->q=q'
 dG:∀q e b x,fq q s.live=some e->dh b s.boxes=some x->jq (τ q)≠some (β b)
 below:A6 n0 w0 w
 gI:n0.n<=w0.heap.size
 gj:∀b o,π b o->b<w.heap.size
 gu:∀b o,π0 b o->π b o
 dW:∀b o,π b o->π0 b o\/n0.ok b
 nL:∀k,k<4->β k=n0.β k
 jP:∀k,k<4->U k
 kept:∀b o,π0 b o->w.cell? ⟨b,o,none⟩=w0.cell? ⟨b,o,none⟩
end
end Go.Eng
