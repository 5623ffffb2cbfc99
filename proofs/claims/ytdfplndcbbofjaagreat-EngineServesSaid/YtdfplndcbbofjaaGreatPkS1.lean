/- Part 1 of the engine and its library. -/
import Derived.WalkKit
import Derived.RangeFuncNested
import Derived.RangeFuncLeaves
import Derived.OrdersIn
import Derived.LoopNIn
import Derived.ChangeKeysEq
import Derived.Laws.Externs
import Derived.Lib.SliceRun
import Derived.Laws.CopyRow
import Derived.Laws.MakeOwn
import Ieee.Arith
import GoSem.Core.Float
import Derived.RecoverIn
import Derived.ProofKit
import Derived.OpenShut
import Derived.ShutString
import Derived.ChangeOld
import Derived.Below
set_option linter.all false
set_option maxRecDepth 10000
set_option maxHeartbeats 4000000
namespace Go.Eng
open Go
section
variable (op:BinOp) (k:IntKind) (x:Int) {p:Prop} (y:Int)
theorem ST(h:p:=by omega):p:=h
theorem Ts(h:p:=by decide):p:=h
theorem TB(h:p:=by simp):p:=h
def cG:=@And.intro
def dC:=@of_decide_eq_false
def dE:=@of_decide_eq_true
def dT:=@Bool.and_eq_true
def em:=@Option.map_eq_some_iff
def et:=@List.getElem?_eq_getElem
def ev:=@List.mem_of_getElem?
def eQ:=@Bool.false_eq_true
def e9:=@List.getElem?_eq_some_iff
def fb:=@cond_false
def fi:=@List.getD_eq_getElem?_getD
def fl:=@List.length_cons
def fo:=@Go.Result.andThen_ok
def fp:=@Go.Sem.run_bind
def fx:=@if_neg
def gc:=@if_pos
def ge:=@List.length_nil
def gg:=@Option.some.injEq
def gn:=@decide_eq_true_eq
def gs:=@cond_true
def ia:=@Nat.le_of_ble_eq_true
def ib:=@List.mem_range
def ii:=@List.mem_cons_of_mem
def ik:=@if_false
def il:=@Go.run_underlying
def im:=@Nat.le_refl
def io:=@Nat.mul_le_mul_right
def ip:=@List.mem_cons_self
def iv:=@List.getElem?_eq_none
def ix:=@Nat.lt_or_ge
def i8:=@Go.Sem.run_pure
def jp:=@List.getElem?_map
def j9:=@Int.toNat_natCast
def ka:=@List.mem_append
def kb:=@Option.bind_eq_some_iff
def kd:=@Array.getElem?_eq_some_iff
def kf:=@Nat.le_trans
def kh:=@List.getElem?_range
def km:=@List.getElem?_append_left
def kp:=@List.mem_map
def kr:=@List.getElem?_cons_zero
def kt:=@Int.le_refl
def kv:=@if_true
def kw:=@Nat.pow_add
def kx:=@List.getElem?_cons_succ
def la:=@Nat.zero_add
def lc:=@beq_iff_eq
def lh:=@List.getElem?_drop
def lj:=@Array.toList_inj
def ll:=@List.getElem?_append_right
def lm:=@List.range_succ
def lr:=@List.nil_append
def lw:=@List.mem_cons
def lL:=@decide_eq_false_iff_not
def l0:=@List.take_length
def l3:=@List.drop_zero
def l4:=@List.map_cons
def ma:=@Bool.not_false
def md:=@Bool.false_and
def mf:=@List.all_eq_true
def mi:=@Option.map_some
def ml:=@Bool.or_eq_true
def mn:=@Nat.mul_assoc
def mr:=@List.mem_iff_getElem?
def my:=@List.take_of_length_le
def na:=@Bool.true_and
def nb:=@Nat.pow_le_pow_right
def nd:=@Bool.not_true
def ne:=@List.drop_succ_cons
def nf:=@Bool.and_false
def nl:=@beq_self_eq_true
def nm:=@Bool.and_true
def np:=@List.map_append
def ns:=@List.foldl_cons
def nz:=@List.mem_singleton
def pb:=@congrArg
def pc:=@decide_eq_true
def pd:=@List.sum_cons
def pm:=@List.mem_of_mem_drop
def po:=@Nat.lt_of_lt_of_le
def pu:=@Nat.mod_eq_of_lt
def pv:=@Bool.false_or
def px:=@Nat.mul_one
def py:=@Nat.add_zero
def pA:=@Bool.not_eq_true'
def pB:=@List.length_append
def pC:=@Nat.shiftLeft_eq
def p4:=@Nat.mul_comm
def p5:=@List.mem_of_find?_eq_some
def p7:=@Option.bind_eq_bind
def rc:=@List.eq_nil_of_length_eq_zero
def rf:=@List.contains_nil
def rh:=@List.getElem?_take_of_lt
def sa:=@List.mem_filter
def sd:=@Nat.eq_zero_or_pos
def se:=@List.find?_eq_none
def sh:=@List.getElem?_append
def sT:=@Array.getD_eq_getD_getElem?
def s8:=@Go.World.putObj_heap_other
def s9:=@List.map_nil
def ti:=@List.map_congr_left
def tl:=@Int.toNat_of_nonneg
def tp:=@decide_eq_false
def ts:=@List.append_nil
def tt:=@Option.getD_some
def tz:=@Nat.sub_add_cancel
def ui:=@List.mem_flatMap
def ul:=@List.getElem?_take
def ut:=@List.mem_of_mem_take
def vd:=@List.mapM_cons
def vx:=@Option.some.inj
def wa:=@List.length_map
def wc:=@Go.Oper.upon_enter
def wi:=@Bool.true_or
def wn:=@Bool.and_self
def ws:=@List.cons_append
def wt:=@true_and
def ww:=@Go.cell_of_row
def xa:=@List.take_zero
def xc:=@List.length_filter_le
def xf:=@Option.pure_def
def xi:=@List.nodup_cons
def xn:=@Bool.eq_iff_iff
def xo:=@List.flatMap_cons
def xr:=@Array.getElem?_setIfInBounds_ne
def xv:=@Nat.mul_le_mul_left
def yi:=@List.take_succ_cons
def yk:=@Nat.div_eq_of_lt
def yn:=@Go.mem_ready
def yr:=@List.mem_filterMap
def yv:=@List.filter_append
def zd:=@List.drop_of_length_le
def zr:=@Int.tmod_lt_of_pos
def Ax:=@Array.getElem?_eq_none
def AC:=@List.filter_nil
def B0:=@Nat.add_assoc
def Do:=@Nat.mul_lt_mul_of_pos_right
def EQ:=@Bool.eq_false_iff
def Fd:=@List.drop_drop
def FS:=@Bool.or_eq_false_iff
def GE:=@List.length_take
def GT:=@List.getElem_mem
def Ha:=@List.filter_cons
def Hb:=@Bool.or_self
def Hc:=@List.mem_map_of_mem
def Hd:=@Nat.div_add_mod
def Hk:=@decide_true
def Hm:=@Nat.le_mul_of_pos_right
def Hn:=@BitVec.eq_of_getLsbD_eq
def H0:=@List.set_eq_take_append_cons_drop
def H1:=@Go.wpIn_mono
def H2:=@not_true_eq_false
def H3:=@Nat.pow_zero
def H4:=@Bool.or_true
def H5:=@Array.size_eq_zero_iff
def Id:=@Go.heap_alloc_new
def If:=@List.getElem?_toArray
def In:=@Nat.mod_lt
def Ix:=@List.mem_flatten
def IH:=@List.take_append_of_le_length
def IN:=@List.take_range
def IO:=@List.take_left'
def IR:=@List.flatMap_append
def Kd:=@Option.ne_none_iff_exists'
def Kp:=@Nat.mul_div_cancel
def LE:=@Nat.le_of_mul_le_mul_right
def LT:=@Int.fdiv_eq_ediv_of_nonneg
def M2:=@BitVec.toNat_ofInt
def NE:=@Array.any_eq_true'
def Os:=@List.drop_eq_getElem_cons
def OF:=@Go.run_sliceBound
def Pi:=@Int.lt_trichotomy
def Pl:=@Option.isSome_iff_exists
def Ps:=@Go.cell_setRow_other
def PH:=@Nat.log2_self_le
def PP:=@List.getElem?_replicate
def PQ:=@List.drop_append
def P0:=@Bool.not_eq_true
def QP:=@Nat.testBit_lt_two_pow
def QQ:=@Nat.le_div_iff_mul_le
def QR:=@Go.World.putObj_heap_same
inductive AV where
 |bool (b:Bool)
 |int (k:IntKind) (n:Int)
 |float (k:FloatKind) (n:Nat)
 |str (s:ByteArray)
 |qM
 |bF
 |sl (xs:List (List AV))
 |fn (f:Fn) (first caps:List AV)
 |ie
 |iface (t:Nat) (v:AV)
 |m5
 |agg (cs:List AV)
 |cU (vs:List AV)
 |ref (cs:List AV)
 /-- a float (of 64 bits) that is no number,whichever -/
 |d8
 /-- an argument: a struct of one pointer,at the head of the next box -/
 |hole
 deriving Inhabited
inductive SV where
 |dat (a:AV) (q:Option Nat)
 |ptr (b off:Nat)
 |rp (cs:List AV)
 |undef
 /-- a slice Bj a box of its own or another's: n elements of z cells each,from off on -/
 |vs (b off n z:Nat)
 /-- a function with values and pointers at the heads of boxes -/
 |tW (f:Nat) (as:List (Option AV)) (bs:List Nat)
 /-- a slice of n elements that nobody has read: the token's row from its head on -/
 |raw (q n:Nat)
 /-- pointers into boxes: 0: a struct of them; 1: a slice; 2: a pointer at the first of a row that is never written -/
 |pt (k:Nat) (ps:List (Nat×Nat))
 deriving Inhabited
structure cI where
 cells:List AV
 tags:List (Nat×Nat)
 deriving Inhabited
structure S where
 slots:List (Nat×SV)
 boxes:List (Nat×cI)
 live:List (Nat×Nat)
 nx:Nat
 deriving Inhabited
inductive bn where
 |t (n:Nat)
 |k (v:AV)
 deriving Inhabited
inductive CK where
 |b|i|f|s
 deriving DecidableEq,Inhabited
inductive Xt where
 |Fs|ffrom|rte
 deriving DecidableEq,Inhabited
inductive bE where
 |mv (x:bn)
 |pick (c a b:bn)
 |alloc (cs:List AV)
 |box (x:bn)
 |build (zs:List AV) (parts:List (Nat×Nat×bn))
 |PG (e z:Nat) (xs:List bn)
 |ld (x:bn) (sz:Option Nat)
 |st (x v:bn) (sz:Nat)
 |fa (x:bn) (off:Nat)
 |Mr (x i:bn) (n z:Nat)
 |PU (x i:bn) (z:Nat)
 |D2 (x:bn) (off:Nat) (sz:Option Nat)
 |HL (x i:bn) (n z:Nat) (sz:Option Nat)
 |bin (op:BinOp) (x y:bn)
 |eqc (ks:List CK) (neg:Bool) (x y:bn)
 |bb (neg:Bool) (x y:bn)
 |un (op:UnOp) (x:bn)
 |uI (k:IntKind) (x:bn)
 |CI (k:FloatKind) (x:bn)
 |Ft (k:IntKind) (x:bn)
 |D3 (x:bn)
 |HR (x:bn)
 |HS (n:Nat)
 |app (e z bytes:Nat) (s x:bn)
 |call (f:Nat) (args:List bn)
 |dD (f:Nat) (args:List bn)
 |jx (g:bn) (args:List bn)
 |ext (x:bn) (i:Nat)
 |xN (fn:Fn) (first caps:List bn)
 |SZ (z:Nat) (x:bn) (lo hi:Option bn)
 |nc (x:bn)
 |mm (max:Bool) (args:List bn)
 |xt (e:Xt) (x:bn)
 |S0 (x:bn) (n z:Nat)
 |Xk (x i:bn)
 |TK (neg:Bool) (x:bn)
 |fQ (g:bn) (args:List bn)
 |Ap (f:Nat) (args:List bn)
 |qY (g:bn) (args:List bn)
 |TL (x:bn) (n z:Nat) (hi:bn)
 |CJ (e z bytes:Nat) (y x:bn)
 /-- what a row of pointers holds: one,or a struct -/
 |PV (x:bn) (sz:Option Nat)
 /-- a call that raises; what is raised is what it yields -/
 |tZ (f:Nat) (args:List bn)
 deriving Inhabited
structure CO where
 dst:Option Nat
 op:bE
 g:Option (Nat×Bool)
 deriving Inhabited
inductive Fu where
 |o (c:bE)
 |call (f:Nat) (args:List bn)
 |dD (f:Nat) (args:List bn)
 |jx (p:Bool) (g:bn) (args:List bn)
 |mkc (f:Nat) (caps:List bn)
 |pan (x:bn)
 |mkI (t:Nat) (x:bn)
 /-- is it of that type? the value,or nothing of that type -/
 |tas (t:Nat) (z:AV) (x:bn)
 |isI (neg:Bool) (x:bn)
 |isP (neg:Bool) (x:bn)
 /-- a slice of cells that is made; what is copied into all of it -/
 |mks (e bytes:Nat) (l c:bn)
 |cpy (e:Nat) (x y:bn)
 /-- pointers in a struct,in a row of its own,in a slice -/
 |TM (x:bn)
 |TN (x:bn)
 |stp (x v:bn)
 |TO (xs:List bn)
 |iap (x i:bn)
 |lnp (x:bn)
 /-- a call that yields a pointer into a box that it is given -/
 |My (g:bn) (args:List bn)
 /-- what is appended to nothing: a slice of its own,which may be written -/
 |apn (e z bytes:Nat) (y:bn)
 deriving Inhabited
structure XO where
 dst:Option Nat
 op:Fu
 g:Option (Nat×Bool)
 deriving Inhabited
inductive aZ where
 |skip
 |Jn (ops:List CO)
 |seq (a b:aZ)
 |join (a b:aZ)
 |cond (c:bn) (a b:aZ)
 |block (id:Nat) (c:aZ)
 |loop (c:aZ)
 |exit (id:Nat)
 |ret
 |zQ (g:bn) (ps wr:List Nat) (as bd:aZ)
 |Aq (ops:List CO) (cJ:List (Nat×Nat))
 |scope (l:Nat) (c r:aZ)
 |label (l:Nat)
 |goto (l:Nat)
 |KT (ops:List XO)
 /-- as Aq; operation k may raise,zk of dep come behind it -/
 |HT (ops:List CO) (cJ:List (Nat×Nat)) (k:Nat) (dep:List Nat)
 deriving Inhabited
def AV.cells:AV->List AV
 | .agg cs=>cs
 |v=>[v]
def AV.scalar:AV->Bool
 | .agg _| .cU _=>false
 |_=>true
def KU:Value->Option AV
 | .bool b=>some (.bool b)
 | .int k n=>some (.int k n)
 | .float k n=>some (.float k n)
 | .string s=>some (.str s)
 | .pointer none=>some .qM
 | .slice none 0 0=>some .bF
 | .nilFunc=>some .ie
 | .nilIface=>some .m5
 |_=>none
def ofV:Value->Option AV
 | .agg cs=>(cs.toList.mapM KU).map .agg
 |v=>KU v
def yJ:Option Int:=
 let a:=BitVec.ofInt k.bits x
 let b:=BitVec.ofInt k.bits y
 match op with
 | .and=>some (k.wrap (a&&&b).toNat)
 | .or=>some (k.wrap (a|||b).toNat)
 | .xor=>some (k.wrap (a^^^b).toNat)
 | .andNot=>some (k.wrap (a&&& ~~~b).toNat)
 |_=>none
def qN:Option AV:=
 match op with
 | .add=>some (.int k (k.wrap (x+y)))
 | .sub=>some (.int k (k.wrap (x-y)))
 | .mul=>some (.int k (k.wrap (x*y)))
 | .quo=>if y=0 then none else some (.int k (k.wrap (x.tdiv y)))
 | .rem=>if y=0 then none else some (.int k (x.tmod y))
 | .and| .or| .xor| .andNot=>(yJ op k x y).map (.int k)
 | .eql=>some (.bool (x==y))
 | .neq=>some (.bool (x !=y))
 | .lss=>some (.bool (decide (x<y)))
 | .leq=>some (.bool (decide (x<=y)))
 | .gtr=>some (.bool (decide (x>y)))
 | .geq=>some (.bool (decide (x>=y)))
 |_=>none
def CL(n:Nat):Bool:=match FloatKind.f64.decode n with
 | .nan ..=>true
 |_=>false
def HM:FloatKind->Option Nat->Option AV
 |k,some r=>some (.float k r)
 | .f64,none=>some .d8
 | .f32,none=>none
def uJ:BinOp->Option AV
 | .add| .sub| .mul| .quo=>some .d8
 | .neq=>some (.bool true)
 | .eql| .lss| .leq| .gtr| .geq=>some (.bool false)
 |_=>none
def Ar(k:FloatKind) (x y:Nat):Option AV:=
 let c:=k.format.order x y
 match op with
 | .add=>HM k (k.format.add x y)
 | .sub=>HM k (k.format.sub x y)
 | .mul=>HM k (k.format.mul x y)
 | .quo=>HM k (k.format.div x y)
 | .eql=>some (.bool (c==some .eq))
 | .neq=>some (.bool (c !=some .eq))
 | .lss=>some (.bool (c==some .lt))
 | .leq=>some (.bool (c==some .lt||c==some .eq))
 | .gtr=>some (.bool (c==some .gt))
 | .geq=>some (.bool (c==some .gt||c==some .eq))
 |_=>none
def qZ:Option AV:=
 if y<0 then none else
 match op with
 | .shl=>some (.int k (k.wrap (x*2^min y.toNat k.bits)))
 | .shr=>some (.int k (x.fdiv (2^min y.toNat k.bits)))
 |_=>none
def dO(a b:AV):Option AV:=
 match op,a,b with
 | .shl,.int k x,.int _ y=>qZ .shl k x y
 | .shr,.int k x,.int _ y=>qZ .shr k x y
 |op,.int k x,.int A y=>if k=A then qN op k x y else none
 |op,.float k x,.float A y=>if k=A then Ar op k x y else none
 |op,.d8,.float .f64 _=>uJ op
 |op,.float .f64 _,.d8=>uJ op
 |op,.d8,.d8=>uJ op
 |_,_,_=>none
def WW(neg:Bool):AV->AV->Option AV
 | .bool x,.bool y=>some (.bool (if neg then x !=y else x==y))
 |_,_=>none
def uK:CK->AV->AV->Option Bool
 | .b,.bool x,.bool y=>some (x==y)
 | .i,.int k x,.int A y=>if k=A then some (x==y)else none
 | .f,.float k x,.float A y=>if k=A then some (k.format.order x y==some .eq)else none
 | .s,.str x,.str y=>some (x==y)
 |_,_,_=>none
def dH:List CK->List AV->List AV->Option Bool
 |[],[],[]=>some true
 |k::A,a::as,b::B=>match uK k a b,dH A as B with
  |some x,some y=>some (x&&y)
  |_,_=>none
 |_,_,_=>none
def TP(op:UnOp) (a:AV):Option AV:=
 match op,a with
 | .neg,.int k n=>some (.int k (k.wrap (0-n)))
 | .xor,.int k n=>(yJ .xor k (if k.signed then -1 else k.max) n).map (.int k)
 | .neg,.float k b=>some (.float k (Op.negFloat k b))
 | .not,.bool b=>some (.bool !b)
 |_,_=>none
end
section
variable (P:Program) (t:TypeId) (wr:List Nat) (F:S->Prop) (bx:List (Nat×cI)) (id:Nat) (x:CO) (a:AV) (b:Nat) (cs:List AV) (cJ lv m:List (Nat×Nat)) (ops:List Oper) (s:S) {α:Type} (Q:Exit->S->Prop) (c:Call) (f:FuncId) (i:Nat) (ids:List Nat) (neg:Bool) (off q:Nat) (xs:List (List AV)) (y:CO)
def CZ(k:IntKind):AV->Option AV
 | .int _ n=>some (.int k (k.wrap n))
 |_=>none
def C0(k:FloatKind):AV->Option AV
 | .int _ n=>some (.float k (k.nearest n))
 |_=>none
def yK(k:IntKind):AV->Option AV
 | .float s b=>match(s.decode b).toInt .zero with
  |some n=>if k.min<=n/\n<=k.max then some (.int k n)else none
  |none=>none
 |_=>none
def D4:Option AV:=
 match FloatKind.f64.decode b with
 | .nan _ t=>if FloatKind.f64.format.quiet t=t then some (.float .f64 b)else none
 |d=>some (.float .f64 (FloatKind.f64.encode (d.integral .even)))
def WX:Xt->AV->Option AV
 | .Fs,.float .f64 b=>some (.int .u64 b)
 | .ffrom,.int .u64 n=>some (.float .f64 n.toNat)
 | .rte,.float .f64 b=>D4 b
 |_,_=>none
def cq(z:Nat):Nat->List AV->List (List AV)
 |0,_=>[]
 |n+1,cs=>cs.take z::cq z n (cs.drop z)
def Jo(s:ByteArray) (i:Int):Option AV:=
 if 0<=i/\i<s.size then some (.int .u8 (s[i.toNat]!).toNat)else none
def vI:AV->Option AV
 | .bF=>some (.int .i64 0)
 | .sl xs=>some (.int .i64 xs.length)
 |_=>none
def Fv:Bool->AV->Option Bool
 |neg,.bF=>some (!neg)
 |neg,.sl _=>some neg
 |_,_=>none
def S1(mx:Bool):AV->AV->Option AV
 | .int k x,.int _ y=>some (.int k (if mx then(if y>x then y else x)else(if y<x then y else x)))
 | .float k x,.float A y=>if k=A then match k.format.order x y with
   |none=>if k=.f64 then some .d8 else none
   |some .lt=>some (.float k (if mx then y else x))
   |some .gt=>some (.float k (if mx then x else y))
   |some .eq=>some (.float k (if mx then(if(k.decode x).neg then y else x)else(if(k.decode x).neg then x else y)))
  else none
 | .d8,.float .f64 _=>some .d8
 | .float .f64 _,.d8=>some .d8
 | .d8,.d8=>some .d8
 |_,_=>none
def Mz:AV->Nat->Option AV
 | .cU vs,i=>vs[i]?
 |_,_=>none
def aH:Option Nat->Option AV
 |none=>cs[off]?
 |some n=>if off+n<=cs.length then some (.agg ((cs.drop off).take n))else none
def m7:List AV->List (Nat×List AV)->List AV
 |cs,[]=>cs
 |cs,(off,ps)::rest=>m7 (cs.take off++ps++cs.drop (off+ps.length)) rest
def PW:AV->Value
 | .bool b=>.bool b
 | .int k n=>.int k n
 | .float k n=>.float k n
 | .str s=>.string s
 | .qM=>.pointer none
 | .bF=>.slice none 0 0
 |_=>undef
def iT:AV->Bool
 | .bool _| .int .. | .float .. | .str _| .qM| .bF=>true
 |_=>false
def vJ:AV->Value
 | .agg cs=>.agg (cs.map PW).toArray
 |a=>PW a
def iU:AV->Bool
 | .agg cs=>cs.all iT
 |a=>iT a
def TQ(t:Nat) (z:AV):AV->Option AV
 | .m5=>some (.cU [z,.bool false])
 | .iface A a=>some (if A=t then .cU [a,.bool true]else .cU [z,.bool false])
 |_=>none
def TR:AV->Option Bool
 | .m5=>some !neg
 | .iface _ _=>some neg
 |_=>none
def KV:SV->Option Bool
 | .ptr _ _| .rp _| .dat (.ref _) _=>some neg
 | .dat .qM _=>some !neg
 |_=>none
def As:AV->Bool
 | .iface _ a=>iU a
 |_=>false
def aaX:AV->Value
 | .iface t a=>.iface t (vJ a)
 |_=>undef
def jd(p:AV):List PanicEntry:=[{v:=aaX p,recovered:=false}]
def lk:Nat->List (Nat×SV)->Option SV
 |_,[]=>none
 |n,(m,v)::r=>bif n==m then some v else lk n r
def b9:Nat->List (Nat×cI)->Option cI
 |_,[]=>none
 |n,(m,v)::r=>bif n==m then some v else b9 n r
def dY:Nat->List (Nat×Nat)->Option Nat
 |_,[]=>none
 |n,(m,v)::r=>bif n==m then some v else dY n r
def nK:Nat->cI->List (Nat×cI)->List (Nat×cI)
 |_,_,[]=>[]
 |n,b,(m,v)::r=>bif n==m then(m,b)::r else(m,v)::nK n b r
def lZ:Nat->List (Nat×Nat)->List (Nat×Nat)
 |_,[]=>[]
 |n,(m,v)::r=>bif n==m then lZ n r else(m,v)::lZ n r
def S.put(d:Option Nat) (v:SV):S:=
 match d with
 |none=>s
 |some d=>{s with slots:=(d,v)::s.slots}
def bK:bn->Option SV
 | .t n=>lk n s.slots
 | .k v=>some (.dat v none)
def aF(x:bn):Option AV:=
 match bK s x with
 |some (.dat a _)=>some a
 |some (.rp cs)=>some (.ref cs)
 |_=>none
def dQ(s:S):List bn->Option (List AV)
 |[]=>some []
 |x::r=>match aF s x,dQ s r with
  |some a,some as=>some (a::as)
  |_,_=>none
def aj(o:Option α) (k:α->Prop):Prop:=
 match o with
 |some a=>k a
 |none=>False
@[simp] theorem aB(a:α) (k:α->Prop):aj (some a) k=k a:=rfl
@[simp] theorem TS(k:α->Prop):aj none k=False:=rfl
def iL:AV->Option Nat->Bool
 | .cU _,_=>false
 | .agg _,some _=>false
 |_,_=>true
def ir(s:S):List (Nat×Nat×bn)->Option (List (Nat×List AV))
 |[]=>some []
 |(off,A,x)::r=>match aF s x,ir s r with
  |some a,some ps=>if a.cells.length=A/\iL a none=true then some ((off,a.cells)::ps)else none
  |_,_=>none
def lp(s:S) (z:Nat):List bn->Option (List (List AV))
 |[]=>some []
 |x::r=>match aF s x,lp s z r with
  |some a,some rows=>if a.cells.length=z/\iL a none=true then some (a.cells::rows)else none
  |_,_=>none
def idxOf:AV->Option Int
 | .int _ i=>some i
 |_=>none
def setCells(ps:List AV):List AV:=cs.take off++ps++cs.drop (off+ps.length)
def xQ:Option AV->Option Int
 |some a=>idxOf a
 |none=>none
def Au:Option bn->Option Int
 |none=>some 0
 |some x=>xQ (aF s x)
def Av:Option bn->Option Int
 |none=>some xs.length
 |some x=>xQ (aF s x)
def MA(l h:Int):AV:=
 match a with
 | .bF=>.bF
 |_=>.sl ((xs.take h.toNat).drop l.toNat)
structure bk where
 c:Nat->List AV->AV->Option Nat->Prop
 p:Nat->List (List AV)->List (Option AV)->AV->Option Nat->List (List AV)->Prop
 /-- what a function that is ranged Bj yields,one after the other -/
 i:AV->List (List AV)->Prop
 /-- a function that raises this -/
 q:Nat->List (List AV)->List (Option AV)->AV->List (List AV)->Prop
 /-- a function that yields a pointer to a new box -/
 n:Nat->List AV->List AV->Prop
 /-- a function that is deferred,with what it recovers: nothing,or what was raised -/
 d:Nat->AV->List (List AV)->List (Option AV)->List (List AV)->Prop
 /-- a function that takes a token with one of its boxes,or leaves one there: which box,which cell,what kind -/
 t:Nat->List (List AV)->Option (Nat×Nat×Nat)->List (Option AV)->AV->List (List AV)->Option (Nat×Nat×Nat)->Prop
 /-- a function that yields a pointer into one of its boxes: which,where -/
 r:Nat->List (List AV)->List (Option AV)->Nat->Nat->Prop
def dS(h:Bool) (s:S):List bn->Option (List (Option AV)×List Nat)
 |[]=>some ([],[])
 |x::r=>match bK s x,dS h s r with
  |some (.dat a _),some (as,A)=>some (some a::as,A)
  |some (.rp cs),some (as,A)=>some (some (.ref cs)::as,A)
  |some (.ptr b 0),some (as,A)=>some (none::as,b::A)
  |some (.pt 0 [(b,0)]),some (as,A)=>bif h then some (some .hole::as,b::A)else none
  |_,_=>none
def l5:List (Option AV)->Bool
 |[]=>true
 |some .hole::_=>false
 |some _::r=>l5 r
 |none::r=>l5 r
theorem Fx{a:AV} {r:List (Option AV)} (h:l5 (some a::r)=true):a≠.hole/\l5 r=true:=by
 cases a<;>first|exact⟨TB,h⟩|(cases h)
def Fy(s:S):List bn->Option (List (Nat×Nat))
 |[]=>some []
 |x::r=>match bK s x,Fy s r with
  |some (.ptr b o),some ps=>some ((b,o)::ps)
  |_,_=>none
def aV(l:List (Nat×cI)):List Nat->Option (List (List AV))
 |[]=>some []
 |b::A=>match b9 b l,aV l A with
  |some x,some css=>some (x.cells::css)
  |_,_=>none
def dU(l:List (Nat×cI)):List Nat->Option (List (List AV))
 |[]=>some []
 |b::A=>match b9 b l,dU l A with
  |some ⟨cs,[]⟩,some css=>some (cs::css)
  |_,_=>none
def dJ:List Nat->List (List AV)->List (Nat×cI)->List (Nat×cI)
 |b::A,cs::css,l=>dJ A css (nK b ⟨cs,[]⟩ l)
 |_,_,l=>l
def HU(b o q:Nat):List (Nat×cI)->List (Nat×cI)
 |[]=>[]
 |(k,x)::r=>bif b==k then(k,⟨x.cells,[(o,q)]⟩)::r else(k,x)::HU b o q r
def tgQ:Option (Nat×Nat×Nat)->Option (Option Nat)
 |none=>some none
 |some (j,o,e)=>(ids[j]?).bind λb=>(b9 b bx).bind λx=>(dY o x.tags).bind λq=>if dY q lv=some e then some (some q)else none
def MB:Option (Nat×Nat×Nat)->List (Nat×cI)->List (Nat×cI)
 |none,l=>l
 |some (j,o,_),l=>match ids[j]? with
  |some b=>HU b o id l
  |none=>l
def TT:Option (Nat×Nat×Nat)->List (Nat×Nat)->List (Nat×Nat)
 |none,l=>l
 |some (_,_,e),l=>(id,e)::l
def MC:Option Nat->List (Nat×Nat)->List (Nat×Nat)
 |none,l=>l
 |some q,l=>lZ q l
def Jp(C:bk) (f:Nat) (css:List (List AV)) (as:List (Option AV)) (ids:List Nat) (id:Nat) (bx:List (Nat×cI)) (lv:List (Nat×Nat)) (k:SV->List (Nat×cI)->List (Nat×Nat)->Prop):Prop:=
 ∃D r A B,C.t f css D as r A B/\aj (tgQ bx lv ids D) λL=>k (.dat r none) (MB id ids B (dJ ids A bx)) (TT id B (MC L lv))
def jw:SV->SV
 | .ptr A o=>bif A==b then .rp (cs.drop o)else .ptr A o
 | .vs A o n z=>bif A==b&&decide (n*z<=(cs.drop o).length)then .dat (.sl (cq z n (cs.drop o))) none else .vs A o n z
 |v=>v
def Aw(b:Nat) (cs:List AV):List (Nat×SV)->List (Nat×SV)
 |[]=>[]
 |(t,v)::r=>(t,jw b cs v)::Aw b cs r
def kS:Nat->List (Nat×cI)->List (Nat×cI)
 |_,[]=>[]
 |n,(m,v)::r=>bif n==m then kS n r else(m,v)::kS n r
def gp:List Nat->List (List AV)->S->S
 |b::A,cs::css,s=>gp A css {s with slots:=Aw b cs s.slots,boxes:=kS b s.boxes}
 |_,_,s=>s
theorem vK:∀{ids:List Nat} {css:List (List AV)} {s:S},(gp ids css s).nx=s.nx
 |[],css,s=>rfl
 |b::A,[],s=>rfl
 |b::A,cs::css,s=>by rw[gp,vK]
def je:List (Option AV)->List (List AV)->List AV
 |some a::as,css=>a::je as css
 |none::as,cs::css=>.ref cs::je as css
 |_,_=>[]
def iu:List Nat->Bool
 |[]=>true
 |b::A=>decide (4<=b)&&iu A
def c8:List Nat->Bool
 |[]=>true
 |b::A=>!A.contains b&&c8 A
def rowsOf:AV->Option (List (List AV))
 | .bF=>some []
 | .sl xs=>some xs
 |_=>none
def bB(C:bk) (id:Nat) (o:bE) (K:SV->S->Prop) (s:S):Prop:=
 match o with
 | .mv x=>aj (bK s x) λv=>K v s
 | .pick c a b=>aj (aF s c) fun
   | .bool t=>aj (bK s a) λu=>aj (bK s b) λv=>(t=true->K u s)/\(t=false->K v s)
   |_=>False
 | .alloc cs=>K (.ptr id 0) {s with boxes:=(id,⟨cs,[]⟩)::s.boxes}
 | .box x=>aj (aF s x) λa=>iL a none=true/\K (.ptr id 0) {s with boxes:=(id,⟨a.cells,[]⟩)::s.boxes}
 | .build zs parts=>aj (ir s parts) λps=>K (.dat (.agg (m7 zs ps)) none) s
 | .PG e z xs=>aj (lp s z xs) λrows=>K (.dat (.sl rows) (some id)) {s with live:=(id,e)::s.live}
 | .ld x B=>aj (bK s x) fun
   | .ptr b off=>aj (b9 b s.boxes) λbx=>aj (aH bx.cells off B) λa=>
     K (.dat a (match B with|none=>dY off bx.tags|some _=>none)) s
   | .rp cs=>aj (aH cs 0 B) λa=>K (.dat a none) s
   |_=>False
 | .st x v B=>aj (bK s x) fun
   | .ptr b off=>aj (b9 b s.boxes) λbx=>aj (bK s v) fun
     | .dat a q=>iL a q=true/\a.cells.length=B/\off+B<=bx.cells.length/\
       K .undef {s with boxes:=nK b ⟨setCells bx.cells off a.cells,match q with|some q=>(off,q)::bx.tags.filter (λp=>p.1<off||off+B<=p.1)|none=>bx.tags.filter (λp=>p.1<off||off+B<=p.1)⟩ s.boxes}
     |_=>False
   |_=>False
 | .fa x off=>aj (bK s x) fun
   | .ptr b o=>K (.ptr b (o+off)) s
   | .rp cs=>K (.rp (cs.drop off)) s
   | .pt 2 ps=>K (.pt 2 (ps.drop off)) s
   |_=>False
 | .Mr x i n z=>aj (bK s x) λp=>aj (aF s i) λa=>aj (idxOf a) λi=>(0<=i/\i<n)/\
   match p with
   | .ptr b o=>K (.ptr b (o+i.toNat*z)) s
   | .rp cs=>K (.rp (cs.drop (i.toNat*z))) s
   |_=>False
 | .PU x i z=>aj (bK s x) fun
   | .dat l _=>aj (aF s i) λa=>aj (idxOf a) λi=>aj (rowsOf l) λxs=>(0<=i/\i<xs.length)/\aj (xs[i.toNat]?) λrow=>row.length=z/\K (.rp row) s
   | .vs b off n M=>aj (aF s i) λa=>aj (idxOf a) λi=>(0<=i/\i<n)/\M=z/\K (.ptr b (off+i.toNat*z)) s
   |_=>False
 | .D2 x off B=>aj (aF s x) fun
   | .agg cs=>aj (aH cs off B) λa=>K (.dat a none) s
   |_=>False
 | .HL x i n z B=>aj (aF s x) fun
   | .agg cs=>aj (aF s i) λa=>aj (idxOf a) λi=>(0<=i/\i<n)/\aj (aH cs (i.toNat*z) B) λa=>K (.dat a none) s
   |_=>False
 | .bin op x y=>aj (aF s x) λa=>aj (aF s y) λb=>aj (dO op a b) λv=>K (.dat v none) s
 | .eqc V neg x y=>aj (aF s x) fun
   | .agg as=>aj (aF s y) fun
    | .agg L=>aj (dH V as L) λe=>K (.dat (.bool (e !=neg)) none) s
    |_=>False
   |_=>False
 | .bb neg x y=>aj (aF s x) λa=>aj (aF s y) λb=>aj (WW neg a b) λv=>K (.dat v none) s
 | .un op x=>aj (aF s x) λa=>aj (TP op a) λv=>K (.dat v none) s
 | .uI k x=>aj (aF s x) λa=>aj (CZ k a) λv=>K (.dat v none) s
 | .CI k x=>aj (aF s x) λa=>aj (C0 k a) λv=>K (.dat v none) s
 | .Ft k x=>aj (aF s x) λa=>aj (yK k a) λv=>K (.dat v none) s
 | .D3 x=>aj (bK s x) λv=>K v s
 | .HR x=>aj (bK s x) fun
   | .dat a _=>aj (vI a) λv=>K (.dat v none) s
   | .vs _ _ n _=>K (.dat (.int .i64 n) none) s
   |_=>False
 | .HS n=>K (.dat (.int .i64 n) none) s
 | .app e z bytes x y=>aj (bK s x) fun
   | .dat a q=>aj (rowsOf a) λxs=>aj (aF s y) λb=>aj (rowsOf b) λD=>
     (xs.length+D.length)*bytes<=140737488355328/\(∀r∈xs,r.length=z)/\(∀r∈D,r.length=z)/\
     (match a,q with
      | .bF,_=>if D=[]then K (.dat .bF none) s else K (.dat (.sl (xs++D)) (some id)) {s with live:=(id,e)::s.live}
      | .sl _,some q=>dY q s.live=some e/\K (.dat (.sl (xs++D)) (some id)) {s with live:=(id,e)::lZ q s.live}
      |_,_=>False)
   |_=>False
 | .call f args=>aj (dQ s args) λas=>∃r fr,C.c f as r fr/\K (.dat r (fr.map λ_=>id)) {s with live:=match fr with|some e=>(id,e)::s.live|none=>s.live}
 | .dD f args=>aj (dS true s args) λp=>c8 p.2=true/\aj (aV s.boxes p.2) λcss=>
   ∃r fr A,C.p f css p.1 r fr A/\K (.dat r (fr.map λ_=>id)) {s with boxes:=dJ p.2 A s.boxes,live:=match fr with|some e=>(id,e)::s.live|none=>s.live}
 | .jx g args=>aj (aF s g) fun
   | .fn (.func f) first caps=>aj (dQ s args) λas=>∃r fr,C.c f (first++as++caps) r fr/\K (.dat r (fr.map λ_=>id)) {s with live:=match fr with|some e=>(id,e)::s.live|none=>s.live}
   |_=>False
 | .ext x i=>aj (aF s x) λa=>aj (Mz a i) λv=>K (.dat v none) s
 | .xN fn first caps=>aj (dQ s first) λas=>aj (dS false s caps) λp=>(c8 p.2&&iu p.2)=true/\aj (aV s.boxes p.2) λcss=>
   K (.dat (.fn fn as (je p.1 css)) none) (gp p.2 css s)
 | .SZ z x lo O=>aj (aF s x) λa=>aj (rowsOf a) λxs=>
   aj (Au s lo) λl=>aj (Av s xs O) λh=>
   (0<=l/\l<=h/\h<=xs.length)/\(∀r∈xs,r.length=z)/\K (.dat (MA a xs l h) none) s
 | .nc x=>aj (bK s x) fun
   | .ptr b o=>K (.ptr b o) s
   | .rp cs=>K (.rp cs) s
   | .dat (.fn (.func f) as L) q=>K (.dat (.fn (.func f) as L) q) s
   | .dat (.ref cs) _=>K (.rp cs) s
   |_=>False
 | .mm mx args=>aj (dQ s args) fun
   |[]=>False
   |a::r=>aj (r.foldlM (S1 mx) a) λv=>K (.dat v none) s
 | .xt e x=>aj (aF s x) λa=>aj (WX e a) λv=>K (.dat v none) s
 | .S0 x n z=>aj (bK s x) fun
   | .rp cs=>n*z<=cs.length/\K (.dat (.sl (cq z n cs)) none) s
   | .ptr b off=>4<=b/\aj (b9 b s.boxes) λbx=>n*z<=(bx.cells.drop off).length/\K (.dat (.sl (cq z n (bx.cells.drop off))) none) (gp [b] [bx.cells] s)
   |_=>False
 | .TK neg x=>aj (aF s x) λa=>aj (Fv neg a) λb=>K (.dat (.bool b) none) s
 | .fQ g args=>aj (aF s g) fun
   | .fn (.func f) [] []=>aj (dS true s args) λp=>c8 p.2=true/\aj (aV s.boxes p.2) λcss=>
     ∃r fr A,C.p f css p.1 r fr A/\K (.dat r (fr.map λ_=>id)) {s with boxes:=dJ p.2 A s.boxes,live:=match fr with|some e=>(id,e)::s.live|none=>s.live}
   |_=>False
 | .Ap f args=>aj (dS true s args) λp=>c8 p.2=true/\aj (dU s.boxes p.2) λcss=>
   ∃r,C.p f css p.1 r none css/\K (.dat r none) s
 | .qY g args=>aj (aF s g) fun
   | .fn (.func f) [] []=>aj (dS true s args) λp=>c8 p.2=true/\aj (dU s.boxes p.2) λcss=>
     ∃r,C.p f css p.1 r none css/\K (.dat r none) s
   |_=>False
 | .TL x n z O=>aj (bK s x) fun
   | .ptr b off=>aj (aF s O) λa=>aj (idxOf a) λh=>(0<=h/\h<=n)/\K (.vs b off h.toNat z) s
   |_=>False
 | .CJ e z bytes y x=>aj (bK s y) fun
   | .vs b off n M=>aj (bK s x) fun
     | .ptr R _=>(R=b/\M=z)/\aj (b9 b s.boxes) λbx=>(n*z<=(bx.cells.drop off).length/\n*bytes<=140737488355328)/\
       (if n=0 then K (.dat .bF none) s else K (.dat (.sl (cq z n (bx.cells.drop off))) (some id)) {s with live:=(id,e)::s.live})
     |_=>False
   |_=>False
 | .Xk x i=>aj (aF s x) fun
   | .str b=>aj (aF s i) λa=>aj (idxOf a) λj=>aj (Jo b j) λv=>K (.dat v none) s
   |_=>False
 | .PV x B=>aj (bK s x) fun
   | .pt 2 ps=>match B,ps with
    |none,(b,o)::_=>K (.ptr b o) s
    |some n,ps=>n<=ps.length/\K (.pt 0 (ps.take n)) s
    |_,_=>False
   |_=>False
 | .tZ f args=>aj (dS true s args) λp=>c8 p.2=true/\aj (aV s.boxes p.2) λcss=>
   ∃v A,C.q f css p.1 v A/\K (.dat v none) {s with boxes:=dJ p.2 A s.boxes}
def PX(n:Nat) (a:AV) (id:Nat):SV->SV
 | .raw B A=>bif B==q&&A==n then .dat a (some id)else .raw B A
 |v=>v
def KY(q n:Nat) (a:AV) (id:Nat):List (Nat×SV)->List (Nat×SV)
 |[]=>[]
 |(t,v)::r=>(t,PX q n a id v)::KY q n a id r
def MD(ps:List (Nat×Nat)):SV->SV
 | .ptr A o=>bif A==b then .pt 2 (ps.drop o)else .ptr A o
 |v=>v
def C1(b:Nat) (ps:List (Nat×Nat)):List (Nat×SV)->List (Nat×SV)
 |[]=>[]
 |(t,v)::r=>(t,MD b ps v)::C1 b ps r
def C2(z:Nat) (rows:List (List AV)):Bool:=rows.all λr=>r.length==z&&r.all iT
def ew(C:bk) (id:Nat) (o:Fu) (K:SV->S->Prop) (X:AV->S->Prop) (s:S):Prop:=
 match o with
 | .o c=>bB C id c K s
 | .call f args=>bB C id (.call f args) K s\/(aj (dQ s args) λas=>(∃cs,C.n f as cs/\K (.ptr id 0) {s with boxes:=(id,⟨cs,[]⟩)::s.boxes})\/(∃p,C.q f [] (as.map some) p []/\X p s)\/
   ∃rows e z,C.c f as (.sl rows) (some e)/\C2 z rows=true/\K (.vs id 0 rows.length z) {s with boxes:=(id,⟨rows.flatten,[]⟩)::s.boxes})
 | .dD f args=>bB C id (.dD f args) K s\/aj (dS true s args) λp=>c8 p.2=true/\aj (aV s.boxes p.2) λcss=>
   (∃v A,C.q f css p.1 v A/\X v {s with boxes:=dJ p.2 A s.boxes})\/Jp C f css p.1 p.2 id s.boxes s.live λv bx lv=>K v {s with boxes:=bx,live:=lv}
 | .jx b g args=>match bK s g with
   |some (.tW f as B)=>aj (dS true s args) λp=>c8 (p.2++B)=true/\aj (aV s.boxes (p.2++B)) λcss=>
     (∃r fr A,C.p f css (p.1++as) r fr A/\K (.dat r (fr.map λ_=>id)) {s with boxes:=dJ (p.2++B) A s.boxes,live:=match fr with|some e=>(id,e)::s.live|none=>s.live})\/
     (∃v A,C.q f css (p.1++as) v A/\X v {s with boxes:=dJ (p.2++B) A s.boxes})\/Jp C f css (p.1++as) (p.2++B) id s.boxes s.live λv bx lv=>K v {s with boxes:=bx,live:=lv}
   |_=>bB C id (if b then .fQ g args else .jx g args) K s
 | .mkc f caps=>aj (dS false s caps) λp=>K (.tW f p.1 p.2) s
 | .pan x=>aj (aF s x) λa=>As a=true/\X a s
 | .mkI t x=>aj (aF s x) λa=>iL a none=true/\K (.dat (.iface t a) none) s
 | .tas t z x=>aj (aF s x) λa=>aj (TQ t z a) λv=>K (.dat v none) s
 | .isI neg x=>aj (aF s x) λa=>aj (TR neg a) λb=>K (.dat (.bool b) none) s
 | .isP neg x=>aj (bK s x) λv=>aj (KV neg v) λb=>K (.dat (.bool b) none) s
 | .mks e bytes l c=>aj (aF s l) λa=>aj (idxOf a) λl=>aj (aF s c) λb=>aj (idxOf b) λc=>(0<=l/\l<=c/\c*bytes<=140737488355328)/\K (.raw id l.toNat) {s with live:=(id,e)::s.live}
 | .cpy e x y=>aj (bK s x) fun
   | .raw q n=>aj (aF s y) λb=>aj (rowsOf b) λD=>(D.length=n/\∀r∈D,r.length=1)/\dY q s.live=some e/\
     K (.dat (.int .i64 n) none) {s with slots:=KY q n (.sl D) id s.slots,live:=(id,e)::lZ q s.live}
   |_=>False
 | .TM x=>aj (bK s x) fun
   | .ptr b o=>K (.pt 0 [(b,o)]) s
   |_=>False
 | .TN x=>aj (bK s x) fun
   | .pt 0 ps=>K (.pt 2 ps) s
   |_=>False
 | .stp x v=>aj (bK s x) fun
   | .ptr b 0=>aj (bK s v) fun
     | .pt 0 ps=>aj (b9 b s.boxes) λy=>(4<=b/\y.cells.length=1/\ps.length=1)/\K .undef {s with slots:=C1 b ps s.slots,boxes:=kS b s.boxes}
     |_=>False
   |_=>False
 | .TO xs=>aj (Fy s xs) λps=>K (.pt 1 ps) s
 | .iap x i=>aj (bK s x) fun
   | .pt 1 ps=>aj (aF s i) λa=>aj (idxOf a) λi=>(0<=i/\i<ps.length)/\K (.pt 2 (ps.drop i.toNat)) s
   |_=>False
 | .lnp x=>aj (bK s x) fun
   | .pt 1 ps=>K (.dat (.int .i64 ps.length) none) s
   |_=>False
 | .My g args=>aj (aF s g) fun
   | .fn (.func f) [] []=>aj (dS true s args) λp=>c8 p.2=true/\aj (aV s.boxes p.2) λcss=>∃j o b,C.r f css p.1 j o/\p.2[j]? =some b/\K (.ptr b o) {s with boxes:=dJ p.2 css s.boxes}
   |_=>False
 | .apn e z bytes y=>aj (aF s y) λa=>aj (rowsOf a) λrows=>(rows≠[]/\rows.length*bytes<=140737488355328)/\C2 z rows=true/\K (.vs id 0 rows.length z) {s with boxes:=(id,⟨rows.flatten,[]⟩)::s.boxes}
def fm(g:Option (Nat×Bool)) (yes no:Prop):Prop:=
 match g with
 |none=>yes
 |some (t,want)=>match lk t s.slots with
  |some (.dat (.bool b) _)=>(b=want->yes)/\(b=!want->no)
  |some .undef=>no
  |_=>False
def jb(C:bk) (base:Nat):Nat->List CO->(S->Prop)->S->Prop
 |_,[],K,s=>K s
 |i,o::r,K,s=>fm s o.g
   (bB C (base+i) o.op (λv A=>jb C base (i+1) r K (A.put o.dst v)) s)
   (jb C base (i+1) r K (s.put o.dst .undef))
def ri(C:bk) (base:Nat):Nat->List XO->(S->Prop)->(AV->S->Prop)->S->Prop
 |_,[],K,_,s=>K s
 |i,o::r,K,X,s=>fm s o.g
   (ew C (base+i) o.op (λv A=>ri C base (i+1) r K X (A.put o.dst v)) X s)
   (ri C base (i+1) r K X (s.put o.dst .undef))
def jy(k:S->Prop) (Q:Exit->S->Prop):Exit->S->Prop
 | .normal,s=>k s
 |e,s=>Q e s
def iM:Exit->S->Prop
 | .exit A,s=>if A=id then Q .normal s else Q (.exit A) s
 |e,s=>Q e s
def Fp:Nat:=(dY q m).getD q
def Ay(nx:Nat):SV->SV->Prop
 | .dat a _,.dat a' none=>a=a'
 | .dat a (some q),.dat a' (some O)=>a=a'/\q=Fp m O/\O<nx
 | .ptr b o,.ptr A o'=>b=A/\o=o'/\A<nx
 | .rp cs,.rp L=>cs=L
 | .vs b o n z,.vs A o' R z'=>(b=A/\o=o')/\(n=R/\z=z')/\A<nx
 | .undef,.undef=>True
 | .tW f as Z,.tW V M B=>f=V/\as=M/\Z=B/\∀b∈B,b<nx
 | .pt k ps,.pt k' D=>k=k'/\ps=D/\∀p∈D,p.1<nx
 |_,_=>False
def gj(m:List (Nat×Nat)) (nx:Nat) (a:List (Nat×SV)):List (Nat×SV)->Prop
 |[]=>True
 |(t,v)::r=>aj (lk t a) (λu=>Ay m nx u v)/\gj m nx a r
def kT(m:List (Nat×Nat)) (nx:Nat) (a:List (Nat×Nat)):List (Nat×Nat)->Prop
 |[]=>True
 |(o,q)::r=>(dY o a=some (Fp m q)/\q<nx)/\kT m nx a r
def gQ(m:List (Nat×Nat)) (nx:Nat) (a:List (Nat×cI)):List (Nat×cI)->Prop
 |[]=>True
 |(b,x)::r=>aj (b9 b a) (λy=>y.cells=x.cells/\kT m nx y.tags x.tags/\b<nx)/\gQ m nx a r
def oY(m:List (Nat×Nat)) (nx:Nat) (a:List (Nat×Nat)):List (Nat×Nat)->Prop
 |[]=>True
 |(q,e)::r=>(dY (Fp m q) a=some e/\q<nx)/\oY m nx a r
def cg(l:List (Nat×Nat)):Prop:=((l.map λp=>Fp m p.1).Nodup)
def Le(s1:S):Prop:=
 4<=s1.nx/\∃m,gj m s1.nx s.slots s1.slots/\gQ m s1.nx s.boxes s1.boxes/\oY m s1.nx s.live s1.live/\cg m s1.live
def Frz:Prop:=∃ids,(c8 ids&&iu ids)=true/\aj (aV s.boxes ids) λcss=>F (gp ids css s)
def down:Prop:=∃s1,Le s s1/\(F s1\/Frz F s1)\/F s
theorem lQ{F:S->Prop} {s:S} (h:F s):down F s:=⟨s,.inr h⟩
theorem oZ{F:S->Prop} {s s1:S} (h:Le s s1) (hF:F s1):down F s:=⟨s1,.inl ⟨h,.inl hF⟩⟩
theorem ME{F:S->Prop} {s s1:S} (h:Le s s1) (hF:Frz F s1):down F s:=⟨s1,.inl ⟨h,.inr hF⟩⟩
def tf(F:(Exit->S->Prop)->S->Prop) (Q:Exit->S->Prop):Nat->S->Prop
 |0,_=>False
 |n+1,s=>F (jy (down (tf F Q n)) Q) s
def bn.rd:bn->List Nat
 | .t n=>[n]
 | .k _=>[]
def Jq:Option bn->List Nat
 |some x=>x.rd
 |none=>[]
def aS:List bn->List Nat
 |[]=>[]
 |x::r=>x.rd++aS r
def vL:List (Nat×Nat×bn)->List Nat
 |[]=>[]
 |(_,_,x)::r=>x.rd++vL r
def bE.rd:bE->List Nat
 | .mv x=>x.rd
 | .pick c a b=>c.rd++a.rd++b.rd
 | .alloc _=>[]
 | .box x=>x.rd
 | .build _ ps=>vL ps
 | .PG _ _ xs=>aS xs
 | .ld x _=>x.rd
 | .st x v _=>x.rd++v.rd
 | .fa x _=>x.rd
 | .Mr x i _ _=>x.rd++i.rd
 | .PU x i _=>x.rd++i.rd
 | .D2 x _ _=>x.rd
 | .HL x i _ _ _=>x.rd++i.rd
 | .bin _ x y=>x.rd++y.rd
 | .eqc _ _ x y=>x.rd++y.rd
 | .bb _ x y=>x.rd++y.rd
 | .un _ x=>x.rd
 | .uI _ x=>x.rd
 | .CI _ x=>x.rd
 | .Ft _ x=>x.rd
 | .D3 x=>x.rd
 | .HR x=>x.rd
 | .HS _=>[]
 | .app _ _ _ x y=>x.rd++y.rd
 | .call _ args=>aS args
 | .dD _ args=>aS args
 | .jx g args=>g.rd++aS args
 | .ext x _=>x.rd
 | .xN _ a b=>aS a++aS b
 | .SZ _ x lo A=>x.rd++Jq lo++Jq A
 | .nc x=>x.rd
 | .mm _ args=>aS args
 | .xt _ x=>x.rd
 | .S0 x _ _=>x.rd
 | .Xk x i=>x.rd++i.rd
 | .TK _ x=>x.rd
 | .fQ g args=>g.rd++aS args
 | .Ap _ args=>aS args
 | .qY g args=>g.rd++aS args
 | .TL x _ _ A=>x.rd++A.rd
 | .CJ _ _ _ y x=>y.rd++x.rd
 | .PV x _=>x.rd
 | .tZ _ args=>aS args
def bE.isApp:bE->Bool
 | .app ..=>true
 |_=>false
def bE.t5:bE->List Nat
 | .ld x _=>x.rd
 | .st x _ _=>x.rd
 | .dD _ args=>aS args
 | .fQ _ args=>aS args
 | .Ap _ args=>aS args
 | .qY _ args=>aS args
 | .tZ _ args=>aS args
 | .xN _ _ b=>aS b
 | .S0 x _ _=>x.rd
 | .CJ _ _ _ _ x=>x.rd
 |_=>[]
def bE.Jr:bE->List Nat
 | .st x _ _=>x.rd
 | .dD _ args=>aS args
 | .tZ _ args=>aS args
 | .fQ _ args=>aS args
 | .xN _ _ b=>aS b
 | .S0 x _ _=>x.rd
 |_=>[]
def bE.yL:bE->Bool
 | .xN _ _ b=>!b.isEmpty
 | .S0 ..=>true
 |_=>false
def bE.rj:bE->List Nat
 | .mv x| .fa x _| .Mr x _ _ _| .PU x _ _| .nc x| .D3 x| .PV x _| .TL x _ _ _=>x.rd
 | .pick _ a b=>a.rd++b.rd
 |_=>[]
def bE.MF:bE->Bool
 | .alloc _| .box _=>true
 |_=>false
def bE.ro:bE->bE
 | .dD f args=>.Ap f args
 | .fQ g args=>.qY g args
 |o=>o
def CO.ro(o:CO):CO:=⟨o.dst,o.op.ro,o.g⟩
def mV(ro:List Nat):Nat->List CO->List CO
 |_,[]=>[]
 |i,o::r=>(bif ro.contains i then o.ro else o)::mV ro (i+1) r
theorem vM:∀{i:Nat} {l:List CO},mV [] i l=l
 |_,[]=>rfl
 |i,o::l=>by show o::mV [] (i+1) l=_;rw[vM]
def xR(k:Nat) (A:List Nat) (i:Nat) (o:CO):CO:=
 if i=k then(match o.op with| .dD f args=>⟨o.dst,.tZ f args,o.g⟩|_=>o)else if A.contains i=true then⟨none,.mv (.k .qM),none⟩else o
def mW(k:Nat) (A:List Nat):Nat->List CO->List CO
 |_,[]=>[]
 |i,o::r=>xR k A i o::mW k A (i+1) r
def CO.rd(o:CO):List Nat:=o.op.rd++(match o.g with|some (t,_)=>[t]|none=>[])
abbrev Tag:=Option (Option Nat)
def Tag.CF:Tag->Nat->Bool
 |none,_=>true
 |some z,b=>z==some b
def Tag.dis:Tag->Tag->Bool
 |some none,_=>true
 |_,some none=>true
 |some (some a),some (some b)=>a !=b
 |_,_=>false
def look:List (Nat×Tag)->Nat->Tag
 |[],_=>none
 |(t,z)::r,n=>bif n==t then z else look r n
def CO.indep:Bool:=
 (match x.dst with|some d=>!y.rd.contains d&&y.dst !=some d|none=>true)&&
 (match y.dst with|some d=>!x.rd.contains d|none=>true)&& !(x.op.isApp&&y.op.isApp)
def CO.half(T:List (Nat×Tag)) (x y:CO):Bool:=
 x.op.Jr.all λt=>y.op.t5.all (λu=>(look T t).dis (look T u))&&(!x.op.yL||y.rd.all λu=>(look T t).dis (look T u))
def CO.rm(T:List (Nat×Tag)) (x y:CO):Bool:=x.indep y&&x.half T y&&y.half T x
def CO.apart:Bool:=x.rm [] y
def S2(T:List (Nat×Tag)):List Nat->Tag
 |[]=>some none
 |[t]=>look T t
 |t::r=>if look T t==S2 T r then look T t else none
def MG(T:List (Nat×Tag)) (base:Nat):Nat->List CO->List (Nat×Tag)
 |_,[]=>T
 |i,o::r=>MG (match o.dst with|some t=>(t,if o.op.MF then some (some (base+i))else S2 T o.op.rj)::T|none=>T) base (i+1) r
def uL:List (Nat×SV)->List (Nat×Tag)
 |[]=>[]
 |(t,.ptr b _)::r=>(t,some (some b))::uL r
 |(t,.vs b _ _ _)::r=>(t,some (some b))::uL r
 |(t,.pt _ [(b,_)])::r=>(t,some (some b))::uL r
 |(t,.pt _ _)::r=>(t,none)::uL r
 |(t,_)::r=>(t,some none)::uL r
def j6(T:List (Nat×Tag)):List (Nat×SV)->Bool
 |[]=>true
 |(t,.ptr b _)::r=>(look T t).CF b&&j6 T r
 |(t,.vs b _ _ _)::r=>(look T t).CF b&&j6 T r
 |(t,.pt _ ps)::r=>(ps.all λp=>(look T t).CF p.1)&&j6 T r
 |(_,_)::r=>j6 T r
def o3(T:List (Nat×Tag)) (id:Nat) (o:CO):Bool:=
 match o.dst with
 |none=>true
 |some t=>match look T t with
  |none=>true
  |some z=>if o.op.MF then z==some id else o.op.rj.all λu=>match look T u with|some A=>A==none||A==z|none=>false
def lK(T:List (Nat×Tag)) (base:Nat):Nat->List CO->Bool
 |_,[]=>true
 |i,o::r=>o3 T (base+i) o&&lK T base (i+1) r
def yM(T:List (Nat×Tag)) (ops:List CO):List (Nat×Nat)->Bool
 |[]=>true
 |(i,j)::r=>(match ops[i]?,ops[j]? with|some x,some y=>x.rm T y|_,_=>false)&&yM T ops r
def TU(T:List (Nat×Tag)) (ops:List CO) (cJ:List (Nat×Nat)) (base:Nat) (sl:List (Nat×SV)):Bool:=j6 T sl&&lK T base 0 ops&&yM T ops cJ
def vN(ops:List CO) (cJ:List (Nat×Nat)) (base:Nat) (sl:List (Nat×SV)):Bool:=TU (MG (uL sl) base 0 ops) ops cJ base sl
def rq:List Nat->List AV->S->S
 |p::ps,x::xs,s=>rq ps xs (s.put (some p) (.dat x none))
 |_,_,s=>s
def mX(wr:List Nat):List (Nat×SV)->List (Nat×SV)
 |[]=>[]
 |(t,v)::r=>bif wr.contains t then mX wr r else(t,v)::mX wr r
def xS:S:={s with slots:=mX wr s.slots}
def MH:Exit->S->Prop
 | .normal,s=>down F (xS wr s)
 | .ret,s=>Q .ret (xS wr s)
 | .exit id,s=>Q (.exit id) (xS wr s)
 |_,_=>False
def Fz(K:S->Prop):Exit->S->Prop
 | .normal,s=>K s
 |_,_=>False
def ru(l:Nat) (K:S->Prop) (Q:Exit->S->Prop):Exit->S->Prop
 | .goto A,s=>A=l/\K s
 |e,s=>Q e s
def FA:Exit->S->Prop
 | .goto _,_=>False
 |e,s=>Q e s
def MI(C:bk) (ops:List CO) (cJ:List (Nat×Nat)) (K:S->Prop) (s:S):Prop:=
 ∃ro,vN (mV ro 0 ops) cJ s.nx s.slots=true/\jb C s.nx 0 (mV ro 0 ops) K s
def TV(C:bk) (ops:List CO) (cJ:List (Nat×Nat)) (k:Nat) (A:List Nat) (ds:List Nat) (X:AV->S->Prop) (s:S):Prop:=
 vN (mW k A 0 ops) cJ s.nx s.slots=true/\jb C s.nx 0 (mW k A 0 ops) (λB=>∃d p,(ops[k]?).bind CO.dst=some d/\lk d B.slots=some (.dat p none)/\X p (xS ds B)) s
def aw(C:bk):aZ->(Exit->S->Prop)->S->Prop
 | .skip,Q,s=>Q .normal s
 | .Jn ops,Q,s=>jb C s.nx 0 ops (λs'=>Q .normal {s' with nx:=s.nx+ops.length}) s
 | .seq a b,Q,s=>aw C a (jy (aw C b Q) Q) s
 | .join a b,Q,s=>aw C a (jy (down (aw C b Q)) Q) s
 | .cond c a b,Q,s=>aj (aF s c) fun
   | .bool t=>(t=true->aw C a Q s)/\(t=false->aw C b Q s)
   |_=>False
 | .block id c,Q,s=>aw C c (iM id Q) s
 | .loop c,Q,s=>down (λs=>∃n,tf (aw C c) Q n s) s
 | .exit id,Q,s=>Q (.exit id) s
 | .ret,Q,s=>Q .ret s
 | .scope l c r,Q,s=>aw C c (ru l (aw C r (FA Q)) Q) s
 | .label _,Q,s=>Q .normal s
 | .goto l,Q,s=>Q (.goto l) s
 | .KT ops,Q,s=>ri C s.nx 0 ops (λs'=>Q .normal {s' with nx:=s.nx+ops.length}) (λp s'=>Q (.panic (jd p)) {s' with nx:=s.nx+ops.length}) s
 | .Aq ops cJ,Q,s=>∃ids,(c8 ids&&iu ids)=true/\aj (aV s.boxes ids) λcss=>MI C ops cJ (λs'=>Q .normal {s' with nx:=s.nx+ops.length}) (gp ids css s)
 | .HT ops cJ k A,Q,s=>(∃ids,(c8 ids&&iu ids)=true/\aj (aV s.boxes ids) λcss=>MI C ops cJ (λs'=>Q .normal {s' with nx:=s.nx+ops.length}) (gp ids css s))\/
   TV C ops cJ k A (ops.flatMap λo=>o.dst.toList) (λp s'=>Q (.panic (jd p)) {s' with nx:=s.nx+ops.length}) s
 | .zQ g ps wr as D,Q,s=>aj (aF s g) λB=>∃xs,C.i B xs/\(∀x∈xs,x.length=ps.length)/\∃F:Nat->S->Prop,down (F 0) s/\(∀i s',F i s'->aF s' g=some B)/\
   (∀i x s',xs[i]? =some x->F i s'->aw C as (Fz (aw C D (MH wr (F (i+1)) Q))) (rq ps x s'))/\∀s',F xs.length s'->Q .normal s'
def eI:Option Nat:=(P.info? t).map (·.size)
def mY:Bool:=
 match P.underlying t with
 |some (.struct _)|some (.array _ _)=>true
 |_=>false
def vO:Option (Option Nat):=
 match P.underlying t with
 |some (.struct _)|some (.array _ _)=>(eI P t).map some
 |some _=>some none
 |none=>none
def zeroOf:Option (List AV):=
 match(P.info? t).bind (·.zero)with
 |some z=>z.cells.toList.mapM KU
 |none=>none
def bV:Operand->Option bn
 | .tmp t=>some (.t t)
 | .const v=>(ofV v).map .k
 | .func f=>some (.k (.fn (.func f) [] []))
 | .global _=>none
def f7(l:Array Operand):Option (List bn):=l.toList.mapM bV
def vP(s:TypeId) (f:Nat):Option Field:=
 match P.underlying s with
 |some (.struct A)=>A[f]?
 |_=>none
def FB(P:Program) (rec:TypeId->Option (List CK)):List Field->Nat->Option (List CK)
 |[],_=>some []
 |f::fs,off=>
  if f.name = "_" ∨ f.offset ≠ off then none else
  match rec f.type with
  |some ks=>if eI P f.type=some ks.length/\0<ks.length then(FB P rec fs (off+ks.length)).map (ks++·)else none
  |none=>none
def l6(P:Program):Nat->TypeId->Option (List CK)
 |0,_=>none
 |d+1,t=>match P.underlying t with
  |some .bool=>some [.b]
  |some (.int _)=>some [.i]
  |some (.float _)=>some [.f]
  |some .string=>some [.s]
  |some (.struct B)=>if P.stoodInHeld t then none else FB P (l6 P d) B.toList 0
  |some (.array n e)=>match l6 P d e with
   |some A=>if eI P e=some A.length then some (List.replicate n A).flatten else none
   |none=>none
  |_=>none
def Xl(x y:bn):Option bE:=
 match l6 P 20 t with
 |some A=>if mY P t&& !P.eqGuardType P.depth t then some (.eqc A neg x y)else none
 |none=>none
def Js:Bool:=
 match P.underlying t with
 |some (.int _)|some (.float _)=>true
 |_=>false
def MJ:Bool:=
 match P.underlying t with
 |some .bool=>true
 |_=>false
def cw:Bool:=
 match P.funcs[f]? with
 | some fn => fn.name != "runtime.NumGoroutine" && fn.body.isSome
 |none=>false
def Jt:Option (Nat×Nat):=
 match P.underlying t with
 |some (.struct A)=>match A[i]? with
  |some f=>(eI P f.type).map λz=>(f.offset,z)
  |none=>none
 |some (.array _ e)=>(eI P e).map λz=>(i*z,z)
 |_=>none
def xT(P:Program) (t:TypeId):List (Nat×Operand)->Option (List (Nat×Nat×bn))
 |[]=>some []
 |(i,x)::r=>match Jt P t i,bV x,xT P t r with
  |some (o,z),some x,some ps=>some ((o,z,x)::ps)
  |_,_,_=>none
def sliceB:Bool:=match P.underlying t with|some (.slice _)=>true|_=>false
def D5:Bool:=
 match P.underlying t with
 |some (.struct A)=>A.toList.all λf=>(eI P f.type).isSome
 |some (.array _ e)=>(eI P e).isSome
 |_=>false
def ry(zs:Nat):List (Nat×Nat×bn)->Bool
 |[]=>true
 |(o,z,_)::r=>decide (o+z<=zs)&&ry zs r
def cOpt:Option Operand->Option (Option bn)
 |none=>some none
 |some x=>(bV x).map some
def FC(s d:TypeId) (x:bn):Option bE:=
 match P.underlying s,P.underlying d with
 |some (.int _),some (.int k)=>some (.uI k x)
 |some (.int _),some (.float k)=>some (.CI k x)
 |some (.float _),some (.int k)=>some (.Ft k x)
 |_,_=>none
def zR:Bool:=match P.underlying t with|some (.pointer _)=>true|_=>false
def HV:Bool:=
 match P.underlying t with
 |some (.struct A)=>match A.toList with
  |[f]=>zR P f.type&&f.offset==0&&eI P f.type==some 1
  |_=>false
 |_=>false
def o4(P:Program):List TypeId->Bool
 |[]=>false
 |t::r=>(zR P t||HV P t)||o4 P r
def TW:Option Xt:=
 match P.funcs[f]? with
 |some fn=>if fn.body.isNone&&(Extern.findNext fn).isNone then
   if fn.name == "math.Float64bits" then some .Fs
   else if fn.name == "math.Float64frombits" then some .ffrom
   else if fn.name == "math.RoundToEven" then some .rte
   else none
  else none
 |none=>none
def t6:Option bE:=
 match c.callee with
 | .value (.func f)=>if cw P f then(f7 c.args).map (if o4 P c.argTypes.toList then .dD f else .call f)
  else match TW P f,c.args.toList with
   |some e,[x]=>(bV x).map (.xt e)
   |_,_=>none
 | .value g=>match bV g,f7 c.args with
  |some g,some as=>some (if o4 P c.argTypes.toList then .fQ g as else .jx g as)
  |_,_=>none
 | .builtin .len=>match c.argTypes[0]?,c.args[0]? with
  |some t,some x=>match P.underlying t with
   |some (.slice _)=>(bV x).map .HR
   |some (.array n _)=>some (.HS n)
   |_=>none
  |_,_=>none
 | .builtin .append=>match c.argTypes.toList,c.args.toList with
  |[t,A],[x,y]=>if t=A then match P.underlying t,bV x,bV y with
    |some (.slice e),some x,some y=>match P.info? e with
     |some i=>match i.zero with
      |some z=>if 0<i.size&&z.cells.size==i.size&&0<i.bytes then some (.app e i.size i.bytes x y)else none
      |none=>none
     |none=>none
    |_,_,_=>none
   else none
  |_,_=>none
 | .builtin .max=>(f7 c.args).map (.mm true)
 | .builtin .min=>(f7 c.args).map (.mm false)
 |_=>none
def PI:Op->Option bE
 | .move x| .assign x=>(bV x).map .mv
 | .pick c a b=>match bV c,bV a,bV b with
  |some c,some a,some b=>some (.pick c a b)
  |_,_,_=>none
 | .alloc t=>(zeroOf P t).map .alloc
 | .box _ x=>(bV x).map .box
 | .build t ps=>match zeroOf P t,xT P t ps.toList with
  |some zs,some ps=>if ry zs.length ps&&D5 P t then some (.build zs ps)else none
  |_,_=>none
 | .buildSlice t n ps=>match P.underlying t with
  |some (.slice e)=>match zeroOf P e,eI P e,ps.toList.mapM (λp=>bV p.2)with
   |some zs,some z,some xs=>if n*z<=16777216&&0<z&&zs.length==z&&ps.toList.map (·.1)==List.range n then some (.PG e z xs)else none
   |_,_,_=>none
  |_=>none
 | .load t x=>match vO P t,bV x with
  |some r,some x=>some (if zR P t||HV P t then .PV x r else .ld x r)
  |_,_=>none
 | .store t x v=>match eI P t,bV x,bV v with
  |some z,some x,some v=>some (.st x v z)
  |_,_,_=>none
 | .nilCheck x=>(bV x).map .nc
 | .binOp op t x y _=>match bV x,bV y with
  |some x,some y=>
   if Js P t then some (.bin op x y)
   else if MJ P t then(match op with| .eql=>some (.bb false x y)| .neq=>some (.bb true x y)|_=>none)
   else if sliceB P t then(match op,y with| .eql,.k .bF=>some (.TK false x)| .neq,.k .bF=>some (.TK true x)|_,_=>none)
   else match op with
    | .eql=>Xl P t false x y
    | .neq=>Xl P t true x y
    |_=>none
  |_,_=>none
 | .unOp op _ x=>(bV x).map (.un op)
 | .convert s d x=>(bV x).bind (FC P s d)
 | .fieldAddr s x f=>match vP P s f,bV x with
  |some A,some x=>if eI P A.type==some 0||(eI P A.type).isNone then none else some (.fa x A.offset)
  |_,_=>none
 | .field s x f=>match vP P s f,bV x with
  |some A,some x=>(vO P A.type).map (.D2 x A.offset)
  |_,_=>none
 | .indexAddr t x i=>match P.underlying t,bV x,bV i with
  |some (.array n e),some x,some i=>(eI P e).map (.Mr x i n)
  |some (.slice e),some x,some i=>(eI P e).map (.PU x i)
  |_,_,_=>none
 | .index t x i=>match P.underlying t,bV x,bV i with
  |some (.array n e),some x,some i=>match eI P e,vO P e with
   |some z,some r=>some (.HL x i n z r)
   |_,_=>none
  |some .string,some x,some i=>some (.Xk x i)
  |_,_,_=>none
 | .extract x i=>(bV x).map (.ext · i)
 | .makeFunc (.func f) a b=>match f7 a,f7 b with
  |some a,some b=>if cw P f then some (.xN (.func f) a b)else none
  |_,_=>none
 | .slice t x lo B none=>match P.underlying t,bV x,cOpt lo,cOpt B with
  |some (.slice e),some x,some lo,some B=>(eI P e).map λz=>.SZ z x lo B
  |some (.array n e),some x,some none,some none=>(eI P e).map λz=>.S0 x n z
  |some (.array n e),some x,some none,some (some B)=>(eI P e).map λz=>.TL x n z B
  |_,_,_,_=>none
 | .call c=>t6 P c
 |_=>none
def Xm(y:Nat):Option Operand:=
 match ops.find? (λo=>o.dst==some y)with
 |some o=>match o.op with
  | .slice t x none (some _) none=>match P.underlying t with
   |some (.array _ _)=>some x
   |_=>none
  |_=>none
 |none=>none
def uM:Op->Option bE
 | .call c=>match c.callee,c.argTypes.toList,c.args.toList with
  | .builtin .append,[t,A],[.const (.slice none 0 0),.tmp y]=>if t=A then match P.underlying t,(Xm P ops y).bind bV with
    |some (.slice e),some x=>match P.info? e with
     |some i=>match i.zero with
      |some z=>if 0<i.size&&z.cells.size==i.size&&0<i.bytes then some (.CJ e i.size i.bytes (.t y) x)else none
      |none=>none
     |none=>none
    |_,_=>none
   else none
  |_,_,_=>none
 |_=>none
def TX:Operand->Bool
 | .tmp y=>match ops.find? (λo=>o.dst==some y)with
  |some o=>match o.op with
   | .fieldAddr .. | .indexAddr ..=>true
   |_=>false
  |none=>false
 |_=>false
def KZ:Op->Option bE
 | .load t x=>if zR P t&& !TX ops x then match vO P t,bV x with
   |some r,some x=>some (.ld x r)
   |_,_=>none
  else none
 |_=>none
def MK(o:Op):Option bE:=
 match uM P ops o with
 |some c=>some c
 |none=>match KZ P ops o with
  |some c=>some c
  |none=>PI P o
def D6(ops:Array Oper):Option (Nat×Bool)->Option (Option (Nat×Bool))
 |none=>some none
 |some (j,w)=>match(ops[j]?).bind (·.dst)with
  |some t=>some (some (t,w))
  |none=>none
def m8(ops:Array Oper) (o:Oper):Option CO:=
 match MK P ops.toList o.op,D6 ops o.guard with
 |some c,some g=>some ⟨o.dst,c,g⟩
 |_,_=>none
def uN(P:Program) (ops:Array Oper):List Oper->Option (List CO)
 |[]=>some []
 |o::r=>match m8 P ops o,uN P ops r with
  |some c,some cs=>some (c::cs)
  |_,_=>none
def waits(B:Oper):Bool:=
 B.after.any λe=>Region.binds .any e&&(e.on==i||match ops[e.on]? with
  |some ok=>ok.after.any λA=>Region.binds .any A&&A.on==i
  |none=>false)
def m9(cJ:List (Nat×Nat)) (ops:List Oper) (i:Nat) (x:CO):Nat->List Oper->List CO->Bool
 |j,A::os,y::B=>(decide (j<=i)||A.after.any (λe=>Region.binds .any e&&e.on==i)||x.apart y||waits ops i A||cJ.contains (i,j))&&m9 cJ ops i x (j+1) os B
 |_,_,_=>true
def l7(cJ:List (Nat×Nat)) (ops:List Oper) (cos:List CO):Nat->List Oper->List CO->Bool
 |i,A::os,x::xs=>A.after.all (λe=>!Region.binds .any e||decide (e.on<i))&&m9 cJ ops i x 0 ops cos&&l7 cJ ops cos (i+1) os xs
 |_,_,_=>true
def jP(cos:List CO):Bool:=l7 cJ ops cos 0 ops cos
def ML(ops:List Oper) (i:Nat) (x:CO):Nat->List Oper->List CO->List (Nat×Nat)
 |j,A::os,y::B=>(if decide (j<=i)||A.after.any (λe=>Region.binds .any e&&e.on==i)||x.apart y||waits ops i A then[]else[(i,j)])++ML ops i x (j+1) os B
 |_,_,_=>[]
def zW(ops:List Oper) (cos:List CO):Nat->List CO->List (Nat×Nat)
 |i,x::xs=>ML ops i x 0 ops cos++zW ops cos (i+1) xs
 |_,[]=>[]
def Ju(cos:List CO):List (Nat×Nat)->Bool
 |[]=>true
 |(i,j)::r=>(match cos[i]?,cos[j]? with|some x,some y=>x.indep y|_,_=>false)&&Ju cos r
def zeroV:Option AV:=((P.info? t).bind (·.zero)).bind ofV
def o5:Bool:=match P.underlying t with|some (.interface _)=>true|_=>false
def MM:Option Fu:=
 match c.callee with
 | .value (.func f)=>if cw P f then(f7 c.args).map (if o4 P c.argTypes.toList then .dD f else .call f)else none
 | .value (.tmp g)=>(f7 c.args).map (.jx (o4 P c.argTypes.toList) (.t g))
 | .builtin .copy=>match c.argTypes.toList,c.args.toList with
  |[t,_],[x,y]=>match P.underlying t,bV x,bV y with
   |some (.slice e),some x,some y=>if eI P e==some 1 then some (.cpy e x y)else none
   |_,_,_=>none
  |_,_=>none
 |_=>none
def Xn(op:BinOp) (t:TypeId) (x y:Operand):Option Fu:=
 match op,y with
 | .eql,.const .nilIface=>if o5 P t then(bV x).map (.isI false)else none
 | .neq,.const .nilIface=>if o5 P t then(bV x).map (.isI true)else none
 | .eql,.const (.pointer none)=>if zR P t then(bV x).map (.isP false)else none
 | .neq,.const (.pointer none)=>if zR P t then(bV x).map (.isP true)else none
 |_,_=>none
def MN:Option Fu:=
 match c.callee with
 | .value (.tmp g)=>if zR P t then(f7 c.args).map (.My (.t g))else none
 |_=>none
def xPt:Op->Option Fu
 | .box t x=>if HV P t then(bV x).map .TN else none
 | .build t ps=>if HV P t then match zeroOf P t,ps.toList with
   |some [_],[(0,x)]=>(bV x).map .TM
   |_,_=>none
  else none
 | .buildSlice t n ps=>match P.underlying t with
  |some (.slice e)=>if zR P e then match zeroOf P e,ps.toList.mapM (λp=>bV p.2)with
    |some [_],some xs=>if 0<n&&n<=16777216&&eI P e==some 1&&ps.toList.map (·.1)==List.range n then some (.TO xs)else none
    |_,_=>none
   else none
  |_=>none
 | .indexAddr t x i=>match P.underlying t with
  |some (.slice e)=>if zR P e&&eI P e==some 1 then match bV x,bV i with
    |some x,some i=>some (.iap x i)
    |_,_=>none
   else none
  |_=>none
 | .store t x v=>if HV P t&&eI P t==some 1 then match bV x,bV v with
   |some x,some v=>some (.stp x v)
   |_,_=>none
  else none
 | .call c=>match c.callee,c.argTypes.toList,c.args.toList with
  | .builtin .len,[t],[x]=>match P.underlying t with
   |some (.slice e)=>if zR P e then(bV x).map .lnp else none
   |_=>none
  |_,_,_=>MN P t c
 |_=>none
def TY:Option Fu:=
 match t6 P c with
 |some (.app e z b (.k .bF) y)=>some (.apn e z b y)
 |_=>none
def PY:Op->Option Fu
 | .panic x=>(bV x).map .pan
 | .makeSlice t l c=>match P.underlying t,bV l,bV c with
  |some (.slice e),some l,some c=>match P.info? e with
   |some i=>if i.size==1&&i.zero.isSome&&decide (0<i.bytes)then some (.mks e i.bytes l c)else none
   |none=>none
  |_,_,_=>none
 | .makeInterface t x=>if o5 P t||(P.underlying t).isNone then none else(bV x).map (.mkI t)
 | .typeAssert x _ t true=>if o5 P t||(P.underlying t).isNone then none else match zeroV P t,bV x with
  |some z,some x=>some (.tas t z x)
  |_,_=>none
 | .binOp op t x y _=>Xn P op t x y
 | .makeFunc (.func f) a b=>if a.isEmpty&& !b.isEmpty&&cw P f then(f7 b).map (.mkc f)else none
 | .call c=>match TY P c with
  |some x=>some x
  |none=>MM P c
 |_=>none
def WY(o:Op):Option Fu:=
 match xPt P t o with
 |some x=>some x
 |none=>PY P o
def rz(ops:Array Oper) (o:Oper):Option XO:=
 match WY P o.type o.op with
 |some x=>match D6 ops o.guard with
  |some g=>some ⟨o.dst,x,g⟩
  |none=>none
 |none=>(m8 P ops o).map λc=>⟨c.dst,.o c.op,c.g⟩
def xU(P:Program) (ops:Array Oper):List Oper->Option (List XO)
 |[]=>some []
 |o::r=>match rz P ops o,xU P ops r with
  |some c,some cs=>some (c::cs)
  |_,_=>none
def FD:List XO->List Nat
 |[]=>[]
 |o::r=>(match o.dst with|some d=>[d]|none=>[])++FD r
def rA(n:Nat):List XO->Bool
 |[]=>true
 |o::r=>(match o.dst with|some d=>decide (d<n)|none=>true)&&rA n r
def Xp:Code->Bool
 | .region ..=>true
 | .skip=>true
 |_=>false
def dstsOf:List CO->List Nat
 |[]=>[]
 |o::r=>(match o.dst with|some d=>[d]|none=>[])++dstsOf r
def aZ.writes:aZ->List Nat
 | .Jn ops=>dstsOf ops
 | .Aq ops _=>dstsOf ops
 | .HT ops _ _ _=>dstsOf ops
 | .seq a b| .join a b| .cond _ a b=>a.writes++b.writes
 | .block _ c| .loop c=>c.writes
 | .zQ _ _ wr _ _=>wr
 | .scope _ c r=>c.writes++r.writes
 | .KT ops=>FD ops
 |_=>[]
def aZ.after(l:Nat):aZ->Option aZ
 | .seq a b| .join a b=>match a.after l with
  |some r=>some (.join r b)
  |none=>b.after l
 | .label A=>if A==l then some .skip else none
 |_=>none
def aZ.labels:aZ->List Nat
 | .seq a b| .join a b=>a.labels++b.labels
 | .label l=>[l]
 |_=>[]
def bE.quiet:bE->Bool
 | .mv _| .fa _ _| .ld _ _| .PV _ _| .SZ _ _ _ _=>true
 |_=>false
def Xq(o:Oper):Bool:=
 match o.op with
 | .call c=>(match c.callee with| .value (.func f)=>cw P f|_=>false)&&c.argTypes.toList.any (HV P)
 |_=>false
def MO(P:Program):Nat->List Oper->Option Nat
 |_,[]=>none
 |i,o::r=>if Xq P o then some i else MO P (i+1) r
def S3(k:Nat):Nat->List Nat->List Oper->List Nat
 |_,A,[]=>A
 |i,A,o::r=>S3 k (i+1) (if decide (k<i)&&o.after.any (λe=>Region.binds .any e&&(e.on==k||A.contains e.on))then A++[i]else A) r
def C3(k:Nat) (A:List Nat):Nat->List Oper->Bool
 |_,[]=>true
 |i,o::r=>(!A.contains i||o.after.any λe=>Region.binds .any e&&(e.on==k||(A.contains e.on&&decide (e.on<i))))&&C3 k A (i+1) r
def Az(k:Nat) (A:List Nat) (d:Nat):Nat->List CO->Bool
 |_,[]=>true
 |i,o::r=>(if i=k then(match o.op with| .dD _ _=>o.g.isNone&&o.dst==some d|_=>false)else A.contains i||(o.op.quiet&&o.g.isNone&&o.dst.isSome&&o.dst !=some d))&&Az k A d (i+1) r
def HW(cos:List CO) (cJ:List (Nat×Nat)):Option aZ:=
 match MO P 0 ops with
 |some k=>match(cos[k]?).bind CO.dst with
  |some d=>let A:=S3 k 0 [] ops
   if jP cJ ops (mW k A 0 cos)&&C3 k A 0 ops&&Az k A d 0 cos&&decide (k<ops.length)then some (.HT cos cJ k A)else none
  |none=>none
 |none=>none
def dw(m:Bool) (P:Program):Code->Option aZ
 | .skip=>some .skip
 | .region _ ops nh=>if m&& !nh then(xU P ops ops.toList).map .KT else match uN P ops ops.toList with
  |some cos=>if nh then
    if m&&(MO P 0 ops.toList).isSome then
     if jP (zW ops.toList cos 0 cos) ops.toList cos then HW P ops.toList cos (zW ops.toList cos 0 cos)else none
    else match zW ops.toList cos 0 cos with
    |[]=>if jP [] ops.toList cos then some (.Jn cos)else none
    |cJ=>if jP cJ ops.toList cos&&Ju cos cJ then some (.Aq cos cJ)else none
   else some (.Jn cos)
  |none=>none
 | .seq a b=>match dw m P a,dw m P b with
  |some x,some y=>some (if Xp a then .seq x y else .join x y)
  |_,_=>none
 | .cond c a b=>match bV c,dw m P a,dw m P b with
  |some c,some a,some b=>some (.cond c a b)
  |_,_,_=>none
 | .block id c=>(dw m P c).map (.block id)
 | .loop c=>(dw m P c).map .loop
 | .exit id=>some (.exit id)
 | .ret=>some .ret
 | .label l=>some (.label l)
 | .goto l=>some (.goto l)
 | .scope c=>match dw m P c with
  |some c=>match c.labels with
   |[l]=>(c.after l).map (.scope l c)
   |_=>none
  |none=>none
 | .rangeFunc g ps as A=>match bV g,dw m P as,dw m P A with
  |some g,some a,some b=>
   let wr:=ps.toList++a.writes++b.writes
   if g.rd.all (λt=>!wr.contains t)then some (.zQ g ps.toList wr a b)else none
  |_,_,_=>none
 |_=>none
abbrev ab0 (P:Program):Code->Option aZ:=dw false P
def gA(n:Nat):List CO->Bool
 |[]=>true
 |o::r=>(match o.dst with|some d=>decide (d<n)|none=>true)&&gA n r
def aZ.fits(n:Nat):aZ->Bool
 | .Jn ops=>gA n ops
 | .Aq ops _=>gA n ops
 | .HT ops _ _ _=>gA n ops
 | .seq a b| .join a b| .cond _ a b=>a.fits n&&b.fits n
 | .block _ c| .loop c=>c.fits n
 | .scope _ c r=>c.fits n&&r.fits n
 | .KT ops=>rA n ops
 | .zQ _ ps wr a b=>ps.all (λt=>decide (t<n))&&a.fits n&&b.fits n&&ps.all (λt=>wr.contains t)&&a.writes.all (λt=>wr.contains t)&&b.writes.all (λt=>wr.contains t)
 |_=>true
inductive jf where
 |tmp (t:Nat)
 |cell (t:Nat) (sz:Option Nat)
 deriving Inhabited
def K0:ResultVar->Option jf
 | .tmp t=>some (.tmp t)
 | .cell a t=>(vO P t).map (.cell a)
structure cj where
 nt:Nat
 res:List jf
 code:aZ
def HX(m:Bool) (P:Program) (f:FuncId):Option cj:=
 match P.funcs[f]? with
 |some fn=>match fn.body,fn.results.toList.mapM (K0 P)with
  |some c,some A=>match dw m P c with
   |some cc=>if cc.fits fn.ntmps&&cw P f then some ⟨fn.ntmps,A,cc⟩else none
   |none=>none
  |_,_=>none
 |none=>none
abbrev bY (P:Program) (f:FuncId):Option cj:=HX false P f
end
open Go.RowKit (Below)
section
variable (P:Program) (f:FuncId) (css:List (List AV)) (args:List (Option AV)) (r:AV) {a:AV} {as:List AV} {v:Value} {vs:List Value} {w w':World} {π:Nat->Nat->Prop} (fr:Option Nat) (τ:Nat->Value)
inductive DV (w:World) (π:Nat->Nat->Prop):AV->Value->Prop
 |bool (b:Bool):DV w π (.bool b) (.bool b)
 |int (k:IntKind) (n:Int):DV w π (.int k n) (.int k n)
 |float (k:FloatKind) (n:Nat):DV w π (.float k n) (.float k n)
 |str (s:ByteArray):DV w π (.str s) (.string s)
 |qM:DV w π .qM (.pointer none)
 |bF:DV w π .bF (.slice none 0 0)
 |ie:DV w π .ie .nilFunc
 |m5:DV w π .m5 .nilIface
 |d8 (n:Nat):CL n=true->DV w π .d8 (.float .f64 n)
 |iface (t:Nat) (a:AV) (v:Value):DV w π a v->DV w π (.iface t a) (.iface t v)
 |agg (as:List AV) (vs:Array Value):as.length=vs.size->(∀a∈as,a.scalar=true)->(∀(i:Nat) (a:AV) (v:Value),as[i]? =some a->vs[i]? =some v->DV w π a v)->DV w π (.agg as) (.agg vs)
 |cU (as:List AV) (vs:Array Value):as.length=vs.size->(∀(i:Nat) (a:AV) (v:Value),as[i]? =some a->vs[i]? =some v->DV w π a v)->DV w π (.cU as) (.tuple vs)
 |fn (f:Fn) (as:List AV) (vs:Array Value) (bs:List AV) (us:Array Value):as.length=vs.size->bs.length=us.size->
   (∀(i:Nat) (a:AV) (v:Value),as[i]? =some a->vs[i]? =some v->DV w π a v)->(∀(i:Nat) (a:AV) (v:Value),bs[i]? =some a->us[i]? =some v->DV w π a v)->DV w π (.fn f as bs) (.func f vs us)
 |sl (xs:List (List AV)) (B off cap z:Nat) (f:Nat->Nat->Value):xs.length<=cap->(∀(i:Nat) (r:List AV),xs[i]? =some r->r.length=z)->
   (∀(i j:Nat) (r:List AV) (a:AV),xs[i]? =some r->r[j]? =some a->a.scalar=true)->
   (∀(i j:Nat) (r:List AV) (a:AV),xs[i]? =some r->r[j]? =some a->π B (off+i*z+j))->
   (∀(i j:Nat) (r:List AV) (a:AV),xs[i]? =some r->r[j]? =some a->w.cell? ⟨B,off+i*z+j,none⟩=some (f i j))->
   (∀(i j:Nat) (r:List AV) (a:AV),xs[i]? =some r->r[j]? =some a->DV w π a (f i j))->DV w π (.sl xs) (.slice (some ⟨B,off,none⟩) xs.length cap)
 |K1 (A:Addr):DV w π (.sl []) (.slice (some A) 0 0)
 |ref (cs:List AV) (B off:Nat) (f:Nat->Value):(∀(j:Nat) (a:AV),cs[j]? =some a->a.scalar=true)->(∀(j:Nat) (a:AV),cs[j]? =some a->π B (off+j))->
   (∀(j:Nat) (a:AV),cs[j]? =some a->w.cell? ⟨B,off+j,none⟩=some (f j))->(∀(j:Nat) (a:AV),cs[j]? =some a->DV w π a (f j))->DV w π (.ref cs) (.pointer (some ⟨B,off,none⟩))
theorem DV.mono{π':Nat->Nat->Prop} (hp:∀b o,π b o->π' b o) (hc:∀b o,π b o->w'.cell? ⟨b,o,none⟩=w.cell? ⟨b,o,none⟩) (h:DV w π a v):DV w' π' a v:=by
 induction h with
 |bool|int|float|str|qM|bF|ie|m5=>constructor
 |iface t a v _ D=>exact .iface t a v D
 |d8 n h=>exact .d8 n h
 |agg as vs V hs _ D=>exact .agg as vs V hs D
 |cU as vs V _ D=>exact .cU as vs V D
 |fn f as vs bs us O M _ _ aa ab=>exact .fn f as vs bs us O M aa ab
 |sl xs B off cap z f O M Z h4 h5 _ D=>
  exact .sl xs B off cap z f O M Z (λi j r a R L=>hp _ _ (h4 i j r a R L)) (λi j r a R L=>(hc _ _ (h4 i j r a R L)).trans (h5 i j r a R L)) D
 |K1 A=>exact .K1 A
 |ref cs B off f O M Z _ D=>exact .ref cs B off f O (λj a L=>hp _ _ (M j a L)) (λj a L=>(hc _ _ (M j a L)).trans (Z j a L)) D
def iy(w:World) (π:Nat->Nat->Prop) (as:List AV) (vs:List Value):Prop:=
 as.length=vs.length/\∀(i:Nat) (a:AV) (v:Value),as[i]? =some a->vs[i]? =some v->DV w π a v
theorem iy.mono{w w':World} {π π':Nat->Nat->Prop} (A:∀b o,π b o->π' b o) (D:∀b o,π b o->w'.cell? ⟨b,o,none⟩=w.cell? ⟨b,o,none⟩) {as:List AV} {vs:List Value} (h:iy w π as vs):iy w' π' as vs:=
 ⟨h.1,λi a v B L=>(h.2 i a v B L).mono A D⟩
theorem iy.nil(w:World) (π:Nat->Nat->Prop):iy w π [] []:=⟨rfl,λi a v h=>by simp at h⟩
theorem iy.cons(h:DV w π a v) (D:iy w π as vs):iy w π (a::as) (v::vs):=by
 refine⟨by simp[D.1],λi x u B A=>?_⟩
 cases i with
 |zero=>simp at B A;subst B;subst A;exact h
 |succ i=>exact D.2 i x u (by simpa using B) (by simpa using A)
theorem iy.append{L:List AV} {us:List Value} (h:iy w π as vs) (k:iy w π L us):iy w π (as++L) (vs++us):=by
 refine⟨by simp[h.1,k.1],λi x u B A=>?_⟩
 by_cases D:i<as.length
 ·exact h.2 i x u (by rwa[km D]at B) (by rwa[km (by rw[<-h.1];exact D)]at A)
 ·rw[ll ST]at B
  rw[ll (by rw[<-h.1];omega)]at A
  exact k.2 (i-as.length) x u B (by rw[h.1];exact A)
theorem iy.get(h:iy w π as vs) {i:Nat} (A:as[i]? =some a):∃v,vs[i]? =some v/\DV w π a v:=by
 have D:i<as.length:=by
  rcases ix i as.length with h|h
  ·exact h
  ·rw[iv h]at A;cases A
 have B:vs[i]? =some vs[i]!:=by
  rw[et (by rw[<-h.1];exact D)]
  simp[getElem!_pos vs i (by rw[<-h.1];exact D)]
 exact⟨_,B,h.2 i a _ A B⟩
theorem DV.Jv(h:DV w π a v) (A:a.scalar=true):v.oneCell'=true:=by
 cases h<;>first|rfl|(simp[AV.scalar]at A)
theorem DV.cells{w:World} {π:Nat->Nat->Prop} {a:AV} {v:Value} (h:DV w π a v) (ht:∀vs,a≠.cU vs):iy w π a.cells v.cells.toList/\∀x∈a.cells,x.scalar=true:=by
 cases h with
 |agg as vs Z hs hd=>exact⟨⟨by simpa[AV.cells,Value.cells]using Z,λi a v ha V=>hd i a v ha (by simpa[Value.cells]using V)⟩,hs⟩
 |cU as vs=>exact absurd rfl (ht as)
 |bool b=>exact⟨.cons (.bool b) (.nil _ _),by simp[AV.cells,AV.scalar]⟩
 |int k n=>exact⟨.cons (.int k n) (.nil _ _),by simp[AV.cells,AV.scalar]⟩
 |float k n=>exact⟨.cons (.float k n) (.nil _ _),by simp[AV.cells,AV.scalar]⟩
 |str s=>exact⟨.cons (.str s) (.nil _ _),by simp[AV.cells,AV.scalar]⟩
 |qM=>exact⟨.cons .qM (.nil _ _),by simp[AV.cells,AV.scalar]⟩
 |bF=>exact⟨.cons .bF (.nil _ _),by simp[AV.cells,AV.scalar]⟩
 |ie=>exact⟨.cons .ie (.nil _ _),by simp[AV.cells,AV.scalar]⟩
 |m5=>exact⟨.cons .m5 (.nil _ _),by simp[AV.cells,AV.scalar]⟩
 |iface t a v h=>exact⟨.cons (.iface t a v h) (.nil _ _),by simp[AV.cells,AV.scalar]⟩
 |d8 n h=>exact⟨.cons (.d8 n h) (.nil _ _),by simp[AV.cells,AV.scalar]⟩
 |fn f as vs bs us M D O L=>exact⟨.cons (.fn f as vs bs us M D O L) (.nil _ _),by simp[AV.cells,AV.scalar]⟩
 |ref cs B off f M D O L=>exact⟨.cons (.ref cs B off f M D O L) (.nil _ _),by simp[AV.cells,AV.scalar]⟩
 |K1 A=>exact⟨.cons (.K1 A) (.nil _ _),by simp[AV.cells,AV.scalar]⟩
 |sl xs B off cap z f M D O L h5 R=>exact⟨.cons (.sl xs B off cap z f M D O L h5 R) (.nil _ _),by simp[AV.cells,AV.scalar]⟩
theorem Jw(h:KU v=some a):DV w π a v/\a.scalar=true:=by
 unfold KU at h
 split at h<;>first|(cases h;exact⟨by constructor,rfl⟩)|cases h
theorem xV{w:World} {π:Nat->Nat->Prop}:∀(l:List Value) (as:List AV),l.mapM KU=some as->iy w π as l/\∀a∈as,a.scalar=true
 |[],as,h=>by simp at h;subst h;exact⟨.nil _ _,TB⟩
 |v::l,as,h=>by
  simp only[vd,p7,kb,xf,gg]at h;obtain⟨a,L,A,has,rfl⟩:=h
  have B:=Jw (w:=w) (π:=π) L
  have D:=xV (w:=w) (π:=π) l A has
  exact⟨.cons B.1 D.1,by simpa using⟨B.2,D.2⟩⟩
theorem MP(h:ofV v=some a):DV w π a v:=by
 unfold ofV at h;split at h
 ·rename_i cs
  simp only[em]at h;obtain⟨as,has,rfl⟩:=h
  have A:=xV (w:=w) (π:=π) _ _ has
  exact .agg as cs (by simpa using A.1.1) A.2 (λi a v D B=>A.1.2 i a v D (by simpa using B))
 ·exact(Jw h).1
structure ju where
 n:Nat
 X:Nat->Prop
 β:Nat->Nat
def ju.ok(F:ju) (B:Nat):Prop:=F.n<=B\/F.X B
def ju.okb(F:ju) (b B:Nat):Prop:=F.n<=B\/(b<4/\F.X B)
def ju.top(w:World):ju:=⟨w.heap.size,λ_=>False,id⟩
structure xO (n:ju) (w w':World):Prop where
 os:w'.os=w.os
 tape:w'.tape=w.tape
 output:w'.output=w.output
 size:w.heap.size<=w'.heap.size
 block:∀k,k<n.n->¬n.X k->w'.heap[k]? =w.heap[k]?
 /-- what is no variables' block lies as it lay -/
 others:∀(k:Nat) (o:Obj),w.heap[k]? =some o->o.isCells=false->w'.heap[k]? =some o
theorem xO.refl(n:ju) (w:World):xO n w w:=⟨rfl,rfl,rfl,im _,λ_ _ _=>rfl,λ_ _ h _=>h⟩
theorem xO.trans{n:ju} {a b c:World} (h:xO n a b) (k:xO n b c):xO n a c:=
 ⟨k.os.trans h.os,k.tape.trans h.tape,k.output.trans h.output,kf h.size k.size,λi A B=>(k.block i A B).trans (h.block i A B),λi o A D=>k.others i o (h.others i o A D) D⟩
theorem xO.of{n:ju} (h:Below w.heap.size w w') (A:n.n<=w.heap.size):xO n w w':=⟨h.os,h.tape,h.output,h.size,λk hk _=>h.block k ST,λk o hk _=>(h.block k (kd.1 hk).1).trans hk⟩
theorem xO.below{n:ju} (h:xO n w w') (hX:∀k,¬n.X k):Below n.n w w':=⟨h.os,h.tape,h.output,h.size,λk hk=>h.block k hk (hX k)⟩
def D7(w:World) (π:Nat->Nat->Prop) (ok:Nat->Prop) (e:Nat) (v:Value):Prop:=
 v=.slice none 0 0\/∃B len cap A i,v=.slice (some ⟨B,0,none⟩) len cap/\ok B/\w.heap[B]? =some (.cells A e (0,0))/\len<=cap/\cap<=maxLen/\P.info? e=some i/\A.size=cap*i.size/\∀o,len*i.size<=o->¬π B o
def iz:Value->Option Nat
 | .slice (some a) _ _=>some a.block
 |_=>none
def C4(args:List AV) (r:AV) (fr:Option Nat):Prop:=
 cw P f=true/\
 ∀(w:World) (π:Nat->Nat->Prop) (vs:List Value),(∀b o,π b o->b<w.heap.size)->iy w π args vs->
  Calls P f vs.toArray w λe w'=>∃v π',e=.returned v/\Below w.heap.size w w'/\(∀b o,π b o->π' b o)/\(∀b o,π' b o->π b o\/w.heap.size<=b)/\
   (∀b o,π' b o->b<w'.heap.size)/\DV w' π' r v/\∀t,fr=some t->D7 P w' π' (λB=>w.heap.size<=B) t v
def ep(w:World) (π:Nat->Nat->Prop):List (Option AV)->List Nat->List Value->Prop
 |[],[],[]=>True
 |some .hole::as,B::Bs,v::vs=>v=.agg #[.pointer (some ⟨B,0,none⟩)]/\ep w π as Bs vs
 |some a::as,Bs,v::vs=>DV w π a v/\ep w π as Bs vs
 |none::as,B::Bs,v::vs=>v=.pointer (some ⟨B,0,none⟩)/\ep w π as Bs vs
 |_,_,_=>False
def RV(β:Nat->Nat) (τ:Nat->Value) (w:World) (π:Nat->Nat->Prop):SV->Value->Prop
 | .dat a q,v=>DV w π a v/\∀t,q=some t->v=τ t
 | .ptr b off,v=>v=.pointer (some ⟨β b,off,none⟩)
 | .rp cs,v=>∃(B off:Nat) (f:Nat->Value),v=.pointer (some ⟨B,off,none⟩)/\(∀(j:Nat) (a:AV),cs[j]? =some a->a.scalar=true)/\(∀(j:Nat) (a:AV),cs[j]? =some a->π B (off+j))/\
   (∀(j:Nat) (a:AV),cs[j]? =some a->w.cell? ⟨B,off+j,none⟩=some (f j))/\∀(j:Nat) (a:AV),cs[j]? =some a->DV w π a (f j)
 | .undef,v=>v=undef
 | .tW f as A,v=>∃us:Array Value,v=.func (.func f) #[] us/\ep w π as (A.map β) us.toList
 | .raw q n,v=>∃B cap,τ q=.slice (some ⟨B,0,none⟩) 0 cap/\v=.slice (some ⟨B,0,none⟩) n cap/\n<=cap
 | .vs b off n _,v=>∃cap,n<=cap/\v=.slice (some ⟨β b,off,none⟩) n cap
 | .pt 0 ps,v=>v=.agg (ps.map λp=>Value.pointer (some ⟨β p.1,p.2,none⟩)).toArray
 | .pt k ps,v=>∃B off cap,(v=if k=1 then .slice (some ⟨B,off,none⟩) ps.length cap else .pointer (some ⟨B,off,none⟩))/\ps.length<=cap/\
   ∀(i:Nat) (p:Nat×Nat),ps[i]? =some p->π B (off+i)/\w.cell? ⟨B,off+i,none⟩=some (.pointer (some ⟨β p.1,p.2,none⟩))
def SV.fJ(U:Nat->Prop):SV->Prop
 | .dat _ (some q)=>U q
 | .ptr b _=>U b
 | .vs b _ _ _=>U b
 | .tW _ _ A=>∀b∈A,U b
 | .raw q _=>U q
 | .pt _ ps=>∀p∈ps,U p.1
 |_=>True
def qO(w:World) (π:Nat->Nat->Prop) (B:Nat) (x:cI):Prop:=
 ∃A D,w.heap[B]? =some (.cells A D (0,0))/\iy w π x.cells (A.toList.take x.cells.length)/\(∀a∈x.cells,a.scalar=true)/\(∀o q,dY o x.tags=some q->A[o]? =some (τ q))/\∀o,¬π B o
theorem iy.take{w:World} {π:Nat->Nat->Prop} {as:List AV} {vs:List Value} (h:iy w π as vs):iy w π as (vs.take as.length):=by
 rw[my (Nat.le_of_eq h.1.symm)];exact h
def cY(w:World) (π:Nat->Nat->Prop):List (List AV)->List Nat->Prop
 |[],[]=>True
 |cs::css,B::Bs=>qO (λ_=>undef) w π B ⟨cs,[]⟩/\cY w π css Bs
 |_,_=>False
def ju.qP(w:World) (Bs:List Nat):ju:=⟨w.heap.size,λB=>B∈Bs,λk=>Bs.getD k 0⟩
def AA(A:List (List AV)):Prop:=
 cw P f=true/\A.length=css.length/\css.length<=4/\
 ∀(w:World) (π:Nat->Nat->Prop) (Bs:List Nat) (vs:List Value),(∀b o,π b o->b<w.heap.size)->Bs.Nodup->cY w π css Bs->ep w π args Bs vs->
  Calls P f vs.toArray w λe w'=>∃v π',e=.returned v/\xO (ju.qP w Bs) w w'/\(∀b o,π b o->π' b o)/\(∀b o,π' b o->π b o\/w.heap.size<=b)/\
   (∀b o,π' b o->b<w'.heap.size)/\cY w' π' A Bs/\DV w' π' r v/\∀t,fr=some t->D7 P w' π' (λB=>w.heap.size<=B) t v
theorem DV.iT{w:World} {π:Nat->Nat->Prop} {a:AV} (h:Eng.iT a=true):DV w π a (PW a):=by
 cases a<;>first|(simp[Eng.iT]at h;done)|constructor
theorem DV.flat(h:iU a=true):DV w π a (vJ a):=by
 cases a with
 |agg cs=>
  simp only[iU,mf]at h
  refine .agg cs _ TB (λa A=>?_) (λi a v A B=>?_)
  ·have:=h a A;cases a<;>first|rfl|(simp[Eng.iT]at this;done)
  ·simp only[If,jp,A,mi,gg]at B
   subst B;exact .iT (h a (ev A))
 |_=>first|exact .iT h|(simp[iU,Eng.iT]at h;done)
def Iter(D:AV) (xs:List (List AV)):Prop:=
 ∃B caps,D=.fn (.func B) [] caps/\cw P B=true/\(∀x∈xs,∀a∈x,iU a=true)/\
 ∀(l:Nat) (J:Nat->World->Prop) (A:World->Prop) (W:World) (π:Nat->Nat->Prop) (vs:List Value),(∀b o,π b o->b<W.heap.size)->iy W π caps vs->
  (∀i W',J i W'->∀b o,π b o->W'.cell? ⟨b,o,none⟩=W.cell? ⟨b,o,none⟩)->
  (∀i W W',J i W->Below W.heap.size W W'->J i W')->(∀W W',A W->Below W.heap.size W W'->A W')->
  (∀n i x W,xs[i]? =some x->J i W->YieldAt Fence.wide n P l (x.map vJ).toArray W λe W'=>(e=.returned (.bool true)/\J (i+1) W')\/(e=.returned (.bool false)/\A W'))->
  J 0 W->
  Calls P B (#[.func (.yield l) #[] #[]]++vs.toArray) W λe W'=>(∃v,e=.returned v)/\(J xs.length W'\/A W')
def S4(p:AV) (A:List (List AV)):Prop:=
 cw P f=true/\A.length=css.length/\css.length<=4/\
 ∀(w:World) (π:Nat->Nat->Prop) (Bs:List Nat) (vs:List Value),(∀b o,π b o->b<w.heap.size)->Bs.Nodup->cY w π css Bs->ep w π args Bs vs->
  Calls P f vs.toArray w λe w'=>∃π',e=.panicked (jd p)/\xO (ju.qP w Bs) w w'/\(∀b o,π b o->π' b o)/\(∀b o,π' b o->π b o\/w.heap.size<=b)/\
   (∀b o,π' b o->b<w'.heap.size)/\cY w' π' A Bs
def Xr(args cs:List AV):Prop:=
 cw P f=true/\
 ∀(w:World) (π:Nat->Nat->Prop) (vs:List Value),(∀b o,π b o->b<w.heap.size)->iy w π args vs->
  Calls P f vs.toArray w λe w'=>∃B π',e=.returned (.pointer (some ⟨B,0,none⟩))/\w.heap.size<=B/\Below w.heap.size w w'/\(∀b o,π b o->π' b o)/\(∀b o,π' b o->π b o\/w.heap.size<=b)/\
   (∀b o,π' b o->b<w'.heap.size)/\qO (λ_=>undef) w' π' B ⟨cs,[]⟩
def TZ:AV->FrameMode
 | .m5=>.returning
 |p=>.panicking (jd p)
def Xu(D:AV) (css:List (List AV)) (args:List (Option AV)) (A:List (List AV)):Prop:=
 cw P f=true/\A.length=css.length/\css.length<=4/\
 ∀(w:World) (π:Nat->Nat->Prop) (Bs:List Nat) (vs:List Value),(∀b o,π b o->b<w.heap.size)->Bs.Nodup->cY w π css Bs->ep w π args Bs vs->
  CallsDIn Fence.wide 0 P f vs.toArray (TZ D) w λe B w'=>∃v π',e=.returned v/\settle B=.returning/\xO (ju.qP w Bs) w w'/\(∀b o,π b o->π' b o)/\(∀b o,π' b o->π b o\/w.heap.size<=b)/\
   (∀b o,π' b o->b<w'.heap.size)/\cY w' π' A Bs
def ju.Xv(w:World) (Bs:List Nat) (tb:Nat->Prop):ju:=⟨w.heap.size,λB=>B∈Bs\/tb B,λk=>Bs.getD k 0⟩
def K2(w:World) (π:Nat->Nat->Prop) (Bs:List Nat) (ok:Nat->Prop) (D:Value):Option (Nat×Nat×Nat)->Prop
 |none=>True
 |some (j,o,e)=>∃B A M,Bs[j]? =some B/\w.heap[B]? =some (.cells A M (0,0))/\A[o]? =some D/\D7 P w π ok e D/\∀L,iz D=some L->L∉Bs
def PJ(D:Option (Nat×Nat×Nat)) (A:Value) (B:Nat):Prop:=D.isSome=true/\iz A=some B
def S5(L:Option (Nat×Nat×Nat)) (args:List (Option AV)) (r:AV) (A:List (List AV)) (M:Option (Nat×Nat×Nat)):Prop:=
 cw P f=true/\A.length=css.length/\css.length<=4/\
 ∀(w:World) (π:Nat->Nat->Prop) (Bs:List Nat) (vs:List Value) (D:Value),(∀b o,π b o->b<w.heap.size)->Bs.Nodup->cY w π css Bs->ep w π args Bs vs->K2 P w π Bs (λ_=>True) D L->
  Calls P f vs.toArray w λe w'=>∃v π' O,e=.returned v/\xO (ju.Xv w Bs (PJ L D)) w w'/\(∀b o,π b o->π' b o)/\(∀b o,π' b o->π b o\/w.heap.size<=b\/PJ L D b)/\
   (∀b o,π' b o->b<w'.heap.size)/\(∀b o,π b o->w'.cell? ⟨b,o,none⟩=w.cell? ⟨b,o,none⟩)/\cY w' π' A Bs/\DV w' π' r v/\K2 P w' π' Bs (λB=>w.heap.size<=B\/PJ L D B) O M
def S6(j o:Nat):Prop:=
 cw P f=true/\css.length<=4/\
 ∀(w:World) (π:Nat->Nat->Prop) (Bs:List Nat) (vs:List Value),(∀b o,π b o->b<w.heap.size)->Bs.Nodup->cY w π css Bs->ep w π args Bs vs->
  Calls P f vs.toArray w λe w'=>∃B π',Bs[j]? =some B/\e=.returned (.pointer (some ⟨B,o,none⟩))/\xO (ju.qP w Bs) w w'/\(∀b o,π b o->π' b o)/\(∀b o,π' b o->π b o\/w.heap.size<=b)/\
   (∀b o,π' b o->b<w'.heap.size)/\cY w' π' css Bs
def Pure:bk:=⟨C4 P,AA P,Iter P,S4 P,Xr P,Xu P,S5 P,S6 P⟩
structure Rel (P:Program) (nt:Nat) (n0:ju) (w0:World) (π0:Nat->Nat->Prop) (U:Nat->Prop) (s:S) (a:Act) (w:World) (β:Nat->Nat) (τ:Nat->Value) (π:Nat->Nat->Prop):Prop where
 size:a.tmps.size=nt
 slots:∀t v,lk t s.slots=some v->(∃x,a.tmps[t]? =some x/\RV β τ w π v x)/\v.fJ U
 boxes:∀b x,b9 b s.boxes=some x->U b/\n0.okb b (β b)/\qO τ w π (β b) x/\∀o q,dY o x.tags=some q->U q
 inj:∀b b' x x',b9 b s.boxes=some x->b9 b' s.boxes=some x'->β b=β b'->b=b'
 live:∀q e,dY q s.live=some e->U q/\D7 P w π n0.ok e (τ q)
 cg:∀q q' e e' B,dY q s.live=some e->dY q' s.live=some e'->iz (τ q)=some B->iz (τ q')=some B->q=q'
 cz:∀q e b x,dY q s.live=some e->b9 b s.boxes=some x->iz (τ q)≠some (β b)
 below:xO n0 w0 w
 fc:n0.n<=w0.heap.size
 ez:∀b o,π b o->b<w.heap.size
 eJ:∀b o,π0 b o->π b o
 cZ:∀b o,π b o->π0 b o\/n0.ok b
 l8:∀k,k<4->β k=n0.β k
 iV:∀k,k<4->U k
 kept:∀b o,π0 b o->w.cell? ⟨b,o,none⟩=w0.cell? ⟨b,o,none⟩
end
end Go.Eng
