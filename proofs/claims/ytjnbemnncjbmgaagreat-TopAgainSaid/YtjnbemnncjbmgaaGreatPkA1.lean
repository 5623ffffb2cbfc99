/- Part 1 of the engine and its library. -/
import Derived.WalkKit
import Derived.RangeFuncNested
import Derived.RangeFuncLeaves
import Derived.OrdersIn
import Derived.LoopNIn
import Derived.ChangeKeysEq
import Derived.Laws.Externs
import Derived.Lib.SliceRun
import Derived.Laws.CopyRow
import Derived.Laws.MakeOwn
import Ieee.Arith
import GoSem.Core.Float
import Derived.RecoverIn
import Derived.ProofKit
import Derived.OpenShut
import Derived.ShutString
import Derived.ChangeOld
import Derived.Below
set_option linter.all false
set_option maxRecDepth 10000
set_option maxHeartbeats 4000000
namespace Go.Eng
open Go
section
variable (op:BinOp) (k:IntKind) (x:Int) {p:Prop} (y:Int)
theorem aaN(h:p:=by omega):p:=h
theorem aaO(h:p:=by decide):p:=h
theorem aaP(h:p:=by simp):p:=h
def dC:=@And.intro
def dE:=@of_decide_eq_false
def dT:=@of_decide_eq_true
def ed:=@Bool.and_eq_true
def eg:=@Option.map_eq_some_iff
def eh:=@List.getElem?_eq_getElem
def em:=@List.getElem?_eq_some_iff
def er:=@cond_false
def et:=@List.mem_of_getElem?
def eQ:=@Bool.false_eq_true
def fb:=@List.length_cons
def fi:=@Nat.le_of_ble_eq_true
def fp:=@Go.Result.andThen_ok
def fx:=@cond_true
def f8:=@Go.Sem.run_bind
def gc:=@Option.some.injEq
def ge:=@if_neg
def gs:=@List.length_nil
def ia:=@List.getD_eq_getElem?_getD
def ib:=@if_pos
def ii:=@decide_eq_true_eq
def ik:=@Nat.le_refl
def il:=@if_false
def im:=@Go.run_underlying
def io:=@Option.bind_eq_some_iff
def ip:=@Nat.mul_le_mul_right
def iv:=@List.getElem?_cons_zero
def ix:=@List.getElem?_cons_succ
def jp:=@List.take_of_length_le
def j9:=@List.mem_range
def ka:=@List.map_cons
def kb:=@List.getElem?_eq_none
def kd:=@Array.getElem?_eq_some_iff
def kf:=@List.take_length
def kh:=@List.drop_zero
def km:=@Go.Sem.run_pure
def kp:=@List.getElem?_append_left
def kr:=@Nat.zero_add
def kt:=@List.getElem?_append_right
def kv:=@if_true
def kw:=@Nat.le_trans
def kx:=@List.getElem?_map
def lc:=@List.mem_cons_of_mem
def lh:=@List.mem_append
def lj:=@Nat.lt_or_ge
def lr:=@Array.toList_inj
def lw:=@List.getElem?_drop
def lL:=@List.range_succ
def ma:=@Nat.pow_add
def md:=@beq_iff_eq
def mf:=@List.drop_succ_cons
def mi:=@List.map_nil
def ml:=@List.nil_append
def mn:=@List.drop_of_length_le
def mp:=@List.mem_cons_self
def mr:=@List.getElem?_range
def mt:=@Option.map_some
def my:=@List.mem_iff_getElem?
def na:=@Nat.mul_assoc
def nb:=@List.mem_cons
def ne:=@List.mem_map
def nf:=@beq_self_eq_true
def nl:=@Nat.pow_le_pow_right
def nm:=@Bool.not_false
def np:=@List.all_eq_true
def nz:=@Bool.not_true
def pb:=@Option.bind_eq_bind
def pc:=@Bool.false_and
def pd:=@Bool.and_false
def pm:=@Nat.eq_of_beq_eq_true
def po:=@decide_eq_false_iff_not
def pu:=@Int.toNat_natCast
def px:=@Bool.or_eq_true
def py:=@bne_self_eq_false
def pA:=@Bool.true_and
def pB:=@Bool.and_true
def pC:=@List.mem_of_mem_drop
def rc:=@List.eq_nil_of_length_eq_zero
def re:=@Nat.lt_of_lt_of_le
def rf:=@List.mem_singleton
def rh:=@congrArg
def rt:=@List.mapM_cons
def r0:=@List.getElem?_take_of_lt
def sa:=@List.cons_append
def sd:=@Nat.mul_one
def se:=@Nat.mul_comm
def sh:=@Nat.add_zero
def sm:=@Bool.not_eq_true'
def sT:=@Go.World.putObj_heap_other
def s8:=@List.length_append
def te:=@List.drop_drop
def tl:=@Option.pure_def
def tp:=@List.append_nil
def ts:=@Nat.shiftLeft_eq
def tt:=@List.take_succ_cons
def tz:=@List.contains_nil
def t0:=@List.take_zero
def ui:=@List.foldl_cons
def ul:=@List.mem_of_mem_take
def ut:=@List.getElem?_append
def vd:=@Array.getD_eq_getD_getElem?
def wa:=@Go.wpIn_mono
def wb:=@beq_eq_false_iff_ne
def wc:=@Int.toNat_of_nonneg
def wd:=@List.nodup_cons
def wi:=@Option.getD_some
def wn:=@Nat.sub_add_cancel
def ws:=@List.getElem?_take
def ww:=@List.drop_append
def w5:=@Bool.false_or
def xa:=@Option.some.inj
def xc:=@List.filter_nil
def xf:=@Go.Oper.upon_enter
def xi:=@Go.callsIn_of_wp_marks
def xn:=@List.getElem_mem
def xo:=@true_and
def xr:=@Go.cell_of_row
def xv:=@List.getElem?_toArray
def yi:=@List.set_eq_take_append_cons_drop
def yk:=@List.take_left'
def yn:=@List.map_append
def yr:=@List.flatMap_cons
def yv:=@Int.le_refl
def zd:=@Bool.or_eq_false_iff
def zr:=@Bool.and_self
def Ax:=@Array.getElem?_setIfInBounds_ne
def AC:=@Nat.mul_le_mul_left
def B0:=@Nat.mod_eq_of_lt
def Do:=@Nat.div_eq_of_lt
def EQ:=@Go.mem_ready
def Fd:=@List.take_append_of_le_length
def FS:=@Nat.eq_zero_or_pos
def GE:=@Array.getElem?_eq_none
def GT:=@List.mem_filter
def Ha:=@Go.callsIn_wide
def Hb:=@Nat.add_assoc
def Hc:=@List.sum_cons
def Hd:=@List.length_filter_le
def Hk:=@Nat.mul_lt_mul_of_pos_right
def Hm:=@Bool.eq_false_iff
def Hn:=@Nat.blt_eq
def H0:=@Option.bind_some
def H1:=@List.length_take
def H2:=@List.filter_cons
def H3:=@List.mem_of_find?_eq_some
def H4:=@List.map_congr_left
def H5:=@Nat.div_add_mod
def Id:=@Bool.eq_iff_iff
def If:=@List.find?_eq_none
def In:=@List.filter_append
def Ix:=@Int.tmod_lt_of_pos
def IH:=@Nat.le_mul_of_pos_right
def IN:=@not_true_eq_false
def IO:=@Nat.sub_zero
def IR:=@Nat.pow_zero
def Kd:=@Array.size_eq_zero_iff
def Kp:=@Array.isEmpty_iff
def LE:=@Go.heap_alloc_new
def LT:=@Array.getElem?_append
def M2:=@List.take_append
def NE:=@List.mem_flatten
def Os:=@List.mem_flatMap
def OF:=@List.take_range
def Pi:=@List.length_map
def Pl:=@List.mem_map_of_mem
def Ps:=@List.flatMap_append
def PH:=@Array.length_toList
def PP:=@Bool.true_or
def PQ:=@Bool.or_self
def QP:=@Option.ne_none_iff_exists'
def QQ:=@Nat.mul_div_cancel
def QR:=@Nat.mod_lt
def ST:=@Nat.le_of_mul_le_mul_right
def Ts:=@List.nodup_nil
def UV:=@Int.fdiv_eq_ediv_of_nonneg
def WF:=@BitVec.toNat_ofInt
def WP:=@Array.any_eq_true'
def aaa:=@List.drop_eq_getElem_cons
def aac:=@Go.run_sliceBound
def aaf:=@List.flatten_cons
def aai:=@Int.lt_trichotomy
def aak:=@Option.isSome_iff_exists
def aal:=@Go.cell_setRow_other
def aan:=@Nat.log2_self_le
def aao:=@BitVec.eq_of_getLsbD_eq
def aaH:=@Nat.testBit_lt_two_pow
def aaI:=@Nat.le_div_iff_mul_le
def aaJ:=@Array.getElem?_toList
def aaM:=@Go.World.putObj_heap_same
inductive AV where
 |bool (b:Bool)
 |int (k:IntKind) (n:Int)
 |float (k:FloatKind) (n:Nat)
 |str (s:ByteArray)
 |rG
 |aU
 |sl (xs:List (List AV))
 |fn (f:Fn) (first caps:List AV)
 |ja
 |iface (t:Nat) (v:AV)
 |gh
 |agg (cs:List AV)
 |de (vs:List AV)
 |ref (cs:List AV)
 /-- a float (of 64 bits) that is no number,whichever -/
 |fc
 /-- an argument: a struct of one pointer,at the head of the next box -/
 |hole
 deriving Inhabited
inductive SV where
 |dat (a:AV) (q:Option Nat)
 |ptr (b off:Nat)
 |rp (cs:List AV)
 |undef
 /-- a slice Ei a box of its own or another's: n elements of z cells each,from off on -/
 |vs (b off n z:Nat)
 /-- a function with values and pointers at the heads of boxes -/
 |mL (f:Nat) (as:List (Option AV)) (bs:List Nat)
 /-- a slice of n elements that nobody has read: the token's row from its head on -/
 |raw (q n:Nat)
 /-- pointers NO boxes: 0: a struct of them; 1: a slice; 2: a pointer at the first of a row that is never written -/
 |pt (k:Nat) (ps:List (Nat×Nat))
 deriving Inhabited
structure bH where
 cells:List AV
 tags:List (Nat×Nat)
 deriving Inhabited
structure S where
 slots:List (Nat×SV)
 boxes:List (Nat×bH)
 live:List (Nat×Nat)
 nx:Nat
 deriving Inhabited
inductive aM where
 |t (n:Nat)
 |k (v:AV)
 deriving Inhabited
inductive CK where
 |b|i|f|s
 deriving DecidableEq,Inhabited
inductive Xt where
 |JM|ffrom|rte
 deriving DecidableEq,Inhabited
inductive bG where
 |mv (x:aM)
 |pick (c a b:aM)
 |alloc (cs:List AV)
 |box (x:aM)
 |build (zs:List AV) (parts:List (Nat×Nat×aM))
 |RG (e z:Nat) (xs:List aM)
 |ld (x:aM) (sz:Option Nat)
 |st (x v:aM) (sz:Nat)
 |fa (x:aM) (off:Nat)
 |MB (x i:aM) (n z:Nat)
 |V3 (x i:aM) (z:Nat)
 |GB (x:aM) (off:Nat) (sz:Option Nat)
 |GC (x i:aM) (n z:Nat) (sz:Option Nat)
 |bin (op:BinOp) (x y:aM)
 |eqc (ks:List CK) (neg:Bool) (x y:aM)
 |bb (neg:Bool) (x y:aM)
 |un (op:UnOp) (x:aM)
 |qi (k:IntKind) (x:aM)
 |Gi (k:FloatKind) (x:aM)
 |JN (k:IntKind) (x:aM)
 |Dl (x:aM)
 |JO (x:aM)
 |JP (n:Nat)
 |app (e z bytes:Nat) (s x:aM)
 |call (f:Nat) (args:List aM)
 |dR (f:Nat) (args:List aM)
 |fu (g:aM) (args:List aM)
 |ext (x:aM) (i:Nat)
 |uh (fn:Fn) (first caps:List aM)
 |V4 (z:Nat) (x:aM) (lo hi:Option aM)
 |nc (x:aM)
 |mm (max:Bool) (args:List aM)
 |xt (e:Xt) (x:aM)
 |Wj (x:aM) (n z:Nat)
 |ixB (x i:aM)
 |ZS (neg:Bool) (x:aM)
 |gi (g:aM) (args:List aM)
 |BA (f:Nat) (args:List aM)
 |rH (g:aM) (args:List aM)
 |ZT (x:aM) (n z:Nat) (hi:aM)
 |Dm (e z bytes:Nat) (y x:aM)
 /-- what a row of pointers holds: one,or a struct -/
 |V5 (x:aM) (sz:Option Nat)
 /-- a call that raises; what is raised is what it yields -/
 |uk (f:Nat) (args:List aM)
 deriving Inhabited
structure CO where
 dst:Option Nat
 op:bG
 g:Option (Nat×Bool)
 deriving Inhabited
inductive Gd where
 |o (c:bG)
 |call (f:Nat) (args:List aM)
 |dR (f:Nat) (args:List aM)
 |fu (p:Bool) (g:aM) (args:List aM)
 |mkc (f:Nat) (caps:List aM)
 |PO (x:aM)
 |mkI (t:Nat) (x:aM)
 /-- is it of that type? the value,or nothing of that type -/
 |tas (t:Nat) (z:AV) (x:aM)
 |isI (neg:Bool) (x:aM)
 |isP (neg:Bool) (x:aM)
 /-- a slice of cells that is made; what is copied NO all of it -/
 |mks (e bytes:Nat) (l c:aM)
 |cpy (e:Nat) (x y:aM)
 /-- pointers in a struct,in a row of its own,in a slice -/
 |Wk (x:aM)
 |Wl (x:aM)
 |stp (x v:aM)
 |Wm (xs:List aM)
 |iap (x i:aM)
 |lnp (x:aM)
 /-- a call that yields a pointer NO a box that it is given -/
 |N0 (g:aM) (args:List aM)
 /-- what is appended to nothing: a slice of its own,which may be written -/
 |apn (e z bytes:Nat) (y:aM)
 deriving Inhabited
structure XO where
 dst:Option Nat
 op:Gd
 g:Option (Nat×Bool)
 deriving Inhabited
inductive aO where
 |skip
 |GD (ops:List CO)
 |seq (a b:aO)
 |join (a b:aO)
 |cond (c:aM) (a b:aO)
 |block (id:Nat) (c:aO)
 |loop (c:aO)
 |exit (id:Nat)
 |ret
 |um (g:aM) (ps wr:List Nat) (as bd:aO)
 |uo (ops:List CO) (cJ:List (Nat×Nat))
 |scope (l:Nat) (c r:aO)
 |label (l:Nat)
 |goto (l:Nat)
 |oF (ops:List XO)
 /-- as uo; operation k may raise,BY of dep come behind it -/
 |CA (ops:List CO) (cJ:List (Nat×Nat)) (k:Nat) (dep:List Nat)
 deriving Inhabited
def AV.cells:AV->List AV
 | .agg cs=>cs
 |v=>[v]
def AV.scalar:AV->Bool
 | .agg _| .de _=>false
 |_=>true
def PR:Value->Option AV
 | .bool b=>some (.bool b)
 | .int k n=>some (.int k n)
 | .float k n=>some (.float k n)
 | .string s=>some (.str s)
 | .pointer none=>some .rG
 | .slice none 0 0=>some .aU
 | .nilFunc=>some .ja
 | .nilIface=>some .gh
 |_=>none
def ofV:Value->Option AV
 | .agg cs=>(cs.toList.mapM PR).map .agg
 |v=>PR v
def BB:Option Int:=
 let a:=BitVec.ofInt k.bits x
 let b:=BitVec.ofInt k.bits y
 match op with
 | .and=>some (k.wrap (a&&&b).toNat)
 | .or=>some (k.wrap (a|||b).toNat)
 | .xor=>some (k.wrap (a^^^b).toNat)
 | .andNot=>some (k.wrap (a&&& ~~~b).toNat)
 |_=>none
def oG:Option AV:=
 match op with
 | .add=>some (.int k (k.wrap (x+y)))
 | .sub=>some (.int k (k.wrap (x-y)))
 | .mul=>some (.int k (k.wrap (x*y)))
 | .quo=>if y=0 then none else some (.int k (k.wrap (x.tdiv y)))
 | .rem=>if y=0 then none else some (.int k (x.tmod y))
 | .and| .or| .xor| .andNot=>(BB op k x y).map (.int k)
 | .eql=>some (.bool (x==y))
 | .neq=>some (.bool (x !=y))
 | .lss=>some (.bool (decide (x<y)))
 | .leq=>some (.bool (decide (x<=y)))
 | .gtr=>some (.bool (decide (x>y)))
 | .geq=>some (.bool (decide (x>=y)))
 |_=>none
def Gj(n:Nat):Bool:=match FloatKind.f64.decode n with
 | .nan ..=>true
 |_=>false
def Mx:FloatKind->Option Nat->Option AV
 |k,some r=>some (.float k r)
 | .f64,none=>some .fc
 | .f32,none=>none
def xG:BinOp->Option AV
 | .add| .sub| .mul| .quo=>some .fc
 | .neq=>some (.bool true)
 | .eql| .lss| .leq| .gtr| .geq=>some (.bool false)
 |_=>none
def Dn(k:FloatKind) (x y:Nat):Option AV:=
 let c:=k.format.order x y
 match op with
 | .add=>Mx k (k.format.add x y)
 | .sub=>Mx k (k.format.sub x y)
 | .mul=>Mx k (k.format.mul x y)
 | .quo=>Mx k (k.format.div x y)
 | .eql=>some (.bool (c==some .eq))
 | .neq=>some (.bool (c !=some .eq))
 | .lss=>some (.bool (c==some .lt))
 | .leq=>some (.bool (c==some .lt||c==some .eq))
 | .gtr=>some (.bool (c==some .gt))
 | .geq=>some (.bool (c==some .gt||c==some .eq))
 |_=>none
def ur:Option AV:=
 if y<0 then none else
 match op with
 | .shl=>some (.int k (k.wrap (x*2^min y.toNat k.bits)))
 | .shr=>some (.int k (x.fdiv (2^min y.toNat k.bits)))
 |_=>none
def d7(a b:AV):Option AV:=
 match op,a,b with
 | .shl,.int k x,.int _ y=>ur .shl k x y
 | .shr,.int k x,.int _ y=>ur .shr k x y
 |op,.int k x,.int D y=>if k=D then oG op k x y else none
 |op,.float k x,.float D y=>if k=D then Dn op k x y else none
 |op,.fc,.float .f64 _=>xG op
 |op,.float .f64 _,.fc=>xG op
 |op,.fc,.fc=>xG op
 |_,_,_=>none
end
section
variable (P:Program) (t:TypeId) (wr:List Nat) (F:S->Prop) (bx:List (Nat×bH)) (id:Nat) (x:CO) (a:AV) (b:Nat) (cs:List AV) (cJ lv m:List (Nat×Nat)) (ops:List Oper) (s:S) {α:Type} (Q:Exit->S->Prop) (c:Call) (f:FuncId) (i:Nat) (ids:List Nat) (neg:Bool) (off q:Nat) (xs:List (List AV)) (y:CO)
def bbA:AV->AV->Option AV
 | .bool x,.bool y=>some (.bool (if neg then x !=y else x==y))
 |_,_=>none
def rI:CK->AV->AV->Option Bool
 | .b,.bool x,.bool y=>some (x==y)
 | .i,.int k x,.int D y=>if k=D then some (x==y)else none
 | .f,.float k x,.float D y=>if k=D then some (k.format.order x y==some .eq)else none
 | .s,.str x,.str y=>some (x==y)
 |_,_,_=>none
def cq:List CK->List AV->List AV->Option Bool
 |[],[],[]=>some true
 |k::D,a::as,b::L=>match rI k a b,cq D as L with
  |some x,some y=>some (x&&y)
  |_,_=>none
 |_,_,_=>none
def ZU(op:UnOp) (a:AV):Option AV:=
 match op,a with
 | .neg,.int k n=>some (.int k (k.wrap (0-n)))
 | .xor,.int k n=>(BB .xor k (if k.signed then -1 else k.max) n).map (.int k)
 | .neg,.float k b=>some (.float k (Op.negFloat k b))
 | .not,.bool b=>some (.bool !b)
 |_,_=>none
def Dp(k:IntKind):AV->Option AV
 | .int _ n=>some (.int k (k.wrap n))
 |_=>none
def Dq(k:FloatKind):AV->Option AV
 | .int _ n=>some (.float k (k.nearest n))
 |_=>none
def yI(k:IntKind):AV->Option AV
 | .float s b=>match(s.decode b).toInt .zero with
  |some n=>if k.min<=n/\n<=k.max then some (.int k n)else none
  |none=>none
 |_=>none
def HY:Option AV:=
 match FloatKind.f64.decode b with
 | .nan _ t=>if FloatKind.f64.format.quiet t=t then some (.float .f64 b)else none
 |d=>some (.float .f64 (FloatKind.f64.encode (d.integral .even)))
def xtA:Xt->AV->Option AV
 | .JM,.float .f64 b=>some (.int .u64 b)
 | .ffrom,.int .u64 n=>some (.float .f64 n.toNat)
 | .rte,.float .f64 b=>HY b
 |_,_=>none
def cU(z:Nat):Nat->List AV->List (List AV)
 |0,_=>[]
 |n+1,cs=>cs.take z::cU z n (cs.drop z)
def JQ(s:ByteArray) (i:Int):Option AV:=
 if 0<=i/\i<s.size then some (.int .u8 (s[i.toNat]!).toNat)else none
def xH:AV->Option AV
 | .aU=>some (.int .i64 0)
 | .sl xs=>some (.int .i64 xs.length)
 |_=>none
def HZ:Bool->AV->Option Bool
 |neg,.aU=>some (!neg)
 |neg,.sl _=>some neg
 |_,_=>none
def Wn(mx:Bool):AV->AV->Option AV
 | .int k x,.int _ y=>some (.int k (if mx then(if y>x then y else x)else(if y<x then y else x)))
 | .float k x,.float D y=>if k=D then match k.format.order x y with
   |none=>if k=.f64 then some .fc else none
   |some .lt=>some (.float k (if mx then y else x))
   |some .gt=>some (.float k (if mx then x else y))
   |some .eq=>some (.float k (if mx then(if(k.decode x).neg then y else x)else(if(k.decode x).neg then x else y)))
  else none
 | .fc,.float .f64 _=>some .fc
 | .float .f64 _,.fc=>some .fc
 | .fc,.fc=>some .fc
 |_,_=>none
def PS:AV->Nat->Option AV
 | .de vs,i=>vs[i]?
 |_,_=>none
def aB:Option Nat->Option AV
 |none=>cs[off]?
 |some n=>if off+n<=cs.length then some (.agg ((cs.drop off).take n))else none
def nN:List AV->List (Nat×List AV)->List AV
 |cs,[]=>cs
 |cs,(off,ps)::rest=>nN (cs.take off++ps++cs.drop (off+ps.length)) rest
def Wo:AV->Value
 | .bool b=>.bool b
 | .int k n=>.int k n
 | .float k n=>.float k n
 | .str s=>.string s
 | .rG=>.pointer none
 | .aU=>.slice none 0 0
 |_=>undef
def jP:AV->Bool
 | .bool _| .int .. | .float .. | .str _| .rG| .aU=>true
 |_=>false
def yJ:AV->Value
 | .agg cs=>.agg (cs.map Wo).toArray
 |a=>Wo a
def jQ:AV->Bool
 | .agg cs=>cs.all jP
 |a=>jP a
def JR(t:Nat) (z:AV):AV->Option AV
 | .gh=>some (.de [z,.bool false])
 | .iface D a=>some (if D=t then .de [a,.bool true]else .de [z,.bool false])
 |_=>none
def MC:AV->Option Bool
 | .gh=>some !neg
 | .iface _ _=>some neg
 |_=>none
def Dr:SV->Option Bool
 | .ptr _ _| .rp _| .dat (.ref _) _=>some neg
 | .dat .rG _=>some !neg
 |_=>none
def iI:AV->Bool
 | .iface _ a=>jQ a
 |_=>false
def aaQ:AV->Value
 | .iface t a=>.iface t (yJ a)
 |_=>undef
def gL(p:AV):List PanicEntry:=[{v:=aaQ p,recovered:=false}]
def lk:Nat->List (Nat×SV)->Option SV
 |_,[]=>none
 |n,(m,v)::r=>bif n==m then some v else lk n r
def bO:Nat->List (Nat×bH)->Option bH
 |_,[]=>none
 |n,(m,v)::r=>bif n==m then some v else bO n r
def dJ:Nat->List (Nat×Nat)->Option Nat
 |_,[]=>none
 |n,(m,v)::r=>bif n==m then some v else dJ n r
def nO:Nat->bH->List (Nat×bH)->List (Nat×bH)
 |_,_,[]=>[]
 |n,b,(m,v)::r=>bif n==m then(m,b)::r else(m,v)::nO n b r
def jj:Nat->List (Nat×Nat)->List (Nat×Nat)
 |_,[]=>[]
 |n,(m,v)::r=>bif n==m then jj n r else(m,v)::jj n r
def S.put(d:Option Nat) (v:SV):S:=
 match d with
 |none=>s
 |some d=>{s with slots:=(d,v)::s.slots}
def bJ:aM->Option SV
 | .t n=>lk n s.slots
 | .k v=>some (.dat v none)
def aG(x:aM):Option AV:=
 match bJ s x with
 |some (.dat a _)=>some a
 |some (.rp cs)=>some (.ref cs)
 |_=>none
def dO(s:S):List aM->Option (List AV)
 |[]=>some []
 |x::r=>match aG s x,dO s r with
  |some a,some as=>some (a::as)
  |_,_=>none
def aj(o:Option α) (k:α->Prop):Prop:=
 match o with
 |some a=>k a
 |none=>False
@[simp] theorem ax(a:α) (k:α->Prop):aj (some a) k=k a:=rfl
@[simp] theorem aaR(k:α->Prop):aj none k=False:=rfl
def gS:AV->Option Nat->Bool
 | .de _,_=>false
 | .agg _,some _=>false
 |_,_=>true
def gV(s:S):List (Nat×Nat×aM)->Option (List (Nat×List AV))
 |[]=>some []
 |(off,D,x)::r=>match aG s x,gV s r with
  |some a,some ps=>if a.cells.length=D/\gS a none=true then some ((off,a.cells)::ps)else none
  |_,_=>none
def j7(s:S) (z:Nat):List aM->Option (List (List AV))
 |[]=>some []
 |x::r=>match aG s x,j7 s z r with
  |some a,some rows=>if a.cells.length=z/\gS a none=true then some (a.cells::rows)else none
  |_,_=>none
def idxOf:AV->Option Int
 | .int _ i=>some i
 |_=>none
def setCells(ps:List AV):List AV:=cs.take off++ps++cs.drop (off+ps.length)
def xI:Option AV->Option Int
 |some a=>idxOf a
 |none=>none
def yK:Option aM->Option Int
 |none=>some 0
 |some x=>xI (aG s x)
def xJ:Option aM->Option Int
 |none=>some xs.length
 |some x=>xI (aG s x)
def H6(l h:Int):AV:=
 match a with
 | .aU=>.aU
 |_=>.sl ((xs.take h.toNat).drop l.toNat)
structure aQ where
 c:Nat->List AV->AV->Option Nat->Prop
 p:Nat->List (List AV)->List (Option AV)->AV->Option Nat->List (List AV)->Prop
 /-- what a function that is ranged Ei yields,one after the other -/
 i:AV->List (List AV)->Prop
 /-- a function that raises this -/
 q:Nat->List (List AV)->List (Option AV)->AV->List (List AV)->Prop
 /-- a function that yields a pointer to a new box -/
 n:Nat->List AV->List AV->Prop
 /-- a function that is deferred,with what it recovers: nothing,or what was raised -/
 d:Nat->AV->List (List AV)->List (Option AV)->List (List AV)->Prop
 /-- a function that takes a token with one of its boxes,or leaves one there: which box,which cell,what kind -/
 t:Nat->List (List AV)->Option (Nat×Nat×Nat)->List (Option AV)->AV->List (List AV)->Option (Nat×Nat×Nat)->Prop
 /-- a function that yields a pointer NO one of its boxes: which,where -/
 r:Nat->List (List AV)->List (Option AV)->Nat->Nat->Prop
def dP(h:Bool) (s:S):List aM->Option (List (Option AV)×List Nat)
 |[]=>some ([],[])
 |x::r=>match bJ s x,dP h s r with
  |some (.dat a _),some (as,D)=>some (some a::as,D)
  |some (.rp cs),some (as,D)=>some (some (.ref cs)::as,D)
  |some (.ptr b 0),some (as,D)=>some (none::as,b::D)
  |some (.pt 0 [(b,0)]),some (as,D)=>bif h then some (some .hole::as,b::D)else none
  |_,_=>none
def nP:List (Option AV)->Bool
 |[]=>true
 |some .hole::_=>false
 |some _::r=>nP r
 |none::r=>nP r
theorem JS{a:AV} {r:List (Option AV)} (h:nP (some a::r)=true):a≠.hole/\nP r=true:=by
 cases a<;>first|exact⟨aaP,h⟩|(cases h)
def BC(s:S):List aM->Option (List (Nat×Nat))
 |[]=>some []
 |x::r=>match bJ s x,BC s r with
  |some (.ptr b o),some ps=>some ((b,o)::ps)
  |_,_=>none
def aS(l:List (Nat×bH)):List Nat->Option (List (List AV))
 |[]=>some []
 |b::D=>match bO b l,aS l D with
  |some x,some css=>some (x.cells::css)
  |_,_=>none
def eI(l:List (Nat×bH)):List Nat->Option (List (List AV))
 |[]=>some []
 |b::D=>match bO b l,eI l D with
  |some ⟨cs,[]⟩,some css=>some (cs::css)
  |_,_=>none
def dm:List Nat->List (List AV)->List (Nat×bH)->List (Nat×bH)
 |b::D,cs::css,l=>dm D css (nO b ⟨cs,[]⟩ l)
 |_,_,l=>l
def CB(b o q:Nat):List (Nat×bH)->List (Nat×bH)
 |[]=>[]
 |(k,x)::r=>bif b==k then(k,⟨x.cells,[(o,q)]⟩)::r else(k,x)::CB b o q r
def MD:Option (Nat×Nat×Nat)->Option (Option Nat)
 |none=>some none
 |some (j,o,e)=>(ids[j]?).bind λb=>(bO b bx).bind λx=>(dJ o x.tags).bind λq=>if dJ q lv=some e then some (some q)else none
def sV:Option (Nat×Nat×Nat)->List (Nat×bH)->List (Nat×bH)
 |none,l=>l
 |some (j,o,_),l=>match ids[j]? with
  |some b=>CB b o id l
  |none=>l
def AR:Option (Nat×Nat×Nat)->List (Nat×Nat)->List (Nat×Nat)
 |none,l=>l
 |some (_,_,e),l=>(id,e)::l
def JT:Option Nat->List (Nat×Nat)->List (Nat×Nat)
 |none,l=>l
 |some q,l=>jj q l
def N1(C:aQ) (f:Nat) (css:List (List AV)) (as:List (Option AV)) (ids:List Nat) (id:Nat) (bx:List (Nat×bH)) (lv:List (Nat×Nat)) (k:SV->List (Nat×bH)->List (Nat×Nat)->Prop):Prop:=
 ∃M r D L,C.t f css M as r D L/\aj (MD bx lv ids M) λqo=>k (.dat r none) (sV id ids L (dm ids D bx)) (AR id L (JT qo lv))
def j6:SV->SV
 | .ptr D o=>bif D==b then .rp (cs.drop o)else .ptr D o
 | .vs D o n z=>bif D==b&&decide (n*z<=(cs.drop o).length)then .dat (.sl (cU z n (cs.drop o))) none else .vs D o n z
 |v=>v
def CC(b:Nat) (cs:List AV):List (Nat×SV)->List (Nat×SV)
 |[]=>[]
 |(t,v)::r=>(t,j6 b cs v)::CC b cs r
def lu:Nat->List (Nat×bH)->List (Nat×bH)
 |_,[]=>[]
 |n,(m,v)::r=>bif n==m then lu n r else(m,v)::lu n r
def gM:List Nat->List (List AV)->S->S
 |b::D,cs::css,s=>gM D css {s with slots:=CC b cs s.slots,boxes:=lu b s.boxes}
 |_,_,s=>s
theorem rJ:∀{ids:List Nat} {css:List (List AV)} {s:S},(gM ids css s).nx=s.nx
 |[],css,s=>rfl
 |b::D,[],s=>rfl
 |b::D,cs::css,s=>by rw[gM,rJ]
def jR:List (Option AV)->List (List AV)->List AV
 |some a::as,css=>a::jR as css
 |none::as,cs::css=>.ref cs::jR as css
 |_,_=>[]
def iu:List Nat->Bool
 |[]=>true
 |b::D=>decide (4<=b)&&iu D
def dn:List Nat->Bool
 |[]=>true
 |b::D=>!D.contains b&&dn D
def rowsOf:AV->Option (List (List AV))
 | .aU=>some []
 | .sl xs=>some xs
 |_=>none
def bn(C:aQ) (id:Nat) (o:bG) (K:SV->S->Prop) (s:S):Prop:=
 match o with
 | .mv x=>aj (bJ s x) λv=>K v s
 | .pick c a b=>aj (aG s c) fun
   | .bool t=>aj (bJ s a) λu=>aj (bJ s b) λv=>(t=true->K u s)/\(t=false->K v s)
   |_=>False
 | .alloc cs=>K (.ptr id 0) {s with boxes:=(id,⟨cs,[]⟩)::s.boxes}
 | .box x=>aj (aG s x) λa=>gS a none=true/\K (.ptr id 0) {s with boxes:=(id,⟨a.cells,[]⟩)::s.boxes}
 | .build zs parts=>aj (gV s parts) λps=>K (.dat (.agg (nN zs ps)) none) s
 | .RG e z xs=>aj (j7 s z xs) λrows=>K (.dat (.sl rows) (some id)) {s with live:=(id,e)::s.live}
 | .ld x L=>aj (bJ s x) fun
   | .ptr b off=>aj (bO b s.boxes) λbx=>aj (aB bx.cells off L) λa=>
     K (.dat a (match L with|none=>dJ off bx.tags|some _=>none)) s
   | .rp cs=>aj (aB cs 0 L) λa=>K (.dat a none) s
   |_=>False
 | .st x v L=>aj (bJ s x) fun
   | .ptr b off=>aj (bO b s.boxes) λbx=>aj (bJ s v) fun
     | .dat a q=>gS a q=true/\a.cells.length=L/\off+L<=bx.cells.length/\
       K .undef {s with boxes:=nO b ⟨setCells bx.cells off a.cells,match q with|some q=>(off,q)::bx.tags.filter (λp=>p.1<off||off+L<=p.1)|none=>bx.tags.filter (λp=>p.1<off||off+L<=p.1)⟩ s.boxes}
     |_=>False
   |_=>False
 | .fa x off=>aj (bJ s x) fun
   | .ptr b o=>K (.ptr b (o+off)) s
   | .rp cs=>K (.rp (cs.drop off)) s
   | .pt 2 ps=>K (.pt 2 (ps.drop off)) s
   |_=>False
 | .MB x i n z=>aj (bJ s x) λp=>aj (aG s i) λa=>aj (idxOf a) λi=>(0<=i/\i<n)/\
   match p with
   | .ptr b o=>K (.ptr b (o+i.toNat*z)) s
   | .rp cs=>K (.rp (cs.drop (i.toNat*z))) s
   |_=>False
 | .V3 x i z=>aj (bJ s x) fun
   | .dat l _=>aj (aG s i) λa=>aj (idxOf a) λi=>aj (rowsOf l) λxs=>(0<=i/\i<xs.length)/\aj (xs[i.toNat]?) λrow=>row.length=z/\K (.rp row) s
   | .vs b off n R=>aj (aG s i) λa=>aj (idxOf a) λi=>(0<=i/\i<n)/\R=z/\K (.ptr b (off+i.toNat*z)) s
   |_=>False
 | .GB x off L=>aj (aG s x) fun
   | .agg cs=>aj (aB cs off L) λa=>K (.dat a none) s
   |_=>False
 | .GC x i n z L=>aj (aG s x) fun
   | .agg cs=>aj (aG s i) λa=>aj (idxOf a) λi=>(0<=i/\i<n)/\aj (aB cs (i.toNat*z) L) λa=>K (.dat a none) s
   |_=>False
 | .bin op x y=>aj (aG s x) λa=>aj (aG s y) λb=>aj (d7 op a b) λv=>K (.dat v none) s
 | .eqc ks neg x y=>aj (aG s x) fun
   | .agg as=>aj (aG s y) fun
    | .agg O=>aj (cq ks as O) λe=>K (.dat (.bool (e !=neg)) none) s
    |_=>False
   |_=>False
 | .bb neg x y=>aj (aG s x) λa=>aj (aG s y) λb=>aj (bbA neg a b) λv=>K (.dat v none) s
 | .un op x=>aj (aG s x) λa=>aj (ZU op a) λv=>K (.dat v none) s
 | .qi k x=>aj (aG s x) λa=>aj (Dp k a) λv=>K (.dat v none) s
 | .Gi k x=>aj (aG s x) λa=>aj (Dq k a) λv=>K (.dat v none) s
 | .JN k x=>aj (aG s x) λa=>aj (yI k a) λv=>K (.dat v none) s
 | .Dl x=>aj (bJ s x) λv=>K v s
 | .JO x=>aj (bJ s x) fun
   | .dat a _=>aj (xH a) λv=>K (.dat v none) s
   | .vs _ _ n _=>K (.dat (.int .i64 n) none) s
   |_=>False
 | .JP n=>K (.dat (.int .i64 n) none) s
 | .app e z bytes x y=>aj (bJ s x) fun
   | .dat a q=>aj (rowsOf a) λxs=>aj (aG s y) λb=>aj (rowsOf b) λM=>
     (xs.length+M.length)*bytes<=140737488355328/\(∀r∈xs,r.length=z)/\(∀r∈M,r.length=z)/\
     (match a,q with
      | .aU,_=>if M=[]then K (.dat .aU none) s else K (.dat (.sl (xs++M)) (some id)) {s with live:=(id,e)::s.live}
      | .sl _,some q=>dJ q s.live=some e/\K (.dat (.sl (xs++M)) (some id)) {s with live:=(id,e)::jj q s.live}
      |_,_=>False)
   |_=>False
 | .call f args=>aj (dO s args) λas=>∃r fr,C.c f as r fr/\K (.dat r (fr.map λ_=>id)) {s with live:=match fr with|some e=>(id,e)::s.live|none=>s.live}
 | .dR f args=>aj (dP true s args) λp=>dn p.2=true/\aj (aS s.boxes p.2) λcss=>
   ∃r fr D,C.p f css p.1 r fr D/\K (.dat r (fr.map λ_=>id)) {s with boxes:=dm p.2 D s.boxes,live:=match fr with|some e=>(id,e)::s.live|none=>s.live}
 | .fu g args=>aj (aG s g) fun
   | .fn (.func f) first caps=>aj (dO s args) λas=>∃r fr,C.c f (first++as++caps) r fr/\K (.dat r (fr.map λ_=>id)) {s with live:=match fr with|some e=>(id,e)::s.live|none=>s.live}
   |_=>False
 | .ext x i=>aj (aG s x) λa=>aj (PS a i) λv=>K (.dat v none) s
 | .uh fn first caps=>aj (dO s first) λas=>aj (dP false s caps) λp=>(dn p.2&&iu p.2)=true/\aj (aS s.boxes p.2) λcss=>
   K (.dat (.fn fn as (jR p.1 css)) none) (gM p.2 css s)
 | .V4 z x lo V=>aj (aG s x) λa=>aj (rowsOf a) λxs=>
   aj (yK s lo) λl=>aj (xJ s xs V) λh=>
   (0<=l/\l<=h/\h<=xs.length)/\(∀r∈xs,r.length=z)/\K (.dat (H6 a xs l h) none) s
 | .nc x=>aj (bJ s x) fun
   | .ptr b o=>K (.ptr b o) s
   | .rp cs=>K (.rp cs) s
   | .dat (.fn (.func f) as O) q=>K (.dat (.fn (.func f) as O) q) s
   | .dat (.ref cs) _=>K (.rp cs) s
   |_=>False
 | .mm mx args=>aj (dO s args) fun
   |[]=>False
   |a::r=>aj (r.foldlM (Wn mx) a) λv=>K (.dat v none) s
 | .xt e x=>aj (aG s x) λa=>aj (xtA e a) λv=>K (.dat v none) s
 | .Wj x n z=>aj (bJ s x) fun
   | .rp cs=>n*z<=cs.length/\K (.dat (.sl (cU z n cs)) none) s
   | .ptr b off=>4<=b/\aj (bO b s.boxes) λbx=>n*z<=(bx.cells.drop off).length/\K (.dat (.sl (cU z n (bx.cells.drop off))) none) (gM [b] [bx.cells] s)
   |_=>False
 | .ZS neg x=>aj (aG s x) λa=>aj (HZ neg a) λb=>K (.dat (.bool b) none) s
 | .gi g args=>aj (aG s g) fun
   | .fn (.func f) [] []=>aj (dP true s args) λp=>dn p.2=true/\aj (aS s.boxes p.2) λcss=>
     ∃r fr D,C.p f css p.1 r fr D/\K (.dat r (fr.map λ_=>id)) {s with boxes:=dm p.2 D s.boxes,live:=match fr with|some e=>(id,e)::s.live|none=>s.live}
   |_=>False
 | .BA f args=>aj (dP true s args) λp=>dn p.2=true/\aj (eI s.boxes p.2) λcss=>
   ∃r,C.p f css p.1 r none css/\K (.dat r none) s
 | .rH g args=>aj (aG s g) fun
   | .fn (.func f) [] []=>aj (dP true s args) λp=>dn p.2=true/\aj (eI s.boxes p.2) λcss=>
     ∃r,C.p f css p.1 r none css/\K (.dat r none) s
   |_=>False
 | .ZT x n z V=>aj (bJ s x) fun
   | .ptr b off=>aj (aG s V) λa=>aj (idxOf a) λh=>(0<=h/\h<=n)/\K (.vs b off h.toNat z) s
   |_=>False
 | .Dm e z bytes y x=>aj (bJ s y) fun
   | .vs b off n R=>aj (bJ s x) fun
     | .ptr Z _=>(Z=b/\R=z)/\aj (bO b s.boxes) λbx=>(n*z<=(bx.cells.drop off).length/\n*bytes<=140737488355328)/\
       (if n=0 then K (.dat .aU none) s else K (.dat (.sl (cU z n (bx.cells.drop off))) (some id)) {s with live:=(id,e)::s.live})
     |_=>False
   |_=>False
 | .ixB x i=>aj (aG s x) fun
   | .str b=>aj (aG s i) λa=>aj (idxOf a) λj=>aj (JQ b j) λv=>K (.dat v none) s
   |_=>False
 | .V5 x L=>aj (bJ s x) fun
   | .pt 2 ps=>match L,ps with
    |none,(b,o)::_=>K (.ptr b o) s
    |some n,ps=>n<=ps.length/\K (.pt 0 (ps.take n)) s
    |_,_=>False
   |_=>False
 | .uk f args=>aj (dP true s args) λp=>dn p.2=true/\aj (aS s.boxes p.2) λcss=>
   ∃v D,C.q f css p.1 v D/\K (.dat v none) {s with boxes:=dm p.2 D s.boxes}
def Dt(n:Nat) (a:AV) (id:Nat):SV->SV
 | .raw L D=>bif L==q&&D==n then .dat a (some id)else .raw L D
 |v=>v
def Du(q n:Nat) (a:AV) (id:Nat):List (Nat×SV)->List (Nat×SV)
 |[]=>[]
 |(t,v)::r=>(t,Dt q n a id v)::Du q n a id r
def RH(ps:List (Nat×Nat)):SV->SV
 | .ptr D o=>bif D==b then .pt 2 (ps.drop o)else .ptr D o
 |v=>v
def Dv(b:Nat) (ps:List (Nat×Nat)):List (Nat×SV)->List (Nat×SV)
 |[]=>[]
 |(t,v)::r=>(t,RH b ps v)::Dv b ps r
def GF(z:Nat) (rows:List (List AV)):Bool:=rows.all λr=>r.length==z&&r.all jP
def cI(C:aQ) (id:Nat) (o:Gd) (K:SV->S->Prop) (X:AV->S->Prop) (s:S):Prop:=
 match o with
 | .o c=>bn C id c K s
 | .call f args=>bn C id (.call f args) K s\/(aj (dO s args) λas=>(∃cs,C.n f as cs/\K (.ptr id 0) {s with boxes:=(id,⟨cs,[]⟩)::s.boxes})\/(∃p,C.q f [] (as.map some) p []/\X p s)\/
   ∃rows e z,C.c f as (.sl rows) (some e)/\GF z rows=true/\K (.vs id 0 rows.length z) {s with boxes:=(id,⟨rows.flatten,[]⟩)::s.boxes})
 | .dR f args=>bn C id (.dR f args) K s\/aj (dP true s args) λp=>dn p.2=true/\aj (aS s.boxes p.2) λcss=>
   (∃v D,C.q f css p.1 v D/\X v {s with boxes:=dm p.2 D s.boxes})\/N1 C f css p.1 p.2 id s.boxes s.live λv bx lv=>K v {s with boxes:=bx,live:=lv}
 | .fu b g args=>match bJ s g with
   |some (.mL f as L)=>aj (dP true s args) λp=>dn (p.2++L)=true/\aj (aS s.boxes (p.2++L)) λcss=>
     (∃r fr D,C.p f css (p.1++as) r fr D/\K (.dat r (fr.map λ_=>id)) {s with boxes:=dm (p.2++L) D s.boxes,live:=match fr with|some e=>(id,e)::s.live|none=>s.live})\/
     (∃v D,C.q f css (p.1++as) v D/\X v {s with boxes:=dm (p.2++L) D s.boxes})\/N1 C f css (p.1++as) (p.2++L) id s.boxes s.live λv bx lv=>K v {s with boxes:=bx,live:=lv}
   |_=>bn C id (if b then .gi g args else .fu g args) K s
 | .mkc f caps=>aj (dP false s caps) λp=>K (.mL f p.1 p.2) s
 | .PO x=>aj (aG s x) λa=>iI a=true/\X a s
 | .mkI t x=>aj (aG s x) λa=>gS a none=true/\K (.dat (.iface t a) none) s
 | .tas t z x=>aj (aG s x) λa=>aj (JR t z a) λv=>K (.dat v none) s
 | .isI neg x=>aj (aG s x) λa=>aj (MC neg a) λb=>K (.dat (.bool b) none) s
 | .isP neg x=>aj (bJ s x) λv=>aj (Dr neg v) λb=>K (.dat (.bool b) none) s
 | .mks e bytes l c=>aj (aG s l) λa=>aj (idxOf a) λl=>aj (aG s c) λb=>aj (idxOf b) λc=>(0<=l/\l<=c/\c*bytes<=140737488355328)/\K (.raw id l.toNat) {s with live:=(id,e)::s.live}
 | .cpy e x y=>aj (bJ s x) fun
   | .raw q n=>aj (aG s y) λb=>aj (rowsOf b) λM=>(M.length=n/\∀r∈M,r.length=1)/\dJ q s.live=some e/\
     K (.dat (.int .i64 n) none) {s with slots:=Du q n (.sl M) id s.slots,live:=(id,e)::jj q s.live}
   |_=>False
 | .Wk x=>aj (bJ s x) fun
   | .ptr b o=>K (.pt 0 [(b,o)]) s
   |_=>False
 | .Wl x=>aj (bJ s x) fun
   | .pt 0 ps=>K (.pt 2 ps) s
   |_=>False
 | .stp x v=>aj (bJ s x) fun
   | .ptr b 0=>aj (bJ s v) fun
     | .pt 0 ps=>aj (bO b s.boxes) λy=>(4<=b/\y.cells.length=1/\ps.length=1)/\K .undef {s with slots:=Dv b ps s.slots,boxes:=lu b s.boxes}
     |_=>False
   |_=>False
 | .Wm xs=>aj (BC s xs) λps=>K (.pt 1 ps) s
 | .iap x i=>aj (bJ s x) fun
   | .pt 1 ps=>aj (aG s i) λa=>aj (idxOf a) λi=>(0<=i/\i<ps.length)/\K (.pt 2 (ps.drop i.toNat)) s
   |_=>False
 | .lnp x=>aj (bJ s x) fun
   | .pt 1 ps=>K (.dat (.int .i64 ps.length) none) s
   |_=>False
 | .N0 g args=>aj (aG s g) fun
   | .fn (.func f) [] []=>aj (dP true s args) λp=>dn p.2=true/\aj (aS s.boxes p.2) λcss=>∃j o b,C.r f css p.1 j o/\p.2[j]? =some b/\K (.ptr b o) {s with boxes:=dm p.2 css s.boxes}
   |_=>False
 | .apn e z bytes y=>aj (aG s y) λa=>aj (rowsOf a) λrows=>(rows≠[]/\rows.length*bytes<=140737488355328)/\GF z rows=true/\K (.vs id 0 rows.length z) {s with boxes:=(id,⟨rows.flatten,[]⟩)::s.boxes}
def fj(g:Option (Nat×Bool)) (yes no:Prop):Prop:=
 match g with
 |none=>yes
 |some (t,want)=>match lk t s.slots with
  |some (.dat (.bool b) _)=>(b=want->yes)/\(b=!want->no)
  |some .undef=>no
  |_=>False
def je(C:aQ) (base:Nat):Nat->List CO->(S->Prop)->S->Prop
 |_,[],K,s=>K s
 |i,o::r,K,s=>fj s o.g
   (bn C (base+i) o.op (λv D=>je C base (i+1) r K (D.put o.dst v)) s)
   (je C base (i+1) r K (s.put o.dst .undef))
def iJ(C:aQ) (base:Nat):Nat->List XO->(S->Prop)->(AV->S->Prop)->S->Prop
 |_,[],K,_,s=>K s
 |i,o::r,K,X,s=>fj s o.g
   (cI C (base+i) o.op (λv D=>iJ C base (i+1) r K X (D.put o.dst v)) X s)
   (iJ C base (i+1) r K X (s.put o.dst .undef))
def jk(k:S->Prop) (Q:Exit->S->Prop):Exit->S->Prop
 | .normal,s=>k s
 |e,s=>Q e s
def jf:Exit->S->Prop
 | .exit D,s=>if D=id then Q .normal s else Q (.exit D) s
 |e,s=>Q e s
def Gk:Nat:=(dJ q m).getD q
def yL(nx:Nat):SV->SV->Prop
 | .dat a _,.dat a' none=>a=a'
 | .dat a (some q),.dat a' (some V)=>a=a'/\q=Gk m V/\V<nx
 | .ptr b o,.ptr D o'=>b=D/\o=o'/\D<nx
 | .rp cs,.rp O=>cs=O
 | .vs b o n z,.vs D o' Z z'=>(b=D/\o=o')/\(n=Z/\z=z')/\D<nx
 | .undef,.undef=>True
 | .mL f as bs,.mL f' R L=>f=f'/\as=R/\bs=L/\∀b∈L,b<nx
 | .pt k ps,.pt k' M=>k=k'/\ps=M/\∀p∈M,p.1<nx
 |_,_=>False
def gI(m:List (Nat×Nat)) (nx:Nat) (a:List (Nat×SV)):List (Nat×SV)->Prop
 |[]=>True
 |(t,v)::r=>aj (lk t a) (λu=>yL m nx u v)/\gI m nx a r
def j8(m:List (Nat×Nat)) (nx:Nat) (a:List (Nat×Nat)):List (Nat×Nat)->Prop
 |[]=>True
 |(o,q)::r=>(dJ o a=some (Gk m q)/\q<nx)/\j8 m nx a r
def iB(m:List (Nat×Nat)) (nx:Nat) (a:List (Nat×bH)):List (Nat×bH)->Prop
 |[]=>True
 |(b,x)::r=>aj (bO b a) (λy=>y.cells=x.cells/\j8 m nx y.tags x.tags/\b<nx)/\iB m nx a r
def pM(m:List (Nat×Nat)) (nx:Nat) (a:List (Nat×Nat)):List (Nat×Nat)->Prop
 |[]=>True
 |(q,e)::r=>(dJ (Gk m q) a=some e/\q<nx)/\pM m nx a r
def cw(l:List (Nat×Nat)):Prop:=((l.map λp=>Gk m p.1).Nodup)
def Le(s1:S):Prop:=
 4<=s1.nx/\∃m,gI m s1.nx s.slots s1.slots/\iB m s1.nx s.boxes s1.boxes/\pM m s1.nx s.live s1.live/\cw m s1.live
def Frz:Prop:=∃ids,(dn ids&&iu ids)=true/\aj (aS s.boxes ids) λcss=>F (gM ids css s)
def down:Prop:=∃s1,Le s s1/\(F s1\/Frz F s1)\/F s
theorem gy{F:S->Prop} {s:S} (h:F s):down F s:=⟨s,.inr h⟩
theorem nu{F:S->Prop} {s s1:S} (h:Le s s1) (hF:F s1):down F s:=⟨s1,.inl ⟨h,.inl hF⟩⟩
theorem RJ{F:S->Prop} {s s1:S} (h:Le s s1) (hF:Frz F s1):down F s:=⟨s1,.inl ⟨h,.inr hF⟩⟩
def rK(F:(Exit->S->Prop)->S->Prop) (Q:Exit->S->Prop):Nat->S->Prop
 |0,_=>False
 |n+1,s=>F (jk (down (rK F Q n)) Q) s
def aM.rd:aM->List Nat
 | .t n=>[n]
 | .k _=>[]
def N2:Option aM->List Nat
 |some x=>x.rd
 |none=>[]
def aW:List aM->List Nat
 |[]=>[]
 |x::r=>x.rd++aW r
def yM:List (Nat×Nat×aM)->List Nat
 |[]=>[]
 |(_,_,x)::r=>x.rd++yM r
def bG.rd:bG->List Nat
 | .mv x=>x.rd
 | .pick c a b=>c.rd++a.rd++b.rd
 | .alloc _=>[]
 | .box x=>x.rd
 | .build _ ps=>yM ps
 | .RG _ _ xs=>aW xs
 | .ld x _=>x.rd
 | .st x v _=>x.rd++v.rd
 | .fa x _=>x.rd
 | .MB x i _ _=>x.rd++i.rd
 | .V3 x i _=>x.rd++i.rd
 | .GB x _ _=>x.rd
 | .GC x i _ _ _=>x.rd++i.rd
 | .bin _ x y=>x.rd++y.rd
 | .eqc _ _ x y=>x.rd++y.rd
 | .bb _ x y=>x.rd++y.rd
 | .un _ x=>x.rd
 | .qi _ x=>x.rd
 | .Gi _ x=>x.rd
 | .JN _ x=>x.rd
 | .Dl x=>x.rd
 | .JO x=>x.rd
 | .JP _=>[]
 | .app _ _ _ x y=>x.rd++y.rd
 | .call _ args=>aW args
 | .dR _ args=>aW args
 | .fu g args=>g.rd++aW args
 | .ext x _=>x.rd
 | .uh _ a b=>aW a++aW b
 | .V4 _ x lo D=>x.rd++N2 lo++N2 D
 | .nc x=>x.rd
 | .mm _ args=>aW args
 | .xt _ x=>x.rd
 | .Wj x _ _=>x.rd
 | .ixB x i=>x.rd++i.rd
 | .ZS _ x=>x.rd
 | .gi g args=>g.rd++aW args
 | .BA _ args=>aW args
 | .rH g args=>g.rd++aW args
 | .ZT x _ _ D=>x.rd++D.rd
 | .Dm _ _ _ y x=>y.rd++x.rd
 | .V5 x _=>x.rd
 | .uk _ args=>aW args
def bG.isApp:bG->Bool
 | .app ..=>true
 |_=>false
def bG.wU:bG->List Nat
 | .ld x _=>x.rd
 | .st x _ _=>x.rd
 | .dR _ args=>aW args
 | .gi _ args=>aW args
 | .BA _ args=>aW args
 | .rH _ args=>aW args
 | .uk _ args=>aW args
 | .uh _ _ b=>aW b
 | .Wj x _ _=>x.rd
 | .Dm _ _ _ _ x=>x.rd
 |_=>[]
def bG.N3:bG->List Nat
 | .st x _ _=>x.rd
 | .dR _ args=>aW args
 | .uk _ args=>aW args
 | .gi _ args=>aW args
 | .uh _ _ b=>aW b
 | .Wj x _ _=>x.rd
 |_=>[]
def bG.BD:bG->Bool
 | .uh _ _ b=>!b.isEmpty
 | .Wj ..=>true
 |_=>false
def bG.uu:bG->List Nat
 | .mv x| .fa x _| .MB x _ _ _| .V3 x _ _| .nc x| .Dl x| .V5 x _| .ZT x _ _ _=>x.rd
 | .pick _ a b=>a.rd++b.rd
 |_=>[]
def bG.RM:bG->Bool
 | .alloc _| .box _=>true
 |_=>false
def bG.ro:bG->bG
 | .dR f args=>.BA f args
 | .gi g args=>.rH g args
 |o=>o
def CO.ro(o:CO):CO:=⟨o.dst,o.op.ro,o.g⟩
def kO(ro:List Nat):Nat->List CO->List CO
 |_,[]=>[]
 |i,o::r=>(bif ro.contains i then o.ro else o)::kO ro (i+1) r
theorem rL:∀{i:Nat} {l:List CO},kO [] i l=l
 |_,[]=>rfl
 |i,o::l=>by show o::kO [] (i+1) l=_;rw[rL]
def AS(k:Nat) (D:List Nat) (i:Nat) (o:CO):CO:=
 if i=k then(match o.op with| .dR f args=>⟨o.dst,.uk f args,o.g⟩|_=>o)else if D.contains i=true then⟨none,.mv (.k .rG),none⟩else o
def oH(k:Nat) (D:List Nat):Nat->List CO->List CO
 |_,[]=>[]
 |i,o::r=>AS k D i o::oH k D (i+1) r
def CO.rd(o:CO):List Nat:=o.op.rd++(match o.g with|some (t,_)=>[t]|none=>[])
abbrev Tag:=Option (Option Nat)
def Tag.AT:Tag->Nat->Bool
 |none,_=>true
 |some z,b=>z==some b
def Tag.dis:Tag->Tag->Bool
 |some none,_=>true
 |_,some none=>true
 |some (some a),some (some b)=>a !=b
 |_,_=>false
def look:List (Nat×Tag)->Nat->Tag
 |[],_=>none
 |(t,z)::r,n=>bif n==t then z else look r n
def CO.indep:Bool:=
 (match x.dst with|some d=>!y.rd.contains d&&y.dst !=some d|none=>true)&&
 (match y.dst with|some d=>!x.rd.contains d|none=>true)&& !(x.op.isApp&&y.op.isApp)
def CO.half(T:List (Nat×Tag)) (x y:CO):Bool:=
 x.op.N3.all λt=>y.op.wU.all (λu=>(look T t).dis (look T u))&&(!x.op.BD||y.rd.all λu=>(look T t).dis (look T u))
def CO.uv(T:List (Nat×Tag)) (x y:CO):Bool:=x.indep y&&x.half T y&&y.half T x
def CO.apart:Bool:=x.uv [] y
def ZV(T:List (Nat×Tag)):List Nat->Tag
 |[]=>some none
 |[t]=>look T t
 |t::r=>if look T t==ZV T r then look T t else none
def RO(T:List (Nat×Tag)) (base:Nat):Nat->List CO->List (Nat×Tag)
 |_,[]=>T
 |i,o::r=>RO (match o.dst with|some t=>(t,if o.op.RM then some (some (base+i))else ZV T o.op.uu)::T|none=>T) base (i+1) r
def xK:List (Nat×SV)->List (Nat×Tag)
 |[]=>[]
 |(t,.ptr b _)::r=>(t,some (some b))::xK r
 |(t,.vs b _ _ _)::r=>(t,some (some b))::xK r
 |(t,.pt _ [(b,_)])::r=>(t,some (some b))::xK r
 |(t,.pt _ _)::r=>(t,none)::xK r
 |(t,_)::r=>(t,some none)::xK r
def lQ(T:List (Nat×Tag)):List (Nat×SV)->Bool
 |[]=>true
 |(t,.ptr b _)::r=>(look T t).AT b&&lQ T r
 |(t,.vs b _ _ _)::r=>(look T t).AT b&&lQ T r
 |(t,.pt _ ps)::r=>(ps.all λp=>(look T t).AT p.1)&&lQ T r
 |(_,_)::r=>lQ T r
def rM(T:List (Nat×Tag)) (id:Nat) (o:CO):Bool:=
 match o.dst with
 |none=>true
 |some t=>match look T t with
  |none=>true
  |some z=>if o.op.RM then z==some id else o.op.uu.all λu=>match look T u with|some D=>D==none||D==z|none=>false
def lR(T:List (Nat×Tag)) (base:Nat):Nat->List CO->Bool
 |_,[]=>true
 |i,o::r=>rM T (base+i) o&&lR T base (i+1) r
def yN(T:List (Nat×Tag)) (ops:List CO):List (Nat×Nat)->Bool
 |[]=>true
 |(i,j)::r=>(match ops[i]?,ops[j]? with|some x,some y=>x.uv T y|_,_=>false)&&yN T ops r
def Wp(T:List (Nat×Tag)) (ops:List CO) (cJ:List (Nat×Nat)) (base:Nat) (sl:List (Nat×SV)):Bool:=lQ T sl&&lR T base 0 ops&&yN T ops cJ
def oM(ops:List CO) (cJ:List (Nat×Nat)) (base:Nat) (sl:List (Nat×SV)):Bool:=Wp (RO (xK sl) base 0 ops) ops cJ base sl
def sW:List Nat->List AV->S->S
 |p::ps,x::xs,s=>sW ps xs (s.put (some p) (.dat x none))
 |_,_,s=>s
def oI(wr:List Nat):List (Nat×SV)->List (Nat×SV)
 |[]=>[]
 |(t,v)::r=>bif wr.contains t then oI wr r else(t,v)::oI wr r
def wT:S:={s with slots:=oI wr s.slots}
def RQ:Exit->S->Prop
 | .normal,s=>down F (wT wr s)
 | .ret,s=>Q .ret (wT wr s)
 | .exit id,s=>Q (.exit id) (wT wr s)
 |_,_=>False
def Dw(K:S->Prop):Exit->S->Prop
 | .normal,s=>K s
 |_,_=>False
def rN(l:Nat) (K:S->Prop) (Q:Exit->S->Prop):Exit->S->Prop
 | .goto D,s=>D=l/\K s
 |e,s=>Q e s
def H7:Exit->S->Prop
 | .goto _,_=>False
 |e,s=>Q e s
def PT(C:aQ) (ops:List CO) (cJ:List (Nat×Nat)) (K:S->Prop) (s:S):Prop:=
 ∃ro,oM (kO ro 0 ops) cJ s.nx s.slots=true/\je C s.nx 0 (kO ro 0 ops) K s
def aaS(C:aQ) (ops:List CO) (cJ:List (Nat×Nat)) (k:Nat) (D:List Nat) (ds:List Nat) (X:AV->S->Prop) (s:S):Prop:=
 oM (oH k D 0 ops) cJ s.nx s.slots=true/\je C s.nx 0 (oH k D 0 ops) (λL=>∃d p,(ops[k]?).bind CO.dst=some d/\lk d L.slots=some (.dat p none)/\X p (wT ds L)) s
def aw(C:aQ):aO->(Exit->S->Prop)->S->Prop
 | .skip,Q,s=>Q .normal s
 | .GD ops,Q,s=>je C s.nx 0 ops (λs'=>Q .normal {s' with nx:=s.nx+ops.length}) s
 | .seq a b,Q,s=>aw C a (jk (aw C b Q) Q) s
 | .join a b,Q,s=>aw C a (jk (down (aw C b Q)) Q) s
 | .cond c a b,Q,s=>aj (aG s c) fun
   | .bool t=>(t=true->aw C a Q s)/\(t=false->aw C b Q s)
   |_=>False
 | .block id c,Q,s=>aw C c (jf id Q) s
 | .loop c,Q,s=>down (λs=>∃n,rK (aw C c) Q n s) s
 | .exit id,Q,s=>Q (.exit id) s
 | .ret,Q,s=>Q .ret s
 | .scope l c r,Q,s=>aw C c (rN l (aw C r (H7 Q)) Q) s
 | .label _,Q,s=>Q .normal s
 | .goto l,Q,s=>Q (.goto l) s
 | .oF ops,Q,s=>iJ C s.nx 0 ops (λs'=>Q .normal {s' with nx:=s.nx+ops.length}) (λp s'=>Q (.panic (gL p)) {s' with nx:=s.nx+ops.length}) s
 | .uo ops cJ,Q,s=>∃ids,(dn ids&&iu ids)=true/\aj (aS s.boxes ids) λcss=>PT C ops cJ (λs'=>Q .normal {s' with nx:=s.nx+ops.length}) (gM ids css s)
 | .CA ops cJ k D,Q,s=>(∃ids,(dn ids&&iu ids)=true/\aj (aS s.boxes ids) λcss=>PT C ops cJ (λs'=>Q .normal {s' with nx:=s.nx+ops.length}) (gM ids css s))\/
   aaS C ops cJ k D (ops.flatMap λo=>o.dst.toList) (λp s'=>Q (.panic (gL p)) {s' with nx:=s.nx+ops.length}) s
 | .um g ps wr as M,Q,s=>aj (aG s g) λL=>∃xs,C.i L xs/\(∀x∈xs,x.length=ps.length)/\∃F:Nat->S->Prop,down (F 0) s/\(∀i s',F i s'->aG s' g=some L)/\
   (∀i x s',xs[i]? =some x->F i s'->aw C as (Dw (aw C M (RQ wr (F (i+1)) Q))) (sW ps x s'))/\∀s',F xs.length s'->Q .normal s'
def f7:Option Nat:=(P.info? t).map (·.size)
def oJ:Bool:=
 match P.underlying t with
 |some (.struct _)|some (.array _ _)=>true
 |_=>false
def yO:Option (Option Nat):=
 match P.underlying t with
 |some (.struct _)|some (.array _ _)=>(f7 P t).map some
 |some _=>some none
 |none=>none
def zeroOf:Option (List AV):=
 match(P.info? t).bind (·.zero)with
 |some z=>z.cells.toList.mapM PR
 |none=>none
def cn:Operand->Option aM
 | .tmp t=>some (.t t)
 | .const v=>(ofV v).map .k
 | .func f=>some (.k (.fn (.func f) [] []))
 | .global _=>none
def gu(l:Array Operand):Option (List aM):=l.toList.mapM cn
def yP(s:TypeId) (f:Nat):Option Field:=
 match P.underlying s with
 |some (.struct D)=>D[f]?
 |_=>none
def JU(P:Program) (rec:TypeId->Option (List CK)):List Field->Nat->Option (List CK)
 |[],_=>some []
 |f::fs,off=>
  if f.name = "_" ∨ f.offset ≠ off then none else
  match rec f.type with
  |some ks=>if f7 P f.type=some ks.length/\0<ks.length then(JU P rec fs (off+ks.length)).map (ks++·)else none
  |none=>none
def nQ(P:Program):Nat->TypeId->Option (List CK)
 |0,_=>none
 |d+1,t=>match P.underlying t with
  |some .bool=>some [.b]
  |some (.int _)=>some [.i]
  |some (.float _)=>some [.f]
  |some .string=>some [.s]
  |some (.struct L)=>if P.stoodInHeld t then none else JU P (nQ P d) L.toList 0
  |some (.array n e)=>match nQ P d e with
   |some D=>if f7 P e=some D.length then some (List.replicate n D).flatten else none
   |none=>none
  |_=>none
def cEq(x y:aM):Option bG:=
 match nQ P 20 t with
 |some D=>if oJ P t&& !P.eqGuardType P.depth t then some (.eqc D neg x y)else none
 |none=>none
def N4:Bool:=
 match P.underlying t with
 |some (.int _)|some (.float _)=>true
 |_=>false
def RR:Bool:=
 match P.underlying t with
 |some .bool=>true
 |_=>false
def bL:Bool:=
 match P.funcs[f]? with
 | some fn => fn.name != "runtime.NumGoroutine" && fn.body.isSome
 |none=>false
def N5:Option (Nat×Nat):=
 match P.underlying t with
 |some (.struct D)=>match D[i]? with
  |some f=>(f7 P f.type).map λz=>(f.offset,z)
  |none=>none
 |some (.array _ e)=>(f7 P e).map λz=>(i*z,z)
 |_=>none
def AU(P:Program) (t:TypeId):List (Nat×Operand)->Option (List (Nat×Nat×aM))
 |[]=>some []
 |(i,x)::r=>match N5 P t i,cn x,AU P t r with
  |some (o,z),some x,some ps=>some ((o,z,x)::ps)
  |_,_,_=>none
def sliceB:Bool:=match P.underlying t with|some (.slice _)=>true|_=>false
def H8:Bool:=
 match P.underlying t with
 |some (.struct D)=>D.toList.all λf=>(f7 P f.type).isSome
 |some (.array _ e)=>(f7 P e).isSome
 |_=>false
def uw(zs:Nat):List (Nat×Nat×aM)->Bool
 |[]=>true
 |(o,z,_)::r=>decide (o+z<=zs)&&uw zs r
def cOpt:Option Operand->Option (Option aM)
 |none=>some none
 |some x=>(cn x).map some
def JV(s d:TypeId) (x:aM):Option bG:=
 match P.underlying s,P.underlying d with
 |some (.int _),some (.int k)=>some (.qi k x)
 |some (.int _),some (.float k)=>some (.Gi k x)
 |some (.float _),some (.int k)=>some (.JN k x)
 |_,_=>none
def CD:Bool:=match P.underlying t with|some (.pointer _)=>true|_=>false
def ME:Bool:=
 match P.underlying t with
 |some (.struct D)=>match D.toList with
  |[f]=>CD P f.type&&f.offset==0&&f7 P f.type==some 1
  |_=>false
 |_=>false
def rO(P:Program):List TypeId->Bool
 |[]=>false
 |t::r=>(CD P t||ME P t)||rO P r
def aaT:Option Xt:=
 match P.funcs[f]? with
 |some fn=>if fn.body.isNone&&(Extern.findNext fn).isNone then
   if fn.name == "math.Float64bits" then some .JM
   else if fn.name == "math.Float64frombits" then some .ffrom
   else if fn.name == "math.RoundToEven" then some .rte
   else none
  else none
 |none=>none
def wV:Option bG:=
 match c.callee with
 | .value (.func f)=>if bL P f then(gu c.args).map (if rO P c.argTypes.toList then .dR f else .call f)
  else match aaT P f,c.args.toList with
   |some e,[x]=>(cn x).map (.xt e)
   |_,_=>none
 | .value g=>match cn g,gu c.args with
  |some g,some as=>some (if rO P c.argTypes.toList then .gi g as else .fu g as)
  |_,_=>none
 | .builtin .len=>match c.argTypes[0]?,c.args[0]? with
  |some t,some x=>match P.underlying t with
   |some (.slice _)=>(cn x).map .JO
   |some (.array n _)=>some (.JP n)
   |_=>none
  |_,_=>none
 | .builtin .append=>match c.argTypes.toList,c.args.toList with
  |[t,D],[x,y]=>if t=D then match P.underlying t,cn x,cn y with
    |some (.slice e),some x,some y=>match P.info? e with
     |some i=>match i.zero with
      |some z=>if 0<i.size&&z.cells.size==i.size&&0<i.bytes then some (.app e i.size i.bytes x y)else none
      |none=>none
     |none=>none
    |_,_,_=>none
   else none
  |_,_=>none
 | .builtin .max=>(gu c.args).map (.mm true)
 | .builtin .min=>(gu c.args).map (.mm false)
 |_=>none
def V6:Op->Option bG
 | .move x| .assign x=>(cn x).map .mv
 | .pick c a b=>match cn c,cn a,cn b with
  |some c,some a,some b=>some (.pick c a b)
  |_,_,_=>none
 | .alloc t=>(zeroOf P t).map .alloc
 | .box _ x=>(cn x).map .box
 | .build t ps=>match zeroOf P t,AU P t ps.toList with
  |some zs,some ps=>if uw zs.length ps&&H8 P t then some (.build zs ps)else none
  |_,_=>none
 | .buildSlice t n ps=>match P.underlying t with
  |some (.slice e)=>match zeroOf P e,f7 P e,ps.toList.mapM (λp=>cn p.2)with
   |some zs,some z,some xs=>if n*z<=16777216&&0<z&&zs.length==z&&ps.toList.map (·.1)==List.range n then some (.RG e z xs)else none
   |_,_,_=>none
  |_=>none
 | .load t x=>match yO P t,cn x with
  |some r,some x=>some (if CD P t||ME P t then .V5 x r else .ld x r)
  |_,_=>none
 | .store t x v=>match f7 P t,cn x,cn v with
  |some z,some x,some v=>some (.st x v z)
  |_,_,_=>none
 | .nilCheck x=>(cn x).map .nc
 | .binOp op t x y _=>match cn x,cn y with
  |some x,some y=>
   if N4 P t then some (.bin op x y)
   else if RR P t then(match op with| .eql=>some (.bb false x y)| .neq=>some (.bb true x y)|_=>none)
   else if sliceB P t then(match op,y with| .eql,.k .aU=>some (.ZS false x)| .neq,.k .aU=>some (.ZS true x)|_,_=>none)
   else match op with
    | .eql=>cEq P t false x y
    | .neq=>cEq P t true x y
    |_=>none
  |_,_=>none
 | .unOp op _ x=>(cn x).map (.un op)
 | .convert s d x=>(cn x).bind (JV P s d)
 | .fieldAddr s x f=>match yP P s f,cn x with
  |some D,some x=>if f7 P D.type==some 0||(f7 P D.type).isNone then none else some (.fa x D.offset)
  |_,_=>none
 | .field s x f=>match yP P s f,cn x with
  |some D,some x=>(yO P D.type).map (.GB x D.offset)
  |_,_=>none
 | .indexAddr t x i=>match P.underlying t,cn x,cn i with
  |some (.array n e),some x,some i=>(f7 P e).map (.MB x i n)
  |some (.slice e),some x,some i=>(f7 P e).map (.V3 x i)
  |_,_,_=>none
 | .index t x i=>match P.underlying t,cn x,cn i with
  |some (.array n e),some x,some i=>match f7 P e,yO P e with
   |some z,some r=>some (.GC x i n z r)
   |_,_=>none
  |some .string,some x,some i=>some (.ixB x i)
  |_,_,_=>none
 | .extract x i=>(cn x).map (.ext · i)
 | .makeFunc (.func f) a b=>match gu a,gu b with
  |some a,some b=>if bL P f then some (.uh (.func f) a b)else none
  |_,_=>none
 | .slice t x lo L none=>match P.underlying t,cn x,cOpt lo,cOpt L with
  |some (.slice e),some x,some lo,some L=>(f7 P e).map λz=>.V4 z x lo L
  |some (.array n e),some x,some none,some none=>(f7 P e).map λz=>.Wj x n z
  |some (.array n e),some x,some none,some (some L)=>(f7 P e).map λz=>.ZT x n z L
  |_,_,_,_=>none
 | .call c=>wV P c
 |_=>none
def afp(y:Nat):Option Operand:=
 match ops.find? (λo=>o.dst==some y)with
 |some o=>match o.op with
  | .slice t x none (some _) none=>match P.underlying t with
   |some (.array _ _)=>some x
   |_=>none
  |_=>none
 |none=>none
def xL:Op->Option bG
 | .call c=>match c.callee,c.argTypes.toList,c.args.toList with
  | .builtin .append,[t,D],[.const (.slice none 0 0),.tmp y]=>if t=D then match P.underlying t,(afp P ops y).bind cn with
    |some (.slice e),some x=>match P.info? e with
     |some i=>match i.zero with
      |some z=>if 0<i.size&&z.cells.size==i.size&&0<i.bytes then some (.Dm e i.size i.bytes (.t y) x)else none
      |none=>none
     |none=>none
    |_,_=>none
   else none
  |_,_,_=>none
 |_=>none
def aaU:Operand->Bool
 | .tmp y=>match ops.find? (λo=>o.dst==some y)with
  |some o=>match o.op with
   | .fieldAddr .. | .indexAddr ..=>true
   |_=>false
  |none=>false
 |_=>false
def PU:Op->Option bG
 | .load t x=>if CD P t&& !aaU ops x then match yO P t,cn x with
   |some r,some x=>some (.ld x r)
   |_,_=>none
  else none
 |_=>none
def RS(o:Op):Option bG:=
 match xL P ops o with
 |some c=>some c
 |none=>match PU P ops o with
  |some c=>some c
  |none=>V6 P o
def H9(ops:Array Oper):Option (Nat×Bool)->Option (Option (Nat×Bool))
 |none=>some none
 |some (j,w)=>match(ops[j]?).bind (·.dst)with
  |some t=>some (some (t,w))
  |none=>none
def oN(ops:Array Oper) (o:Oper):Option CO:=
 match RS P ops.toList o.op,H9 ops o.guard with
 |some c,some g=>some ⟨o.dst,c,g⟩
 |_,_=>none
def xM(P:Program) (ops:Array Oper):List Oper->Option (List CO)
 |[]=>some []
 |o::r=>match oN P ops o,xM P ops r with
  |some c,some cs=>some (c::cs)
  |_,_=>none
def waits(L:Oper):Bool:=
 L.after.any λe=>Region.binds .any e&&(e.on==i||match ops[e.on]? with
  |some ok=>ok.after.any λD=>Region.binds .any D&&D.on==i
  |none=>false)
def oO(cJ:List (Nat×Nat)) (ops:List Oper) (i:Nat) (x:CO):Nat->List Oper->List CO->Bool
 |j,D::os,y::L=>(decide (j<=i)||D.after.any (λe=>Region.binds .any e&&e.on==i)||x.apart y||waits ops i D||cJ.contains (i,j))&&oO cJ ops i x (j+1) os L
 |_,_,_=>true
def nS(cJ:List (Nat×Nat)) (ops:List Oper) (cos:List CO):Nat->List Oper->List CO->Bool
 |i,D::os,x::xs=>D.after.all (λe=>!Region.binds .any e||decide (e.on<i))&&oO cJ ops i x 0 ops cos&&nS cJ ops cos (i+1) os xs
 |_,_,_=>true
def jJ(cos:List CO):Bool:=nS cJ ops cos 0 ops cos
def RU(ops:List Oper) (i:Nat) (x:CO):Nat->List Oper->List CO->List (Nat×Nat)
 |j,D::os,y::L=>(if decide (j<=i)||D.after.any (λe=>Region.binds .any e&&e.on==i)||x.apart y||waits ops i D then[]else[(i,j)])++RU ops i x (j+1) os L
 |_,_,_=>[]
def CM(ops:List Oper) (cos:List CO):Nat->List CO->List (Nat×Nat)
 |i,x::xs=>RU ops i x 0 ops cos++CM ops cos (i+1) xs
 |_,[]=>[]
def N6(cos:List CO):List (Nat×Nat)->Bool
 |[]=>true
 |(i,j)::r=>(match cos[i]?,cos[j]? with|some x,some y=>x.indep y|_,_=>false)&&N6 cos r
def zeroV:Option AV:=((P.info? t).bind (·.zero)).bind ofV
def rP:Bool:=match P.underlying t with|some (.interface _)=>true|_=>false
def RZ:Option Gd:=
 match c.callee with
 | .value (.func f)=>if bL P f then(gu c.args).map (if rO P c.argTypes.toList then .dR f else .call f)else none
 | .value (.tmp g)=>(gu c.args).map (.fu (rO P c.argTypes.toList) (.t g))
 | .builtin .copy=>match c.argTypes.toList,c.args.toList with
  |[t,_],[x,y]=>match P.underlying t,cn x,cn y with
   |some (.slice e),some x,some y=>if f7 P e==some 1 then some (.cpy e x y)else none
   |_,_,_=>none
  |_,_=>none
 |_=>none
def afq(op:BinOp) (t:TypeId) (x y:Operand):Option Gd:=
 match op,y with
 | .eql,.const .nilIface=>if rP P t then(cn x).map (.isI false)else none
 | .neq,.const .nilIface=>if rP P t then(cn x).map (.isI true)else none
 | .eql,.const (.pointer none)=>if CD P t then(cn x).map (.isP false)else none
 | .neq,.const (.pointer none)=>if CD P t then(cn x).map (.isP true)else none
 |_,_=>none
def R5:Option Gd:=
 match c.callee with
 | .value (.tmp g)=>if CD P t then(gu c.args).map (.N0 (.t g))else none
 |_=>none
def xPt:Op->Option Gd
 | .box t x=>if ME P t then(cn x).map .Wl else none
 | .build t ps=>if ME P t then match zeroOf P t,ps.toList with
   |some [_],[(0,x)]=>(cn x).map .Wk
   |_,_=>none
  else none
 | .buildSlice t n ps=>match P.underlying t with
  |some (.slice e)=>if CD P e then match zeroOf P e,ps.toList.mapM (λp=>cn p.2)with
    |some [_],some xs=>if 0<n&&n<=16777216&&f7 P e==some 1&&ps.toList.map (·.1)==List.range n then some (.Wm xs)else none
    |_,_=>none
   else none
  |_=>none
 | .indexAddr t x i=>match P.underlying t with
  |some (.slice e)=>if CD P e&&f7 P e==some 1 then match cn x,cn i with
    |some x,some i=>some (.iap x i)
    |_,_=>none
   else none
  |_=>none
 | .store t x v=>if ME P t&&f7 P t==some 1 then match cn x,cn v with
   |some x,some v=>some (.stp x v)
   |_,_=>none
  else none
 | .call c=>match c.callee,c.argTypes.toList,c.args.toList with
  | .builtin .len,[t],[x]=>match P.underlying t with
   |some (.slice e)=>if CD P e then(cn x).map .lnp else none
   |_=>none
  |_,_,_=>R5 P t c
 |_=>none
def aaV:Option Gd:=
 match wV P c with
 |some (.app e z b (.k .aU) y)=>some (.apn e z b y)
 |_=>none
def Wq:Op->Option Gd
 | .panic x=>(cn x).map .PO
 | .makeSlice t l c=>match P.underlying t,cn l,cn c with
  |some (.slice e),some l,some c=>match P.info? e with
   |some i=>if i.size==1&&i.zero.isSome&&decide (0<i.bytes)then some (.mks e i.bytes l c)else none
   |none=>none
  |_,_,_=>none
 | .makeInterface t x=>if rP P t||(P.underlying t).isNone then none else(cn x).map (.mkI t)
 | .typeAssert x _ t true=>if rP P t||(P.underlying t).isNone then none else match zeroV P t,cn x with
  |some z,some x=>some (.tas t z x)
  |_,_=>none
 | .binOp op t x y _=>afq P op t x y
 | .makeFunc (.func f) a b=>if a.isEmpty&& !b.isEmpty&&bL P f then(gu b).map (.mkc f)else none
 | .call c=>match aaV P c with
  |some x=>some x
  |none=>RZ P c
 |_=>none
def xOp(o:Op):Option Gd:=
 match xPt P t o with
 |some x=>some x
 |none=>Wq P o
def ux(ops:Array Oper) (o:Oper):Option XO:=
 match xOp P o.type o.op with
 |some x=>match H9 ops o.guard with
  |some g=>some ⟨o.dst,x,g⟩
  |none=>none
 |none=>(oN P ops o).map λc=>⟨c.dst,.o c.op,c.g⟩
def uy(P:Program) (ops:Array Oper):List Oper->Option (List XO)
 |[]=>some []
 |o::r=>match ux P ops o,uy P ops r with
  |some c,some cs=>some (c::cs)
  |_,_=>none
def JW:List XO->List Nat
 |[]=>[]
 |o::r=>(match o.dst with|some d=>[d]|none=>[])++JW r
def nU(n:Nat):List XO->Bool
 |[]=>true
 |o::r=>(match o.dst with|some d=>decide (d<n)|none=>true)&&nU n r
def afr:Code->Bool
 | .region ..=>true
 | .skip=>true
 |_=>false
def dstsOf:List CO->List Nat
 |[]=>[]
 |o::r=>(match o.dst with|some d=>[d]|none=>[])++dstsOf r
def aO.writes:aO->List Nat
 | .GD ops=>dstsOf ops
 | .uo ops _=>dstsOf ops
 | .CA ops _ _ _=>dstsOf ops
 | .seq a b| .join a b| .cond _ a b=>a.writes++b.writes
 | .block _ c| .loop c=>c.writes
 | .um _ _ wr _ _=>wr
 | .scope _ c r=>c.writes++r.writes
 | .oF ops=>JW ops
 |_=>[]
def aO.after(l:Nat):aO->Option aO
 | .seq a b| .join a b=>match a.after l with
  |some r=>some (.join r b)
  |none=>b.after l
 | .label D=>if D==l then some .skip else none
 |_=>none
def aO.labels:aO->List Nat
 | .seq a b| .join a b=>a.labels++b.labels
 | .label l=>[l]
 |_=>[]
def bG.quiet:bG->Bool
 | .mv _| .fa _ _| .ld _ _| .V5 _ _| .V4 _ _ _ _=>true
 |_=>false
def afs(o:Oper):Bool:=
 match o.op with
 | .call c=>(match c.callee with| .value (.func f)=>bL P f|_=>false)&&c.argTypes.toList.any (ME P)
 |_=>false
def R6(P:Program):Nat->List Oper->Option Nat
 |_,[]=>none
 |i,o::r=>if afs P o then some i else R6 P (i+1) r
def ZW(k:Nat):Nat->List Nat->List Oper->List Nat
 |_,D,[]=>D
 |i,D,o::r=>ZW k (i+1) (if decide (k<i)&&o.after.any (λe=>Region.binds .any e&&(e.on==k||D.contains e.on))then D++[i]else D) r
def GG(k:Nat) (D:List Nat):Nat->List Oper->Bool
 |_,[]=>true
 |i,o::r=>(!D.contains i||o.after.any λe=>Region.binds .any e&&(e.on==k||(D.contains e.on&&decide (e.on<i))))&&GG k D (i+1) r
def Dx(k:Nat) (D:List Nat) (d:Nat):Nat->List CO->Bool
 |_,[]=>true
 |i,o::r=>(if i=k then(match o.op with| .dR _ _=>o.g.isNone&&o.dst==some d|_=>false)else D.contains i||(o.op.quiet&&o.g.isNone&&o.dst.isSome&&o.dst !=some d))&&Dx k D d (i+1) r
def Ia(cos:List CO) (cJ:List (Nat×Nat)):Option aO:=
 match R6 P 0 ops with
 |some k=>match(cos[k]?).bind CO.dst with
  |some d=>let D:=ZW k 0 [] ops
   if jJ cJ ops (oH k D 0 cos)&&GG k D 0 ops&&Dx k D d 0 cos&&decide (k<ops.length)then some (.CA cos cJ k D)else none
  |none=>none
 |none=>none
def bI(m:Bool) (P:Program):Code->Option aO
 | .skip=>some .skip
 | .region _ ops l6=>if m&& !l6 then(uy P ops ops.toList).map .oF else match xM P ops ops.toList with
  |some cos=>if l6 then
    if m&&(R6 P 0 ops.toList).isSome then
     if jJ (CM ops.toList cos 0 cos) ops.toList cos then Ia P ops.toList cos (CM ops.toList cos 0 cos)else none
    else match CM ops.toList cos 0 cos with
    |[]=>if jJ [] ops.toList cos then some (.GD cos)else none
    |cJ=>if jJ cJ ops.toList cos&&N6 cos cJ then some (.uo cos cJ)else none
   else some (.GD cos)
  |none=>none
 | .seq a b=>match bI m P a,bI m P b with
  |some x,some y=>some (if afr a then .seq x y else .join x y)
  |_,_=>none
 | .cond c a b=>match cn c,bI m P a,bI m P b with
  |some c,some a,some b=>some (.cond c a b)
  |_,_,_=>none
 | .block id c=>(bI m P c).map (.block id)
 | .loop c=>(bI m P c).map .loop
 | .exit id=>some (.exit id)
 | .ret=>some .ret
 | .label l=>some (.label l)
 | .goto l=>some (.goto l)
 | .scope c=>match bI m P c with
  |some c=>match c.labels with
   |[l]=>(c.after l).map (.scope l c)
   |_=>none
  |none=>none
 | .rangeFunc g ps as D=>match cn g,bI m P as,bI m P D with
  |some g,some a,some b=>
   let wr:=ps.toList++a.writes++b.writes
   if g.rd.all (λt=>!wr.contains t)then some (.um g ps.toList wr a b)else none
  |_,_,_=>none
 |_=>none
abbrev akK (P:Program):Code->Option aO:=bI false P
def gJ(n:Nat):List CO->Bool
 |[]=>true
 |o::r=>(match o.dst with|some d=>decide (d<n)|none=>true)&&gJ n r
def aO.fits(n:Nat):aO->Bool
 | .GD ops=>gJ n ops
 | .uo ops _=>gJ n ops
 | .CA ops _ _ _=>gJ n ops
 | .seq a b| .join a b| .cond _ a b=>a.fits n&&b.fits n
 | .block _ c| .loop c=>c.fits n
 | .scope _ c r=>c.fits n&&r.fits n
 | .oF ops=>nU n ops
 | .um _ ps wr a b=>ps.all (λt=>decide (t<n))&&a.fits n&&b.fits n&&ps.all (λt=>wr.contains t)&&a.writes.all (λt=>wr.contains t)&&b.writes.all (λt=>wr.contains t)
 |_=>true
inductive fq where
 |tmp (t:Nat)
 |cell (t:Nat) (sz:Option Nat)
 deriving Inhabited
def Gl:ResultVar->Option fq
 | .tmp t=>some (.tmp t)
 | .cell a t=>(yO P t).map (.cell a)
structure bE where
 nt:Nat
 res:List fq
 code:aO
def oK(m:Bool) (P:Program) (f:FuncId):Option bE:=
 match P.funcs[f]? with
 |some fn=>match fn.body,fn.results.toList.mapM (Gl P)with
  |some c,some D=>match bI m P c with
   |some cc=>if cc.fits fn.ntmps&&bL P f then some ⟨fn.ntmps,D,cc⟩else none
   |none=>none
  |_,_=>none
 |none=>none
abbrev bF (P:Program) (f:FuncId):Option bE:=oK false P f
end
open Go.RowKit (Below)
section
variable (P:Program) (f:FuncId) (css:List (List AV)) (M:AV) (args:List (Option AV)) (r:AV) {a:AV} {as:List AV} {v:Value} {vs:List Value} {w w':World} {π:Nat->Nat->Prop} (fr:Option Nat) (τ:Nat->Value)
inductive DV (w:World) (π:Nat->Nat->Prop):AV->Value->Prop
 |bool (b:Bool):DV w π (.bool b) (.bool b)
 |int (k:IntKind) (n:Int):DV w π (.int k n) (.int k n)
 |float (k:FloatKind) (n:Nat):DV w π (.float k n) (.float k n)
 |str (s:ByteArray):DV w π (.str s) (.string s)
 |rG:DV w π .rG (.pointer none)
 |aU:DV w π .aU (.slice none 0 0)
 |ja:DV w π .ja .nilFunc
 |gh:DV w π .gh .nilIface
 |fc (n:Nat):Gj n=true->DV w π .fc (.float .f64 n)
 |iface (t:Nat) (a:AV) (v:Value):DV w π a v->DV w π (.iface t a) (.iface t v)
 |agg (as:List AV) (vs:Array Value):as.length=vs.size->(∀a∈as,a.scalar=true)->(∀(i:Nat) (a:AV) (v:Value),as[i]? =some a->vs[i]? =some v->DV w π a v)->DV w π (.agg as) (.agg vs)
 |de (as:List AV) (vs:Array Value):as.length=vs.size->(∀(i:Nat) (a:AV) (v:Value),as[i]? =some a->vs[i]? =some v->DV w π a v)->DV w π (.de as) (.tuple vs)
 |fn (f:Fn) (as:List AV) (vs:Array Value) (bs:List AV) (us:Array Value):as.length=vs.size->bs.length=us.size->
   (∀(i:Nat) (a:AV) (v:Value),as[i]? =some a->vs[i]? =some v->DV w π a v)->(∀(i:Nat) (a:AV) (v:Value),bs[i]? =some a->us[i]? =some v->DV w π a v)->DV w π (.fn f as bs) (.func f vs us)
 |sl (xs:List (List AV)) (B off cap z:Nat) (f:Nat->Nat->Value):xs.length<=cap->(∀(i:Nat) (r:List AV),xs[i]? =some r->r.length=z)->
   (∀(i j:Nat) (r:List AV) (a:AV),xs[i]? =some r->r[j]? =some a->a.scalar=true)->
   (∀(i j:Nat) (r:List AV) (a:AV),xs[i]? =some r->r[j]? =some a->π B (off+i*z+j))->
   (∀(i j:Nat) (r:List AV) (a:AV),xs[i]? =some r->r[j]? =some a->w.cell? ⟨B,off+i*z+j,none⟩=some (f i j))->
   (∀(i j:Nat) (r:List AV) (a:AV),xs[i]? =some r->r[j]? =some a->DV w π a (f i j))->DV w π (.sl xs) (.slice (some ⟨B,off,none⟩) xs.length cap)
 |PV (A:Addr):DV w π (.sl []) (.slice (some A) 0 0)
 |ref (cs:List AV) (B off:Nat) (f:Nat->Value):(∀(j:Nat) (a:AV),cs[j]? =some a->a.scalar=true)->(∀(j:Nat) (a:AV),cs[j]? =some a->π B (off+j))->
   (∀(j:Nat) (a:AV),cs[j]? =some a->w.cell? ⟨B,off+j,none⟩=some (f j))->(∀(j:Nat) (a:AV),cs[j]? =some a->DV w π a (f j))->DV w π (.ref cs) (.pointer (some ⟨B,off,none⟩))
theorem DV.mono{π':Nat->Nat->Prop} (hp:∀b o,π b o->π' b o) (hc:∀b o,π b o->w'.cell? ⟨b,o,none⟩=w.cell? ⟨b,o,none⟩) (h:DV w π a v):DV w' π' a v:=by
 induction h with
 |bool|int|float|str|rG|aU|ja|gh=>constructor
 |iface t a v _ D=>exact .iface t a v D
 |fc n h=>exact .fc n h
 |agg as vs V hs _ D=>exact .agg as vs V hs D
 |de as vs V _ D=>exact .de as vs V D
 |fn f as vs bs us O M _ _ ab aa=>exact .fn f as vs bs us O M ab aa
 |sl xs B off cap z f O M Z h4 h5 _ D=>
  exact .sl xs B off cap z f O M Z (λi j r a R L=>hp _ _ (h4 i j r a R L)) (λi j r a R L=>(hc _ _ (h4 i j r a R L)).trans (h5 i j r a R L)) D
 |PV A=>exact .PV A
 |ref cs B off f O M Z _ D=>exact .ref cs B off f O (λj a L=>hp _ _ (M j a L)) (λj a L=>(hc _ _ (M j a L)).trans (Z j a L)) D
def ji(w:World) (π:Nat->Nat->Prop) (as:List AV) (vs:List Value):Prop:=
 as.length=vs.length/\∀(i:Nat) (a:AV) (v:Value),as[i]? =some a->vs[i]? =some v->DV w π a v
theorem ji.mono{w w':World} {π π':Nat->Nat->Prop} (D:∀b o,π b o->π' b o) (M:∀b o,π b o->w'.cell? ⟨b,o,none⟩=w.cell? ⟨b,o,none⟩) {as:List AV} {vs:List Value} (h:ji w π as vs):ji w' π' as vs:=
 ⟨h.1,λi a v L O=>(h.2 i a v L O).mono D M⟩
theorem ji.nil(w:World) (π:Nat->Nat->Prop):ji w π [] []:=⟨rfl,λi a v h=>by simp at h⟩
theorem ji.cons(h:DV w π a v) (M:ji w π as vs):ji w π (a::as) (v::vs):=by
 refine⟨by simp[M.1],λi x u L D=>?_⟩
 cases i with
 |zero=>simp at L D;subst L;subst D;exact h
 |succ i=>exact M.2 i x u (by simpa using L) (by simpa using D)
theorem ji.append{O:List AV} {us:List Value} (h:ji w π as vs) (k:ji w π O us):ji w π (as++O) (vs++us):=by
 refine⟨by simp[h.1,k.1],λi x u L D=>?_⟩
 by_cases M:i<as.length
 ·exact h.2 i x u (by rwa[kp M]at L) (by rwa[kp (by rw[<-h.1];exact M)]at D)
 ·rw[kt aaN]at L
  rw[kt (by rw[<-h.1];omega)]at D
  exact k.2 (i-as.length) x u L (by rw[h.1];exact D)
theorem ji.get(h:ji w π as vs) {i:Nat} (D:as[i]? =some a):∃v,vs[i]? =some v/\DV w π a v:=by
 have M:i<as.length:=by
  rcases lj i as.length with h|h
  ·exact h
  ·rw[kb h]at D;cases D
 have L:vs[i]? =some vs[i]!:=by
  rw[eh (by rw[<-h.1];exact M)]
  simp[getElem!_pos vs i (by rw[<-h.1];exact M)]
 exact⟨_,L,h.2 i a _ D L⟩
theorem DV.N7(h:DV w π a v) (D:a.scalar=true):v.oneCell'=true:=by
 cases h<;>first|rfl|(simp[AV.scalar]at D)
theorem DV.cells{w:World} {π:Nat->Nat->Prop} {a:AV} {v:Value} (h:DV w π a v) (ht:∀vs,a≠.de vs):ji w π a.cells v.cells.toList/\∀x∈a.cells,x.scalar=true:=by
 cases h with
 |agg as vs V hs hd=>exact⟨⟨by simpa[AV.cells,Value.cells]using V,λi a v Z R=>hd i a v Z (by simpa[Value.cells]using R)⟩,hs⟩
 |de as vs=>exact absurd rfl (ht as)
 |bool b=>exact⟨.cons (.bool b) (.nil _ _),by simp[AV.cells,AV.scalar]⟩
 |int k n=>exact⟨.cons (.int k n) (.nil _ _),by simp[AV.cells,AV.scalar]⟩
 |float k n=>exact⟨.cons (.float k n) (.nil _ _),by simp[AV.cells,AV.scalar]⟩
 |str s=>exact⟨.cons (.str s) (.nil _ _),by simp[AV.cells,AV.scalar]⟩
 |rG=>exact⟨.cons .rG (.nil _ _),by simp[AV.cells,AV.scalar]⟩
 |aU=>exact⟨.cons .aU (.nil _ _),by simp[AV.cells,AV.scalar]⟩
 |ja=>exact⟨.cons .ja (.nil _ _),by simp[AV.cells,AV.scalar]⟩
 |gh=>exact⟨.cons .gh (.nil _ _),by simp[AV.cells,AV.scalar]⟩
 |iface t a v h=>exact⟨.cons (.iface t a v h) (.nil _ _),by simp[AV.cells,AV.scalar]⟩
 |fc n h=>exact⟨.cons (.fc n h) (.nil _ _),by simp[AV.cells,AV.scalar]⟩
 |fn f as vs bs us L D M h4=>exact⟨.cons (.fn f as vs bs us L D M h4) (.nil _ _),by simp[AV.cells,AV.scalar]⟩
 |ref cs B off f L D M h4=>exact⟨.cons (.ref cs B off f L D M h4) (.nil _ _),by simp[AV.cells,AV.scalar]⟩
 |PV A=>exact⟨.cons (.PV A) (.nil _ _),by simp[AV.cells,AV.scalar]⟩
 |sl xs B off cap z f L D M h4 h5 O=>exact⟨.cons (.sl xs B off cap z f L D M h4 h5 O) (.nil _ _),by simp[AV.cells,AV.scalar]⟩
theorem N8(h:PR v=some a):DV w π a v/\a.scalar=true:=by
 unfold PR at h
 split at h<;>first|(cases h;exact⟨by constructor,rfl⟩)|cases h
theorem AW{w:World} {π:Nat->Nat->Prop}:∀(l:List Value) (as:List AV),l.mapM PR=some as->ji w π as l/\∀a∈as,a.scalar=true
 |[],as,h=>by simp at h;subst h;exact⟨.nil _ _,aaP⟩
 |v::l,as,h=>by
  simp only[rt,pb,io,tl,gc]at h;obtain⟨a,O,D,has,rfl⟩:=h
  have L:=N8 (w:=w) (π:=π) O
  have M:=AW (w:=w) (π:=π) l D has
  exact⟨.cons L.1 M.1,by simpa using⟨L.2,M.2⟩⟩
theorem R7(h:ofV v=some a):DV w π a v:=by
 unfold ofV at h;split at h
 ·rename_i cs
  simp only[eg]at h;obtain⟨as,has,rfl⟩:=h
  have D:=AW (w:=w) (π:=π) _ _ has
  exact .agg as cs (by simpa using D.1.1) D.2 (λi a v M L=>D.1.2 i a v M (by simpa using L))
 ·exact(N8 h).1
structure gw where
 n:Nat
 X:Nat->Prop
 β:Nat->Nat
def gw.ok(F:gw) (B:Nat):Prop:=F.n<=B\/F.X B
def gw.yQ(F:gw) (b B:Nat):Prop:=F.n<=B\/(b<4/\F.X B)
def gw.top(w:World):gw:=⟨w.heap.size,λ_=>False,id⟩
structure vR (n:gw) (w w':World):Prop where
 os:w'.os=w.os
 tape:w'.tape=w.tape
 output:w'.output=w.output
 size:w.heap.size<=w'.heap.size
 block:∀k,k<n.n->¬n.X k->w'.heap[k]? =w.heap[k]?
 /-- what is no variables' block lies as it lay -/
 others:∀(k:Nat) (o:Obj),w.heap[k]? =some o->o.isCells=false->w'.heap[k]? =some o
theorem vR.refl(n:gw) (w:World):vR n w w:=⟨rfl,rfl,rfl,ik _,λ_ _ _=>rfl,λ_ _ h _=>h⟩
theorem vR.trans{n:gw} {a b c:World} (h:vR n a b) (k:vR n b c):vR n a c:=
 ⟨k.os.trans h.os,k.tape.trans h.tape,k.output.trans h.output,kw h.size k.size,λi D L=>(k.block i D L).trans (h.block i D L),λi o D M=>k.others i o (h.others i o D M) M⟩
theorem vR.of{n:gw} (h:Below w.heap.size w w') (D:n.n<=w.heap.size):vR n w w':=⟨h.os,h.tape,h.output,h.size,λk hk _=>h.block k aaN,λk o hk _=>(h.block k (kd.1 hk).1).trans hk⟩
theorem vR.below{n:gw} (h:vR n w w') (hX:∀k,¬n.X k):Below n.n w w':=⟨h.os,h.tape,h.output,h.size,λk hk=>h.block k hk (hX k)⟩
def GH(w:World) (π:Nat->Nat->Prop) (ok:Nat->Prop) (e:Nat) (v:Value):Prop:=
 v=.slice none 0 0\/∃B len cap D i,v=.slice (some ⟨B,0,none⟩) len cap/\ok B/\w.heap[B]? =some (.cells D e (0,0))/\len<=cap/\cap<=maxLen/\P.info? e=some i/\D.size=cap*i.size/\∀o,len*i.size<=o->¬π B o
def jl:Value->Option Nat
 | .slice (some a) _ _=>some a.block
 |_=>none
def Dy(args:List AV) (r:AV) (fr:Option Nat):Prop:=
 bL P f=true/\
 ∀(w:World) (π:Nat->Nat->Prop) (vs:List Value),(∀b o,π b o->b<w.heap.size)->ji w π args vs->
  Calls P f vs.toArray w λe w'=>∃v π',e=.returned v/\Below w.heap.size w w'/\(∀b o,π b o->π' b o)/\(∀b o,π' b o->π b o\/w.heap.size<=b)/\
   (∀b o,π' b o->b<w'.heap.size)/\DV w' π' r v/\∀t,fr=some t->GH P w' π' (λB=>w.heap.size<=B) t v
def eO(w:World) (π:Nat->Nat->Prop):List (Option AV)->List Nat->List Value->Prop
 |[],[],[]=>True
 |some .hole::as,B::Bs,v::vs=>v=.agg #[.pointer (some ⟨B,0,none⟩)]/\eO w π as Bs vs
 |some a::as,Bs,v::vs=>DV w π a v/\eO w π as Bs vs
 |none::as,B::Bs,v::vs=>v=.pointer (some ⟨B,0,none⟩)/\eO w π as Bs vs
 |_,_,_=>False
def RV(β:Nat->Nat) (τ:Nat->Value) (w:World) (π:Nat->Nat->Prop):SV->Value->Prop
 | .dat a q,v=>DV w π a v/\∀t,q=some t->v=τ t
 | .ptr b off,v=>v=.pointer (some ⟨β b,off,none⟩)
 | .rp cs,v=>∃(B off:Nat) (f:Nat->Value),v=.pointer (some ⟨B,off,none⟩)/\(∀(j:Nat) (a:AV),cs[j]? =some a->a.scalar=true)/\(∀(j:Nat) (a:AV),cs[j]? =some a->π B (off+j))/\
   (∀(j:Nat) (a:AV),cs[j]? =some a->w.cell? ⟨B,off+j,none⟩=some (f j))/\∀(j:Nat) (a:AV),cs[j]? =some a->DV w π a (f j)
 | .undef,v=>v=undef
 | .mL f as D,v=>∃us:Array Value,v=.func (.func f) #[] us/\eO w π as (D.map β) us.toList
 | .raw q n,v=>∃B cap,τ q=.slice (some ⟨B,0,none⟩) 0 cap/\v=.slice (some ⟨B,0,none⟩) n cap/\n<=cap
 | .vs b off n _,v=>∃cap,n<=cap/\v=.slice (some ⟨β b,off,none⟩) n cap
 | .pt 0 ps,v=>v=.agg (ps.map λp=>Value.pointer (some ⟨β p.1,p.2,none⟩)).toArray
 | .pt k ps,v=>∃B off cap,(v=if k=1 then .slice (some ⟨B,off,none⟩) ps.length cap else .pointer (some ⟨B,off,none⟩))/\ps.length<=cap/\
   ∀(i:Nat) (p:Nat×Nat),ps[i]? =some p->π B (off+i)/\w.cell? ⟨B,off+i,none⟩=some (.pointer (some ⟨β p.1,p.2,none⟩))
def SV.gK(U:Nat->Prop):SV->Prop
 | .dat _ (some q)=>U q
 | .ptr b _=>U b
 | .vs b _ _ _=>U b
 | .mL _ _ D=>∀b∈D,U b
 | .raw q _=>U q
 | .pt _ ps=>∀p∈ps,U p.1
 |_=>True
def pN(w:World) (π:Nat->Nat->Prop) (B:Nat) (x:bH):Prop:=
 ∃D L,w.heap[B]? =some (.cells D L (0,0))/\ji w π x.cells (D.toList.take x.cells.length)/\(∀a∈x.cells,a.scalar=true)/\(∀o q,dJ o x.tags=some q->D[o]? =some (τ q))/\∀o,¬π B o
theorem ji.take{w:World} {π:Nat->Nat->Prop} {as:List AV} {vs:List Value} (h:ji w π as vs):ji w π as (vs.take as.length):=by
 rw[jp (Nat.le_of_eq h.1.symm)];exact h
def bX(w:World) (π:Nat->Nat->Prop):List (List AV)->List Nat->Prop
 |[],[]=>True
 |cs::css,B::Bs=>pN (λ_=>undef) w π B ⟨cs,[]⟩/\bX w π css Bs
 |_,_=>False
def gw.iw(w:World) (Bs:List Nat):gw:=⟨w.heap.size,λB=>B∈Bs,λk=>Bs.getD k 0⟩
def uz(D:List (List AV)):Prop:=
 bL P f=true/\D.length=css.length/\css.length<=4/\
 ∀(w:World) (π:Nat->Nat->Prop) (Bs:List Nat) (vs:List Value),(∀b o,π b o->b<w.heap.size)->Bs.Nodup->bX w π css Bs->eO w π args Bs vs->
  Calls P f vs.toArray w λe w'=>∃v π',e=.returned v/\vR (gw.iw w Bs) w w'/\(∀b o,π b o->π' b o)/\(∀b o,π' b o->π b o\/w.heap.size<=b)/\
   (∀b o,π' b o->b<w'.heap.size)/\bX w' π' D Bs/\DV w' π' r v/\∀t,fr=some t->GH P w' π' (λB=>w.heap.size<=B) t v
theorem DV.jP{w:World} {π:Nat->Nat->Prop} {a:AV} (h:Eng.jP a=true):DV w π a (Wo a):=by
 cases a<;>first|(simp[Eng.jP]at h;done)|constructor
theorem DV.flat(h:jQ a=true):DV w π a (yJ a):=by
 cases a with
 |agg cs=>
  simp only[jQ,np]at h
  refine .agg cs _ aaP (λa D=>?_) (λi a v D L=>?_)
  ·have:=h a D;cases a<;>first|rfl|(simp[Eng.jP]at this;done)
  ·simp only[xv,kx,D,mt,gc]at L
   subst L;exact .jP (h a (et D))
 |_=>first|exact .jP h|(simp[jQ,Eng.jP]at h;done)
def Iter(xs:List (List AV)):Prop:=
 ∃L caps,M=.fn (.func L) [] caps/\bL P L=true/\(∀x∈xs,∀a∈x,jQ a=true)/\
 ∀(l:Nat) (J:Nat->World->Prop) (D:World->Prop) (W:World) (π:Nat->Nat->Prop) (vs:List Value),(∀b o,π b o->b<W.heap.size)->ji W π caps vs->
  (∀i W',J i W'->∀b o,π b o->W'.cell? ⟨b,o,none⟩=W.cell? ⟨b,o,none⟩)->
  (∀i W W',J i W->Below W.heap.size W W'->J i W')->(∀W W',D W->Below W.heap.size W W'->D W')->
  (∀n i x W,xs[i]? =some x->J i W->YieldAt Fence.wide n P l (x.map yJ).toArray W λe W'=>(e=.returned (.bool true)/\J (i+1) W')\/(e=.returned (.bool false)/\D W'))->
  J 0 W->
  Calls P L (#[.func (.yield l) #[] #[]]++vs.toArray) W λe W'=>(∃v,e=.returned v)/\(J xs.length W'\/D W')
def R8(p:AV) (D:List (List AV)):Prop:=
 bL P f=true/\D.length=css.length/\css.length<=4/\
 ∀(w:World) (π:Nat->Nat->Prop) (Bs:List Nat) (vs:List Value),(∀b o,π b o->b<w.heap.size)->Bs.Nodup->bX w π css Bs->eO w π args Bs vs->
  Calls P f vs.toArray w λe w'=>∃π',e=.panicked (gL p)/\vR (gw.iw w Bs) w w'/\(∀b o,π b o->π' b o)/\(∀b o,π' b o->π b o\/w.heap.size<=b)/\
   (∀b o,π' b o->b<w'.heap.size)/\bX w' π' D Bs
def ZX(args cs:List AV):Prop:=
 bL P f=true/\
 ∀(w:World) (π:Nat->Nat->Prop) (vs:List Value),(∀b o,π b o->b<w.heap.size)->ji w π args vs->
  Calls P f vs.toArray w λe w'=>∃B π',e=.returned (.pointer (some ⟨B,0,none⟩))/\w.heap.size<=B/\Below w.heap.size w w'/\(∀b o,π b o->π' b o)/\(∀b o,π' b o->π b o\/w.heap.size<=b)/\
   (∀b o,π' b o->b<w'.heap.size)/\pN (λ_=>undef) w' π' B ⟨cs,[]⟩
def Dz:AV->FrameMode
 | .gh=>.returning
 |p=>.panicking (gL p)
def JX(css:List (List AV)) (args:List (Option AV)) (D:List (List AV)):Prop:=
 bL P f=true/\D.length=css.length/\css.length<=4/\
 ∀(w:World) (π:Nat->Nat->Prop) (Bs:List Nat) (vs:List Value),(∀b o,π b o->b<w.heap.size)->Bs.Nodup->bX w π css Bs->eO w π args Bs vs->
  CallsDIn Fence.wide 0 P f vs.toArray (Dz M) w λe L w'=>∃v π',e=.returned v/\settle L=.returning/\vR (gw.iw w Bs) w w'/\(∀b o,π b o->π' b o)/\(∀b o,π' b o->π b o\/w.heap.size<=b)/\
   (∀b o,π' b o->b<w'.heap.size)/\bX w' π' D Bs
def gw.xN(w:World) (Bs:List Nat) (tb:Nat->Prop):gw:=⟨w.heap.size,λB=>B∈Bs\/tb B,λk=>Bs.getD k 0⟩
def Ib(w:World) (π:Nat->Nat->Prop) (Bs:List Nat) (ok:Nat->Prop) (L:Value):Option (Nat×Nat×Nat)->Prop
 |none=>True
 |some (j,o,e)=>∃B D O,Bs[j]? =some B/\w.heap[B]? =some (.cells D O (0,0))/\D[o]? =some L/\GH P w π ok e L/\∀M,jl L=some M->M∉Bs
def CN(L:Option (Nat×Nat×Nat)) (D:Value) (B:Nat):Prop:=L.isSome=true/\jl D=some B
def R9(M:Option (Nat×Nat×Nat)) (args:List (Option AV)) (r:AV) (D:List (List AV)) (O:Option (Nat×Nat×Nat)):Prop:=
 bL P f=true/\D.length=css.length/\css.length<=4/\
 ∀(w:World) (π:Nat->Nat->Prop) (Bs:List Nat) (vs:List Value) (L:Value),(∀b o,π b o->b<w.heap.size)->Bs.Nodup->bX w π css Bs->eO w π args Bs vs->Ib P w π Bs (λ_=>True) L M->
  Calls P f vs.toArray w λe w'=>∃v π' R,e=.returned v/\vR (gw.xN w Bs (CN M L)) w w'/\(∀b o,π b o->π' b o)/\(∀b o,π' b o->π b o\/w.heap.size<=b\/CN M L b)/\
   (∀b o,π' b o->b<w'.heap.size)/\(∀b o,π b o->w'.cell? ⟨b,o,none⟩=w.cell? ⟨b,o,none⟩)/\bX w' π' D Bs/\DV w' π' r v/\Ib P w' π' Bs (λB=>w.heap.size<=B\/CN M L B) R O
def Sa(j o:Nat):Prop:=
 bL P f=true/\css.length<=4/\
 ∀(w:World) (π:Nat->Nat->Prop) (Bs:List Nat) (vs:List Value),(∀b o,π b o->b<w.heap.size)->Bs.Nodup->bX w π css Bs->eO w π args Bs vs->
  Calls P f vs.toArray w λe w'=>∃B π',Bs[j]? =some B/\e=.returned (.pointer (some ⟨B,o,none⟩))/\vR (gw.iw w Bs) w w'/\(∀b o,π b o->π' b o)/\(∀b o,π' b o->π b o\/w.heap.size<=b)/\
   (∀b o,π' b o->b<w'.heap.size)/\bX w' π' css Bs
def Pure:aQ:=⟨Dy P,uz P,Iter P,R8 P,ZX P,JX P,R9 P,Sa P⟩
structure Rel (P:Program) (nt:Nat) (n0:gw) (w0:World) (π0:Nat->Nat->Prop) (U:Nat->Prop) (s:S) (a:Act) (w:World) (β:Nat->Nat) (τ:Nat->Value) (π:Nat->Nat->Prop):Prop where
 size:a.tmps.size=nt
 slots:∀t v,lk t s.slots=some v->(∃x,a.tmps[t]? =some x/\RV β τ w π v x)/\v.gK U
 boxes:∀b x,bO b s.boxes=some x->U b/\n0.yQ b (β b)/\pN τ w π (β b) x/\∀o q,dJ o x.tags=some q->U q
 inj:∀b b' x x',bO b s.boxes=some x->bO b' s.boxes=some x'->β b=β b'->b=b'
 live:∀q e,dJ q s.live=some e->U q/\GH P w π n0.ok e (τ q)
 cw:∀q q' e e' B,dJ q s.live=some e->dJ q' s.live=some e'->jl (τ q)=some B->jl (τ q')=some B->q=q'
 cz:∀q e b x,dJ q s.live=some e->bO b s.boxes=some x->jl (τ q)≠some (β b)
 below:vR n0 w0 w
 f9:n0.n<=w0.heap.size
 eF:∀b o,π b o->b<w.heap.size
 ep:∀b o,π0 b o->π b o
 cB:∀b o,π b o->π0 b o\/n0.ok b
 lz:∀k,k<4->β k=n0.β k
 jb:∀k,k<4->U k
 kept:∀b o,π0 b o->w.cell? ⟨b,o,none⟩=w0.cell? ⟨b,o,none⟩
end
end Go.Eng
