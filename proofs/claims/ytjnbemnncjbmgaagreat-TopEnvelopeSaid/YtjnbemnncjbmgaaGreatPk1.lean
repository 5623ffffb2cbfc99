/- Part 1 of the engine and its library. -/
import Derived.WalkKit
import Derived.RangeFuncNested
import Derived.RangeFuncLeaves
import Derived.OrdersIn
import Derived.LoopNIn
import Derived.ChangeKeysEq
import Derived.Laws.Externs
import Derived.Lib.SliceRun
import Derived.Laws.CopyRow
import Derived.Laws.MakeOwn
import Ieee.Arith
import GoSem.Core.Float
import Derived.RecoverIn
import Derived.ProofKit
import Derived.OpenShut
import Derived.ShutString
import Derived.ChangeOld
import Derived.Below
set_option linter.all false
set_option maxRecDepth 10000
set_option maxHeartbeats 4000000
namespace Go.Eng
open Go
section
variable {p:Prop}
theorem ado(h:p:=by omega):p:=h
theorem adp(h:p:=by decide):p:=h
theorem adI(h:p:=by simp):p:=h
def dC:=@And.intro
def dE:=@of_decide_eq_true
def dT:=@of_decide_eq_false
def ed:=@Bool.and_eq_true
def eg:=@Option.map_eq_some_iff
def eh:=@List.getElem?_eq_getElem
def em:=@List.getD_eq_getElem?_getD
def eo:=@List.getElem?_eq_some_iff
def er:=@List.mem_of_getElem?
def et:=@cond_false
def eQ:=@Bool.false_eq_true
def fb:=@if_neg
def fi:=@List.length_cons
def fp:=@if_pos
def fx:=@Option.some.injEq
def gc:=@Nat.le_of_ble_eq_true
def ge:=@Go.Result.andThen_ok
def gs:=@cond_true
def ia:=@Go.Sem.run_bind
def ib:=@List.length_nil
def ii:=@decide_eq_true_eq
def ik:=@Nat.le_refl
def il:=@if_false
def im:=@List.getElem?_append_right
def io:=@List.take_length
def ip:=@List.mem_range
def iv:=@List.getElem?_append_left
def ix:=@Go.run_underlying
def jp:=@Option.bind_eq_some_iff
def ka:=@List.getElem?_map
def kb:=@List.drop_zero
def kd:=@Nat.mul_le_mul_right
def kf:=@List.take_of_length_le
def kh:=@List.getElem?_eq_none
def km:=@List.getElem?_cons_zero
def kp:=@List.getElem?_cons_succ
def kr:=@List.map_cons
def kt:=@Array.getElem?_eq_some_iff
def kv:=@List.getElem?_range
def kw:=@if_true
def kx:=@Go.Sem.run_pure
def lc:=@Nat.zero_add
def lh:=@Nat.le_trans
def lj:=@List.range_succ
def lr:=@List.mem_append
def lw:=@List.mem_cons_of_mem
def lL:=@List.getElem?_drop
def l4:=@beq_iff_eq
def ma:=@Nat.lt_or_ge
def md:=@Array.toList_inj
def mf:=@Nat.pow_add
def mi:=@List.mem_map
def ml:=@List.drop_of_length_le
def mn:=@Option.map_some
def mp:=@List.drop_succ_cons
def mr:=@List.map_nil
def mt:=@List.all_eq_true
def my:=@List.nil_append
def na:=@Bool.or_eq_true
def nb:=@List.mem_cons_self
def ne:=@beq_self_eq_true
def nf:=@List.mem_iff_getElem?
def nl:=@Nat.mul_assoc
def nm:=@List.mem_cons
def pb:=@Option.bind_eq_bind
def pc:=@Nat.pow_le_pow_right
def pd:=@Bool.not_false
def pm:=@Bool.and_false
def po:=@Bool.not_true
def pu:=@Int.le_refl
def px:=@Bool.false_and
def py:=@Bool.true_and
def pA:=@Bool.not_eq_true'
def pB:=@Nat.eq_of_beq_eq_true
def pC:=@decide_eq_false_iff_not
def rc:=@Int.toNat_natCast
def rf:=@List.mem_singleton
def rh:=@List.length_append
def sa:=@List.getElem?_take_of_lt
def sd:=@congrArg
def se:=@Nat.add_zero
def sh:=@Bool.and_true
def sm:=@List.mem_of_mem_drop
def sT:=@List.eq_nil_of_length_eq_zero
def s9:=@Nat.lt_of_lt_of_le
def ta:=@List.map_append
def tl:=@List.mapM_cons
def tp:=@List.append_nil
def ts:=@List.cons_append
def tt:=@Nat.mul_one
def tz:=@bne_self_eq_false
def t0:=@Nat.mul_comm
def ui:=@Go.World.putObj_heap_other
def ul:=@List.drop_drop
def ut:=@decide_eq_false
def vd:=@Option.pure_def
def wa:=@Nat.shiftLeft_eq
def wc:=@beq_eq_false_iff_ne
def wi:=@List.take_succ_cons
def wn:=@List.take_append_of_le_length
def ws:=@List.contains_nil
def ww:=@List.take_zero
def w5:=@Bool.false_or
def xa:=@List.foldl_cons
def xc:=@Nat.eq_zero_or_pos
def xf:=@List.getElem?_append
def xi:=@List.drop_append
def xn:=@Array.getD_eq_getD_getElem?
def xo:=@Go.wpIn_mono
def xr:=@Int.toNat_of_nonneg
def xv:=@List.take_left'
def yi:=@List.nodup_cons
def yk:=@List.mem_filter
def yn:=@Option.getD_some
def yr:=@Nat.sub_add_cancel
def yv:=@List.getElem?_take
def zd:=@List.mem_of_mem_take
def zr:=@Bool.eq_false_iff
def Ax:=@Option.some.inj
def AC:=@List.filter_nil
def B0:=@List.map_congr_left
def Do:=@Go.Oper.upon_enter
def EQ:=@Go.callsIn_of_wp_marks
def Fd:=@List.length_take
def FS:=@List.getElem_mem
def GE:=@true_and
def GT:=@Go.cell_of_row
def Ha:=@List.find?_eq_none
def Hb:=@List.length_filter_le
def Hc:=@List.getElem?_toArray
def Hd:=@List.set_eq_take_append_cons_drop
def Hk:=@List.mem_of_find?_eq_some
def Hm:=@List.flatMap_cons
def Hn:=@Bool.or_eq_false_iff
def H0:=@Bool.and_self
def H1:=@Array.getElem?_setIfInBounds_ne
def H2:=@Nat.mul_le_mul_left
def H3:=@Nat.mod_eq_of_lt
def H4:=@Nat.div_eq_of_lt
def H5:=@Go.mem_ready
def Id:=@decide_true
def If:=@List.drop_append_of_le_length
def In:=@Array.getElem?_eq_none
def Ix:=@Go.callsIn_wide
def IH:=@Nat.add_assoc
def IN:=@List.sum_cons
def IO:=@Nat.mul_lt_mul_of_pos_right
def IR:=@decide_eq_true
def Kd:=@Nat.blt_eq
def Kp:=@Option.bind_some
def LE:=@List.filter_cons
def LT:=@Bool.true_or
def M2:=@Bool.or_true
def NE:=@List.mem_map_of_mem
def Os:=@Nat.div_add_mod
def OF:=@List.length_map
def Pi:=@Bool.eq_iff_iff
def Pl:=@List.filter_append
def Ps:=@Int.tmod_lt_of_pos
def PH:=@Nat.le_mul_of_pos_right
def PP:=@List.getElem?_replicate
def PQ:=@BitVec.eq_of_getLsbD_eq
def P0:=@not_true_eq_false
def QP:=@Nat.sub_zero
def QQ:=@Nat.pow_zero
def QR:=@Bool.or_self
def ST:=@Array.size_eq_zero_iff
def Ts:=@Array.isEmpty_iff
def UV:=@Go.heap_alloc_new
def WF:=@List.length_singleton
def WP:=@Array.getElem?_append
def abs:=@List.take_append
def abH:=@List.mem_flatten
def abJ:=@List.mem_flatMap
def abM:=@List.length_drop
def abV:=@Bool.not_eq_true
def ab7:=@Nat.min_eq_left
def aca:=@List.take_range
def acb:=@List.flatMap_append
def acc:=@Array.length_toList
def acl:=@List.map_map
def act:=@Option.ne_none_iff_exists'
def acv:=@Nat.mul_div_cancel
def acx:=@Nat.mod_lt
def acy:=@Nat.le_of_mul_le_mul_right
def acN:=@List.nodup_nil
def acR:=@Int.fdiv_eq_ediv_of_nonneg
def acS:=@BitVec.toNat_ofInt
def acT:=@Array.any_eq_true'
def acX:=@List.drop_eq_getElem_cons
def ac0:=@Go.run_sliceBound
def ac6:=@List.take_add_one
def ac8:=@List.getElem?_set
def ada:=@Int.lt_trichotomy
def adc:=@Option.isSome_iff_exists
def adf:=@Go.cell_setRow_other
def adg:=@Nat.log2_self_le
def adj:=@Nat.testBit_lt_two_pow
def adl:=@Nat.le_div_iff_mul_le
def adm:=@Array.getElem?_toList
def adn:=@Go.World.putObj_heap_same
inductive AV where
 |bool (b:Bool)
 |int (k:IntKind) (n:Int)
 |float (k:FloatKind) (n:Nat)
 |str (s:ByteArray)
 |tQ
 |aZ
 |sl (xs:List (List AV))
 |fn (f:Fn) (first caps:List AV)
 |jG
 |iface (t:Nat) (v:AV)
 |gJ
 |agg (cs:List AV)
 |dP (vs:List AV)
 |ref (cs:List AV)
 /-- a float (of 64 bits) that is no number,whichever -/
 |gn
 /-- an argument: a struct of one pointer,at the head of the next box -/
 |hole
 deriving Inhabited
inductive SV where
 |dat (a:AV) (q:Option Nat)
 |ptr (b off:Nat)
 |rp (cs:List AV)
 |undef
 /-- a slice pQ a box of its own or another's: n elements of z cells each,from off on -/
 |vs (b off n z:Nat)
 /-- a function with values and pointers at the heads of boxes -/
 |nX (f:Nat) (as:List (Option AV)) (bs:List Nat)
 /-- a slice of n elements that nobody has read: the token's row from its head on -/
 |raw (q n:Nat)
 /-- pointers Qr boxes: 0: a struct of them; 1: a slice; 2: a pointer at the first of a row that is never written -/
 |pt (k:Nat) (ps:List (Nat×Nat))
 deriving Inhabited
structure bV where
 cells:List AV
 tags:List (Nat×Nat)
 deriving Inhabited
structure S where
 slots:List (Nat×SV)
 boxes:List (Nat×bV)
 live:List (Nat×Nat)
 nx:Nat
 deriving Inhabited
end
section
variable (op:BinOp) (k:IntKind) (x:Int) (cs:List AV) (a:AV) (s:S) {α:Type} (neg:Bool) (off:Nat) (xs:List (List AV)) (y:Int)
inductive aR where
 |t (n:Nat)
 |k (v:AV)
 deriving Inhabited
inductive CK where
 |b|i|f|s
 deriving DecidableEq,Inhabited
inductive Xt where
 |Mo|ffrom|rte
 deriving DecidableEq,Inhabited
inductive bU where
 |mv (x:aR)
 |pick (c a b:aR)
 |alloc (cs:List AV)
 |box (x:aR)
 |build (zs:List AV) (parts:List (Nat×Nat×aR))
 |U6 (e z:Nat) (xs:List aR)
 |ld (x:aR) (sz:Option Nat)
 |st (x v:aR) (sz:Nat)
 |fa (x:aR) (off:Nat)
 |Pd (x i:aR) (n z:Nat)
 |Za (x i:aR) (z:Nat)
 |Jg (x:aR) (off:Nat) (sz:Option Nat)
 |FT (x i:aR) (n z:Nat) (sz:Option Nat)
 |bin (op:BinOp) (x y:aR)
 |eqc (ks:List CK) (neg:Bool) (x y:aR)
 |bb (neg:Bool) (x y:aR)
 |un (op:UnOp) (x:aR)
 |vQ (k:IntKind) (x:aR)
 |I1 (k:FloatKind) (x:aR)
 |Mp (k:IntKind) (x:aR)
 |FU (x:aR)
 |Mq (x:aR)
 |Mr (n:Nat)
 |app (e z bytes:Nat) (s x:aR)
 |call (f:Nat) (args:List aR)
 |ew (f:Nat) (args:List aR)
 |gy (g:aR) (args:List aR)
 |ext (x:aR) (i:Nat)
 |vV (fn:Fn) (first caps:List aR)
 |Zk (z:Nat) (x:aR) (lo hi:Option aR)
 |nc (x:aR)
 |mm (max:Bool) (args:List aR)
 |xt (e:Xt) (x:aR)
 |Zl (x:aR) (n z:Nat)
 |ixB (x i:aR)
 |isn (neg:Bool) (x:aR)
 |gK (g:aR) (args:List aR)
 |DX (f:Nat) (args:List aR)
 |tR (g:aR) (args:List aR)
 |slV (x:aR) (n z:Nat) (hi:aR)
 |FV (e z bytes:Nat) (y x:aR)
 /-- what a row of pointers holds: one,or a struct -/
 |Zb (x:aR) (sz:Option Nat)
 /-- a call that raises; what is raised is what it yields -/
 |vX (f:Nat) (args:List aR)
 deriving Inhabited
structure CO where
 dst:Option Nat
 op:bU
 g:Option (Nat×Bool)
 deriving Inhabited
inductive IY where
 |o (c:bU)
 |call (f:Nat) (args:List aR)
 |ew (f:Nat) (args:List aR)
 |gy (p:Bool) (g:aR) (args:List aR)
 |mkc (f:Nat) (caps:List aR)
 |S0 (x:aR)
 |mkI (t:Nat) (x:aR)
 /-- is it of that type? the value,or nothing of that type -/
 |tas (t:Nat) (z:AV) (x:aR)
 |isI (neg:Bool) (x:aR)
 |isP (neg:Bool) (x:aR)
 /-- a slice of cells that is made; what is copied Qr all of it -/
 |mks (e bytes:Nat) (l c:aR)
 |cpy (e:Nat) (x y:aR)
 /-- pointers in a struct,in a row of its own,in a slice -/
 |Zm (x:aR)
 |Zn (x:aR)
 |stp (x v:aR)
 |Zo (xs:List aR)
 |iap (x i:aR)
 |lnp (x:aR)
 /-- a call that yields a pointer Qr a box that it is given -/
 |QH (g:aR) (args:List aR)
 /-- what is appended to nothing: a slice of its own,which may be written -/
 |apn (e z bytes:Nat) (y:aR)
 deriving Inhabited
structure XO where
 dst:Option Nat
 op:IY
 g:Option (Nat×Bool)
 deriving Inhabited
inductive aS where
 |skip
 |Jh (ops:List CO)
 |seq (a b:aS)
 |join (a b:aS)
 |cond (c:aR) (a b:aS)
 |block (id:Nat) (c:aS)
 |loop (c:aS)
 |exit (id:Nat)
 |ret
 |vY (g:aR) (ps wr:List Nat) (as bd:aS)
 |sq (ops:List CO) (dG:List (Nat×Nat))
 |scope (l:Nat) (c r:aS)
 |label (l:Nat)
 |goto (l:Nat)
 |qy (ops:List XO)
 /-- as sq; operation k may raise,Es of dep come behind it -/
 |E8 (ops:List CO) (dG:List (Nat×Nat)) (k:Nat) (dep:List Nat)
 deriving Inhabited
def AV.cells:AV->List AV
 | .agg cs=>cs
 |v=>[v]
def AV.scalar:AV->Bool
 | .agg _| .dP _=>false
 |_=>true
def S1:Value->Option AV
 | .bool b=>some (.bool b)
 | .int k n=>some (.int k n)
 | .float k n=>some (.float k n)
 | .string s=>some (.str s)
 | .pointer none=>some .tQ
 | .slice none 0 0=>some .aZ
 | .nilFunc=>some .jG
 | .nilIface=>some .gJ
 |_=>none
def ofV:Value->Option AV
 | .agg cs=>(cs.toList.mapM S1).map .agg
 |v=>S1 v
def DY:Option Int:=
 let a:=BitVec.ofInt k.bits x
 let b:=BitVec.ofInt k.bits y
 match op with
 | .and=>some (k.wrap (a&&&b).toNat)
 | .or=>some (k.wrap (a|||b).toNat)
 | .xor=>some (k.wrap (a^^^b).toNat)
 | .andNot=>some (k.wrap (a&&& ~~~b).toNat)
 |_=>none
def qA:Option AV:=
 match op with
 | .add=>some (.int k (k.wrap (x+y)))
 | .sub=>some (.int k (k.wrap (x-y)))
 | .mul=>some (.int k (k.wrap (x*y)))
 | .quo=>if y=0 then none else some (.int k (k.wrap (x.tdiv y)))
 | .rem=>if y=0 then none else some (.int k (x.tmod y))
 | .and| .or| .xor| .andNot=>(DY op k x y).map (.int k)
 | .eql=>some (.bool (x==y))
 | .neq=>some (.bool (x !=y))
 | .lss=>some (.bool (decide (x<y)))
 | .leq=>some (.bool (decide (x<=y)))
 | .gtr=>some (.bool (decide (x>y)))
 | .geq=>some (.bool (decide (x>=y)))
 |_=>none
def I2(n:Nat):Bool:=match FloatKind.f64.decode n with
 | .nan ..=>true
 |_=>false
def O7:FloatKind->Option Nat->Option AV
 |k,some r=>some (.float k r)
 | .f64,none=>some .gn
 | .f32,none=>none
def zM:BinOp->Option AV
 | .add| .sub| .mul| .quo=>some .gn
 | .neq=>some (.bool true)
 | .eql| .lss| .leq| .gtr| .geq=>some (.bool false)
 |_=>none
def FX(k:FloatKind) (x y:Nat):Option AV:=
 let c:=k.format.order x y
 match op with
 | .add=>O7 k (k.format.add x y)
 | .sub=>O7 k (k.format.sub x y)
 | .mul=>O7 k (k.format.mul x y)
 | .quo=>O7 k (k.format.div x y)
 | .eql=>some (.bool (c==some .eq))
 | .neq=>some (.bool (c !=some .eq))
 | .lss=>some (.bool (c==some .lt))
 | .leq=>some (.bool (c==some .lt||c==some .eq))
 | .gtr=>some (.bool (c==some .gt))
 | .geq=>some (.bool (c==some .gt||c==some .eq))
 |_=>none
def vZ:Option AV:=
 if y<0 then none else
 match op with
 | .shl=>some (.int k (k.wrap (x*2^min y.toNat k.bits)))
 | .shr=>some (.int k (x.fdiv (2^min y.toNat k.bits)))
 |_=>none
def eK(b:AV):Option AV:=
 match op,a,b with
 | .shl,.int k x,.int _ y=>vZ .shl k x y
 | .shr,.int k x,.int _ y=>vZ .shr k x y
 |op,.int k x,.int D y=>if k=D then qA op k x y else none
 |op,.float k x,.float D y=>if k=D then FX op k x y else none
 |op,.gn,.float .f64 _=>zM op
 |op,.float .f64 _,.gn=>zM op
 |op,.gn,.gn=>zM op
 |_,_,_=>none
def bbA:AV->AV->Option AV
 | .bool x,.bool y=>some (.bool (if neg then x !=y else x==y))
 |_,_=>none
def tS:CK->AV->AV->Option Bool
 | .b,.bool x,.bool y=>some (x==y)
 | .i,.int k x,.int D y=>if k=D then some (x==y)else none
 | .f,.float k x,.float D y=>if k=D then some (k.format.order x y==some .eq)else none
 | .s,.str x,.str y=>some (x==y)
 |_,_,_=>none
def cV:List CK->List AV->List AV->Option Bool
 |[],[],[]=>some true
 |k::L,a::as,b::D=>match tS k a b,cV L as D with
  |some x,some y=>some (x&&y)
  |_,_=>none
 |_,_,_=>none
def unA(op:UnOp) (a:AV):Option AV:=
 match op,a with
 | .neg,.int k n=>some (.int k (k.wrap (0-n)))
 | .xor,.int k n=>(DY .xor k (if k.signed then -1 else k.max) n).map (.int k)
 | .neg,.float k b=>some (.float k (Op.negFloat k b))
 | .not,.bool b=>some (.bool !b)
 |_,_=>none
def FY:AV->Option AV
 | .int _ n=>some (.int k (k.wrap n))
 |_=>none
def FZ(k:FloatKind):AV->Option AV
 | .int _ n=>some (.float k (k.nearest n))
 |_=>none
def AY:AV->Option AV
 | .float s b=>match(s.decode b).toInt .zero with
  |some n=>if k.min<=n/\n<=k.max then some (.int k n)else none
  |none=>none
 |_=>none
def Ks(b:Nat):Option AV:=
 match FloatKind.f64.decode b with
 | .nan _ t=>if FloatKind.f64.format.quiet t=t then some (.float .f64 b)else none
 |d=>some (.float .f64 (FloatKind.f64.encode (d.integral .even)))
def xtA:Xt->AV->Option AV
 | .Mo,.float .f64 b=>some (.int .u64 b)
 | .ffrom,.int .u64 n=>some (.float .f64 n.toNat)
 | .rte,.float .f64 b=>Ks b
 |_,_=>none
def dI(z:Nat):Nat->List AV->List (List AV)
 |0,_=>[]
 |n+1,cs=>cs.take z::dI z n (cs.drop z)
def Ms(s:ByteArray) (i:Int):Option AV:=
 if 0<=i/\i<s.size then some (.int .u8 (s[i.toNat]!).toNat)else none
def zN:AV->Option AV
 | .aZ=>some (.int .i64 0)
 | .sl xs=>some (.int .i64 xs.length)
 |_=>none
def Kt:Bool->AV->Option Bool
 |neg,.aZ=>some (!neg)
 |neg,.sl _=>some neg
 |_,_=>none
def UY(mx:Bool):AV->AV->Option AV
 | .int k x,.int _ y=>some (.int k (if mx then(if y>x then y else x)else(if y<x then y else x)))
 | .float k x,.float D y=>if k=D then match k.format.order x y with
   |none=>if k=.f64 then some .gn else none
   |some .lt=>some (.float k (if mx then y else x))
   |some .gt=>some (.float k (if mx then x else y))
   |some .eq=>some (.float k (if mx then(if(k.decode x).neg then y else x)else(if(k.decode x).neg then x else y)))
  else none
 | .gn,.float .f64 _=>some .gn
 | .float .f64 _,.gn=>some .gn
 | .gn,.gn=>some .gn
 |_,_=>none
def S2:AV->Nat->Option AV
 | .dP vs,i=>vs[i]?
 |_,_=>none
def aB:Option Nat->Option AV
 |none=>cs[off]?
 |some n=>if off+n<=cs.length then some (.agg ((cs.drop off).take n))else none
def o6:List AV->List (Nat×List AV)->List AV
 |cs,[]=>cs
 |cs,(off,ps)::rest=>o6 (cs.take off++ps++cs.drop (off+ps.length)) rest
def Zp:AV->Value
 | .bool b=>.bool b
 | .int k n=>.int k n
 | .float k n=>.float k n
 | .str s=>.string s
 | .tQ=>.pointer none
 | .aZ=>.slice none 0 0
 |_=>undef
def kO:AV->Bool
 | .bool _| .int .. | .float .. | .str _| .tQ| .aZ=>true
 |_=>false
def AZ:AV->Value
 | .agg cs=>.agg (cs.map Zp).toArray
 |a=>Zp a
def kP:AV->Bool
 | .agg cs=>cs.all kO
 |a=>kO a
def Mt(t:Nat) (z:AV):AV->Option AV
 | .gJ=>some (.dP [z,.bool false])
 | .iface D a=>some (if D=t then .dP [a,.bool true]else .dP [z,.bool false])
 |_=>none
def Pe:AV->Option Bool
 | .gJ=>some !neg
 | .iface _ _=>some neg
 |_=>none
def F0:SV->Option Bool
 | .ptr _ _| .rp _| .dat (.ref _) _=>some neg
 | .dat .tQ _=>some !neg
 |_=>none
def jh:AV->Bool
 | .iface _ a=>kP a
 |_=>false
def adT:AV->Value
 | .iface t a=>.iface t (AZ a)
 |_=>undef
def iB(p:AV):List PanicEntry:=[{v:=adT p,recovered:=false}]
def lk:Nat->List (Nat×SV)->Option SV
 |_,[]=>none
 |n,(m,v)::r=>bif n==m then some v else lk n r
def cj:Nat->List (Nat×bV)->Option bV
 |_,[]=>none
 |n,(m,v)::r=>bif n==m then some v else cj n r
def d9:Nat->List (Nat×Nat)->Option Nat
 |_,[]=>none
 |n,(m,v)::r=>bif n==m then some v else d9 n r
def o7:Nat->bV->List (Nat×bV)->List (Nat×bV)
 |_,_,[]=>[]
 |n,b,(m,v)::r=>bif n==m then(m,b)::r else(m,v)::o7 n b r
def jT:Nat->List (Nat×Nat)->List (Nat×Nat)
 |_,[]=>[]
 |n,(m,v)::r=>bif n==m then jT n r else(m,v)::jT n r
def S.put(d:Option Nat) (v:SV):S:=
 match d with
 |none=>s
 |some d=>{s with slots:=(d,v)::s.slots}
def bX:aR->Option SV
 | .t n=>lk n s.slots
 | .k v=>some (.dat v none)
def aL(x:aR):Option AV:=
 match bX s x with
 |some (.dat a _)=>some a
 |some (.rp cs)=>some (.ref cs)
 |_=>none
def ei(s:S):List aR->Option (List AV)
 |[]=>some []
 |x::r=>match aL s x,ei s r with
  |some a,some as=>some (a::as)
  |_,_=>none
def aj(o:Option α) (k:α->Prop):Prop:=
 match o with
 |some a=>k a
 |none=>False
@[simp] theorem ay(a:α) (k:α->Prop):aj (some a) k=k a:=rfl
@[simp] theorem adU(k:α->Prop):aj none k=False:=rfl
def iI:AV->Option Nat->Bool
 | .dP _,_=>false
 | .agg _,some _=>false
 |_,_=>true
def iN(s:S):List (Nat×Nat×aR)->Option (List (Nat×List AV))
 |[]=>some []
 |(off,D,x)::r=>match aL s x,iN s r with
  |some a,some ps=>if a.cells.length=D/\iI a none=true then some ((off,a.cells)::ps)else none
  |_,_=>none
def lq(s:S) (z:Nat):List aR->Option (List (List AV))
 |[]=>some []
 |x::r=>match aL s x,lq s z r with
  |some a,some rows=>if a.cells.length=z/\iI a none=true then some (a.cells::rows)else none
  |_,_=>none
def idxOf:AV->Option Int
 | .int _ i=>some i
 |_=>none
def setCells(ps:List AV):List AV:=cs.take off++ps++cs.drop (off+ps.length)
def zO:Option AV->Option Int
 |some a=>idxOf a
 |none=>none
def A0:Option aR->Option Int
 |none=>some 0
 |some x=>zO (aL s x)
def zP:Option aR->Option Int
 |none=>some xs.length
 |some x=>zO (aL s x)
def Pf(l h:Int):AV:=
 match a with
 | .aZ=>.aZ
 |_=>.sl ((xs.take h.toNat).drop l.toNat)
structure aT where
 c:Nat->List AV->AV->Option Nat->Prop
 p:Nat->List (List AV)->List (Option AV)->AV->Option Nat->List (List AV)->Prop
 /-- what a function that is ranged pQ yields,one after the other -/
 i:AV->List (List AV)->Prop
 /-- a function that raises this -/
 q:Nat->List (List AV)->List (Option AV)->AV->List (List AV)->Prop
 /-- a function that yields a pointer to a new box -/
 n:Nat->List AV->List AV->Prop
 /-- a function that is deferred,with what it recovers: nothing,or what was raised -/
 d:Nat->AV->List (List AV)->List (Option AV)->List (List AV)->Prop
 /-- a function that takes a token with one of its boxes,or leaves one there: which box,which cell,what kind -/
 t:Nat->List (List AV)->Option (Nat×Nat×Nat)->List (Option AV)->AV->List (List AV)->Option (Nat×Nat×Nat)->Prop
 /-- a function that yields a pointer Qr one of its boxes: which,where -/
 r:Nat->List (List AV)->List (Option AV)->Nat->Nat->Prop
def ej(h:Bool) (s:S):List aR->Option (List (Option AV)×List Nat)
 |[]=>some ([],[])
 |x::r=>match bX s x,ej h s r with
  |some (.dat a _),some (as,D)=>some (some a::as,D)
  |some (.rp cs),some (as,D)=>some (some (.ref cs)::as,D)
  |some (.ptr b 0),some (as,D)=>some (none::as,b::D)
  |some (.pt 0 [(b,0)]),some (as,D)=>bif h then some (some .hole::as,b::D)else none
  |_,_=>none
end
section
variable (C:aT) (P:Program) (ops:List CO) (dG:List (Nat×Nat)) (wr:List Nat) (F:S->Prop) (bx:List (Nat×bV)) (id:Nat) (x:CO) (K:S->Prop) (lv m:List (Nat×Nat)) (Q:Exit->S->Prop) (b base f:Nat) (ids:List Nat) (k q:Nat) (s:S) (t:TypeId) (y:CO)
def o9:List (Option AV)->Bool
 |[]=>true
 |some .hole::_=>false
 |some _::r=>o9 r
 |none::r=>o9 r
theorem Mu{a:AV} {r:List (Option AV)} (h:o9 (some a::r)=true):a≠.hole/\o9 r=true:=by
 cases a<;>first|exact⟨adI,h⟩|(cases h)
def DZ(s:S):List aR->Option (List (Nat×Nat))
 |[]=>some []
 |x::r=>match bX s x,DZ s r with
  |some (.ptr b o),some ps=>some ((b,o)::ps)
  |_,_=>none
def aW(l:List (Nat×bV)):List Nat->Option (List (List AV))
 |[]=>some []
 |b::D=>match cj b l,aW l D with
  |some x,some css=>some (x.cells::css)
  |_,_=>none
def fj(l:List (Nat×bV)):List Nat->Option (List (List AV))
 |[]=>some []
 |b::D=>match cj b l,fj l D with
  |some ⟨cs,[]⟩,some css=>some (cs::css)
  |_,_=>none
def dR:List Nat->List (List AV)->List (Nat×bV)->List (Nat×bV)
 |b::D,cs::css,l=>dR D css (o7 b ⟨cs,[]⟩ l)
 |_,_,l=>l
def E9(b o q:Nat):List (Nat×bV)->List (Nat×bV)
 |[]=>[]
 |(k,x)::r=>bif b==k then(k,⟨x.cells,[(o,q)]⟩)::r else(k,x)::E9 b o q r
def Pg:Option (Nat×Nat×Nat)->Option (Option Nat)
 |none=>some none
 |some (j,o,e)=>(ids[j]?).bind λb=>(cj b bx).bind λx=>(d9 o x.tags).bind λq=>if d9 q lv=some e then some (some q)else none
def uT:Option (Nat×Nat×Nat)->List (Nat×bV)->List (Nat×bV)
 |none,l=>l
 |some (j,o,_),l=>match ids[j]? with
  |some b=>E9 b o id l
  |none=>l
def CY:Option (Nat×Nat×Nat)->List (Nat×Nat)->List (Nat×Nat)
 |none,l=>l
 |some (_,_,e),l=>(id,e)::l
def Mv:Option Nat->List (Nat×Nat)->List (Nat×Nat)
 |none,l=>l
 |some q,l=>jT q l
def QI(css:List (List AV)) (as:List (Option AV)) (ids:List Nat) (id:Nat) (bx:List (Nat×bV)) (lv:List (Nat×Nat)) (k:SV->List (Nat×bV)->List (Nat×Nat)->Prop):Prop:=
 ∃M r D L,C.t f css M as r D L/\aj (Pg bx lv ids M) λqo=>k (.dat r none) (uT id ids L (dR ids D bx)) (CY id L (Mv qo lv))
def lg(cs:List AV):SV->SV
 | .ptr D o=>bif D==b then .rp (cs.drop o)else .ptr D o
 | .vs D o n z=>bif D==b&&decide (n*z<=(cs.drop o).length)then .dat (.sl (dI z n (cs.drop o))) none else .vs D o n z
 |v=>v
def Fa(b:Nat) (cs:List AV):List (Nat×SV)->List (Nat×SV)
 |[]=>[]
 |(t,v)::r=>(t,lg b cs v)::Fa b cs r
def mI:Nat->List (Nat×bV)->List (Nat×bV)
 |_,[]=>[]
 |n,(m,v)::r=>bif n==m then mI n r else(m,v)::mI n r
def iC:List Nat->List (List AV)->S->S
 |b::D,cs::css,s=>iC D css {s with slots:=Fa b cs s.slots,boxes:=mI b s.boxes}
 |_,_,s=>s
theorem tT:∀{ids:List Nat} {css:List (List AV)} {s:S},(iC ids css s).nx=s.nx
 |[],css,s=>rfl
 |b::D,[],s=>rfl
 |b::D,cs::css,s=>by rw[iC,tT]
def kQ:List (Option AV)->List (List AV)->List AV
 |some a::as,css=>a::kQ as css
 |none::as,cs::css=>.ref cs::kQ as css
 |_,_=>[]
def i5:List Nat->Bool
 |[]=>true
 |b::D=>decide (4<=b)&&i5 D
def dS:List Nat->Bool
 |[]=>true
 |b::D=>!D.contains b&&dS D
def rowsOf:AV->Option (List (List AV))
 | .aZ=>some []
 | .sl xs=>some xs
 |_=>none
def bF(o:bU) (K:SV->S->Prop) (s:S):Prop:=
 match o with
 | .mv x=>aj (bX s x) λv=>K v s
 | .pick c a b=>aj (aL s c) fun
   | .bool t=>aj (bX s a) λu=>aj (bX s b) λv=>(t=true->K u s)/\(t=false->K v s)
   |_=>False
 | .alloc cs=>K (.ptr id 0) {s with boxes:=(id,⟨cs,[]⟩)::s.boxes}
 | .box x=>aj (aL s x) λa=>iI a none=true/\K (.ptr id 0) {s with boxes:=(id,⟨a.cells,[]⟩)::s.boxes}
 | .build zs parts=>aj (iN s parts) λps=>K (.dat (.agg (o6 zs ps)) none) s
 | .U6 e z xs=>aj (lq s z xs) λrows=>K (.dat (.sl rows) (some id)) {s with live:=(id,e)::s.live}
 | .ld x L=>aj (bX s x) fun
   | .ptr b off=>aj (cj b s.boxes) λbx=>aj (aB bx.cells off L) λa=>
     K (.dat a (match L with|none=>d9 off bx.tags|some _=>none)) s
   | .rp cs=>aj (aB cs 0 L) λa=>K (.dat a none) s
   |_=>False
 | .st x v L=>aj (bX s x) fun
   | .ptr b off=>aj (cj b s.boxes) λbx=>aj (bX s v) fun
     | .dat a q=>iI a q=true/\a.cells.length=L/\off+L<=bx.cells.length/\
       K .undef {s with boxes:=o7 b ⟨setCells bx.cells off a.cells,match q with|some q=>(off,q)::bx.tags.filter (λp=>p.1<off||off+L<=p.1)|none=>bx.tags.filter (λp=>p.1<off||off+L<=p.1)⟩ s.boxes}
     |_=>False
   |_=>False
 | .fa x off=>aj (bX s x) fun
   | .ptr b o=>K (.ptr b (o+off)) s
   | .rp cs=>K (.rp (cs.drop off)) s
   | .pt 2 ps=>K (.pt 2 (ps.drop off)) s
   |_=>False
 | .Pd x i n z=>aj (bX s x) λp=>aj (aL s i) λa=>aj (idxOf a) λi=>(0<=i/\i<n)/\
   match p with
   | .ptr b o=>K (.ptr b (o+i.toNat*z)) s
   | .rp cs=>K (.rp (cs.drop (i.toNat*z))) s
   |_=>False
 | .Za x i z=>aj (bX s x) fun
   | .dat l _=>aj (aL s i) λa=>aj (idxOf a) λi=>aj (rowsOf l) λxs=>(0<=i/\i<xs.length)/\aj (xs[i.toNat]?) λrow=>row.length=z/\K (.rp row) s
   | .vs b off n O=>aj (aL s i) λa=>aj (idxOf a) λi=>(0<=i/\i<n)/\O=z/\K (.ptr b (off+i.toNat*z)) s
   |_=>False
 | .Jg x off L=>aj (aL s x) fun
   | .agg cs=>aj (aB cs off L) λa=>K (.dat a none) s
   |_=>False
 | .FT x i n z L=>aj (aL s x) fun
   | .agg cs=>aj (aL s i) λa=>aj (idxOf a) λi=>(0<=i/\i<n)/\aj (aB cs (i.toNat*z) L) λa=>K (.dat a none) s
   |_=>False
 | .bin op x y=>aj (aL s x) λa=>aj (aL s y) λb=>aj (eK op a b) λv=>K (.dat v none) s
 | .eqc ks neg x y=>aj (aL s x) fun
   | .agg as=>aj (aL s y) fun
    | .agg V=>aj (cV ks as V) λe=>K (.dat (.bool (e !=neg)) none) s
    |_=>False
   |_=>False
 | .bb neg x y=>aj (aL s x) λa=>aj (aL s y) λb=>aj (bbA neg a b) λv=>K (.dat v none) s
 | .un op x=>aj (aL s x) λa=>aj (unA op a) λv=>K (.dat v none) s
 | .vQ k x=>aj (aL s x) λa=>aj (FY k a) λv=>K (.dat v none) s
 | .I1 k x=>aj (aL s x) λa=>aj (FZ k a) λv=>K (.dat v none) s
 | .Mp k x=>aj (aL s x) λa=>aj (AY k a) λv=>K (.dat v none) s
 | .FU x=>aj (bX s x) λv=>K v s
 | .Mq x=>aj (bX s x) fun
   | .dat a _=>aj (zN a) λv=>K (.dat v none) s
   | .vs _ _ n _=>K (.dat (.int .i64 n) none) s
   |_=>False
 | .Mr n=>K (.dat (.int .i64 n) none) s
 | .app e z bytes x y=>aj (bX s x) fun
   | .dat a q=>aj (rowsOf a) λxs=>aj (aL s y) λb=>aj (rowsOf b) λM=>
     (xs.length+M.length)*bytes<=140737488355328/\(∀r∈xs,r.length=z)/\(∀r∈M,r.length=z)/\
     (match a,q with
      | .aZ,_=>if M=[]then K (.dat .aZ none) s else K (.dat (.sl (xs++M)) (some id)) {s with live:=(id,e)::s.live}
      | .sl _,some q=>d9 q s.live=some e/\K (.dat (.sl (xs++M)) (some id)) {s with live:=(id,e)::jT q s.live}
      |_,_=>False)
   |_=>False
 | .call f args=>aj (ei s args) λas=>∃r fr,C.c f as r fr/\K (.dat r (fr.map λ_=>id)) {s with live:=match fr with|some e=>(id,e)::s.live|none=>s.live}
 | .ew f args=>aj (ej true s args) λp=>dS p.2=true/\aj (aW s.boxes p.2) λcss=>
   ∃r fr D,C.p f css p.1 r fr D/\K (.dat r (fr.map λ_=>id)) {s with boxes:=dR p.2 D s.boxes,live:=match fr with|some e=>(id,e)::s.live|none=>s.live}
 | .gy g args=>aj (aL s g) fun
   | .fn (.func f) first caps=>aj (ei s args) λas=>∃r fr,C.c f (first++as++caps) r fr/\K (.dat r (fr.map λ_=>id)) {s with live:=match fr with|some e=>(id,e)::s.live|none=>s.live}
   |_=>False
 | .ext x i=>aj (aL s x) λa=>aj (S2 a i) λv=>K (.dat v none) s
 | .vV fn first caps=>aj (ei s first) λas=>aj (ej false s caps) λp=>(dS p.2&&i5 p.2)=true/\aj (aW s.boxes p.2) λcss=>
   K (.dat (.fn fn as (kQ p.1 css)) none) (iC p.2 css s)
 | .Zk z x lo R=>aj (aL s x) λa=>aj (rowsOf a) λxs=>
   aj (A0 s lo) λl=>aj (zP s xs R) λh=>
   (0<=l/\l<=h/\h<=xs.length)/\(∀r∈xs,r.length=z)/\K (.dat (Pf a xs l h) none) s
 | .nc x=>aj (bX s x) fun
   | .ptr b o=>K (.ptr b o) s
   | .rp cs=>K (.rp cs) s
   | .dat (.fn (.func f) as V) q=>K (.dat (.fn (.func f) as V) q) s
   | .dat (.ref cs) _=>K (.rp cs) s
   |_=>False
 | .mm mx args=>aj (ei s args) fun
   |[]=>False
   |a::r=>aj (r.foldlM (UY mx) a) λv=>K (.dat v none) s
 | .xt e x=>aj (aL s x) λa=>aj (xtA e a) λv=>K (.dat v none) s
 | .Zl x n z=>aj (bX s x) fun
   | .rp cs=>n*z<=cs.length/\K (.dat (.sl (dI z n cs)) none) s
   | .ptr b off=>4<=b/\aj (cj b s.boxes) λbx=>n*z<=(bx.cells.drop off).length/\K (.dat (.sl (dI z n (bx.cells.drop off))) none) (iC [b] [bx.cells] s)
   |_=>False
 | .isn neg x=>aj (aL s x) λa=>aj (Kt neg a) λb=>K (.dat (.bool b) none) s
 | .gK g args=>aj (aL s g) fun
   | .fn (.func f) [] []=>aj (ej true s args) λp=>dS p.2=true/\aj (aW s.boxes p.2) λcss=>
     ∃r fr D,C.p f css p.1 r fr D/\K (.dat r (fr.map λ_=>id)) {s with boxes:=dR p.2 D s.boxes,live:=match fr with|some e=>(id,e)::s.live|none=>s.live}
   |_=>False
 | .DX f args=>aj (ej true s args) λp=>dS p.2=true/\aj (fj s.boxes p.2) λcss=>
   ∃r,C.p f css p.1 r none css/\K (.dat r none) s
 | .tR g args=>aj (aL s g) fun
   | .fn (.func f) [] []=>aj (ej true s args) λp=>dS p.2=true/\aj (fj s.boxes p.2) λcss=>
     ∃r,C.p f css p.1 r none css/\K (.dat r none) s
   |_=>False
 | .slV x n z R=>aj (bX s x) fun
   | .ptr b off=>aj (aL s R) λa=>aj (idxOf a) λh=>(0<=h/\h<=n)/\K (.vs b off h.toNat z) s
   |_=>False
 | .FV e z bytes y x=>aj (bX s y) fun
   | .vs b off n O=>aj (bX s x) fun
     | .ptr Z _=>(Z=b/\O=z)/\aj (cj b s.boxes) λbx=>(n*z<=(bx.cells.drop off).length/\n*bytes<=140737488355328)/\
       (if n=0 then K (.dat .aZ none) s else K (.dat (.sl (dI z n (bx.cells.drop off))) (some id)) {s with live:=(id,e)::s.live})
     |_=>False
   |_=>False
 | .ixB x i=>aj (aL s x) fun
   | .str b=>aj (aL s i) λa=>aj (idxOf a) λj=>aj (Ms b j) λv=>K (.dat v none) s
   |_=>False
 | .Zb x L=>aj (bX s x) fun
   | .pt 2 ps=>match L,ps with
    |none,(b,o)::_=>K (.ptr b o) s
    |some n,ps=>n<=ps.length/\K (.pt 0 (ps.take n)) s
    |_,_=>False
   |_=>False
 | .vX f args=>aj (ej true s args) λp=>dS p.2=true/\aj (aW s.boxes p.2) λcss=>
   ∃v D,C.q f css p.1 v D/\K (.dat v none) {s with boxes:=dR p.2 D s.boxes}
def F1(n:Nat) (a:AV) (id:Nat):SV->SV
 | .raw D L=>bif D==q&&L==n then .dat a (some id)else .raw D L
 |v=>v
def F2(q n:Nat) (a:AV) (id:Nat):List (Nat×SV)->List (Nat×SV)
 |[]=>[]
 |(t,v)::r=>(t,F1 q n a id v)::F2 q n a id r
def U7(ps:List (Nat×Nat)):SV->SV
 | .ptr D o=>bif D==b then .pt 2 (ps.drop o)else .ptr D o
 |v=>v
def F3(b:Nat) (ps:List (Nat×Nat)):List (Nat×SV)->List (Nat×SV)
 |[]=>[]
 |(t,v)::r=>(t,U7 b ps v)::F3 b ps r
def Ji(z:Nat) (rows:List (List AV)):Bool:=rows.all λr=>r.length==z&&r.all kO
def dF(o:IY) (K:SV->S->Prop) (X:AV->S->Prop) (s:S):Prop:=
 match o with
 | .o c=>bF C id c K s
 | .call f args=>bF C id (.call f args) K s\/(aj (ei s args) λas=>(∃cs,C.n f as cs/\K (.ptr id 0) {s with boxes:=(id,⟨cs,[]⟩)::s.boxes})\/(∃p,C.q f [] (as.map some) p []/\X p s)\/
   ∃rows e z,C.c f as (.sl rows) (some e)/\Ji z rows=true/\K (.vs id 0 rows.length z) {s with boxes:=(id,⟨rows.flatten,[]⟩)::s.boxes})
 | .ew f args=>bF C id (.ew f args) K s\/aj (ej true s args) λp=>dS p.2=true/\aj (aW s.boxes p.2) λcss=>
   (∃v D,C.q f css p.1 v D/\X v {s with boxes:=dR p.2 D s.boxes})\/QI C f css p.1 p.2 id s.boxes s.live λv bx lv=>K v {s with boxes:=bx,live:=lv}
 | .gy b g args=>match bX s g with
   |some (.nX f as L)=>aj (ej true s args) λp=>dS (p.2++L)=true/\aj (aW s.boxes (p.2++L)) λcss=>
     (∃r fr D,C.p f css (p.1++as) r fr D/\K (.dat r (fr.map λ_=>id)) {s with boxes:=dR (p.2++L) D s.boxes,live:=match fr with|some e=>(id,e)::s.live|none=>s.live})\/
     (∃v D,C.q f css (p.1++as) v D/\X v {s with boxes:=dR (p.2++L) D s.boxes})\/QI C f css (p.1++as) (p.2++L) id s.boxes s.live λv bx lv=>K v {s with boxes:=bx,live:=lv}
   |_=>bF C id (if b then .gK g args else .gy g args) K s
 | .mkc f caps=>aj (ej false s caps) λp=>K (.nX f p.1 p.2) s
 | .S0 x=>aj (aL s x) λa=>jh a=true/\X a s
 | .mkI t x=>aj (aL s x) λa=>iI a none=true/\K (.dat (.iface t a) none) s
 | .tas t z x=>aj (aL s x) λa=>aj (Mt t z a) λv=>K (.dat v none) s
 | .isI neg x=>aj (aL s x) λa=>aj (Pe neg a) λb=>K (.dat (.bool b) none) s
 | .isP neg x=>aj (bX s x) λv=>aj (F0 neg v) λb=>K (.dat (.bool b) none) s
 | .mks e bytes l c=>aj (aL s l) λa=>aj (idxOf a) λl=>aj (aL s c) λb=>aj (idxOf b) λc=>(0<=l/\l<=c/\c*bytes<=140737488355328)/\K (.raw id l.toNat) {s with live:=(id,e)::s.live}
 | .cpy e x y=>aj (bX s x) fun
   | .raw q n=>aj (aL s y) λb=>aj (rowsOf b) λM=>(M.length=n/\∀r∈M,r.length=1)/\d9 q s.live=some e/\
     K (.dat (.int .i64 n) none) {s with slots:=F2 q n (.sl M) id s.slots,live:=(id,e)::jT q s.live}
   |_=>False
 | .Zm x=>aj (bX s x) fun
   | .ptr b o=>K (.pt 0 [(b,o)]) s
   |_=>False
 | .Zn x=>aj (bX s x) fun
   | .pt 0 ps=>K (.pt 2 ps) s
   |_=>False
 | .stp x v=>aj (bX s x) fun
   | .ptr b 0=>aj (bX s v) fun
     | .pt 0 ps=>aj (cj b s.boxes) λy=>(4<=b/\y.cells.length=1/\ps.length=1)/\K .undef {s with slots:=F3 b ps s.slots,boxes:=mI b s.boxes}
     |_=>False
   |_=>False
 | .Zo xs=>aj (DZ s xs) λps=>K (.pt 1 ps) s
 | .iap x i=>aj (bX s x) fun
   | .pt 1 ps=>aj (aL s i) λa=>aj (idxOf a) λi=>(0<=i/\i<ps.length)/\K (.pt 2 (ps.drop i.toNat)) s
   |_=>False
 | .lnp x=>aj (bX s x) fun
   | .pt 1 ps=>K (.dat (.int .i64 ps.length) none) s
   |_=>False
 | .QH g args=>aj (aL s g) fun
   | .fn (.func f) [] []=>aj (ej true s args) λp=>dS p.2=true/\aj (aW s.boxes p.2) λcss=>∃j o b,C.r f css p.1 j o/\p.2[j]? =some b/\K (.ptr b o) {s with boxes:=dR p.2 css s.boxes}
   |_=>False
 | .apn e z bytes y=>aj (aL s y) λa=>aj (rowsOf a) λrows=>(rows≠[]/\rows.length*bytes<=140737488355328)/\Ji z rows=true/\K (.vs id 0 rows.length z) {s with boxes:=(id,⟨rows.flatten,[]⟩)::s.boxes}
def gq(g:Option (Nat×Bool)) (yes no:Prop):Prop:=
 match g with
 |none=>yes
 |some (t,want)=>match lk t s.slots with
  |some (.dat (.bool b) _)=>(b=want->yes)/\(b=!want->no)
  |some .undef=>no
  |_=>False
def jM(C:aT) (base:Nat):Nat->List CO->(S->Prop)->S->Prop
 |_,[],K,s=>K s
 |i,o::r,K,s=>gq s o.g
   (bF C (base+i) o.op (λv D=>jM C base (i+1) r K (D.put o.dst v)) s)
   (jM C base (i+1) r K (s.put o.dst .undef))
def ji(C:aT) (base:Nat):Nat->List XO->(S->Prop)->(AV->S->Prop)->S->Prop
 |_,[],K,_,s=>K s
 |i,o::r,K,X,s=>gq s o.g
   (dF C (base+i) o.op (λv D=>ji C base (i+1) r K X (D.put o.dst v)) X s)
   (ji C base (i+1) r K X (s.put o.dst .undef))
def jU(k:S->Prop) (Q:Exit->S->Prop):Exit->S->Prop
 | .normal,s=>k s
 |e,s=>Q e s
def jN:Exit->S->Prop
 | .exit D,s=>if D=id then Q .normal s else Q (.exit D) s
 |e,s=>Q e s
def I3:Nat:=(d9 q m).getD q
def A4(nx:Nat):SV->SV->Prop
 | .dat a _,.dat a' none=>a=a'
 | .dat a (some q),.dat a' (some V)=>a=a'/\q=I3 m V/\V<nx
 | .ptr b o,.ptr D o'=>b=D/\o=o'/\D<nx
 | .rp cs,.rp R=>cs=R
 | .vs b o n z,.vs D o' n' Z=>(b=D/\o=o')/\(n=n'/\z=Z)/\D<nx
 | .undef,.undef=>True
 | .nX f as bs,.nX f' O M=>f=f'/\as=O/\bs=M/\∀b∈M,b<nx
 | .pt k ps,.pt k' L=>k=k'/\ps=L/\∀p∈L,p.1<nx
 |_,_=>False
def iy(m:List (Nat×Nat)) (nx:Nat) (a:List (Nat×SV)):List (Nat×SV)->Prop
 |[]=>True
 |(t,v)::r=>aj (lk t a) (λu=>A4 m nx u v)/\iy m nx a r
def lu(m:List (Nat×Nat)) (nx:Nat) (a:List (Nat×Nat)):List (Nat×Nat)->Prop
 |[]=>True
 |(o,q)::r=>(d9 o a=some (I3 m q)/\q<nx)/\lu m nx a r
def i9(m:List (Nat×Nat)) (nx:Nat) (a:List (Nat×bV)):List (Nat×bV)->Prop
 |[]=>True
 |(b,x)::r=>aj (cj b a) (λy=>y.cells=x.cells/\lu m nx y.tags x.tags/\b<nx)/\i9 m nx a r
def rG(m:List (Nat×Nat)) (nx:Nat) (a:List (Nat×Nat)):List (Nat×Nat)->Prop
 |[]=>True
 |(q,e)::r=>(d9 (I3 m q) a=some e/\q<nx)/\rG m nx a r
def dr(l:List (Nat×Nat)):Prop:=((l.map λp=>I3 m p.1).Nodup)
def Le(s1:S):Prop:=
 4<=s1.nx/\∃m,iy m s1.nx s.slots s1.slots/\i9 m s1.nx s.boxes s1.boxes/\rG m s1.nx s.live s1.live/\dr m s1.live
def Frz:Prop:=∃ids,(dS ids&&i5 ids)=true/\aj (aW s.boxes ids) λcss=>F (iC ids css s)
def down:Prop:=∃s1,Le s s1/\(F s1\/Frz F s1)\/F s
theorem gX{F:S->Prop} {s:S} (h:F s):down F s:=⟨s,.inr h⟩
theorem oI{F:S->Prop} {s s1:S} (h:Le s s1) (hF:F s1):down F s:=⟨s1,.inl ⟨h,.inl hF⟩⟩
theorem U8{F:S->Prop} {s s1:S} (h:Le s s1) (hF:Frz F s1):down F s:=⟨s1,.inl ⟨h,.inr hF⟩⟩
def tU(F:(Exit->S->Prop)->S->Prop) (Q:Exit->S->Prop):Nat->S->Prop
 |0,_=>False
 |n+1,s=>F (jU (down (tU F Q n)) Q) s
def aR.rd:aR->List Nat
 | .t n=>[n]
 | .k _=>[]
def QJ:Option aR->List Nat
 |some x=>x.rd
 |none=>[]
def bg:List aR->List Nat
 |[]=>[]
 |x::r=>x.rd++bg r
def A5:List (Nat×Nat×aR)->List Nat
 |[]=>[]
 |(_,_,x)::r=>x.rd++A5 r
def bU.rd:bU->List Nat
 | .mv x=>x.rd
 | .pick c a b=>c.rd++a.rd++b.rd
 | .alloc _=>[]
 | .box x=>x.rd
 | .build _ ps=>A5 ps
 | .U6 _ _ xs=>bg xs
 | .ld x _=>x.rd
 | .st x v _=>x.rd++v.rd
 | .fa x _=>x.rd
 | .Pd x i _ _=>x.rd++i.rd
 | .Za x i _=>x.rd++i.rd
 | .Jg x _ _=>x.rd
 | .FT x i _ _ _=>x.rd++i.rd
 | .bin _ x y=>x.rd++y.rd
 | .eqc _ _ x y=>x.rd++y.rd
 | .bb _ x y=>x.rd++y.rd
 | .un _ x=>x.rd
 | .vQ _ x=>x.rd
 | .I1 _ x=>x.rd
 | .Mp _ x=>x.rd
 | .FU x=>x.rd
 | .Mq x=>x.rd
 | .Mr _=>[]
 | .app _ _ _ x y=>x.rd++y.rd
 | .call _ args=>bg args
 | .ew _ args=>bg args
 | .gy g args=>g.rd++bg args
 | .ext x _=>x.rd
 | .vV _ a b=>bg a++bg b
 | .Zk _ x lo D=>x.rd++QJ lo++QJ D
 | .nc x=>x.rd
 | .mm _ args=>bg args
 | .xt _ x=>x.rd
 | .Zl x _ _=>x.rd
 | .ixB x i=>x.rd++i.rd
 | .isn _ x=>x.rd
 | .gK g args=>g.rd++bg args
 | .DX _ args=>bg args
 | .tR g args=>g.rd++bg args
 | .slV x _ _ D=>x.rd++D.rd
 | .FV _ _ _ y x=>y.rd++x.rd
 | .Zb x _=>x.rd
 | .vX _ args=>bg args
def bU.isApp:bU->Bool
 | .app ..=>true
 |_=>false
def bU.y6:bU->List Nat
 | .ld x _=>x.rd
 | .st x _ _=>x.rd
 | .ew _ args=>bg args
 | .gK _ args=>bg args
 | .DX _ args=>bg args
 | .tR _ args=>bg args
 | .vX _ args=>bg args
 | .vV _ _ b=>bg b
 | .Zl x _ _=>x.rd
 | .FV _ _ _ _ x=>x.rd
 |_=>[]
def bU.QK:bU->List Nat
 | .st x _ _=>x.rd
 | .ew _ args=>bg args
 | .vX _ args=>bg args
 | .gK _ args=>bg args
 | .vV _ _ b=>bg b
 | .Zl x _ _=>x.rd
 |_=>[]
def bU.D6:bU->Bool
 | .vV _ _ b=>!b.isEmpty
 | .Zl ..=>true
 |_=>false
def bU.v7:bU->List Nat
 | .mv x| .fa x _| .Pd x _ _ _| .Za x _ _| .nc x| .FU x| .Zb x _| .slV x _ _ _=>x.rd
 | .pick _ a b=>a.rd++b.rd
 |_=>[]
def bU.U9:bU->Bool
 | .alloc _| .box _=>true
 |_=>false
def bU.ro:bU->bU
 | .ew f args=>.DX f args
 | .gK g args=>.tR g args
 |o=>o
def CO.ro(o:CO):CO:=⟨o.dst,o.op.ro,o.g⟩
def lY(ro:List Nat):Nat->List CO->List CO
 |_,[]=>[]
 |i,o::r=>(bif ro.contains i then o.ro else o)::lY ro (i+1) r
theorem tV:∀{i:Nat} {l:List CO},lY [] i l=l
 |_,[]=>rfl
 |i,o::l=>by show o::lY [] (i+1) l=_;rw[tV]
def CZ(D:List Nat) (i:Nat) (o:CO):CO:=
 if i=k then(match o.op with| .ew f args=>⟨o.dst,.vX f args,o.g⟩|_=>o)else if D.contains i=true then⟨none,.mv (.k .tQ),none⟩else o
def qB(k:Nat) (D:List Nat):Nat->List CO->List CO
 |_,[]=>[]
 |i,o::r=>CZ k D i o::qB k D (i+1) r
def CO.rd(o:CO):List Nat:=o.op.rd++(match o.g with|some (t,_)=>[t]|none=>[])
abbrev Tag:=Option (Option Nat)
def Tag.CX:Tag->Nat->Bool
 |none,_=>true
 |some z,b=>z==some b
def Tag.dis:Tag->Tag->Bool
 |some none,_=>true
 |_,some none=>true
 |some (some a),some (some b)=>a !=b
 |_,_=>false
def look:List (Nat×Tag)->Nat->Tag
 |[],_=>none
 |(t,z)::r,n=>bif n==t then z else look r n
def CO.indep:Bool:=
 (match x.dst with|some d=>!y.rd.contains d&&y.dst !=some d|none=>true)&&
 (match y.dst with|some d=>!x.rd.contains d|none=>true)&& !(x.op.isApp&&y.op.isApp)
def CO.half(T:List (Nat×Tag)) (x y:CO):Bool:=
 x.op.QK.all λt=>y.op.y6.all (λu=>(look T t).dis (look T u))&&(!x.op.D6||y.rd.all λu=>(look T t).dis (look T u))
def CO.v8(T:List (Nat×Tag)) (x y:CO):Bool:=x.indep y&&x.half T y&&y.half T x
def CO.apart:Bool:=x.v8 [] y
def acU(T:List (Nat×Tag)):List Nat->Tag
 |[]=>some none
 |[t]=>look T t
 |t::r=>if look T t==acU T r then look T t else none
def Va(T:List (Nat×Tag)) (base:Nat):Nat->List CO->List (Nat×Tag)
 |_,[]=>T
 |i,o::r=>Va (match o.dst with|some t=>(t,if o.op.U9 then some (some (base+i))else acU T o.op.v7)::T|none=>T) base (i+1) r
def zQ:List (Nat×SV)->List (Nat×Tag)
 |[]=>[]
 |(t,.ptr b _)::r=>(t,some (some b))::zQ r
 |(t,.vs b _ _ _)::r=>(t,some (some b))::zQ r
 |(t,.pt _ [(b,_)])::r=>(t,some (some b))::zQ r
 |(t,.pt _ _)::r=>(t,none)::zQ r
 |(t,_)::r=>(t,some none)::zQ r
def m7(T:List (Nat×Tag)):List (Nat×SV)->Bool
 |[]=>true
 |(t,.ptr b _)::r=>(look T t).CX b&&m7 T r
 |(t,.vs b _ _ _)::r=>(look T t).CX b&&m7 T r
 |(t,.pt _ ps)::r=>(ps.all λp=>(look T t).CX p.1)&&m7 T r
 |(_,_)::r=>m7 T r
def tW(T:List (Nat×Tag)) (id:Nat) (o:CO):Bool:=
 match o.dst with
 |none=>true
 |some t=>match look T t with
  |none=>true
  |some z=>if o.op.U9 then z==some id else o.op.v7.all λu=>match look T u with|some D=>D==none||D==z|none=>false
def m8(T:List (Nat×Tag)) (base:Nat):Nat->List CO->Bool
 |_,[]=>true
 |i,o::r=>tW T (base+i) o&&m8 T base (i+1) r
def A6(T:List (Nat×Tag)) (ops:List CO):List (Nat×Nat)->Bool
 |[]=>true
 |(i,j)::r=>(match ops[i]?,ops[j]? with|some x,some y=>x.v8 T y|_,_=>false)&&A6 T ops r
def Zq(T:List (Nat×Tag)) (ops:List CO) (dG:List (Nat×Nat)) (base:Nat) (sl:List (Nat×SV)):Bool:=m7 T sl&&m8 T base 0 ops&&A6 T ops dG
def qI(sl:List (Nat×SV)):Bool:=Zq (Va (zQ sl) base 0 ops) ops dG base sl
def uU:List Nat->List AV->S->S
 |p::ps,x::xs,s=>uU ps xs (s.put (some p) (.dat x none))
 |_,_,s=>s
def qC(wr:List Nat):List (Nat×SV)->List (Nat×SV)
 |[]=>[]
 |(t,v)::r=>bif wr.contains t then qC wr r else(t,v)::qC wr r
def yV:S:={s with slots:=qC wr s.slots}
def Vb:Exit->S->Prop
 | .normal,s=>down F (yV wr s)
 | .ret,s=>Q .ret (yV wr s)
 | .exit id,s=>Q (.exit id) (yV wr s)
 |_,_=>False
def F4:Exit->S->Prop
 | .normal,s=>K s
 |_,_=>False
def tX(l:Nat) (K:S->Prop) (Q:Exit->S->Prop):Exit->S->Prop
 | .goto D,s=>D=l/\K s
 |e,s=>Q e s
def Ku:Exit->S->Prop
 | .goto _,_=>False
 |e,s=>Q e s
def S3:Prop:=
 ∃ro,qI (lY ro 0 ops) dG s.nx s.slots=true/\jM C s.nx 0 (lY ro 0 ops) K s
def adV(D ds:List Nat) (X:AV->S->Prop) (s:S):Prop:=
 qI (qB k D 0 ops) dG s.nx s.slots=true/\jM C s.nx 0 (qB k D 0 ops) (λL=>∃d p,(ops[k]?).bind CO.dst=some d/\lk d L.slots=some (.dat p none)/\X p (yV ds L)) s
def aw(C:aT):aS->(Exit->S->Prop)->S->Prop
 | .skip,Q,s=>Q .normal s
 | .Jh ops,Q,s=>jM C s.nx 0 ops (λs'=>Q .normal {s' with nx:=s.nx+ops.length}) s
 | .seq a b,Q,s=>aw C a (jU (aw C b Q) Q) s
 | .join a b,Q,s=>aw C a (jU (down (aw C b Q)) Q) s
 | .cond c a b,Q,s=>aj (aL s c) fun
   | .bool t=>(t=true->aw C a Q s)/\(t=false->aw C b Q s)
   |_=>False
 | .block id c,Q,s=>aw C c (jN id Q) s
 | .loop c,Q,s=>down (λs=>∃n,tU (aw C c) Q n s) s
 | .exit id,Q,s=>Q (.exit id) s
 | .ret,Q,s=>Q .ret s
 | .scope l c r,Q,s=>aw C c (tX l (aw C r (Ku Q)) Q) s
 | .label _,Q,s=>Q .normal s
 | .goto l,Q,s=>Q (.goto l) s
 | .qy ops,Q,s=>ji C s.nx 0 ops (λs'=>Q .normal {s' with nx:=s.nx+ops.length}) (λp s'=>Q (.panic (iB p)) {s' with nx:=s.nx+ops.length}) s
 | .sq ops dG,Q,s=>∃ids,(dS ids&&i5 ids)=true/\aj (aW s.boxes ids) λcss=>S3 C ops dG (λs'=>Q .normal {s' with nx:=s.nx+ops.length}) (iC ids css s)
 | .E8 ops dG k D,Q,s=>(∃ids,(dS ids&&i5 ids)=true/\aj (aW s.boxes ids) λcss=>S3 C ops dG (λs'=>Q .normal {s' with nx:=s.nx+ops.length}) (iC ids css s))\/
   adV C ops dG k D (ops.flatMap λo=>o.dst.toList) (λp s'=>Q (.panic (iB p)) {s' with nx:=s.nx+ops.length}) s
 | .vY g ps wr as M,Q,s=>aj (aL s g) λL=>∃xs,C.i L xs/\(∀x∈xs,x.length=ps.length)/\∃F:Nat->S->Prop,down (F 0) s/\(∀i s',F i s'->aL s' g=some L)/\
   (∀i x s',xs[i]? =some x->F i s'->aw C as (F4 (aw C M (Vb wr (F (i+1)) Q))) (uU ps x s'))/\∀s',F xs.length s'->Q .normal s'
def gF:Option Nat:=(P.info? t).map (·.size)
def qD:Bool:=
 match P.underlying t with
 |some (.struct _)|some (.array _ _)=>true
 |_=>false
def A7:Option (Option Nat):=
 match P.underlying t with
 |some (.struct _)|some (.array _ _)=>(gF P t).map some
 |some _=>some none
 |none=>none
def zeroOf:Option (List AV):=
 match(P.info? t).bind (·.zero)with
 |some z=>z.cells.toList.mapM S1
 |none=>none
def dn:Operand->Option aR
 | .tmp t=>some (.t t)
 | .const v=>(ofV v).map .k
 | .func f=>some (.k (.fn (.func f) [] []))
 | .global _=>none
def gU(l:Array Operand):Option (List aR):=l.toList.mapM dn
def A8(s:TypeId) (f:Nat):Option Field:=
 match P.underlying s with
 |some (.struct D)=>D[f]?
 |_=>none
def Mw(P:Program) (rec:TypeId->Option (List CK)):List Field->Nat->Option (List CK)
 |[],_=>some []
 |f::fs,off=>
  if f.name = "_" ∨ f.offset ≠ off then none else
  match rec f.type with
  |some ks=>if gF P f.type=some ks.length/\0<ks.length then(Mw P rec fs (off+ks.length)).map (ks++·)else none
  |none=>none
def pn(P:Program):Nat->TypeId->Option (List CK)
 |0,_=>none
 |d+1,t=>match P.underlying t with
  |some .bool=>some [.b]
  |some (.int _)=>some [.i]
  |some (.float _)=>some [.f]
  |some .string=>some [.s]
  |some (.struct L)=>if P.stoodInHeld t then none else Mw P (pn P d) L.toList 0
  |some (.array n e)=>match pn P d e with
   |some D=>if gF P e=some D.length then some (List.replicate n D).flatten else none
   |none=>none
  |_=>none
def cEq(neg:Bool) (x y:aR):Option bU:=
 match pn P 20 t with
 |some D=>if qD P t&& !P.eqGuardType P.depth t then some (.eqc D neg x y)else none
 |none=>none
def QL:Bool:=
 match P.underlying t with
 |some (.int _)|some (.float _)=>true
 |_=>false
def Vc:Bool:=
 match P.underlying t with
 |some .bool=>true
 |_=>false
end
section
variable (P:Program) (ops:List Oper) (t:TypeId) (c:Call) (cos:List CO) (dG:List (Nat×Nat)) (f:FuncId) (i:Nat)
def bZ:Bool:=
 match P.funcs[f]? with
 | some fn => fn.name != "runtime.NumGoroutine" && fn.body.isSome
 |none=>false
def QM:Option (Nat×Nat):=
 match P.underlying t with
 |some (.struct D)=>match D[i]? with
  |some f=>(gF P f.type).map λz=>(f.offset,z)
  |none=>none
 |some (.array _ e)=>(gF P e).map λz=>(i*z,z)
 |_=>none
def C0(P:Program) (t:TypeId):List (Nat×Operand)->Option (List (Nat×Nat×aR))
 |[]=>some []
 |(i,x)::r=>match QM P t i,dn x,C0 P t r with
  |some (o,z),some x,some ps=>some ((o,z,x)::ps)
  |_,_,_=>none
def sliceB:Bool:=match P.underlying t with|some (.slice _)=>true|_=>false
def Kv:Bool:=
 match P.underlying t with
 |some (.struct D)=>D.toList.all λf=>(gF P f.type).isSome
 |some (.array _ e)=>(gF P e).isSome
 |_=>false
def v9(zs:Nat):List (Nat×Nat×aR)->Bool
 |[]=>true
 |(o,z,_)::r=>decide (o+z<=zs)&&v9 zs r
def cOpt:Option Operand->Option (Option aR)
 |none=>some none
 |some x=>(dn x).map some
def Mx(s d:TypeId) (x:aR):Option bU:=
 match P.underlying s,P.underlying d with
 |some (.int _),some (.int k)=>some (.vQ k x)
 |some (.int _),some (.float k)=>some (.I1 k x)
 |some (.float _),some (.int k)=>some (.Mp k x)
 |_,_=>none
def Fb:Bool:=match P.underlying t with|some (.pointer _)=>true|_=>false
def Pj:Bool:=
 match P.underlying t with
 |some (.struct D)=>match D.toList with
  |[f]=>Fb P f.type&&f.offset==0&&gF P f.type==some 1
  |_=>false
 |_=>false
def tY(P:Program):List TypeId->Bool
 |[]=>false
 |t::r=>(Fb P t||Pj P t)||tY P r
def adW:Option Xt:=
 match P.funcs[f]? with
 |some fn=>if fn.body.isNone&&(Extern.findNext fn).isNone then
   if fn.name == "math.Float64bits" then some .Mo
   else if fn.name == "math.Float64frombits" then some .ffrom
   else if fn.name == "math.RoundToEven" then some .rte
   else none
  else none
 |none=>none
def y7:Option bU:=
 match c.callee with
 | .value (.func f)=>if bZ P f then(gU c.args).map (if tY P c.argTypes.toList then .ew f else .call f)
  else match adW P f,c.args.toList with
   |some e,[x]=>(dn x).map (.xt e)
   |_,_=>none
 | .value g=>match dn g,gU c.args with
  |some g,some as=>some (if tY P c.argTypes.toList then .gK g as else .gy g as)
  |_,_=>none
 | .builtin .len=>match c.argTypes[0]?,c.args[0]? with
  |some t,some x=>match P.underlying t with
   |some (.slice _)=>(dn x).map .Mq
   |some (.array n _)=>some (.Mr n)
   |_=>none
  |_,_=>none
 | .builtin .append=>match c.argTypes.toList,c.args.toList with
  |[t,D],[x,y]=>if t=D then match P.underlying t,dn x,dn y with
    |some (.slice e),some x,some y=>match P.info? e with
     |some i=>match i.zero with
      |some z=>if 0<i.size&&z.cells.size==i.size&&0<i.bytes then some (.app e i.size i.bytes x y)else none
      |none=>none
     |none=>none
    |_,_,_=>none
   else none
  |_,_=>none
 | .builtin .max=>(gU c.args).map (.mm true)
 | .builtin .min=>(gU c.args).map (.mm false)
 |_=>none
def Zc:Op->Option bU
 | .move x| .assign x=>(dn x).map .mv
 | .pick c a b=>match dn c,dn a,dn b with
  |some c,some a,some b=>some (.pick c a b)
  |_,_,_=>none
 | .alloc t=>(zeroOf P t).map .alloc
 | .box _ x=>(dn x).map .box
 | .build t ps=>match zeroOf P t,C0 P t ps.toList with
  |some zs,some ps=>if v9 zs.length ps&&Kv P t then some (.build zs ps)else none
  |_,_=>none
 | .buildSlice t n ps=>match P.underlying t with
  |some (.slice e)=>match zeroOf P e,gF P e,ps.toList.mapM (λp=>dn p.2)with
   |some zs,some z,some xs=>if n*z<=16777216&&0<z&&zs.length==z&&ps.toList.map (·.1)==List.range n then some (.U6 e z xs)else none
   |_,_,_=>none
  |_=>none
 | .load t x=>match A7 P t,dn x with
  |some r,some x=>some (if Fb P t||Pj P t then .Zb x r else .ld x r)
  |_,_=>none
 | .store t x v=>match gF P t,dn x,dn v with
  |some z,some x,some v=>some (.st x v z)
  |_,_,_=>none
 | .nilCheck x=>(dn x).map .nc
 | .binOp op t x y _=>match dn x,dn y with
  |some x,some y=>
   if QL P t then some (.bin op x y)
   else if Vc P t then(match op with| .eql=>some (.bb false x y)| .neq=>some (.bb true x y)|_=>none)
   else if sliceB P t then(match op,y with| .eql,.k .aZ=>some (.isn false x)| .neq,.k .aZ=>some (.isn true x)|_,_=>none)
   else match op with
    | .eql=>cEq P t false x y
    | .neq=>cEq P t true x y
    |_=>none
  |_,_=>none
 | .unOp op _ x=>(dn x).map (.un op)
 | .convert s d x=>(dn x).bind (Mx P s d)
 | .fieldAddr s x f=>match A8 P s f,dn x with
  |some D,some x=>if gF P D.type==some 0||(gF P D.type).isNone then none else some (.fa x D.offset)
  |_,_=>none
 | .field s x f=>match A8 P s f,dn x with
  |some D,some x=>(A7 P D.type).map (.Jg x D.offset)
  |_,_=>none
 | .indexAddr t x i=>match P.underlying t,dn x,dn i with
  |some (.array n e),some x,some i=>(gF P e).map (.Pd x i n)
  |some (.slice e),some x,some i=>(gF P e).map (.Za x i)
  |_,_,_=>none
 | .index t x i=>match P.underlying t,dn x,dn i with
  |some (.array n e),some x,some i=>match gF P e,A7 P e with
   |some z,some r=>some (.FT x i n z r)
   |_,_=>none
  |some .string,some x,some i=>some (.ixB x i)
  |_,_,_=>none
 | .extract x i=>(dn x).map (.ext · i)
 | .makeFunc (.func f) a b=>match gU a,gU b with
  |some a,some b=>if bZ P f then some (.vV (.func f) a b)else none
  |_,_=>none
 | .slice t x lo L none=>match P.underlying t,dn x,cOpt lo,cOpt L with
  |some (.slice e),some x,some lo,some L=>(gF P e).map λz=>.Zk z x lo L
  |some (.array n e),some x,some none,some none=>(gF P e).map λz=>.Zl x n z
  |some (.array n e),some x,some none,some (some L)=>(gF P e).map λz=>.slV x n z L
  |_,_,_,_=>none
 | .call c=>y7 P c
 |_=>none
def ain(y:Nat):Option Operand:=
 match ops.find? (λo=>o.dst==some y)with
 |some o=>match o.op with
  | .slice t x none (some _) none=>match P.underlying t with
   |some (.array _ _)=>some x
   |_=>none
  |_=>none
 |none=>none
def zR:Op->Option bU
 | .call c=>match c.callee,c.argTypes.toList,c.args.toList with
  | .builtin .append,[t,D],[.const (.slice none 0 0),.tmp y]=>if t=D then match P.underlying t,(ain P ops y).bind dn with
    |some (.slice e),some x=>match P.info? e with
     |some i=>match i.zero with
      |some z=>if 0<i.size&&z.cells.size==i.size&&0<i.bytes then some (.FV e i.size i.bytes (.t y) x)else none
      |none=>none
     |none=>none
    |_,_=>none
   else none
  |_,_,_=>none
 |_=>none
def adX:Operand->Bool
 | .tmp y=>match ops.find? (λo=>o.dst==some y)with
  |some o=>match o.op with
   | .fieldAddr .. | .indexAddr ..=>true
   |_=>false
  |none=>false
 |_=>false
def S4:Op->Option bU
 | .load t x=>if Fb P t&& !adX ops x then match A7 P t,dn x with
   |some r,some x=>some (.ld x r)
   |_,_=>none
  else none
 |_=>none
def Vd(o:Op):Option bU:=
 match zR P ops o with
 |some c=>some c
 |none=>match S4 P ops o with
  |some c=>some c
  |none=>Zc P o
def Kw(ops:Array Oper):Option (Nat×Bool)->Option (Option (Nat×Bool))
 |none=>some none
 |some (j,w)=>match(ops[j]?).bind (·.dst)with
  |some t=>some (some (t,w))
  |none=>none
def qJ(ops:Array Oper) (o:Oper):Option CO:=
 match Vd P ops.toList o.op,Kw ops o.guard with
 |some c,some g=>some ⟨o.dst,c,g⟩
 |_,_=>none
def zS(P:Program) (ops:Array Oper):List Oper->Option (List CO)
 |[]=>some []
 |o::r=>match qJ P ops o,zS P ops r with
  |some c,some cs=>some (c::cs)
  |_,_=>none
def waits(L:Oper):Bool:=
 L.after.any λe=>Region.binds .any e&&(e.on==i||match ops[e.on]? with
  |some ok=>ok.after.any λD=>Region.binds .any D&&D.on==i
  |none=>false)
def qK(dG:List (Nat×Nat)) (ops:List Oper) (i:Nat) (x:CO):Nat->List Oper->List CO->Bool
 |j,D::os,y::L=>(decide (j<=i)||D.after.any (λe=>Region.binds .any e&&e.on==i)||x.apart y||waits ops i D||dG.contains (i,j))&&qK dG ops i x (j+1) os L
 |_,_,_=>true
def pz(dG:List (Nat×Nat)) (ops:List Oper) (cos:List CO):Nat->List Oper->List CO->Bool
 |i,D::os,x::xs=>D.after.all (λe=>!Region.binds .any e||decide (e.on<i))&&qK dG ops i x 0 ops cos&&pz dG ops cos (i+1) os xs
 |_,_,_=>true
def kH(ops:List Oper) (cos:List CO):Bool:=pz dG ops cos 0 ops cos
def Ve(ops:List Oper) (i:Nat) (x:CO):Nat->List Oper->List CO->List (Nat×Nat)
 |j,D::os,y::L=>(if decide (j<=i)||D.after.any (λe=>Region.binds .any e&&e.on==i)||x.apart y||waits ops i D then[]else[(i,j)])++Ve ops i x (j+1) os L
 |_,_,_=>[]
def Fh(ops:List Oper) (cos:List CO):Nat->List CO->List (Nat×Nat)
 |i,x::xs=>Ve ops i x 0 ops cos++Fh ops cos (i+1) xs
 |_,[]=>[]
def QN(cos:List CO):List (Nat×Nat)->Bool
 |[]=>true
 |(i,j)::r=>(match cos[i]?,cos[j]? with|some x,some y=>x.indep y|_,_=>false)&&QN cos r
def zeroV:Option AV:=((P.info? t).bind (·.zero)).bind ofV
def tZ:Bool:=match P.underlying t with|some (.interface _)=>true|_=>false
def Vf:Option IY:=
 match c.callee with
 | .value (.func f)=>if bZ P f then(gU c.args).map (if tY P c.argTypes.toList then .ew f else .call f)else none
 | .value (.tmp g)=>(gU c.args).map (.gy (tY P c.argTypes.toList) (.t g))
 | .builtin .copy=>match c.argTypes.toList,c.args.toList with
  |[t,_],[x,y]=>match P.underlying t,dn x,dn y with
   |some (.slice e),some x,some y=>if gF P e==some 1 then some (.cpy e x y)else none
   |_,_,_=>none
  |_,_=>none
 |_=>none
def aio(op:BinOp) (t:TypeId) (x y:Operand):Option IY:=
 match op,y with
 | .eql,.const .nilIface=>if tZ P t then(dn x).map (.isI false)else none
 | .neq,.const .nilIface=>if tZ P t then(dn x).map (.isI true)else none
 | .eql,.const (.pointer none)=>if Fb P t then(dn x).map (.isP false)else none
 | .neq,.const (.pointer none)=>if Fb P t then(dn x).map (.isP true)else none
 |_,_=>none
def Vg:Option IY:=
 match c.callee with
 | .value (.tmp g)=>if Fb P t then(gU c.args).map (.QH (.t g))else none
 |_=>none
def xPt:Op->Option IY
 | .box t x=>if Pj P t then(dn x).map .Zn else none
 | .build t ps=>if Pj P t then match zeroOf P t,ps.toList with
   |some [_],[(0,x)]=>(dn x).map .Zm
   |_,_=>none
  else none
 | .buildSlice t n ps=>match P.underlying t with
  |some (.slice e)=>if Fb P e then match zeroOf P e,ps.toList.mapM (λp=>dn p.2)with
    |some [_],some xs=>if 0<n&&n<=16777216&&gF P e==some 1&&ps.toList.map (·.1)==List.range n then some (.Zo xs)else none
    |_,_=>none
   else none
  |_=>none
 | .indexAddr t x i=>match P.underlying t with
  |some (.slice e)=>if Fb P e&&gF P e==some 1 then match dn x,dn i with
    |some x,some i=>some (.iap x i)
    |_,_=>none
   else none
  |_=>none
 | .store t x v=>if Pj P t&&gF P t==some 1 then match dn x,dn v with
   |some x,some v=>some (.stp x v)
   |_,_=>none
  else none
 | .call c=>match c.callee,c.argTypes.toList,c.args.toList with
  | .builtin .len,[t],[x]=>match P.underlying t with
   |some (.slice e)=>if Fb P e then(dn x).map .lnp else none
   |_=>none
  |_,_,_=>Vg P t c
 |_=>none
def adY:Option IY:=
 match y7 P c with
 |some (.app e z b (.k .aZ) y)=>some (.apn e z b y)
 |_=>none
def Zr:Op->Option IY
 | .panic x=>(dn x).map .S0
 | .makeSlice t l c=>match P.underlying t,dn l,dn c with
  |some (.slice e),some l,some c=>match P.info? e with
   |some i=>if i.size==1&&i.zero.isSome&&decide (0<i.bytes)then some (.mks e i.bytes l c)else none
   |none=>none
  |_,_,_=>none
 | .makeInterface t x=>if tZ P t||(P.underlying t).isNone then none else(dn x).map (.mkI t)
 | .typeAssert x _ t true=>if tZ P t||(P.underlying t).isNone then none else match zeroV P t,dn x with
  |some z,some x=>some (.tas t z x)
  |_,_=>none
 | .binOp op t x y _=>aio P op t x y
 | .makeFunc (.func f) a b=>if a.isEmpty&& !b.isEmpty&&bZ P f then(gU b).map (.mkc f)else none
 | .call c=>match adY P c with
  |some x=>some x
  |none=>Vf P c
 |_=>none
def xOp(o:Op):Option IY:=
 match xPt P t o with
 |some x=>some x
 |none=>Zr P o
def we(ops:Array Oper) (o:Oper):Option XO:=
 match xOp P o.type o.op with
 |some x=>match Kw ops o.guard with
  |some g=>some ⟨o.dst,x,g⟩
  |none=>none
 |none=>(qJ P ops o).map λc=>⟨c.dst,.o c.op,c.g⟩
def wg(P:Program) (ops:Array Oper):List Oper->Option (List XO)
 |[]=>some []
 |o::r=>match we P ops o,wg P ops r with
  |some c,some cs=>some (c::cs)
  |_,_=>none
def My:List XO->List Nat
 |[]=>[]
 |o::r=>(match o.dst with|some d=>[d]|none=>[])++My r
def pE(n:Nat):List XO->Bool
 |[]=>true
 |o::r=>(match o.dst with|some d=>decide (d<n)|none=>true)&&pE n r
def aip:Code->Bool
 | .region ..=>true
 | .skip=>true
 |_=>false
def dstsOf:List CO->List Nat
 |[]=>[]
 |o::r=>(match o.dst with|some d=>[d]|none=>[])++dstsOf r
def aS.writes:aS->List Nat
 | .Jh ops=>dstsOf ops
 | .sq ops _=>dstsOf ops
 | .E8 ops _ _ _=>dstsOf ops
 | .seq a b| .join a b| .cond _ a b=>a.writes++b.writes
 | .block _ c| .loop c=>c.writes
 | .vY _ _ wr _ _=>wr
 | .scope _ c r=>c.writes++r.writes
 | .qy ops=>My ops
 |_=>[]
def aS.after(l:Nat):aS->Option aS
 | .seq a b| .join a b=>match a.after l with
  |some r=>some (.join r b)
  |none=>b.after l
 | .label D=>if D==l then some .skip else none
 |_=>none
def aS.labels:aS->List Nat
 | .seq a b| .join a b=>a.labels++b.labels
 | .label l=>[l]
 |_=>[]
def bU.quiet:bU->Bool
 | .mv _| .fa _ _| .ld _ _| .Zb _ _| .Zk _ _ _ _=>true
 |_=>false
def aiq(o:Oper):Bool:=
 match o.op with
 | .call c=>(match c.callee with| .value (.func f)=>bZ P f|_=>false)&&c.argTypes.toList.any (Pj P)
 |_=>false
def Vh(P:Program):Nat->List Oper->Option Nat
 |_,[]=>none
 |i,o::r=>if aiq P o then some i else Vh P (i+1) r
def acV(k:Nat):Nat->List Nat->List Oper->List Nat
 |_,D,[]=>D
 |i,D,o::r=>acV k (i+1) (if decide (k<i)&&o.after.any (λe=>Region.binds .any e&&(e.on==k||D.contains e.on))then D++[i]else D) r
def Jj(k:Nat) (D:List Nat):Nat->List Oper->Bool
 |_,[]=>true
 |i,o::r=>(!D.contains i||o.after.any λe=>Region.binds .any e&&(e.on==k||(D.contains e.on&&decide (e.on<i))))&&Jj k D (i+1) r
def F5(k:Nat) (D:List Nat) (d:Nat):Nat->List CO->Bool
 |_,[]=>true
 |i,o::r=>(if i=k then(match o.op with| .ew _ _=>o.g.isNone&&o.dst==some d|_=>false)else D.contains i||(o.op.quiet&&o.g.isNone&&o.dst.isSome&&o.dst !=some d))&&F5 k D d (i+1) r
def Kx:Option aS:=
 match Vh P 0 ops with
 |some k=>match(cos[k]?).bind CO.dst with
  |some d=>let D:=acV k 0 [] ops
   if kH dG ops (qB k D 0 cos)&&Jj k D 0 ops&&F5 k D d 0 cos&&decide (k<ops.length)then some (.E8 cos dG k D)else none
  |none=>none
 |none=>none
def bW(m:Bool) (P:Program):Code->Option aS
 | .skip=>some .skip
 | .region _ ops nu=>if m&& !nu then(wg P ops ops.toList).map .qy else match zS P ops ops.toList with
  |some cos=>if nu then
    if m&&(Vh P 0 ops.toList).isSome then
     if kH (Fh ops.toList cos 0 cos) ops.toList cos then Kx P ops.toList cos (Fh ops.toList cos 0 cos)else none
    else match Fh ops.toList cos 0 cos with
    |[]=>if kH [] ops.toList cos then some (.Jh cos)else none
    |dG=>if kH dG ops.toList cos&&QN cos dG then some (.sq cos dG)else none
   else some (.Jh cos)
  |none=>none
 | .seq a b=>match bW m P a,bW m P b with
  |some x,some y=>some (if aip a then .seq x y else .join x y)
  |_,_=>none
 | .cond c a b=>match dn c,bW m P a,bW m P b with
  |some c,some a,some b=>some (.cond c a b)
  |_,_,_=>none
 | .block id c=>(bW m P c).map (.block id)
 | .loop c=>(bW m P c).map .loop
 | .exit id=>some (.exit id)
 | .ret=>some .ret
 | .label l=>some (.label l)
 | .goto l=>some (.goto l)
 | .scope c=>match bW m P c with
  |some c=>match c.labels with
   |[l]=>(c.after l).map (.scope l c)
   |_=>none
  |none=>none
 | .rangeFunc g ps as D=>match dn g,bW m P as,bW m P D with
  |some g,some a,some b=>
   let wr:=ps.toList++a.writes++b.writes
   if g.rd.all (λt=>!wr.contains t)then some (.vY g ps.toList wr a b)else none
  |_,_,_=>none
 |_=>none
abbrev anI (P:Program):Code->Option aS:=bW false P
def iz(n:Nat):List CO->Bool
 |[]=>true
 |o::r=>(match o.dst with|some d=>decide (d<n)|none=>true)&&iz n r
def aS.fits(n:Nat):aS->Bool
 | .Jh ops=>iz n ops
 | .sq ops _=>iz n ops
 | .E8 ops _ _ _=>iz n ops
 | .seq a b| .join a b| .cond _ a b=>a.fits n&&b.fits n
 | .block _ c| .loop c=>c.fits n
 | .scope _ c r=>c.fits n&&r.fits n
 | .qy ops=>pE n ops
 | .vY _ ps wr a b=>ps.all (λt=>decide (t<n))&&a.fits n&&b.fits n&&ps.all (λt=>wr.contains t)&&a.writes.all (λt=>wr.contains t)&&b.writes.all (λt=>wr.contains t)
 |_=>true
inductive gu where
 |tmp (t:Nat)
 |cell (t:Nat) (sz:Option Nat)
 deriving Inhabited
def I4:ResultVar->Option gu
 | .tmp t=>some (.tmp t)
 | .cell a t=>(A7 P t).map (.cell a)
structure bJ where
 nt:Nat
 res:List gu
 code:aS
def qE(m:Bool) (P:Program) (f:FuncId):Option bJ:=
 match P.funcs[f]? with
 |some fn=>match fn.body,fn.results.toList.mapM (I4 P)with
  |some c,some D=>match bW m P c with
   |some cc=>if cc.fits fn.ntmps&&bZ P f then some ⟨fn.ntmps,D,cc⟩else none
   |none=>none
  |_,_=>none
 |none=>none
abbrev bK (P:Program) (f:FuncId):Option bJ:=qE false P f
end
open Go.RowKit (Below)
section
variable (P:Program) (f:FuncId) (css:List (List AV)) (args:List (Option AV)) (r:AV) {a:AV} {as:List AV} {v:Value} {vs:List Value} {w w':World} {π:Nat->Nat->Prop} (fr:Option Nat) (τ:Nat->Value)
inductive DV (w:World) (π:Nat->Nat->Prop):AV->Value->Prop
 |bool (b:Bool):DV w π (.bool b) (.bool b)
 |int (k:IntKind) (n:Int):DV w π (.int k n) (.int k n)
 |float (k:FloatKind) (n:Nat):DV w π (.float k n) (.float k n)
 |str (s:ByteArray):DV w π (.str s) (.string s)
 |tQ:DV w π .tQ (.pointer none)
 |aZ:DV w π .aZ (.slice none 0 0)
 |jG:DV w π .jG .nilFunc
 |gJ:DV w π .gJ .nilIface
 |gn (n:Nat):I2 n=true->DV w π .gn (.float .f64 n)
 |iface (t:Nat) (a:AV) (v:Value):DV w π a v->DV w π (.iface t a) (.iface t v)
 |agg (as:List AV) (vs:Array Value):as.length=vs.size->(∀a∈as,a.scalar=true)->(∀(i:Nat) (a:AV) (v:Value),as[i]? =some a->vs[i]? =some v->DV w π a v)->DV w π (.agg as) (.agg vs)
 |dP (as:List AV) (vs:Array Value):as.length=vs.size->(∀(i:Nat) (a:AV) (v:Value),as[i]? =some a->vs[i]? =some v->DV w π a v)->DV w π (.dP as) (.tuple vs)
 |fn (f:Fn) (as:List AV) (vs:Array Value) (bs:List AV) (us:Array Value):as.length=vs.size->bs.length=us.size->
   (∀(i:Nat) (a:AV) (v:Value),as[i]? =some a->vs[i]? =some v->DV w π a v)->(∀(i:Nat) (a:AV) (v:Value),bs[i]? =some a->us[i]? =some v->DV w π a v)->DV w π (.fn f as bs) (.func f vs us)
 |sl (xs:List (List AV)) (B off cap z:Nat) (f:Nat->Nat->Value):xs.length<=cap->(∀(i:Nat) (r:List AV),xs[i]? =some r->r.length=z)->
   (∀(i j:Nat) (r:List AV) (a:AV),xs[i]? =some r->r[j]? =some a->a.scalar=true)->
   (∀(i j:Nat) (r:List AV) (a:AV),xs[i]? =some r->r[j]? =some a->π B (off+i*z+j))->
   (∀(i j:Nat) (r:List AV) (a:AV),xs[i]? =some r->r[j]? =some a->w.cell? ⟨B,off+i*z+j,none⟩=some (f i j))->
   (∀(i j:Nat) (r:List AV) (a:AV),xs[i]? =some r->r[j]? =some a->DV w π a (f i j))->DV w π (.sl xs) (.slice (some ⟨B,off,none⟩) xs.length cap)
 |S5 (A:Addr):DV w π (.sl []) (.slice (some A) 0 0)
 |ref (cs:List AV) (B off:Nat) (f:Nat->Value):(∀(j:Nat) (a:AV),cs[j]? =some a->a.scalar=true)->(∀(j:Nat) (a:AV),cs[j]? =some a->π B (off+j))->
   (∀(j:Nat) (a:AV),cs[j]? =some a->w.cell? ⟨B,off+j,none⟩=some (f j))->(∀(j:Nat) (a:AV),cs[j]? =some a->DV w π a (f j))->DV w π (.ref cs) (.pointer (some ⟨B,off,none⟩))
theorem DV.mono{π':Nat->Nat->Prop} (hp:∀b o,π b o->π' b o) (hc:∀b o,π b o->w'.cell? ⟨b,o,none⟩=w.cell? ⟨b,o,none⟩) (h:DV w π a v):DV w' π' a v:=by
 induction h with
 |bool|int|float|str|tQ|aZ|jG|gJ=>constructor
 |iface t a v _ D=>exact .iface t a v D
 |gn n h=>exact .gn n h
 |agg as vs V hs _ D=>exact .agg as vs V hs D
 |dP as vs V _ D=>exact .dP as vs V D
 |fn f as vs bs us O M _ _ ab aa=>exact .fn f as vs bs us O M ab aa
 |sl xs B off cap z f O M Z h4 h5 _ D=>
  exact .sl xs B off cap z f O M Z (λi j r a R L=>hp _ _ (h4 i j r a R L)) (λi j r a R L=>(hc _ _ (h4 i j r a R L)).trans (h5 i j r a R L)) D
 |S5 A=>exact .S5 A
 |ref cs B off f O M Z _ D=>exact .ref cs B off f O (λj a L=>hp _ _ (M j a L)) (λj a L=>(hc _ _ (M j a L)).trans (Z j a L)) D
def jR(w:World) (π:Nat->Nat->Prop) (as:List AV) (vs:List Value):Prop:=
 as.length=vs.length/\∀(i:Nat) (a:AV) (v:Value),as[i]? =some a->vs[i]? =some v->DV w π a v
theorem jR.mono{w w':World} {π π':Nat->Nat->Prop} (M:∀b o,π b o->π' b o) (D:∀b o,π b o->w'.cell? ⟨b,o,none⟩=w.cell? ⟨b,o,none⟩) {as:List AV} {vs:List Value} (h:jR w π as vs):jR w' π' as vs:=
 ⟨h.1,λi a v L O=>(h.2 i a v L O).mono M D⟩
theorem jR.nil(w:World) (π:Nat->Nat->Prop):jR w π [] []:=⟨rfl,λi a v h=>by simp at h⟩
theorem jR.cons(h:DV w π a v) (M:jR w π as vs):jR w π (a::as) (v::vs):=by
 refine⟨by simp[M.1],λi x u L D=>?_⟩
 cases i with
 |zero=>simp at L D;subst L;subst D;exact h
 |succ i=>exact M.2 i x u (by simpa using L) (by simpa using D)
theorem jR.append{M:List AV} {us:List Value} (h:jR w π as vs) (k:jR w π M us):jR w π (as++M) (vs++us):=by
 refine⟨by simp[h.1,k.1],λi x u L D=>?_⟩
 by_cases O:i<as.length
 ·exact h.2 i x u (by rwa[iv O]at L) (by rwa[iv (by rw[<-h.1];exact O)]at D)
 ·rw[im ado]at L
  rw[im (by rw[<-h.1];omega)]at D
  exact k.2 (i-as.length) x u L (by rw[h.1];exact D)
theorem jR.get(h:jR w π as vs) {i:Nat} (D:as[i]? =some a):∃v,vs[i]? =some v/\DV w π a v:=by
 have L:i<as.length:=by
  rcases ma i as.length with h|h
  ·exact h
  ·rw[kh h]at D;cases D
 have M:vs[i]? =some vs[i]!:=by
  rw[eh (by rw[<-h.1];exact L)]
  simp[getElem!_pos vs i (by rw[<-h.1];exact L)]
 exact⟨_,M,h.2 i a _ D M⟩
theorem DV.QO(h:DV w π a v) (D:a.scalar=true):v.oneCell'=true:=by
 cases h<;>first|rfl|(simp[AV.scalar]at D)
theorem DV.cells{w:World} {π:Nat->Nat->Prop} {a:AV} {v:Value} (h:DV w π a v) (O:∀vs,a≠.dP vs):jR w π a.cells v.cells.toList/\∀x∈a.cells,x.scalar=true:=by
 cases h with
 |agg as vs R hs hd=>exact⟨⟨by simpa[AV.cells,Value.cells]using R,λi a v Z hv=>hd i a v Z (by simpa[Value.cells]using hv)⟩,hs⟩
 |dP as vs=>exact absurd rfl (O as)
 |bool b=>exact⟨.cons (.bool b) (.nil _ _),by simp[AV.cells,AV.scalar]⟩
 |int k n=>exact⟨.cons (.int k n) (.nil _ _),by simp[AV.cells,AV.scalar]⟩
 |float k n=>exact⟨.cons (.float k n) (.nil _ _),by simp[AV.cells,AV.scalar]⟩
 |str s=>exact⟨.cons (.str s) (.nil _ _),by simp[AV.cells,AV.scalar]⟩
 |tQ=>exact⟨.cons .tQ (.nil _ _),by simp[AV.cells,AV.scalar]⟩
 |aZ=>exact⟨.cons .aZ (.nil _ _),by simp[AV.cells,AV.scalar]⟩
 |jG=>exact⟨.cons .jG (.nil _ _),by simp[AV.cells,AV.scalar]⟩
 |gJ=>exact⟨.cons .gJ (.nil _ _),by simp[AV.cells,AV.scalar]⟩
 |iface t a v h=>exact⟨.cons (.iface t a v h) (.nil _ _),by simp[AV.cells,AV.scalar]⟩
 |gn n h=>exact⟨.cons (.gn n h) (.nil _ _),by simp[AV.cells,AV.scalar]⟩
 |fn f as vs bs us L M D h4=>exact⟨.cons (.fn f as vs bs us L M D h4) (.nil _ _),by simp[AV.cells,AV.scalar]⟩
 |ref cs B off f L M D h4=>exact⟨.cons (.ref cs B off f L M D h4) (.nil _ _),by simp[AV.cells,AV.scalar]⟩
 |S5 A=>exact⟨.cons (.S5 A) (.nil _ _),by simp[AV.cells,AV.scalar]⟩
 |sl xs B off cap z f L M D h4 h5 V=>exact⟨.cons (.sl xs B off cap z f L M D h4 h5 V) (.nil _ _),by simp[AV.cells,AV.scalar]⟩
theorem QS(h:S1 v=some a):DV w π a v/\a.scalar=true:=by
 unfold S1 at h
 split at h<;>first|(cases h;exact⟨by constructor,rfl⟩)|cases h
theorem Da{w:World} {π:Nat->Nat->Prop}:∀(l:List Value) (as:List AV),l.mapM S1=some as->jR w π as l/\∀a∈as,a.scalar=true
 |[],as,h=>by simp at h;subst h;exact⟨.nil _ _,adI⟩
 |v::l,as,h=>by
  simp only[tl,pb,jp,vd,fx]at h;obtain⟨a,O,D,has,rfl⟩:=h
  have L:=QS (w:=w) (π:=π) O
  have M:=Da (w:=w) (π:=π) l D has
  exact⟨.cons L.1 M.1,by simpa using⟨L.2,M.2⟩⟩
theorem Vi(h:ofV v=some a):DV w π a v:=by
 unfold ofV at h;split at h
 ·rename_i cs
  simp only[eg]at h;obtain⟨as,has,rfl⟩:=h
  have D:=Da (w:=w) (π:=π) _ _ has
  exact .agg as cs (by simpa using D.1.1) D.2 (λi a v L M=>D.1.2 i a v L (by simpa using M))
 ·exact(QS h).1
structure gV where
 n:Nat
 X:Nat->Prop
 β:Nat->Nat
def gV.ok(F:gV) (B:Nat):Prop:=F.n<=B\/F.X B
def gV.A9(F:gV) (b B:Nat):Prop:=F.n<=B\/(b<4/\F.X B)
def gV.top(w:World):gV:=⟨w.heap.size,λ_=>False,id⟩
structure yb (n:gV) (w w':World):Prop where
 os:w'.os=w.os
 tape:w'.tape=w.tape
 output:w'.output=w.output
 size:w.heap.size<=w'.heap.size
 block:∀k,k<n.n->¬n.X k->w'.heap[k]? =w.heap[k]?
 /-- what is no variables' block lies as it lay -/
 others:∀(k:Nat) (o:Obj),w.heap[k]? =some o->o.isCells=false->w'.heap[k]? =some o
theorem yb.refl(n:gV) (w:World):yb n w w:=⟨rfl,rfl,rfl,ik _,λ_ _ _=>rfl,λ_ _ h _=>h⟩
theorem yb.trans{n:gV} {a b c:World} (h:yb n a b) (k:yb n b c):yb n a c:=
 ⟨k.os.trans h.os,k.tape.trans h.tape,k.output.trans h.output,lh h.size k.size,λi D M=>(k.block i D M).trans (h.block i D M),λi o D L=>k.others i o (h.others i o D L) L⟩
theorem yb.of{n:gV} (h:Below w.heap.size w w') (D:n.n<=w.heap.size):yb n w w':=⟨h.os,h.tape,h.output,h.size,λk hk _=>h.block k ado,λk o hk _=>(h.block k (kt.1 hk).1).trans hk⟩
theorem yb.below{n:gV} (h:yb n w w') (hX:∀k,¬n.X k):Below n.n w w':=⟨h.os,h.tape,h.output,h.size,λk hk=>h.block k hk (hX k)⟩
def Jk(w:World) (π:Nat->Nat->Prop) (ok:Nat->Prop) (e:Nat) (v:Value):Prop:=
 v=.slice none 0 0\/∃B len cap D i,v=.slice (some ⟨B,0,none⟩) len cap/\ok B/\w.heap[B]? =some (.cells D e (0,0))/\len<=cap/\cap<=maxLen/\P.info? e=some i/\D.size=cap*i.size/\∀o,len*i.size<=o->¬π B o
def jV:Value->Option Nat
 | .slice (some a) _ _=>some a.block
 |_=>none
def F6(args:List AV) (r:AV) (fr:Option Nat):Prop:=
 bZ P f=true/\
 ∀(w:World) (π:Nat->Nat->Prop) (vs:List Value),(∀b o,π b o->b<w.heap.size)->jR w π args vs->
  Calls P f vs.toArray w λe w'=>∃v π',e=.returned v/\Below w.heap.size w w'/\(∀b o,π b o->π' b o)/\(∀b o,π' b o->π b o\/w.heap.size<=b)/\
   (∀b o,π' b o->b<w'.heap.size)/\DV w' π' r v/\∀t,fr=some t->Jk P w' π' (λB=>w.heap.size<=B) t v
def gb(w:World) (π:Nat->Nat->Prop):List (Option AV)->List Nat->List Value->Prop
 |[],[],[]=>True
 |some .hole::as,B::Bs,v::vs=>v=.agg #[.pointer (some ⟨B,0,none⟩)]/\gb w π as Bs vs
 |some a::as,Bs,v::vs=>DV w π a v/\gb w π as Bs vs
 |none::as,B::Bs,v::vs=>v=.pointer (some ⟨B,0,none⟩)/\gb w π as Bs vs
 |_,_,_=>False
def RV(β:Nat->Nat) (τ:Nat->Value) (w:World) (π:Nat->Nat->Prop):SV->Value->Prop
 | .dat a q,v=>DV w π a v/\∀t,q=some t->v=τ t
 | .ptr b off,v=>v=.pointer (some ⟨β b,off,none⟩)
 | .rp cs,v=>∃(B off:Nat) (f:Nat->Value),v=.pointer (some ⟨B,off,none⟩)/\(∀(j:Nat) (a:AV),cs[j]? =some a->a.scalar=true)/\(∀(j:Nat) (a:AV),cs[j]? =some a->π B (off+j))/\
   (∀(j:Nat) (a:AV),cs[j]? =some a->w.cell? ⟨B,off+j,none⟩=some (f j))/\∀(j:Nat) (a:AV),cs[j]? =some a->DV w π a (f j)
 | .undef,v=>v=undef
 | .nX f as D,v=>∃us:Array Value,v=.func (.func f) #[] us/\gb w π as (D.map β) us.toList
 | .raw q n,v=>∃B cap,τ q=.slice (some ⟨B,0,none⟩) 0 cap/\v=.slice (some ⟨B,0,none⟩) n cap/\n<=cap
 | .vs b off n _,v=>∃cap,n<=cap/\v=.slice (some ⟨β b,off,none⟩) n cap
 | .pt 0 ps,v=>v=.agg (ps.map λp=>Value.pointer (some ⟨β p.1,p.2,none⟩)).toArray
 | .pt k ps,v=>∃B off cap,(v=if k=1 then .slice (some ⟨B,off,none⟩) ps.length cap else .pointer (some ⟨B,off,none⟩))/\ps.length<=cap/\
   ∀(i:Nat) (p:Nat×Nat),ps[i]? =some p->π B (off+i)/\w.cell? ⟨B,off+i,none⟩=some (.pointer (some ⟨β p.1,p.2,none⟩))
def SV.iA(U:Nat->Prop):SV->Prop
 | .dat _ (some q)=>U q
 | .ptr b _=>U b
 | .vs b _ _ _=>U b
 | .nX _ _ D=>∀b∈D,U b
 | .raw q _=>U q
 | .pt _ ps=>∀p∈ps,U p.1
 |_=>True
def rH(w:World) (π:Nat->Nat->Prop) (B:Nat) (x:bV):Prop:=
 ∃D L,w.heap[B]? =some (.cells D L (0,0))/\jR w π x.cells (D.toList.take x.cells.length)/\(∀a∈x.cells,a.scalar=true)/\(∀o q,d9 o x.tags=some q->D[o]? =some (τ q))/\∀o,¬π B o
theorem jR.take{w:World} {π:Nat->Nat->Prop} {as:List AV} {vs:List Value} (h:jR w π as vs):jR w π as (vs.take as.length):=by
 rw[kf (Nat.le_of_eq h.1.symm)];exact h
def cY(w:World) (π:Nat->Nat->Prop):List (List AV)->List Nat->Prop
 |[],[]=>True
 |cs::css,B::Bs=>rH (λ_=>undef) w π B ⟨cs,[]⟩/\cY w π css Bs
 |_,_=>False
def gV.i6(w:World) (Bs:List Nat):gV:=⟨w.heap.size,λB=>B∈Bs,λk=>Bs.getD k 0⟩
def wj(D:List (List AV)):Prop:=
 bZ P f=true/\D.length=css.length/\css.length<=4/\
 ∀(w:World) (π:Nat->Nat->Prop) (Bs:List Nat) (vs:List Value),(∀b o,π b o->b<w.heap.size)->Bs.Nodup->cY w π css Bs->gb w π args Bs vs->
  Calls P f vs.toArray w λe w'=>∃v π',e=.returned v/\yb (gV.i6 w Bs) w w'/\(∀b o,π b o->π' b o)/\(∀b o,π' b o->π b o\/w.heap.size<=b)/\
   (∀b o,π' b o->b<w'.heap.size)/\cY w' π' D Bs/\DV w' π' r v/\∀t,fr=some t->Jk P w' π' (λB=>w.heap.size<=B) t v
theorem DV.kO{w:World} {π:Nat->Nat->Prop} {a:AV} (h:Eng.kO a=true):DV w π a (Zp a):=by
 cases a<;>first|(simp[Eng.kO]at h;done)|constructor
theorem DV.flat(h:kP a=true):DV w π a (AZ a):=by
 cases a with
 |agg cs=>
  simp only[kP,mt]at h
  refine .agg cs _ adI (λa D=>?_) (λi a v D L=>?_)
  ·have:=h a D;cases a<;>first|rfl|(simp[Eng.kO]at this;done)
  ·simp only[Hc,ka,D,mn,fx]at L
   subst L;exact .kO (h a (er D))
 |_=>first|exact .kO h|(simp[kP,Eng.kO]at h;done)
def Iter(M:AV) (xs:List (List AV)):Prop:=
 ∃L caps,M=.fn (.func L) [] caps/\bZ P L=true/\(∀x∈xs,∀a∈x,kP a=true)/\
 ∀(l:Nat) (J:Nat->World->Prop) (D:World->Prop) (W:World) (π:Nat->Nat->Prop) (vs:List Value),(∀b o,π b o->b<W.heap.size)->jR W π caps vs->
  (∀i W',J i W'->∀b o,π b o->W'.cell? ⟨b,o,none⟩=W.cell? ⟨b,o,none⟩)->
  (∀i W W',J i W->Below W.heap.size W W'->J i W')->(∀W W',D W->Below W.heap.size W W'->D W')->
  (∀n i x W,xs[i]? =some x->J i W->YieldAt Fence.wide n P l (x.map AZ).toArray W λe W'=>(e=.returned (.bool true)/\J (i+1) W')\/(e=.returned (.bool false)/\D W'))->
  J 0 W->
  Calls P L (#[.func (.yield l) #[] #[]]++vs.toArray) W λe W'=>(∃v,e=.returned v)/\(J xs.length W'\/D W')
def Vj(p:AV) (D:List (List AV)):Prop:=
 bZ P f=true/\D.length=css.length/\css.length<=4/\
 ∀(w:World) (π:Nat->Nat->Prop) (Bs:List Nat) (vs:List Value),(∀b o,π b o->b<w.heap.size)->Bs.Nodup->cY w π css Bs->gb w π args Bs vs->
  Calls P f vs.toArray w λe w'=>∃π',e=.panicked (iB p)/\yb (gV.i6 w Bs) w w'/\(∀b o,π b o->π' b o)/\(∀b o,π' b o->π b o\/w.heap.size<=b)/\
   (∀b o,π' b o->b<w'.heap.size)/\cY w' π' D Bs
def acW(args cs:List AV):Prop:=
 bZ P f=true/\
 ∀(w:World) (π:Nat->Nat->Prop) (vs:List Value),(∀b o,π b o->b<w.heap.size)->jR w π args vs->
  Calls P f vs.toArray w λe w'=>∃B π',e=.returned (.pointer (some ⟨B,0,none⟩))/\w.heap.size<=B/\Below w.heap.size w w'/\(∀b o,π b o->π' b o)/\(∀b o,π' b o->π b o\/w.heap.size<=b)/\
   (∀b o,π' b o->b<w'.heap.size)/\rH (λ_=>undef) w' π' B ⟨cs,[]⟩
def F7:AV->FrameMode
 | .gJ=>.returning
 |p=>.panicking (iB p)
def Mz(L:AV) (css:List (List AV)) (args:List (Option AV)) (D:List (List AV)):Prop:=
 bZ P f=true/\D.length=css.length/\css.length<=4/\
 ∀(w:World) (π:Nat->Nat->Prop) (Bs:List Nat) (vs:List Value),(∀b o,π b o->b<w.heap.size)->Bs.Nodup->cY w π css Bs->gb w π args Bs vs->
  CallsDIn Fence.wide 0 P f vs.toArray (F7 L) w λe M w'=>∃v π',e=.returned v/\settle M=.returning/\yb (gV.i6 w Bs) w w'/\(∀b o,π b o->π' b o)/\(∀b o,π' b o->π b o\/w.heap.size<=b)/\
   (∀b o,π' b o->b<w'.heap.size)/\cY w' π' D Bs
def gV.zT(w:World) (Bs:List Nat) (tb:Nat->Prop):gV:=⟨w.heap.size,λB=>B∈Bs\/tb B,λk=>Bs.getD k 0⟩
def Ky(w:World) (π:Nat->Nat->Prop) (Bs:List Nat) (ok:Nat->Prop) (L:Value):Option (Nat×Nat×Nat)->Prop
 |none=>True
 |some (j,o,e)=>∃B D O,Bs[j]? =some B/\w.heap[B]? =some (.cells D O (0,0))/\D[o]? =some L/\Jk P w π ok e L/\∀M,jV L=some M->M∉Bs
def Fi(L:Option (Nat×Nat×Nat)) (D:Value) (B:Nat):Prop:=L.isSome=true/\jV D=some B
def Vk(M:Option (Nat×Nat×Nat)) (args:List (Option AV)) (r:AV) (D:List (List AV)) (O:Option (Nat×Nat×Nat)):Prop:=
 bZ P f=true/\D.length=css.length/\css.length<=4/\
 ∀(w:World) (π:Nat->Nat->Prop) (Bs:List Nat) (vs:List Value) (L:Value),(∀b o,π b o->b<w.heap.size)->Bs.Nodup->cY w π css Bs->gb w π args Bs vs->Ky P w π Bs (λ_=>True) L M->
  Calls P f vs.toArray w λe w'=>∃v π' R,e=.returned v/\yb (gV.zT w Bs (Fi M L)) w w'/\(∀b o,π b o->π' b o)/\(∀b o,π' b o->π b o\/w.heap.size<=b\/Fi M L b)/\
   (∀b o,π' b o->b<w'.heap.size)/\(∀b o,π b o->w'.cell? ⟨b,o,none⟩=w.cell? ⟨b,o,none⟩)/\cY w' π' D Bs/\DV w' π' r v/\Ky P w' π' Bs (λB=>w.heap.size<=B\/Fi M L B) R O
def Vl(j o:Nat):Prop:=
 bZ P f=true/\css.length<=4/\
 ∀(w:World) (π:Nat->Nat->Prop) (Bs:List Nat) (vs:List Value),(∀b o,π b o->b<w.heap.size)->Bs.Nodup->cY w π css Bs->gb w π args Bs vs->
  Calls P f vs.toArray w λe w'=>∃B π',Bs[j]? =some B/\e=.returned (.pointer (some ⟨B,o,none⟩))/\yb (gV.i6 w Bs) w w'/\(∀b o,π b o->π' b o)/\(∀b o,π' b o->π b o\/w.heap.size<=b)/\
   (∀b o,π' b o->b<w'.heap.size)/\cY w' π' css Bs
def Pure:aT:=⟨F6 P,wj P,Iter P,Vj P,acW P,Mz P,Vk P,Vl P⟩
structure Rel (P:Program) (nt:Nat) (n0:gV) (w0:World) (π0:Nat->Nat->Prop) (U:Nat->Prop) (s:S) (a:Act) (w:World) (β:Nat->Nat) (τ:Nat->Value) (π:Nat->Nat->Prop):Prop where
 size:a.tmps.size=nt
 slots:∀t v,lk t s.slots=some v->(∃x,a.tmps[t]? =some x/\RV β τ w π v x)/\v.iA U
 boxes:∀b x,cj b s.boxes=some x->U b/\n0.A9 b (β b)/\rH τ w π (β b) x/\∀o q,d9 o x.tags=some q->U q
 inj:∀b b' x x',cj b s.boxes=some x->cj b' s.boxes=some x'->β b=β b'->b=b'
 live:∀q e,d9 q s.live=some e->U q/\Jk P w π n0.ok e (τ q)
 dr:∀q q' e e' B,d9 q s.live=some e->d9 q' s.live=some e'->jV (τ q)=some B->jV (τ q')=some B->q=q'
 dw:∀q e b x,d9 q s.live=some e->cj b s.boxes=some x->jV (τ q)≠some (β b)
 below:yb n0 w0 w
 gG:n0.n<=w0.heap.size
 eZ:∀b o,π b o->b<w.heap.size
 eU:∀b o,π0 b o->π b o
 dz:∀b o,π b o->π0 b o\/n0.ok b
 mJ:∀k,k<4->β k=n0.β k
 jH:∀k,k<4->U k
 kept:∀b o,π0 b o->w.cell? ⟨b,o,none⟩=w0.cell? ⟨b,o,none⟩
end
end Go.Eng
