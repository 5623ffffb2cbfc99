/- The engine and the library,part 1 of 12: what the proofs of this seat need of them. -/
import Derived.WalkKit
import Derived.RangeFuncNested
import Derived.RangeFuncLeaves
import Derived.OrdersIn
import Derived.LoopNIn
import Derived.ChangeKeysEq
import Derived.Laws.Externs
import Derived.Lib.SliceRun
import Derived.Laws.CopyRow
import Derived.Laws.MakeOwn
import Ieee.Arith
import GoSem.Core.Float
import Derived.RecoverIn
import Derived.ProofKit
import Derived.OpenShut
import Derived.ShutString
import Derived.ChangeOld
import Derived.Below
set_option linter.unnecessarySimpa false
set_option linter.unusedSimpArgs false
set_option linter.unusedVariables false
set_option linter.defProp false
set_option maxRecDepth 10000
set_option maxHeartbeats 4000000
namespace Go.Eng
open Go
inductive AV where
 | bool (b:Bool)
 | int (k:IntKind) (n:Int)
 | float (k:FloatKind) (n:Nat)
 | str (s:ByteArray)
 | qk
 | aN
 | sl (xs:List (List AV))
 | fn (f:Fn) (first caps:List AV)
 | qN
 | iface (t:Nat) (v:AV)
 | gj
 | agg (cs:List AV)
 | oS (vs:List AV)
 | ref (cs:List AV)
 /-- a float (of 64 bits) that is no number,whichever -/
 | cZ
 deriving Inhabited
inductive SV where
 | dat (a:AV) (q:Option Nat)
 | ptr (b off:Nat)
 | rp (cs:List AV)
 | undef
 /-- a slice rY a box of its own or another's: n elements of z cells each,from off on -/
 | vs (b off n z:Nat)
 /-- a function with values and pointers at the heads of boxes -/
 | kY (f:Nat) (as:List (Option AV)) (bs:List Nat)
 /-- a slice of n elements that nobody has read: the token's row from its head on -/
 | raw (q n:Nat)
 deriving Inhabited
structure bA where
 cells:List AV
 tags:List (Nat × Nat)
 deriving Inhabited
structure S where
 slots:List (Nat × SV)
 boxes:List (Nat × bA)
 live:List (Nat × Nat)
 nx:Nat
 deriving Inhabited
inductive aQ where
 | t (n:Nat)
 | k (v:AV)
 deriving Inhabited
inductive CK where
 | b | i | f | s
 deriving DecidableEq,Inhabited
inductive Xt where
 | vV | ffrom | rte
 deriving DecidableEq,Inhabited
inductive aZ where
 | mv (x:aQ)
 | pick (c a b:aQ)
 | alloc (cs:List AV)
 | box (x:aQ)
 | build (zs:List AV) (parts:List (Nat × Nat × aQ))
 | iM (e z:Nat) (xs:List aQ)
 | ld (x:aQ) (sz:Option Nat)
 | st (x v:aQ) (sz:Nat)
 | fa (x:aQ) (off:Nat)
 | ym (x i:aQ) (n z:Nat)
 | F1 (x i:aQ) (z:Nat)
 | I5 (x:aQ) (off:Nat) (sz:Option Nat)
 | C2 (x i:aQ) (n z:Nat) (sz:Option Nat)
 | bin (op:BinOp) (x y:aQ)
 | eqc (ks:List CK) (neg:Bool) (x y:aQ)
 | bb (neg:Bool) (x y:aQ)
 | un (op:UnOp) (x:aQ)
 | kg (k:IntKind) (x:aQ)
 | tv (k:FloatKind) (x:aQ)
 | xu (k:IntKind) (x:aQ)
 | uL (x:aQ)
 | zA (x:aQ)
 | AI (n:Nat)
 | app (e z bytes:Nat) (s x:aQ)
 | call (f:Nat) (args:List aQ)
 | dX (f:Nat) (args:List aQ)
 | dw (g:aQ) (args:List aQ)
 | ext (x:aQ) (i:Nat)
 | AG (fn:Fn) (first caps:List aQ)
 | F2 (z:Nat) (x:aQ) (lo hi:Option aQ)
 | nc (x:aQ)
 | mm (max:Bool) (args:List aQ)
 | xt (e:Xt) (x:aQ)
 | Fq (x:aQ) (n z:Nat)
 | I6 (x i:aQ)
 | F3 (neg:Bool) (x:aQ)
 | dD (g:aQ) (args:List aQ)
 | qO (f:Nat) (args:List aQ)
 | lf (g:aQ) (args:List aQ)
 | IK (x:aQ) (n z:Nat) (hi:aQ)
 | tw (e z bytes:Nat) (y x:aQ)
 deriving Inhabited
structure CO where
 dst:Option Nat
 op:aZ
 g:Option (Nat × Bool)
 deriving Inhabited
inductive AJ where
 | o (c:aZ)
 | call (f:Nat) (args:List aQ)
 | dX (f:Nat) (args:List aQ)
 | dw (p:Bool) (g:aQ) (args:List aQ)
 | IL (f:Nat) (caps:List aQ)
 | I7 (x:aQ)
 | I8 (t:Nat) (x:aQ)
 /-- is it of that type? the value,or nothing of that type -/
 | I9 (t:Nat) (z:AV) (x:aQ)
 | IM (neg:Bool) (x:aQ)
 | IN (neg:Bool) (x:aQ)
 /-- a slice of cells that is made; what is copied into all of it -/
 | Ja (e bytes:Nat) (l c:aQ)
 | Jb (e:Nat) (x y:aQ)
 deriving Inhabited
structure XO where
 dst:Option Nat
 op:AJ
 g:Option (Nat × Bool)
 deriving Inhabited
inductive aK where
 | skip
 | AK (ops:List CO)
 | seq (a b:aK)
 | join (a b:aK)
 | cond (c:aQ) (a b:aK)
 | block (id:Nat) (c:aK)
 | loop (c:aK)
 | exit (id:Nat)
 | ret
 | tA (g:aQ) (ps wr:List Nat) (as bd:aK)
 | vW (ops:List CO) (er:List (Nat × Nat))
 | scope (l:Nat) (c r:aK)
 | label (l:Nat)
 | goto (l:Nat)
 | eI (ops:List XO)
 deriving Inhabited
def AV.cells:AV→List AV
 | .agg cs=>cs
 | v=>[v]
def AV.scalar:AV→Bool
 | .agg _ | .oS _=>false
 | _=>true
def zB:Value→Option AV
 | .bool b=>some (.bool b)
 | .int k n=>some (.int k n)
 | .float k n=>some (.float k n)
 | .string s=>some (.str s)
 | .pointer none=>some .qk
 | .slice none 0 0=>some .aN
 | .nilFunc=>some .qN
 | .nilIface=>some .gj
 | _=>none
def L7:Value→Option AV
 | .agg cs=>(cs.toList.mapM zB).map .agg
 | v=>zB v
def pO (op:BinOp) (k:IntKind) (x y:Int):Option Int :=
 let a:=BitVec.ofInt k.bits x
 let b:=BitVec.ofInt k.bits y
 match op with
 | .and=>some (k.wrap (a &&& b).toNat)
 | .or=>some (k.wrap (a ||| b).toNat)
 | .xor=>some (k.wrap (a ^^^ b).toNat)
 | .andNot=>some (k.wrap (a &&& ~~~b).toNat)
 | _=>none
def kZ (op:BinOp) (k:IntKind) (x y:Int):Option AV :=
 match op with
 | .add=>some (.int k (k.wrap (x + y)))
 | .sub=>some (.int k (k.wrap (x - y)))
 | .mul=>some (.int k (k.wrap (x * y)))
 | .quo=>if y=0 then none else some (.int k (k.wrap (x.tdiv y)))
 | .rem=>if y=0 then none else some (.int k (x.tmod y))
 | .and | .or | .xor | .andNot=>(pO op k x y).map (.int k)
 | .eql=>some (.bool (x == y))
 | .neq=>some (.bool (x != y))
 | .lss=>some (.bool (decide (x < y)))
 | .leq=>some (.bool (decide (x≤y)))
 | .gtr=>some (.bool (decide (x > y)))
 | .geq=>some (.bool (decide (x ≥ y)))
 | _=>none
def tB (n:Nat):Bool:=match FloatKind.f64.decode n with
 | .nan ..=>true
 | _=>false
def AL:FloatKind→Option Nat→Option AV
 | k,some r=>some (.float k r)
 | .f64,none=>some .cZ
 | .f32,none=>none
def AM:BinOp→Option AV
 | .add | .sub | .mul | .quo=>some .cZ
 | .neq=>some (.bool true)
 | .eql | .lss | .leq | .gtr | .geq=>some (.bool false)
 | _=>none
def qP (op:BinOp) (k:FloatKind) (x y:Nat):Option AV :=
 let c:=k.format.order x y
 match op with
 | .add=>AL k (k.format.add x y)
 | .sub=>AL k (k.format.sub x y)
 | .mul=>AL k (k.format.mul x y)
 | .quo=>AL k (k.format.div x y)
 | .eql=>some (.bool (c == some .eq))
 | .neq=>some (.bool (c != some .eq))
 | .lss=>some (.bool (c == some .lt))
 | .leq=>some (.bool (c == some .lt || c == some .eq))
 | .gtr=>some (.bool (c == some .gt))
 | .geq=>some (.bool (c == some .gt || c == some .eq))
 | _=>none
def lg (op:BinOp) (k:IntKind) (x y:Int):Option AV :=
 if y < 0 then none else
 match op with
 | .shl=>some (.int k (k.wrap (x * 2 ^ min y.toNat k.bits)))
 | .shr=>some (.int k (x.fdiv (2 ^ min y.toNat k.bits)))
 | _=>none
def cK (op:BinOp) (a b:AV):Option AV :=
 match op,a,b with
 | .shl,.int k x,.int _ y=>lg .shl k x y
 | .shr,.int k x,.int _ y=>lg .shr k x y
 | op,.int k x,.int k' y=>if k=k' then kZ op k x y else none
 | op,.float k x,.float k' y=>if k=k' then qP op k x y else none
 | op,.cZ,.float .f64 _=>AM op
 | op,.float .f64 _,.cZ=>AM op
 | op,.cZ,.cZ=>AM op
 | _,_,_=>none
def IP (neg:Bool):AV→AV→Option AV
 | .bool x,.bool y=>some (.bool (if neg then x != y else x == y))
 | _,_=>none
def oT:CK→AV→AV→Option Bool
 | .b,.bool x,.bool y=>some (x == y)
 | .i,.int k x,.int k' y=>if k=k' then some (x == y) else none
 | .f,.float k x,.float k' y=>if k=k' then some (k.format.order x y == some .eq) else none
 | .s,.str x,.str y=>some (x == y)
 | _,_,_=>none
def bT:List CK→List AV→List AV→Option Bool
 | [],[],[]=>some true
 | k :: ks,a :: as,b :: bs=>match oT k a b,bT ks as bs with
  | some x,some y=>some (x && y)
  | _,_=>none
 | _,_,_=>none
def IQ (op:UnOp) (a:AV):Option AV :=
 match op,a with
 | .neg,.int k n=>some (.int k (k.wrap (0 - n)))
 | .xor,.int k n=>(pO .xor k (if k.signed then -1 else k.max) n).map (.int k)
 | .neg,.float k b=>some (.float k (Op.negFloat k b))
 | .not,.bool b=>some (.bool !b)
 | _,_=>none
def tP (k:IntKind):AV→Option AV
 | .int _ n=>some (.int k (k.wrap n))
 | _=>none
def qQ (k:FloatKind):AV→Option AV
 | .int _ n=>some (.float k (k.nearest n))
 | _=>none
def vX (k:IntKind):AV→Option AV
 | .float s b=>match (s.decode b).toInt .zero with
  | some n=>if k.min≤n∧n≤k.max then some (.int k n) else none
  | none=>none
 | _=>none
def C5 (b:Nat):Option AV :=
 match FloatKind.f64.decode b with
 | .nan _ t=>if FloatKind.f64.format.quiet t=t then some (.float .f64 b) else none
 | d=>some (.float .f64 (FloatKind.f64.encode (d.integral .even)))
def IS:Xt→AV→Option AV
 | .vV,.float .f64 b=>some (.int .u64 b)
 | .ffrom,.int .u64 n=>some (.float .f64 n.toNat)
 | .rte,.float .f64 b=>C5 b
 | _,_=>none
def bG (z:Nat):Nat→List AV→List (List AV)
 | 0,_=>[]
 | n + 1,cs=>cs.take z :: bG z n (cs.drop z)
def yo (s:ByteArray) (i:Int):Option AV :=
 if 0≤i∧i < s.size then some (.int .u8 (s[i.toNat]!).toNat) else none
def mZ:AV→Option AV
 | .aN=>some (.int .i64 0)
 | .sl xs=>some (.int .i64 xs.length)
 | _=>none
def vY:Bool→AV→Option Bool
 | neg,.aN=>some (!neg)
 | neg,.sl _=>some neg
 | _,_=>none
def Fs (mx:Bool):AV→AV→Option AV
 | .int k x,.int _ y=>some (.int k (if mx then (if y > x then y else x) else (if y < x then y else x)))
 | .float k x,.float k' y=>if k=k' then match k.format.order x y with
   | none=>if k=.f64 then some .cZ else none
   | some .lt=>some (.float k (if mx then y else x))
   | some .gt=>some (.float k (if mx then x else y))
   | some .eq=>some (.float k (if mx then (if (k.decode x).neg then y else x) else (if (k.decode x).neg then x else y)))
  else none
 | .cZ,.float .f64 _=>some .cZ
 | .float .f64 _,.cZ=>some .cZ
 | .cZ,.cZ=>some .cZ
 | _,_=>none
def AN:AV→Nat→Option AV
 | .oS vs,i=>vs[i]?
 | _,_=>none
def aU (cs:List AV) (off:Nat):Option Nat→Option AV
 | none=>cs[off]?
 | some n=>if off + n≤cs.length then some (.agg ((cs.drop off).take n)) else none
def dY:List AV→List (Nat × List AV)→List AV
 | cs,[]=>cs
 | cs,(off,ps) :: rest=>dY (cs.take off++ps++cs.drop (off + ps.length)) rest
def C6:AV→Value
 | .bool b=>.bool b
 | .int k n=>.int k n
 | .float k n=>.float k n
 | .str s=>.string s
 | .qk=>.pointer none
 | .aN=>.slice none 0 0
 | _=>undef
def kS:AV→Bool
 | .bool _ | .int .. | .float .. | .str _ | .qk | .aN=>true
 | _=>false
def nP:AV→Value
 | .agg cs=>.agg (cs.map C6).toArray
 | a=>C6 a
def kT:AV→Bool
 | .agg cs=>cs.all kS
 | a=>kS a
def xw (t:Nat) (z:AV):AV→Option AV
 | .gj=>some (.oS [z,.bool false])
 | .iface t' a=>some (if t'=t then .oS [a,.bool true] else .oS [z,.bool false])
 | _=>none
def zC (neg:Bool):AV→Option Bool
 | .gj=>some !neg
 | .iface _ _=>some neg
 | _=>none
def tC (neg:Bool):SV→Option Bool
 | .ptr _ _ | .rp _ | .dat (.ref _) _=>some neg
 | .dat .qk _=>some !neg
 | _=>none
def lp:AV→Bool
 | .iface _ a=>kT a
 | _=>false
def Ms:AV→Value
 | .iface t a=>.iface t (nP a)
 | _=>undef
def gn (p:AV):List PanicEntry:=[{ v:=Ms p,recovered:=false }]
def lk:Nat→List (Nat × SV)→Option SV
 | _,[]=>none
 | n,(m,v) :: r=>bif n == m then some v else lk n r
def bF:Nat→List (Nat × bA)→Option bA
 | _,[]=>none
 | n,(m,v) :: r=>bif n == m then some v else bF n r
def cw:Nat→List (Nat × Nat)→Option Nat
 | _,[]=>none
 | n,(m,v) :: r=>bif n == m then some v else cw n r
def k7:Nat→bA→List (Nat × bA)→List (Nat × bA)
 | _,_,[]=>[]
 | n,b,(m,v) :: r=>bif n == m then (m,b) :: r else (m,v) :: k7 n b r
def iN:Nat→List (Nat × Nat)→List (Nat × Nat)
 | _,[]=>[]
 | n,(m,v) :: r=>bif n == m then iN n r else (m,v) :: iN n r
def S.put (s:S) (d:Option Nat) (v:SV):S :=
 match d with
 | none=>s
 | some d=>{ s with slots:=(d,v) :: s.slots }
def bw (s:S):aQ→Option SV
 | .t n=>lk n s.slots
 | .k v=>some (.dat v none)
def ax (s:S) (x:aQ):Option AV :=
 match bw s x with
 | some (.dat a _)=>some a
 | some (.rp cs)=>some (.ref cs)
 | _=>none
def bQ (s:S):List aQ→Option (List AV)
 | []=>some []
 | x :: r=>match ax s x,bQ s r with
  | some a,some as=>some (a :: as)
  | _,_=>none
def ah {α:Type} (o:Option α) (k:α→Prop):Prop :=
 match o with
 | some a=>k a
 | none=>False
@[simp] theorem aq {α:Type} (a:α) (k:α→Prop):ah (some a) k=k a:=rfl
@[simp] theorem F4 {α:Type} (k:α→Prop):ah none k=False:=rfl
def eK:AV→Option Nat→Bool
 | .oS _,_=>false
 | .agg _,some _=>false
 | _,_=>true
def eJ (s:S):List (Nat × Nat × aQ)→Option (List (Nat × List AV))
 | []=>some []
 |(off,sz,x) :: r=>match ax s x,eJ s r with
  | some a,some ps=>if a.cells.length=sz∧eK a none=true then some ((off,a.cells) :: ps) else none
  | _,_=>none
def iq (s:S) (z:Nat):List aQ→Option (List (List AV))
 | []=>some []
 | x :: r=>match ax s x,iq s z r with
  | some a,some rows=>if a.cells.length=z∧eK a none=true then some (a.cells :: rows) else none
  | _,_=>none
def idxOf:AV→Option Int
 | .int _ i=>some i
 | _=>none
def setCells (cs:List AV) (off:Nat) (ps:List AV):List AV:=cs.take off++ps++cs.drop (off + ps.length)
def oU:Option AV→Option Int
 | some a=>idxOf a
 | none=>none
def qR (s:S):Option aQ→Option Int
 | none=>some 0
 | some x=>oU (ax s x)
def qS (s:S) (xs:List (List AV)):Option aQ→Option Int
 | none=>some xs.length
 | some x=>oU (ax s x)
def zD (a:AV) (xs:List (List AV)) (l h:Int):AV :=
 match a with
 | .aN=>.aN
 | _=>.sl ((xs.take h.toNat).drop l.toNat)
structure bI where
 c:Nat→List AV→AV→Option Nat→Prop
 p:Nat→List (List AV)→List (Option AV)→AV→Option Nat→List (List AV)→Prop
 /-- what a function that is ranged rY yields,one after the other -/
 i:AV→List (List AV)→Prop
 /-- a function that raises this -/
 q:Nat→List (List AV)→List (Option AV)→AV→List (List AV)→Prop
 /-- a function that yields a pointer to a new box -/
 n:Nat→List AV→List AV→Prop
 /-- a function that is deferred,with what it recovers: nothing,or what was raised -/
 d:Nat→AV→List (List AV)→List (Option AV)→List (List AV)→Prop
def bZ (s:S):List aQ→Option (List (Option AV) × List Nat)
 | []=>some ([],[])
 | x :: r=>match bw s x,bZ s r with
  | some (.dat a _),some (as,bs)=>some (some a :: as,bs)
  | some (.rp cs),some (as,bs)=>some (some (.ref cs) :: as,bs)
  | some (.ptr b 0),some (as,bs)=>some (none :: as,b :: bs)
  | _,_=>none
def aR (l:List (Nat × bA)):List Nat→Option (List (List AV))
 | []=>some []
 | b :: bs=>match bF b l,aR l bs with
  | some x,some css=>some (x.cells :: css)
  | _,_=>none
def cq (l:List (Nat × bA)):List Nat→Option (List (List AV))
 | []=>some []
 | b :: bs=>match bF b l,cq l bs with
  | some ⟨cs,[]⟩,some css=>some (cs :: css)
  | _,_=>none
def cJ:List Nat→List (List AV)→List (Nat × bA)→List (Nat × bA)
 | b :: bs,cs :: css,l=>cJ bs css (k7 b ⟨cs,[]⟩ l)
 | _,_,l=>l
def ki (b:Nat) (cs:List AV):SV→SV
 | .ptr b' o=>bif b' == b then .rp (cs.drop o) else .ptr b' o
 | v=>v
def qT (b:Nat) (cs:List AV):List (Nat × SV)→List (Nat × SV)
 | []=>[]
 |(t,v) :: r=>(t,ki b cs v) :: qT b cs r
def mO:Nat→List (Nat × bA)→List (Nat × bA)
 | _,[]=>[]
 | n,(m,v) :: r=>bif n == m then mO n r else (m,v) :: mO n r
def eM:List Nat→List (List AV)→S→S
 | b :: bs,cs :: css,s=>eM bs css { s with slots:=qT b cs s.slots,boxes:=mO b s.boxes }
 | _,_,s=>s
theorem uM:∀ {ids:List Nat} {css:List (List AV)} {s:S},(eM ids css s).nx=s.nx
 | [],css,s=>rfl
 | b :: bs,[],s=>rfl
 | b :: bs,cs :: css,s=>by rw [eM,uM]
def ir:List (Option AV)→List (List AV)→List AV
 | some a :: as,css=>a :: ir as css
 | none :: as,cs :: css=>.ref cs :: ir as css
 | _,_=>[]
def gM:List Nat→Bool
 | []=>true
 | b :: bs=>decide (4≤b) && gM bs
def cu:List Nat→Bool
 | []=>true
 | b :: bs=>!bs.contains b && cu bs
def rowsOf:AV→Option (List (List AV))
 | .aN=>some []
 | .sl xs=>some xs
 | _=>none
def aV (C:bI) (id:Nat) (o:aZ) (K:SV→S→Prop) (s:S):Prop :=
 match o with
 | .mv x=>ah (bw s x) fun v=>K v s
 | .pick c a b=>ah (ax s c) fun
   | .bool t=>ah (bw s a) fun u=>ah (bw s b) fun v=>(t=true→K u s)∧(t=false→K v s)
   | _=>False
 | .alloc cs=>K (.ptr id 0) { s with boxes:=(id,⟨cs,[]⟩) :: s.boxes }
 | .box x=>ah (ax s x) fun a=>eK a none=true∧K (.ptr id 0) { s with boxes:=(id,⟨a.cells,[]⟩) :: s.boxes }
 | .build zs parts=>ah (eJ s parts) fun ps=>K (.dat (.agg (dY zs ps)) none) s
 | .iM e z xs=>ah (iq s z xs) fun rows=>K (.dat (.sl rows) (some id)) { s with live:=(id,e) :: s.live }
 | .ld x sz=>ah (bw s x) fun
   | .ptr b off=>ah (bF b s.boxes) fun bx=>ah (aU bx.cells off sz) fun a =>
     K (.dat a (match sz with | none=>cw off bx.tags | some _=>none)) s
   | .rp cs=>ah (aU cs 0 sz) fun a=>K (.dat a none) s
   | _=>False
 | .st x v sz=>ah (bw s x) fun
   | .ptr b off=>ah (bF b s.boxes) fun bx=>ah (bw s v) fun
     | .dat a q=>eK a q=true∧a.cells.length=sz∧off + sz≤bx.cells.length ∧
       K .undef { s with boxes:=k7 b ⟨setCells bx.cells off a.cells,match q with | some q=>(off,q) :: bx.tags.filter (fun p=>p.1 < off || off + sz≤p.1) | none=>bx.tags.filter (fun p=>p.1 < off || off + sz≤p.1)⟩ s.boxes }
     | _=>False
   | _=>False
 | .fa x off=>ah (bw s x) fun
   | .ptr b o=>K (.ptr b (o + off)) s
   | .rp cs=>K (.rp (cs.drop off)) s
   | _=>False
 | .ym x i n z=>ah (bw s x) fun p=>ah (ax s i) fun a=>ah (idxOf a) fun i=>(0≤i∧i < n) ∧
   match p with
   | .ptr b o=>K (.ptr b (o + i.toNat * z)) s
   | .rp cs=>K (.rp (cs.drop (i.toNat * z))) s
   | _=>False
 | .F1 x i z=>ah (ax s x) fun l=>ah (ax s i) fun a=>ah (idxOf a) fun i=>ah (rowsOf l) fun xs=>(0≤i∧i < xs.length)∧ah (xs[i.toNat]?) fun row=>row.length=z∧K (.rp row) s
 | .I5 x off sz=>ah (ax s x) fun
   | .agg cs=>ah (aU cs off sz) fun a=>K (.dat a none) s
   | _=>False
 | .C2 x i n z sz=>ah (ax s x) fun
   | .agg cs=>ah (ax s i) fun a=>ah (idxOf a) fun i=>(0≤i∧i < n)∧ah (aU cs (i.toNat * z) sz) fun a=>K (.dat a none) s
   | _=>False
 | .bin op x y=>ah (ax s x) fun a=>ah (ax s y) fun b=>ah (cK op a b) fun v=>K (.dat v none) s
 | .eqc ks neg x y=>ah (ax s x) fun
   | .agg as=>ah (ax s y) fun
    | .agg bs=>ah (bT ks as bs) fun e=>K (.dat (.bool (e != neg)) none) s
    | _=>False
   | _=>False
 | .bb neg x y=>ah (ax s x) fun a=>ah (ax s y) fun b=>ah (IP neg a b) fun v=>K (.dat v none) s
 | .un op x=>ah (ax s x) fun a=>ah (IQ op a) fun v=>K (.dat v none) s
 | .kg k x=>ah (ax s x) fun a=>ah (tP k a) fun v=>K (.dat v none) s
 | .tv k x=>ah (ax s x) fun a=>ah (qQ k a) fun v=>K (.dat v none) s
 | .xu k x=>ah (ax s x) fun a=>ah (vX k a) fun v=>K (.dat v none) s
 | .uL x=>ah (bw s x) fun v=>K v s
 | .zA x=>ah (ax s x) fun a=>ah (mZ a) fun v=>K (.dat v none) s
 | .AI n=>K (.dat (.int .i64 n) none) s
 | .app e z bytes x y=>ah (bw s x) fun
   | .dat a q=>ah (rowsOf a) fun xs=>ah (ax s y) fun b=>ah (rowsOf b) fun ys =>
     (xs.length + ys.length) * bytes≤140737488355328∧(∀ r∈xs,r.length=z)∧(∀ r∈ys,r.length=z) ∧
     (match a,q with
      | .aN,_=>if ys=[] then K (.dat .aN none) s else K (.dat (.sl (xs++ys)) (some id)) { s with live:=(id,e) :: s.live }
      | .sl _,some q=>cw q s.live=some e∧K (.dat (.sl (xs++ys)) (some id)) { s with live:=(id,e) :: iN q s.live }
      | _,_=>False)
   | _=>False
 | .call f args=>ah (bQ s args) fun as=>∃ r fr,C.c f as r fr∧K (.dat r (fr.map fun _=>id)) { s with live:=match fr with | some e=>(id,e) :: s.live | none=>s.live }
 | .dX f args=>ah (bZ s args) fun p=>cu p.2=true∧ah (aR s.boxes p.2) fun css =>
   ∃ r fr css',C.p f css p.1 r fr css'∧K (.dat r (fr.map fun _=>id)) { s with boxes:=cJ p.2 css' s.boxes,live:=match fr with | some e=>(id,e) :: s.live | none=>s.live }
 | .dw g args=>ah (ax s g) fun
   | .fn (.func f) first caps=>ah (bQ s args) fun as=>∃ r fr,C.c f (first++as++caps) r fr∧K (.dat r (fr.map fun _=>id)) { s with live:=match fr with | some e=>(id,e) :: s.live | none=>s.live }
   | _=>False
 | .ext x i=>ah (ax s x) fun a=>ah (AN a i) fun v=>K (.dat v none) s
 | .AG fn first caps=>ah (bQ s first) fun as=>ah (bZ s caps) fun p=>(cu p.2 && gM p.2)=true∧ah (aR s.boxes p.2) fun css =>
   K (.dat (.fn fn as (ir p.1 css)) none) (eM p.2 css s)
 | .F2 z x lo hi=>ah (ax s x) fun a=>ah (rowsOf a) fun xs =>
   ah (qR s lo) fun l=>ah (qS s xs hi) fun h =>
   (0≤l∧l≤h∧h≤xs.length)∧(∀ r∈xs,r.length=z)∧K (.dat (zD a xs l h) none) s
 | .nc x=>ah (bw s x) fun
   | .ptr b o=>K (.ptr b o) s
   | .rp cs=>K (.rp cs) s
   | .dat (.fn (.func f) as bs) q=>K (.dat (.fn (.func f) as bs) q) s
   | .dat (.ref cs) _=>K (.rp cs) s
   | _=>False
 | .mm mx args=>ah (bQ s args) fun
   | []=>False
   | a :: r=>ah (r.foldlM (Fs mx) a) fun v=>K (.dat v none) s
 | .xt e x=>ah (ax s x) fun a=>ah (IS e a) fun v=>K (.dat v none) s
 | .Fq x n z=>ah (bw s x) fun
   | .rp cs=>n * z≤cs.length∧K (.dat (.sl (bG z n cs)) none) s
   | .ptr b off=>4≤b∧ah (bF b s.boxes) fun bx=>n * z≤(bx.cells.drop off).length∧K (.dat (.sl (bG z n (bx.cells.drop off))) none) (eM [b] [bx.cells] s)
   | _=>False
 | .F3 neg x=>ah (ax s x) fun a=>ah (vY neg a) fun b=>K (.dat (.bool b) none) s
 | .dD g args=>ah (ax s g) fun
   | .fn (.func f) [] []=>ah (bZ s args) fun p=>cu p.2=true∧ah (aR s.boxes p.2) fun css =>
     ∃ r fr css',C.p f css p.1 r fr css'∧K (.dat r (fr.map fun _=>id)) { s with boxes:=cJ p.2 css' s.boxes,live:=match fr with | some e=>(id,e) :: s.live | none=>s.live }
   | _=>False
 | .qO f args=>ah (bZ s args) fun p=>cu p.2=true∧ah (cq s.boxes p.2) fun css =>
   ∃ r,C.p f css p.1 r none css∧K (.dat r none) s
 | .lf g args=>ah (ax s g) fun
   | .fn (.func f) [] []=>ah (bZ s args) fun p=>cu p.2=true∧ah (cq s.boxes p.2) fun css =>
     ∃ r,C.p f css p.1 r none css∧K (.dat r none) s
   | _=>False
 | .IK x n z hi=>ah (bw s x) fun
   | .ptr b off=>ah (ax s hi) fun a=>ah (idxOf a) fun h=>(0≤h∧h≤n)∧K (.vs b off h.toNat z) s
   | _=>False
 | .tw e z bytes y x=>ah (bw s y) fun
   | .vs b off n z'=>ah (bw s x) fun
     | .ptr b' _=>(b'=b∧z'=z)∧ah (bF b s.boxes) fun bx=>(n * z≤(bx.cells.drop off).length∧n * bytes≤140737488355328) ∧
       (if n=0 then K (.dat .aN none) s else K (.dat (.sl (bG z n (bx.cells.drop off))) (some id)) { s with live:=(id,e) :: s.live })
     | _=>False
   | _=>False
 | .I6 x i=>ah (ax s x) fun
   | .str b=>ah (ax s i) fun a=>ah (idxOf a) fun j=>ah (yo b j) fun v=>K (.dat v none) s
   | _=>False
def qU (q n:Nat) (a:AV) (id:Nat):SV→SV
 | .raw q' n'=>bif q' == q && n' == n then .dat a (some id) else .raw q' n'
 | v=>v
def tD (q n:Nat) (a:AV) (id:Nat):List (Nat × SV)→List (Nat × SV)
 | []=>[]
 |(t,v) :: r=>(t,qU q n a id v) :: tD q n a id r
def bz (C:bI) (id:Nat) (o:AJ) (K:SV→S→Prop) (X:AV→S→Prop) (s:S):Prop :=
 match o with
 | .o c=>aV C id c K s
 | .call f args=>aV C id (.call f args) K s∨(ah (bQ s args) fun as=>(∃ cs,C.n f as cs∧K (.ptr id 0) { s with boxes:=(id,⟨cs,[]⟩) :: s.boxes })∨∃ p,C.q f [] (as.map some) p []∧X p s)
 | .dX f args=>aV C id (.dX f args) K s∨ah (bZ s args) fun p=>cu p.2=true∧ah (aR s.boxes p.2) fun css =>
   ∃ v css',C.q f css p.1 v css'∧X v { s with boxes:=cJ p.2 css' s.boxes }
 | .dw b g args=>match bw s g with
   | some (.kY f as bs)=>ah (bZ s args) fun p=>cu (p.2++bs)=true∧ah (aR s.boxes (p.2++bs)) fun css =>
     (∃ r fr css',C.p f css (p.1++as) r fr css'∧K (.dat r (fr.map fun _=>id)) { s with boxes:=cJ (p.2++bs) css' s.boxes,live:=match fr with | some e=>(id,e) :: s.live | none=>s.live }) ∨
     ∃ v css',C.q f css (p.1++as) v css'∧X v { s with boxes:=cJ (p.2++bs) css' s.boxes }
   | _=>aV C id (if b then .dD g args else .dw g args) K s
 | .IL f caps=>ah (bZ s caps) fun p=>K (.kY f p.1 p.2) s
 | .I7 x=>ah (ax s x) fun a=>lp a=true∧X a s
 | .I8 t x=>ah (ax s x) fun a=>eK a none=true∧K (.dat (.iface t a) none) s
 | .I9 t z x=>ah (ax s x) fun a=>ah (xw t z a) fun v=>K (.dat v none) s
 | .IM neg x=>ah (ax s x) fun a=>ah (zC neg a) fun b=>K (.dat (.bool b) none) s
 | .IN neg x=>ah (bw s x) fun v=>ah (tC neg v) fun b=>K (.dat (.bool b) none) s
 | .Ja e bytes l c=>ah (ax s l) fun a=>ah (idxOf a) fun l=>ah (ax s c) fun b=>ah (idxOf b) fun c=>(0≤l∧l≤c∧c * bytes≤140737488355328)∧K (.raw id l.toNat) { s with live:=(id,e) :: s.live }
 | .Jb e x y=>ah (bw s x) fun
   | .raw q n=>ah (ax s y) fun b=>ah (rowsOf b) fun ys=>(ys.length=n∧∀ r∈ys,r.length=1)∧cw q s.live=some e ∧
     K (.dat (.int .i64 n) none) { s with slots:=tD q n (.sl ys) id s.slots,live:=(id,e) :: iN q s.live }
   | _=>False
def cv (s:S) (g:Option (Nat × Bool)) (yes no:Prop):Prop :=
 match g with
 | none=>yes
 | some (t,want)=>match lk t s.slots with
  | some (.dat (.bool b) _)=>(b=want→yes)∧(b=!want→no)
  | some .undef=>no
  | _=>False
def fq (C:bI) (base:Nat):Nat→List CO→(S→Prop)→S→Prop
 | _,[],K,s=>K s
 | i,o :: r,K,s=>cv s o.g
   (aV C (base + i) o.op (fun v s'=>fq C base (i + 1) r K (s'.put o.dst v)) s)
   (fq C base (i + 1) r K (s.put o.dst .undef))
def ct (C:bI) (base:Nat):Nat→List XO→(S→Prop)→(AV→S→Prop)→S→Prop
 | _,[],K,_,s=>K s
 | i,o :: r,K,X,s=>cv s o.g
   (bz C (base + i) o.op (fun v s'=>ct C base (i + 1) r K X (s'.put o.dst v)) X s)
   (ct C base (i + 1) r K X (s.put o.dst .undef))
def gk (k:S→Prop) (Q:Exit→S→Prop):Exit→S→Prop
 | .normal,s=>k s
 | e,s=>Q e s
def dF (id:Nat) (Q:Exit→S→Prop):Exit→S→Prop
 | .exit id',s=>if id'=id then Q .normal s else Q (.exit id') s
 | e,s=>Q e s
def vS (m:List (Nat × Nat)) (q:Nat):Nat:=(cw q m).getD q
def vZ (m:List (Nat × Nat)) (nx:Nat):SV→SV→Prop
 | .dat a _,.dat a' none=>a=a'
 | .dat a (some q),.dat a' (some q')=>a=a'∧q=vS m q'∧q' < nx
 | .ptr b o,.ptr b' o'=>b=b'∧o=o'∧b' < nx
 | .rp cs,.rp cs'=>cs=cs'
 | .undef,.undef=>True
 | .kY f as bs,.kY f' as' bs'=>f=f'∧as=as'∧bs=bs'∧∀ b∈bs',b < nx
 | _,_=>False
def eu (m:List (Nat × Nat)) (nx:Nat) (a:List (Nat × SV)):List (Nat × SV)→Prop
 | []=>True
 |(t,v) :: r=>ah (lk t a) (fun u=>vZ m nx u v)∧eu m nx a r
def gN (m:List (Nat × Nat)) (nx:Nat) (a:List (Nat × Nat)):List (Nat × Nat)→Prop
 | []=>True
 |(o,q) :: r=>(cw o a=some (vS m q)∧q < nx)∧gN m nx a r
def ew (m:List (Nat × Nat)) (nx:Nat) (a:List (Nat × bA)):List (Nat × bA)→Prop
 | []=>True
 |(b,x) :: r=>ah (bF b a) (fun y=>y.cells=x.cells∧gN m nx y.tags x.tags∧b < nx)∧ew m nx a r
def eW (m:List (Nat × Nat)) (nx:Nat) (a:List (Nat × Nat)):List (Nat × Nat)→Prop
 | []=>True
 |(q,e) :: r=>(cw (vS m q) a=some e∧q < nx)∧eW m nx a r
def bl (m:List (Nat × Nat)) (l:List (Nat × Nat)):Prop:=((l.map fun p=>vS m p.1).Nodup)
def Le (s s1:S):Prop :=
 4≤s1.nx∧∃ m,eu m s1.nx s.slots s1.slots∧ew m s1.nx s.boxes s1.boxes∧eW m s1.nx s.live s1.live∧bl m s1.live
def down (F:S→Prop) (s:S):Prop:=∃ s1,Le s s1∧F s1∨F s
theorem ez {F:S→Prop} {s:S} (h:F s):down F s:=⟨s,.inr h⟩
def jl (F:(Exit→S→Prop)→S→Prop) (Q:Exit→S→Prop):Nat→S→Prop
 | 0,_=>False
 | n + 1,s=>F (gk (down (jl F Q n)) Q) s
def aQ.rd:aQ→List Nat
 | .t n=>[n]
 | .k _=>[]
def yp:Option aQ→List Nat
 | some x=>x.rd
 | none=>[]
def aP:List aQ→List Nat
 | []=>[]
 | x :: r=>x.rd++aP r
def nQ:List (Nat × Nat × aQ)→List Nat
 | []=>[]
 |(_,_,x) :: r=>x.rd++nQ r
def aZ.rd:aZ→List Nat
 | .mv x=>x.rd
 | .pick c a b=>c.rd++a.rd++b.rd
 | .alloc _=>[]
 | .box x=>x.rd
 | .build _ ps=>nQ ps
 | .iM _ _ xs=>aP xs
 | .ld x _=>x.rd
 | .st x v _=>x.rd++v.rd
 | .fa x _=>x.rd
 | .ym x i _ _=>x.rd++i.rd
 | .F1 x i _=>x.rd++i.rd
 | .I5 x _ _=>x.rd
 | .C2 x i _ _ _=>x.rd++i.rd
 | .bin _ x y=>x.rd++y.rd
 | .eqc _ _ x y=>x.rd++y.rd
 | .bb _ x y=>x.rd++y.rd
 | .un _ x=>x.rd
 | .kg _ x=>x.rd
 | .tv _ x=>x.rd
 | .xu _ x=>x.rd
 | .uL x=>x.rd
 | .zA x=>x.rd
 | .AI _=>[]
 | .app _ _ _ x y=>x.rd++y.rd
 | .call _ args=>aP args
 | .dX _ args=>aP args
 | .dw g args=>g.rd++aP args
 | .ext x _=>x.rd
 | .AG _ a b=>aP a++aP b
 | .F2 _ x lo hi=>x.rd++yp lo++yp hi
 | .nc x=>x.rd
 | .mm _ args=>aP args
 | .xt _ x=>x.rd
 | .Fq x _ _=>x.rd
 | .I6 x i=>x.rd++i.rd
 | .F3 _ x=>x.rd
 | .dD g args=>g.rd++aP args
 | .qO _ args=>aP args
 | .lf g args=>g.rd++aP args
 | .IK x _ _ hi=>x.rd++hi.rd
 | .tw _ _ _ y x=>y.rd++x.rd
def aZ.isApp:aZ→Bool
 | .app ..=>true
 | _=>false
def aZ.m5:aZ→List Nat
 | .ld x _=>x.rd
 | .st x _ _=>x.rd
 | .dX _ args=>aP args
 | .dD _ args=>aP args
 | .qO _ args=>aP args
 | .lf _ args=>aP args
 | .AG _ _ b=>aP b
 | .Fq x _ _=>x.rd
 | .tw _ _ _ _ x=>x.rd
 | _=>[]
def aZ.yq:aZ→List Nat
 | .st x _ _=>x.rd
 | .dX _ args=>aP args
 | .dD _ args=>aP args
 | .AG _ _ b=>aP b
 | .Fq x _ _=>x.rd
 | _=>[]
def aZ.pP:aZ→Bool
 | .AG _ _ b=>!b.isEmpty
 | .Fq ..=>true
 | _=>false
def aZ.lq:aZ→List Nat
 | .mv x | .fa x _ | .ym x _ _ _ | .nc x | .uL x=>x.rd
 | .pick _ a b=>a.rd++b.rd
 | _=>[]
def aZ.AO:aZ→Bool
 | .alloc _ | .box _=>true
 | _=>false
def aZ.ro:aZ→aZ
 | .dX f args=>.qO f args
 | .dD g args=>.lf g args
 | o=>o
def CO.ro (o:CO):CO:=⟨o.dst,o.op.ro,o.g⟩
def jR (ro:List Nat):Nat→List CO→List CO
 | _,[]=>[]
 | i,o :: r=>(bif ro.contains i then o.ro else o) :: jR ro (i + 1) r
theorem nS:∀ {i:Nat} {l:List CO},jR [] i l=l
 | _,[]=>rfl
 | i,o :: l=>by show o :: jR [] (i + 1) l=_; rw [nS]
def CO.rd (o:CO):List Nat:=o.op.rd++(match o.g with | some (t,_)=>[t] | none=>[])
abbrev Tag:=Option (Option Nat)
def Tag.tQ:Tag→Nat→Bool
 | none,_=>true
 | some z,b=>z == some b
def Tag.L8:Tag→Tag→Bool
 | some none,_=>true
 | _,some none=>true
 | some (some a),some (some b)=>a != b
 | _,_=>false
def look:List (Nat × Tag)→Nat→Tag
 | [],_=>none
 |(t,z) :: r,n=>bif n == t then z else look r n
def CO.indep (x y:CO):Bool :=
 (match x.dst with | some d=>!y.rd.contains d && y.dst != some d | none=>true) &&
 (match y.dst with | some d=>!x.rd.contains d | none=>true) && !(x.op.isApp && y.op.isApp)
def CO.half (T:List (Nat × Tag)) (x y:CO):Bool :=
 x.op.yq.all fun t=>y.op.m5.all (fun u=>(look T t).L8 (look T u)) && (!x.op.pP || y.rd.all fun u=>(look T t).L8 (look T u))
def CO.lu (T:List (Nat × Tag)) (x y:CO):Bool:=x.indep y && x.half T y && y.half T x
def CO.apart (x y:CO):Bool:=x.lu [] y
def Ft (T:List (Nat × Tag)):List Nat→Tag
 | []=>some none
 | [t]=>look T t
 | t :: r=>if look T t == Ft T r then look T t else none
def Fu (T:List (Nat × Tag)) (base:Nat):Nat→List CO→List (Nat × Tag)
 | _,[]=>T
 | i,o :: r=>Fu (match o.dst with | some t=>(t,if o.op.AO then some (some (base + i)) else Ft T o.op.lq) :: T | none=>T) base (i + 1) r
def xx:List (Nat × SV)→List (Nat × Tag)
 | []=>[]
 |(t,.ptr b _) :: r=>(t,some (some b)) :: xx r
 |(t,_) :: r=>(t,some none) :: xx r
def mu (T:List (Nat × Tag)):List (Nat × SV)→Bool
 | []=>true
 |(t,.ptr b _) :: r=>(look T t).tQ b && mu T r
 |(_,_) :: r=>mu T r
def lz (T:List (Nat × Tag)) (id:Nat) (o:CO):Bool :=
 match o.dst with
 | none=>true
 | some t=>match look T t with
  | none=>true
  | some z=>if o.op.AO then z == some id else o.op.lq.all fun u=>match look T u with | some z'=>z' == none || z' == z | none=>false
def iB (T:List (Nat × Tag)) (base:Nat):Nat→List CO→Bool
 | _,[]=>true
 | i,o :: r=>lz T (base + i) o && iB T base (i + 1) r
def pQ (T:List (Nat × Tag)) (ops:List CO):List (Nat × Nat)→Bool
 | []=>true
 |(i,j) :: r=>(match ops[i]?,ops[j]? with | some x,some y=>x.lu T y | _,_=>false) && pQ T ops r
def Jc (T:List (Nat × Tag)) (ops:List CO) (er:List (Nat × Nat)) (base:Nat) (sl:List (Nat × SV)):Bool:=mu T sl && iB T base 0 ops && pQ T ops er
def yu (ops:List CO) (er:List (Nat × Nat)) (base:Nat) (sl:List (Nat × SV)):Bool:=Jc (Fu (xx sl) base 0 ops) ops er base sl
def lA:List Nat→List AV→S→S
 | p :: ps,x :: xs,s=>lA ps xs (s.put (some p) (.dat x none))
 | _,_,s=>s
def tE (wr:List Nat):List (Nat × SV)→List (Nat × SV)
 | []=>[]
 |(t,v) :: r=>bif wr.contains t then tE wr r else (t,v) :: tE wr r
def qV (wr:List Nat) (s:S):S:={ s with slots:=tE wr s.slots }
def yw (wr:List Nat) (F:S→Prop) (Q:Exit→S→Prop):Exit→S→Prop
 | .normal,s=>down F (qV wr s)
 | .ret,s=>Q .ret (qV wr s)
 | .exit id,s=>Q (.exit id) (qV wr s)
 | _,_=>False
def nU (K:S→Prop):Exit→S→Prop
 | .normal,s=>K s
 | _,_=>False
def iO (l:Nat) (K:S→Prop) (Q:Exit→S→Prop):Exit→S→Prop
 | .goto l',s=>l'=l∧K s
 | e,s=>Q e s
def ql (Q:Exit→S→Prop):Exit→S→Prop
 | .goto _,_=>False
 | e,s=>Q e s
def F5 (C:bI) (ops:List CO) (er:List (Nat × Nat)) (K:S→Prop) (s:S):Prop :=
 ∃ ro,yu (jR ro 0 ops) er s.nx s.slots=true∧fq C s.nx 0 (jR ro 0 ops) K s
def aw (C:bI):aK→(Exit→S→Prop)→S→Prop
 | .skip,Q,s=>Q .normal s
 | .AK ops,Q,s=>fq C s.nx 0 ops (fun s'=>Q .normal { s' with nx:=s.nx + ops.length }) s
 | .seq a b,Q,s=>aw C a (gk (aw C b Q) Q) s
 | .join a b,Q,s=>aw C a (gk (down (aw C b Q)) Q) s
 | .cond c a b,Q,s=>ah (ax s c) fun
   | .bool t=>(t=true→aw C a Q s)∧(t=false→aw C b Q s)
   | _=>False
 | .block id c,Q,s=>aw C c (dF id Q) s
 | .loop c,Q,s=>down (fun s=>∃ n,jl (aw C c) Q n s) s
 | .exit id,Q,s=>Q (.exit id) s
 | .ret,Q,s=>Q .ret s
 | .scope l c r,Q,s=>aw C c (iO l (aw C r (ql Q)) Q) s
 | .label _,Q,s=>Q .normal s
 | .goto l,Q,s=>Q (.goto l) s
 | .eI ops,Q,s=>ct C s.nx 0 ops (fun s'=>Q .normal { s' with nx:=s.nx + ops.length }) (fun p s'=>Q (.panic (gn p)) { s' with nx:=s.nx + ops.length }) s
 | .vW ops er,Q,s=>∃ ids,(cu ids && gM ids)=true∧ah (aR s.boxes ids) fun css=>F5 C ops er (fun s'=>Q .normal { s' with nx:=s.nx + ops.length }) (eM ids css s)
 | .tA g ps wr as bd,Q,s=>ah (ax s g) fun gv=>∃ xs,C.i gv xs∧(∀ x∈xs,x.length=ps.length)∧∃ F:Nat→S→Prop,down (F 0) s∧(∀ i s',F i s'→ax s' g=some gv) ∧
   (∀ i x s',xs[i]? = some x→F i s'→aw C as (nU (aw C bd (yw wr (F (i + 1)) Q))) (lA ps x s'))∧∀ s',F xs.length s'→Q .normal s'
end Go.Eng
namespace Go.Eng
open Go
def dc (P:Program) (t:TypeId):Option Nat:=(P.info? t).map (·.size)
def jj (P:Program) (t:TypeId):Bool :=
 match P.underlying t with
 | some (.struct _) | some (.array _ _)=>true
 | _=>false
def qm (P:Program) (t:TypeId):Option (Option Nat) :=
 match P.underlying t with
 | some (.struct _) | some (.array _ _)=>(dc P t).map some
 | some _=>some none
 | none=>none
def zeroOf (P:Program) (t:TypeId):Option (List AV) :=
 match (P.info? t).bind (·.zero) with
 | some z=>z.cells.toList.mapM zB
 | none=>none
def bC:Operand→Option aQ
 | .tmp t=>some (.t t)
 | .const v=>(L7 v).map .k
 | .func f=>some (.k (.fn (.func f) [] []))
 | .global _=>none
def eG (l:Array Operand):Option (List aQ):=l.toList.mapM bC
def nV (P:Program) (s:TypeId) (f:Nat):Option Field :=
 match P.underlying s with
 | some (.struct fs)=>fs[f]?
 | _=>none
def v5 (P:Program) (rec:TypeId→Option (List CK)):List Field→Nat→Option (List CK)
 | [],_=>some []
 | f :: fs,off =>
  if f.name = "_" ∨ f.offset ≠ off then none else
  match rec f.type with
  | some ks=>if dc P f.type=some ks.length∧0 < ks.length then (v5 P rec fs (off + ks.length)).map (ks++·) else none
  | none=>none
def iP (P:Program):Nat→TypeId→Option (List CK)
 | 0,_=>none
 | d + 1,t=>match P.underlying t with
  | some .bool=>some [.b]
  | some (.int _)=>some [.i]
  | some (.float _)=>some [.f]
  | some .string=>some [.s]
  | some (.struct fs)=>if P.stoodInHeld t then none else v5 P (iP P d) fs.toList 0
  | some (.array n e)=>match iP P d e with
   | some ks=>if dc P e=some ks.length then some (List.replicate n ks).flatten else none
   | none=>none
  | _=>none
def L9 (P:Program) (t:TypeId) (neg:Bool) (x y:aQ):Option aZ :=
 match iP P 20 t with
 | some ks=>if jj P t && !P.eqGuardType P.depth t then some (.eqc ks neg x y) else none
 | none=>none
def yx (P:Program) (t:TypeId):Bool :=
 match P.underlying t with
 | some (.int _) | some (.float _)=>true
 | _=>false
def AP (P:Program) (t:TypeId):Bool :=
 match P.underlying t with
 | some .bool=>true
 | _=>false
def b8 (P:Program) (f:FuncId):Bool :=
 match P.funcs[f]? with
 | some fn => fn.name != "runtime.NumGoroutine" && fn.body.isSome
 | none=>false
def yy (P:Program) (t:TypeId) (i:Nat):Option (Nat × Nat) :=
 match P.underlying t with
 | some (.struct fs)=>match fs[i]? with
  | some f=>(dc P f.type).map fun z=>(f.offset,z)
  | none=>none
 | some (.array _ e)=>(dc P e).map fun z=>(i * z,z)
 | _=>none
def oV (P:Program) (t:TypeId):List (Nat × Operand)→Option (List (Nat × Nat × aQ))
 | []=>some []
 |(i,x) :: r=>match yy P t i,bC x,oV P t r with
  | some (o,z),some x,some ps=>some ((o,z,x) :: ps)
  | _,_,_=>none
def sliceB (P:Program) (t:TypeId):Bool:=match P.underlying t with | some (.slice _)=>true | _=>false
def uN (P:Program) (t:TypeId):Bool :=
 match P.underlying t with
 | some (.struct fs)=>fs.toList.all fun f=>(dc P f.type).isSome
 | some (.array _ e)=>(dc P e).isSome
 | _=>false
def lB (zs:Nat):List (Nat × Nat × aQ)→Bool
 | []=>true
 |(o,z,_) :: r=>decide (o + z≤zs) && lB zs r
def cOpt:Option Operand→Option (Option aQ)
 | none=>some none
 | some x=>(bC x).map some
def yz (P:Program) (s d:TypeId) (x:aQ):Option aZ :=
 match P.underlying s,P.underlying d with
 | some (.int _),some (.int k)=>some (.kg k x)
 | some (.int _),some (.float k)=>some (.tv k x)
 | some (.float _),some (.int k)=>some (.xu k x)
 | _,_=>none
def m7 (P:Program):List TypeId→Bool
 | []=>false
 | t :: r=>(match P.underlying t with | some (.pointer _)=>true | _=>false) || m7 P r
def F6 (P:Program) (f:FuncId):Option Xt :=
 match P.funcs[f]? with
 | some fn=>if fn.body.isNone && (Extern.findNext fn).isNone then
   if fn.name == "math.Float64bits" then some .vV
   else if fn.name == "math.Float64frombits" then some .ffrom
   else if fn.name == "math.RoundToEven" then some .rte
   else none
  else none
 | none=>none
def v7 (P:Program) (c:Call):Option aZ :=
 match c.callee with
 | .value (.func f)=>if b8 P f then (eG c.args).map (if m7 P c.argTypes.toList then .dX f else .call f)
  else match F6 P f,c.args.toList with
   | some e,[x]=>(bC x).map (.xt e)
   | _,_=>none
 | .value g=>match bC g,eG c.args with
  | some g,some as=>some (if m7 P c.argTypes.toList then .dD g as else .dw g as)
  | _,_=>none
 | .builtin .len=>match c.argTypes[0]?,c.args[0]? with
  | some t,some x=>match P.underlying t with
   | some (.slice _)=>(bC x).map .zA
   | some (.array n _)=>some (.AI n)
   | _=>none
  | _,_=>none
 | .builtin .append=>match c.argTypes.toList,c.args.toList with
  | [t,t'],[x,y]=>if t=t' then match P.underlying t,bC x,bC y with
    | some (.slice e),some x,some y=>match P.info? e with
     | some i=>match i.zero with
      | some z=>if 0 < i.size && z.cells.size == i.size && 0 < i.bytes then some (.app e i.size i.bytes x y) else none
      | none=>none
     | none=>none
    | _,_,_=>none
   else none
  | _,_=>none
 | .builtin .max=>(eG c.args).map (.mm true)
 | .builtin .min=>(eG c.args).map (.mm false)
 | _=>none
def Fv (P:Program):Op→Option aZ
 | .move x | .assign x=>(bC x).map .mv
 | .pick c a b=>match bC c,bC a,bC b with
  | some c,some a,some b=>some (.pick c a b)
  | _,_,_=>none
 | .alloc t=>(zeroOf P t).map .alloc
 | .box _ x=>(bC x).map .box
 | .build t ps=>match zeroOf P t,oV P t ps.toList with
  | some zs,some ps=>if lB zs.length ps && uN P t then some (.build zs ps) else none
  | _,_=>none
 | .buildSlice t n ps=>match P.underlying t with
  | some (.slice e)=>match zeroOf P e,dc P e,ps.toList.mapM (fun p=>bC p.2) with
   | some zs,some z,some xs=>if n * z≤16777216 && 0 < z && zs.length == z && ps.toList.map (·.1) == List.range n then some (.iM e z xs) else none
   | _,_,_=>none
  | _=>none
 | .load t x=>match qm P t,bC x with
  | some r,some x=>some (.ld x r)
  | _,_=>none
 | .store t x v=>match dc P t,bC x,bC v with
  | some z,some x,some v=>some (.st x v z)
  | _,_,_=>none
 | .nilCheck x=>(bC x).map .nc
 | .binOp op t x y _=>match bC x,bC y with
  | some x,some y =>
   if yx P t then some (.bin op x y)
   else if AP P t then (match op with | .eql=>some (.bb false x y) | .neq=>some (.bb true x y) | _=>none)
   else if sliceB P t then (match op,y with | .eql,.k .aN=>some (.F3 false x) | .neq,.k .aN=>some (.F3 true x) | _,_=>none)
   else match op with
    | .eql=>L9 P t false x y
    | .neq=>L9 P t true x y
    | _=>none
  | _,_=>none
 | .unOp op _ x=>(bC x).map (.un op)
 | .convert s d x=>(bC x).bind (yz P s d)
 | .fieldAddr s x f=>match nV P s f,bC x with
  | some fd,some x=>if dc P fd.type == some 0 || (dc P fd.type).isNone then none else some (.fa x fd.offset)
  | _,_=>none
 | .field s x f=>match nV P s f,bC x with
  | some fd,some x=>(qm P fd.type).map (.I5 x fd.offset)
  | _,_=>none
 | .indexAddr t x i=>match P.underlying t,bC x,bC i with
  | some (.array n e),some x,some i=>(dc P e).map (.ym x i n)
  | some (.slice e),some x,some i=>(dc P e).map (.F1 x i)
  | _,_,_=>none
 | .index t x i=>match P.underlying t,bC x,bC i with
  | some (.array n e),some x,some i=>match dc P e,qm P e with
   | some z,some r=>some (.C2 x i n z r)
   | _,_=>none
  | some .string,some x,some i=>some (.I6 x i)
  | _,_,_=>none
 | .extract x i=>(bC x).map (.ext · i)
 | .makeFunc (.func f) a b=>match eG a,eG b with
  | some a,some b=>if b8 P f then some (.AG (.func f) a b) else none
  | _,_=>none
 | .slice t x lo hi none=>match P.underlying t,bC x,cOpt lo,cOpt hi with
  | some (.slice e),some x,some lo,some hi=>(dc P e).map fun z=>.F2 z x lo hi
  | some (.array n e),some x,some none,some none=>(dc P e).map fun z=>.Fq x n z
  | some (.array n e),some x,some none,some (some hi)=>(dc P e).map fun z=>.IK x n z hi
  | _,_,_,_=>none
 | .call c=>v7 P c
 | _=>none
def Jd (P:Program) (ops:List Oper) (y:Nat):Option Operand :=
 match ops.find? (fun o=>o.dst == some y) with
 | some o=>match o.op with
  | .slice t x none (some _) none=>match P.underlying t with
   | some (.array _ _)=>some x
   | _=>none
  | _=>none
 | none=>none
def qW (P:Program) (ops:List Oper):Op→Option aZ
 | .call c=>match c.callee,c.argTypes.toList,c.args.toList with
  | .builtin .append,[t,t'],[.const (.slice none 0 0),.tmp y]=>if t=t' then match P.underlying t,(Jd P ops y).bind bC with
    | some (.slice e),some x=>match P.info? e with
     | some i=>match i.zero with
      | some z=>if 0 < i.size && z.cells.size == i.size && 0 < i.bytes then some (.tw e i.size i.bytes (.t y) x) else none
      | none=>none
     | none=>none
    | _,_=>none
   else none
  | _,_,_=>none
 | _=>none
def C7 (P:Program) (ops:List Oper) (o:Op):Option aZ :=
 match qW P ops o with
 | some c=>some c
 | none=>Fv P o
def uO (ops:Array Oper):Option (Nat × Bool)→Option (Option (Nat × Bool))
 | none=>some none
 | some (j,w)=>match (ops[j]?).bind (·.dst) with
  | some t=>some (some (t,w))
  | none=>none
def mS (P:Program) (ops:Array Oper) (o:Oper):Option CO :=
 match C7 P ops.toList o.op,uO ops o.guard with
 | some c,some g=>some ⟨o.dst,c,g⟩
 | _,_=>none
def oW (P:Program) (ops:Array Oper):List Oper→Option (List CO)
 | []=>some []
 | o :: r=>match mS P ops o,oW P ops r with
  | some c,some cs=>some (c :: cs)
  | _,_=>none
def waits (ops:List Oper) (i:Nat) (oj:Oper):Bool :=
 oj.after.any fun e=>Region.binds .any e && (e.on == i || match ops[e.on]? with
  | some ok=>ok.after.any fun e'=>Region.binds .any e' && e'.on == i
  | none=>false)
def jm (er:List (Nat × Nat)) (ops:List Oper) (i:Nat) (x:CO):Nat→List Oper→List CO→Bool
 | j,oj :: os,y :: ys=>(decide (j≤i) || oj.after.any (fun e=>Region.binds .any e && e.on == i) || x.apart y || waits ops i oj || er.contains (i,j)) && jm er ops i x (j + 1) os ys
 | _,_,_=>true
def iQ (er:List (Nat × Nat)) (ops:List Oper) (cos:List CO):Nat→List Oper→List CO→Bool
 | i,oi :: os,x :: xs=>oi.after.all (fun e=>!Region.binds .any e || decide (e.on < i)) && jm er ops i x 0 ops cos && iQ er ops cos (i + 1) os xs
 | _,_,_=>true
def lC (er:List (Nat × Nat)) (ops:List Oper) (cos:List CO):Bool:=iQ er ops cos 0 ops cos
def AQ (ops:List Oper) (i:Nat) (x:CO):Nat→List Oper→List CO→List (Nat × Nat)
 | j,oj :: os,y :: ys=>(if decide (j≤i) || oj.after.any (fun e=>Region.binds .any e && e.on == i) || x.apart y || waits ops i oj then [] else [(i,j)])++AQ ops i x (j + 1) os ys
 | _,_,_=>[]
def yA (ops:List Oper) (cos:List CO):Nat→List CO→List (Nat × Nat)
 | i,x :: xs=>AQ ops i x 0 ops cos++yA ops cos (i + 1) xs
 | _,[]=>[]
def yB (cos:List CO):List (Nat × Nat)→Bool
 | []=>true
 |(i,j) :: r=>(match cos[i]?,cos[j]? with | some x,some y=>x.indep y | _,_=>false) && yB cos r
def zeroV (P:Program) (t:TypeId):Option AV:=((P.info? t).bind (·.zero)).bind L7
def kj (P:Program) (t:TypeId):Bool:=match P.underlying t with | some (.interface _)=>true | _=>false
def C8 (P:Program) (t:TypeId):Bool:=match P.underlying t with | some (.pointer _)=>true | _=>false
def Fw (P:Program) (c:Call):Option AJ :=
 match c.callee with
 | .value (.func f)=>if b8 P f then (eG c.args).map (if m7 P c.argTypes.toList then .dX f else .call f) else none
 | .value (.tmp g)=>(eG c.args).map (.dw (m7 P c.argTypes.toList) (.t g))
 | .builtin .copy=>match c.argTypes.toList,c.args.toList with
  | [t,_],[x,y]=>match P.underlying t,bC x,bC y with
   | some (.slice e),some x,some y=>if dc P e == some 1 then some (.Jb e x y) else none
   | _,_,_=>none
  | _,_=>none
 | _=>none
def Je (P:Program) (op:BinOp) (t:TypeId) (x y:Operand):Option AJ :=
 match op,y with
 | .eql,.const .nilIface=>if kj P t then (bC x).map (.IM false) else none
 | .neq,.const .nilIface=>if kj P t then (bC x).map (.IM true) else none
 | .eql,.const (.pointer none)=>if C8 P t then (bC x).map (.IN false) else none
 | .neq,.const (.pointer none)=>if C8 P t then (bC x).map (.IN true) else none
 | _,_=>none
def Ma (P:Program):Op→Option AJ
 | .panic x=>(bC x).map .I7
 | .makeSlice t l c=>match P.underlying t,bC l,bC c with
  | some (.slice e),some l,some c=>match P.info? e with
   | some i=>if i.size == 1 && i.zero.isSome && decide (0 < i.bytes) then some (.Ja e i.bytes l c) else none
   | none=>none
  | _,_,_=>none
 | .makeInterface t x=>if kj P t || (P.underlying t).isNone then none else (bC x).map (.I8 t)
 | .typeAssert x _ t true=>if kj P t || (P.underlying t).isNone then none else match zeroV P t,bC x with
  | some z,some x=>some (.I9 t z x)
  | _,_=>none
 | .binOp op t x y _=>Je P op t x y
 | .makeFunc (.func f) a b=>if a.isEmpty && !b.isEmpty && b8 P f then (eG b).map (.IL f) else none
 | .call c=>Fw P c
 | _=>none
def nW (P:Program) (ops:Array Oper) (o:Oper):Option XO :=
 match Ma P o.op with
 | some x=>match uO ops o.guard with
  | some g=>some ⟨o.dst,x,g⟩
  | none=>none
 | none=>(mS P ops o).map fun c=>⟨c.dst,.o c.op,c.g⟩
def oX (P:Program) (ops:Array Oper):List Oper→Option (List XO)
 | []=>some []
 | o :: r=>match nW P ops o,oX P ops r with
  | some c,some cs=>some (c :: cs)
  | _,_=>none
def v8:List XO→List Nat
 | []=>[]
 | o :: r=>(match o.dst with | some d=>[d] | none=>[])++v8 r
def lD (n:Nat):List XO→Bool
 | []=>true
 | o :: r=>(match o.dst with | some d=>decide (d < n) | none=>true) && lD n r
def Jf:Code→Bool
 | .region ..=>true
 | .skip=>true
 | _=>false
def dstsOf:List CO→List Nat
 | []=>[]
 | o :: r=>(match o.dst with | some d=>[d] | none=>[])++dstsOf r
def aK.writes:aK→List Nat
 | .AK ops=>dstsOf ops
 | .vW ops _=>dstsOf ops
 | .seq a b | .join a b | .cond _ a b=>a.writes++b.writes
 | .block _ c | .loop c=>c.writes
 | .tA _ _ wr _ _=>wr
 | .scope _ c r=>c.writes++r.writes
 | .eI ops=>v8 ops
 | _=>[]
def aK.after (l:Nat):aK→Option aK
 | .seq a b | .join a b=>match a.after l with
  | some r=>some (.join r b)
  | none=>b.after l
 | .label l'=>if l' == l then some .skip else none
 | _=>none
def aK.labels:aK→List Nat
 | .seq a b | .join a b=>a.labels++b.labels
 | .label l=>[l]
 | _=>[]
def bK (m:Bool) (P:Program):Code→Option aK
 | .skip=>some .skip
 | .region _ ops jo=>if m && !jo then (oX P ops ops.toList).map .eI else match oW P ops ops.toList with
  | some cos=>if jo then
    match yA ops.toList cos 0 cos with
    | []=>if lC [] ops.toList cos then some (.AK cos) else none
    | er=>if lC er ops.toList cos && yB cos er then some (.vW cos er) else none
   else some (.AK cos)
  | none=>none
 | .seq a b=>match bK m P a,bK m P b with
  | some x,some y=>some (if Jf a then .seq x y else .join x y)
  | _,_=>none
 | .cond c a b=>match bC c,bK m P a,bK m P b with
  | some c,some a,some b=>some (.cond c a b)
  | _,_,_=>none
 | .block id c=>(bK m P c).map (.block id)
 | .loop c=>(bK m P c).map .loop
 | .exit id=>some (.exit id)
 | .ret=>some .ret
 | .label l=>some (.label l)
 | .goto l=>some (.goto l)
 | .scope c=>match bK m P c with
  | some c=>match c.labels with
   | [l]=>(c.after l).map (.scope l c)
   | _=>none
  | none=>none
 | .rangeFunc g ps as bd=>match bC g,bK m P as,bK m P bd with
  | some g,some a,some b =>
   let wr:=ps.toList++a.writes++b.writes
   if g.rd.all (fun t=>!wr.contains t) then some (.tA g ps.toList wr a b) else none
  | _,_,_=>none
 | _=>none
abbrev Nr (P:Program):Code→Option aK:=bK false P
def fu (n:Nat):List CO→Bool
 | []=>true
 | o :: r=>(match o.dst with | some d=>decide (d < n) | none=>true) && fu n r
def aK.fits (n:Nat):aK→Bool
 | .AK ops=>fu n ops
 | .vW ops _=>fu n ops
 | .seq a b | .join a b | .cond _ a b=>a.fits n && b.fits n
 | .block _ c | .loop c=>c.fits n
 | .scope _ c r=>c.fits n && r.fits n
 | .eI ops=>lD n ops
 | .tA _ ps wr a b=>ps.all (fun t=>decide (t < n)) && a.fits n && b.fits n && ps.all (fun t=>wr.contains t) && a.writes.all (fun t=>wr.contains t) && b.writes.all (fun t=>wr.contains t)
 | _=>true
inductive eA where
 | tmp (t:Nat)
 | cell (t:Nat) (sz:Option Nat)
 deriving Inhabited
def zE (P:Program):ResultVar→Option eA
 | .tmp t=>some (.tmp t)
 | .cell a t=>(qm P t).map (.cell a)
structure eV where
 nt:Nat
 res:List eA
 code:aK
def tF (m:Bool) (P:Program) (f:FuncId):Option eV :=
 match P.funcs[f]? with
 | some fn=>match fn.body,fn.results.toList.mapM (zE P) with
  | some c,some rs=>match bK m P c with
   | some cc=>if cc.fits fn.ntmps && b8 P f then some ⟨fn.ntmps,rs,cc⟩ else none
   | none=>none
  | _,_=>none
 | none=>none
abbrev bU (P:Program) (f:FuncId):Option eV:=tF false P f
end Go.Eng
namespace Go.Eng
open Go
open Go.RowKit (Below)
inductive DV (w:World) (π:Nat→Nat→Prop):AV→Value→Prop
 | bool (b:Bool):DV w π (.bool b) (.bool b)
 | int (k:IntKind) (n:Int):DV w π (.int k n) (.int k n)
 | float (k:FloatKind) (n:Nat):DV w π (.float k n) (.float k n)
 | str (s:ByteArray):DV w π (.str s) (.string s)
 | qk:DV w π .qk (.pointer none)
 | aN:DV w π .aN (.slice none 0 0)
 | qN:DV w π .qN .nilFunc
 | gj:DV w π .gj .nilIface
 | cZ (n:Nat):tB n=true→DV w π .cZ (.float .f64 n)
 | iface (t:Nat) (a:AV) (v:Value):DV w π a v→DV w π (.iface t a) (.iface t v)
 | agg (as:List AV) (vs:Array Value):as.length=vs.size→(∀ a∈as,a.scalar=true)→(∀ (i:Nat) (a:AV) (v:Value),as[i]? = some a→vs[i]? = some v→DV w π a v)→DV w π (.agg as) (.agg vs)
 | oS (as:List AV) (vs:Array Value):as.length=vs.size→(∀ (i:Nat) (a:AV) (v:Value),as[i]? = some a→vs[i]? = some v→DV w π a v)→DV w π (.oS as) (.tuple vs)
 | fn (f:Fn) (as:List AV) (vs:Array Value) (bs:List AV) (us:Array Value):as.length=vs.size→bs.length=us.size →
   (∀ (i:Nat) (a:AV) (v:Value),as[i]? = some a→vs[i]? = some v→DV w π a v)→(∀ (i:Nat) (a:AV) (v:Value),bs[i]? = some a→us[i]? = some v→DV w π a v)→DV w π (.fn f as bs) (.func f vs us)
 | sl (xs:List (List AV)) (B off cap z:Nat) (f:Nat→Nat→Value):xs.length≤cap→(∀ (i:Nat) (r:List AV),xs[i]? = some r→r.length=z) →
   (∀ (i j:Nat) (r:List AV) (a:AV),xs[i]? = some r→r[j]? = some a→a.scalar=true) →
   (∀ (i j:Nat) (r:List AV) (a:AV),xs[i]? = some r→r[j]? = some a→π B (off + i * z + j)) →
   (∀ (i j:Nat) (r:List AV) (a:AV),xs[i]? = some r→r[j]? = some a→w.cell? ⟨B,off + i * z + j,none⟩=some (f i j)) →
   (∀ (i j:Nat) (r:List AV) (a:AV),xs[i]? = some r→r[j]? = some a→DV w π a (f i j))→DV w π (.sl xs) (.slice (some ⟨B,off,none⟩) xs.length cap)
 | AR (A:Addr):DV w π (.sl []) (.slice (some A) 0 0)
 | ref (cs:List AV) (B off:Nat) (f:Nat→Value):(∀ (j:Nat) (a:AV),cs[j]? = some a→a.scalar=true)→(∀ (j:Nat) (a:AV),cs[j]? = some a→π B (off + j)) →
   (∀ (j:Nat) (a:AV),cs[j]? = some a→w.cell? ⟨B,off + j,none⟩=some (f j))→(∀ (j:Nat) (a:AV),cs[j]? = some a→DV w π a (f j))→DV w π (.ref cs) (.pointer (some ⟨B,off,none⟩))
theorem DV.mono {w w':World} {π π':Nat→Nat→Prop} (hp:∀ b o,π b o→π' b o) (hc:∀ b o,π b o→w'.cell? ⟨b,o,none⟩=w.cell? ⟨b,o,none⟩) {a:AV} {v:Value} (h:DV w π a v):DV w' π' a v:=by
 induction h with
 | bool | int | float | str | qk | aN | qN | gj=>constructor
 | iface t a v _ ih=>exact .iface t a v ih
 | cZ n h=>exact .cZ n h
 | agg as vs hl hs _ ih=>exact .agg as vs hl hs ih
 | oS as vs hl _ ih=>exact .oS as vs hl ih
 | fn f as vs bs us h1 h2 _ _ ih1 ih2=>exact .fn f as vs bs us h1 h2 ih1 ih2
 | sl xs B off cap z f h1 h2 h3 h4 h5 _ ih =>
  exact .sl xs B off cap z f h1 h2 h3 (fun i j r a hr ha=>hp _ _ (h4 i j r a hr ha)) (fun i j r a hr ha=>(hc _ _ (h4 i j r a hr ha)).trans (h5 i j r a hr ha)) ih
 | AR A=>exact .AR A
 | ref cs B off f h1 h2 h3 _ ih=>exact .ref cs B off f h1 (fun j a ha=>hp _ _ (h2 j a ha)) (fun j a ha=>(hc _ _ (h2 j a ha)).trans (h3 j a ha)) ih
def fy (w:World) (π:Nat→Nat→Prop) (as:List AV) (vs:List Value):Prop :=
 as.length=vs.length∧∀ (i:Nat) (a:AV) (v:Value),as[i]? = some a→vs[i]? = some v→DV w π a v
theorem fy.mono {w w':World} {π π':Nat→Nat→Prop} (hp:∀ b o,π b o→π' b o) (hc:∀ b o,π b o→w'.cell? ⟨b,o,none⟩=w.cell? ⟨b,o,none⟩) {as:List AV} {vs:List Value} (h:fy w π as vs):fy w' π' as vs :=
 ⟨h.1,fun i a v ha hv=>(h.2 i a v ha hv).mono hp hc⟩
theorem fy.nil (w:World) (π:Nat→Nat→Prop):fy w π [] []:=⟨rfl,fun i a v h=>by simp at h⟩
theorem fy.cons {w:World} {π:Nat→Nat→Prop} {a:AV} {v:Value} {as:List AV} {vs:List Value} (h:DV w π a v) (hs:fy w π as vs):fy w π (a :: as) (v :: vs):=by
 refine ⟨by simp [hs.1],fun i x u hx hu=>?_⟩
 cases i with
 | zero=>simp at hx hu; subst hx; subst hu; exact h
 | succ i=>exact hs.2 i x u (by simpa using hx) (by simpa using hu)
theorem fy.append {w:World} {π:Nat→Nat→Prop} {as bs:List AV} {vs us:List Value} (h:fy w π as vs) (k:fy w π bs us):fy w π (as++bs) (vs++us):=by
 refine ⟨by simp [h.1,k.1],fun i x u hx hu=>?_⟩
 by_cases hi:i < as.length
 ·exact h.2 i x u (by rwa [List.getElem?_append_left hi] at hx) (by rwa [List.getElem?_append_left (by rw [← h.1]; exact hi)] at hu)
 ·rw [List.getElem?_append_right (by omega)] at hx
  rw [List.getElem?_append_right (by rw [← h.1]; omega)] at hu
  exact k.2 (i - as.length) x u hx (by rw [h.1]; exact hu)
theorem fy.get {w:World} {π:Nat→Nat→Prop} {as:List AV} {vs:List Value} (h:fy w π as vs) {i:Nat} {a:AV} (ha:as[i]? = some a):∃ v,vs[i]? = some v∧DV w π a v:=by
 have hi:i < as.length:=by
  rcases Nat.lt_or_ge i as.length with h|h
  ·exact h
  ·rw [List.getElem?_eq_none h] at ha; cases ha
 have hv:vs[i]? = some vs[i]!:=by
  rw [List.getElem?_eq_getElem (by rw [← h.1]; exact hi)]
  simp [getElem!_pos vs i (by rw [← h.1]; exact hi)]
 exact ⟨_,hv,h.2 i a _ ha hv⟩
theorem DV.yC {w:World} {π:Nat→Nat→Prop} {a:AV} {v:Value} (h:DV w π a v) (hs:a.scalar=true):v.oneCell'=true:=by
 cases h<;>first | rfl | (simp [AV.scalar] at hs)
theorem DV.cells {w:World} {π:Nat→Nat→Prop} {a:AV} {v:Value} (h:DV w π a v) (ht:∀ vs,a≠.oS vs):fy w π a.cells v.cells.toList∧∀ x∈a.cells,x.scalar=true:=by
 cases h with
 | agg as vs hl hs hd=>exact ⟨⟨by simpa [AV.cells,Value.cells] using hl,fun i a v ha hv=>hd i a v ha (by simpa [Value.cells] using hv)⟩,hs⟩
 | oS as vs=>exact absurd rfl (ht as)
 | bool b=>exact ⟨.cons (.bool b) (.nil _ _),by simp [AV.cells,AV.scalar]⟩
 | int k n=>exact ⟨.cons (.int k n) (.nil _ _),by simp [AV.cells,AV.scalar]⟩
 | float k n=>exact ⟨.cons (.float k n) (.nil _ _),by simp [AV.cells,AV.scalar]⟩
 | str s=>exact ⟨.cons (.str s) (.nil _ _),by simp [AV.cells,AV.scalar]⟩
 | qk=>exact ⟨.cons .qk (.nil _ _),by simp [AV.cells,AV.scalar]⟩
 | aN=>exact ⟨.cons .aN (.nil _ _),by simp [AV.cells,AV.scalar]⟩
 | qN=>exact ⟨.cons .qN (.nil _ _),by simp [AV.cells,AV.scalar]⟩
 | gj=>exact ⟨.cons .gj (.nil _ _),by simp [AV.cells,AV.scalar]⟩
 | iface t a v h=>exact ⟨.cons (.iface t a v h) (.nil _ _),by simp [AV.cells,AV.scalar]⟩
 | cZ n h=>exact ⟨.cons (.cZ n h) (.nil _ _),by simp [AV.cells,AV.scalar]⟩
 | fn f as vs bs us h1 h2 h3 h4=>exact ⟨.cons (.fn f as vs bs us h1 h2 h3 h4) (.nil _ _),by simp [AV.cells,AV.scalar]⟩
 | ref cs B off f h1 h2 h3 h4=>exact ⟨.cons (.ref cs B off f h1 h2 h3 h4) (.nil _ _),by simp [AV.cells,AV.scalar]⟩
 | AR A=>exact ⟨.cons (.AR A) (.nil _ _),by simp [AV.cells,AV.scalar]⟩
 | sl xs B off cap z f h1 h2 h3 h4 h5 h6=>exact ⟨.cons (.sl xs B off cap z f h1 h2 h3 h4 h5 h6) (.nil _ _),by simp [AV.cells,AV.scalar]⟩
theorem yD {w:World} {π:Nat→Nat→Prop} {v:Value} {a:AV} (h:zB v=some a):DV w π a v∧a.scalar=true:=by
 unfold zB at h
 split at h<;>first | (cases h; exact ⟨by constructor,rfl⟩) | cases h
theorem oY {w:World} {π:Nat→Nat→Prop}:∀ (l:List Value) (as:List AV),l.mapM zB=some as→fy w π as l∧∀ a∈as,a.scalar=true
 | [],as,h=>by simp at h; subst h; exact ⟨.nil _ _,by simp⟩
 | v :: l,as,h=>by
  simp only [List.mapM_cons,Option.bind_eq_bind,Option.bind_eq_some_iff,Option.pure_def,Option.some.injEq] at h
  obtain ⟨a,ha,as',has,rfl⟩:=h
  have h1:=yD (w:=w) (π:=π) ha
  have h2:=oY (w:=w) (π:=π) l as' has
  exact ⟨.cons h1.1 h2.1,by simpa using ⟨h1.2,h2.2⟩⟩
theorem AS {w:World} {π:Nat→Nat→Prop} {v:Value} {a:AV} (h:L7 v=some a):DV w π a v:=by
 unfold L7 at h
 split at h
 ·rename_i cs
  simp only [Option.map_eq_some_iff] at h
  obtain ⟨as,has,rfl⟩:=h
  have h2:=oY (w:=w) (π:=π) _ _ has
  exact .agg as cs (by simpa using h2.1.1) h2.2 (fun i a v ha hv=>h2.1.2 i a v ha (by simpa using hv))
 ·exact (yD h).1
structure gK where
 n:Nat
 X:Nat→Prop
 β:Nat→Nat
def gK.ok (F:gK) (B:Nat):Prop:=F.n≤B∨F.X B
def gK.tR (F:gK) (b B:Nat):Prop:=F.n≤B∨(b < 4∧F.X B)
def gK.top (w:World):gK:=⟨w.heap.size,fun _=>False,id⟩
structure qn (n:gK) (w w':World):Prop where
 os:w'.os=w.os
 tape:w'.tape=w.tape
 output:w'.output=w.output
 size:w.heap.size≤w'.heap.size
 block:∀ k,k < n.n→¬ n.X k→w'.heap[k]? = w.heap[k]?
 /-- what is no variables' block lies as it lay -/
 others:∀ (k:Nat) (o:Obj),w.heap[k]? = some o→o.isCells=false→w'.heap[k]? = some o
theorem qn.refl (n:gK) (w:World):qn n w w:=⟨rfl,rfl,rfl,Nat.le_refl _,fun _ _ _=>rfl,fun _ _ h _=>h⟩
theorem qn.trans {n:gK} {a b c:World} (h:qn n a b) (k:qn n b c):qn n a c :=
 ⟨k.os.trans h.os,k.tape.trans h.tape,k.output.trans h.output,Nat.le_trans h.size k.size,fun i hi hx=>(k.block i hi hx).trans (h.block i hi hx),fun i o hi ho=>k.others i o (h.others i o hi ho) ho⟩
theorem qn.of {n:gK} {w w':World} (h:Below w.heap.size w w') (hn:n.n≤w.heap.size):qn n w w':=⟨h.os,h.tape,h.output,h.size,fun k hk _=>h.block k (by omega),fun k o hk _=>(h.block k (Array.getElem?_eq_some_iff.1 hk).1).trans hk⟩
theorem qn.below {n:gK} {w w':World} (h:qn n w w') (hX:∀ k,¬ n.X k):Below n.n w w':=⟨h.os,h.tape,h.output,h.size,fun k hk=>h.block k hk (hX k)⟩
def v9 (P:Program) (w:World) (π:Nat→Nat→Prop) (ok:Nat→Prop) (e:Nat) (v:Value):Prop :=
 v=.slice none 0 0∨∃ B len cap cur i,v=.slice (some ⟨B,0,none⟩) len cap∧ok B∧w.heap[B]? = some (.cells cur e (0,0))∧len≤cap∧cap≤maxLen∧P.info? e=some i∧cur.size=cap * i.size∧∀ o,len * i.size≤o→¬ π B o
def gi:Value→Option Nat
 | .slice (some a) _ _=>some a.block
 | _=>none
def yE (P:Program) (f:FuncId) (args:List AV) (r:AV) (fr:Option Nat):Prop :=
 b8 P f=true ∧
 ∀ (w:World) (π:Nat→Nat→Prop) (vs:List Value),(∀ b o,π b o→b < w.heap.size)→fy w π args vs →
  Calls P f vs.toArray w fun e w'=>∃ v π',e=.returned v∧Below w.heap.size w w'∧(∀ b o,π b o→π' b o)∧(∀ b o,π' b o→π b o∨w.heap.size≤b) ∧
   (∀ b o,π' b o→b < w'.heap.size)∧DV w' π' r v∧∀ t,fr=some t→v9 P w' π' (fun B=>w.heap.size≤B) t v
def dz (w:World) (π:Nat→Nat→Prop):List (Option AV)→List Nat→List Value→Prop
 | [],[],[]=>True
 | some a :: as,Bs,v :: vs=>DV w π a v∧dz w π as Bs vs
 | none :: as,B :: Bs,v :: vs=>v=.pointer (some ⟨B,0,none⟩)∧dz w π as Bs vs
 | _,_,_=>False
def RV (β:Nat→Nat) (τ:Nat→Value) (w:World) (π:Nat→Nat→Prop):SV→Value→Prop
 | .dat a q,v=>DV w π a v∧∀ t,q=some t→v=τ t
 | .ptr b off,v=>v=.pointer (some ⟨β b,off,none⟩)
 | .rp cs,v=>∃ (B off:Nat) (f:Nat→Value),v=.pointer (some ⟨B,off,none⟩)∧(∀ (j:Nat) (a:AV),cs[j]? = some a→a.scalar=true)∧(∀ (j:Nat) (a:AV),cs[j]? = some a→π B (off + j)) ∧
   (∀ (j:Nat) (a:AV),cs[j]? = some a→w.cell? ⟨B,off + j,none⟩=some (f j))∧∀ (j:Nat) (a:AV),cs[j]? = some a→DV w π a (f j)
 | .undef,v=>v=undef
 | .kY f as bs,v=>∃ us:Array Value,v=.func (.func f) #[] us∧dz w π as (bs.map β) us.toList
 | .raw q n,v=>∃ B cap,τ q=.slice (some ⟨B,0,none⟩) 0 cap∧v=.slice (some ⟨B,0,none⟩) n cap∧n≤cap
 | .vs b off n _,v=>∃ cap,n≤cap∧v=.slice (some ⟨β b,off,none⟩) n cap
def SV.dW (U:Nat→Prop):SV→Prop
 | .dat _ (some q)=>U q
 | .ptr b _=>U b
 | .vs b _ _ _=>U b
 | .kY _ _ bs=>∀ b∈bs,U b
 | .raw q _=>U q
 | _=>True
def lE (τ:Nat→Value) (w:World) (π:Nat→Nat→Prop) (B:Nat) (x:bA):Prop :=
 ∃ cur el,w.heap[B]? = some (.cells cur el (0,0))∧fy w π x.cells cur.toList∧(∀ a∈x.cells,a.scalar=true)∧(∀ o q,cw o x.tags=some q→cur[o]? = some (τ q))∧∀ o,¬ π B o
def b7 (w:World) (π:Nat→Nat→Prop):List (List AV)→List Nat→Prop
 | [],[]=>True
 | cs :: css,B :: Bs=>lE (fun _=>undef) w π B ⟨cs,[]⟩∧b7 w π css Bs
 | _,_=>False
def gK.mP (w:World) (Bs:List Nat):gK:=⟨w.heap.size,fun B=>B∈Bs,fun k=>Bs.getD k 0⟩
def we (P:Program) (f:FuncId) (css:List (List AV)) (args:List (Option AV)) (r:AV) (fr:Option Nat) (css':List (List AV)):Prop :=
 b8 P f=true∧css'.length=css.length∧css.length≤4 ∧
 ∀ (w:World) (π:Nat→Nat→Prop) (Bs:List Nat) (vs:List Value),(∀ b o,π b o→b < w.heap.size)→Bs.Nodup→b7 w π css Bs→dz w π args Bs vs →
  Calls P f vs.toArray w fun e w'=>∃ v π',e=.returned v∧qn (gK.mP w Bs) w w'∧(∀ b o,π b o→π' b o)∧(∀ b o,π' b o→π b o∨w.heap.size≤b) ∧
   (∀ b o,π' b o→b < w'.heap.size)∧b7 w' π' css' Bs∧DV w' π' r v∧∀ t,fr=some t→v9 P w' π' (fun B=>w.heap.size≤B) t v
theorem DV.kS {w:World} {π:Nat→Nat→Prop} {a:AV} (h:Eng.kS a=true):DV w π a (C6 a):=by
 cases a<;>first | (simp [Eng.kS] at h; done) | constructor
theorem DV.flat {w:World} {π:Nat→Nat→Prop} {a:AV} (h:kT a=true):DV w π a (nP a):=by
 cases a with
 | agg cs =>
  simp only [kT,List.all_eq_true] at h
  refine .agg cs _ (by simp) (fun a ha=>?_) (fun i a v ha hv=>?_)
  ·have:=h a ha; cases a<;>first | rfl | (simp [Eng.kS] at this; done)
  ·simp only [List.getElem?_toArray,List.getElem?_map,ha,Option.map_some,Option.some.injEq] at hv
   subst hv; exact .kS (h a (List.mem_of_getElem? ha))
 | _=>first | exact .kS h | (simp [kT,Eng.kS] at h; done)
def Iter (P:Program) (gv:AV) (xs:List (List AV)):Prop :=
 ∃ gf caps,gv=.fn (.func gf) [] caps∧b8 P gf=true∧(∀ x∈xs,∀ a∈x,kT a=true) ∧
 ∀ (l:Nat) (J:Nat→World→Prop) (Jx:World→Prop) (W:World) (π:Nat→Nat→Prop) (vs:List Value),(∀ b o,π b o→b < W.heap.size)→fy W π caps vs →
  (∀ i W',J i W'→∀ b o,π b o→W'.cell? ⟨b,o,none⟩=W.cell? ⟨b,o,none⟩) →
  (∀ i W W',J i W→Below W.heap.size W W'→J i W')→(∀ W W',Jx W→Below W.heap.size W W'→Jx W') →
  (∀ n i x W,xs[i]? = some x→J i W→YieldAt Fence.wide n P l (x.map nP).toArray W fun e W'=>(e=.returned (.bool true)∧J (i + 1) W')∨(e=.returned (.bool false)∧Jx W')) →
  J 0 W →
  Calls P gf (#[.func (.yield l) #[] #[]]++vs.toArray) W fun e W'=>(∃ v,e=.returned v)∧(J xs.length W'∨Jx W')
def Fx (P:Program) (f:FuncId) (css:List (List AV)) (args:List (Option AV)) (p:AV) (css':List (List AV)):Prop :=
 b8 P f=true∧css'.length=css.length∧css.length≤4 ∧
 ∀ (w:World) (π:Nat→Nat→Prop) (Bs:List Nat) (vs:List Value),(∀ b o,π b o→b < w.heap.size)→Bs.Nodup→b7 w π css Bs→dz w π args Bs vs →
  Calls P f vs.toArray w fun e w'=>∃ π',e=.panicked (gn p)∧qn (gK.mP w Bs) w w'∧(∀ b o,π b o→π' b o)∧(∀ b o,π' b o→π b o∨w.heap.size≤b) ∧
   (∀ b o,π' b o→b < w'.heap.size)∧b7 w' π' css' Bs
def Jg (P:Program) (f:FuncId) (args:List AV) (cs:List AV):Prop :=
 b8 P f=true ∧
 ∀ (w:World) (π:Nat→Nat→Prop) (vs:List Value),(∀ b o,π b o→b < w.heap.size)→fy w π args vs →
  Calls P f vs.toArray w fun e w'=>∃ B π',e=.returned (.pointer (some ⟨B,0,none⟩))∧w.heap.size≤B∧Below w.heap.size w w'∧(∀ b o,π b o→π' b o)∧(∀ b o,π' b o→π b o∨w.heap.size≤b) ∧
   (∀ b o,π' b o→b < w'.heap.size)∧lE (fun _=>undef) w' π' B ⟨cs,[]⟩
def F7:AV→FrameMode
 | .gj=>.returning
 | p=>.panicking (gn p)
def Jh (P:Program) (f:FuncId) (rv:AV) (css:List (List AV)) (args:List (Option AV)) (css':List (List AV)):Prop :=
 b8 P f=true∧css'.length=css.length∧css.length≤4 ∧
 ∀ (w:World) (π:Nat→Nat→Prop) (Bs:List Nat) (vs:List Value),(∀ b o,π b o→b < w.heap.size)→Bs.Nodup→b7 w π css Bs→dz w π args Bs vs →
  CallsDIn Fence.wide 0 P f vs.toArray (F7 rv) w fun e u' w'=>∃ v π',e=.returned v∧settle u'=.returning∧qn (gK.mP w Bs) w w'∧(∀ b o,π b o→π' b o)∧(∀ b o,π' b o→π b o∨w.heap.size≤b) ∧
   (∀ b o,π' b o→b < w'.heap.size)∧b7 w' π' css' Bs
def Pure (P:Program):bI:=⟨yE P,we P,Iter P,Fx P,Jg P,Jh P⟩
structure Rel (P:Program) (nt:Nat) (n0:gK) (w0:World) (π0:Nat→Nat→Prop) (U:Nat→Prop) (s:S) (a:Act) (w:World) (β:Nat→Nat) (τ:Nat→Value) (π:Nat→Nat→Prop):Prop where
 size:a.tmps.size=nt
 slots:∀ t v,lk t s.slots=some v→(∃ x,a.tmps[t]? = some x∧RV β τ w π v x)∧v.dW U
 boxes:∀ b x,bF b s.boxes=some x→U b∧n0.tR b (β b)∧lE τ w π (β b) x∧∀ o q,cw o x.tags=some q→U q
 inj:∀ b b' x x',bF b s.boxes=some x→bF b' s.boxes=some x'→β b=β b'→b=b'
 live:∀ q e,cw q s.live=some e→U q∧v9 P w π n0.ok e (τ q)
 bl:∀ q q' e e' B,cw q s.live=some e→cw q' s.live=some e'→gi (τ q)=some B→gi (τ q')=some B→q=q'
 bV:∀ q e b x,cw q s.live=some e→bF b s.boxes=some x→gi (τ q)≠some (β b)
 below:qn n0 w0 w
 dm:n0.n≤w0.heap.size
 dn:∀ b o,π b o→b < w.heap.size
 dA:∀ b o,π0 b o→π b o
 bW:∀ b o,π b o→π0 b o∨n0.ok b
 kn:∀ k,k < 4→β k=n0.β k
 iu:∀ k,k < 4→U k
 kept:∀ b o,π0 b o→w.cell? ⟨b,o,none⟩=w0.cell? ⟨b,o,none⟩
end Go.Eng
namespace Go.Eng
open Go
open Go.RowKit (Below)
theorem Below.mw {n:Nat} {w w':World} (h:Below n w w') {b o:Nat} (hb:b < n):w'.cell? ⟨b,o,none⟩=w.cell? ⟨b,o,none⟩:=Below.cell h (p:=⟨b,o,none⟩) hb
theorem dz.mono {w w':World} {π π':Nat→Nat→Prop} (hp:∀ b o,π b o→π' b o) (hc:∀ b o,π b o→w'.cell? ⟨b,o,none⟩=w.cell? ⟨b,o,none⟩):∀ {as:List (Option AV)} {Bs:List Nat} {vs:List Value},dz w π as Bs vs→dz w' π' as Bs vs
 | [],[],[],_=>trivial
 | [],[],v :: vs,h=>h.elim
 | [],B :: Bs,vs,h=>by cases vs<;>exact h.elim
 | some a :: as,Bs,[],h=>by cases Bs<;>exact h.elim
 | some a :: as,[],v :: vs,h=>⟨h.1.mono hp hc,dz.mono hp hc h.2⟩
 | some a :: as,B :: Bs,v :: vs,h=>⟨h.1.mono hp hc,dz.mono hp hc h.2⟩
 | none :: as,[],vs,h=>by cases vs<;>exact h.elim
 | none :: as,B :: Bs,[],h=>h.elim
 | none :: as,B :: Bs,v :: vs,h=>⟨h.1,dz.mono hp hc h.2⟩
theorem RV.mono {β β':Nat→Nat} {τ τ':Nat→Value} {w w':World} {π π':Nat→Nat→Prop} {U:Nat→Prop} (hβ:∀ b,U b→β' b=β b) (hτ:∀ b,U b→τ' b=τ b)
  (hp:∀ b o,π b o→π' b o) (hc:∀ b o,π b o→w'.cell? ⟨b,o,none⟩=w.cell? ⟨b,o,none⟩) {v:SV} {x:Value} (hU:v.dW U) (h:RV β τ w π v x):RV β' τ' w' π' v x:=by
 cases v with
 | dat a q =>
  refine ⟨h.1.mono hp hc,fun t ht=>?_⟩
  subst ht
  rw [hτ t hU]; exact h.2 t rfl
 | ptr b off =>
  show x=_
  rw [hβ b hU]; exact h
 | rp cs =>
  obtain ⟨B,off,f,hx,h1,h2,h3,h4⟩:=h
  exact ⟨B,off,f,hx,h1,fun j a ha=>hp _ _ (h2 j a ha),fun j a ha=>(hc _ _ (h2 j a ha)).trans (h3 j a ha),fun j a ha=>(h4 j a ha).mono hp hc⟩
 | undef=>exact h
 | vs b off n z =>
  obtain ⟨cap,h1,h2⟩:=h
  exact ⟨cap,h1,by rw [hβ b hU]; exact h2⟩
 | kY f as bs =>
  obtain ⟨us,h1,h2⟩:=h
  refine ⟨us,h1,?_⟩
  have e:bs.map β'=bs.map β:=List.map_congr_left fun b hb=>hβ b (hU b hb)
  rw [e]; exact h2.mono hp hc
 | raw q n =>
  obtain ⟨B,cap,h1,h2⟩:=h
  exact ⟨B,cap,by rw [hτ q hU]; exact h1,h2⟩
theorem SV.lF {U U':Nat→Prop} (hU:∀ n,U n→U' n) {v:SV} (h:v.dW U):v.dW U':=by
 cases v with
 | dat a q=>cases q with
  | none=>trivial
  | some q=>exact hU _ h
 | ptr b off=>exact hU _ h
 | rp cs=>trivial
 | undef=>trivial
 | vs b off n z=>exact hU _ h
 | kY f as bs=>exact fun b hb=>hU _ (h b hb)
 | raw q n=>exact hU _ h
theorem jn {w:World} {B:Nat} {o:Obj} (h:w.heap[B]? = some o):B < w.heap.size:=(Array.getElem?_eq_some_iff.1 h).1
theorem v9.block {P:Program} {w:World} {π:Nat→Nat→Prop} {ok:Nat→Prop} {e B:Nat} {v:Value} (h:v9 P w π ok e v) (hB:gi v=some B) :
  ok B∧B < w.heap.size:=by
 rcases h with rfl|⟨B',len,cap,cur,i,rfl,h1,h2,_⟩
 ·simp [gi] at hB
 ·simp [gi] at hB; subst hB; exact ⟨h1,jn h2⟩
theorem v9.keep {P:Program} {w w':World} {π π':Nat→Nat→Prop} {ok:Nat→Prop} {e:Nat} {v:Value} (h:v9 P w π ok e v)
  (hb:∀ B,gi v=some B→w'.heap[B]? = w.heap[B]?) (hp:∀ B o,gi v=some B→π' B o→π B o):v9 P w' π' ok e v:=by
 rcases h with rfl|⟨B',len,cap,cur,i,rfl,h1,h2,h3,h4,h5,h6,h7⟩
 ·exact .inl rfl
 ·exact .inr ⟨B',len,cap,cur,i,rfl,h1,(hb B' rfl).trans h2,h3,h4,h5,h6,fun o ho hc=>h7 o ho (hp B' o rfl hc)⟩
theorem lE.keep {τ τ':Nat→Value} {w w':World} {π π':Nat→Nat→Prop} {U:Nat→Prop} {B:Nat} {x:bA} (h:lE τ w π B x) (hτ:∀ q,U q→τ' q=τ q) (hU:∀ o q,cw o x.tags=some q→U q)
  (hb:w'.heap[B]? = w.heap[B]?) (hp:∀ b o,π b o→π' b o) (hc:∀ b o,π b o→w'.cell? ⟨b,o,none⟩=w.cell? ⟨b,o,none⟩) (hn:∀ o,¬ π' B o):lE τ' w' π' B x:=by
 obtain ⟨cur,el,h1,h2,h3,h4,_⟩:=h
 exact ⟨cur,el,hb.trans h1,h2.mono hp hc,h3,fun o q hq=>by rw [hτ q (hU o q hq)]; exact h4 o q hq,hn⟩
section
variable {P:Program} {nt:Nat} {n0:gK} {w0:World} {π0:Nat→Nat→Prop} {U U':Nat→Prop} {s:S} {a:Act} {w w':World} {β β':Nat→Nat} {τ τ':Nat→Value} {π π':Nat→Nat→Prop}
theorem Rel.frame (R:Rel P nt n0 w0 π0 U s a w β τ π) (hβ:∀ b,U b→β' b=β b) (hτ:∀ b,U b→τ' b=τ b) (hU:∀ n,U n→U' n)
  (hp:∀ b o,π b o→π' b o) (hp':∀ b o,π' b o→π b o∨w.heap.size≤b) (hpl:∀ b o,π' b o→b < w'.heap.size) (hbel:Below w.heap.size w w') :
  Rel P nt n0 w0 π0 U' s a w' β' τ' π':=by
 have hc:∀ b o,π b o→w'.cell? ⟨b,o,none⟩=w.cell? ⟨b,o,none⟩:=fun b o h=>Below.mw hbel (R.dn b o h)
 have hsz:n0.n≤w.heap.size:=Nat.le_trans R.dm R.below.size
 refine ⟨R.size,fun t v h=>?_,fun b x h=>?_,fun b b' x x' h h' e=>?_,fun q e h=>?_,fun q q' e e' B h h' hB hB'=>?_,fun q e b x h h' hB=>?_,R.below.trans (.of hbel hsz),R.dm,hpl,fun b o h=>hp _ _ (R.dA b o h),fun b o h=>?_,fun k hk=>by rw [hβ k (R.iu k hk)]; exact R.kn k hk,fun k hk=>hU k (R.iu k hk),fun b o h=>(hc b o (R.dA b o h)).trans (R.kept b o h)⟩
 ·obtain ⟨⟨x,hx,hv⟩,hu⟩:=R.slots t v h
  exact ⟨⟨x,hx,RV.mono hβ hτ hp hc hu hv⟩,SV.lF hU hu⟩
 ·obtain ⟨h1,h2,h3,h4⟩:=R.boxes b x h
  rw [hβ b h1]
  have hlt:β b < w.heap.size:=by obtain ⟨cur,el,hh,_⟩:=h3; exact jn hh
  refine ⟨hU b h1,h2,h3.keep hτ h4 (hbel.block _ hlt) hp hc (fun o ho=>?_),fun o q hq=>hU _ (h4 o q hq)⟩
  rcases hp' _ _ ho with h|h
  ·obtain ⟨_,_,_,_,_,_,hn⟩:=h3; exact hn o h
  ·omega
 ·rw [hβ b (R.boxes b x h).1,hβ b' (R.boxes b' x' h').1] at e
  exact R.inj b b' x x' h h' e
 ·obtain ⟨h1,h2⟩:=R.live q e h
  rw [hτ q h1]
  refine ⟨hU q h1,h2.keep (fun B hB=>hbel.block _ (h2.block hB).2) (fun B o hB ho=>?_)⟩
  rcases hp' _ _ ho with h|h
  ·exact h
  ·have:=(h2.block hB).2; omega
 ·rw [hτ q (R.live q e h).1] at hB
  rw [hτ q' (R.live q' e' h').1] at hB'
  exact R.bl q q' e e' B h h' hB hB'
 ·rw [hτ q (R.live q e h).1,hβ b (R.boxes b x h').1] at hB
  exact R.bV q e b x h h' hB
 ·rcases hp' b o h with h | h
  ·exact R.bW b o h
  ·exact .inr (.inl (by omega))
theorem Rel.sub (R:Rel P nt n0 w0 π0 U s a w β τ π) (hU:∀ n,U n→U' n):Rel P nt n0 w0 π0 U' s a w β τ π :=
 R.frame (fun _ _=>rfl) (fun _ _=>rfl) hU (fun _ _ h=>h) (fun _ _ h=>.inl h) R.dn (Below.refl _ _)
theorem Rel.put (R:Rel P nt n0 w0 π0 U s a w β τ π) (d:Option Nat) {v:SV} {x:Value} (hd:∀ t,d=some t→t < nt) (hv:RV β τ w π v x) (hu:v.dW U):Rel P nt n0 w0 π0 U (s.put d v) (a.put d x) w β τ π:=by
 cases d with
 | none=>exact R
 | some d =>
  refine ⟨by simp [Act.put,R.size],fun t u h=>?_,R.boxes,R.inj,R.live,R.bl,R.bV,R.below,R.dm,R.dn,R.dA,R.bW,R.kn,R.iu,R.kept⟩
  simp only [S.put,lk] at h
  by_cases e:t=d
  ·subst e
   simp at h
   subst h
   exact ⟨⟨x,by simp [Act.put,R.size,hd t rfl],hv⟩,hu⟩
  ·have:(t == d)=false:=by simpa using e
   simp only [this,cond_false] at h
   obtain ⟨⟨y,hy,hr⟩,hu'⟩:=R.slots t u h
   exact ⟨⟨y,by simp [Act.put,Array.getElem?_setIfInBounds_ne (Ne.symm e),hy],hr⟩,hu'⟩
theorem Rel.bw (R:Rel P nt n0 w0 π0 U s a w β τ π) {X:Operand} {x:aQ} {v:SV} (hx:bC X=some x) (hv:bw s x=some v):RV β τ w π v (a.eval X)∧v.dW U:=by
 cases X with
 | tmp t =>
  simp [bC] at hx; subst hx
  obtain ⟨⟨y,hy,hr⟩,hu⟩:=R.slots t v hv
  refine ⟨?_,hu⟩
  have:a.eval (.tmp t)=y:=by simp [Act.eval,hy]
  rw [this]; exact hr
 | const c =>
  simp only [bC,Option.map_eq_some_iff] at hx
  obtain ⟨k,hk,rfl⟩:=hx
  simp [Eng.bw] at hv; subst hv
  exact ⟨⟨AS hk,fun t ht=>by cases ht⟩,trivial⟩
 | global g=>simp [bC] at hx
 | func f =>
  simp [bC] at hx; subst hx
  simp [Eng.bw] at hv; subst hv
  refine ⟨⟨?_,fun t ht=>by cases ht⟩,trivial⟩
  exact .fn (.func f) [] #[] [] #[] rfl rfl (fun i a v h=>by simp at h) (fun i a v h=>by simp at h)
theorem RV.ref {β:Nat→Nat} {τ:Nat→Value} {w:World} {π:Nat→Nat→Prop} {cs:List AV} {v:Value}:RV β τ w π (.rp cs) v↔DV w π (.ref cs) v:=by
 constructor
 ·rintro ⟨B,off,f,rfl,h1,h2,h3,h4⟩
  exact .ref cs B off f h1 h2 h3 h4
 ·intro h
  cases h with
  | ref _ B off f h1 h2 h3 h4=>exact ⟨B,off,f,rfl,h1,h2,h3,h4⟩
theorem Rel.ax (R:Rel P nt n0 w0 π0 U s a w β τ π) {X:Operand} {x:aQ} {v:AV} (hx:bC X=some x) (hv:Eng.ax s x=some v):DV w π v (a.eval X):=by
 unfold Eng.ax at hv
 split at hv
 ·rename_i b q ho
  cases hv
  exact (R.bw hx ho).1.1
 ·rename_i cs ho
  cases hv
  exact RV.ref.1 (R.bw hx ho).1
 ·cases hv
theorem Rel.bQ (R:Rel P nt n0 w0 π0 U s a w β τ π):∀ {Xs:List Operand} {xs:List aQ} {vs:List AV},Xs.mapM bC=some xs→Eng.bQ s xs=some vs→fy w π vs (Xs.map a.eval)
 | [],xs,vs,hx,hv=>by
  simp at hx; subst hx
  simp [Eng.bQ] at hv; subst hv
  exact .nil _ _
 | X :: Xs,xs,vs,hx,hv=>by
  simp only [List.mapM_cons,Option.bind_eq_bind,Option.bind_eq_some_iff,Option.pure_def,Option.some.injEq] at hx
  obtain ⟨x,hx,xs',hxs,rfl⟩:=hx
  simp only [Eng.bQ] at hv
  split at hv
  ·rename_i a' as h1 h2
   cases hv
   exact .cons (R.ax hx h1) (R.bQ hxs h2)
  ·cases hv
def tS {α:Type} (f:Nat→α) (n:Nat) (x:α):Nat→α:=fun m=>if m=n then x else f m
theorem bg {α:Type} (f:Nat→α) (n:Nat) (x:α):tS f n x n=x:=by simp [tS]
theorem m8 {α:Type} (f:Nat→α) (n:Nat) (x:α) {m:Nat} (h:m≠n):tS f n x m=f m:=by simp [tS,h]
def cV (U:Nat→Prop) (n:Nat):Nat→Prop:=fun m=>U m∨m=n
theorem Rel.AT (R:Rel P nt n0 w0 π0 U s a w β τ π) {id:Nat} (hid:¬ U id) {cells:List AV} {cs:Array Value} (e:TypeId) (hd:fy w π cells cs.toList) (hs:∀ a∈cells,a.scalar=true) :
  Rel P nt n0 w0 π0 (cV U id) { s with boxes:=(id,⟨cells,[]⟩) :: s.boxes } a (w.alloc (.cells cs e)) (tS β id w.heap.size) τ π:=by
 have hne:∀ b,U b→b≠id:=fun b hb e=>hid (e ▸ hb)
 have hbel:Below w.heap.size w (w.alloc (.cells cs e)):=(Below.refl _ _).alloc (Nat.le_refl _) _
 have R1:Rel P nt n0 w0 π0 (cV U id) s a (w.alloc (.cells cs e)) (tS β id w.heap.size) τ π :=
  R.frame (fun b hb=>m8 _ _ _ (hne b hb)) (fun _ _=>rfl) (fun n h=>.inl h) (fun _ _ h=>h) (fun _ _ h=>.inl h) (fun b o h=>by have:=R.dn b o h; simp; omega) hbel
 have hsz:n0.n≤w.heap.size:=Nat.le_trans R.dm R.below.size
 have hold:∀ b x,bF b s.boxes=some x→tS β id w.heap.size b≠w.heap.size:=fun b x h=>by
  obtain ⟨h1,_,⟨cur,el,hh,_⟩,_⟩:=R.boxes b x h
  rw [m8 _ _ _ (hne b h1)]
  have:=jn hh
  omega
 refine ⟨R1.size,R1.slots,fun b x h=>?_,fun b b' x x' h h' e=>?_,R1.live,R1.bl,fun q e' b x h h' hB=>?_,R1.below,R1.dm,R1.dn,R1.dA,R1.bW,R1.kn,R1.iu,R1.kept⟩
 ·simp only [bF] at h
  by_cases hb:b=id
  ·subst hb
   simp at h
   subst h
   refine ⟨.inr rfl,by rw [bg]; exact .inl hsz,?_,fun o q h=>by simp [cw] at h⟩
   rw [bg]
   refine ⟨cs,e,heap_alloc_new w _,hd.mono (fun _ _ h=>h) (fun b o h=>Below.mw hbel (R.dn b o h)),hs,fun o q h=>by simp [cw] at h,fun o h=>?_⟩
   have:=R.dn _ _ h; omega
  ·have:(b == id)=false:=by simpa using hb
   simp only [this,cond_false] at h
   exact R1.boxes b x h
 ·simp only [bF] at h h'
  by_cases hb:b=id
  ·by_cases hb':b'=id
   ·rw [hb,hb']
   ·have hf:(b' == id)=false:=by simpa using hb'
    simp only [hf,cond_false] at h'
    subst hb
    rw [bg] at e
    exact absurd e.symm (hold b' x' h')
  ·have hf:(b == id)=false:=by simpa using hb
   simp only [hf,cond_false] at h
   by_cases hb':b'=id
   ·subst hb'
    rw [bg] at e
    exact absurd e (hold b x h)
   ·have hf':(b' == id)=false:=by simpa using hb'
    simp only [hf',cond_false] at h'
    exact R1.inj b b' x x' h h' e
 ·simp only [bF] at h'
  by_cases hb:b=id
  ·subst hb
   rw [bg] at hB
   have:=((R.live q e' h).2.block hB).2
   omega
  ·have hf:(b == id)=false:=by simpa using hb
   simp only [hf,cond_false] at h'
   exact R1.bV q e' b x h h' hB
theorem iR {n m:Nat} {b:bA}:∀ {l:List (Nat × bA)} {x:bA},bF n (k7 m b l)=some x→(n=m∧x=b∧∃ y,bF m l=some y)∨(n≠m∧bF n l=some x)
 | [],x,h=>by simp [k7,bF] at h
 |(k,v) :: r,x,h=>by
  simp only [k7] at h
  by_cases hk:m=k
  ·subst hk
   simp only [beq_self_eq_true,cond_true,bF] at h
   by_cases hn:n=m
   ·subst hn
    simp at h
    exact .inl ⟨rfl,h.symm,v,by simp [bF]⟩
   ·have hf:(n == m)=false:=by simpa using hn
    simp only [hf,cond_false] at h
    exact .inr ⟨hn,by simp [bF,hf,h]⟩
  ·have hf:(m == k)=false:=by simpa using hk
   simp only [hf,cond_false,bF] at h
   by_cases hn:n=k
   ·subst hn
    simp at h
    exact .inr ⟨fun e=>hk e.symm,by simp [bF,h]⟩
   ·have hf':(n == k)=false:=by simpa using hn
    simp only [hf',cond_false] at h
    rcases iR h with ⟨h1,h2,y,h3⟩|⟨h1,h2⟩
    ·exact .inl ⟨h1,h2,y,by simp [bF,hf,h3]⟩
    ·exact .inr ⟨h1,by simp [bF,hf',h2]⟩
theorem Rel.F8 (R:Rel P nt n0 w0 π0 U s a w β τ π) {b:Nat} {x y:bA} (hb:bF b s.boxes=some x) {cur cur':Array Value} {el:TypeId}
  (hh:w.heap[β b]? = some (.cells cur el (0,0))) (hd:fy w π y.cells cur'.toList) (hs:∀ a∈y.cells,a.scalar=true)
  (ht:∀ o q,cw o y.tags=some q→cur'[o]? = some (τ q)∧U q) :
  Rel P nt n0 w0 π0 U { s with boxes:=k7 b y s.boxes } a (w.setRow (β b) cur') β τ π:=by
 obtain ⟨hUb,hn0,⟨_,_,hh',_,_,_,hnp⟩,_⟩:=R.boxes b x hb
 have hsz:n0.n≤w.heap.size:=Nat.le_trans R.dm R.below.size
 have hother:∀ k,k≠β b→(w.setRow (β b) cur').heap[k]? = w.heap[k]?:=fun k hk=>setRow_other w _ k cur' hk
 have hc:∀ B o,π B o→(w.setRow (β b) cur').cell? ⟨B,o,none⟩=w.cell? ⟨B,o,none⟩:=fun B o h=>cell_setRow_other w _ cur' ⟨B,o,none⟩ (fun e=>hnp o (by simpa [← e] using h))
 have hbel:qn n0 w (w.setRow (β b) cur'):=⟨rfl,rfl,rfl,by simp,fun k hk hx=>hother k (fun e=>by subst e; rcases hn0 with h | h; exact absurd h (by omega); exact hx h.2),fun k o hk ho=>(hother k (fun e=>by subst e; rw [hh] at hk; cases hk; cases ho)).trans hk⟩
 refine ⟨R.size,fun t v h=>?_,fun c z h=>?_,fun c c' z z' h h' e=>?_,fun q e h=>?_,R.bl,fun q e c z h h' hB=>?_,R.below.trans hbel,R.dm,fun B o h=>by simpa using R.dn B o h,R.dA,R.bW,R.kn,R.iu,fun b o h=>(hc b o (R.dA b o h)).trans (R.kept b o h)⟩
 ·obtain ⟨⟨z,hz,hv⟩,hu⟩:=R.slots t v h
  exact ⟨⟨z,hz,RV.mono (fun _ _=>rfl) (fun _ _=>rfl) (fun _ _ h=>h) hc hu hv⟩,hu⟩
 ·rcases iR h with ⟨rfl,rfl,_⟩ | ⟨hne,h⟩
  ·exact ⟨hUb,hn0,⟨cur',el,setRow_heap w _ cur _ el _ hh,hd.mono (fun _ _ h=>h) hc,hs,fun o q hq=>(ht o q hq).1,hnp⟩,fun o q hq=>(ht o q hq).2⟩
  ·obtain ⟨h1,h2,h3,h4⟩:=R.boxes c z h
   refine ⟨h1,h2,h3.keep (fun _ _=>rfl) h4 (hother _ (fun e=>hne (R.inj c b z x h hb e))) (fun _ _ h=>h) hc ?_,h4⟩
   obtain ⟨_,_,_,_,_,_,hn⟩:=h3; exact hn
 ·have:∃ u,bF c s.boxes=some u:=by
   rcases iR h with ⟨rfl,_,_⟩|⟨_,h⟩
   ·exact ⟨x,hb⟩
   ·exact ⟨z,h⟩
  have k':∃ u,bF c' s.boxes=some u:=by
   rcases iR h' with ⟨rfl,_,_⟩|⟨_,h⟩
   ·exact ⟨x,hb⟩
   ·exact ⟨z',h⟩
  obtain ⟨u,hu⟩:=this
  obtain ⟨u',hu'⟩:=k'
  exact R.inj c c' u u' hu hu' e
 ·obtain ⟨h1,h2⟩:=R.live q e h
  exact ⟨h1,h2.keep (fun B hB=>hother B (fun eB=>R.bV q e b x h hb (by rw [hB,eB]))) (fun B o _ h=>h)⟩
 ·have:∃ u,bF c s.boxes=some u:=by
   rcases iR h' with ⟨rfl,_,_⟩|⟨_,h⟩
   ·exact ⟨x,hb⟩
   ·exact ⟨z,h⟩
  obtain ⟨u,hu⟩:=this
  exact R.bV q e c u h hu hB
end
end Go.Eng
