/- The engine and the library,part 1 of 9: what the proofs of this seat need of them. -/
import Derived.WalkKit
import Derived.RangeFuncNested
import Derived.RangeFuncLeaves
import Derived.OrdersIn
import Derived.LoopNIn
import Derived.ChangeKeysEq
import Derived.Laws.Externs
import Derived.Lib.SliceRun
import Derived.Laws.CopyRow
import Derived.Laws.MakeOwn
import Ieee.Arith
import GoSem.Core.Float
import Derived.RecoverIn
import Derived.ProofKit
import Derived.OpenShut
import Derived.ShutString
import Derived.ChangeOld
import Derived.Below
set_option linter.unnecessarySimpa false
set_option linter.unusedSimpArgs false
set_option linter.unusedVariables false
set_option linter.defProp false
set_option maxRecDepth 10000
set_option maxHeartbeats 4000000
namespace Go.Eng
open Go
inductive AV where
 | bool (b:Bool)
 | int (k:IntKind) (n:Int)
 | float (k:FloatKind) (n:Nat)
 | str (s:ByteArray)
 | jS
 | bf
 | sl (xs:List (List AV))
 | fn (f:Fn) (first caps:List AV)
 | lz
 | iface (t:Nat) (v:AV)
 | bV
 | agg (cs:List AV)
 | kY (vs:List AV)
 | ref (cs:List AV)
 /-- a float (of 64 bits) that is no number,whichever -/
 | cJ
 deriving Inhabited
inductive SV where
 | dat (a:AV) (q:Option Nat)
 | ptr (b off:Nat)
 | rp (cs:List AV)
 | undef
 /-- a slice over a box of its own or another's: n elements of z cells each,from off on -/
 | vs (b off n z:Nat)
 /-- a function with values and pointers at the heads of boxes -/
 | fK (f:Nat) (as:List (Option AV)) (bs:List Nat)
 /-- a slice of n elements that nobody has read: the token's row from its head on -/
 | raw (q n:Nat)
 deriving Inhabited
structure aN where
 cells:List AV
 tags:List (Nat × Nat)
 deriving Inhabited
structure S where
 slots:List (Nat × SV)
 boxes:List (Nat × aN)
 live:List (Nat × Nat)
 nx:Nat
 deriving Inhabited
inductive aD where
 | t (n:Nat)
 | k (v:AV)
 deriving Inhabited
inductive CK where
 | b | i | f | s
 deriving DecidableEq,Inhabited
inductive Xt where
 | lA | ffrom | rte
 deriving DecidableEq,Inhabited
inductive aK where
 | mv (x:aD)
 | pick (c a b:aD)
 | alloc (cs:List AV)
 | box (x:aD)
 | build (zs:List AV) (parts:List (Nat × Nat × aD))
 | uH (e z:Nat) (xs:List aD)
 | ld (x:aD) (sz:Option Nat)
 | st (x v:aD) (sz:Nat)
 | fa (x:aD) (off:Nat)
 | xe (x i:aD) (n z:Nat)
 | nA (x i:aD) (z:Nat)
 | Ar (x:aD) (off:Nat) (sz:Option Nat)
 | AK (x i:aD) (n z:Nat) (sz:Option Nat)
 | bin (op:BinOp) (x y:aD)
 | eqc (ks:List CK) (neg:Bool) (x y:aD)
 | bb (neg:Bool) (x y:aD)
 | un (op:UnOp) (x:aD)
 | gB (k:IntKind) (x:aD)
 | pG (k:FloatKind) (x:aD)
 | pH (k:IntKind) (x:aD)
 | nB (x:aD)
 | dM (x:aD)
 | su (n:Nat)
 | app (e z bytes:Nat) (s x:aD)
 | call (f:Nat) (args:List aD)
 | aI (f:Nat) (args:List aD)
 | ee (g:aD) (args:List aD)
 | ext (x:aD) (i:Nat)
 | si (fn:Fn) (first caps:List aD)
 | xK (z:Nat) (x:aD) (lo hi:Option aD)
 | nc (x:aD)
 | mm (max:Bool) (args:List aD)
 | xt (e:Xt) (x:aD)
 | xg (x:aD) (n z:Nat)
 | AL (x i:aD)
 | xh (neg:Bool) (x:aD)
 | b8 (g:aD) (args:List aD)
 | lB (f:Nat) (args:List aD)
 | gC (g:aD) (args:List aD)
 | AM (x:aD) (n z:Nat) (hi:aD)
 | nC (e z bytes:Nat) (y x:aD)
 deriving Inhabited
structure CO where
 dst:Option Nat
 op:aK
 g:Option (Nat × Bool)
 deriving Inhabited
inductive uI where
 | o (c:aK)
 | call (f:Nat) (args:List aD)
 | aI (f:Nat) (args:List aD)
 | ee (p:Bool) (g:aD) (args:List aD)
 | Dp (f:Nat) (caps:List aD)
 | AN (x:aD)
 | AO (t:Nat) (x:aD)
 /-- is it of that type? the value,or nothing of that type -/
 | As (t:Nat) (z:AV) (x:aD)
 | AP (neg:Bool) (x:aD)
 | uK (neg:Bool) (x:aD)
 /-- a slice of cells that is made; what is copied into all of it -/
 | AQ (e bytes:Nat) (l c:aD)
 | AR (e:Nat) (x y:aD)
 deriving Inhabited
structure XO where
 dst:Option Nat
 op:uI
 g:Option (Nat × Bool)
 deriving Inhabited
inductive ak where
 | skip
 | sj (ops:List CO)
 | seq (a b:ak)
 | join (a b:ak)
 | cond (c:aD) (a b:ak)
 | block (id:Nat) (c:ak)
 | loop (c:ak)
 | exit (id:Nat)
 | ret
 | nD (g:aD) (ps wr:List Nat) (as bd:ak)
 | lC (ops:List CO) (bad:List (Nat × Nat))
 | scope (l:Nat) (c r:ak)
 | label (l:Nat)
 | goto (l:Nat)
 | aB (ops:List XO)
 deriving Inhabited
def AV.cells:AV→List AV
 | .agg cs=>cs
 | v=>[v]
def AV.scalar:AV→Bool
 | .agg _ | .kY _=>false
 | _=>true
def q4:Value→Option AV
 | .bool b=>some (.bool b)
 | .int k n=>some (.int k n)
 | .float k n=>some (.float k n)
 | .string s=>some (.str s)
 | .pointer none=>some .jS
 | .slice none 0 0=>some .bf
 | .nilFunc=>some .lz
 | .nilIface=>some .bV
 | _=>none
def Dq:Value→Option AV
 | .agg cs=>(cs.toList.mapM q4).map .agg
 | v=>q4 v
def kB (op:BinOp) (k:IntKind) (x y:Int):Option Int :=
 let a:=BitVec.ofInt k.bits x
 let b:=BitVec.ofInt k.bits y
 match op with
 | .and=>some (k.wrap (a &&& b).toNat)
 | .or=>some (k.wrap (a ||| b).toNat)
 | .xor=>some (k.wrap (a ^^^ b).toNat)
 | .andNot=>some (k.wrap (a &&& ~~~b).toNat)
 | _=>none
def gx (op:BinOp) (k:IntKind) (x y:Int):Option AV :=
 match op with
 | .add=>some (.int k (k.wrap (x + y)))
 | .sub=>some (.int k (k.wrap (x - y)))
 | .mul=>some (.int k (k.wrap (x * y)))
 | .quo=>if y=0 then none else some (.int k (k.wrap (x.tdiv y)))
 | .rem=>if y=0 then none else some (.int k (x.tmod y))
 | .and | .or | .xor | .andNot=>(kB op k x y).map (.int k)
 | .eql=>some (.bool (x == y))
 | .neq=>some (.bool (x != y))
 | .lss=>some (.bool (decide (x < y)))
 | .leq=>some (.bool (decide (x≤y)))
 | .gtr=>some (.bool (decide (x > y)))
 | .geq=>some (.bool (decide (x ≥ y)))
 | _=>none
def nE (n:Nat):Bool:=match FloatKind.f64.decode n with
 | .nan ..=>true
 | _=>false
def sn:FloatKind→Option Nat→Option AV
 | k,some r=>some (.float k r)
 | .f64,none=>some .cJ
 | .f32,none=>none
def sw:BinOp→Option AV
 | .add | .sub | .mul | .quo=>some .cJ
 | .neq=>some (.bool true)
 | .eql | .lss | .leq | .gtr | .geq=>some (.bool false)
 | _=>none
def pI (op:BinOp) (k:FloatKind) (x y:Nat):Option AV :=
 let c:=k.format.order x y
 match op with
 | .add=>sn k (k.format.add x y)
 | .sub=>sn k (k.format.sub x y)
 | .mul=>sn k (k.format.mul x y)
 | .quo=>sn k (k.format.div x y)
 | .eql=>some (.bool (c == some .eq))
 | .neq=>some (.bool (c != some .eq))
 | .lss=>some (.bool (c == some .lt))
 | .leq=>some (.bool (c == some .lt || c == some .eq))
 | .gtr=>some (.bool (c == some .gt))
 | .geq=>some (.bool (c == some .gt || c == some .eq))
 | _=>none
def gD (op:BinOp) (k:IntKind) (x y:Int):Option AV :=
 if y < 0 then none else
 match op with
 | .shl=>some (.int k (k.wrap (x * 2 ^ min y.toNat k.bits)))
 | .shr=>some (.int k (x.fdiv (2 ^ min y.toNat k.bits)))
 | _=>none
def bB (op:BinOp) (a b:AV):Option AV :=
 match op,a,b with
 | .shl,.int k x,.int _ y=>gD .shl k x y
 | .shr,.int k x,.int _ y=>gD .shr k x y
 | op,.int k x,.int k' y=>if k=k' then gx op k x y else none
 | op,.float k x,.float k' y=>if k=k' then pI op k x y else none
 | op,.cJ,.float .f64 _=>sw op
 | op,.float .f64 _,.cJ=>sw op
 | op,.cJ,.cJ=>sw op
 | _,_,_=>none
def At (neg:Bool):AV→AV→Option AV
 | .bool x,.bool y=>some (.bool (if neg then x != y else x == y))
 | _,_=>none
def iS:CK→AV→AV→Option Bool
 | .b,.bool x,.bool y=>some (x == y)
 | .i,.int k x,.int k' y=>if k=k' then some (x == y) else none
 | .f,.float k x,.float k' y=>if k=k' then some (k.format.order x y == some .eq) else none
 | .s,.str x,.str y=>some (x == y)
 | _,_,_=>none
def aZ:List CK→List AV→List AV→Option Bool
 | [],[],[]=>some true
 | k :: ks,a :: as,b :: bs=>match iS k a b,aZ ks as bs with
  | some x,some y=>some (x && y)
  | _,_=>none
 | _,_,_=>none
def xL (op:UnOp) (a:AV):Option AV :=
 match op,a with
 | .neg,.int k n=>some (.int k (k.wrap (0 - n)))
 | .xor,.int k n=>(kB .xor k (if k.signed then -1 else k.max) n).map (.int k)
 | .neg,.float k b=>some (.float k (Op.negFloat k b))
 | .not,.bool b=>some (.bool !b)
 | _,_=>none
def mL (k:IntKind):AV→Option AV
 | .int _ n=>some (.int k (k.wrap n))
 | _=>none
def mM (k:FloatKind):AV→Option AV
 | .int _ n=>some (.float k (k.nearest n))
 | _=>none
def oo (k:IntKind):AV→Option AV
 | .float s b=>match (s.decode b).toInt .zero with
  | some n=>if k.min≤n∧n≤k.max then some (.int k n) else none
  | none=>none
 | _=>none
def uL (b:Nat):Option AV :=
 match FloatKind.f64.decode b with
 | .nan _ t=>if FloatKind.f64.format.quiet t=t then some (.float .f64 b) else none
 | d=>some (.float .f64 (FloatKind.f64.encode (d.integral .even)))
def Au:Xt→AV→Option AV
 | .lA,.float .f64 b=>some (.int .u64 b)
 | .ffrom,.int .u64 n=>some (.float .f64 n.toNat)
 | .rte,.float .f64 b=>uL b
 | _,_=>none
def aX (z:Nat):Nat→List AV→List (List AV)
 | 0,_=>[]
 | n + 1,cs=>cs.take z :: aX z n (cs.drop z)
def ql (s:ByteArray) (i:Int):Option AV :=
 if 0≤i∧i < s.size then some (.int .u8 (s[i.toNat]!).toNat) else none
def oq:AV→Option AV
 | .bf=>some (.int .i64 0)
 | .sl xs=>some (.int .i64 xs.length)
 | _=>none
def ot:Bool→AV→Option Bool
 | neg,.bf=>some (!neg)
 | neg,.sl _=>some neg
 | _,_=>none
def xj (mx:Bool):AV→AV→Option AV
 | .int k x,.int _ y=>some (.int k (if mx then (if y > x then y else x) else (if y < x then y else x)))
 | .float k x,.float k' y=>if k=k' then match k.format.order x y with
   | none=>if k=.f64 then some .cJ else none
   | some .lt=>some (.float k (if mx then y else x))
   | some .gt=>some (.float k (if mx then x else y))
   | some .eq=>some (.float k (if mx then (if (k.decode x).neg then y else x) else (if (k.decode x).neg then x else y)))
  else none
 | .cJ,.float .f64 _=>some .cJ
 | .float .f64 _,.cJ=>some .cJ
 | .cJ,.cJ=>some .cJ
 | _,_=>none
def sA:AV→Nat→Option AV
 | .kY vs,i=>vs[i]?
 | _,_=>none
def b6 (cs:List AV) (off:Nat):Option Nat→Option AV
 | none=>cs[off]?
 | some n=>if off + n≤cs.length then some (.agg ((cs.drop off).take n)) else none
def gE:List AV→List (Nat × List AV)→List AV
 | cs,[]=>cs
 | cs,(off,ps) :: rest=>gE (cs.take off++ps++cs.drop (off + ps.length)) rest
def uM:AV→Value
 | .bool b=>.bool b
 | .int k n=>.int k n
 | .float k n=>.float k n
 | .str s=>.string s
 | .jS=>.pointer none
 | .bf=>.slice none 0 0
 | _=>undef
def gr:AV→Bool
 | .bool _ | .int .. | .float .. | .str _ | .jS | .bf=>true
 | _=>false
def jk:AV→Value
 | .agg cs=>.agg (cs.map uM).toArray
 | a=>uM a
def jl:AV→Bool
 | .agg cs=>cs.all gr
 | a=>gr a
def pJ (t:Nat) (z:AV):AV→Option AV
 | .bV=>some (.kY [z,.bool false])
 | .iface t' a=>some (if t'=t then .kY [a,.bool true] else .kY [z,.bool false])
 | _=>none
def q5 (neg:Bool):AV→Option Bool
 | .bV=>some !neg
 | .iface _ _=>some neg
 | _=>none
def mE (neg:Bool):SV→Option Bool
 | .ptr _ _ | .rp _ | .dat (.ref _) _=>some neg
 | .dat .jS _=>some !neg
 | _=>none
def cO:AV→Bool
 | .iface _ a=>jl a
 | _=>false
def xM:AV→Value
 | .iface t a=>.iface t (jk a)
 | _=>undef
def ct (p:AV):List PanicEntry:=[{ v:=xM p,recovered:=false }]
def lk:Nat→List (Nat × SV)→Option SV
 | _,[]=>none
 | n,(m,v) :: r=>bif n == m then some v else lk n r
def aS:Nat→List (Nat × aN)→Option aN
 | _,[]=>none
 | n,(m,v) :: r=>bif n == m then some v else aS n r
def bF:Nat→List (Nat × Nat)→Option Nat
 | _,[]=>none
 | n,(m,v) :: r=>bif n == m then some v else bF n r
def gy:Nat→aN→List (Nat × aN)→List (Nat × aN)
 | _,_,[]=>[]
 | n,b,(m,v) :: r=>bif n == m then (m,b) :: r else (m,v) :: gy n b r
def eu:Nat→List (Nat × Nat)→List (Nat × Nat)
 | _,[]=>[]
 | n,(m,v) :: r=>bif n == m then eu n r else (m,v) :: eu n r
def S.put (s:S) (d:Option Nat) (v:SV):S :=
 match d with
 | none=>s
 | some d=>{ s with slots:=(d,v) :: s.slots }
def aQ (s:S):aD→Option SV
 | .t n=>lk n s.slots
 | .k v=>some (.dat v none)
def ai (s:S) (x:aD):Option AV :=
 match aQ s x with
 | some (.dat a _)=>some a
 | some (.rp cs)=>some (.ref cs)
 | _=>none
def bh (s:S):List aD→Option (List AV)
 | []=>some []
 | x :: r=>match ai s x,bh s r with
  | some a,some as=>some (a :: as)
  | _,_=>none
def ah {α:Type} (o:Option α) (k:α→Prop):Prop :=
 match o with
 | some a=>k a
 | none=>False
@[simp] theorem aj {α:Type} (a:α) (k:α→Prop):ah (some a) k=k a:=rfl
@[simp] theorem xN {α:Type} (k:α→Prop):ah none k=False:=rfl
def dh:AV→Option Nat→Bool
 | .kY _,_=>false
 | .agg _,some _=>false
 | _,_=>true
def cK (s:S):List (Nat × Nat × aD)→Option (List (Nat × List AV))
 | []=>some []
 |(off,sz,x) :: r=>match ai s x,cK s r with
  | some a,some ps=>if a.cells.length=sz∧dh a none=true then some ((off,a.cells) :: ps) else none
  | _,_=>none
def ef (s:S) (z:Nat):List aD→Option (List (List AV))
 | []=>some []
 | x :: r=>match ai s x,ef s z r with
  | some a,some rows=>if a.cells.length=z∧dh a none=true then some (a.cells :: rows) else none
  | _,_=>none
def idxOf:AV→Option Int
 | .int _ i=>some i
 | _=>none
def setCells (cs:List AV) (off:Nat) (ps:List AV):List AV:=cs.take off++ps++cs.drop (off + ps.length)
def jT:Option AV→Option Int
 | some a=>idxOf a
 | none=>none
def lD (s:S):Option aD→Option Int
 | none=>some 0
 | some x=>jT (ai s x)
def lE (s:S) (xs:List (List AV)):Option aD→Option Int
 | none=>some xs.length
 | some x=>jT (ai s x)
def sB (a:AV) (xs:List (List AV)) (l h:Int):AV :=
 match a with
 | .bf=>.bf
 | _=>.sl ((xs.take h.toNat).drop l.toNat)
structure bA where
 c:Nat→List AV→AV→Option Nat→Prop
 p:Nat→List (List AV)→List (Option AV)→AV→Option Nat→List (List AV)→Prop
 /-- what a function that is ranged over yields,one after the other -/
 i:AV→List (List AV)→Prop
 /-- a function that raises this -/
 q:Nat→List (List AV)→List (Option AV)→AV→List (List AV)→Prop
 /-- a function that yields a pointer to a new box -/
 n:Nat→List AV→List AV→Prop
 /-- a function that is deferred,with what it recovers: nothing,or what was raised -/
 d:Nat→AV→List (List AV)→List (Option AV)→List (List AV)→Prop
def br (s:S):List aD→Option (List (Option AV) × List Nat)
 | []=>some ([],[])
 | x :: r=>match aQ s x,br s r with
  | some (.dat a _),some (as,bs)=>some (some a :: as,bs)
  | some (.rp cs),some (as,bs)=>some (some (.ref cs) :: as,bs)
  | some (.ptr b 0),some (as,bs)=>some (none :: as,b :: bs)
  | _,_=>none
def aC (l:List (Nat × aN)):List Nat→Option (List (List AV))
 | []=>some []
 | b :: bs=>match aS b l,aC l bs with
  | some x,some css=>some (x.cells :: css)
  | _,_=>none
def bw (l:List (Nat × aN)):List Nat→Option (List (List AV))
 | []=>some []
 | b :: bs=>match aS b l,bw l bs with
  | some ⟨cs,[]⟩,some css=>some (cs :: css)
  | _,_=>none
def bE:List Nat→List (List AV)→List (Nat × aN)→List (Nat × aN)
 | b :: bs,cs :: css,l=>bE bs css (gy b ⟨cs,[]⟩ l)
 | _,_,l=>l
def fT (b:Nat) (cs:List AV):SV→SV
 | .ptr b' o=>bif b' == b then .rp (cs.drop o) else .ptr b' o
 | v=>v
def lF (b:Nat) (cs:List AV):List (Nat × SV)→List (Nat × SV)
 | []=>[]
 |(t,v) :: r=>(t,fT b cs v) :: lF b cs r
def iM:Nat→List (Nat × aN)→List (Nat × aN)
 | _,[]=>[]
 | n,(m,v) :: r=>bif n == m then iM n r else (m,v) :: iM n r
def cP:List Nat→List (List AV)→S→S
 | b :: bs,cs :: css,s=>cP bs css { s with slots:=lF b cs s.slots,boxes:=iM b s.boxes }
 | _,_,s=>s
theorem nF:∀ {ids:List Nat} {css:List (List AV)} {s:S},(cP ids css s).nx=s.nx
 | [],css,s=>rfl
 | b :: bs,[],s=>rfl
 | b :: bs,cs :: css,s=>by rw [cP,nF]
def ei:List (Option AV)→List (List AV)→List AV
 | some a :: as,css=>a :: ei as css
 | none :: as,cs :: css=>.ref cs :: ei as css
 | _,_=>[]
def d7:List Nat→Bool
 | []=>true
 | b :: bs=>decide (4≤b) && d7 bs
def bz:List Nat→Bool
 | []=>true
 | b :: bs=>!bs.contains b && bz bs
def rowsOf:AV→Option (List (List AV))
 | .bf=>some []
 | .sl xs=>some xs
 | _=>none
def aH (C:bA) (id:Nat) (o:aK) (K:SV→S→Prop) (s:S):Prop :=
 match o with
 | .mv x=>ah (aQ s x) fun v=>K v s
 | .pick c a b=>ah (ai s c) fun
   | .bool t=>ah (aQ s a) fun u=>ah (aQ s b) fun v=>(t=true→K u s)∧(t=false→K v s)
   | _=>False
 | .alloc cs=>K (.ptr id 0) { s with boxes:=(id,⟨cs,[]⟩) :: s.boxes }
 | .box x=>ah (ai s x) fun a=>dh a none=true∧K (.ptr id 0) { s with boxes:=(id,⟨a.cells,[]⟩) :: s.boxes }
 | .build zs parts=>ah (cK s parts) fun ps=>K (.dat (.agg (gE zs ps)) none) s
 | .uH e z xs=>ah (ef s z xs) fun rows=>K (.dat (.sl rows) (some id)) { s with live:=(id,e) :: s.live }
 | .ld x sz=>ah (aQ s x) fun
   | .ptr b off=>ah (aS b s.boxes) fun bx=>ah (b6 bx.cells off sz) fun a =>
     K (.dat a (match sz with | none=>bF off bx.tags | some _=>none)) s
   | .rp cs=>ah (b6 cs 0 sz) fun a=>K (.dat a none) s
   | _=>False
 | .st x v sz=>ah (aQ s x) fun
   | .ptr b off=>ah (aS b s.boxes) fun bx=>ah (aQ s v) fun
     | .dat a q=>dh a q=true∧a.cells.length=sz∧off + sz≤bx.cells.length ∧
       K .undef { s with boxes:=gy b ⟨setCells bx.cells off a.cells,match q with | some q=>(off,q) :: bx.tags.filter (fun p=>p.1 < off || off + sz≤p.1) | none=>bx.tags.filter (fun p=>p.1 < off || off + sz≤p.1)⟩ s.boxes }
     | _=>False
   | _=>False
 | .fa x off=>ah (aQ s x) fun
   | .ptr b o=>K (.ptr b (o + off)) s
   | .rp cs=>K (.rp (cs.drop off)) s
   | _=>False
 | .xe x i n z=>ah (aQ s x) fun p=>ah (ai s i) fun a=>ah (idxOf a) fun i=>(0≤i∧i < n) ∧
   match p with
   | .ptr b o=>K (.ptr b (o + i.toNat * z)) s
   | .rp cs=>K (.rp (cs.drop (i.toNat * z))) s
   | _=>False
 | .nA x i z=>ah (ai s x) fun l=>ah (ai s i) fun a=>ah (idxOf a) fun i=>ah (rowsOf l) fun xs=>(0≤i∧i < xs.length)∧ah (xs[i.toNat]?) fun row=>row.length=z∧K (.rp row) s
 | .Ar x off sz=>ah (ai s x) fun
   | .agg cs=>ah (b6 cs off sz) fun a=>K (.dat a none) s
   | _=>False
 | .AK x i n z sz=>ah (ai s x) fun
   | .agg cs=>ah (ai s i) fun a=>ah (idxOf a) fun i=>(0≤i∧i < n)∧ah (b6 cs (i.toNat * z) sz) fun a=>K (.dat a none) s
   | _=>False
 | .bin op x y=>ah (ai s x) fun a=>ah (ai s y) fun b=>ah (bB op a b) fun v=>K (.dat v none) s
 | .eqc ks neg x y=>ah (ai s x) fun
   | .agg as=>ah (ai s y) fun
    | .agg bs=>ah (aZ ks as bs) fun e=>K (.dat (.bool (e != neg)) none) s
    | _=>False
   | _=>False
 | .bb neg x y=>ah (ai s x) fun a=>ah (ai s y) fun b=>ah (At neg a b) fun v=>K (.dat v none) s
 | .un op x=>ah (ai s x) fun a=>ah (xL op a) fun v=>K (.dat v none) s
 | .gB k x=>ah (ai s x) fun a=>ah (mL k a) fun v=>K (.dat v none) s
 | .pG k x=>ah (ai s x) fun a=>ah (mM k a) fun v=>K (.dat v none) s
 | .pH k x=>ah (ai s x) fun a=>ah (oo k a) fun v=>K (.dat v none) s
 | .nB x=>ah (aQ s x) fun v=>K v s
 | .dM x=>ah (ai s x) fun a=>ah (oq a) fun v=>K (.dat v none) s
 | .su n=>K (.dat (.int .i64 n) none) s
 | .app e z bytes x y=>ah (aQ s x) fun
   | .dat a q=>ah (rowsOf a) fun xs=>ah (ai s y) fun b=>ah (rowsOf b) fun ys =>
     (xs.length + ys.length) * bytes≤140737488355328∧(∀ r∈xs,r.length=z)∧(∀ r∈ys,r.length=z) ∧
     (match a,q with
      | .bf,_=>if ys=[] then K (.dat .bf none) s else K (.dat (.sl (xs++ys)) (some id)) { s with live:=(id,e) :: s.live }
      | .sl _,some q=>bF q s.live=some e∧K (.dat (.sl (xs++ys)) (some id)) { s with live:=(id,e) :: eu q s.live }
      | _,_=>False)
   | _=>False
 | .call f args=>ah (bh s args) fun as=>∃ r fr,C.c f as r fr∧K (.dat r (fr.map fun _=>id)) { s with live:=match fr with | some e=>(id,e) :: s.live | none=>s.live }
 | .aI f args=>ah (br s args) fun p=>bz p.2=true∧ah (aC s.boxes p.2) fun css =>
   ∃ r fr css',C.p f css p.1 r fr css'∧K (.dat r (fr.map fun _=>id)) { s with boxes:=bE p.2 css' s.boxes,live:=match fr with | some e=>(id,e) :: s.live | none=>s.live }
 | .ee g args=>ah (ai s g) fun
   | .fn (.func f) first caps=>ah (bh s args) fun as=>∃ r fr,C.c f (first++as++caps) r fr∧K (.dat r (fr.map fun _=>id)) { s with live:=match fr with | some e=>(id,e) :: s.live | none=>s.live }
   | _=>False
 | .ext x i=>ah (ai s x) fun a=>ah (sA a i) fun v=>K (.dat v none) s
 | .si fn first caps=>ah (bh s first) fun as=>ah (br s caps) fun p=>(bz p.2 && d7 p.2)=true∧ah (aC s.boxes p.2) fun css =>
   K (.dat (.fn fn as (ei p.1 css)) none) (cP p.2 css s)
 | .xK z x lo hi=>ah (ai s x) fun a=>ah (rowsOf a) fun xs =>
   ah (lD s lo) fun l=>ah (lE s xs hi) fun h =>
   (0≤l∧l≤h∧h≤xs.length)∧(∀ r∈xs,r.length=z)∧K (.dat (sB a xs l h) none) s
 | .nc x=>ah (aQ s x) fun
   | .ptr b o=>K (.ptr b o) s
   | .rp cs=>K (.rp cs) s
   | .dat (.fn (.func f) as bs) q=>K (.dat (.fn (.func f) as bs) q) s
   | .dat (.ref cs) _=>K (.rp cs) s
   | _=>False
 | .mm mx args=>ah (bh s args) fun
   | []=>False
   | a :: r=>ah (r.foldlM (xj mx) a) fun v=>K (.dat v none) s
 | .xt e x=>ah (ai s x) fun a=>ah (Au e a) fun v=>K (.dat v none) s
 | .xg x n z=>ah (aQ s x) fun
   | .rp cs=>n * z≤cs.length∧K (.dat (.sl (aX z n cs)) none) s
   | .ptr b off=>4≤b∧ah (aS b s.boxes) fun bx=>n * z≤(bx.cells.drop off).length∧K (.dat (.sl (aX z n (bx.cells.drop off))) none) (cP [b] [bx.cells] s)
   | _=>False
 | .xh neg x=>ah (ai s x) fun a=>ah (ot neg a) fun b=>K (.dat (.bool b) none) s
 | .b8 g args=>ah (ai s g) fun
   | .fn (.func f) [] []=>ah (br s args) fun p=>bz p.2=true∧ah (aC s.boxes p.2) fun css =>
     ∃ r fr css',C.p f css p.1 r fr css'∧K (.dat r (fr.map fun _=>id)) { s with boxes:=bE p.2 css' s.boxes,live:=match fr with | some e=>(id,e) :: s.live | none=>s.live }
   | _=>False
 | .lB f args=>ah (br s args) fun p=>bz p.2=true∧ah (bw s.boxes p.2) fun css =>
   ∃ r,C.p f css p.1 r none css∧K (.dat r none) s
 | .gC g args=>ah (ai s g) fun
   | .fn (.func f) [] []=>ah (br s args) fun p=>bz p.2=true∧ah (bw s.boxes p.2) fun css =>
     ∃ r,C.p f css p.1 r none css∧K (.dat r none) s
   | _=>False
 | .AM x n z hi=>ah (aQ s x) fun
   | .ptr b off=>ah (ai s hi) fun a=>ah (idxOf a) fun h=>(0≤h∧h≤n)∧K (.vs b off h.toNat z) s
   | _=>False
 | .nC e z bytes y x=>ah (aQ s y) fun
   | .vs b off n z'=>ah (aQ s x) fun
     | .ptr b' _=>(b'=b∧z'=z)∧ah (aS b s.boxes) fun bx=>(n * z≤(bx.cells.drop off).length∧n * bytes≤140737488355328) ∧
       (if n=0 then K (.dat .bf none) s else K (.dat (.sl (aX z n (bx.cells.drop off))) (some id)) { s with live:=(id,e) :: s.live })
     | _=>False
   | _=>False
 | .AL x i=>ah (ai s x) fun
   | .str b=>ah (ai s i) fun a=>ah (idxOf a) fun j=>ah (ql b j) fun v=>K (.dat v none) s
   | _=>False
def lG (q n:Nat) (a:AV) (id:Nat):SV→SV
 | .raw q' n'=>bif q' == q && n' == n then .dat a (some id) else .raw q' n'
 | v=>v
def mF (q n:Nat) (a:AV) (id:Nat):List (Nat × SV)→List (Nat × SV)
 | []=>[]
 |(t,v) :: r=>(t,lG q n a id v) :: mF q n a id r
def bJ (C:bA) (id:Nat) (o:uI) (K:SV→S→Prop) (X:AV→S→Prop) (s:S):Prop :=
 match o with
 | .o c=>aH C id c K s
 | .call f args=>aH C id (.call f args) K s∨(ah (bh s args) fun as=>(∃ cs,C.n f as cs∧K (.ptr id 0) { s with boxes:=(id,⟨cs,[]⟩) :: s.boxes })∨∃ p,C.q f [] (as.map some) p []∧X p s)
 | .aI f args=>aH C id (.aI f args) K s∨ah (br s args) fun p=>bz p.2=true∧ah (aC s.boxes p.2) fun css =>
   ∃ v css',C.q f css p.1 v css'∧X v { s with boxes:=bE p.2 css' s.boxes }
 | .ee b g args=>match aQ s g with
   | some (.fK f as bs)=>ah (br s args) fun p=>bz (p.2++bs)=true∧ah (aC s.boxes (p.2++bs)) fun css =>
     (∃ r fr css',C.p f css (p.1++as) r fr css'∧K (.dat r (fr.map fun _=>id)) { s with boxes:=bE (p.2++bs) css' s.boxes,live:=match fr with | some e=>(id,e) :: s.live | none=>s.live }) ∨
     ∃ v css',C.q f css (p.1++as) v css'∧X v { s with boxes:=bE (p.2++bs) css' s.boxes }
   | _=>aH C id (if b then .b8 g args else .ee g args) K s
 | .Dp f caps=>ah (br s caps) fun p=>K (.fK f p.1 p.2) s
 | .AN x=>ah (ai s x) fun a=>cO a=true∧X a s
 | .AO t x=>ah (ai s x) fun a=>dh a none=true∧K (.dat (.iface t a) none) s
 | .As t z x=>ah (ai s x) fun a=>ah (pJ t z a) fun v=>K (.dat v none) s
 | .AP neg x=>ah (ai s x) fun a=>ah (q5 neg a) fun b=>K (.dat (.bool b) none) s
 | .uK neg x=>ah (aQ s x) fun v=>ah (mE neg v) fun b=>K (.dat (.bool b) none) s
 | .AQ e bytes l c=>ah (ai s l) fun a=>ah (idxOf a) fun l=>ah (ai s c) fun b=>ah (idxOf b) fun c=>(0≤l∧l≤c∧c * bytes≤140737488355328)∧K (.raw id l.toNat) { s with live:=(id,e) :: s.live }
 | .AR e x y=>ah (aQ s x) fun
   | .raw q n=>ah (ai s y) fun b=>ah (rowsOf b) fun ys=>(ys.length=n∧∀ r∈ys,r.length=1)∧bF q s.live=some e ∧
     K (.dat (.int .i64 n) none) { s with slots:=mF q n (.sl ys) id s.slots,live:=(id,e) :: eu q s.live }
   | _=>False
def b9 (s:S) (g:Option (Nat × Bool)) (yes no:Prop):Prop :=
 match g with
 | none=>yes
 | some (t,want)=>match lk t s.slots with
  | some (.dat (.bool b) _)=>(b=want→yes)∧(b=!want→no)
  | some .undef=>no
  | _=>False
def dN (C:bA) (base:Nat):Nat→List CO→(S→Prop)→S→Prop
 | _,[],K,s=>K s
 | i,o :: r,K,s=>b9 s o.g
   (aH C (base + i) o.op (fun v s'=>dN C base (i + 1) r K (s'.put o.dst v)) s)
   (dN C base (i + 1) r K (s.put o.dst .undef))
def c6 (C:bA) (base:Nat):Nat→List XO→(S→Prop)→(AV→S→Prop)→S→Prop
 | _,[],K,_,s=>K s
 | i,o :: r,K,X,s=>b9 s o.g
   (bJ C (base + i) o.op (fun v s'=>c6 C base (i + 1) r K X (s'.put o.dst v)) X s)
   (c6 C base (i + 1) r K X (s.put o.dst .undef))
def dJ (k:S→Prop) (Q:Exit→S→Prop):Exit→S→Prop
 | .normal,s=>k s
 | e,s=>Q e s
def cL (id:Nat) (Q:Exit→S→Prop):Exit→S→Prop
 | .exit id',s=>if id'=id then Q .normal s else Q (.exit id') s
 | e,s=>Q e s
def uJ (m:List (Nat × Nat)) (q:Nat):Nat:=(bF q m).getD q
def pK (m:List (Nat × Nat)) (nx:Nat):SV→SV→Prop
 | .dat a _,.dat a' none=>a=a'
 | .dat a (some q),.dat a' (some q')=>a=a'∧q=uJ m q'∧q' < nx
 | .ptr b o,.ptr b' o'=>b=b'∧o=o'∧b' < nx
 | .rp cs,.rp cs'=>cs=cs'
 | .undef,.undef=>True
 | .fK f as bs,.fK f' as' bs'=>f=f'∧as=as'∧bs=bs'∧∀ b∈bs',b < nx
 | _,_=>False
def hJ (m:List (Nat × Nat)) (nx:Nat) (a:List (Nat × SV)):List (Nat × SV)→Prop
 | []=>True
 |(t,v) :: r=>ah (lk t a) (fun u=>pK m nx u v)∧hJ m nx a r
def jU (m:List (Nat × Nat)) (nx:Nat) (a:List (Nat × Nat)):List (Nat × Nat)→Prop
 | []=>True
 |(o,q) :: r=>(bF o a=some (uJ m q)∧q < nx)∧jU m nx a r
def hM (m:List (Nat × Nat)) (nx:Nat) (a:List (Nat × aN)):List (Nat × aN)→Prop
 | []=>True
 |(b,x) :: r=>ah (aS b a) (fun y=>y.cells=x.cells∧jU m nx y.tags x.tags∧b < nx)∧hM m nx a r
def jV (m:List (Nat × Nat)) (nx:Nat) (a:List (Nat × Nat)):List (Nat × Nat)→Prop
 | []=>True
 |(q,e) :: r=>(bF (uJ m q) a=some e∧q < nx)∧jV m nx a r
def bk (m:List (Nat × Nat)) (l:List (Nat × Nat)):Prop:=((l.map fun p=>uJ m p.1).Nodup)
def Le (s s1:S):Prop :=
 4≤s1.nx∧∃ m,hJ m s1.nx s.slots s1.slots∧hM m s1.nx s.boxes s1.boxes∧jV m s1.nx s.live s1.live∧bk m s1.live
def down (F:S→Prop) (s:S):Prop:=∃ s1,Le s s1∧F s1∨F s
theorem jW {F:S→Prop} {s:S} (h:F s):down F s:=⟨s,.inr h⟩
def hY (F:(Exit→S→Prop)→S→Prop) (Q:Exit→S→Prop):Nat→S→Prop
 | 0,_=>False
 | n + 1,s=>F (dJ (down (hY F Q n)) Q) s
def aD.rd:aD→List Nat
 | .t n=>[n]
 | .k _=>[]
def qm:Option aD→List Nat
 | some x=>x.rd
 | none=>[]
def an:List aD→List Nat
 | []=>[]
 | x :: r=>x.rd++an r
def jm:List (Nat × Nat × aD)→List Nat
 | []=>[]
 |(_,_,x) :: r=>x.rd++jm r
def aK.rd:aK→List Nat
 | .mv x=>x.rd
 | .pick c a b=>c.rd++a.rd++b.rd
 | .alloc _=>[]
 | .box x=>x.rd
 | .build _ ps=>jm ps
 | .uH _ _ xs=>an xs
 | .ld x _=>x.rd
 | .st x v _=>x.rd++v.rd
 | .fa x _=>x.rd
 | .xe x i _ _=>x.rd++i.rd
 | .nA x i _=>x.rd++i.rd
 | .Ar x _ _=>x.rd
 | .AK x i _ _ _=>x.rd++i.rd
 | .bin _ x y=>x.rd++y.rd
 | .eqc _ _ x y=>x.rd++y.rd
 | .bb _ x y=>x.rd++y.rd
 | .un _ x=>x.rd
 | .gB _ x=>x.rd
 | .pG _ x=>x.rd
 | .pH _ x=>x.rd
 | .nB x=>x.rd
 | .dM x=>x.rd
 | .su _=>[]
 | .app _ _ _ x y=>x.rd++y.rd
 | .call _ args=>an args
 | .aI _ args=>an args
 | .ee g args=>g.rd++an args
 | .ext x _=>x.rd
 | .si _ a b=>an a++an b
 | .xK _ x lo hi=>x.rd++qm lo++qm hi
 | .nc x=>x.rd
 | .mm _ args=>an args
 | .xt _ x=>x.rd
 | .xg x _ _=>x.rd
 | .AL x i=>x.rd++i.rd
 | .xh _ x=>x.rd
 | .b8 g args=>g.rd++an args
 | .lB _ args=>an args
 | .gC g args=>g.rd++an args
 | .AM x _ _ hi=>x.rd++hi.rd
 | .nC _ _ _ y x=>y.rd++x.rd
def aK.isApp:aK→Bool
 | .app ..=>true
 | _=>false
def aK.iT:aK→List Nat
 | .ld x _=>x.rd
 | .st x _ _=>x.rd
 | .aI _ args=>an args
 | .b8 _ args=>an args
 | .lB _ args=>an args
 | .gC _ args=>an args
 | .si _ _ b=>an b
 | .xg x _ _=>x.rd
 | .nC _ _ _ _ x=>x.rd
 | _=>[]
def aK.qn:aK→List Nat
 | .st x _ _=>x.rd
 | .aI _ args=>an args
 | .b8 _ args=>an args
 | .si _ _ b=>an b
 | .xg x _ _=>x.rd
 | _=>[]
def aK.kC:aK→Bool
 | .si _ _ b=>!b.isEmpty
 | .xg ..=>true
 | _=>false
def aK.gF:aK→List Nat
 | .mv x | .fa x _ | .xe x _ _ _ | .nc x | .nB x=>x.rd
 | .pick _ a b=>a.rd++b.rd
 | _=>[]
def aK.sC:aK→Bool
 | .alloc _ | .box _=>true
 | _=>false
def aK.ro:aK→aK
 | .aI f args=>.lB f args
 | .b8 g args=>.gC g args
 | o=>o
def CO.ro (o:CO):CO:=⟨o.dst,o.op.ro,o.g⟩
def e8 (ro:List Nat):Nat→List CO→List CO
 | _,[]=>[]
 | i,o :: r=>(bif ro.contains i then o.ro else o) :: e8 ro (i + 1) r
theorem ia:∀ {i:Nat} {l:List CO},e8 [] i l=l
 | _,[]=>rfl
 | i,o :: l=>by show o :: e8 [] (i + 1) l=_; rw [ia]
def CO.rd (o:CO):List Nat:=o.op.rd++(match o.g with | some (t,_)=>[t] | none=>[])
abbrev Tag:=Option (Option Nat)
def Tag.sD:Tag→Nat→Bool
 | none,_=>true
 | some z,b=>z == some b
def Tag.Dr:Tag→Tag→Bool
 | some none,_=>true
 | _,some none=>true
 | some (some a),some (some b)=>a != b
 | _,_=>false
def look:List (Nat × Tag)→Nat→Tag
 | [],_=>none
 |(t,z) :: r,n=>bif n == t then z else look r n
def CO.indep (x y:CO):Bool :=
 (match x.dst with | some d=>!y.rd.contains d && y.dst != some d | none=>true) &&
 (match y.dst with | some d=>!x.rd.contains d | none=>true) && !(x.op.isApp && y.op.isApp)
def CO.half (T:List (Nat × Tag)) (x y:CO):Bool :=
 x.op.qn.all fun t=>y.op.iT.all (fun u=>(look T t).Dr (look T u)) && (!x.op.kC || y.rd.all fun u=>(look T t).Dr (look T u))
def CO.gG (T:List (Nat × Tag)) (x y:CO):Bool:=x.indep y && x.half T y && y.half T x
def CO.apart (x y:CO):Bool:=x.gG [] y
def xk (T:List (Nat × Tag)):List Nat→Tag
 | []=>some none
 | [t]=>look T t
 | t :: r=>if look T t == xk T r then look T t else none
def xl (T:List (Nat × Tag)) (base:Nat):Nat→List CO→List (Nat × Tag)
 | _,[]=>T
 | i,o :: r=>xl (match o.dst with | some t=>(t,if o.op.sC then some (some (base + i)) else xk T o.op.gF) :: T | none=>T) base (i + 1) r
def pL:List (Nat × SV)→List (Nat × Tag)
 | []=>[]
 |(t,.ptr b _) :: r=>(t,some (some b)) :: pL r
 |(t,_) :: r=>(t,some none) :: pL r
def ic (T:List (Nat × Tag)):List (Nat × SV)→Bool
 | []=>true
 |(t,.ptr b _) :: r=>(look T t).sD b && ic T r
 |(_,_) :: r=>ic T r
def gH (T:List (Nat × Tag)) (id:Nat) (o:CO):Bool :=
 match o.dst with
 | none=>true
 | some t=>match look T t with
  | none=>true
  | some z=>if o.op.sC then z == some id else o.op.gF.all fun u=>match look T u with | some z'=>z' == none || z' == z | none=>false
def ej (T:List (Nat × Tag)) (base:Nat):Nat→List CO→Bool
 | _,[]=>true
 | i,o :: r=>gH T (base + i) o && ej T base (i + 1) r
def kD (T:List (Nat × Tag)) (ops:List CO):List (Nat × Nat)→Bool
 | []=>true
 |(i,j) :: r=>(match ops[i]?,ops[j]? with | some x,some y=>x.gG T y | _,_=>false) && kD T ops r
def AS (T:List (Nat × Tag)) (ops:List CO) (bad:List (Nat × Nat)) (base:Nat) (sl:List (Nat × SV)):Bool:=ic T sl && ej T base 0 ops && kD T ops bad
def ou (ops:List CO) (bad:List (Nat × Nat)) (base:Nat) (sl:List (Nat × SV)):Bool:=AS (xl (pL sl) base 0 ops) ops bad base sl
def jn:List Nat→List AV→S→S
 | p :: ps,x :: xs,s=>jn ps xs (s.put (some p) (.dat x none))
 | _,_,s=>s
def mG (wr:List Nat):List (Nat × SV)→List (Nat × SV)
 | []=>[]
 |(t,v) :: r=>bif wr.contains t then mG wr r else (t,v) :: mG wr r
def ov (wr:List Nat) (s:S):S:={ s with slots:=mG wr s.slots }
def uN (wr:List Nat) (F:S→Prop) (Q:Exit→S→Prop):Exit→S→Prop
 | .normal,s=>down F (ov wr s)
 | .ret,s=>Q .ret (ov wr s)
 | .exit id,s=>Q (.exit id) (ov wr s)
 | _,_=>False
def ow (K:S→Prop):Exit→S→Prop
 | .normal,s=>K s
 | _,_=>False
def fV (l:Nat) (K:S→Prop) (Q:Exit→S→Prop):Exit→S→Prop
 | .goto l',s=>l'=l∧K s
 | e,s=>Q e s
def nG (Q:Exit→S→Prop):Exit→S→Prop
 | .goto _,_=>False
 | e,s=>Q e s
def xO (C:bA) (ops:List CO) (bad:List (Nat × Nat)) (K:S→Prop) (s:S):Prop :=
 ∃ ro,ou (e8 ro 0 ops) bad s.nx s.slots=true∧dN C s.nx 0 (e8 ro 0 ops) K s
def aw (C:bA):ak→(Exit→S→Prop)→S→Prop
 | .skip,Q,s=>Q .normal s
 | .sj ops,Q,s=>dN C s.nx 0 ops (fun s'=>Q .normal { s' with nx:=s.nx + ops.length }) s
 | .seq a b,Q,s=>aw C a (dJ (aw C b Q) Q) s
 | .join a b,Q,s=>aw C a (dJ (down (aw C b Q)) Q) s
 | .cond c a b,Q,s=>ah (ai s c) fun
   | .bool t=>(t=true→aw C a Q s)∧(t=false→aw C b Q s)
   | _=>False
 | .block id c,Q,s=>aw C c (cL id Q) s
 | .loop c,Q,s=>down (fun s=>∃ n,hY (aw C c) Q n s) s
 | .exit id,Q,s=>Q (.exit id) s
 | .ret,Q,s=>Q .ret s
 | .scope l c r,Q,s=>aw C c (fV l (aw C r (nG Q)) Q) s
 | .label _,Q,s=>Q .normal s
 | .goto l,Q,s=>Q (.goto l) s
 | .aB ops,Q,s=>c6 C s.nx 0 ops (fun s'=>Q .normal { s' with nx:=s.nx + ops.length }) (fun p s'=>Q (.panic (ct p)) { s' with nx:=s.nx + ops.length }) s
 | .lC ops bad,Q,s=>∃ ids,(bz ids && d7 ids)=true∧ah (aC s.boxes ids) fun css=>xO C ops bad (fun s'=>Q .normal { s' with nx:=s.nx + ops.length }) (cP ids css s)
 | .nD g ps wr as bd,Q,s=>ah (ai s g) fun gv=>∃ xs,C.i gv xs∧(∀ x∈xs,x.length=ps.length)∧∃ F:Nat→S→Prop,down (F 0) s∧(∀ i s',F i s'→ai s' g=some gv) ∧
   (∀ i x s',xs[i]? = some x→F i s'→aw C as (ow (aw C bd (uN wr (F (i + 1)) Q))) (jn ps x s'))∧∀ s',F xs.length s'→Q .normal s'
end Go.Eng
namespace Go.Eng
open Go
def bW (P:Program) (t:TypeId):Option Nat:=(P.info? t).map (·.size)
def eO (P:Program) (t:TypeId):Bool :=
 match P.underlying t with
 | some (.struct _) | some (.array _ _)=>true
 | _=>false
def kW (P:Program) (t:TypeId):Option (Option Nat) :=
 match P.underlying t with
 | some (.struct _) | some (.array _ _)=>(bW P t).map some
 | some _=>some none
 | none=>none
def zeroOf (P:Program) (t:TypeId):Option (List AV) :=
 match (P.info? t).bind (·.zero) with
 | some z=>z.cells.toList.mapM q4
 | none=>none
def aT:Operand→Option aD
 | .tmp t=>some (.t t)
 | .const v=>(Dq v).map .k
 | .func f=>some (.k (.fn (.func f) [] []))
 | .global _=>none
def cj (l:Array Operand):Option (List aD):=l.toList.mapM aT
def jo (P:Program) (s:TypeId) (f:Nat):Option Field :=
 match P.underlying s with
 | some (.struct fs)=>fs[f]?
 | _=>none
def ox (P:Program) (rec:TypeId→Option (List CK)):List Field→Nat→Option (List CK)
 | [],_=>some []
 | f :: fs,off =>
  if f.name = "_" ∨ f.offset ≠ off then none else
  match rec f.type with
  | some ks=>if bW P f.type=some ks.length∧0 < ks.length then (ox P rec fs (off + ks.length)).map (ks++·) else none
  | none=>none
def ew (P:Program):Nat→TypeId→Option (List CK)
 | 0,_=>none
 | d + 1,t=>match P.underlying t with
  | some .bool=>some [.b]
  | some (.int _)=>some [.i]
  | some (.float _)=>some [.f]
  | some .string=>some [.s]
  | some (.struct fs)=>if P.stoodInHeld t then none else ox P (ew P d) fs.toList 0
  | some (.array n e)=>match ew P d e with
   | some ks=>if bW P e=some ks.length then some (List.replicate n ks).flatten else none
   | none=>none
  | _=>none
def Dt (P:Program) (t:TypeId) (neg:Bool) (x y:aD):Option aK :=
 match ew P 20 t with
 | some ks=>if eO P t && !P.eqGuardType P.depth t then some (.eqc ks neg x y) else none
 | none=>none
def qo (P:Program) (t:TypeId):Bool :=
 match P.underlying t with
 | some (.int _) | some (.float _)=>true
 | _=>false
def sE (P:Program) (t:TypeId):Bool :=
 match P.underlying t with
 | some .bool=>true
 | _=>false
def aR (P:Program) (f:FuncId):Bool :=
 match P.funcs[f]? with
 | some fn => fn.name != "runtime.NumGoroutine" && fn.body.isSome
 | none=>false
def qp (P:Program) (t:TypeId) (i:Nat):Option (Nat × Nat) :=
 match P.underlying t with
 | some (.struct fs)=>match fs[i]? with
  | some f=>(bW P f.type).map fun z=>(f.offset,z)
  | none=>none
 | some (.array _ e)=>(bW P e).map fun z=>(i * z,z)
 | _=>none
def jX (P:Program) (t:TypeId):List (Nat × Operand)→Option (List (Nat × Nat × aD))
 | []=>some []
 |(i,x) :: r=>match qp P t i,aT x,jX P t r with
  | some (o,z),some x,some ps=>some ((o,z,x) :: ps)
  | _,_,_=>none
def sliceB (P:Program) (t:TypeId):Bool:=match P.underlying t with | some (.slice _)=>true | _=>false
def nH (P:Program) (t:TypeId):Bool :=
 match P.underlying t with
 | some (.struct fs)=>fs.toList.all fun f=>(bW P f.type).isSome
 | some (.array _ e)=>(bW P e).isSome
 | _=>false
def gI (zs:Nat):List (Nat × Nat × aD)→Bool
 | []=>true
 |(o,z,_) :: r=>decide (o + z≤zs) && gI zs r
def cOpt:Option Operand→Option (Option aD)
 | none=>some none
 | some x=>(aT x).map some
def qq (P:Program) (s d:TypeId) (x:aD):Option aK :=
 match P.underlying s,P.underlying d with
 | some (.int _),some (.int k)=>some (.gB k x)
 | some (.int _),some (.float k)=>some (.pG k x)
 | some (.float _),some (.int k)=>some (.pH k x)
 | _,_=>none
def iU (P:Program):List TypeId→Bool
 | []=>false
 | t :: r=>(match P.underlying t with | some (.pointer _)=>true | _=>false) || iU P r
def xP (P:Program) (f:FuncId):Option Xt :=
 match P.funcs[f]? with
 | some fn=>if fn.body.isNone && (Extern.findNext fn).isNone then
   if fn.name == "math.Float64bits" then some .lA
   else if fn.name == "math.Float64frombits" then some .ffrom
   else if fn.name == "math.RoundToEven" then some .rte
   else none
  else none
 | none=>none
def oy (P:Program) (c:Call):Option aK :=
 match c.callee with
 | .value (.func f)=>if aR P f then (cj c.args).map (if iU P c.argTypes.toList then .aI f else .call f)
  else match xP P f,c.args.toList with
   | some e,[x]=>(aT x).map (.xt e)
   | _,_=>none
 | .value g=>match aT g,cj c.args with
  | some g,some as=>some (if iU P c.argTypes.toList then .b8 g as else .ee g as)
  | _,_=>none
 | .builtin .len=>match c.argTypes[0]?,c.args[0]? with
  | some t,some x=>match P.underlying t with
   | some (.slice _)=>(aT x).map .dM
   | some (.array n _)=>some (.su n)
   | _=>none
  | _,_=>none
 | .builtin .append=>match c.argTypes.toList,c.args.toList with
  | [t,t'],[x,y]=>if t=t' then match P.underlying t,aT x,aT y with
    | some (.slice e),some x,some y=>match P.info? e with
     | some i=>match i.zero with
      | some z=>if 0 < i.size && z.cells.size == i.size && 0 < i.bytes then some (.app e i.size i.bytes x y) else none
      | none=>none
     | none=>none
    | _,_,_=>none
   else none
  | _,_=>none
 | .builtin .max=>(cj c.args).map (.mm true)
 | .builtin .min=>(cj c.args).map (.mm false)
 | _=>none
def xm (P:Program):Op→Option aK
 | .move x | .assign x=>(aT x).map .mv
 | .pick c a b=>match aT c,aT a,aT b with
  | some c,some a,some b=>some (.pick c a b)
  | _,_,_=>none
 | .alloc t=>(zeroOf P t).map .alloc
 | .box _ x=>(aT x).map .box
 | .build t ps=>match zeroOf P t,jX P t ps.toList with
  | some zs,some ps=>if gI zs.length ps && nH P t then some (.build zs ps) else none
  | _,_=>none
 | .buildSlice t n ps=>match P.underlying t with
  | some (.slice e)=>match zeroOf P e,bW P e,ps.toList.mapM (fun p=>aT p.2) with
   | some zs,some z,some xs=>if n * z≤16777216 && 0 < z && zs.length == z && ps.toList.map (·.1) == List.range n then some (.uH e z xs) else none
   | _,_,_=>none
  | _=>none
 | .load t x=>match kW P t,aT x with
  | some r,some x=>some (.ld x r)
  | _,_=>none
 | .store t x v=>match bW P t,aT x,aT v with
  | some z,some x,some v=>some (.st x v z)
  | _,_,_=>none
 | .nilCheck x=>(aT x).map .nc
 | .binOp op t x y _=>match aT x,aT y with
  | some x,some y =>
   if qo P t then some (.bin op x y)
   else if sE P t then (match op with | .eql=>some (.bb false x y) | .neq=>some (.bb true x y) | _=>none)
   else if sliceB P t then (match op,y with | .eql,.k .bf=>some (.xh false x) | .neq,.k .bf=>some (.xh true x) | _,_=>none)
   else match op with
    | .eql=>Dt P t false x y
    | .neq=>Dt P t true x y
    | _=>none
  | _,_=>none
 | .unOp op _ x=>(aT x).map (.un op)
 | .convert s d x=>(aT x).bind (qq P s d)
 | .fieldAddr s x f=>match jo P s f,aT x with
  | some fd,some x=>if bW P fd.type == some 0 || (bW P fd.type).isNone then none else some (.fa x fd.offset)
  | _,_=>none
 | .field s x f=>match jo P s f,aT x with
  | some fd,some x=>(kW P fd.type).map (.Ar x fd.offset)
  | _,_=>none
 | .indexAddr t x i=>match P.underlying t,aT x,aT i with
  | some (.array n e),some x,some i=>(bW P e).map (.xe x i n)
  | some (.slice e),some x,some i=>(bW P e).map (.nA x i)
  | _,_,_=>none
 | .index t x i=>match P.underlying t,aT x,aT i with
  | some (.array n e),some x,some i=>match bW P e,kW P e with
   | some z,some r=>some (.AK x i n z r)
   | _,_=>none
  | some .string,some x,some i=>some (.AL x i)
  | _,_,_=>none
 | .extract x i=>(aT x).map (.ext · i)
 | .makeFunc (.func f) a b=>match cj a,cj b with
  | some a,some b=>if aR P f then some (.si (.func f) a b) else none
  | _,_=>none
 | .slice t x lo hi none=>match P.underlying t,aT x,cOpt lo,cOpt hi with
  | some (.slice e),some x,some lo,some hi=>(bW P e).map fun z=>.xK z x lo hi
  | some (.array n e),some x,some none,some none=>(bW P e).map fun z=>.xg x n z
  | some (.array n e),some x,some none,some (some hi)=>(bW P e).map fun z=>.AM x n z hi
  | _,_,_,_=>none
 | .call c=>oy P c
 | _=>none
def AT (P:Program) (ops:List Oper) (y:Nat):Option Operand :=
 match ops.find? (fun o=>o.dst == some y) with
 | some o=>match o.op with
  | .slice t x none (some _) none=>match P.underlying t with
   | some (.array _ _)=>some x
   | _=>none
  | _=>none
 | none=>none
def lH (P:Program) (ops:List Oper):Op→Option aK
 | .call c=>match c.callee,c.argTypes.toList,c.args.toList with
  | .builtin .append,[t,t'],[.const (.slice none 0 0),.tmp y]=>if t=t' then match P.underlying t,(AT P ops y).bind aT with
    | some (.slice e),some x=>match P.info? e with
     | some i=>match i.zero with
      | some z=>if 0 < i.size && z.cells.size == i.size && 0 < i.bytes then some (.nC e i.size i.bytes (.t y) x) else none
      | none=>none
     | none=>none
    | _,_=>none
   else none
  | _,_,_=>none
 | _=>none
def uO (P:Program) (ops:List Oper) (o:Op):Option aK :=
 match lH P ops o with
 | some c=>some c
 | none=>xm P o
def nI (ops:Array Oper):Option (Nat × Bool)→Option (Option (Nat × Bool))
 | none=>some none
 | some (j,w)=>match (ops[j]?).bind (·.dst) with
  | some t=>some (some (t,w))
  | none=>none
def iO (P:Program) (ops:Array Oper) (o:Oper):Option CO :=
 match uO P ops.toList o.op,nI ops o.guard with
 | some c,some g=>some ⟨o.dst,c,g⟩
 | _,_=>none
def jY (P:Program) (ops:Array Oper):List Oper→Option (List CO)
 | []=>some []
 | o :: r=>match iO P ops o,jY P ops r with
  | some c,some cs=>some (c :: cs)
  | _,_=>none
def waits (ops:List Oper) (i:Nat) (oj:Oper):Bool :=
 oj.after.any fun e=>Region.binds .any e && (e.on == i || match ops[e.on]? with
  | some ok=>ok.after.any fun e'=>Region.binds .any e' && e'.on == i
  | none=>false)
def eR (bad:List (Nat × Nat)) (ops:List Oper) (i:Nat) (x:CO):Nat→List Oper→List CO→Bool
 | j,oj :: os,y :: ys=>(decide (j≤i) || oj.after.any (fun e=>Region.binds .any e && e.on == i) || x.apart y || waits ops i oj || bad.contains (i,j)) && eR bad ops i x (j + 1) os ys
 | _,_,_=>true
def ez (bad:List (Nat × Nat)) (ops:List Oper) (cos:List CO):Nat→List Oper→List CO→Bool
 | i,oi :: os,x :: xs=>oi.after.all (fun e=>!Region.binds .any e || decide (e.on < i)) && eR bad ops i x 0 ops cos && ez bad ops cos (i + 1) os xs
 | _,_,_=>true
def fX (bad:List (Nat × Nat)) (ops:List Oper) (cos:List CO):Bool:=ez bad ops cos 0 ops cos
def sF (ops:List Oper) (i:Nat) (x:CO):Nat→List Oper→List CO→List (Nat × Nat)
 | j,oj :: os,y :: ys=>(if decide (j≤i) || oj.after.any (fun e=>Region.binds .any e && e.on == i) || x.apart y || waits ops i oj then [] else [(i,j)])++sF ops i x (j + 1) os ys
 | _,_,_=>[]
def qs (ops:List Oper) (cos:List CO):Nat→List CO→List (Nat × Nat)
 | i,x :: xs=>sF ops i x 0 ops cos++qs ops cos (i + 1) xs
 | _,[]=>[]
def qt (cos:List CO):List (Nat × Nat)→Bool
 | []=>true
 |(i,j) :: r=>(match cos[i]?,cos[j]? with | some x,some y=>x.indep y | _,_=>false) && qt cos r
def zeroV (P:Program) (t:TypeId):Option AV:=((P.info? t).bind (·.zero)).bind Dq
def fY (P:Program) (t:TypeId):Bool:=match P.underlying t with | some (.interface _)=>true | _=>false
def uP (P:Program) (t:TypeId):Bool:=match P.underlying t with | some (.pointer _)=>true | _=>false
def xp (P:Program) (c:Call):Option uI :=
 match c.callee with
 | .value (.func f)=>if aR P f then (cj c.args).map (if iU P c.argTypes.toList then .aI f else .call f) else none
 | .value (.tmp g)=>(cj c.args).map (.ee (iU P c.argTypes.toList) (.t g))
 | .builtin .copy=>match c.argTypes.toList,c.args.toList with
  | [t,_],[x,y]=>match P.underlying t,aT x,aT y with
   | some (.slice e),some x,some y=>if bW P e == some 1 then some (.AR e x y) else none
   | _,_,_=>none
  | _,_=>none
 | _=>none
def AU (P:Program) (op:BinOp) (t:TypeId) (x y:Operand):Option uI :=
 match op,y with
 | .eql,.const .nilIface=>if fY P t then (aT x).map (.AP false) else none
 | .neq,.const .nilIface=>if fY P t then (aT x).map (.AP true) else none
 | .eql,.const (.pointer none)=>if uP P t then (aT x).map (.uK false) else none
 | .neq,.const (.pointer none)=>if uP P t then (aT x).map (.uK true) else none
 | _,_=>none
def Du (P:Program):Op→Option uI
 | .panic x=>(aT x).map .AN
 | .makeSlice t l c=>match P.underlying t,aT l,aT c with
  | some (.slice e),some l,some c=>match P.info? e with
   | some i=>if i.size == 1 && i.zero.isSome && decide (0 < i.bytes) then some (.AQ e i.bytes l c) else none
   | none=>none
  | _,_,_=>none
 | .makeInterface t x=>if fY P t || (P.underlying t).isNone then none else (aT x).map (.AO t)
 | .typeAssert x _ t true=>if fY P t || (P.underlying t).isNone then none else match zeroV P t,aT x with
  | some z,some x=>some (.As t z x)
  | _,_=>none
 | .binOp op t x y _=>AU P op t x y
 | .makeFunc (.func f) a b=>if a.isEmpty && !b.isEmpty && aR P f then (cj b).map (.Dp f) else none
 | .call c=>xp P c
 | _=>none
def jq (P:Program) (ops:Array Oper) (o:Oper):Option XO :=
 match Du P o.op with
 | some x=>match nI ops o.guard with
  | some g=>some ⟨o.dst,x,g⟩
  | none=>none
 | none=>(iO P ops o).map fun c=>⟨c.dst,.o c.op,c.g⟩
def gJ (P:Program) (ops:Array Oper):List Oper→Option (List XO)
 | []=>some []
 | o :: r=>match jq P ops o,gJ P ops r with
  | some c,some cs=>some (c :: cs)
  | _,_=>none
def oz:List XO→List Nat
 | []=>[]
 | o :: r=>(match o.dst with | some d=>[d] | none=>[])++oz r
def eA (n:Nat):List XO→Bool
 | []=>true
 | o :: r=>(match o.dst with | some d=>decide (d < n) | none=>true) && eA n r
def AW:Code→Bool
 | .region ..=>true
 | .skip=>true
 | _=>false
def dstsOf:List CO→List Nat
 | []=>[]
 | o :: r=>(match o.dst with | some d=>[d] | none=>[])++dstsOf r
def ak.writes:ak→List Nat
 | .sj ops=>dstsOf ops
 | .lC ops _=>dstsOf ops
 | .seq a b | .join a b | .cond _ a b=>a.writes++b.writes
 | .block _ c | .loop c=>c.writes
 | .nD _ _ wr _ _=>wr
 | .scope _ c r=>c.writes++r.writes
 | .aB ops=>oz ops
 | _=>[]
def ak.after (l:Nat):ak→Option ak
 | .seq a b | .join a b=>match a.after l with
  | some r=>some (.join r b)
  | none=>b.after l
 | .label l'=>if l' == l then some .skip else none
 | _=>none
def ak.labels:ak→List Nat
 | .seq a b | .join a b=>a.labels++b.labels
 | .label l=>[l]
 | _=>[]
def aF (m:Bool) (P:Program):Code→Option ak
 | .skip=>some .skip
 | .region _ ops dY=>if m && !dY then (gJ P ops ops.toList).map .aB else match jY P ops ops.toList with
  | some cos=>if dY then
    match qs ops.toList cos 0 cos with
    | []=>if fX [] ops.toList cos then some (.sj cos) else none
    | bad=>if fX bad ops.toList cos && qt cos bad then some (.lC cos bad) else none
   else some (.sj cos)
  | none=>none
 | .seq a b=>match aF m P a,aF m P b with
  | some x,some y=>some (if AW a then .seq x y else .join x y)
  | _,_=>none
 | .cond c a b=>match aT c,aF m P a,aF m P b with
  | some c,some a,some b=>some (.cond c a b)
  | _,_,_=>none
 | .block id c=>(aF m P c).map (.block id)
 | .loop c=>(aF m P c).map .loop
 | .exit id=>some (.exit id)
 | .ret=>some .ret
 | .label l=>some (.label l)
 | .goto l=>some (.goto l)
 | .scope c=>match aF m P c with
  | some c=>match c.labels with
   | [l]=>(c.after l).map (.scope l c)
   | _=>none
  | none=>none
 | .rangeFunc g ps as bd=>match aT g,aF m P as,aF m P bd with
  | some g,some a,some b =>
   let wr:=ps.toList++a.writes++b.writes
   if g.rd.all (fun t=>!wr.contains t) then some (.nD g ps.toList wr a b) else none
  | _,_,_=>none
 | _=>none
abbrev Ew (P:Program):Code→Option ak:=aF false P
def cV (n:Nat):List CO→Bool
 | []=>true
 | o :: r=>(match o.dst with | some d=>decide (d < n) | none=>true) && cV n r
def ak.fits (n:Nat):ak→Bool
 | .sj ops=>cV n ops
 | .lC ops _=>cV n ops
 | .seq a b | .join a b | .cond _ a b=>a.fits n && b.fits n
 | .block _ c | .loop c=>c.fits n
 | .scope _ c r=>c.fits n && r.fits n
 | .aB ops=>eA n ops
 | .nD _ ps wr a b=>ps.all (fun t=>decide (t < n)) && a.fits n && b.fits n && ps.all (fun t=>wr.contains t) && a.writes.all (fun t=>wr.contains t) && b.writes.all (fun t=>wr.contains t)
 | _=>true
inductive cn where
 | tmp (t:Nat)
 | cell (t:Nat) (sz:Option Nat)
 deriving Inhabited
def nJ (P:Program):ResultVar→Option cn
 | .tmp t=>some (.tmp t)
 | .cell a t=>(kW P t).map (.cell a)
structure gK where
 nt:Nat
 res:List cn
 code:ak
def eD (m:Bool) (P:Program) (f:FuncId):Option gK :=
 match P.funcs[f]? with
 | some fn=>match fn.body,fn.results.toList.mapM (nJ P) with
  | some c,some rs=>match aF m P c with
   | some cc=>if cc.fits fn.ntmps && aR P f then some ⟨fn.ntmps,rs,cc⟩ else none
   | none=>none
  | _,_=>none
 | none=>none
abbrev fM (P:Program) (f:FuncId):Option gK:=eD false P f
end Go.Eng
namespace Go.Eng
open Go
open Go.RowKit (Below)
inductive DV (w:World) (π:Nat→Nat→Prop):AV→Value→Prop
 | bool (b:Bool):DV w π (.bool b) (.bool b)
 | int (k:IntKind) (n:Int):DV w π (.int k n) (.int k n)
 | float (k:FloatKind) (n:Nat):DV w π (.float k n) (.float k n)
 | str (s:ByteArray):DV w π (.str s) (.string s)
 | jS:DV w π .jS (.pointer none)
 | bf:DV w π .bf (.slice none 0 0)
 | lz:DV w π .lz .nilFunc
 | bV:DV w π .bV .nilIface
 | cJ (n:Nat):nE n=true→DV w π .cJ (.float .f64 n)
 | iface (t:Nat) (a:AV) (v:Value):DV w π a v→DV w π (.iface t a) (.iface t v)
 | agg (as:List AV) (vs:Array Value):as.length=vs.size→(∀ a∈as,a.scalar=true)→(∀ (i:Nat) (a:AV) (v:Value),as[i]? = some a→vs[i]? = some v→DV w π a v)→DV w π (.agg as) (.agg vs)
 | kY (as:List AV) (vs:Array Value):as.length=vs.size→(∀ (i:Nat) (a:AV) (v:Value),as[i]? = some a→vs[i]? = some v→DV w π a v)→DV w π (.kY as) (.tuple vs)
 | fn (f:Fn) (as:List AV) (vs:Array Value) (bs:List AV) (us:Array Value):as.length=vs.size→bs.length=us.size →
   (∀ (i:Nat) (a:AV) (v:Value),as[i]? = some a→vs[i]? = some v→DV w π a v)→(∀ (i:Nat) (a:AV) (v:Value),bs[i]? = some a→us[i]? = some v→DV w π a v)→DV w π (.fn f as bs) (.func f vs us)
 | sl (xs:List (List AV)) (B off cap z:Nat) (f:Nat→Nat→Value):xs.length≤cap→(∀ (i:Nat) (r:List AV),xs[i]? = some r→r.length=z) →
   (∀ (i j:Nat) (r:List AV) (a:AV),xs[i]? = some r→r[j]? = some a→a.scalar=true) →
   (∀ (i j:Nat) (r:List AV) (a:AV),xs[i]? = some r→r[j]? = some a→π B (off + i * z + j)) →
   (∀ (i j:Nat) (r:List AV) (a:AV),xs[i]? = some r→r[j]? = some a→w.cell? ⟨B,off + i * z + j,none⟩=some (f i j)) →
   (∀ (i j:Nat) (r:List AV) (a:AV),xs[i]? = some r→r[j]? = some a→DV w π a (f i j))→DV w π (.sl xs) (.slice (some ⟨B,off,none⟩) xs.length cap)
 | sG (A:Addr):DV w π (.sl []) (.slice (some A) 0 0)
 | ref (cs:List AV) (B off:Nat) (f:Nat→Value):(∀ (j:Nat) (a:AV),cs[j]? = some a→a.scalar=true)→(∀ (j:Nat) (a:AV),cs[j]? = some a→π B (off + j)) →
   (∀ (j:Nat) (a:AV),cs[j]? = some a→w.cell? ⟨B,off + j,none⟩=some (f j))→(∀ (j:Nat) (a:AV),cs[j]? = some a→DV w π a (f j))→DV w π (.ref cs) (.pointer (some ⟨B,off,none⟩))
theorem DV.mono {w w':World} {π π':Nat→Nat→Prop} (hp:∀ b o,π b o→π' b o) (hc:∀ b o,π b o→w'.cell? ⟨b,o,none⟩=w.cell? ⟨b,o,none⟩) {a:AV} {v:Value} (h:DV w π a v):DV w' π' a v:=by
 induction h with
 | bool | int | float | str | jS | bf | lz | bV=>constructor
 | iface t a v _ ih=>exact .iface t a v ih
 | cJ n h=>exact .cJ n h
 | agg as vs hl hs _ ih=>exact .agg as vs hl hs ih
 | kY as vs hl _ ih=>exact .kY as vs hl ih
 | fn f as vs bs us h1 h2 _ _ ih1 ih2=>exact .fn f as vs bs us h1 h2 ih1 ih2
 | sl xs B off cap z f h1 h2 h3 h4 h5 _ ih =>
  exact .sl xs B off cap z f h1 h2 h3 (fun i j r a hr ha=>hp _ _ (h4 i j r a hr ha)) (fun i j r a hr ha=>(hc _ _ (h4 i j r a hr ha)).trans (h5 i j r a hr ha)) ih
 | sG A=>exact .sG A
 | ref cs B off f h1 h2 h3 _ ih=>exact .ref cs B off f h1 (fun j a ha=>hp _ _ (h2 j a ha)) (fun j a ha=>(hc _ _ (h2 j a ha)).trans (h3 j a ha)) ih
def dm (w:World) (π:Nat→Nat→Prop) (as:List AV) (vs:List Value):Prop :=
 as.length=vs.length∧∀ (i:Nat) (a:AV) (v:Value),as[i]? = some a→vs[i]? = some v→DV w π a v
theorem dm.mono {w w':World} {π π':Nat→Nat→Prop} (hp:∀ b o,π b o→π' b o) (hc:∀ b o,π b o→w'.cell? ⟨b,o,none⟩=w.cell? ⟨b,o,none⟩) {as:List AV} {vs:List Value} (h:dm w π as vs):dm w' π' as vs :=
 ⟨h.1,fun i a v ha hv=>(h.2 i a v ha hv).mono hp hc⟩
theorem dm.nil (w:World) (π:Nat→Nat→Prop):dm w π [] []:=⟨rfl,fun i a v h=>by simp at h⟩
theorem dm.cons {w:World} {π:Nat→Nat→Prop} {a:AV} {v:Value} {as:List AV} {vs:List Value} (h:DV w π a v) (hs:dm w π as vs):dm w π (a :: as) (v :: vs):=by
 refine ⟨by simp [hs.1],fun i x u hx hu=>?_⟩
 cases i with
 | zero=>simp at hx hu; subst hx; subst hu; exact h
 | succ i=>exact hs.2 i x u (by simpa using hx) (by simpa using hu)
theorem dm.append {w:World} {π:Nat→Nat→Prop} {as bs:List AV} {vs us:List Value} (h:dm w π as vs) (k:dm w π bs us):dm w π (as++bs) (vs++us):=by
 refine ⟨by simp [h.1,k.1],fun i x u hx hu=>?_⟩
 by_cases hi:i < as.length
 ·exact h.2 i x u (by rwa [List.getElem?_append_left hi] at hx) (by rwa [List.getElem?_append_left (by rw [← h.1]; exact hi)] at hu)
 ·rw [List.getElem?_append_right (by omega)] at hx
  rw [List.getElem?_append_right (by rw [← h.1]; omega)] at hu
  exact k.2 (i - as.length) x u hx (by rw [h.1]; exact hu)
theorem dm.get {w:World} {π:Nat→Nat→Prop} {as:List AV} {vs:List Value} (h:dm w π as vs) {i:Nat} {a:AV} (ha:as[i]? = some a):∃ v,vs[i]? = some v∧DV w π a v:=by
 have hi:i < as.length:=by
  rcases Nat.lt_or_ge i as.length with h|h
  ·exact h
  ·rw [List.getElem?_eq_none h] at ha; cases ha
 have hv:vs[i]? = some vs[i]!:=by
  rw [List.getElem?_eq_getElem (by rw [← h.1]; exact hi)]
  simp [getElem!_pos vs i (by rw [← h.1]; exact hi)]
 exact ⟨_,hv,h.2 i a _ ha hv⟩
theorem DV.qw {w:World} {π:Nat→Nat→Prop} {a:AV} {v:Value} (h:DV w π a v) (hs:a.scalar=true):v.oneCell'=true:=by
 cases h<;>first | rfl | (simp [AV.scalar] at hs)
theorem DV.cells {w:World} {π:Nat→Nat→Prop} {a:AV} {v:Value} (h:DV w π a v) (ht:∀ vs,a≠.kY vs):dm w π a.cells v.cells.toList∧∀ x∈a.cells,x.scalar=true:=by
 cases h with
 | agg as vs hl hs hd=>exact ⟨⟨by simpa [AV.cells,Value.cells] using hl,fun i a v ha hv=>hd i a v ha (by simpa [Value.cells] using hv)⟩,hs⟩
 | kY as vs=>exact absurd rfl (ht as)
 | bool b=>exact ⟨.cons (.bool b) (.nil _ _),by simp [AV.cells,AV.scalar]⟩
 | int k n=>exact ⟨.cons (.int k n) (.nil _ _),by simp [AV.cells,AV.scalar]⟩
 | float k n=>exact ⟨.cons (.float k n) (.nil _ _),by simp [AV.cells,AV.scalar]⟩
 | str s=>exact ⟨.cons (.str s) (.nil _ _),by simp [AV.cells,AV.scalar]⟩
 | jS=>exact ⟨.cons .jS (.nil _ _),by simp [AV.cells,AV.scalar]⟩
 | bf=>exact ⟨.cons .bf (.nil _ _),by simp [AV.cells,AV.scalar]⟩
 | lz=>exact ⟨.cons .lz (.nil _ _),by simp [AV.cells,AV.scalar]⟩
 | bV=>exact ⟨.cons .bV (.nil _ _),by simp [AV.cells,AV.scalar]⟩
 | iface t a v h=>exact ⟨.cons (.iface t a v h) (.nil _ _),by simp [AV.cells,AV.scalar]⟩
 | cJ n h=>exact ⟨.cons (.cJ n h) (.nil _ _),by simp [AV.cells,AV.scalar]⟩
 | fn f as vs bs us h1 h2 h3 h4=>exact ⟨.cons (.fn f as vs bs us h1 h2 h3 h4) (.nil _ _),by simp [AV.cells,AV.scalar]⟩
 | ref cs B off f h1 h2 h3 h4=>exact ⟨.cons (.ref cs B off f h1 h2 h3 h4) (.nil _ _),by simp [AV.cells,AV.scalar]⟩
 | sG A=>exact ⟨.cons (.sG A) (.nil _ _),by simp [AV.cells,AV.scalar]⟩
 | sl xs B off cap z f h1 h2 h3 h4 h5 h6=>exact ⟨.cons (.sl xs B off cap z f h1 h2 h3 h4 h5 h6) (.nil _ _),by simp [AV.cells,AV.scalar]⟩
theorem qx {w:World} {π:Nat→Nat→Prop} {v:Value} {a:AV} (h:q4 v=some a):DV w π a v∧a.scalar=true:=by
 unfold q4 at h
 split at h<;>first | (cases h; exact ⟨by constructor,rfl⟩) | cases h
theorem jZ {w:World} {π:Nat→Nat→Prop}:∀ (l:List Value) (as:List AV),l.mapM q4=some as→dm w π as l∧∀ a∈as,a.scalar=true
 | [],as,h=>by simp at h; subst h; exact ⟨.nil _ _,by simp⟩
 | v :: l,as,h=>by
  simp only [List.mapM_cons,Option.bind_eq_bind,Option.bind_eq_some_iff,Option.pure_def,Option.some.injEq] at h
  obtain ⟨a,ha,as',has,rfl⟩:=h
  have h1:=qx (w:=w) (π:=π) ha
  have h2:=jZ (w:=w) (π:=π) l as' has
  exact ⟨.cons h1.1 h2.1,by simpa using ⟨h1.2,h2.2⟩⟩
theorem sH {w:World} {π:Nat→Nat→Prop} {v:Value} {a:AV} (h:Dq v=some a):DV w π a v:=by
 unfold Dq at h
 split at h
 ·rename_i cs
  simp only [Option.map_eq_some_iff] at h
  obtain ⟨as,has,rfl⟩:=h
  have h2:=jZ (w:=w) (π:=π) _ _ has
  exact .agg as cs (by simpa using h2.1.1) h2.2 (fun i a v ha hv=>h2.1.2 i a v ha (by simpa using hv))
 ·exact (qx h).1
structure cD where
 n:Nat
 X:Nat→Prop
 β:Nat→Nat
def cD.ok (F:cD) (B:Nat):Prop:=F.n≤B∨F.X B
def cD.EL (F:cD) (b B:Nat):Prop:=F.n≤B∨(b < 4∧F.X B)
def cD.top (w:World):cD:=⟨w.heap.size,fun _=>False,id⟩
structure jr (n:cD) (w w':World):Prop where
 os:w'.os=w.os
 tape:w'.tape=w.tape
 output:w'.output=w.output
 size:w.heap.size≤w'.heap.size
 block:∀ k,k < n.n→¬ n.X k→w'.heap[k]? = w.heap[k]?
 /-- what is no variables' block lies as it lay -/
 others:∀ (k:Nat) (o:Obj),w.heap[k]? = some o→o.isCells=false→w'.heap[k]? = some o
theorem jr.refl (n:cD) (w:World):jr n w w:=⟨rfl,rfl,rfl,Nat.le_refl _,fun _ _ _=>rfl,fun _ _ h _=>h⟩
theorem jr.trans {n:cD} {a b c:World} (h:jr n a b) (k:jr n b c):jr n a c :=
 ⟨k.os.trans h.os,k.tape.trans h.tape,k.output.trans h.output,Nat.le_trans h.size k.size,fun i hi hx=>(k.block i hi hx).trans (h.block i hi hx),fun i o hi ho=>k.others i o (h.others i o hi ho) ho⟩
theorem jr.of {n:cD} {w w':World} (h:Below w.heap.size w w') (hn:n.n≤w.heap.size):jr n w w':=⟨h.os,h.tape,h.output,h.size,fun k hk _=>h.block k (by omega),fun k o hk _=>(h.block k (Array.getElem?_eq_some_iff.1 hk).1).trans hk⟩
theorem jr.below {n:cD} {w w':World} (h:jr n w w') (hX:∀ k,¬ n.X k):Below n.n w w':=⟨h.os,h.tape,h.output,h.size,fun k hk=>h.block k hk (hX k)⟩
def oh (P:Program) (w:World) (π:Nat→Nat→Prop) (ok:Nat→Prop) (e:Nat) (v:Value):Prop :=
 v=.slice none 0 0∨∃ B len cap cur i,v=.slice (some ⟨B,0,none⟩) len cap∧ok B∧w.heap[B]? = some (.cells cur e (0,0))∧len≤cap∧cap≤maxLen∧P.info? e=some i∧cur.size=cap * i.size∧∀ o,len * i.size≤o→¬ π B o
def dI:Value→Option Nat
 | .slice (some a) _ _=>some a.block
 | _=>none
def qy (P:Program) (f:FuncId) (args:List AV) (r:AV) (fr:Option Nat):Prop :=
 aR P f=true ∧
 ∀ (w:World) (π:Nat→Nat→Prop) (vs:List Value),(∀ b o,π b o→b < w.heap.size)→dm w π args vs →
  Calls P f vs.toArray w fun e w'=>∃ v π',e=.returned v∧Below w.heap.size w w'∧(∀ b o,π b o→π' b o)∧(∀ b o,π' b o→π b o∨w.heap.size≤b) ∧
   (∀ b o,π' b o→b < w'.heap.size)∧DV w' π' r v∧∀ t,fr=some t→oh P w' π' (fun B=>w.heap.size≤B) t v
def bX (w:World) (π:Nat→Nat→Prop):List (Option AV)→List Nat→List Value→Prop
 | [],[],[]=>True
 | some a :: as,Bs,v :: vs=>DV w π a v∧bX w π as Bs vs
 | none :: as,B :: Bs,v :: vs=>v=.pointer (some ⟨B,0,none⟩)∧bX w π as Bs vs
 | _,_,_=>False
def RV (β:Nat→Nat) (τ:Nat→Value) (w:World) (π:Nat→Nat→Prop):SV→Value→Prop
 | .dat a q,v=>DV w π a v∧∀ t,q=some t→v=τ t
 | .ptr b off,v=>v=.pointer (some ⟨β b,off,none⟩)
 | .rp cs,v=>∃ (B off:Nat) (f:Nat→Value),v=.pointer (some ⟨B,off,none⟩)∧(∀ (j:Nat) (a:AV),cs[j]? = some a→a.scalar=true)∧(∀ (j:Nat) (a:AV),cs[j]? = some a→π B (off + j)) ∧
   (∀ (j:Nat) (a:AV),cs[j]? = some a→w.cell? ⟨B,off + j,none⟩=some (f j))∧∀ (j:Nat) (a:AV),cs[j]? = some a→DV w π a (f j)
 | .undef,v=>v=undef
 | .fK f as bs,v=>∃ us:Array Value,v=.func (.func f) #[] us∧bX w π as (bs.map β) us.toList
 | .raw q n,v=>∃ B cap,τ q=.slice (some ⟨B,0,none⟩) 0 cap∧v=.slice (some ⟨B,0,none⟩) n cap∧n≤cap
 | .vs b off n _,v=>∃ cap,n≤cap∧v=.slice (some ⟨β b,off,none⟩) n cap
def SV.cq (U:Nat→Prop):SV→Prop
 | .dat _ (some q)=>U q
 | .ptr b _=>U b
 | .vs b _ _ _=>U b
 | .fK _ _ bs=>∀ b∈bs,U b
 | .raw q _=>U q
 | _=>True
def fZ (τ:Nat→Value) (w:World) (π:Nat→Nat→Prop) (B:Nat) (x:aN):Prop :=
 ∃ cur el,w.heap[B]? = some (.cells cur el (0,0))∧dm w π x.cells cur.toList∧(∀ a∈x.cells,a.scalar=true)∧(∀ o q,bF o x.tags=some q→cur[o]? = some (τ q))∧∀ o,¬ π B o
def aV (w:World) (π:Nat→Nat→Prop):List (List AV)→List Nat→Prop
 | [],[]=>True
 | cs :: css,B :: Bs=>fZ (fun _=>undef) w π B ⟨cs,[]⟩∧aV w π css Bs
 | _,_=>False
def cD.cW (w:World) (Bs:List Nat):cD:=⟨w.heap.size,fun B=>B∈Bs,fun k=>Bs.getD k 0⟩
def mN (P:Program) (f:FuncId) (css:List (List AV)) (args:List (Option AV)) (r:AV) (fr:Option Nat) (css':List (List AV)):Prop :=
 aR P f=true∧css'.length=css.length∧css.length≤4 ∧
 ∀ (w:World) (π:Nat→Nat→Prop) (Bs:List Nat) (vs:List Value),(∀ b o,π b o→b < w.heap.size)→Bs.Nodup→aV w π css Bs→bX w π args Bs vs →
  Calls P f vs.toArray w fun e w'=>∃ v π',e=.returned v∧jr (cD.cW w Bs) w w'∧(∀ b o,π b o→π' b o)∧(∀ b o,π' b o→π b o∨w.heap.size≤b) ∧
   (∀ b o,π' b o→b < w'.heap.size)∧aV w' π' css' Bs∧DV w' π' r v∧∀ t,fr=some t→oh P w' π' (fun B=>w.heap.size≤B) t v
theorem DV.gr {w:World} {π:Nat→Nat→Prop} {a:AV} (h:Eng.gr a=true):DV w π a (uM a):=by
 cases a<;>first | (simp [Eng.gr] at h; done) | constructor
theorem DV.flat {w:World} {π:Nat→Nat→Prop} {a:AV} (h:jl a=true):DV w π a (jk a):=by
 cases a with
 | agg cs =>
  simp only [jl,List.all_eq_true] at h
  refine .agg cs _ (by simp) (fun a ha=>?_) (fun i a v ha hv=>?_)
  ·have:=h a ha; cases a<;>first | rfl | (simp [Eng.gr] at this; done)
  ·simp only [List.getElem?_toArray,List.getElem?_map,ha,Option.map_some,Option.some.injEq] at hv
   subst hv; exact .gr (h a (List.mem_of_getElem? ha))
 | _=>first | exact .gr h | (simp [jl,Eng.gr] at h; done)
def Iter (P:Program) (gv:AV) (xs:List (List AV)):Prop :=
 ∃ gf caps,gv=.fn (.func gf) [] caps∧aR P gf=true∧(∀ x∈xs,∀ a∈x,jl a=true) ∧
 ∀ (l:Nat) (J:Nat→World→Prop) (Jx:World→Prop) (W:World) (π:Nat→Nat→Prop) (vs:List Value),(∀ b o,π b o→b < W.heap.size)→dm W π caps vs →
  (∀ i W',J i W'→∀ b o,π b o→W'.cell? ⟨b,o,none⟩=W.cell? ⟨b,o,none⟩) →
  (∀ i W W',J i W→Below W.heap.size W W'→J i W')→(∀ W W',Jx W→Below W.heap.size W W'→Jx W') →
  (∀ n i x W,xs[i]? = some x→J i W→YieldAt Fence.wide n P l (x.map jk).toArray W fun e W'=>(e=.returned (.bool true)∧J (i + 1) W')∨(e=.returned (.bool false)∧Jx W')) →
  J 0 W →
  Calls P gf (#[.func (.yield l) #[] #[]]++vs.toArray) W fun e W'=>(∃ v,e=.returned v)∧(J xs.length W'∨Jx W')
def sI (P:Program) (f:FuncId) (css:List (List AV)) (args:List (Option AV)) (p:AV) (css':List (List AV)):Prop :=
 aR P f=true∧css'.length=css.length∧css.length≤4 ∧
 ∀ (w:World) (π:Nat→Nat→Prop) (Bs:List Nat) (vs:List Value),(∀ b o,π b o→b < w.heap.size)→Bs.Nodup→aV w π css Bs→bX w π args Bs vs →
  Calls P f vs.toArray w fun e w'=>∃ π',e=.panicked (ct p)∧jr (cD.cW w Bs) w w'∧(∀ b o,π b o→π' b o)∧(∀ b o,π' b o→π b o∨w.heap.size≤b) ∧
   (∀ b o,π' b o→b < w'.heap.size)∧aV w' π' css' Bs
def xq (P:Program) (f:FuncId) (args:List AV) (cs:List AV):Prop :=
 aR P f=true ∧
 ∀ (w:World) (π:Nat→Nat→Prop) (vs:List Value),(∀ b o,π b o→b < w.heap.size)→dm w π args vs →
  Calls P f vs.toArray w fun e w'=>∃ B π',e=.returned (.pointer (some ⟨B,0,none⟩))∧w.heap.size≤B∧Below w.heap.size w w'∧(∀ b o,π b o→π' b o)∧(∀ b o,π' b o→π b o∨w.heap.size≤b) ∧
   (∀ b o,π' b o→b < w'.heap.size)∧fZ (fun _=>undef) w' π' B ⟨cs,[]⟩
def lI:AV→FrameMode
 | .bV=>.returning
 | p=>.panicking (ct p)
def sJ (P:Program) (f:FuncId) (rv:AV) (css:List (List AV)) (args:List (Option AV)) (css':List (List AV)):Prop :=
 aR P f=true∧css'.length=css.length∧css.length≤4 ∧
 ∀ (w:World) (π:Nat→Nat→Prop) (Bs:List Nat) (vs:List Value),(∀ b o,π b o→b < w.heap.size)→Bs.Nodup→aV w π css Bs→bX w π args Bs vs →
  CallsDIn Fence.wide 0 P f vs.toArray (lI rv) w fun e u' w'=>∃ v π',e=.returned v∧settle u'=.returning∧jr (cD.cW w Bs) w w'∧(∀ b o,π b o→π' b o)∧(∀ b o,π' b o→π b o∨w.heap.size≤b) ∧
   (∀ b o,π' b o→b < w'.heap.size)∧aV w' π' css' Bs
def Pure (P:Program):bA:=⟨qy P,mN P,Iter P,sI P,xq P,sJ P⟩
structure Rel (P:Program) (nt:Nat) (n0:cD) (w0:World) (π0:Nat→Nat→Prop) (U:Nat→Prop) (s:S) (a:Act) (w:World) (β:Nat→Nat) (τ:Nat→Value) (π:Nat→Nat→Prop):Prop where
 size:a.tmps.size=nt
 slots:∀ t v,lk t s.slots=some v→(∃ x,a.tmps[t]? = some x∧RV β τ w π v x)∧v.cq U
 boxes:∀ b x,aS b s.boxes=some x→U b∧n0.EL b (β b)∧fZ τ w π (β b) x∧∀ o q,bF o x.tags=some q→U q
 inj:∀ b b' x x',aS b s.boxes=some x→aS b' s.boxes=some x'→β b=β b'→b=b'
 live:∀ q e,bF q s.live=some e→U q∧oh P w π n0.ok e (τ q)
 bk:∀ q q' e e' B,bF q s.live=some e→bF q' s.live=some e'→dI (τ q)=some B→dI (τ q')=some B→q=q'
 bl:∀ q e b x,bF q s.live=some e→aS b s.boxes=some x→dI (τ q)≠some (β b)
 below:jr n0 w0 w
 bP:n0.n≤w0.heap.size
 bK:∀ b o,π b o→b < w.heap.size
 bG:∀ b o,π0 b o→π b o
 aU:∀ b o,π b o→π0 b o∨n0.ok b
 fh:∀ k,k < 4→β k=n0.β k
 dU:∀ k,k < 4→U k
 kept:∀ b o,π0 b o→w.cell? ⟨b,o,none⟩=w0.cell? ⟨b,o,none⟩
end Go.Eng
namespace Go.Eng
open Go
open Go.RowKit (Below)
theorem Below.ie {n:Nat} {w w':World} (h:Below n w w') {b o:Nat} (hb:b < n):w'.cell? ⟨b,o,none⟩=w.cell? ⟨b,o,none⟩:=Below.cell h (p:=⟨b,o,none⟩) hb
theorem bX.mono {w w':World} {π π':Nat→Nat→Prop} (hp:∀ b o,π b o→π' b o) (hc:∀ b o,π b o→w'.cell? ⟨b,o,none⟩=w.cell? ⟨b,o,none⟩):∀ {as:List (Option AV)} {Bs:List Nat} {vs:List Value},bX w π as Bs vs→bX w' π' as Bs vs
 | [],[],[],_=>trivial
 | [],[],v :: vs,h=>h.elim
 | [],B :: Bs,vs,h=>by cases vs<;>exact h.elim
 | some a :: as,Bs,[],h=>by cases Bs<;>exact h.elim
 | some a :: as,[],v :: vs,h=>⟨h.1.mono hp hc,bX.mono hp hc h.2⟩
 | some a :: as,B :: Bs,v :: vs,h=>⟨h.1.mono hp hc,bX.mono hp hc h.2⟩
 | none :: as,[],vs,h=>by cases vs<;>exact h.elim
 | none :: as,B :: Bs,[],h=>h.elim
 | none :: as,B :: Bs,v :: vs,h=>⟨h.1,bX.mono hp hc h.2⟩
theorem RV.mono {β β':Nat→Nat} {τ τ':Nat→Value} {w w':World} {π π':Nat→Nat→Prop} {U:Nat→Prop} (hβ:∀ b,U b→β' b=β b) (hτ:∀ b,U b→τ' b=τ b)
  (hp:∀ b o,π b o→π' b o) (hc:∀ b o,π b o→w'.cell? ⟨b,o,none⟩=w.cell? ⟨b,o,none⟩) {v:SV} {x:Value} (hU:v.cq U) (h:RV β τ w π v x):RV β' τ' w' π' v x:=by
 cases v with
 | dat a q =>
  refine ⟨h.1.mono hp hc,fun t ht=>?_⟩
  subst ht
  rw [hτ t hU]; exact h.2 t rfl
 | ptr b off =>
  show x=_
  rw [hβ b hU]; exact h
 | rp cs =>
  obtain ⟨B,off,f,hx,h1,h2,h3,h4⟩:=h
  exact ⟨B,off,f,hx,h1,fun j a ha=>hp _ _ (h2 j a ha),fun j a ha=>(hc _ _ (h2 j a ha)).trans (h3 j a ha),fun j a ha=>(h4 j a ha).mono hp hc⟩
 | undef=>exact h
 | vs b off n z =>
  obtain ⟨cap,h1,h2⟩:=h
  exact ⟨cap,h1,by rw [hβ b hU]; exact h2⟩
 | fK f as bs =>
  obtain ⟨us,h1,h2⟩:=h
  refine ⟨us,h1,?_⟩
  have e:bs.map β'=bs.map β:=List.map_congr_left fun b hb=>hβ b (hU b hb)
  rw [e]; exact h2.mono hp hc
 | raw q n =>
  obtain ⟨B,cap,h1,h2⟩:=h
  exact ⟨B,cap,by rw [hτ q hU]; exact h1,h2⟩
theorem SV.gL {U U':Nat→Prop} (hU:∀ n,U n→U' n) {v:SV} (h:v.cq U):v.cq U':=by
 cases v with
 | dat a q=>cases q with
  | none=>trivial
  | some q=>exact hU _ h
 | ptr b off=>exact hU _ h
 | rp cs=>trivial
 | undef=>trivial
 | vs b off n z=>exact hU _ h
 | fK f as bs=>exact fun b hb=>hU _ (h b hb)
 | raw q n=>exact hU _ h
theorem eS {w:World} {B:Nat} {o:Obj} (h:w.heap[B]? = some o):B < w.heap.size:=(Array.getElem?_eq_some_iff.1 h).1
theorem oh.block {P:Program} {w:World} {π:Nat→Nat→Prop} {ok:Nat→Prop} {e B:Nat} {v:Value} (h:oh P w π ok e v) (hB:dI v=some B) :
  ok B∧B < w.heap.size:=by
 rcases h with rfl|⟨B',len,cap,cur,i,rfl,h1,h2,_⟩
 ·simp [dI] at hB
 ·simp [dI] at hB; subst hB; exact ⟨h1,eS h2⟩
theorem oh.keep {P:Program} {w w':World} {π π':Nat→Nat→Prop} {ok:Nat→Prop} {e:Nat} {v:Value} (h:oh P w π ok e v)
  (hb:∀ B,dI v=some B→w'.heap[B]? = w.heap[B]?) (hp:∀ B o,dI v=some B→π' B o→π B o):oh P w' π' ok e v:=by
 rcases h with rfl|⟨B',len,cap,cur,i,rfl,h1,h2,h3,h4,h5,h6,h7⟩
 ·exact .inl rfl
 ·exact .inr ⟨B',len,cap,cur,i,rfl,h1,(hb B' rfl).trans h2,h3,h4,h5,h6,fun o ho hc=>h7 o ho (hp B' o rfl hc)⟩
theorem fZ.keep {τ τ':Nat→Value} {w w':World} {π π':Nat→Nat→Prop} {U:Nat→Prop} {B:Nat} {x:aN} (h:fZ τ w π B x) (hτ:∀ q,U q→τ' q=τ q) (hU:∀ o q,bF o x.tags=some q→U q)
  (hb:w'.heap[B]? = w.heap[B]?) (hp:∀ b o,π b o→π' b o) (hc:∀ b o,π b o→w'.cell? ⟨b,o,none⟩=w.cell? ⟨b,o,none⟩) (hn:∀ o,¬ π' B o):fZ τ' w' π' B x:=by
 obtain ⟨cur,el,h1,h2,h3,h4,_⟩:=h
 exact ⟨cur,el,hb.trans h1,h2.mono hp hc,h3,fun o q hq=>by rw [hτ q (hU o q hq)]; exact h4 o q hq,hn⟩
section
variable {P:Program} {nt:Nat} {n0:cD} {w0:World} {π0:Nat→Nat→Prop} {U U':Nat→Prop} {s:S} {a:Act} {w w':World} {β β':Nat→Nat} {τ τ':Nat→Value} {π π':Nat→Nat→Prop}
theorem Rel.frame (R:Rel P nt n0 w0 π0 U s a w β τ π) (hβ:∀ b,U b→β' b=β b) (hτ:∀ b,U b→τ' b=τ b) (hU:∀ n,U n→U' n)
  (hp:∀ b o,π b o→π' b o) (hp':∀ b o,π' b o→π b o∨w.heap.size≤b) (hpl:∀ b o,π' b o→b < w'.heap.size) (hbel:Below w.heap.size w w') :
  Rel P nt n0 w0 π0 U' s a w' β' τ' π':=by
 have hc:∀ b o,π b o→w'.cell? ⟨b,o,none⟩=w.cell? ⟨b,o,none⟩:=fun b o h=>Below.ie hbel (R.bK b o h)
 have hsz:n0.n≤w.heap.size:=Nat.le_trans R.bP R.below.size
 refine ⟨R.size,fun t v h=>?_,fun b x h=>?_,fun b b' x x' h h' e=>?_,fun q e h=>?_,fun q q' e e' B h h' hB hB'=>?_,fun q e b x h h' hB=>?_,R.below.trans (.of hbel hsz),R.bP,hpl,fun b o h=>hp _ _ (R.bG b o h),fun b o h=>?_,fun k hk=>by rw [hβ k (R.dU k hk)]; exact R.fh k hk,fun k hk=>hU k (R.dU k hk),fun b o h=>(hc b o (R.bG b o h)).trans (R.kept b o h)⟩
 ·obtain ⟨⟨x,hx,hv⟩,hu⟩:=R.slots t v h
  exact ⟨⟨x,hx,RV.mono hβ hτ hp hc hu hv⟩,SV.gL hU hu⟩
 ·obtain ⟨h1,h2,h3,h4⟩:=R.boxes b x h
  rw [hβ b h1]
  have hlt:β b < w.heap.size:=by obtain ⟨cur,el,hh,_⟩:=h3; exact eS hh
  refine ⟨hU b h1,h2,h3.keep hτ h4 (hbel.block _ hlt) hp hc (fun o ho=>?_),fun o q hq=>hU _ (h4 o q hq)⟩
  rcases hp' _ _ ho with h|h
  ·obtain ⟨_,_,_,_,_,_,hn⟩:=h3; exact hn o h
  ·omega
 ·rw [hβ b (R.boxes b x h).1,hβ b' (R.boxes b' x' h').1] at e
  exact R.inj b b' x x' h h' e
 ·obtain ⟨h1,h2⟩:=R.live q e h
  rw [hτ q h1]
  refine ⟨hU q h1,h2.keep (fun B hB=>hbel.block _ (h2.block hB).2) (fun B o hB ho=>?_)⟩
  rcases hp' _ _ ho with h|h
  ·exact h
  ·have:=(h2.block hB).2; omega
 ·rw [hτ q (R.live q e h).1] at hB
  rw [hτ q' (R.live q' e' h').1] at hB'
  exact R.bk q q' e e' B h h' hB hB'
 ·rw [hτ q (R.live q e h).1,hβ b (R.boxes b x h').1] at hB
  exact R.bl q e b x h h' hB
 ·rcases hp' b o h with h | h
  ·exact R.aU b o h
  ·exact .inr (.inl (by omega))
theorem Rel.sub (R:Rel P nt n0 w0 π0 U s a w β τ π) (hU:∀ n,U n→U' n):Rel P nt n0 w0 π0 U' s a w β τ π :=
 R.frame (fun _ _=>rfl) (fun _ _=>rfl) hU (fun _ _ h=>h) (fun _ _ h=>.inl h) R.bK (Below.refl _ _)
theorem Rel.put (R:Rel P nt n0 w0 π0 U s a w β τ π) (d:Option Nat) {v:SV} {x:Value} (hd:∀ t,d=some t→t < nt) (hv:RV β τ w π v x) (hu:v.cq U):Rel P nt n0 w0 π0 U (s.put d v) (a.put d x) w β τ π:=by
 cases d with
 | none=>exact R
 | some d =>
  refine ⟨by simp [Act.put,R.size],fun t u h=>?_,R.boxes,R.inj,R.live,R.bk,R.bl,R.below,R.bP,R.bK,R.bG,R.aU,R.fh,R.dU,R.kept⟩
  simp only [S.put,lk] at h
  by_cases e:t=d
  ·subst e
   simp at h
   subst h
   exact ⟨⟨x,by simp [Act.put,R.size,hd t rfl],hv⟩,hu⟩
  ·have:(t == d)=false:=by simpa using e
   simp only [this,cond_false] at h
   obtain ⟨⟨y,hy,hr⟩,hu'⟩:=R.slots t u h
   exact ⟨⟨y,by simp [Act.put,Array.getElem?_setIfInBounds_ne (Ne.symm e),hy],hr⟩,hu'⟩
theorem Rel.aQ (R:Rel P nt n0 w0 π0 U s a w β τ π) {X:Operand} {x:aD} {v:SV} (hx:aT X=some x) (hv:aQ s x=some v):RV β τ w π v (a.eval X)∧v.cq U:=by
 cases X with
 | tmp t =>
  simp [aT] at hx; subst hx
  obtain ⟨⟨y,hy,hr⟩,hu⟩:=R.slots t v hv
  refine ⟨?_,hu⟩
  have:a.eval (.tmp t)=y:=by simp [Act.eval,hy]
  rw [this]; exact hr
 | const c =>
  simp only [aT,Option.map_eq_some_iff] at hx
  obtain ⟨k,hk,rfl⟩:=hx
  simp [Eng.aQ] at hv; subst hv
  exact ⟨⟨sH hk,fun t ht=>by cases ht⟩,trivial⟩
 | global g=>simp [aT] at hx
 | func f =>
  simp [aT] at hx; subst hx
  simp [Eng.aQ] at hv; subst hv
  refine ⟨⟨?_,fun t ht=>by cases ht⟩,trivial⟩
  exact .fn (.func f) [] #[] [] #[] rfl rfl (fun i a v h=>by simp at h) (fun i a v h=>by simp at h)
theorem RV.ref {β:Nat→Nat} {τ:Nat→Value} {w:World} {π:Nat→Nat→Prop} {cs:List AV} {v:Value}:RV β τ w π (.rp cs) v↔DV w π (.ref cs) v:=by
 constructor
 ·rintro ⟨B,off,f,rfl,h1,h2,h3,h4⟩
  exact .ref cs B off f h1 h2 h3 h4
 ·intro h
  cases h with
  | ref _ B off f h1 h2 h3 h4=>exact ⟨B,off,f,rfl,h1,h2,h3,h4⟩
theorem Rel.ai (R:Rel P nt n0 w0 π0 U s a w β τ π) {X:Operand} {x:aD} {v:AV} (hx:aT X=some x) (hv:Eng.ai s x=some v):DV w π v (a.eval X):=by
 unfold Eng.ai at hv
 split at hv
 ·rename_i b q ho
  cases hv
  exact (R.aQ hx ho).1.1
 ·rename_i cs ho
  cases hv
  exact RV.ref.1 (R.aQ hx ho).1
 ·cases hv
theorem Rel.bh (R:Rel P nt n0 w0 π0 U s a w β τ π):∀ {Xs:List Operand} {xs:List aD} {vs:List AV},Xs.mapM aT=some xs→Eng.bh s xs=some vs→dm w π vs (Xs.map a.eval)
 | [],xs,vs,hx,hv=>by
  simp at hx; subst hx
  simp [Eng.bh] at hv; subst hv
  exact .nil _ _
 | X :: Xs,xs,vs,hx,hv=>by
  simp only [List.mapM_cons,Option.bind_eq_bind,Option.bind_eq_some_iff,Option.pure_def,Option.some.injEq] at hx
  obtain ⟨x,hx,xs',hxs,rfl⟩:=hx
  simp only [Eng.bh] at hv
  split at hv
  ·rename_i a' as h1 h2
   cases hv
   exact .cons (R.ai hx h1) (R.bh hxs h2)
  ·cases hv
def mO {α:Type} (f:Nat→α) (n:Nat) (x:α):Nat→α:=fun m=>if m=n then x else f m
theorem aM {α:Type} (f:Nat→α) (n:Nat) (x:α):mO f n x n=x:=by simp [mO]
theorem iV {α:Type} (f:Nat→α) (n:Nat) (x:α) {m:Nat} (h:m≠n):mO f n x m=f m:=by simp [mO,h]
def bQ (U:Nat→Prop) (n:Nat):Nat→Prop:=fun m=>U m∨m=n
theorem Rel.sK (R:Rel P nt n0 w0 π0 U s a w β τ π) {id:Nat} (hid:¬ U id) {cells:List AV} {cs:Array Value} (e:TypeId) (hd:dm w π cells cs.toList) (hs:∀ a∈cells,a.scalar=true) :
  Rel P nt n0 w0 π0 (bQ U id) { s with boxes:=(id,⟨cells,[]⟩) :: s.boxes } a (w.alloc (.cells cs e)) (mO β id w.heap.size) τ π:=by
 have hne:∀ b,U b→b≠id:=fun b hb e=>hid (e ▸ hb)
 have hbel:Below w.heap.size w (w.alloc (.cells cs e)):=(Below.refl _ _).alloc (Nat.le_refl _) _
 have R1:Rel P nt n0 w0 π0 (bQ U id) s a (w.alloc (.cells cs e)) (mO β id w.heap.size) τ π :=
  R.frame (fun b hb=>iV _ _ _ (hne b hb)) (fun _ _=>rfl) (fun n h=>.inl h) (fun _ _ h=>h) (fun _ _ h=>.inl h) (fun b o h=>by have:=R.bK b o h; simp; omega) hbel
 have hsz:n0.n≤w.heap.size:=Nat.le_trans R.bP R.below.size
 have hold:∀ b x,aS b s.boxes=some x→mO β id w.heap.size b≠w.heap.size:=fun b x h=>by
  obtain ⟨h1,_,⟨cur,el,hh,_⟩,_⟩:=R.boxes b x h
  rw [iV _ _ _ (hne b h1)]
  have:=eS hh
  omega
 refine ⟨R1.size,R1.slots,fun b x h=>?_,fun b b' x x' h h' e=>?_,R1.live,R1.bk,fun q e' b x h h' hB=>?_,R1.below,R1.bP,R1.bK,R1.bG,R1.aU,R1.fh,R1.dU,R1.kept⟩
 ·simp only [aS] at h
  by_cases hb:b=id
  ·subst hb
   simp at h
   subst h
   refine ⟨.inr rfl,by rw [aM]; exact .inl hsz,?_,fun o q h=>by simp [bF] at h⟩
   rw [aM]
   refine ⟨cs,e,heap_alloc_new w _,hd.mono (fun _ _ h=>h) (fun b o h=>Below.ie hbel (R.bK b o h)),hs,fun o q h=>by simp [bF] at h,fun o h=>?_⟩
   have:=R.bK _ _ h; omega
  ·have:(b == id)=false:=by simpa using hb
   simp only [this,cond_false] at h
   exact R1.boxes b x h
 ·simp only [aS] at h h'
  by_cases hb:b=id
  ·by_cases hb':b'=id
   ·rw [hb,hb']
   ·have hf:(b' == id)=false:=by simpa using hb'
    simp only [hf,cond_false] at h'
    subst hb
    rw [aM] at e
    exact absurd e.symm (hold b' x' h')
  ·have hf:(b == id)=false:=by simpa using hb
   simp only [hf,cond_false] at h
   by_cases hb':b'=id
   ·subst hb'
    rw [aM] at e
    exact absurd e (hold b x h)
   ·have hf':(b' == id)=false:=by simpa using hb'
    simp only [hf',cond_false] at h'
    exact R1.inj b b' x x' h h' e
 ·simp only [aS] at h'
  by_cases hb:b=id
  ·subst hb
   rw [aM] at hB
   have:=((R.live q e' h).2.block hB).2
   omega
  ·have hf:(b == id)=false:=by simpa using hb
   simp only [hf,cond_false] at h'
   exact R1.bl q e' b x h h' hB
theorem eE {n m:Nat} {b:aN}:∀ {l:List (Nat × aN)} {x:aN},aS n (gy m b l)=some x→(n=m∧x=b∧∃ y,aS m l=some y)∨(n≠m∧aS n l=some x)
 | [],x,h=>by simp [gy,aS] at h
 |(k,v) :: r,x,h=>by
  simp only [gy] at h
  by_cases hk:m=k
  ·subst hk
   simp only [beq_self_eq_true,cond_true,aS] at h
   by_cases hn:n=m
   ·subst hn
    simp at h
    exact .inl ⟨rfl,h.symm,v,by simp [aS]⟩
   ·have hf:(n == m)=false:=by simpa using hn
    simp only [hf,cond_false] at h
    exact .inr ⟨hn,by simp [aS,hf,h]⟩
  ·have hf:(m == k)=false:=by simpa using hk
   simp only [hf,cond_false,aS] at h
   by_cases hn:n=k
   ·subst hn
    simp at h
    exact .inr ⟨fun e=>hk e.symm,by simp [aS,h]⟩
   ·have hf':(n == k)=false:=by simpa using hn
    simp only [hf',cond_false] at h
    rcases eE h with ⟨h1,h2,y,h3⟩|⟨h1,h2⟩
    ·exact .inl ⟨h1,h2,y,by simp [aS,hf,h3]⟩
    ·exact .inr ⟨h1,by simp [aS,hf',h2]⟩
theorem Rel.xQ (R:Rel P nt n0 w0 π0 U s a w β τ π) {b:Nat} {x y:aN} (hb:aS b s.boxes=some x) {cur cur':Array Value} {el:TypeId}
  (hh:w.heap[β b]? = some (.cells cur el (0,0))) (hd:dm w π y.cells cur'.toList) (hs:∀ a∈y.cells,a.scalar=true)
  (ht:∀ o q,bF o y.tags=some q→cur'[o]? = some (τ q)∧U q) :
  Rel P nt n0 w0 π0 U { s with boxes:=gy b y s.boxes } a (w.setRow (β b) cur') β τ π:=by
 obtain ⟨hUb,hn0,⟨_,_,hh',_,_,_,hnp⟩,_⟩:=R.boxes b x hb
 have hsz:n0.n≤w.heap.size:=Nat.le_trans R.bP R.below.size
 have hother:∀ k,k≠β b→(w.setRow (β b) cur').heap[k]? = w.heap[k]?:=fun k hk=>setRow_other w _ k cur' hk
 have hc:∀ B o,π B o→(w.setRow (β b) cur').cell? ⟨B,o,none⟩=w.cell? ⟨B,o,none⟩:=fun B o h=>cell_setRow_other w _ cur' ⟨B,o,none⟩ (fun e=>hnp o (by simpa [← e] using h))
 have hbel:jr n0 w (w.setRow (β b) cur'):=⟨rfl,rfl,rfl,by simp,fun k hk hx=>hother k (fun e=>by subst e; rcases hn0 with h | h; exact absurd h (by omega); exact hx h.2),fun k o hk ho=>(hother k (fun e=>by subst e; rw [hh] at hk; cases hk; cases ho)).trans hk⟩
 refine ⟨R.size,fun t v h=>?_,fun c z h=>?_,fun c c' z z' h h' e=>?_,fun q e h=>?_,R.bk,fun q e c z h h' hB=>?_,R.below.trans hbel,R.bP,fun B o h=>by simpa using R.bK B o h,R.bG,R.aU,R.fh,R.dU,fun b o h=>(hc b o (R.bG b o h)).trans (R.kept b o h)⟩
 ·obtain ⟨⟨z,hz,hv⟩,hu⟩:=R.slots t v h
  exact ⟨⟨z,hz,RV.mono (fun _ _=>rfl) (fun _ _=>rfl) (fun _ _ h=>h) hc hu hv⟩,hu⟩
 ·rcases eE h with ⟨rfl,rfl,_⟩ | ⟨hne,h⟩
  ·exact ⟨hUb,hn0,⟨cur',el,setRow_heap w _ cur _ el _ hh,hd.mono (fun _ _ h=>h) hc,hs,fun o q hq=>(ht o q hq).1,hnp⟩,fun o q hq=>(ht o q hq).2⟩
  ·obtain ⟨h1,h2,h3,h4⟩:=R.boxes c z h
   refine ⟨h1,h2,h3.keep (fun _ _=>rfl) h4 (hother _ (fun e=>hne (R.inj c b z x h hb e))) (fun _ _ h=>h) hc ?_,h4⟩
   obtain ⟨_,_,_,_,_,_,hn⟩:=h3; exact hn
 ·have:∃ u,aS c s.boxes=some u:=by
   rcases eE h with ⟨rfl,_,_⟩|⟨_,h⟩
   ·exact ⟨x,hb⟩
   ·exact ⟨z,h⟩
  have k':∃ u,aS c' s.boxes=some u:=by
   rcases eE h' with ⟨rfl,_,_⟩|⟨_,h⟩
   ·exact ⟨x,hb⟩
   ·exact ⟨z',h⟩
  obtain ⟨u,hu⟩:=this
  obtain ⟨u',hu'⟩:=k'
  exact R.inj c c' u u' hu hu' e
 ·obtain ⟨h1,h2⟩:=R.live q e h
  exact ⟨h1,h2.keep (fun B hB=>hother B (fun eB=>R.bl q e b x h hb (by rw [hB,eB]))) (fun B o _ h=>h)⟩
 ·have:∃ u,aS c s.boxes=some u:=by
   rcases eE h' with ⟨rfl,_,_⟩|⟨_,h⟩
   ·exact ⟨x,hb⟩
   ·exact ⟨z,h⟩
  obtain ⟨u,hu⟩:=this
  exact R.bl q e c u h hu hB
end
end Go.Eng
