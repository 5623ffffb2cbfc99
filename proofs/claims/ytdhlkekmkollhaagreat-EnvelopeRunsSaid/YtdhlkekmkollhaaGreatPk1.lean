/- The engine and the library,part 1 of 18: what the proofs of this seat need of them. -/
import Derived.WalkKit
import Derived.RangeFuncNested
import Derived.RangeFuncLeaves
import Derived.OrdersIn
import Derived.LoopNIn
import Derived.ChangeKeysEq
import Derived.Laws.Externs
import Derived.Lib.SliceRun
import Ieee.Arith
import GoSem.Core.Float
import Derived.ProofKit
import Derived.OpenShut
import Derived.ShutString
import Derived.ChangeOld
import Derived.Below
set_option linter.unnecessarySimpa false
set_option linter.unusedSimpArgs false
set_option linter.unusedVariables false
set_option linter.defProp false
set_option maxRecDepth 10000
set_option maxHeartbeats 4000000
namespace Go.Eng
open Go
inductive AV where
 | bool (b:Bool)
 | int (k:IntKind) (n:Int)
 | float (k:FloatKind) (n:Nat)
 | str (s:ByteArray)
 | Ce
 | bl
 | sl (xs:List (List AV))
 | fn (f:Fn) (first caps:List AV)
 | dZ
 | iface (t:Nat) (v:AV)
 | Cw
 | agg (cs:List AV)
 | cQ (vs:List AV)
 | ref (cs:List AV)
 /-- a float (of 64 bits) that is no number,whichever -/
 | d4
 deriving Inhabited
inductive SV where
 | dat (a:AV) (q:Option Nat)
 | ptr (b off:Nat)
 | rp (cs:List AV)
 | undef
 /-- a slice xU a box of its own or another's: n elements of z cells each,from off on -/
 | vs (b off n z:Nat)
 deriving Inhabited
structure dU where
 cells:List AV
 tags:List (Nat × Nat)
 deriving Inhabited
structure S where
 slots:List (Nat × SV)
 boxes:List (Nat × dU)
 live:List (Nat × Nat)
 nx:Nat
 deriving Inhabited
inductive bW where
 | t (n:Nat)
 | k (v:AV)
 deriving Inhabited
inductive CK where
 | b | i | f | s
 deriving DecidableEq,Inhabited
inductive Xt where
 | EC | ffrom | rte
 deriving DecidableEq,Inhabited
inductive bV where
 | mv (x:bW)
 | pick (c a b:bW)
 | alloc (cs:List AV)
 | box (x:bW)
 | build (zs:List AV) (parts:List (Nat × Nat × bW))
 | pL (e z:Nat) (xs:List bW)
 | ld (x:bW) (sz:Option Nat)
 | st (x v:bW) (sz:Nat)
 | fa (x:bW) (off:Nat)
 | GN (x i:bW) (n z:Nat)
 | Qm (x i:bW) (z:Nat)
 | Dl (x:bW) (off:Nat) (sz:Option Nat)
 | Cx (x i:bW) (n z:Nat) (sz:Option Nat)
 | bin (op:BinOp) (x y:bW)
 | eqc (ks:List CK) (neg:Bool) (x y:bW)
 | bb (neg:Bool) (x y:bW)
 | un (op:UnOp) (x:bW)
 | qm (k:IntKind) (x:bW)
 | Cf (k:FloatKind) (x:bW)
 | ED (k:IntKind) (x:bW)
 | Dm (x:bW)
 | Jd (x:bW)
 | KC (n:Nat)
 | app (e z bytes:Nat) (s x:bW)
 | call (f:Nat) (args:List bW)
 | bT (f:Nat) (args:List bW)
 | rD (g:bW) (args:List bW)
 | ext (x:bW) (i:Nat)
 | rT (fn:Fn) (first caps:List bW)
 | Qn (z:Nat) (x:bW) (lo hi:Option bW)
 | nc (x:bW)
 | mm (max:Bool) (args:List bW)
 | xt (e:Xt) (x:bW)
 | PU (x:bW) (n z:Nat)
 | Tz (x i:bW)
 | Qo (neg:Bool) (x:bW)
 | gT (g:bW) (args:List bW)
 | zU (f:Nat) (args:List bW)
 | rU (g:bW) (args:List bW)
 | S9 (x:bW) (n z:Nat) (hi:bW)
 | Cg (e z bytes:Nat) (y x:bW)
 deriving Inhabited
structure CO where
 dst:Option Nat
 op:bV
 g:Option (Nat × Bool)
 deriving Inhabited
inductive br where
 | skip
 | Nj (ops:List CO)
 | seq (a b:br)
 | join (a b:br)
 | cond (c:bW) (a b:br)
 | block (id:Nat) (c:br)
 | loop (c:br)
 | exit (id:Nat)
 | ret
 | mW (g:bW) (ps wr:List Nat) (as bd:br)
 | lF (ops:List CO) (dF:List (Nat × Nat))
 | scope (l:Nat) (c r:br)
 | label (l:Nat)
 | goto (l:Nat)
 deriving Inhabited
def AV.cells:AV→List AV
 | .agg cs=>cs
 | v=>[v]
def AV.scalar:AV→Bool
 | .agg _ | .cQ _=>false
 | _=>true
def Je:Value→Option AV
 | .bool b=>some (.bool b)
 | .int k n=>some (.int k n)
 | .float k n=>some (.float k n)
 | .string s=>some (.str s)
 | .pointer none=>some .Ce
 | .slice none 0 0=>some .bl
 | .nilFunc=>some .dZ
 | .nilIface=>some .Cw
 | _=>none
def WE:Value→Option AV
 | .agg cs=>(cs.toList.mapM Je).map .agg
 | v=>Je v
def yE (op:BinOp) (k:IntKind) (x y:Int):Option Int :=
 let a:=BitVec.ofInt k.bits x
 let b:=BitVec.ofInt k.bits y
 match op with
 | .and=>some (k.wrap (a &&& b).toNat)
 | .or=>some (k.wrap (a ||| b).toNat)
 | .xor=>some (k.wrap (a ^^^ b).toNat)
 | .andNot=>some (k.wrap (a &&& ~~~b).toNat)
 | _=>none
def rN (op:BinOp) (k:IntKind) (x y:Int):Option AV :=
 match op with
 | .add=>some (.int k (k.wrap (x + y)))
 | .sub=>some (.int k (k.wrap (x - y)))
 | .mul=>some (.int k (k.wrap (x * y)))
 | .quo=>if y=0 then none else some (.int k (k.wrap (x.tdiv y)))
 | .rem=>if y=0 then none else some (.int k (x.tmod y))
 | .and | .or | .xor | .andNot=>(yE op k x y).map (.int k)
 | .eql=>some (.bool (x == y))
 | .neq=>some (.bool (x != y))
 | .lss=>some (.bool (decide (x < y)))
 | .leq=>some (.bool (decide (x≤y)))
 | .gtr=>some (.bool (decide (x > y)))
 | .geq=>some (.bool (decide (x ≥ y)))
 | _=>none
def Ci (n:Nat):Bool:=match FloatKind.f64.decode n with
 | .nan ..=>true
 | _=>false
def GJ:FloatKind→Option Nat→Option AV
 | k,some r=>some (.float k r)
 | .f64,none=>some .d4
 | .f32,none=>none
def uJ:BinOp→Option AV
 | .add | .sub | .mul | .quo=>some .d4
 | .neq=>some (.bool true)
 | .eql | .lss | .leq | .gtr | .geq=>some (.bool false)
 | _=>none
def zV (op:BinOp) (k:FloatKind) (x y:Nat):Option AV :=
 let c:=k.format.order x y
 match op with
 | .add=>GJ k (k.format.add x y)
 | .sub=>GJ k (k.format.sub x y)
 | .mul=>GJ k (k.format.mul x y)
 | .quo=>GJ k (k.format.div x y)
 | .eql=>some (.bool (c == some .eq))
 | .neq=>some (.bool (c != some .eq))
 | .lss=>some (.bool (c == some .lt))
 | .leq=>some (.bool (c == some .lt || c == some .eq))
 | .gtr=>some (.bool (c == some .gt))
 | .geq=>some (.bool (c == some .gt || c == some .eq))
 | _=>none
def rW (op:BinOp) (k:IntKind) (x y:Int):Option AV :=
 if y < 0 then none else
 match op with
 | .shl=>some (.int k (k.wrap (x * 2 ^ min y.toNat k.bits)))
 | .shr=>some (.int k (x.fdiv (2 ^ min y.toNat k.bits)))
 | _=>none
def dI (op:BinOp) (a b:AV):Option AV :=
 match op,a,b with
 | .shl,.int k x,.int _ y=>rW .shl k x y
 | .shr,.int k x,.int _ y=>rW .shr k x y
 | op,.int k x,.int k' y=>if k=k' then rN op k x y else none
 | op,.float k x,.float k' y=>if k=k' then zV op k x y else none
 | op,.d4,.float .f64 _=>uJ op
 | op,.float .f64 _,.d4=>uJ op
 | op,.d4,.d4=>uJ op
 | _,_,_=>none
def Ta (neg:Bool):AV→AV→Option AV
 | .bool x,.bool y=>some (.bool (if neg then x != y else x == y))
 | _,_=>none
def rX:CK→AV→AV→Option Bool
 | .b,.bool x,.bool y=>some (x == y)
 | .i,.int k x,.int k' y=>if k=k' then some (x == y) else none
 | .f,.float k x,.float k' y=>if k=k' then some (k.format.order x y == some .eq) else none
 | .s,.str x,.str y=>some (x == y)
 | _,_,_=>none
def cX:List CK→List AV→List AV→Option Bool
 | [],[],[]=>some true
 | k :: ks,a :: as,b :: bs=>match rX k a b,cX ks as bs with
  | some x,some y=>some (x && y)
  | _,_=>none
 | _,_,_=>none
def Qp (op:UnOp) (a:AV):Option AV :=
 match op,a with
 | .neg,.int k n=>some (.int k (k.wrap (0 - n)))
 | .xor,.int k n=>(yE .xor k (if k.signed then -1 else k.max) n).map (.int k)
 | .neg,.float k b=>some (.float k (Op.negFloat k b))
 | .not,.bool b=>some (.bool !b)
 | _,_=>none
def Cy (k:IntKind):AV→Option AV
 | .int _ n=>some (.int k (k.wrap n))
 | _=>none
def zW (k:FloatKind):AV→Option AV
 | .int _ n=>some (.float k (k.nearest n))
 | _=>none
def yF (k:IntKind):AV→Option AV
 | .float s b=>match (s.decode b).toInt .zero with
  | some n=>if k.min≤n∧n≤k.max then some (.int k n) else none
  | none=>none
 | _=>none
def Dn (b:Nat):Option AV :=
 match FloatKind.f64.decode b with
 | .nan _ t=>if FloatKind.f64.format.quiet t=t then some (.float .f64 b) else none
 | d=>some (.float .f64 (FloatKind.f64.encode (d.integral .even)))
def Tc:Xt→AV→Option AV
 | .EC,.float .f64 b=>some (.int .u64 b)
 | .ffrom,.int .u64 n=>some (.float .f64 n.toNat)
 | .rte,.float .f64 b=>Dn b
 | _,_=>none
def cU (z:Nat):Nat→List AV→List (List AV)
 | 0,_=>[]
 | n + 1,cs=>cs.take z :: cU z n (cs.drop z)
def HT (s:ByteArray) (i:Int):Option AV :=
 if 0≤i∧i < s.size then some (.int .u8 (s[i.toNat]!).toNat) else none
def zn:AV→Option AV
 | .bl=>some (.int .i64 0)
 | .sl xs=>some (.int .i64 xs.length)
 | _=>none
def EE:Bool→AV→Option Bool
 | neg,.bl=>some (!neg)
 | neg,.sl _=>some neg
 | _,_=>none
def PV (mx:Bool):AV→AV→Option AV
 | .int k x,.int _ y=>some (.int k (if mx then (if y > x then y else x) else (if y < x then y else x)))
 | .float k x,.float k' y=>if k=k' then match k.format.order x y with
   | none=>if k=.f64 then some .d4 else none
   | some .lt=>some (.float k (if mx then y else x))
   | some .gt=>some (.float k (if mx then x else y))
   | some .eq=>some (.float k (if mx then (if (k.decode x).neg then y else x) else (if (k.decode x).neg then x else y)))
  else none
 | .d4,.float .f64 _=>some .d4
 | .float .f64 _,.d4=>some .d4
 | .d4,.d4=>some .d4
 | _,_=>none
def KD:AV→Nat→Option AV
 | .cQ vs,i=>vs[i]?
 | _,_=>none
def aB (cs:List AV) (off:Nat):Option Nat→Option AV
 | none=>cs[off]?
 | some n=>if off + n≤cs.length then some (.agg ((cs.drop off).take n)) else none
def bE:List AV→List (Nat × List AV)→List AV
 | cs,[]=>cs
 | cs,(off,ps) :: rest=>bE (cs.take off++ps++cs.drop (off + ps.length)) rest
def lk:Nat→List (Nat × SV)→Option SV
 | _,[]=>none
 | n,(m,v) :: r=>bif n == m then some v else lk n r
def cY:Nat→List (Nat × dU)→Option dU
 | _,[]=>none
 | n,(m,v) :: r=>bif n == m then some v else cY n r
def eA:Nat→List (Nat × Nat)→Option Nat
 | _,[]=>none
 | n,(m,v) :: r=>bif n == m then some v else eA n r
def rO:Nat→dU→List (Nat × dU)→List (Nat × dU)
 | _,_,[]=>[]
 | n,b,(m,v) :: r=>bif n == m then (m,b) :: r else (m,v) :: rO n b r
def rP:Nat→List (Nat × Nat)→List (Nat × Nat)
 | _,[]=>[]
 | n,(m,v) :: r=>bif n == m then rP n r else (m,v) :: rP n r
def S.put (s:S) (d:Option Nat) (v:SV):S :=
 match d with
 | none=>s
 | some d=>{ s with slots:=(d,v) :: s.slots }
def cZ (s:S):bW→Option SV
 | .t n=>lk n s.slots
 | .k v=>some (.dat v none)
def aI (s:S) (x:bW):Option AV :=
 match cZ s x with
 | some (.dat a _)=>some a
 | some (.rp cs)=>some (.ref cs)
 | _=>none
def dP (s:S):List bW→Option (List AV)
 | []=>some []
 | x :: r=>match aI s x,dP s r with
  | some a,some as=>some (a :: as)
  | _,_=>none
def an {α:Type} (o:Option α) (k:α→Prop):Prop :=
 match o with
 | some a=>k a
 | none=>False
@[simp] theorem aM {α:Type} (a:α) (k:α→Prop):an (some a) k=k a:=rfl
@[simp] theorem Qq {α:Type} (k:α→Prop):an none k=False:=rfl
def jh:AV→Option Nat→Bool
 | .cQ _,_=>false
 | .agg _,some _=>false
 | _,_=>true
def iS (s:S):List (Nat × Nat × bW)→Option (List (Nat × List AV))
 | []=>some []
 |(off,sz,x) :: r=>match aI s x,iS s r with
  | some a,some ps=>if a.cells.length=sz∧jh a none=true then some ((off,a.cells) :: ps) else none
  | _,_=>none
def mC (s:S) (z:Nat):List bW→Option (List (List AV))
 | []=>some []
 | x :: r=>match aI s x,mC s z r with
  | some a,some rows=>if a.cells.length=z∧jh a none=true then some (a.cells :: rows) else none
  | _,_=>none
def idxOf:AV→Option Int
 | .int _ i=>some i
 | _=>none
def setCells (cs:List AV) (off:Nat) (ps:List AV):List AV:=cs.take off++ps++cs.drop (off + ps.length)
def xE:Option AV→Option Int
 | some a=>idxOf a
 | none=>none
def zX (s:S):Option bW→Option Int
 | none=>some 0
 | some x=>xE (aI s x)
def zY (s:S) (xs:List (List AV)):Option bW→Option Int
 | none=>some xs.length
 | some x=>xE (aI s x)
def KE (a:AV) (xs:List (List AV)) (l h:Int):AV :=
 match a with
 | .bl=>.bl
 | _=>.sl ((xs.take h.toNat).drop l.toNat)
structure aZ where
 c:Nat→List AV→AV→Option Nat→Prop
 p:Nat→List (List AV)→List (Option AV)→AV→Option Nat→List (List AV)→Prop
 /-- what a function that is ranged xU yields,one after the other -/
 i:AV→List (List AV)→Prop
def fQ (s:S):List bW→Option (List (Option AV) × List Nat)
 | []=>some ([],[])
 | x :: r=>match cZ s x,fQ s r with
  | some (.dat a _),some (as,bs)=>some (some a :: as,bs)
  | some (.rp cs),some (as,bs)=>some (some (.ref cs) :: as,bs)
  | some (.ptr b 0),some (as,bs)=>some (none :: as,b :: bs)
  | _,_=>none
def bN (l:List (Nat × dU)):List Nat→Option (List (List AV))
 | []=>some []
 | b :: bs=>match cY b l,bN l bs with
  | some x,some css=>some (x.cells :: css)
  | _,_=>none
def dX (l:List (Nat × dU)):List Nat→Option (List (List AV))
 | []=>some []
 | b :: bs=>match cY b l,dX l bs with
  | some ⟨cs,[]⟩,some css=>some (cs :: css)
  | _,_=>none
def gU:List Nat→List (List AV)→List (Nat × dU)→List (Nat × dU)
 | b :: bs,cs :: css,l=>gU bs css (rO b ⟨cs,[]⟩ l)
 | _,_,l=>l
def rY (b:Nat) (cs:List AV):SV→SV
 | .ptr b' o=>bif b' == b then .rp (cs.drop o) else .ptr b' o
 | v=>v
def zZ (b:Nat) (cs:List AV):List (Nat × SV)→List (Nat × SV)
 | []=>[]
 |(t,v) :: r=>(t,rY b cs v) :: zZ b cs r
def uv:Nat→List (Nat × dU)→List (Nat × dU)
 | _,[]=>[]
 | n,(m,v) :: r=>bif n == m then uv n r else (m,v) :: uv n r
def gV:List Nat→List (List AV)→S→S
 | b :: bs,cs :: css,s=>gV bs css { s with slots:=zZ b cs s.slots,boxes:=uv b s.boxes }
 | _,_,s=>s
theorem Dp:∀ {ids:List Nat} {css:List (List AV)} {s:S},(gV ids css s).nx=s.nx
 | [],css,s=>rfl
 | b :: bs,[],s=>rfl
 | b :: bs,cs :: css,s=>by rw [gV,Dp]
def jC:List (Option AV)→List (List AV)→List AV
 | some a :: as,css=>a :: jC as css
 | none :: as,cs :: css=>.ref cs :: jC as css
 | _,_=>[]
def ko:List Nat→Bool
 | []=>true
 | b :: bs=>decide (4≤b) && ko bs
def fe:List Nat→Bool
 | []=>true
 | b :: bs=>!bs.contains b && fe bs
def rowsOf:AV→Option (List (List AV))
 | .bl=>some []
 | .sl xs=>some xs
 | _=>none
def bS (C:aZ) (id:Nat) (o:bV) (K:SV→S→Prop) (s:S):Prop :=
 match o with
 | .mv x=>an (cZ s x) fun v=>K v s
 | .pick c a b=>an (aI s c) fun
   | .bool t=>an (cZ s a) fun u=>an (cZ s b) fun v=>(t=true→K u s)∧(t=false→K v s)
   | _=>False
 | .alloc cs=>K (.ptr id 0) { s with boxes:=(id,⟨cs,[]⟩) :: s.boxes }
 | .box x=>an (aI s x) fun a=>jh a none=true∧K (.ptr id 0) { s with boxes:=(id,⟨a.cells,[]⟩) :: s.boxes }
 | .build zs parts=>an (iS s parts) fun ps=>K (.dat (.agg (bE zs ps)) none) s
 | .pL e z xs=>an (mC s z xs) fun rows=>K (.dat (.sl rows) (some id)) { s with live:=(id,e) :: s.live }
 | .ld x sz=>an (cZ s x) fun
   | .ptr b off=>an (cY b s.boxes) fun bx=>an (aB bx.cells off sz) fun a =>
     K (.dat a (match sz with | none=>eA off bx.tags | some _=>none)) s
   | .rp cs=>an (aB cs 0 sz) fun a=>K (.dat a none) s
   | _=>False
 | .st x v sz=>an (cZ s x) fun
   | .ptr b off=>an (cY b s.boxes) fun bx=>an (cZ s v) fun
     | .dat a q=>jh a q=true∧a.cells.length=sz∧off + sz≤bx.cells.length ∧
       K .undef { s with boxes:=rO b ⟨setCells bx.cells off a.cells,match q with | some q=>(off,q) :: bx.tags.filter (fun p=>p.1 < off || off + sz≤p.1) | none=>bx.tags.filter (fun p=>p.1 < off || off + sz≤p.1)⟩ s.boxes }
     | _=>False
   | _=>False
 | .fa x off=>an (cZ s x) fun
   | .ptr b o=>K (.ptr b (o + off)) s
   | .rp cs=>K (.rp (cs.drop off)) s
   | _=>False
 | .GN x i n z=>an (cZ s x) fun p=>an (aI s i) fun a=>an (idxOf a) fun i=>(0≤i∧i < n) ∧
   match p with
   | .ptr b o=>K (.ptr b (o + i.toNat * z)) s
   | .rp cs=>K (.rp (cs.drop (i.toNat * z))) s
   | _=>False
 | .Qm x i z=>an (aI s x) fun l=>an (aI s i) fun a=>an (idxOf a) fun i=>an (rowsOf l) fun xs=>(0≤i∧i < xs.length)∧an (xs[i.toNat]?) fun row=>row.length=z∧K (.rp row) s
 | .Dl x off sz=>an (aI s x) fun
   | .agg cs=>an (aB cs off sz) fun a=>K (.dat a none) s
   | _=>False
 | .Cx x i n z sz=>an (aI s x) fun
   | .agg cs=>an (aI s i) fun a=>an (idxOf a) fun i=>(0≤i∧i < n)∧an (aB cs (i.toNat * z) sz) fun a=>K (.dat a none) s
   | _=>False
 | .bin op x y=>an (aI s x) fun a=>an (aI s y) fun b=>an (dI op a b) fun v=>K (.dat v none) s
 | .eqc ks neg x y=>an (aI s x) fun
   | .agg as=>an (aI s y) fun
    | .agg bs=>an (cX ks as bs) fun e=>K (.dat (.bool (e != neg)) none) s
    | _=>False
   | _=>False
 | .bb neg x y=>an (aI s x) fun a=>an (aI s y) fun b=>an (Ta neg a b) fun v=>K (.dat v none) s
 | .un op x=>an (aI s x) fun a=>an (Qp op a) fun v=>K (.dat v none) s
 | .qm k x=>an (aI s x) fun a=>an (Cy k a) fun v=>K (.dat v none) s
 | .Cf k x=>an (aI s x) fun a=>an (zW k a) fun v=>K (.dat v none) s
 | .ED k x=>an (aI s x) fun a=>an (yF k a) fun v=>K (.dat v none) s
 | .Dm x=>an (cZ s x) fun v=>K v s
 | .Jd x=>an (aI s x) fun a=>an (zn a) fun v=>K (.dat v none) s
 | .KC n=>K (.dat (.int .i64 n) none) s
 | .app e z bytes x y=>an (cZ s x) fun
   | .dat a q=>an (rowsOf a) fun xs=>an (aI s y) fun b=>an (rowsOf b) fun ys =>
     (xs.length + ys.length) * bytes≤140737488355328∧(∀ r∈xs,r.length=z)∧(∀ r∈ys,r.length=z) ∧
     (match a,q with
      | .bl,_=>if ys=[] then K (.dat .bl none) s else K (.dat (.sl (xs++ys)) (some id)) { s with live:=(id,e) :: s.live }
      | .sl _,some q=>eA q s.live=some e∧K (.dat (.sl (xs++ys)) (some id)) { s with live:=(id,e) :: rP q s.live }
      | _,_=>False)
   | _=>False
 | .call f args=>an (dP s args) fun as=>∃ r fr,C.c f as r fr∧K (.dat r (fr.map fun _=>id)) { s with live:=match fr with | some e=>(id,e) :: s.live | none=>s.live }
 | .bT f args=>an (fQ s args) fun p=>fe p.2=true∧an (bN s.boxes p.2) fun css =>
   ∃ r fr css',C.p f css p.1 r fr css'∧K (.dat r (fr.map fun _=>id)) { s with boxes:=gU p.2 css' s.boxes,live:=match fr with | some e=>(id,e) :: s.live | none=>s.live }
 | .rD g args=>an (aI s g) fun
   | .fn (.func f) first caps=>an (dP s args) fun as=>∃ r fr,C.c f (first++as++caps) r fr∧K (.dat r (fr.map fun _=>id)) { s with live:=match fr with | some e=>(id,e) :: s.live | none=>s.live }
   | _=>False
 | .ext x i=>an (aI s x) fun a=>an (KD a i) fun v=>K (.dat v none) s
 | .rT fn first caps=>an (dP s first) fun as=>an (fQ s caps) fun p=>(fe p.2 && ko p.2)=true∧an (bN s.boxes p.2) fun css =>
   K (.dat (.fn fn as (jC p.1 css)) none) (gV p.2 css s)
 | .Qn z x lo hi=>an (aI s x) fun a=>an (rowsOf a) fun xs =>
   an (zX s lo) fun l=>an (zY s xs hi) fun h =>
   (0≤l∧l≤h∧h≤xs.length)∧(∀ r∈xs,r.length=z)∧K (.dat (KE a xs l h) none) s
 | .nc x=>an (cZ s x) fun
   | .ptr b o=>K (.ptr b o) s
   | .rp cs=>K (.rp cs) s
   | .dat (.fn (.func f) as bs) q=>K (.dat (.fn (.func f) as bs) q) s
   | .dat (.ref cs) _=>K (.rp cs) s
   | _=>False
 | .mm mx args=>an (dP s args) fun
   | []=>False
   | a :: r=>an (r.foldlM (PV mx) a) fun v=>K (.dat v none) s
 | .xt e x=>an (aI s x) fun a=>an (Tc e a) fun v=>K (.dat v none) s
 | .PU x n z=>an (cZ s x) fun
   | .rp cs=>n * z≤cs.length∧K (.dat (.sl (cU z n cs)) none) s
   | .ptr b off=>4≤b∧an (cY b s.boxes) fun bx=>n * z≤(bx.cells.drop off).length∧K (.dat (.sl (cU z n (bx.cells.drop off))) none) (gV [b] [bx.cells] s)
   | _=>False
 | .Qo neg x=>an (aI s x) fun a=>an (EE neg a) fun b=>K (.dat (.bool b) none) s
 | .gT g args=>an (aI s g) fun
   | .fn (.func f) [] []=>an (fQ s args) fun p=>fe p.2=true∧an (bN s.boxes p.2) fun css =>
     ∃ r fr css',C.p f css p.1 r fr css'∧K (.dat r (fr.map fun _=>id)) { s with boxes:=gU p.2 css' s.boxes,live:=match fr with | some e=>(id,e) :: s.live | none=>s.live }
   | _=>False
 | .zU f args=>an (fQ s args) fun p=>fe p.2=true∧an (dX s.boxes p.2) fun css =>
   ∃ r,C.p f css p.1 r none css∧K (.dat r none) s
 | .rU g args=>an (aI s g) fun
   | .fn (.func f) [] []=>an (fQ s args) fun p=>fe p.2=true∧an (dX s.boxes p.2) fun css =>
     ∃ r,C.p f css p.1 r none css∧K (.dat r none) s
   | _=>False
 | .S9 x n z hi=>an (cZ s x) fun
   | .ptr b off=>an (aI s hi) fun a=>an (idxOf a) fun h=>(0≤h∧h≤n)∧K (.vs b off h.toNat z) s
   | _=>False
 | .Cg e z bytes y x=>an (cZ s y) fun
   | .vs b off n z'=>an (cZ s x) fun
     | .ptr b' _=>(b'=b∧z'=z)∧an (cY b s.boxes) fun bx=>(n * z≤(bx.cells.drop off).length∧n * bytes≤140737488355328) ∧
       (if n=0 then K (.dat .bl none) s else K (.dat (.sl (cU z n (bx.cells.drop off))) (some id)) { s with live:=(id,e) :: s.live })
     | _=>False
   | _=>False
 | .Tz x i=>an (aI s x) fun
   | .str b=>an (aI s i) fun a=>an (idxOf a) fun j=>an (HT b j) fun v=>K (.dat v none) s
   | _=>False
def lG (s:S) (g:Option (Nat × Bool)) (yes no:Prop):Prop :=
 match g with
 | none=>yes
 | some (t,want)=>match lk t s.slots with
  | some (.dat (.bool b) _)=>(b=want→yes)∧(b=!want→no)
  | some .undef=>no
  | _=>False
def jD (C:aZ) (base:Nat):Nat→List CO→(S→Prop)→S→Prop
 | _,[],K,s=>K s
 | i,o :: r,K,s=>lG s o.g
   (bS C (base + i) o.op (fun v s'=>jD C base (i + 1) r K (s'.put o.dst v)) s)
   (jD C base (i + 1) r K (s.put o.dst .undef))
def k6 (k:S→Prop) (Q:Exit→S→Prop):Exit→S→Prop
 | .normal,s=>k s
 | e,s=>Q e s
def gz (id:Nat) (Q:Exit→S→Prop):Exit→S→Prop
 | .exit id',s=>if id'=id then Q .normal s else Q (.exit id') s
 | e,s=>Q e s
def Ew (m:List (Nat × Nat)) (q:Nat):Nat:=(eA q m).getD q
def Cj (m:List (Nat × Nat)) (nx:Nat):SV→SV→Prop
 | .dat a _,.dat a' none=>a=a'
 | .dat a (some q),.dat a' (some q')=>a=a'∧q=Ew m q'∧q' < nx
 | .ptr b o,.ptr b' o'=>b=b'∧o=o'∧b' < nx
 | .rp cs,.rp cs'=>cs=cs'
 | .undef,.undef=>True
 | _,_=>False
def f9 (m:List (Nat × Nat)) (nx:Nat) (a:List (Nat × SV)):List (Nat × SV)→Prop
 | []=>True
 |(t,v) :: r=>an (lk t a) (fun u=>Cj m nx u v)∧f9 m nx a r
def lH (m:List (Nat × Nat)) (nx:Nat) (a:List (Nat × Nat)):List (Nat × Nat)→Prop
 | []=>True
 |(o,q) :: r=>(eA o a=some (Ew m q)∧q < nx)∧lH m nx a r
def iF (m:List (Nat × Nat)) (nx:Nat) (a:List (Nat × dU)):List (Nat × dU)→Prop
 | []=>True
 |(b,x) :: r=>an (cY b a) (fun y=>y.cells=x.cells∧lH m nx y.tags x.tags∧b < nx)∧iF m nx a r
def ji (m:List (Nat × Nat)) (nx:Nat) (a:List (Nat × Nat)):List (Nat × Nat)→Prop
 | []=>True
 |(q,e) :: r=>(eA (Ew m q) a=some e∧q < nx)∧ji m nx a r
def cg (m:List (Nat × Nat)) (l:List (Nat × Nat)):Prop:=((l.map fun p=>Ew m p.1).Nodup)
def Le (s s1:S):Prop :=
 4≤s1.nx∧∃ m,f9 m s1.nx s.slots s1.slots∧iF m s1.nx s.boxes s1.boxes∧ji m s1.nx s.live s1.live∧cg m s1.live
def down (F:S→Prop) (s:S):Prop:=∃ s1,Le s s1∧F s1∨F s
theorem gw {F:S→Prop} {s:S} (h:F s):down F s:=⟨s,.inr h⟩
def og (F:(Exit→S→Prop)→S→Prop) (Q:Exit→S→Prop):Nat→S→Prop
 | 0,_=>False
 | n + 1,s=>F (k6 (down (og F Q n)) Q) s
def bW.rd:bW→List Nat
 | .t n=>[n]
 | .k _=>[]
def HU:Option bW→List Nat
 | some x=>x.rd
 | none=>[]
def bg:List bW→List Nat
 | []=>[]
 | x :: r=>x.rd++bg r
def vH:List (Nat × Nat × bW)→List Nat
 | []=>[]
 |(_,_,x) :: r=>x.rd++vH r
def bV.rd:bV→List Nat
 | .mv x=>x.rd
 | .pick c a b=>c.rd++a.rd++b.rd
 | .alloc _=>[]
 | .box x=>x.rd
 | .build _ ps=>vH ps
 | .pL _ _ xs=>bg xs
 | .ld x _=>x.rd
 | .st x v _=>x.rd++v.rd
 | .fa x _=>x.rd
 | .GN x i _ _=>x.rd++i.rd
 | .Qm x i _=>x.rd++i.rd
 | .Dl x _ _=>x.rd
 | .Cx x i _ _ _=>x.rd++i.rd
 | .bin _ x y=>x.rd++y.rd
 | .eqc _ _ x y=>x.rd++y.rd
 | .bb _ x y=>x.rd++y.rd
 | .un _ x=>x.rd
 | .qm _ x=>x.rd
 | .Cf _ x=>x.rd
 | .ED _ x=>x.rd
 | .Dm x=>x.rd
 | .Jd x=>x.rd
 | .KC _=>[]
 | .app _ _ _ x y=>x.rd++y.rd
 | .call _ args=>bg args
 | .bT _ args=>bg args
 | .rD g args=>g.rd++bg args
 | .ext x _=>x.rd
 | .rT _ a b=>bg a++bg b
 | .Qn _ x lo hi=>x.rd++HU lo++HU hi
 | .nc x=>x.rd
 | .mm _ args=>bg args
 | .xt _ x=>x.rd
 | .PU x _ _=>x.rd
 | .Tz x i=>x.rd++i.rd
 | .Qo _ x=>x.rd
 | .gT g args=>g.rd++bg args
 | .zU _ args=>bg args
 | .rU g args=>g.rd++bg args
 | .S9 x _ _ hi=>x.rd++hi.rd
 | .Cg _ _ _ y x=>y.rd++x.rd
def bV.isApp:bV→Bool
 | .app ..=>true
 | _=>false
def bV.uK:bV→List Nat
 | .ld x _=>x.rd
 | .st x _ _=>x.rd
 | .bT _ args=>bg args
 | .gT _ args=>bg args
 | .zU _ args=>bg args
 | .rU _ args=>bg args
 | .rT _ _ b=>bg b
 | .PU x _ _=>x.rd
 | .Cg _ _ _ _ x=>x.rd
 | _=>[]
def bV.HV:bV→List Nat
 | .st x _ _=>x.rd
 | .bT _ args=>bg args
 | .gT _ args=>bg args
 | .rT _ _ b=>bg b
 | .PU x _ _=>x.rd
 | _=>[]
def bV.yG:bV→Bool
 | .rT _ _ b=>!b.isEmpty
 | .PU ..=>true
 | _=>false
def bV.rZ:bV→List Nat
 | .mv x | .fa x _ | .GN x _ _ _ | .nc x | .Dm x=>x.rd
 | .pick _ a b=>a.rd++b.rd
 | _=>[]
def bV.KG:bV→Bool
 | .alloc _ | .box _=>true
 | _=>false
def bV.ro:bV→bV
 | .bT f args=>.zU f args
 | .gT g args=>.rU g args
 | o=>o
def CO.ro (o:CO):CO:=⟨o.dst,o.op.ro,o.g⟩
def oa (ro:List Nat):Nat→List CO→List CO
 | _,[]=>[]
 | i,o :: r=>(bif ro.contains i then o.ro else o) :: oa ro (i + 1) r
theorem vI:∀ {i:Nat} {l:List CO},oa [] i l=l
 | _,[]=>rfl
 | i,o :: l=>by show o :: oa [] (i + 1) l=_; rw [vI]
def CO.rd (o:CO):List Nat:=o.op.rd++(match o.g with | some (t,_)=>[t] | none=>[])
abbrev Tag:=Option (Option Nat)
def Tag.z0:Tag→Nat→Bool
 | none,_=>true
 | some z,b=>z == some b
def Tag.Wj:Tag→Tag→Bool
 | some none,_=>true
 | _,some none=>true
 | some (some a),some (some b)=>a != b
 | _,_=>false
def look:List (Nat × Tag)→Nat→Tag
 | [],_=>none
 |(t,z) :: r,n=>bif n == t then z else look r n
def CO.indep (x y:CO):Bool :=
 (match x.dst with | some d=>!y.rd.contains d && y.dst != some d | none=>true) &&
 (match y.dst with | some d=>!x.rd.contains d | none=>true) && !(x.op.isApp && y.op.isApp)
def CO.half (T:List (Nat × Tag)) (x y:CO):Bool :=
 x.op.HV.all fun t=>y.op.uK.all (fun u=>(look T t).Wj (look T u)) && (!x.op.yG || y.rd.all fun u=>(look T t).Wj (look T u))
def CO.sg (T:List (Nat × Tag)) (x y:CO):Bool:=x.indep y && x.half T y && y.half T x
def CO.apart (x y:CO):Bool:=x.sg [] y
def PW (T:List (Nat × Tag)):List Nat→Tag
 | []=>some none
 | [t]=>look T t
 | t :: r=>if look T t == PW T r then look T t else none
def PX (T:List (Nat × Tag)) (base:Nat):Nat→List CO→List (Nat × Tag)
 | _,[]=>T
 | i,o :: r=>PX (match o.dst with | some t=>(t,if o.op.KG then some (some (base + i)) else PW T o.op.rZ) :: T | none=>T) base (i + 1) r
def GO:List (Nat × SV)→List (Nat × Tag)
 | []=>[]
 |(t,.ptr b _) :: r=>(t,some (some b)) :: GO r
 |(t,_) :: r=>(t,some none) :: GO r
def tP (T:List (Nat × Tag)):List (Nat × SV)→Bool
 | []=>true
 |(t,.ptr b _) :: r=>(look T t).z0 b && tP T r
 |(_,_) :: r=>tP T r
def si (T:List (Nat × Tag)) (id:Nat) (o:CO):Bool :=
 match o.dst with
 | none=>true
 | some t=>match look T t with
  | none=>true
  | some z=>if o.op.KG then z == some id else o.op.rZ.all fun u=>match look T u with | some z'=>z' == none || z' == z | none=>false
def mI (T:List (Nat × Tag)) (base:Nat):Nat→List CO→Bool
 | _,[]=>true
 | i,o :: r=>si T (base + i) o && mI T base (i + 1) r
def yH (T:List (Nat × Tag)) (ops:List CO):List (Nat × Nat)→Bool
 | []=>true
 |(i,j) :: r=>(match ops[i]?,ops[j]? with | some x,some y=>x.sg T y | _,_=>false) && yH T ops r
def TA (T:List (Nat × Tag)) (ops:List CO) (dF:List (Nat × Nat)) (base:Nat) (sl:List (Nat × SV)):Bool:=tP T sl && mI T base 0 ops && yH T ops dF
def Cz (ops:List CO) (dF:List (Nat × Nat)) (base:Nat) (sl:List (Nat × SV)):Bool:=TA (PX (GO sl) base 0 ops) ops dF base sl
def pM:List Nat→List AV→S→S
 | p :: ps,x :: xs,s=>pM ps xs (s.put (some p) (.dat x none))
 | _,_,s=>s
def Ck (wr:List Nat):List (Nat × SV)→List (Nat × SV)
 | []=>[]
 |(t,v) :: r=>bif wr.contains t then Ck wr r else (t,v) :: Ck wr r
def z5 (wr:List Nat) (s:S):S:={ s with slots:=Ck wr s.slots }
def GK (wr:List Nat) (F:S→Prop) (Q:Exit→S→Prop):Exit→S→Prop
 | .normal,s=>down F (z5 wr s)
 | .ret,s=>Q .ret (z5 wr s)
 | .exit id,s=>Q (.exit id) (z5 wr s)
 | _,_=>False
def vJ (K:S→Prop):Exit→S→Prop
 | .normal,s=>K s
 | _,_=>False
def oH (l:Nat) (K:S→Prop) (Q:Exit→S→Prop):Exit→S→Prop
 | .goto l',s=>l'=l∧K s
 | e,s=>Q e s
def z6 (Q:Exit→S→Prop):Exit→S→Prop
 | .goto _,_=>False
 | e,s=>Q e s
def Qr (C:aZ) (ops:List CO) (dF:List (Nat × Nat)) (K:S→Prop) (s:S):Prop :=
 ∃ ro,Cz (oa ro 0 ops) dF s.nx s.slots=true∧jD C s.nx 0 (oa ro 0 ops) K s
def aw (C:aZ):br→(Exit→S→Prop)→S→Prop
 | .skip,Q,s=>Q .normal s
 | .Nj ops,Q,s=>jD C s.nx 0 ops (fun s'=>Q .normal { s' with nx:=s.nx + ops.length }) s
 | .seq a b,Q,s=>aw C a (k6 (aw C b Q) Q) s
 | .join a b,Q,s=>aw C a (k6 (down (aw C b Q)) Q) s
 | .cond c a b,Q,s=>an (aI s c) fun
   | .bool t=>(t=true→aw C a Q s)∧(t=false→aw C b Q s)
   | _=>False
 | .block id c,Q,s=>aw C c (gz id Q) s
 | .loop c,Q,s=>down (fun s=>∃ n,og (aw C c) Q n s) s
 | .exit id,Q,s=>Q (.exit id) s
 | .ret,Q,s=>Q .ret s
 | .scope l c r,Q,s=>aw C c (oH l (aw C r (z6 Q)) Q) s
 | .label _,Q,s=>Q .normal s
 | .goto l,Q,s=>Q (.goto l) s
 | .lF ops dF,Q,s=>∃ ids,(fe ids && ko ids)=true∧an (bN s.boxes ids) fun css=>Qr C ops dF (fun s'=>Q .normal { s' with nx:=s.nx + ops.length }) (gV ids css s)
 | .mW g ps wr as bd,Q,s=>an (aI s g) fun gv=>∃ xs,C.i gv xs∧(∀ x∈xs,x.length=ps.length)∧∃ F:Nat→S→Prop,down (F 0) s∧(∀ i s',F i s'→aI s' g=some gv) ∧
   (∀ i x s',xs[i]? = some x→F i s'→aw C as (vJ (aw C bd (GK wr (F (i + 1)) Q))) (pM ps x s'))∧∀ s',F xs.length s'→Q .normal s'
end Go.Eng
namespace Go.Eng
open Go
def ga (P:Program) (t:TypeId):Option Nat:=(P.info? t).map (·.size)
def ob (P:Program) (t:TypeId):Bool :=
 match P.underlying t with
 | some (.struct _) | some (.array _ _)=>true
 | _=>false
def zo (P:Program) (t:TypeId):Option (Option Nat) :=
 match P.underlying t with
 | some (.struct _) | some (.array _ _)=>(ga P t).map some
 | some _=>some none
 | none=>none
def zeroOf (P:Program) (t:TypeId):Option (List AV) :=
 match (P.info? t).bind (·.zero) with
 | some z=>z.cells.toList.mapM Je
 | none=>none
def dJ:Operand→Option bW
 | .tmp t=>some (.t t)
 | .const v=>(WE v).map .k
 | .func f=>some (.k (.fn (.func f) [] []))
 | .global _=>none
def oh (l:Array Operand):Option (List bW):=l.toList.mapM dJ
def vK (P:Program) (s:TypeId) (f:Nat):Option Field :=
 match P.underlying s with
 | some (.struct fs)=>fs[f]?
 | _=>none
def EF (P:Program) (rec:TypeId→Option (List CK)):List Field→Nat→Option (List CK)
 | [],_=>some []
 | f :: fs,off =>
  if f.name = "_" ∨ f.offset ≠ off then none else
  match rec f.type with
  | some ks=>if ga P f.type=some ks.length∧0 < ks.length then (EF P rec fs (off + ks.length)).map (ks++·) else none
  | none=>none
def mX (P:Program):Nat→TypeId→Option (List CK)
 | 0,_=>none
 | d + 1,t=>match P.underlying t with
  | some .bool=>some [.b]
  | some (.int _)=>some [.i]
  | some (.float _)=>some [.f]
  | some .string=>some [.s]
  | some (.struct fs)=>if P.stoodInHeld t then none else EF P (mX P d) fs.toList 0
  | some (.array n e)=>match mX P d e with
   | some ks=>if ga P e=some ks.length then some (List.replicate n ks).flatten else none
   | none=>none
  | _=>none
def Wk (P:Program) (t:TypeId) (neg:Bool) (x y:bW):Option bV :=
 match mX P 20 t with
 | some ks=>if ob P t && !P.eqGuardType P.depth t then some (.eqc ks neg x y) else none
 | none=>none
def HW (P:Program) (t:TypeId):Bool :=
 match P.underlying t with
 | some (.int _) | some (.float _)=>true
 | _=>false
def KH (P:Program) (t:TypeId):Bool :=
 match P.underlying t with
 | some .bool=>true
 | _=>false
def gp (P:Program) (f:FuncId):Bool :=
 match P.funcs[f]? with
 | some fn => fn.name != "runtime.NumGoroutine" && fn.body.isSome
 | none=>false
def HX (P:Program) (t:TypeId) (i:Nat):Option (Nat × Nat) :=
 match P.underlying t with
 | some (.struct fs)=>match fs[i]? with
  | some f=>(ga P f.type).map fun z=>(f.offset,z)
  | none=>none
 | some (.array _ e)=>(ga P e).map fun z=>(i * z,z)
 | _=>none
def xF (P:Program) (t:TypeId):List (Nat × Operand)→Option (List (Nat × Nat × bW))
 | []=>some []
 |(i,x) :: r=>match HX P t i,dJ x,xF P t r with
  | some (o,z),some x,some ps=>some ((o,z,x) :: ps)
  | _,_,_=>none
def sliceB (P:Program) (t:TypeId):Bool:=match P.underlying t with | some (.slice _)=>true | _=>false
def Dq (P:Program) (t:TypeId):Bool :=
 match P.underlying t with
 | some (.struct fs)=>fs.toList.all fun f=>(ga P f.type).isSome
 | some (.array _ e)=>(ga P e).isSome
 | _=>false
def sj (zs:Nat):List (Nat × Nat × bW)→Bool
 | []=>true
 |(o,z,_) :: r=>decide (o + z≤zs) && sj zs r
def cOpt:Option Operand→Option (Option bW)
 | none=>some none
 | some x=>(dJ x).map some
def HY (P:Program) (s d:TypeId) (x:bW):Option bV :=
 match P.underlying s,P.underlying d with
 | some (.int _),some (.int k)=>some (.qm k x)
 | some (.int _),some (.float k)=>some (.Cf k x)
 | some (.float _),some (.int k)=>some (.ED k x)
 | _,_=>none
def GP (P:Program):List TypeId→Bool
 | []=>false
 | t :: r=>(match P.underlying t with | some (.pointer _)=>true | _=>false) || GP P r
def Qs (P:Program) (f:FuncId):Option Xt :=
 match P.funcs[f]? with
 | some fn=>if fn.body.isNone && (Extern.findNext fn).isNone then
   if fn.name == "math.Float64bits" then some .EC
   else if fn.name == "math.Float64frombits" then some .ffrom
   else if fn.name == "math.RoundToEven" then some .rte
   else none
  else none
 | none=>none
def PY (P:Program) (c:Call):Option bV :=
 match c.callee with
 | .value (.func f)=>if gp P f then (oh c.args).map (if GP P c.argTypes.toList then .bT f else .call f)
  else match Qs P f,c.args.toList with
   | some e,[x]=>(dJ x).map (.xt e)
   | _,_=>none
 | .value g=>match dJ g,oh c.args with
  | some g,some as=>some (if GP P c.argTypes.toList then .gT g as else .rD g as)
  | _,_=>none
 | .builtin .len=>match c.argTypes[0]?,c.args[0]? with
  | some t,some x=>match P.underlying t with
   | some (.slice _)=>(dJ x).map .Jd
   | some (.array n _)=>some (.KC n)
   | _=>none
  | _,_=>none
 | .builtin .append=>match c.argTypes.toList,c.args.toList with
  | [t,t'],[x,y]=>if t=t' then match P.underlying t,dJ x,dJ y with
    | some (.slice e),some x,some y=>match P.info? e with
     | some i=>match i.zero with
      | some z=>if 0 < i.size && z.cells.size == i.size && 0 < i.bytes then some (.app e i.size i.bytes x y) else none
      | none=>none
     | none=>none
    | _,_,_=>none
   else none
  | _,_=>none
 | .builtin .max=>(oh c.args).map (.mm true)
 | .builtin .min=>(oh c.args).map (.mm false)
 | _=>none
def Wl (P:Program):Op→Option bV
 | .move x | .assign x=>(dJ x).map .mv
 | .pick c a b=>match dJ c,dJ a,dJ b with
  | some c,some a,some b=>some (.pick c a b)
  | _,_,_=>none
 | .alloc t=>(zeroOf P t).map .alloc
 | .box _ x=>(dJ x).map .box
 | .build t ps=>match zeroOf P t,xF P t ps.toList with
  | some zs,some ps=>if sj zs.length ps && Dq P t then some (.build zs ps) else none
  | _,_=>none
 | .buildSlice t n ps=>match P.underlying t with
  | some (.slice e)=>match zeroOf P e,ga P e,ps.toList.mapM (fun p=>dJ p.2) with
   | some zs,some z,some xs=>if n * z≤16777216 && 0 < z && zs.length == z && ps.toList.map (·.1) == List.range n then some (.pL e z xs) else none
   | _,_,_=>none
  | _=>none
 | .load t x=>match zo P t,dJ x with
  | some r,some x=>some (.ld x r)
  | _,_=>none
 | .store t x v=>match ga P t,dJ x,dJ v with
  | some z,some x,some v=>some (.st x v z)
  | _,_,_=>none
 | .nilCheck x=>(dJ x).map .nc
 | .binOp op t x y _=>match dJ x,dJ y with
  | some x,some y =>
   if HW P t then some (.bin op x y)
   else if KH P t then (match op with | .eql=>some (.bb false x y) | .neq=>some (.bb true x y) | _=>none)
   else if sliceB P t then (match op,y with | .eql,.k .bl=>some (.Qo false x) | .neq,.k .bl=>some (.Qo true x) | _,_=>none)
   else match op with
    | .eql=>Wk P t false x y
    | .neq=>Wk P t true x y
    | _=>none
  | _,_=>none
 | .unOp op _ x=>(dJ x).map (.un op)
 | .convert s d x=>(dJ x).bind (HY P s d)
 | .fieldAddr s x f=>match vK P s f,dJ x with
  | some fd,some x=>if ga P fd.type == some 0 || (ga P fd.type).isNone then none else some (.fa x fd.offset)
  | _,_=>none
 | .field s x f=>match vK P s f,dJ x with
  | some fd,some x=>(zo P fd.type).map (.Dl x fd.offset)
  | _,_=>none
 | .indexAddr t x i=>match P.underlying t,dJ x,dJ i with
  | some (.array n e),some x,some i=>(ga P e).map (.GN x i n)
  | some (.slice e),some x,some i=>(ga P e).map (.Qm x i)
  | _,_,_=>none
 | .index t x i=>match P.underlying t,dJ x,dJ i with
  | some (.array n e),some x,some i=>match ga P e,zo P e with
   | some z,some r=>some (.Cx x i n z r)
   | _,_=>none
  | some .string,some x,some i=>some (.Tz x i)
  | _,_,_=>none
 | .extract x i=>(dJ x).map (.ext · i)
 | .makeFunc (.func f) a b=>match oh a,oh b with
  | some a,some b=>if gp P f then some (.rT (.func f) a b) else none
  | _,_=>none
 | .slice t x lo hi none=>match P.underlying t,dJ x,cOpt lo,cOpt hi with
  | some (.slice e),some x,some lo,some hi=>(ga P e).map fun z=>.Qn z x lo hi
  | some (.array n e),some x,some none,some none=>(ga P e).map fun z=>.PU x n z
  | some (.array n e),some x,some none,some (some hi)=>(ga P e).map fun z=>.S9 x n z hi
  | _,_,_,_=>none
 | .call c=>PY P c
 | _=>none
def TB (P:Program) (ops:List Oper) (y:Nat):Option Operand :=
 match ops.find? (fun o=>o.dst == some y) with
 | some o=>match o.op with
  | .slice t x none (some _) none=>match P.underlying t with
   | some (.array _ _)=>some x
   | _=>none
  | _=>none
 | none=>none
def Dr (P:Program) (ops:List Oper):Op→Option bV
 | .call c=>match c.callee,c.argTypes.toList,c.args.toList with
  | .builtin .append,[t,t'],[.const (.slice none 0 0),.tmp y]=>if t=t' then match P.underlying t,(TB P ops y).bind dJ with
    | some (.slice e),some x=>match P.info? e with
     | some i=>match i.zero with
      | some z=>if 0 < i.size && z.cells.size == i.size && 0 < i.bytes then some (.Cg e i.size i.bytes (.t y) x) else none
      | none=>none
     | none=>none
    | _,_=>none
   else none
  | _,_,_=>none
 | _=>none
def Qt (P:Program) (ops:List Oper) (o:Op):Option bV :=
 match Dr P ops o with
 | some c=>some c
 | none=>Wl P o
def GQ (ops:Array Oper):Option (Nat × Bool)→Option (Option (Nat × Bool))
 | none=>some none
 | some (j,w)=>match (ops[j]?).bind (·.dst) with
  | some t=>some (some (t,w))
  | none=>none
def yI (P:Program) (ops:Array Oper) (o:Oper):Option CO :=
 match Qt P ops.toList o.op,GQ ops o.guard with
 | some c,some g=>some ⟨o.dst,c,g⟩
 | _,_=>none
def xG (P:Program) (ops:Array Oper):List Oper→Option (List CO)
 | []=>some []
 | o :: r=>match yI P ops o,xG P ops r with
  | some c,some cs=>some (c :: cs)
  | _,_=>none
def waits (ops:List Oper) (i:Nat) (oj:Oper):Bool :=
 oj.after.any fun e=>Region.binds .any e && (e.on == i || match ops[e.on]? with
  | some ok=>ok.after.any fun e'=>Region.binds .any e' && e'.on == i
  | none=>false)
def om (dF:List (Nat × Nat)) (ops:List Oper) (i:Nat) (x:CO):Nat→List Oper→List CO→Bool
 | j,oj :: os,y :: ys=>(decide (j≤i) || oj.after.any (fun e=>Region.binds .any e && e.on == i) || x.apart y || waits ops i oj || dF.contains (i,j)) && om dF ops i x (j + 1) os ys
 | _,_,_=>true
def mY (dF:List (Nat × Nat)) (ops:List Oper) (cos:List CO):Nat→List Oper→List CO→Bool
 | i,oi :: os,x :: xs=>oi.after.all (fun e=>!Region.binds .any e || decide (e.on < i)) && om dF ops i x 0 ops cos && mY dF ops cos (i + 1) os xs
 | _,_,_=>true
def sn (dF:List (Nat × Nat)) (ops:List Oper) (cos:List CO):Bool:=mY dF ops cos 0 ops cos
def KI (ops:List Oper) (i:Nat) (x:CO):Nat→List Oper→List CO→List (Nat × Nat)
 | j,oj :: os,y :: ys=>(if decide (j≤i) || oj.after.any (fun e=>Region.binds .any e && e.on == i) || x.apart y || waits ops i oj then [] else [(i,j)])++KI ops i x (j + 1) os ys
 | _,_,_=>[]
def HZ (ops:List Oper) (cos:List CO):Nat→List CO→List (Nat × Nat)
 | i,x :: xs=>KI ops i x 0 ops cos++HZ ops cos (i + 1) xs
 | _,[]=>[]
def H6 (cos:List CO):List (Nat × Nat)→Bool
 | []=>true
 |(i,j) :: r=>(match cos[i]?,cos[j]? with | some x,some y=>x.indep y | _,_=>false) && H6 cos r
def TC:Code→Bool
 | .region ..=>true
 | .skip=>true
 | _=>false
def dstsOf:List CO→List Nat
 | []=>[]
 | o :: r=>(match o.dst with | some d=>[d] | none=>[])++dstsOf r
def br.writes:br→List Nat
 | .Nj ops=>dstsOf ops
 | .lF ops _=>dstsOf ops
 | .seq a b | .join a b | .cond _ a b=>a.writes++b.writes
 | .block _ c | .loop c=>c.writes
 | .mW _ _ wr _ _=>wr
 | .scope _ c r=>c.writes++r.writes
 | _=>[]
def br.after (l:Nat):br→Option br
 | .seq a b | .join a b=>match a.after l with
  | some r=>some (.join r b)
  | none=>b.after l
 | .label l'=>if l' == l then some .skip else none
 | _=>none
def br.labels:br→List Nat
 | .seq a b | .join a b=>a.labels++b.labels
 | .label l=>[l]
 | _=>[]
def ez (P:Program):Code→Option br
 | .skip=>some .skip
 | .region _ ops pQ=>match xG P ops ops.toList with
  | some cos=>if pQ then
    match HZ ops.toList cos 0 cos with
    | []=>if sn [] ops.toList cos then some (.Nj cos) else none
    | dF=>if sn dF ops.toList cos && H6 cos dF then some (.lF cos dF) else none
   else some (.Nj cos)
  | none=>none
 | .seq a b=>match ez P a,ez P b with
  | some x,some y=>some (if TC a then .seq x y else .join x y)
  | _,_=>none
 | .cond c a b=>match dJ c,ez P a,ez P b with
  | some c,some a,some b=>some (.cond c a b)
  | _,_,_=>none
 | .block id c=>(ez P c).map (.block id)
 | .loop c=>(ez P c).map .loop
 | .exit id=>some (.exit id)
 | .ret=>some .ret
 | .label l=>some (.label l)
 | .goto l=>some (.goto l)
 | .scope c=>match ez P c with
  | some c=>match c.labels with
   | [l]=>(c.after l).map (.scope l c)
   | _=>none
  | none=>none
 | .rangeFunc g ps as bd=>match dJ g,ez P as,ez P bd with
  | some g,some a,some b =>
   let wr:=ps.toList++a.writes++b.writes
   if g.rd.all (fun t=>!wr.contains t) then some (.mW g ps.toList wr a b) else none
  | _,_,_=>none
 | _=>none
def jE (n:Nat):List CO→Bool
 | []=>true
 | o :: r=>(match o.dst with | some d=>decide (d < n) | none=>true) && jE n r
def br.fits (n:Nat):br→Bool
 | .Nj ops=>jE n ops
 | .lF ops _=>jE n ops
 | .seq a b | .join a b | .cond _ a b=>a.fits n && b.fits n
 | .block _ c | .loop c=>c.fits n
 | .scope _ c r=>c.fits n && r.fits n
 | .mW _ ps wr a b=>ps.all (fun t=>decide (t < n)) && a.fits n && b.fits n && ps.all (fun t=>wr.contains t) && a.writes.all (fun t=>wr.contains t) && b.writes.all (fun t=>wr.contains t)
 | _=>true
inductive oI where
 | tmp (t:Nat)
 | cell (t:Nat) (sz:Option Nat)
 deriving Inhabited
def Jf (P:Program):ResultVar→Option oI
 | .tmp t=>some (.tmp t)
 | .cell a t=>(zo P t).map (.cell a)
structure bF where
 nt:Nat
 res:List oI
 code:br
def aE (P:Program) (f:FuncId):Option bF :=
 match P.funcs[f]? with
 | some fn=>match fn.body,fn.results.toList.mapM (Jf P) with
  | some c,some rs=>match ez P c with
   | some cc=>if cc.fits fn.ntmps && gp P f then some ⟨fn.ntmps,rs,cc⟩ else none
   | none=>none
  | _,_=>none
 | none=>none
end Go.Eng
namespace Go.Eng
open Go
open Go.RowKit (Below)
inductive DV (w:World) (π:Nat→Nat→Prop):AV→Value→Prop
 | bool (b:Bool):DV w π (.bool b) (.bool b)
 | int (k:IntKind) (n:Int):DV w π (.int k n) (.int k n)
 | float (k:FloatKind) (n:Nat):DV w π (.float k n) (.float k n)
 | str (s:ByteArray):DV w π (.str s) (.string s)
 | Ce:DV w π .Ce (.pointer none)
 | bl:DV w π .bl (.slice none 0 0)
 | dZ:DV w π .dZ .nilFunc
 | Cw:DV w π .Cw .nilIface
 | d4 (n:Nat):Ci n=true→DV w π .d4 (.float .f64 n)
 | iface (t:Nat) (a:AV) (v:Value):DV w π a v→DV w π (.iface t a) (.iface t v)
 | agg (as:List AV) (vs:Array Value):as.length=vs.size→(∀ a∈as,a.scalar=true)→(∀ (i:Nat) (a:AV) (v:Value),as[i]? = some a→vs[i]? = some v→DV w π a v)→DV w π (.agg as) (.agg vs)
 | cQ (as:List AV) (vs:Array Value):as.length=vs.size→(∀ (i:Nat) (a:AV) (v:Value),as[i]? = some a→vs[i]? = some v→DV w π a v)→DV w π (.cQ as) (.tuple vs)
 | fn (f:Fn) (as:List AV) (vs:Array Value) (bs:List AV) (us:Array Value):as.length=vs.size→bs.length=us.size →
   (∀ (i:Nat) (a:AV) (v:Value),as[i]? = some a→vs[i]? = some v→DV w π a v)→(∀ (i:Nat) (a:AV) (v:Value),bs[i]? = some a→us[i]? = some v→DV w π a v)→DV w π (.fn f as bs) (.func f vs us)
 | sl (xs:List (List AV)) (B off cap z:Nat) (f:Nat→Nat→Value):xs.length≤cap→(∀ (i:Nat) (r:List AV),xs[i]? = some r→r.length=z) →
   (∀ (i j:Nat) (r:List AV) (a:AV),xs[i]? = some r→r[j]? = some a→a.scalar=true) →
   (∀ (i j:Nat) (r:List AV) (a:AV),xs[i]? = some r→r[j]? = some a→π B (off + i * z + j)) →
   (∀ (i j:Nat) (r:List AV) (a:AV),xs[i]? = some r→r[j]? = some a→w.cell? ⟨B,off + i * z + j,none⟩=some (f i j)) →
   (∀ (i j:Nat) (r:List AV) (a:AV),xs[i]? = some r→r[j]? = some a→DV w π a (f i j))→DV w π (.sl xs) (.slice (some ⟨B,off,none⟩) xs.length cap)
 | KJ (A:Addr):DV w π (.sl []) (.slice (some A) 0 0)
 | ref (cs:List AV) (B off:Nat) (f:Nat→Value):(∀ (j:Nat) (a:AV),cs[j]? = some a→a.scalar=true)→(∀ (j:Nat) (a:AV),cs[j]? = some a→π B (off + j)) →
   (∀ (j:Nat) (a:AV),cs[j]? = some a→w.cell? ⟨B,off + j,none⟩=some (f j))→(∀ (j:Nat) (a:AV),cs[j]? = some a→DV w π a (f j))→DV w π (.ref cs) (.pointer (some ⟨B,off,none⟩))
theorem DV.mono {w w':World} {π π':Nat→Nat→Prop} (hp:∀ b o,π b o→π' b o) (hc:∀ b o,π b o→w'.cell? ⟨b,o,none⟩=w.cell? ⟨b,o,none⟩) {a:AV} {v:Value} (h:DV w π a v):DV w' π' a v:=by
 induction h with
 | bool | int | float | str | Ce | bl | dZ | Cw=>constructor
 | iface t a v _ ih=>exact .iface t a v ih
 | d4 n h=>exact .d4 n h
 | agg as vs hl hs _ ih=>exact .agg as vs hl hs ih
 | cQ as vs hl _ ih=>exact .cQ as vs hl ih
 | fn f as vs bs us h1 h2 _ _ ih1 ih2=>exact .fn f as vs bs us h1 h2 ih1 ih2
 | sl xs B off cap z f h1 h2 h3 h4 h5 _ ih =>
  exact .sl xs B off cap z f h1 h2 h3 (fun i j r a hr ha=>hp _ _ (h4 i j r a hr ha)) (fun i j r a hr ha=>(hc _ _ (h4 i j r a hr ha)).trans (h5 i j r a hr ha)) ih
 | KJ A=>exact .KJ A
 | ref cs B off f h1 h2 h3 _ ih=>exact .ref cs B off f h1 (fun j a ha=>hp _ _ (h2 j a ha)) (fun j a ha=>(hc _ _ (h2 j a ha)).trans (h3 j a ha)) ih
def kq (w:World) (π:Nat→Nat→Prop) (as:List AV) (vs:List Value):Prop :=
 as.length=vs.length∧∀ (i:Nat) (a:AV) (v:Value),as[i]? = some a→vs[i]? = some v→DV w π a v
theorem kq.mono {w w':World} {π π':Nat→Nat→Prop} (hp:∀ b o,π b o→π' b o) (hc:∀ b o,π b o→w'.cell? ⟨b,o,none⟩=w.cell? ⟨b,o,none⟩) {as:List AV} {vs:List Value} (h:kq w π as vs):kq w' π' as vs :=
 ⟨h.1,fun i a v ha hv=>(h.2 i a v ha hv).mono hp hc⟩
theorem kq.nil (w:World) (π:Nat→Nat→Prop):kq w π [] []:=⟨rfl,fun i a v h=>by simp at h⟩
theorem kq.cons {w:World} {π:Nat→Nat→Prop} {a:AV} {v:Value} {as:List AV} {vs:List Value} (h:DV w π a v) (hs:kq w π as vs):kq w π (a :: as) (v :: vs):=by
 refine ⟨by simp [hs.1],fun i x u hx hu=>?_⟩
 cases i with
 | zero=>simp at hx hu; subst hx; subst hu; exact h
 | succ i=>exact hs.2 i x u (by simpa using hx) (by simpa using hu)
theorem kq.append {w:World} {π:Nat→Nat→Prop} {as bs:List AV} {vs us:List Value} (h:kq w π as vs) (k:kq w π bs us):kq w π (as++bs) (vs++us):=by
 refine ⟨by simp [h.1,k.1],fun i x u hx hu=>?_⟩
 by_cases hi:i < as.length
 ·exact h.2 i x u (by rwa [List.getElem?_append_left hi] at hx) (by rwa [List.getElem?_append_left (by rw [← h.1]; exact hi)] at hu)
 ·rw [List.getElem?_append_right (by omega)] at hx
  rw [List.getElem?_append_right (by rw [← h.1]; omega)] at hu
  exact k.2 (i - as.length) x u hx (by rw [h.1]; exact hu)
theorem kq.get {w:World} {π:Nat→Nat→Prop} {as:List AV} {vs:List Value} (h:kq w π as vs) {i:Nat} {a:AV} (ha:as[i]? = some a):∃ v,vs[i]? = some v∧DV w π a v:=by
 have hi:i < as.length:=by
  rcases Nat.lt_or_ge i as.length with h|h
  ·exact h
  ·rw [List.getElem?_eq_none h] at ha; cases ha
 have hv:vs[i]? = some vs[i]!:=by
  rw [List.getElem?_eq_getElem (by rw [← h.1]; exact hi)]
  simp [getElem!_pos vs i (by rw [← h.1]; exact hi)]
 exact ⟨_,hv,h.2 i a _ ha hv⟩
theorem DV.H7 {w:World} {π:Nat→Nat→Prop} {a:AV} {v:Value} (h:DV w π a v) (hs:a.scalar=true):v.oneCell'=true:=by
 cases h<;>first | rfl | (simp [AV.scalar] at hs)
theorem DV.cells {w:World} {π:Nat→Nat→Prop} {a:AV} {v:Value} (h:DV w π a v) (ht:∀ vs,a≠.cQ vs):kq w π a.cells v.cells.toList∧∀ x∈a.cells,x.scalar=true:=by
 cases h with
 | agg as vs hl hs hd=>exact ⟨⟨by simpa [AV.cells,Value.cells] using hl,fun i a v ha hv=>hd i a v ha (by simpa [Value.cells] using hv)⟩,hs⟩
 | cQ as vs=>exact absurd rfl (ht as)
 | bool b=>exact ⟨.cons (.bool b) (.nil _ _),by simp [AV.cells,AV.scalar]⟩
 | int k n=>exact ⟨.cons (.int k n) (.nil _ _),by simp [AV.cells,AV.scalar]⟩
 | float k n=>exact ⟨.cons (.float k n) (.nil _ _),by simp [AV.cells,AV.scalar]⟩
 | str s=>exact ⟨.cons (.str s) (.nil _ _),by simp [AV.cells,AV.scalar]⟩
 | Ce=>exact ⟨.cons .Ce (.nil _ _),by simp [AV.cells,AV.scalar]⟩
 | bl=>exact ⟨.cons .bl (.nil _ _),by simp [AV.cells,AV.scalar]⟩
 | dZ=>exact ⟨.cons .dZ (.nil _ _),by simp [AV.cells,AV.scalar]⟩
 | Cw=>exact ⟨.cons .Cw (.nil _ _),by simp [AV.cells,AV.scalar]⟩
 | iface t a v h=>exact ⟨.cons (.iface t a v h) (.nil _ _),by simp [AV.cells,AV.scalar]⟩
 | d4 n h=>exact ⟨.cons (.d4 n h) (.nil _ _),by simp [AV.cells,AV.scalar]⟩
 | fn f as vs bs us h1 h2 h3 h4=>exact ⟨.cons (.fn f as vs bs us h1 h2 h3 h4) (.nil _ _),by simp [AV.cells,AV.scalar]⟩
 | ref cs B off f h1 h2 h3 h4=>exact ⟨.cons (.ref cs B off f h1 h2 h3 h4) (.nil _ _),by simp [AV.cells,AV.scalar]⟩
 | KJ A=>exact ⟨.cons (.KJ A) (.nil _ _),by simp [AV.cells,AV.scalar]⟩
 | sl xs B off cap z f h1 h2 h3 h4 h5 h6=>exact ⟨.cons (.sl xs B off cap z f h1 h2 h3 h4 h5 h6) (.nil _ _),by simp [AV.cells,AV.scalar]⟩
theorem H8 {w:World} {π:Nat→Nat→Prop} {v:Value} {a:AV} (h:Je v=some a):DV w π a v∧a.scalar=true:=by
 unfold Je at h
 split at h<;>first | (cases h; exact ⟨by constructor,rfl⟩) | cases h
theorem xH {w:World} {π:Nat→Nat→Prop}:∀ (l:List Value) (as:List AV),l.mapM Je=some as→kq w π as l∧∀ a∈as,a.scalar=true
 | [],as,h=>by simp at h; subst h; exact ⟨.nil _ _,by simp⟩
 | v :: l,as,h=>by
  simp only [List.mapM_cons,Option.bind_eq_bind,Option.bind_eq_some_iff,Option.pure_def,Option.some.injEq] at h
  obtain ⟨a,ha,as',has,rfl⟩:=h
  have h1:=H8 (w:=w) (π:=π) ha
  have h2:=xH (w:=w) (π:=π) l as' has
  exact ⟨.cons h1.1 h2.1,by simpa using ⟨h1.2,h2.2⟩⟩
theorem Qu {w:World} {π:Nat→Nat→Prop} {v:Value} {a:AV} (h:WE v=some a):DV w π a v:=by
 unfold WE at h
 split at h
 ·rename_i cs
  simp only [Option.map_eq_some_iff] at h
  obtain ⟨as,has,rfl⟩:=h
  have h2:=xH (w:=w) (π:=π) _ _ has
  exact .agg as cs (by simpa using h2.1.1) h2.2 (fun i a v ha hv=>h2.1.2 i a v ha (by simpa using hv))
 ·exact (H8 h).1
structure oc where
 n:Nat
 X:Nat→Prop
 β:Nat→Nat
def oc.ok (F:oc) (B:Nat):Prop:=F.n≤B∨F.X B
def oc.XV (F:oc) (b B:Nat):Prop:=F.n≤B∨(b < 4∧F.X B)
def oc.top (w:World):oc:=⟨w.heap.size,fun _=>False,id⟩
structure z7 (n:oc) (w w':World):Prop where
 os:w'.os=w.os
 tape:w'.tape=w.tape
 output:w'.output=w.output
 size:w.heap.size≤w'.heap.size
 block:∀ k,k < n.n→¬ n.X k→w'.heap[k]? = w.heap[k]?
 /-- what is no variables' block lies as it lay -/
 others:∀ (k:Nat) (o:Obj),w.heap[k]? = some o→o.isCells=false→w'.heap[k]? = some o
theorem z7.refl (n:oc) (w:World):z7 n w w:=⟨rfl,rfl,rfl,Nat.le_refl _,fun _ _ _=>rfl,fun _ _ h _=>h⟩
theorem z7.trans {n:oc} {a b c:World} (h:z7 n a b) (k:z7 n b c):z7 n a c :=
 ⟨k.os.trans h.os,k.tape.trans h.tape,k.output.trans h.output,Nat.le_trans h.size k.size,fun i hi hx=>(k.block i hi hx).trans (h.block i hi hx),fun i o hi ho=>k.others i o (h.others i o hi ho) ho⟩
theorem z7.of {n:oc} {w w':World} (h:Below w.heap.size w w') (hn:n.n≤w.heap.size):z7 n w w':=⟨h.os,h.tape,h.output,h.size,fun k hk _=>h.block k (by omega),fun k o hk _=>(h.block k (Array.getElem?_eq_some_iff.1 hk).1).trans hk⟩
theorem z7.below {n:oc} {w w':World} (h:z7 n w w') (hX:∀ k,¬ n.X k):Below n.n w w':=⟨h.os,h.tape,h.output,h.size,fun k hk=>h.block k hk (hX k)⟩
def GL (P:Program) (w:World) (π:Nat→Nat→Prop) (n0 e:Nat) (v:Value):Prop :=
 v=.slice none 0 0∨∃ B len cap cur i,v=.slice (some ⟨B,0,none⟩) len cap∧n0≤B∧w.heap[B]? = some (.cells cur e (0,0))∧len≤cap∧cap≤maxLen∧P.info? e=some i∧cur.size=cap * i.size∧∀ o,len * i.size≤o→¬ π B o
def od:Value→Option Nat
 | .slice (some a) _ _=>some a.block
 | _=>none
def EG (P:Program) (f:FuncId) (args:List AV) (r:AV) (fr:Option Nat):Prop :=
 gp P f=true ∧
 ∀ (w:World) (π:Nat→Nat→Prop) (vs:List Value),(∀ b o,π b o→b < w.heap.size)→kq w π args vs →
  Calls P f vs.toArray w fun e w'=>∃ v π',e=.returned v∧Below w.heap.size w w'∧(∀ b o,π b o→π' b o)∧(∀ b o,π' b o→π b o∨w.heap.size≤b) ∧
   (∀ b o,π' b o→b < w'.heap.size)∧DV w' π' r v∧∀ t,fr=some t→GL P w' π' w.heap.size t v
def RV (β:Nat→Nat) (τ:Nat→Value) (w:World) (π:Nat→Nat→Prop):SV→Value→Prop
 | .dat a q,v=>DV w π a v∧∀ t,q=some t→v=τ t
 | .ptr b off,v=>v=.pointer (some ⟨β b,off,none⟩)
 | .rp cs,v=>∃ (B off:Nat) (f:Nat→Value),v=.pointer (some ⟨B,off,none⟩)∧(∀ (j:Nat) (a:AV),cs[j]? = some a→a.scalar=true)∧(∀ (j:Nat) (a:AV),cs[j]? = some a→π B (off + j)) ∧
   (∀ (j:Nat) (a:AV),cs[j]? = some a→w.cell? ⟨B,off + j,none⟩=some (f j))∧∀ (j:Nat) (a:AV),cs[j]? = some a→DV w π a (f j)
 | .undef,v=>v=undef
 | .vs b off n _,v=>∃ cap,n≤cap∧v=.slice (some ⟨β b,off,none⟩) n cap
def SV.iE (U:Nat→Prop):SV→Prop
 | .dat _ (some q)=>U q
 | .ptr b _=>U b
 | .vs b _ _ _=>U b
 | _=>True
def uL (τ:Nat→Value) (w:World) (π:Nat→Nat→Prop) (B:Nat) (x:dU):Prop :=
 ∃ cur el,w.heap[B]? = some (.cells cur el (0,0))∧kq w π x.cells cur.toList∧(∀ a∈x.cells,a.scalar=true)∧(∀ o q,eA o x.tags=some q→cur[o]? = some (τ q))∧∀ o,¬ π B o
def gb (w:World) (π:Nat→Nat→Prop):List (List AV)→List Nat→Prop
 | [],[]=>True
 | cs :: css,B :: Bs=>uL (fun _=>undef) w π B ⟨cs,[]⟩∧gb w π css Bs
 | _,_=>False
def uA (w:World) (π:Nat→Nat→Prop):List (Option AV)→List Nat→List Value→Prop
 | [],[],[]=>True
 | some a :: as,Bs,v :: vs=>DV w π a v∧uA w π as Bs vs
 | none :: as,B :: Bs,v :: vs=>v=.pointer (some ⟨B,0,none⟩)∧uA w π as Bs vs
 | _,_,_=>False
def oc.Cl (w:World) (Bs:List Nat):oc:=⟨w.heap.size,fun B=>B∈Bs,fun k=>Bs.getD k 0⟩
def EH (P:Program) (f:FuncId) (css:List (List AV)) (args:List (Option AV)) (r:AV) (fr:Option Nat) (css':List (List AV)):Prop :=
 gp P f=true∧css'.length=css.length∧css.length≤4 ∧
 ∀ (w:World) (π:Nat→Nat→Prop) (Bs:List Nat) (vs:List Value),(∀ b o,π b o→b < w.heap.size)→Bs.Nodup→gb w π css Bs→uA w π args Bs vs →
  Calls P f vs.toArray w fun e w'=>∃ v π',e=.returned v∧z7 (oc.Cl w Bs) w w'∧(∀ b o,π b o→π' b o)∧(∀ b o,π' b o→π b o∨w.heap.size≤b) ∧
   (∀ b o,π' b o→b < w'.heap.size)∧gb w' π' css' Bs∧DV w' π' r v∧∀ t,fr=some t→GL P w' π' w.heap.size t v
def Qv:AV→Value
 | .bool b=>.bool b
 | .int k n=>.int k n
 | .float k n=>.float k n
 | .str s=>.string s
 | .Ce=>.pointer none
 | .bl=>.slice none 0 0
 | _=>undef
def oo:AV→Bool
 | .bool _ | .int .. | .float .. | .str _ | .Ce | .bl=>true
 | _=>false
def Cm:AV→Value
 | .agg cs=>.agg (cs.map Qv).toArray
 | a=>Qv a
def mD:AV→Bool
 | .agg cs=>cs.all oo
 | a=>oo a
theorem DV.oo {w:World} {π:Nat→Nat→Prop} {a:AV} (h:Eng.oo a=true):DV w π a (Qv a):=by
 cases a<;>first | (simp [Eng.oo] at h; done) | constructor
theorem DV.flat {w:World} {π:Nat→Nat→Prop} {a:AV} (h:mD a=true):DV w π a (Cm a):=by
 cases a with
 | agg cs =>
  simp only [mD,List.all_eq_true] at h
  refine .agg cs _ (by simp) (fun a ha=>?_) (fun i a v ha hv=>?_)
  ·have:=h a ha; cases a<;>first | rfl | (simp [Eng.oo] at this; done)
  ·simp only [List.getElem?_toArray,List.getElem?_map,ha,Option.map_some,Option.some.injEq] at hv
   subst hv; exact .oo (h a (List.mem_of_getElem? ha))
 | _=>first | exact .oo h | (simp [mD,Eng.oo] at h; done)
def Iter (P:Program) (gv:AV) (xs:List (List AV)):Prop :=
 ∃ gf caps,gv=.fn (.func gf) [] caps∧gp P gf=true∧(∀ x∈xs,∀ a∈x,mD a=true) ∧
 ∀ (l:Nat) (J:Nat→World→Prop) (Jx:World→Prop) (W:World) (π:Nat→Nat→Prop) (vs:List Value),(∀ b o,π b o→b < W.heap.size)→kq W π caps vs →
  (∀ i W',J i W'→∀ b o,π b o→W'.cell? ⟨b,o,none⟩=W.cell? ⟨b,o,none⟩) →
  (∀ i W W',J i W→Below W.heap.size W W'→J i W')→(∀ W W',Jx W→Below W.heap.size W W'→Jx W') →
  (∀ n i x W,xs[i]? = some x→J i W→YieldAt Fence.wide n P l (x.map Cm).toArray W fun e W'=>(e=.returned (.bool true)∧J (i + 1) W')∨(e=.returned (.bool false)∧Jx W')) →
  J 0 W →
  Calls P gf (#[.func (.yield l) #[] #[]]++vs.toArray) W fun e W'=>(∃ v,e=.returned v)∧(J xs.length W'∨Jx W')
def Pure (P:Program):aZ:=⟨EG P,EH P,Iter P⟩
structure Rel (P:Program) (nt:Nat) (n0:oc) (w0:World) (π0:Nat→Nat→Prop) (U:Nat→Prop) (s:S) (a:Act) (w:World) (β:Nat→Nat) (τ:Nat→Value) (π:Nat→Nat→Prop):Prop where
 size:a.tmps.size=nt
 slots:∀ t v,lk t s.slots=some v→(∃ x,a.tmps[t]? = some x∧RV β τ w π v x)∧v.iE U
 boxes:∀ b x,cY b s.boxes=some x→U b∧n0.XV b (β b)∧uL τ w π (β b) x∧∀ o q,eA o x.tags=some q→U q
 inj:∀ b b' x x',cY b s.boxes=some x→cY b' s.boxes=some x'→β b=β b'→b=b'
 live:∀ q e,eA q s.live=some e→U q∧GL P w π n0.n e (τ q)
 cg:∀ q q' e e' B,eA q s.live=some e→eA q' s.live=some e'→od (τ q)=some B→od (τ q')=some B→q=q'
 d5:∀ q e b x,eA q s.live=some e→cY b s.boxes=some x→od (τ q)≠some (β b)
 below:z7 n0 w0 w
 gA:n0.n≤w0.heap.size
 iG:∀ b o,π b o→b < w.heap.size
 gq:∀ b o,π0 b o→π b o
 dQ:∀ b o,π b o→π0 b o∨n0.n≤b
 uw:∀ k,k < 4→β k=n0.β k
 mZ:∀ k,k < 4→U k
 kept:∀ b o,π0 b o→w.cell? ⟨b,o,none⟩=w0.cell? ⟨b,o,none⟩
end Go.Eng
namespace Go.Eng
open Go
open Go.RowKit (Below)
theorem Below.tQ {n:Nat} {w w':World} (h:Below n w w') {b o:Nat} (hb:b < n):w'.cell? ⟨b,o,none⟩=w.cell? ⟨b,o,none⟩:=Below.cell h (p:=⟨b,o,none⟩) hb
theorem RV.mono {β β':Nat→Nat} {τ τ':Nat→Value} {w w':World} {π π':Nat→Nat→Prop} {U:Nat→Prop} (hβ:∀ b,U b→β' b=β b) (hτ:∀ b,U b→τ' b=τ b)
  (hp:∀ b o,π b o→π' b o) (hc:∀ b o,π b o→w'.cell? ⟨b,o,none⟩=w.cell? ⟨b,o,none⟩) {v:SV} {x:Value} (hU:v.iE U) (h:RV β τ w π v x):RV β' τ' w' π' v x:=by
 cases v with
 | dat a q =>
  refine ⟨h.1.mono hp hc,fun t ht=>?_⟩
  subst ht
  rw [hτ t hU]; exact h.2 t rfl
 | ptr b off =>
  show x=_
  rw [hβ b hU]; exact h
 | rp cs =>
  obtain ⟨B,off,f,hx,h1,h2,h3,h4⟩:=h
  exact ⟨B,off,f,hx,h1,fun j a ha=>hp _ _ (h2 j a ha),fun j a ha=>(hc _ _ (h2 j a ha)).trans (h3 j a ha),fun j a ha=>(h4 j a ha).mono hp hc⟩
 | undef=>exact h
 | vs b off n z =>
  obtain ⟨cap,h1,h2⟩:=h
  exact ⟨cap,h1,by rw [hβ b hU]; exact h2⟩
theorem SV.vL {U U':Nat→Prop} (hU:∀ n,U n→U' n) {v:SV} (h:v.iE U):v.iE U':=by
 cases v with
 | dat a q=>cases q with
  | none=>trivial
  | some q=>exact hU _ h
 | ptr b off=>exact hU _ h
 | rp cs=>trivial
 | undef=>trivial
 | vs b off n z=>exact hU _ h
theorem qn {w:World} {B:Nat} {o:Obj} (h:w.heap[B]? = some o):B < w.heap.size:=(Array.getElem?_eq_some_iff.1 h).1
theorem GL.block {P:Program} {w:World} {π:Nat→Nat→Prop} {n0 e B:Nat} {v:Value} (h:GL P w π n0 e v) (hB:od v=some B) :
  n0≤B∧B < w.heap.size:=by
 rcases h with rfl|⟨B',len,cap,cur,i,rfl,h1,h2,_⟩
 ·simp [od] at hB
 ·simp [od] at hB; subst hB; exact ⟨h1,qn h2⟩
theorem GL.keep {P:Program} {w w':World} {π π':Nat→Nat→Prop} {n0 e:Nat} {v:Value} (h:GL P w π n0 e v)
  (hb:∀ B,od v=some B→w'.heap[B]? = w.heap[B]?) (hp:∀ B o,od v=some B→π' B o→π B o):GL P w' π' n0 e v:=by
 rcases h with rfl|⟨B',len,cap,cur,i,rfl,h1,h2,h3,h4,h5,h6,h7⟩
 ·exact .inl rfl
 ·exact .inr ⟨B',len,cap,cur,i,rfl,h1,(hb B' rfl).trans h2,h3,h4,h5,h6,fun o ho hc=>h7 o ho (hp B' o rfl hc)⟩
theorem uL.keep {τ τ':Nat→Value} {w w':World} {π π':Nat→Nat→Prop} {U:Nat→Prop} {B:Nat} {x:dU} (h:uL τ w π B x) (hτ:∀ q,U q→τ' q=τ q) (hU:∀ o q,eA o x.tags=some q→U q)
  (hb:w'.heap[B]? = w.heap[B]?) (hp:∀ b o,π b o→π' b o) (hc:∀ b o,π b o→w'.cell? ⟨b,o,none⟩=w.cell? ⟨b,o,none⟩) (hn:∀ o,¬ π' B o):uL τ' w' π' B x:=by
 obtain ⟨cur,el,h1,h2,h3,h4,_⟩:=h
 exact ⟨cur,el,hb.trans h1,h2.mono hp hc,h3,fun o q hq=>by rw [hτ q (hU o q hq)]; exact h4 o q hq,hn⟩
section
variable {P:Program} {nt:Nat} {n0:oc} {w0:World} {π0:Nat→Nat→Prop} {U U':Nat→Prop} {s:S} {a:Act} {w w':World} {β β':Nat→Nat} {τ τ':Nat→Value} {π π':Nat→Nat→Prop}
theorem Rel.frame (R:Rel P nt n0 w0 π0 U s a w β τ π) (hβ:∀ b,U b→β' b=β b) (hτ:∀ b,U b→τ' b=τ b) (hU:∀ n,U n→U' n)
  (hp:∀ b o,π b o→π' b o) (hp':∀ b o,π' b o→π b o∨w.heap.size≤b) (hpl:∀ b o,π' b o→b < w'.heap.size) (hbel:Below w.heap.size w w') :
  Rel P nt n0 w0 π0 U' s a w' β' τ' π':=by
 have hc:∀ b o,π b o→w'.cell? ⟨b,o,none⟩=w.cell? ⟨b,o,none⟩:=fun b o h=>Below.tQ hbel (R.iG b o h)
 have hsz:n0.n≤w.heap.size:=Nat.le_trans R.gA R.below.size
 refine ⟨R.size,fun t v h=>?_,fun b x h=>?_,fun b b' x x' h h' e=>?_,fun q e h=>?_,fun q q' e e' B h h' hB hB'=>?_,fun q e b x h h' hB=>?_,R.below.trans (.of hbel hsz),R.gA,hpl,fun b o h=>hp _ _ (R.gq b o h),fun b o h=>?_,fun k hk=>by rw [hβ k (R.mZ k hk)]; exact R.uw k hk,fun k hk=>hU k (R.mZ k hk),fun b o h=>(hc b o (R.gq b o h)).trans (R.kept b o h)⟩
 ·obtain ⟨⟨x,hx,hv⟩,hu⟩:=R.slots t v h
  exact ⟨⟨x,hx,RV.mono hβ hτ hp hc hu hv⟩,SV.vL hU hu⟩
 ·obtain ⟨h1,h2,h3,h4⟩:=R.boxes b x h
  rw [hβ b h1]
  have hlt:β b < w.heap.size:=by obtain ⟨cur,el,hh,_⟩:=h3; exact qn hh
  refine ⟨hU b h1,h2,h3.keep hτ h4 (hbel.block _ hlt) hp hc (fun o ho=>?_),fun o q hq=>hU _ (h4 o q hq)⟩
  rcases hp' _ _ ho with h|h
  ·obtain ⟨_,_,_,_,_,_,hn⟩:=h3; exact hn o h
  ·omega
 ·rw [hβ b (R.boxes b x h).1,hβ b' (R.boxes b' x' h').1] at e
  exact R.inj b b' x x' h h' e
 ·obtain ⟨h1,h2⟩:=R.live q e h
  rw [hτ q h1]
  refine ⟨hU q h1,h2.keep (fun B hB=>hbel.block _ (h2.block hB).2) (fun B o hB ho=>?_)⟩
  rcases hp' _ _ ho with h|h
  ·exact h
  ·have:=(h2.block hB).2; omega
 ·rw [hτ q (R.live q e h).1] at hB
  rw [hτ q' (R.live q' e' h').1] at hB'
  exact R.cg q q' e e' B h h' hB hB'
 ·rw [hτ q (R.live q e h).1,hβ b (R.boxes b x h').1] at hB
  exact R.d5 q e b x h h' hB
 ·rcases hp' b o h with h | h
  ·exact R.dQ b o h
  ·exact .inr (by omega)
theorem Rel.sub (R:Rel P nt n0 w0 π0 U s a w β τ π) (hU:∀ n,U n→U' n):Rel P nt n0 w0 π0 U' s a w β τ π :=
 R.frame (fun _ _=>rfl) (fun _ _=>rfl) hU (fun _ _ h=>h) (fun _ _ h=>.inl h) R.iG (Below.refl _ _)
theorem Rel.put (R:Rel P nt n0 w0 π0 U s a w β τ π) (d:Option Nat) {v:SV} {x:Value} (hd:∀ t,d=some t→t < nt) (hv:RV β τ w π v x) (hu:v.iE U):Rel P nt n0 w0 π0 U (s.put d v) (a.put d x) w β τ π:=by
 cases d with
 | none=>exact R
 | some d =>
  refine ⟨by simp [Act.put,R.size],fun t u h=>?_,R.boxes,R.inj,R.live,R.cg,R.d5,R.below,R.gA,R.iG,R.gq,R.dQ,R.uw,R.mZ,R.kept⟩
  simp only [S.put,lk] at h
  by_cases e:t=d
  ·subst e
   simp at h
   subst h
   exact ⟨⟨x,by simp [Act.put,R.size,hd t rfl],hv⟩,hu⟩
  ·have:(t == d)=false:=by simpa using e
   simp only [this,cond_false] at h
   obtain ⟨⟨y,hy,hr⟩,hu'⟩:=R.slots t u h
   exact ⟨⟨y,by simp [Act.put,Array.getElem?_setIfInBounds_ne (Ne.symm e),hy],hr⟩,hu'⟩
theorem Rel.cZ (R:Rel P nt n0 w0 π0 U s a w β τ π) {X:Operand} {x:bW} {v:SV} (hx:dJ X=some x) (hv:cZ s x=some v):RV β τ w π v (a.eval X)∧v.iE U:=by
 cases X with
 | tmp t =>
  simp [dJ] at hx; subst hx
  obtain ⟨⟨y,hy,hr⟩,hu⟩:=R.slots t v hv
  refine ⟨?_,hu⟩
  have:a.eval (.tmp t)=y:=by simp [Act.eval,hy]
  rw [this]; exact hr
 | const c =>
  simp only [dJ,Option.map_eq_some_iff] at hx
  obtain ⟨k,hk,rfl⟩:=hx
  simp [Eng.cZ] at hv; subst hv
  exact ⟨⟨Qu hk,fun t ht=>by cases ht⟩,trivial⟩
 | global g=>simp [dJ] at hx
 | func f =>
  simp [dJ] at hx; subst hx
  simp [Eng.cZ] at hv; subst hv
  refine ⟨⟨?_,fun t ht=>by cases ht⟩,trivial⟩
  exact .fn (.func f) [] #[] [] #[] rfl rfl (fun i a v h=>by simp at h) (fun i a v h=>by simp at h)
theorem RV.ref {β:Nat→Nat} {τ:Nat→Value} {w:World} {π:Nat→Nat→Prop} {cs:List AV} {v:Value}:RV β τ w π (.rp cs) v↔DV w π (.ref cs) v:=by
 constructor
 ·rintro ⟨B,off,f,rfl,h1,h2,h3,h4⟩
  exact .ref cs B off f h1 h2 h3 h4
 ·intro h
  cases h with
  | ref _ B off f h1 h2 h3 h4=>exact ⟨B,off,f,rfl,h1,h2,h3,h4⟩
theorem Rel.aI (R:Rel P nt n0 w0 π0 U s a w β τ π) {X:Operand} {x:bW} {v:AV} (hx:dJ X=some x) (hv:Eng.aI s x=some v):DV w π v (a.eval X):=by
 unfold Eng.aI at hv
 split at hv
 ·rename_i b q ho
  cases hv
  exact (R.cZ hx ho).1.1
 ·rename_i cs ho
  cases hv
  exact RV.ref.1 (R.cZ hx ho).1
 ·cases hv
theorem Rel.dP (R:Rel P nt n0 w0 π0 U s a w β τ π):∀ {Xs:List Operand} {xs:List bW} {vs:List AV},Xs.mapM dJ=some xs→Eng.dP s xs=some vs→kq w π vs (Xs.map a.eval)
 | [],xs,vs,hx,hv=>by
  simp at hx; subst hx
  simp [Eng.dP] at hv; subst hv
  exact .nil _ _
 | X :: Xs,xs,vs,hx,hv=>by
  simp only [List.mapM_cons,Option.bind_eq_bind,Option.bind_eq_some_iff,Option.pure_def,Option.some.injEq] at hx
  obtain ⟨x,hx,xs',hxs,rfl⟩:=hx
  simp only [Eng.dP] at hv
  split at hv
  ·rename_i a' as h1 h2
   cases hv
   exact .cons (R.aI hx h1) (R.dP hxs h2)
  ·cases hv
def GR {α:Type} (f:Nat→α) (n:Nat) (x:α):Nat→α:=fun m=>if m=n then x else f m
theorem dL {α:Type} (f:Nat→α) (n:Nat) (x:α):GR f n x n=x:=by simp [GR]
theorem z8 {α:Type} (f:Nat→α) (n:Nat) (x:α) {m:Nat} (h:m≠n):GR f n x m=f m:=by simp [GR,h]
def jj (U:Nat→Prop) (n:Nat):Nat→Prop:=fun m=>U m∨m=n
theorem Rel.KK (R:Rel P nt n0 w0 π0 U s a w β τ π) {id:Nat} (hid:¬ U id) {cells:List AV} {cs:Array Value} (e:TypeId) (hd:kq w π cells cs.toList) (hs:∀ a∈cells,a.scalar=true) :
  Rel P nt n0 w0 π0 (jj U id) { s with boxes:=(id,⟨cells,[]⟩) :: s.boxes } a (w.alloc (.cells cs e)) (GR β id w.heap.size) τ π:=by
 have hne:∀ b,U b→b≠id:=fun b hb e=>hid (e ▸ hb)
 have hbel:Below w.heap.size w (w.alloc (.cells cs e)):=(Below.refl _ _).alloc (Nat.le_refl _) _
 have R1:Rel P nt n0 w0 π0 (jj U id) s a (w.alloc (.cells cs e)) (GR β id w.heap.size) τ π :=
  R.frame (fun b hb=>z8 _ _ _ (hne b hb)) (fun _ _=>rfl) (fun n h=>.inl h) (fun _ _ h=>h) (fun _ _ h=>.inl h) (fun b o h=>by have:=R.iG b o h; simp; omega) hbel
 have hsz:n0.n≤w.heap.size:=Nat.le_trans R.gA R.below.size
 have hold:∀ b x,cY b s.boxes=some x→GR β id w.heap.size b≠w.heap.size:=fun b x h=>by
  obtain ⟨h1,_,⟨cur,el,hh,_⟩,_⟩:=R.boxes b x h
  rw [z8 _ _ _ (hne b h1)]
  have:=qn hh
  omega
 refine ⟨R1.size,R1.slots,fun b x h=>?_,fun b b' x x' h h' e=>?_,R1.live,R1.cg,fun q e' b x h h' hB=>?_,R1.below,R1.gA,R1.iG,R1.gq,R1.dQ,R1.uw,R1.mZ,R1.kept⟩
 ·simp only [cY] at h
  by_cases hb:b=id
  ·subst hb
   simp at h
   subst h
   refine ⟨.inr rfl,by rw [dL]; exact .inl hsz,?_,fun o q h=>by simp [eA] at h⟩
   rw [dL]
   refine ⟨cs,e,heap_alloc_new w _,hd.mono (fun _ _ h=>h) (fun b o h=>Below.tQ hbel (R.iG b o h)),hs,fun o q h=>by simp [eA] at h,fun o h=>?_⟩
   have:=R.iG _ _ h; omega
  ·have:(b == id)=false:=by simpa using hb
   simp only [this,cond_false] at h
   exact R1.boxes b x h
 ·simp only [cY] at h h'
  by_cases hb:b=id
  ·by_cases hb':b'=id
   ·rw [hb,hb']
   ·have hf:(b' == id)=false:=by simpa using hb'
    simp only [hf,cond_false] at h'
    subst hb
    rw [dL] at e
    exact absurd e.symm (hold b' x' h')
  ·have hf:(b == id)=false:=by simpa using hb
   simp only [hf,cond_false] at h
   by_cases hb':b'=id
   ·subst hb'
    rw [dL] at e
    exact absurd e (hold b x h)
   ·have hf':(b' == id)=false:=by simpa using hb'
    simp only [hf',cond_false] at h'
    exact R1.inj b b' x x' h h' e
 ·simp only [cY] at h'
  by_cases hb:b=id
  ·subst hb
   rw [dL] at hB
   have:=((R.live q e' h).2.block hB).2
   omega
  ·have hf:(b == id)=false:=by simpa using hb
   simp only [hf,cond_false] at h'
   exact R1.d5 q e' b x h h' hB
theorem m5 {n m:Nat} {b:dU}:∀ {l:List (Nat × dU)} {x:dU},cY n (rO m b l)=some x→(n=m∧x=b∧∃ y,cY m l=some y)∨(n≠m∧cY n l=some x)
 | [],x,h=>by simp [rO,cY] at h
 |(k,v) :: r,x,h=>by
  simp only [rO] at h
  by_cases hk:m=k
  ·subst hk
   simp only [beq_self_eq_true,cond_true,cY] at h
   by_cases hn:n=m
   ·subst hn
    simp at h
    exact .inl ⟨rfl,h.symm,v,by simp [cY]⟩
   ·have hf:(n == m)=false:=by simpa using hn
    simp only [hf,cond_false] at h
    exact .inr ⟨hn,by simp [cY,hf,h]⟩
  ·have hf:(m == k)=false:=by simpa using hk
   simp only [hf,cond_false,cY] at h
   by_cases hn:n=k
   ·subst hn
    simp at h
    exact .inr ⟨fun e=>hk e.symm,by simp [cY,h]⟩
   ·have hf':(n == k)=false:=by simpa using hn
    simp only [hf',cond_false] at h
    rcases m5 h with ⟨h1,h2,y,h3⟩|⟨h1,h2⟩
    ·exact .inl ⟨h1,h2,y,by simp [cY,hf,h3]⟩
    ·exact .inr ⟨h1,by simp [cY,hf',h2]⟩
theorem Rel.Qw (R:Rel P nt n0 w0 π0 U s a w β τ π) {b:Nat} {x y:dU} (hb:cY b s.boxes=some x) {cur cur':Array Value} {el:TypeId}
  (hh:w.heap[β b]? = some (.cells cur el (0,0))) (hd:kq w π y.cells cur'.toList) (hs:∀ a∈y.cells,a.scalar=true)
  (ht:∀ o q,eA o y.tags=some q→cur'[o]? = some (τ q)∧U q) :
  Rel P nt n0 w0 π0 U { s with boxes:=rO b y s.boxes } a (w.setRow (β b) cur') β τ π:=by
 obtain ⟨hUb,hn0,⟨_,_,hh',_,_,_,hnp⟩,_⟩:=R.boxes b x hb
 have hsz:n0.n≤w.heap.size:=Nat.le_trans R.gA R.below.size
 have hother:∀ k,k≠β b→(w.setRow (β b) cur').heap[k]? = w.heap[k]?:=fun k hk=>setRow_other w _ k cur' hk
 have hc:∀ B o,π B o→(w.setRow (β b) cur').cell? ⟨B,o,none⟩=w.cell? ⟨B,o,none⟩:=fun B o h=>cell_setRow_other w _ cur' ⟨B,o,none⟩ (fun e=>hnp o (by simpa [← e] using h))
 have hbel:z7 n0 w (w.setRow (β b) cur'):=⟨rfl,rfl,rfl,by simp,fun k hk hx=>hother k (fun e=>by subst e; rcases hn0 with h | h; exact absurd h (by omega); exact hx h.2),fun k o hk ho=>(hother k (fun e=>by subst e; rw [hh] at hk; cases hk; cases ho)).trans hk⟩
 refine ⟨R.size,fun t v h=>?_,fun c z h=>?_,fun c c' z z' h h' e=>?_,fun q e h=>?_,R.cg,fun q e c z h h' hB=>?_,R.below.trans hbel,R.gA,fun B o h=>by simpa using R.iG B o h,R.gq,R.dQ,R.uw,R.mZ,fun b o h=>(hc b o (R.gq b o h)).trans (R.kept b o h)⟩
 ·obtain ⟨⟨z,hz,hv⟩,hu⟩:=R.slots t v h
  exact ⟨⟨z,hz,RV.mono (fun _ _=>rfl) (fun _ _=>rfl) (fun _ _ h=>h) hc hu hv⟩,hu⟩
 ·rcases m5 h with ⟨rfl,rfl,_⟩ | ⟨hne,h⟩
  ·exact ⟨hUb,hn0,⟨cur',el,setRow_heap w _ cur _ el _ hh,hd.mono (fun _ _ h=>h) hc,hs,fun o q hq=>(ht o q hq).1,hnp⟩,fun o q hq=>(ht o q hq).2⟩
  ·obtain ⟨h1,h2,h3,h4⟩:=R.boxes c z h
   refine ⟨h1,h2,h3.keep (fun _ _=>rfl) h4 (hother _ (fun e=>hne (R.inj c b z x h hb e))) (fun _ _ h=>h) hc ?_,h4⟩
   obtain ⟨_,_,_,_,_,_,hn⟩:=h3; exact hn
 ·have:∃ u,cY c s.boxes=some u:=by
   rcases m5 h with ⟨rfl,_,_⟩|⟨_,h⟩
   ·exact ⟨x,hb⟩
   ·exact ⟨z,h⟩
  have k':∃ u,cY c' s.boxes=some u:=by
   rcases m5 h' with ⟨rfl,_,_⟩|⟨_,h⟩
   ·exact ⟨x,hb⟩
   ·exact ⟨z',h⟩
  obtain ⟨u,hu⟩:=this
  obtain ⟨u',hu'⟩:=k'
  exact R.inj c c' u u' hu hu' e
 ·obtain ⟨h1,h2⟩:=R.live q e h
  exact ⟨h1,h2.keep (fun B hB=>hother B (fun eB=>R.d5 q e b x h hb (by rw [hB,eB]))) (fun B o _ h=>h)⟩
 ·have:∃ u,cY c s.boxes=some u:=by
   rcases m5 h' with ⟨rfl,_,_⟩|⟨_,h⟩
   ·exact ⟨x,hb⟩
   ·exact ⟨z,h⟩
  obtain ⟨u,hu⟩:=this
  exact R.d5 q e c u h hu hB
end
end Go.Eng
namespace Go.Eng
open Go
open Go.RowKit (Below)
theorem k7 (B o n:Nat):(⟨B,o,none⟩:Addr).add n=⟨B,o + n,none⟩:=by unfold Addr.add; split<;>simp_all
section runs
variable {P:Program} {w:World}
theorem d7 {t:TypeId} {z:Nat} (h:ga P t=some z):(sizeOf t).run P w=.ok z w:=by
 simp only [ga,Option.map_eq_some_iff] at h
 obtain ⟨i,hi,rfl⟩:=h
 simp [sizeOf,typeInfo,hi]
theorem vM {t:TypeId} {d:TypeDesc} (h:P.underlying t=some d):(isAgg t).run P w=.ok (ob P t) w:=by
 have:=run_underlying h w
 unfold isAgg ob
 simp only [Sem.run_bind,this,Result.andThen_ok,h]
 cases d<;>rfl
theorem EI {t:TypeId} {n:Nat} (h:zo P t=some (some n)):∃ d,P.underlying t=some d∧ob P t=true∧ga P t=some n:=by
 unfold zo at h
 split at h
 ·rename_i fs hu; exact ⟨_,hu,by simp [ob,hu],by simpa using h⟩
 ·rename_i k e hu; exact ⟨_,hu,by simp [ob,hu],by simpa using h⟩
 ·simp at h
 ·simp at h
theorem EJ {t:TypeId} (h:zo P t=some none):∃ d,P.underlying t=some d∧ob P t=false:=by
 unfold zo at h
 split at h
 ·simp at h
 ·simp at h
 ·rename_i d h1 h2 hu
  refine ⟨d,hu,?_⟩
  unfold ob
  rw [hu]
  cases d<;>simp_all
 ·simp at h
theorem pN {t:TypeId} {n:Nat} (h:zo P t=some (some n)) {B o:Nat} {f:Nat→Value} (hc:∀ j,j < n→w.cell? ⟨B,o + j,none⟩=some (f j)) :
  (loadVar t ⟨B,o,none⟩).run P w=.ok (.agg ((List.range n).map f).toArray) w:=by
 obtain ⟨d,hd,ha,hs⟩:=EI h
 have h1:=vM (w:=w) hd
 have h2:=d7 (w:=w) hs
 have h3:=run_loadCells (P:=P) w ⟨B,o,none⟩ n f (fun j hj=>by rw [k7]; exact hc j hj)
 simp only [loadVar,Sem.run_bind,h1,ha,Result.andThen_ok,if_true,h2,h3,Sem.run_pure]
theorem pO {t:TypeId} (h:zo P t=some none) {B o:Nat} {v:Value} (hc:w.cell? ⟨B,o,none⟩=some v) :
  (loadVar t ⟨B,o,none⟩).run P w=.ok v w:=by
 obtain ⟨d,hd,ha⟩:=EJ h
 have h1:=vM (w:=w) hd
 simp [loadVar,Sem.run_bind,h1,ha,Result.andThen_ok,hc]
end runs
theorem Dt {w:World} {π:Nat→Nat→Prop} {cs:List AV} {f:Nat→Value} {off:Nat} {sz:Option Nat} {a:AV}
  (hs:∀ (j:Nat) (x:AV),cs[j]? = some x→x.scalar=true) (hd:∀ (j:Nat) (x:AV),cs[j]? = some x→DV w π x (f j)) (h:aB cs off sz=some a) :
  match sz with
  | none=>DV w π a (f off)∧off < cs.length
  | some n=>off + n≤cs.length∧DV w π a (.agg ((List.range n).map fun j=>f (off + j)).toArray):=by
 cases sz with
 | none =>
  simp only [aB] at h
  refine ⟨hd _ _ h,?_⟩
  rcases Nat.lt_or_ge off cs.length with h'|h'
  ·exact h'
  ·rw [List.getElem?_eq_none h'] at h; cases h
 | some n =>
  simp only [aB] at h
  split at h
  ·rename_i hle
   cases h
   have hg:∀ (i:Nat) (x:AV),((cs.drop off).take n)[i]? = some x→i < n∧cs[off + i]? = some x:=by
    intro i x hx
    rw [List.getElem?_take] at hx
    split at hx
    ·rename_i hi; exact ⟨hi,by simpa using hx⟩
    ·cases hx
   refine ⟨hle,.agg _ _ (by simp; omega) (fun x hx=>?_) (fun i x v hx hv=>?_)⟩
   ·obtain ⟨i,hi⟩:=List.mem_iff_getElem?.1 hx
    exact hs _ _ (hg i x hi).2
   ·obtain ⟨hi,hx'⟩:=hg i x hx
    have:v=f (off + i):=by simpa [hi] using hv.symm
    rw [this]
    exact hd _ _ hx'
  ·cases h
section ops
variable {P:Program} {nt:Nat} {n0:oc} {w0:World} {π0:Nat→Nat→Prop} {U:Nat→Prop} {s:S} {a:Act} {w:World} {β:Nat→Nat} {τ:Nat→Value} {π:Nat→Nat→Prop}
theorem uL.cells {B:Nat} {x:dU} (h:uL τ w π B x):∃ f:Nat→Value,(∀ j,j < x.cells.length→w.cell? ⟨B,j,none⟩=some (f j))∧(∀ (j:Nat) (y:AV),x.cells[j]? = some y→y.scalar=true) ∧
  (∀ (j:Nat) (y:AV),x.cells[j]? = some y→DV w π y (f j))∧∀ o q,eA o x.tags=some q→f o=τ q:=by
 obtain ⟨cur,el,h1,h2,h3,h4,_⟩:=h
 refine ⟨fun j=>cur.getD j undef,fun j hj=>?_,fun j y hy=>h3 y (List.mem_of_getElem? hy),fun j y hy=>?_,fun o q hq=>?_⟩
 ·have hl:j < cur.size:=by have:=h2.1; simp at this; omega
  rw [cell_of_row w B j cur el (0,0) h1]
  simp [hl]
 ·obtain ⟨v,hv,hd⟩:=h2.get hy
  have:cur[j]? = some v:=by simpa using hv
  simp [this,hd]
 ·simp [h4 o q hq]
theorem Rel.load (R:Rel P nt n0 w0 π0 U s a w β τ π) {t:TypeId} {X:Operand} {x:bW} {sz:Option Nat} (hx:dJ X=some x) (ht:zo P t=some sz) {id:Nat} {K:SV→S→Prop}
    (h:bS (Pure P) id (.ld x sz) K s):∃ v y,(Instr.loadAt t (a.eval X)).run P w=.ok y w∧RV β τ w π v y∧v.iE U∧K v s:=by
  simp only [bS] at h
  cases ho:Eng.cZ s x with
  | none=>rw [ho] at h; exact h.elim
  | some p =>
    rw [ho] at h
    obtain ⟨hr,hu⟩:=R.cZ hx ho
    cases p with
    | dat b q=>exact h.elim
    | undef=>exact h.elim
    | vs _ _ _ _=>exact h.elim
    | ptr b off =>
      simp only [aM] at h
      cases hb:cY b s.boxes with
      | none=>rw [hb] at h; exact h.elim
      | some z =>
        rw [hb] at h
        simp only [aM] at h
        cases hp:aB z.cells off sz with
        | none=>rw [hp] at h; exact h.elim
        | some av =>
          rw [hp] at h
          obtain ⟨h1,h2,h3,h4⟩:=R.boxes b z hb
          obtain ⟨f,hf,hs,hd,htg⟩:=h3.cells
          have hpd:=Dt hs hd hp
          have he:a.eval X=.pointer (some ⟨β b,off,none⟩):=hr
          cases sz with
          | none =>
            obtain ⟨hd',hlt⟩:=hpd
            refine ⟨.dat av (eA off z.tags),f off,by simp only [he,Instr.loadAt,Instr.sureAddr,Sem.run_bind,Sem.run_pure,Result.andThen_ok]; exact pO ht (hf off hlt),⟨hd',fun q hq=>htg off q hq⟩,?_,h⟩
            cases hq:eA off z.tags with
            | none=>trivial
            | some q=>exact h4 off q hq
          | some n =>
            obtain ⟨hle,hd'⟩:=hpd
            refine ⟨.dat av none,_,by simp only [he,Instr.loadAt,Instr.sureAddr,Sem.run_bind,Sem.run_pure,Result.andThen_ok]; exact pN ht (fun j hj=>hf (off + j) (by omega)),⟨hd',fun q hq=>by cases hq⟩,trivial,h⟩
    | rp cs =>
      simp only [aM] at h
      cases hp:aB cs 0 sz with
      | none=>rw [hp] at h; exact h.elim
      | some av =>
        rw [hp] at h
        obtain ⟨B,off,f,he,hs,_,hf,hd⟩:=hr
        have hpd:=Dt hs hd hp
        have hget:∀ j,j < cs.length→w.cell? ⟨B,off + j,none⟩=some (f j):=fun j hj=>hf j cs[j] (List.getElem?_eq_getElem hj)
        cases sz with
        | none =>
          obtain ⟨hd',hlt⟩:=hpd
          refine ⟨.dat av none,f 0,by simp only [he,Instr.loadAt,Instr.sureAddr,Sem.run_bind,Sem.run_pure,Result.andThen_ok]; exact pO ht (hget 0 hlt),⟨hd',fun q hq=>by cases hq⟩,trivial,h⟩
        | some n =>
          obtain ⟨hle,hd'⟩:=hpd
          refine ⟨.dat av none,_,by simp only [he,Instr.loadAt,Instr.sureAddr,Sem.run_bind,Sem.run_pure,Result.andThen_ok]; exact pN ht (fun j hj=>hget j (by omega)),⟨by simpa using hd',fun q hq=>by cases hq⟩,trivial,h⟩
theorem Du {w:World} {π:Nat→Nat→Prop} {av:AV} {u:Value} (h:DV w π av u) (hs:av.scalar=true):u.cells.toList=[u]:=by
 cases h<;>first | rfl | (simp [AV.scalar] at hs)
theorem gW {α:Type} (l ps:List α) (off:Nat) (h:off + ps.length≤l.length) (i:Nat) :
  (l.take off++ps++l.drop (off + ps.length))[i]? = if i < off then l[i]? else if i < off + ps.length then ps[i - off]? else l[i]?:=by
 have hl:(l.take off).length=off:=by simp; omega
 by_cases h1:i < off
 ·rw [if_pos h1,List.append_assoc,List.getElem?_append_left (by omega),List.getElem?_take,if_pos h1]
 ·rw [if_neg h1]
  by_cases h2:i < off + ps.length
  ·rw [if_pos h2,List.append_assoc,List.getElem?_append_right (by omega),List.getElem?_append_left (by omega),hl]
  ·rw [if_neg h2,List.getElem?_append_right (by simp; omega),List.getElem?_drop]
   congr 1
   simp; omega
theorem z9 {l:List (Nat × Nat)} {p:Nat × Nat→Bool} {o q:Nat} (h:eA o (l.filter p)=some q) (hp:∀ x:Nat × Nat,p x=p (x.1,0)):eA o l=some q∧p (o,0)=true:=by
 induction l with
 | nil=>simp [eA] at h
 | cons x r ih =>
  obtain ⟨m,v⟩:=x
  rw [List.filter_cons] at h
  by_cases hx:p (m,v)=true
  ·rw [if_pos hx] at h
   simp only [eA] at h ⊢
   by_cases e:o=m
   ·subst e; simp at h ⊢; exact ⟨h,by rw [← hp (o,v)]; exact hx⟩
   ·have hf:(o == m)=false:=by simpa using e
    simp only [hf,cond_false] at h ⊢
    exact ih h
  ·rw [if_neg hx] at h
   obtain ⟨h1,h2⟩:=ih h
   refine ⟨?_,h2⟩
   simp only [eA]
   have e:o≠m:=fun e=>hx (by subst e; rw [hp (o,v)]; exact h2)
   have hf:(o == m)=false:=by simpa using e
   simp only [hf,cond_false]; exact h1
theorem Rel.store (R:Rel P nt n0 w0 π0 U s a w β τ π) {t:TypeId} {X V:Operand} {x v:bW} {z:Nat} (hx:dJ X=some x) (hv:dJ V=some v) (ht:ga P t=some z) {id:Nat} {K:SV→S→Prop}
    (h:bS (Pure P) id (.st x v z) K s):∃ s' w',(Instr.storeAt t (a.eval X) (a.eval V)).run P w=.ok () w'∧K .undef s'∧Rel P nt n0 w0 π0 U s' a w' β τ π:=by
  simp only [bS] at h
  cases ho:Eng.cZ s x with
  | none=>rw [ho] at h; exact h.elim
  | some p =>
    rw [ho] at h
    obtain ⟨hr,hu⟩:=R.cZ hx ho
    cases p with
    | dat b q=>exact h.elim
    | undef=>exact h.elim
    | vs _ _ _ _=>exact h.elim
    | rp cs=>exact h.elim
    | ptr b off =>
      simp only [aM] at h
      cases hb:cY b s.boxes with
      | none=>rw [hb] at h; exact h.elim
      | some y =>
        rw [hb] at h
        simp only [aM] at h
        cases hov:Eng.cZ s v with
        | none=>rw [hov] at h; exact h.elim
        | some u =>
          rw [hov] at h
          cases u with
          | undef=>exact h.elim
          | vs _ _ _ _=>exact h.elim
          | rp cs=>exact h.elim
          | ptr _ _=>exact h.elim
          | dat av q =>
            simp only [aM] at h
            obtain ⟨hok,hlen,hfit,hK⟩:=h
            obtain ⟨⟨hdv,htag⟩,huv⟩:=R.cZ hv hov
            have he:a.eval X=.pointer (some ⟨β b,off,none⟩):=hr
            obtain ⟨h1,h2,⟨cur,el,hh,hcd,hcs,hct,hnp⟩,h4⟩:=R.boxes b y hb
            have hsz:cur.size=y.cells.length:=by have:=hcd.1; simp at this; exact this.symm
            have htup':∀ vs,av≠.cQ vs:=fun vs e=>by subst e; simp [jh] at hok
            obtain ⟨hds,hsc⟩:=hdv.cells htup'
            have hvl:(a.eval V).cells.toList.length=z:=by rw [← hds.1]; exact hlen
            have hone:∀ u∈(a.eval V).cells.toList,u.oneCell'=true:=by
              intro u hu
              obtain ⟨i,hi⟩:=List.mem_iff_getElem?.1 hu
              have hil:i < av.cells.length:=by
                rw [hds.1]
                rcases Nat.lt_or_ge i (a.eval V).cells.toList.length with h|h
                · exact h
                · rw [List.getElem?_eq_none h] at hi; cases hi
              have hx':=List.getElem?_eq_getElem hil
              exact (hds.2 i _ _ hx' hi).H7 (hsc _ (List.getElem_mem hil))
            have hst:=run_storeCells_at (P:=P) (β b) off el (a.eval V).cells.toList 0 cur w hh (by rw [hvl,hsz]; omega) hone
            simp only [Nat.add_zero] at hst
            have hrun:(Instr.storeAt t (a.eval X) (a.eval V)).run P w=.ok () (w.setRow (β b) (cur.toList.take off++(a.eval V).cells.toList++cur.toList.drop (off + (a.eval V).cells.toList.length)).toArray):=by
              have hz2:(a.eval V).cells.size=z:=by simpa using hvl
              simp [he,Instr.storeAt,Instr.sureAddr,storeVar,d7 (w:=w) ht,hz2,hst]
            refine ⟨_,_,hrun,hK,R.Qw hb hh ?_ ?_ ?_⟩
            · -- cells
              refine ⟨?_,fun i c u hc hu=>?_⟩
              · simp [setCells,hds.1,hcd.1]
              · simp only [] at hu
                rw [gW _ _ _ (by rw [hvl]; simp; omega)] at hu
                simp only [setCells] at hc
                rw [gW _ _ _ (by omega)] at hc
                rw [hvl] at hu
                rw [hlen] at hc
                split at hc
                · rename_i hi; rw [if_pos hi] at hu; exact hcd.2 i c u hc hu
                · rename_i hi
                  rw [if_neg hi] at hu
                  split at hc
                  · rename_i hi2; rw [if_pos hi2] at hu; exact hds.2 _ c u hc hu
                  · rename_i hi2; rw [if_neg hi2] at hu; exact hcd.2 i c u hc hu
            · intro c hc
              simp only [setCells,List.mem_append] at hc
              rcases hc with (hc|hc)|hc
              · exact hcs c (List.mem_of_mem_take hc)
              · exact hsc c hc
              · exact hcs c (List.mem_of_mem_drop hc)
            · intro o q' hq'
              have hfil:∀ (o q':Nat),eA o (y.tags.filter fun p=>p.1 < off || off + z≤p.1)=some q'→(cur.toList.take off++(a.eval V).cells.toList++cur.toList.drop (off + (a.eval V).cells.toList.length)).toArray[o]? = some (τ q')∧U q':=by
                intro o q' hq'
                obtain ⟨hq1,hq2⟩:=z9 hq' (fun x=>rfl)
                refine ⟨?_,h4 o q' hq1⟩
                have:=hct o q' hq1
                rw [List.getElem?_toArray,gW _ _ _ (by rw [hvl]; simp; omega),hvl]
                simp at hq2
                split
                · simpa using this
                · rw [if_neg (by omega)]; simpa using this
              cases q with
              | none=>exact hfil o q' hq'
              | some q =>
                simp only [eA] at hq'
                by_cases e:o=off
                · subst e
                  simp at hq'
                  subst hq'
                  have hsc1:av.scalar=true:=by cases av<;>simp_all [jh,AV.scalar]
                  have hz1:(a.eval V).cells.toList=[a.eval V]:=Du hdv hsc1
                  refine ⟨?_,huv⟩
                  rw [List.getElem?_toArray,gW _ _ _ (by rw [hvl]; simp; omega),hz1]
                  simp only [List.length_singleton,Nat.lt_irrefl,if_false,Nat.lt_add_one,if_true,Nat.sub_self]
                  simpa using htag q rfl
                · have hf:(o == off)=false:=by simpa using e
                  simp only [hf,cond_false] at hq'
                  exact hfil o q' hq'
end ops
end Go.Eng
