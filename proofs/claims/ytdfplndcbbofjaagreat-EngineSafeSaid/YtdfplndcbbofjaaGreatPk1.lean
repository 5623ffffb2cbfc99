/- The engine and the library,part 1 of 16: what the proofs of this seat need of them. -/
import Derived.WalkKit
import Derived.RangeFuncNested
import Derived.RangeFuncLeaves
import Derived.OrdersIn
import Derived.LoopNIn
import Derived.ChangeKeysEq
import Derived.Laws.Externs
import Derived.Lib.SliceRun
import Ieee.Arith
import GoSem.Core.Float
import Derived.ProofKit
import Derived.OpenShut
import Derived.ShutString
import Derived.ChangeOld
import Derived.Below
set_option linter.unnecessarySimpa false
set_option linter.unusedSimpArgs false
set_option linter.unusedVariables false
set_option linter.defProp false
set_option maxRecDepth 10000
set_option maxHeartbeats 4000000
namespace Go.Eng
open Go
inductive AV where
 | bool (b:Bool)
 | int (k:IntKind) (n:Int)
 | float (k:FloatKind) (n:Nat)
 | str (s:ByteArray)
 | Az
 | bw
 | sl (xs:List (List AV))
 | fn (f:Fn) (first caps:List AV)
 | dW
 | iface (t:Nat) (v:AV)
 | AQ
 | agg (cs:List AV)
 | cI (vs:List AV)
 | ref (cs:List AV)
 /-- a float (of 64 bits) that is no number,whichever -/
 | dX
 deriving Inhabited
inductive SV where
 | dat (a:AV) (q:Option Nat)
 | ptr (b off:Nat)
 | rp (cs:List AV)
 | undef
 /-- a slice v9 a box of its own or another's: n elements of z cells each,from off on -/
 | vs (b off n z:Nat)
 deriving Inhabited
structure dO where
 cells:List AV
 tags:List (Nat × Nat)
 deriving Inhabited
structure S where
 slots:List (Nat × SV)
 boxes:List (Nat × dO)
 live:List (Nat × Nat)
 nx:Nat
 deriving Inhabited
inductive bV where
 | t (n:Nat)
 | k (v:AV)
 deriving Inhabited
inductive CK where
 | b | i | f | s
 deriving DecidableEq,Inhabited
inductive Xt where
 | CX | ffrom | rte
 deriving DecidableEq,Inhabited
inductive bU where
 | mv (x:bV)
 | pick (c a b:bV)
 | alloc (cs:List AV)
 | box (x:bV)
 | build (zs:List AV) (parts:List (Nat × Nat × bV))
 | oU (e z:Nat) (xs:List bV)
 | ld (x:bV) (sz:Option Nat)
 | st (x v:bV) (sz:Nat)
 | fa (x:bV) (off:Nat)
 | Hf (x i:bV) (n z:Nat)
 | NI (x i:bV) (z:Nat)
 | BG (x:bV) (off:Nat) (sz:Option Nat)
 | CY (x i:bV) (n z:Nat) (sz:Option Nat)
 | bin (op:BinOp) (x y:bV)
 | eqc (ks:List CK) (neg:Bool) (x y:bV)
 | bb (neg:Bool) (x y:bV)
 | un (op:UnOp) (x:bV)
 | tr (k:IntKind) (x:bV)
 | AA (k:FloatKind) (x:bV)
 | CZ (k:IntKind) (x:bV)
 | BH (x:bV)
 | Hg (x:bV)
 | IF (n:Nat)
 | app (e z bytes:Nat) (s x:bV)
 | call (f:Nat) (args:List bV)
 | bT (f:Nat) (args:List bV)
 | qo (g:bV) (args:List bV)
 | ext (x:bV) (i:Nat)
 | vM (fn:Fn) (first caps:List bV)
 | NJ (z:Nat) (x:bV) (lo hi:Option bV)
 | nc (x:bV)
 | mm (max:Bool) (args:List bV)
 | xt (e:Xt) (x:bV)
 | Nk (x:bV) (n z:Nat)
 | Qy (x i:bV)
 | NK (neg:Bool) (x:bV)
 | gz (g:bV) (args:List bV)
 | ye (f:Nat) (args:List bV)
 | qq (g:bV) (args:List bV)
 | Qg (x:bV) (n z:Nat) (hi:bV)
 | AB (e z bytes:Nat) (y x:bV)
 deriving Inhabited
structure CO where
 dst:Option Nat
 op:bU
 g:Option (Nat × Bool)
 deriving Inhabited
inductive bp where
 | skip
 | KY (ops:List CO)
 | seq (a b:bp)
 | join (a b:bp)
 | cond (c:bV) (a b:bp)
 | block (id:Nat) (c:bp)
 | loop (c:bp)
 | exit (id:Nat)
 | ret
 | mW (g:bV) (ps wr:List Nat) (as bd:bp)
 | nB (ops:List CO) (dA:List (Nat × Nat))
 | scope (l:Nat) (c r:bp)
 | label (l:Nat)
 | goto (l:Nat)
 deriving Inhabited
def AV.cells:AV→List AV
 | .agg cs=>cs
 | v=>[v]
def AV.scalar:AV→Bool
 | .agg _ | .cI _=>false
 | _=>true
def Hh:Value→Option AV
 | .bool b=>some (.bool b)
 | .int k n=>some (.int k n)
 | .float k n=>some (.float k n)
 | .string s=>some (.str s)
 | .pointer none=>some .Az
 | .slice none 0 0=>some .bw
 | .nilFunc=>some .dW
 | .nilIface=>some .AQ
 | _=>none
def TW:Value→Option AV
 | .agg cs=>(cs.toList.mapM Hh).map .agg
 | v=>Hh v
def wR (op:BinOp) (k:IntKind) (x y:Int):Option Int :=
 let a:=BitVec.ofInt k.bits x
 let b:=BitVec.ofInt k.bits y
 match op with
 | .and=>some (k.wrap (a &&& b).toNat)
 | .or=>some (k.wrap (a ||| b).toNat)
 | .xor=>some (k.wrap (a ^^^ b).toNat)
 | .andNot=>some (k.wrap (a &&& ~~~b).toNat)
 | _=>none
def qj (op:BinOp) (k:IntKind) (x y:Int):Option AV :=
 match op with
 | .add=>some (.int k (k.wrap (x + y)))
 | .sub=>some (.int k (k.wrap (x - y)))
 | .mul=>some (.int k (k.wrap (x * y)))
 | .quo=>if y=0 then none else some (.int k (k.wrap (x.tdiv y)))
 | .rem=>if y=0 then none else some (.int k (x.tmod y))
 | .and | .or | .xor | .andNot=>(wR op k x y).map (.int k)
 | .eql=>some (.bool (x == y))
 | .neq=>some (.bool (x != y))
 | .lss=>some (.bool (decide (x < y)))
 | .leq=>some (.bool (decide (x≤y)))
 | .gtr=>some (.bool (decide (x > y)))
 | .geq=>some (.bool (decide (x ≥ y)))
 | _=>none
def AD (n:Nat):Bool:=match FloatKind.f64.decode n with
 | .nan ..=>true
 | _=>false
def EP:FloatKind→Option Nat→Option AV
 | k,some r=>some (.float k r)
 | .f64,none=>some .dX
 | .f32,none=>none
def tu:BinOp→Option AV
 | .add | .sub | .mul | .quo=>some .dX
 | .neq=>some (.bool true)
 | .eql | .lss | .leq | .gtr | .geq=>some (.bool false)
 | _=>none
def yf (op:BinOp) (k:FloatKind) (x y:Nat):Option AV :=
 let c:=k.format.order x y
 match op with
 | .add=>EP k (k.format.add x y)
 | .sub=>EP k (k.format.sub x y)
 | .mul=>EP k (k.format.mul x y)
 | .quo=>EP k (k.format.div x y)
 | .eql=>some (.bool (c == some .eq))
 | .neq=>some (.bool (c != some .eq))
 | .lss=>some (.bool (c == some .lt))
 | .leq=>some (.bool (c == some .lt || c == some .eq))
 | .gtr=>some (.bool (c == some .gt))
 | .geq=>some (.bool (c == some .gt || c == some .eq))
 | _=>none
def qy (op:BinOp) (k:IntKind) (x y:Int):Option AV :=
 if y < 0 then none else
 match op with
 | .shl=>some (.int k (k.wrap (x * 2 ^ min y.toNat k.bits)))
 | .shr=>some (.int k (x.fdiv (2 ^ min y.toNat k.bits)))
 | _=>none
def dF (op:BinOp) (a b:AV):Option AV :=
 match op,a,b with
 | .shl,.int k x,.int _ y=>qy .shl k x y
 | .shr,.int k x,.int _ y=>qy .shr k x y
 | op,.int k x,.int k' y=>if k=k' then qj op k x y else none
 | op,.float k x,.float k' y=>if k=k' then yf op k x y else none
 | op,.dX,.float .f64 _=>tu op
 | op,.float .f64 _,.dX=>tu op
 | op,.dX,.dX=>tu op
 | _,_,_=>none
def Qh (neg:Bool):AV→AV→Option AV
 | .bool x,.bool y=>some (.bool (if neg then x != y else x == y))
 | _,_=>none
def tv:CK→AV→AV→Option Bool
 | .b,.bool x,.bool y=>some (x == y)
 | .i,.int k x,.int k' y=>if k=k' then some (x == y) else none
 | .f,.float k x,.float k' y=>if k=k' then some (k.format.order x y == some .eq) else none
 | .s,.str x,.str y=>some (x == y)
 | _,_,_=>none
def dm:List CK→List AV→List AV→Option Bool
 | [],[],[]=>some true
 | k :: ks,a :: as,b :: bs=>match tv k a b,dm ks as bs with
  | some x,some y=>some (x && y)
  | _,_=>none
 | _,_,_=>none
def NL (op:UnOp) (a:AV):Option AV :=
 match op,a with
 | .neg,.int k n=>some (.int k (k.wrap (0 - n)))
 | .xor,.int k n=>(wR .xor k (if k.signed then -1 else k.max) n).map (.int k)
 | .neg,.float k b=>some (.float k (Op.negFloat k b))
 | .not,.bool b=>some (.bool !b)
 | _,_=>none
def AR (k:IntKind):AV→Option AV
 | .int _ n=>some (.int k (k.wrap n))
 | _=>none
def yg (k:FloatKind):AV→Option AV
 | .int _ n=>some (.float k (k.nearest n))
 | _=>none
def wS (k:IntKind):AV→Option AV
 | .float s b=>match (s.decode b).toInt .zero with
  | some n=>if k.min≤n∧n≤k.max then some (.int k n) else none
  | none=>none
 | _=>none
def BI (b:Nat):Option AV :=
 match FloatKind.f64.decode b with
 | .nan _ t=>if FloatKind.f64.format.quiet t=t then some (.float .f64 b) else none
 | d=>some (.float .f64 (FloatKind.f64.encode (d.integral .even)))
def Qi:Xt→AV→Option AV
 | .CX,.float .f64 b=>some (.int .u64 b)
 | .ffrom,.int .u64 n=>some (.float .f64 n.toNat)
 | .rte,.float .f64 b=>BI b
 | _,_=>none
def cJ (z:Nat):Nat→List AV→List (List AV)
 | 0,_=>[]
 | n + 1,cs=>cs.take z :: cJ z n (cs.drop z)
def F2 (s:ByteArray) (i:Int):Option AV :=
 if 0≤i∧i < s.size then some (.int .u8 (s[i.toNat]!).toNat) else none
def xG:AV→Option AV
 | .bw=>some (.int .i64 0)
 | .sl xs=>some (.int .i64 xs.length)
 | _=>none
def C0:Bool→AV→Option Bool
 | neg,.bw=>some (!neg)
 | neg,.sl _=>some neg
 | _,_=>none
def Nl (mx:Bool):AV→AV→Option AV
 | .int k x,.int _ y=>some (.int k (if mx then (if y > x then y else x) else (if y < x then y else x)))
 | .float k x,.float k' y=>if k=k' then match k.format.order x y with
   | none=>if k=.f64 then some .dX else none
   | some .lt=>some (.float k (if mx then y else x))
   | some .gt=>some (.float k (if mx then x else y))
   | some .eq=>some (.float k (if mx then (if (k.decode x).neg then y else x) else (if (k.decode x).neg then x else y)))
  else none
 | .dX,.float .f64 _=>some .dX
 | .float .f64 _,.dX=>some .dX
 | .dX,.dX=>some .dX
 | _,_=>none
def IG:AV→Nat→Option AV
 | .cI vs,i=>vs[i]?
 | _,_=>none
def aD (cs:List AV) (off:Nat):Option Nat→Option AV
 | none=>cs[off]?
 | some n=>if off + n≤cs.length then some (.agg ((cs.drop off).take n)) else none
def bE:List AV→List (Nat × List AV)→List AV
 | cs,[]=>cs
 | cs,(off,ps) :: rest=>bE (cs.take off++ps++cs.drop (off + ps.length)) rest
def lk:Nat→List (Nat × SV)→Option SV
 | _,[]=>none
 | n,(m,v) :: r=>bif n == m then some v else lk n r
def cL:Nat→List (Nat × dO)→Option dO
 | _,[]=>none
 | n,(m,v) :: r=>bif n == m then some v else cL n r
def eA:Nat→List (Nat × Nat)→Option Nat
 | _,[]=>none
 | n,(m,v) :: r=>bif n == m then some v else eA n r
def qk:Nat→dO→List (Nat × dO)→List (Nat × dO)
 | _,_,[]=>[]
 | n,b,(m,v) :: r=>bif n == m then (m,b) :: r else (m,v) :: qk n b r
def qm:Nat→List (Nat × Nat)→List (Nat × Nat)
 | _,[]=>[]
 | n,(m,v) :: r=>bif n == m then qm n r else (m,v) :: qm n r
def S.put (s:S) (d:Option Nat) (v:SV):S :=
 match d with
 | none=>s
 | some d=>{ s with slots:=(d,v) :: s.slots }
def cM (s:S):bV→Option SV
 | .t n=>lk n s.slots
 | .k v=>some (.dat v none)
def aG (s:S) (x:bV):Option AV :=
 match cM s x with
 | some (.dat a _)=>some a
 | some (.rp cs)=>some (.ref cs)
 | _=>none
def dL (s:S):List bV→Option (List AV)
 | []=>some []
 | x :: r=>match aG s x,dL s r with
  | some a,some as=>some (a :: as)
  | _,_=>none
def ak {α:Type} (o:Option α) (k:α→Prop):Prop :=
 match o with
 | some a=>k a
 | none=>False
@[simp] theorem aM {α:Type} (a:α) (k:α→Prop):ak (some a) k=k a:=rfl
@[simp] theorem NM {α:Type} (k:α→Prop):ak none k=False:=rfl
def jc:AV→Option Nat→Bool
 | .cI _,_=>false
 | .agg _,some _=>false
 | _,_=>true
def ig (s:S):List (Nat × Nat × bV)→Option (List (Nat × List AV))
 | []=>some []
 |(off,sz,x) :: r=>match aG s x,ig s r with
  | some a,some ps=>if a.cells.length=sz∧jc a none=true then some ((off,a.cells) :: ps) else none
  | _,_=>none
def lE (s:S) (z:Nat):List bV→Option (List (List AV))
 | []=>some []
 | x :: r=>match aG s x,lE s z r with
  | some a,some rows=>if a.cells.length=z∧jc a none=true then some (a.cells :: rows) else none
  | _,_=>none
def idxOf:AV→Option Int
 | .int _ i=>some i
 | _=>none
def setCells (cs:List AV) (off:Nat) (ps:List AV):List AV:=cs.take off++ps++cs.drop (off + ps.length)
def vN:Option AV→Option Int
 | some a=>idxOf a
 | none=>none
def yh (s:S):Option bV→Option Int
 | none=>some 0
 | some x=>vN (aG s x)
def yj (s:S) (xs:List (List AV)):Option bV→Option Int
 | none=>some xs.length
 | some x=>vN (aG s x)
def II (a:AV) (xs:List (List AV)) (l h:Int):AV :=
 match a with
 | .bw=>.bw
 | _=>.sl ((xs.take h.toNat).drop l.toNat)
structure bk where
 c:Nat→List AV→AV→Option Nat→Prop
 p:Nat→List (List AV)→List (Option AV)→AV→Option Nat→List (List AV)→Prop
 /-- what a function that is ranged v9 yields,one after the other -/
 i:AV→List (List AV)→Prop
def eW (s:S):List bV→Option (List (Option AV) × List Nat)
 | []=>some ([],[])
 | x :: r=>match cM s x,eW s r with
  | some (.dat a _),some (as,bs)=>some (some a :: as,bs)
  | some (.rp cs),some (as,bs)=>some (some (.ref cs) :: as,bs)
  | some (.ptr b 0),some (as,bs)=>some (none :: as,b :: bs)
  | _,_=>none
def bM (l:List (Nat × dO)):List Nat→Option (List (List AV))
 | []=>some []
 | b :: bs=>match cL b l,bM l bs with
  | some x,some css=>some (x.cells :: css)
  | _,_=>none
def dU (l:List (Nat × dO)):List Nat→Option (List (List AV))
 | []=>some []
 | b :: bs=>match cL b l,dU l bs with
  | some ⟨cs,[]⟩,some css=>some (cs :: css)
  | _,_=>none
def gA:List Nat→List (List AV)→List (Nat × dO)→List (Nat × dO)
 | b :: bs,cs :: css,l=>gA bs css (qk b ⟨cs,[]⟩ l)
 | _,_,l=>l
def qA (b:Nat) (cs:List AV):SV→SV
 | .ptr b' o=>bif b' == b then .rp (cs.drop o) else .ptr b' o
 | v=>v
def yl (b:Nat) (cs:List AV):List (Nat × SV)→List (Nat × SV)
 | []=>[]
 |(t,v) :: r=>(t,qA b cs v) :: yl b cs r
def sS:Nat→List (Nat × dO)→List (Nat × dO)
 | _,[]=>[]
 | n,(m,v) :: r=>bif n == m then sS n r else (m,v) :: sS n r
def gB:List Nat→List (List AV)→S→S
 | b :: bs,cs :: css,s=>gB bs css { s with slots:=yl b cs s.slots,boxes:=sS b s.boxes }
 | _,_,s=>s
theorem BJ:∀ {ids:List Nat} {css:List (List AV)} {s:S},(gB ids css s).nx=s.nx
 | [],css,s=>rfl
 | b :: bs,[],s=>rfl
 | b :: bs,cs :: css,s=>by rw [gB,BJ]
def jd:List (Option AV)→List (List AV)→List AV
 | some a :: as,css=>a :: jd as css
 | none :: as,cs :: css=>.ref cs :: jd as css
 | _,_=>[]
def jI:List Nat→Bool
 | []=>true
 | b :: bs=>decide (4≤b) && jI bs
def eM:List Nat→Bool
 | []=>true
 | b :: bs=>!bs.contains b && eM bs
def rowsOf:AV→Option (List (List AV))
 | .bw=>some []
 | .sl xs=>some xs
 | _=>none
def bS (C:bk) (id:Nat) (o:bU) (K:SV→S→Prop) (s:S):Prop :=
 match o with
 | .mv x=>ak (cM s x) fun v=>K v s
 | .pick c a b=>ak (aG s c) fun
   | .bool t=>ak (cM s a) fun u=>ak (cM s b) fun v=>(t=true→K u s)∧(t=false→K v s)
   | _=>False
 | .alloc cs=>K (.ptr id 0) { s with boxes:=(id,⟨cs,[]⟩) :: s.boxes }
 | .box x=>ak (aG s x) fun a=>jc a none=true∧K (.ptr id 0) { s with boxes:=(id,⟨a.cells,[]⟩) :: s.boxes }
 | .build zs parts=>ak (ig s parts) fun ps=>K (.dat (.agg (bE zs ps)) none) s
 | .oU e z xs=>ak (lE s z xs) fun rows=>K (.dat (.sl rows) (some id)) { s with live:=(id,e) :: s.live }
 | .ld x sz=>ak (cM s x) fun
   | .ptr b off=>ak (cL b s.boxes) fun bx=>ak (aD bx.cells off sz) fun a =>
     K (.dat a (match sz with | none=>eA off bx.tags | some _=>none)) s
   | .rp cs=>ak (aD cs 0 sz) fun a=>K (.dat a none) s
   | _=>False
 | .st x v sz=>ak (cM s x) fun
   | .ptr b off=>ak (cL b s.boxes) fun bx=>ak (cM s v) fun
     | .dat a q=>jc a q=true∧a.cells.length=sz∧off + sz≤bx.cells.length ∧
       K .undef { s with boxes:=qk b ⟨setCells bx.cells off a.cells,match q with | some q=>(off,q) :: bx.tags.filter (fun p=>p.1 < off || off + sz≤p.1) | none=>bx.tags.filter (fun p=>p.1 < off || off + sz≤p.1)⟩ s.boxes }
     | _=>False
   | _=>False
 | .fa x off=>ak (cM s x) fun
   | .ptr b o=>K (.ptr b (o + off)) s
   | .rp cs=>K (.rp (cs.drop off)) s
   | _=>False
 | .Hf x i n z=>ak (cM s x) fun p=>ak (aG s i) fun a=>ak (idxOf a) fun i=>(0≤i∧i < n) ∧
   match p with
   | .ptr b o=>K (.ptr b (o + i.toNat * z)) s
   | .rp cs=>K (.rp (cs.drop (i.toNat * z))) s
   | _=>False
 | .NI x i z=>ak (aG s x) fun l=>ak (aG s i) fun a=>ak (idxOf a) fun i=>ak (rowsOf l) fun xs=>(0≤i∧i < xs.length)∧ak (xs[i.toNat]?) fun row=>row.length=z∧K (.rp row) s
 | .BG x off sz=>ak (aG s x) fun
   | .agg cs=>ak (aD cs off sz) fun a=>K (.dat a none) s
   | _=>False
 | .CY x i n z sz=>ak (aG s x) fun
   | .agg cs=>ak (aG s i) fun a=>ak (idxOf a) fun i=>(0≤i∧i < n)∧ak (aD cs (i.toNat * z) sz) fun a=>K (.dat a none) s
   | _=>False
 | .bin op x y=>ak (aG s x) fun a=>ak (aG s y) fun b=>ak (dF op a b) fun v=>K (.dat v none) s
 | .eqc ks neg x y=>ak (aG s x) fun
   | .agg as=>ak (aG s y) fun
    | .agg bs=>ak (dm ks as bs) fun e=>K (.dat (.bool (e != neg)) none) s
    | _=>False
   | _=>False
 | .bb neg x y=>ak (aG s x) fun a=>ak (aG s y) fun b=>ak (Qh neg a b) fun v=>K (.dat v none) s
 | .un op x=>ak (aG s x) fun a=>ak (NL op a) fun v=>K (.dat v none) s
 | .tr k x=>ak (aG s x) fun a=>ak (AR k a) fun v=>K (.dat v none) s
 | .AA k x=>ak (aG s x) fun a=>ak (yg k a) fun v=>K (.dat v none) s
 | .CZ k x=>ak (aG s x) fun a=>ak (wS k a) fun v=>K (.dat v none) s
 | .BH x=>ak (cM s x) fun v=>K v s
 | .Hg x=>ak (aG s x) fun a=>ak (xG a) fun v=>K (.dat v none) s
 | .IF n=>K (.dat (.int .i64 n) none) s
 | .app e z bytes x y=>ak (cM s x) fun
   | .dat a q=>ak (rowsOf a) fun xs=>ak (aG s y) fun b=>ak (rowsOf b) fun ys =>
     (xs.length + ys.length) * bytes≤140737488355328∧(∀ r∈xs,r.length=z)∧(∀ r∈ys,r.length=z) ∧
     (match a,q with
      | .bw,_=>if ys=[] then K (.dat .bw none) s else K (.dat (.sl (xs++ys)) (some id)) { s with live:=(id,e) :: s.live }
      | .sl _,some q=>eA q s.live=some e∧K (.dat (.sl (xs++ys)) (some id)) { s with live:=(id,e) :: qm q s.live }
      | _,_=>False)
   | _=>False
 | .call f args=>ak (dL s args) fun as=>∃ r fr,C.c f as r fr∧K (.dat r (fr.map fun _=>id)) { s with live:=match fr with | some e=>(id,e) :: s.live | none=>s.live }
 | .bT f args=>ak (eW s args) fun p=>eM p.2=true∧ak (bM s.boxes p.2) fun css =>
   ∃ r fr css',C.p f css p.1 r fr css'∧K (.dat r (fr.map fun _=>id)) { s with boxes:=gA p.2 css' s.boxes,live:=match fr with | some e=>(id,e) :: s.live | none=>s.live }
 | .qo g args=>ak (aG s g) fun
   | .fn (.func f) first caps=>ak (dL s args) fun as=>∃ r fr,C.c f (first++as++caps) r fr∧K (.dat r (fr.map fun _=>id)) { s with live:=match fr with | some e=>(id,e) :: s.live | none=>s.live }
   | _=>False
 | .ext x i=>ak (aG s x) fun a=>ak (IG a i) fun v=>K (.dat v none) s
 | .vM fn first caps=>ak (dL s first) fun as=>ak (eW s caps) fun p=>(eM p.2 && jI p.2)=true∧ak (bM s.boxes p.2) fun css =>
   K (.dat (.fn fn as (jd p.1 css)) none) (gB p.2 css s)
 | .NJ z x lo hi=>ak (aG s x) fun a=>ak (rowsOf a) fun xs =>
   ak (yh s lo) fun l=>ak (yj s xs hi) fun h =>
   (0≤l∧l≤h∧h≤xs.length)∧(∀ r∈xs,r.length=z)∧K (.dat (II a xs l h) none) s
 | .nc x=>ak (cM s x) fun
   | .ptr b o=>K (.ptr b o) s
   | .rp cs=>K (.rp cs) s
   | .dat (.fn (.func f) as bs) q=>K (.dat (.fn (.func f) as bs) q) s
   | .dat (.ref cs) _=>K (.rp cs) s
   | _=>False
 | .mm mx args=>ak (dL s args) fun
   | []=>False
   | a :: r=>ak (r.foldlM (Nl mx) a) fun v=>K (.dat v none) s
 | .xt e x=>ak (aG s x) fun a=>ak (Qi e a) fun v=>K (.dat v none) s
 | .Nk x n z=>ak (cM s x) fun
   | .rp cs=>n * z≤cs.length∧K (.dat (.sl (cJ z n cs)) none) s
   | .ptr b off=>4≤b∧ak (cL b s.boxes) fun bx=>n * z≤(bx.cells.drop off).length∧K (.dat (.sl (cJ z n (bx.cells.drop off))) none) (gB [b] [bx.cells] s)
   | _=>False
 | .NK neg x=>ak (aG s x) fun a=>ak (C0 neg a) fun b=>K (.dat (.bool b) none) s
 | .gz g args=>ak (aG s g) fun
   | .fn (.func f) [] []=>ak (eW s args) fun p=>eM p.2=true∧ak (bM s.boxes p.2) fun css =>
     ∃ r fr css',C.p f css p.1 r fr css'∧K (.dat r (fr.map fun _=>id)) { s with boxes:=gA p.2 css' s.boxes,live:=match fr with | some e=>(id,e) :: s.live | none=>s.live }
   | _=>False
 | .ye f args=>ak (eW s args) fun p=>eM p.2=true∧ak (dU s.boxes p.2) fun css =>
   ∃ r,C.p f css p.1 r none css∧K (.dat r none) s
 | .qq g args=>ak (aG s g) fun
   | .fn (.func f) [] []=>ak (eW s args) fun p=>eM p.2=true∧ak (dU s.boxes p.2) fun css =>
     ∃ r,C.p f css p.1 r none css∧K (.dat r none) s
   | _=>False
 | .Qg x n z hi=>ak (cM s x) fun
   | .ptr b off=>ak (aG s hi) fun a=>ak (idxOf a) fun h=>(0≤h∧h≤n)∧K (.vs b off h.toNat z) s
   | _=>False
 | .AB e z bytes y x=>ak (cM s y) fun
   | .vs b off n z'=>ak (cM s x) fun
     | .ptr b' _=>(b'=b∧z'=z)∧ak (cL b s.boxes) fun bx=>(n * z≤(bx.cells.drop off).length∧n * bytes≤140737488355328) ∧
       (if n=0 then K (.dat .bw none) s else K (.dat (.sl (cJ z n (bx.cells.drop off))) (some id)) { s with live:=(id,e) :: s.live })
     | _=>False
   | _=>False
 | .Qy x i=>ak (aG s x) fun
   | .str b=>ak (aG s i) fun a=>ak (idxOf a) fun j=>ak (F2 b j) fun v=>K (.dat v none) s
   | _=>False
def kE (s:S) (g:Option (Nat × Bool)) (yes no:Prop):Prop :=
 match g with
 | none=>yes
 | some (t,want)=>match lk t s.slots with
  | some (.dat (.bool b) _)=>(b=want→yes)∧(b=!want→no)
  | some .undef=>no
  | _=>False
def je (C:bk) (base:Nat):Nat→List CO→(S→Prop)→S→Prop
 | _,[],K,s=>K s
 | i,o :: r,K,s=>kE s o.g
   (bS C (base + i) o.op (fun v s'=>je C base (i + 1) r K (s'.put o.dst v)) s)
   (je C base (i + 1) r K (s.put o.dst .undef))
def j8 (k:S→Prop) (Q:Exit→S→Prop):Exit→S→Prop
 | .normal,s=>k s
 | e,s=>Q e s
def gh (id:Nat) (Q:Exit→S→Prop):Exit→S→Prop
 | .exit id',s=>if id'=id then Q .normal s else Q (.exit id') s
 | e,s=>Q e s
def CS (m:List (Nat × Nat)) (q:Nat):Nat:=(eA q m).getD q
def AE (m:List (Nat × Nat)) (nx:Nat):SV→SV→Prop
 | .dat a _,.dat a' none=>a=a'
 | .dat a (some q),.dat a' (some q')=>a=a'∧q=CS m q'∧q' < nx
 | .ptr b o,.ptr b' o'=>b=b'∧o=o'∧b' < nx
 | .rp cs,.rp cs'=>cs=cs'
 | .undef,.undef=>True
 | _,_=>False
def fc (m:List (Nat × Nat)) (nx:Nat) (a:List (Nat × SV)):List (Nat × SV)→Prop
 | []=>True
 |(t,v) :: r=>ak (lk t a) (fun u=>AE m nx u v)∧fc m nx a r
def kF (m:List (Nat × Nat)) (nx:Nat) (a:List (Nat × Nat)):List (Nat × Nat)→Prop
 | []=>True
 |(o,q) :: r=>(eA o a=some (CS m q)∧q < nx)∧kF m nx a r
def gS (m:List (Nat × Nat)) (nx:Nat) (a:List (Nat × dO)):List (Nat × dO)→Prop
 | []=>True
 |(b,x) :: r=>ak (cL b a) (fun y=>y.cells=x.cells∧kF m nx y.tags x.tags∧b < nx)∧gS m nx a r
def iR (m:List (Nat × Nat)) (nx:Nat) (a:List (Nat × Nat)):List (Nat × Nat)→Prop
 | []=>True
 |(q,e) :: r=>(eA (CS m q) a=some e∧q < nx)∧iR m nx a r
def b9 (m:List (Nat × Nat)) (l:List (Nat × Nat)):Prop:=((l.map fun p=>CS m p.1).Nodup)
def Le (s s1:S):Prop :=
 4≤s1.nx∧∃ m,fc m s1.nx s.slots s1.slots∧gS m s1.nx s.boxes s1.boxes∧iR m s1.nx s.live s1.live∧b9 m s1.live
def down (F:S→Prop) (s:S):Prop:=∃ s1,Le s s1∧F s1∨F s
theorem ga {F:S→Prop} {s:S} (h:F s):down F s:=⟨s,.inr h⟩
def m5 (F:(Exit→S→Prop)→S→Prop) (Q:Exit→S→Prop):Nat→S→Prop
 | 0,_=>False
 | n + 1,s=>F (j8 (down (m5 F Q n)) Q) s
def bV.rd:bV→List Nat
 | .t n=>[n]
 | .k _=>[]
def F3:Option bV→List Nat
 | some x=>x.rd
 | none=>[]
def bg:List bV→List Nat
 | []=>[]
 | x :: r=>x.rd++bg r
def uu:List (Nat × Nat × bV)→List Nat
 | []=>[]
 |(_,_,x) :: r=>x.rd++uu r
def bU.rd:bU→List Nat
 | .mv x=>x.rd
 | .pick c a b=>c.rd++a.rd++b.rd
 | .alloc _=>[]
 | .box x=>x.rd
 | .build _ ps=>uu ps
 | .oU _ _ xs=>bg xs
 | .ld x _=>x.rd
 | .st x v _=>x.rd++v.rd
 | .fa x _=>x.rd
 | .Hf x i _ _=>x.rd++i.rd
 | .NI x i _=>x.rd++i.rd
 | .BG x _ _=>x.rd
 | .CY x i _ _ _=>x.rd++i.rd
 | .bin _ x y=>x.rd++y.rd
 | .eqc _ _ x y=>x.rd++y.rd
 | .bb _ x y=>x.rd++y.rd
 | .un _ x=>x.rd
 | .tr _ x=>x.rd
 | .AA _ x=>x.rd
 | .CZ _ x=>x.rd
 | .BH x=>x.rd
 | .Hg x=>x.rd
 | .IF _=>[]
 | .app _ _ _ x y=>x.rd++y.rd
 | .call _ args=>bg args
 | .bT _ args=>bg args
 | .qo g args=>g.rd++bg args
 | .ext x _=>x.rd
 | .vM _ a b=>bg a++bg b
 | .NJ _ x lo hi=>x.rd++F3 lo++F3 hi
 | .nc x=>x.rd
 | .mm _ args=>bg args
 | .xt _ x=>x.rd
 | .Nk x _ _=>x.rd
 | .Qy x i=>x.rd++i.rd
 | .NK _ x=>x.rd
 | .gz g args=>g.rd++bg args
 | .ye _ args=>bg args
 | .qq g args=>g.rd++bg args
 | .Qg x _ _ hi=>x.rd++hi.rd
 | .AB _ _ _ y x=>y.rd++x.rd
def bU.isApp:bU→Bool
 | .app ..=>true
 | _=>false
def bU.tw:bU→List Nat
 | .ld x _=>x.rd
 | .st x _ _=>x.rd
 | .bT _ args=>bg args
 | .gz _ args=>bg args
 | .ye _ args=>bg args
 | .qq _ args=>bg args
 | .vM _ _ b=>bg b
 | .Nk x _ _=>x.rd
 | .AB _ _ _ _ x=>x.rd
 | _=>[]
def bU.F4:bU→List Nat
 | .st x _ _=>x.rd
 | .bT _ args=>bg args
 | .gz _ args=>bg args
 | .vM _ _ b=>bg b
 | .Nk x _ _=>x.rd
 | _=>[]
def bU.wT:bU→Bool
 | .vM _ _ b=>!b.isEmpty
 | .Nk ..=>true
 | _=>false
def bU.qB:bU→List Nat
 | .mv x | .fa x _ | .Hf x _ _ _ | .nc x | .BH x=>x.rd
 | .pick _ a b=>a.rd++b.rd
 | _=>[]
def bU.IJ:bU→Bool
 | .alloc _ | .box _=>true
 | _=>false
def bU.ro:bU→bU
 | .bT f args=>.ye f args
 | .gz g args=>.qq g args
 | o=>o
def CO.ro (o:CO):CO:=⟨o.dst,o.op.ro,o.g⟩
def mX (ro:List Nat):Nat→List CO→List CO
 | _,[]=>[]
 | i,o :: r=>(bif ro.contains i then o.ro else o) :: mX ro (i + 1) r
theorem uv:∀ {i:Nat} {l:List CO},mX [] i l=l
 | _,[]=>rfl
 | i,o :: l=>by show o :: mX [] (i + 1) l=_; rw [uv]
def CO.rd (o:CO):List Nat:=o.op.rd++(match o.g with | some (t,_)=>[t] | none=>[])
abbrev Tag:=Option (Option Nat)
def Tag.AS:Tag→Nat→Bool
 | none,_=>true
 | some z,b=>z == some b
def Tag.TB:Tag→Tag→Bool
 | some none,_=>true
 | _,some none=>true
 | some (some a),some (some b)=>a != b
 | _,_=>false
def look:List (Nat × Tag)→Nat→Tag
 | [],_=>none
 |(t,z) :: r,n=>bif n == t then z else look r n
def CO.indep (x y:CO):Bool :=
 (match x.dst with | some d=>!y.rd.contains d && y.dst != some d | none=>true) &&
 (match y.dst with | some d=>!x.rd.contains d | none=>true) && !(x.op.isApp && y.op.isApp)
def CO.half (T:List (Nat × Tag)) (x y:CO):Bool :=
 x.op.F4.all fun t=>y.op.tw.all (fun u=>(look T t).TB (look T u)) && (!x.op.wT || y.rd.all fun u=>(look T t).TB (look T u))
def CO.qC (T:List (Nat × Tag)) (x y:CO):Bool:=x.indep y && x.half T y && y.half T x
def CO.apart (x y:CO):Bool:=x.qC [] y
def Nm (T:List (Nat × Tag)):List Nat→Tag
 | []=>some none
 | [t]=>look T t
 | t :: r=>if look T t == Nm T r then look T t else none
def Nn (T:List (Nat × Tag)) (base:Nat):Nat→List CO→List (Nat × Tag)
 | _,[]=>T
 | i,o :: r=>Nn (match o.dst with | some t=>(t,if o.op.IJ then some (some (base + i)) else Nm T o.op.qB) :: T | none=>T) base (i + 1) r
def EX:List (Nat × SV)→List (Nat × Tag)
 | []=>[]
 |(t,.ptr b _) :: r=>(t,some (some b)) :: EX r
 |(t,_) :: r=>(t,some none) :: EX r
def sg (T:List (Nat × Tag)):List (Nat × SV)→Bool
 | []=>true
 |(t,.ptr b _) :: r=>(look T t).AS b && sg T r
 |(_,_) :: r=>sg T r
def qD (T:List (Nat × Tag)) (id:Nat) (o:CO):Bool :=
 match o.dst with
 | none=>true
 | some t=>match look T t with
  | none=>true
  | some z=>if o.op.IJ then z == some id else o.op.qB.all fun u=>match look T u with | some z'=>z' == none || z' == z | none=>false
def lK (T:List (Nat × Tag)) (base:Nat):Nat→List CO→Bool
 | _,[]=>true
 | i,o :: r=>qD T (base + i) o && lK T base (i + 1) r
def wU (T:List (Nat × Tag)) (ops:List CO):List (Nat × Nat)→Bool
 | []=>true
 |(i,j) :: r=>(match ops[i]?,ops[j]? with | some x,some y=>x.qC T y | _,_=>false) && wU T ops r
def Qz (T:List (Nat × Tag)) (ops:List CO) (dA:List (Nat × Nat)) (base:Nat) (sl:List (Nat × SV)):Bool:=sg T sl && lK T base 0 ops && wU T ops dA
def AT (ops:List CO) (dA:List (Nat × Nat)) (base:Nat) (sl:List (Nat × SV)):Bool:=Qz (Nn (EX sl) base 0 ops) ops dA base sl
def ov:List Nat→List AV→S→S
 | p :: ps,x :: xs,s=>ov ps xs (s.put (some p) (.dat x none))
 | _,_,s=>s
def AF (wr:List Nat):List (Nat × SV)→List (Nat × SV)
 | []=>[]
 |(t,v) :: r=>bif wr.contains t then AF wr r else (t,v) :: AF wr r
def ym (wr:List Nat) (s:S):S:={ s with slots:=AF wr s.slots }
def ER (wr:List Nat) (F:S→Prop) (Q:Exit→S→Prop):Exit→S→Prop
 | .normal,s=>down F (ym wr s)
 | .ret,s=>Q .ret (ym wr s)
 | .exit id,s=>Q (.exit id) (ym wr s)
 | _,_=>False
def uw (K:S→Prop):Exit→S→Prop
 | .normal,s=>K s
 | _,_=>False
def nC (l:Nat) (K:S→Prop) (Q:Exit→S→Prop):Exit→S→Prop
 | .goto l',s=>l'=l∧K s
 | e,s=>Q e s
def yo (Q:Exit→S→Prop):Exit→S→Prop
 | .goto _,_=>False
 | e,s=>Q e s
def NN (C:bk) (ops:List CO) (dA:List (Nat × Nat)) (K:S→Prop) (s:S):Prop :=
 ∃ ro,AT (mX ro 0 ops) dA s.nx s.slots=true∧je C s.nx 0 (mX ro 0 ops) K s
def aw (C:bk):bp→(Exit→S→Prop)→S→Prop
 | .skip,Q,s=>Q .normal s
 | .KY ops,Q,s=>je C s.nx 0 ops (fun s'=>Q .normal { s' with nx:=s.nx + ops.length }) s
 | .seq a b,Q,s=>aw C a (j8 (aw C b Q) Q) s
 | .join a b,Q,s=>aw C a (j8 (down (aw C b Q)) Q) s
 | .cond c a b,Q,s=>ak (aG s c) fun
   | .bool t=>(t=true→aw C a Q s)∧(t=false→aw C b Q s)
   | _=>False
 | .block id c,Q,s=>aw C c (gh id Q) s
 | .loop c,Q,s=>down (fun s=>∃ n,m5 (aw C c) Q n s) s
 | .exit id,Q,s=>Q (.exit id) s
 | .ret,Q,s=>Q .ret s
 | .scope l c r,Q,s=>aw C c (nC l (aw C r (yo Q)) Q) s
 | .label _,Q,s=>Q .normal s
 | .goto l,Q,s=>Q (.goto l) s
 | .nB ops dA,Q,s=>∃ ids,(eM ids && jI ids)=true∧ak (bM s.boxes ids) fun css=>NN C ops dA (fun s'=>Q .normal { s' with nx:=s.nx + ops.length }) (gB ids css s)
 | .mW g ps wr as bd,Q,s=>ak (aG s g) fun gv=>∃ xs,C.i gv xs∧(∀ x∈xs,x.length=ps.length)∧∃ F:Nat→S→Prop,down (F 0) s∧(∀ i s',F i s'→aG s' g=some gv) ∧
   (∀ i x s',xs[i]? = some x→F i s'→aw C as (uw (aw C bd (ER wr (F (i + 1)) Q))) (ov ps x s'))∧∀ s',F xs.length s'→Q .normal s'
end Go.Eng
namespace Go.Eng
open Go
def fe (P:Program) (t:TypeId):Option Nat:=(P.info? t).map (·.size)
def mY (P:Program) (t:TypeId):Bool :=
 match P.underlying t with
 | some (.struct _) | some (.array _ _)=>true
 | _=>false
def xH (P:Program) (t:TypeId):Option (Option Nat) :=
 match P.underlying t with
 | some (.struct _) | some (.array _ _)=>(fe P t).map some
 | some _=>some none
 | none=>none
def zeroOf (P:Program) (t:TypeId):Option (List AV) :=
 match (P.info? t).bind (·.zero) with
 | some z=>z.cells.toList.mapM Hh
 | none=>none
def dG:Operand→Option bV
 | .tmp t=>some (.t t)
 | .const v=>(TW v).map .k
 | .func f=>some (.k (.fn (.func f) [] []))
 | .global _=>none
def m7 (l:Array Operand):Option (List bV):=l.toList.mapM dG
def ux (P:Program) (s:TypeId) (f:Nat):Option Field :=
 match P.underlying s with
 | some (.struct fs)=>fs[f]?
 | _=>none
def C1 (P:Program) (rec:TypeId→Option (List CK)):List Field→Nat→Option (List CK)
 | [],_=>some []
 | f :: fs,off =>
  if f.name = "_" ∨ f.offset ≠ off then none else
  match rec f.type with
  | some ks=>if fe P f.type=some ks.length∧0 < ks.length then (C1 P rec fs (off + ks.length)).map (ks++·) else none
  | none=>none
def lX (P:Program):Nat→TypeId→Option (List CK)
 | 0,_=>none
 | d + 1,t=>match P.underlying t with
  | some .bool=>some [.b]
  | some (.int _)=>some [.i]
  | some (.float _)=>some [.f]
  | some .string=>some [.s]
  | some (.struct fs)=>if P.stoodInHeld t then none else C1 P (lX P d) fs.toList 0
  | some (.array n e)=>match lX P d e with
   | some ks=>if fe P e=some ks.length then some (List.replicate n ks).flatten else none
   | none=>none
  | _=>none
def TC (P:Program) (t:TypeId) (neg:Bool) (x y:bV):Option bU :=
 match lX P 20 t with
 | some ks=>if mY P t && !P.eqGuardType P.depth t then some (.eqc ks neg x y) else none
 | none=>none
def F5 (P:Program) (t:TypeId):Bool :=
 match P.underlying t with
 | some (.int _) | some (.float _)=>true
 | _=>false
def IK (P:Program) (t:TypeId):Bool :=
 match P.underlying t with
 | some .bool=>true
 | _=>false
def fy (P:Program) (f:FuncId):Bool :=
 match P.funcs[f]? with
 | some fn => fn.name != "runtime.NumGoroutine" && fn.body.isSome
 | none=>false
def F6 (P:Program) (t:TypeId) (i:Nat):Option (Nat × Nat) :=
 match P.underlying t with
 | some (.struct fs)=>match fs[i]? with
  | some f=>(fe P f.type).map fun z=>(f.offset,z)
  | none=>none
 | some (.array _ e)=>(fe P e).map fun z=>(i * z,z)
 | _=>none
def vO (P:Program) (t:TypeId):List (Nat × Operand)→Option (List (Nat × Nat × bV))
 | []=>some []
 |(i,x) :: r=>match F6 P t i,dG x,vO P t r with
  | some (o,z),some x,some ps=>some ((o,z,x) :: ps)
  | _,_,_=>none
def sliceB (P:Program) (t:TypeId):Bool:=match P.underlying t with | some (.slice _)=>true | _=>false
def BK (P:Program) (t:TypeId):Bool :=
 match P.underlying t with
 | some (.struct fs)=>fs.toList.all fun f=>(fe P f.type).isSome
 | some (.array _ e)=>(fe P e).isSome
 | _=>false
def qE (zs:Nat):List (Nat × Nat × bV)→Bool
 | []=>true
 |(o,z,_) :: r=>decide (o + z≤zs) && qE zs r
def cOpt:Option Operand→Option (Option bV)
 | none=>some none
 | some x=>(dG x).map some
def F7 (P:Program) (s d:TypeId) (x:bV):Option bU :=
 match P.underlying s,P.underlying d with
 | some (.int _),some (.int k)=>some (.tr k x)
 | some (.int _),some (.float k)=>some (.AA k x)
 | some (.float _),some (.int k)=>some (.CZ k x)
 | _,_=>none
def EY (P:Program):List TypeId→Bool
 | []=>false
 | t :: r=>(match P.underlying t with | some (.pointer _)=>true | _=>false) || EY P r
def NO (P:Program) (f:FuncId):Option Xt :=
 match P.funcs[f]? with
 | some fn=>if fn.body.isNone && (Extern.findNext fn).isNone then
   if fn.name == "math.Float64bits" then some .CX
   else if fn.name == "math.Float64frombits" then some .ffrom
   else if fn.name == "math.RoundToEven" then some .rte
   else none
  else none
 | none=>none
def No (P:Program) (c:Call):Option bU :=
 match c.callee with
 | .value (.func f)=>if fy P f then (m7 c.args).map (if EY P c.argTypes.toList then .bT f else .call f)
  else match NO P f,c.args.toList with
   | some e,[x]=>(dG x).map (.xt e)
   | _,_=>none
 | .value g=>match dG g,m7 c.args with
  | some g,some as=>some (if EY P c.argTypes.toList then .gz g as else .qo g as)
  | _,_=>none
 | .builtin .len=>match c.argTypes[0]?,c.args[0]? with
  | some t,some x=>match P.underlying t with
   | some (.slice _)=>(dG x).map .Hg
   | some (.array n _)=>some (.IF n)
   | _=>none
  | _,_=>none
 | .builtin .append=>match c.argTypes.toList,c.args.toList with
  | [t,t'],[x,y]=>if t=t' then match P.underlying t,dG x,dG y with
    | some (.slice e),some x,some y=>match P.info? e with
     | some i=>match i.zero with
      | some z=>if 0 < i.size && z.cells.size == i.size && 0 < i.bytes then some (.app e i.size i.bytes x y) else none
      | none=>none
     | none=>none
    | _,_,_=>none
   else none
  | _,_=>none
 | .builtin .max=>(m7 c.args).map (.mm true)
 | .builtin .min=>(m7 c.args).map (.mm false)
 | _=>none
def TD (P:Program):Op→Option bU
 | .move x | .assign x=>(dG x).map .mv
 | .pick c a b=>match dG c,dG a,dG b with
  | some c,some a,some b=>some (.pick c a b)
  | _,_,_=>none
 | .alloc t=>(zeroOf P t).map .alloc
 | .box _ x=>(dG x).map .box
 | .build t ps=>match zeroOf P t,vO P t ps.toList with
  | some zs,some ps=>if qE zs.length ps && BK P t then some (.build zs ps) else none
  | _,_=>none
 | .buildSlice t n ps=>match P.underlying t with
  | some (.slice e)=>match zeroOf P e,fe P e,ps.toList.mapM (fun p=>dG p.2) with
   | some zs,some z,some xs=>if n * z≤16777216 && 0 < z && zs.length == z && ps.toList.map (·.1) == List.range n then some (.oU e z xs) else none
   | _,_,_=>none
  | _=>none
 | .load t x=>match xH P t,dG x with
  | some r,some x=>some (.ld x r)
  | _,_=>none
 | .store t x v=>match fe P t,dG x,dG v with
  | some z,some x,some v=>some (.st x v z)
  | _,_,_=>none
 | .nilCheck x=>(dG x).map .nc
 | .binOp op t x y _=>match dG x,dG y with
  | some x,some y =>
   if F5 P t then some (.bin op x y)
   else if IK P t then (match op with | .eql=>some (.bb false x y) | .neq=>some (.bb true x y) | _=>none)
   else if sliceB P t then (match op,y with | .eql,.k .bw=>some (.NK false x) | .neq,.k .bw=>some (.NK true x) | _,_=>none)
   else match op with
    | .eql=>TC P t false x y
    | .neq=>TC P t true x y
    | _=>none
  | _,_=>none
 | .unOp op _ x=>(dG x).map (.un op)
 | .convert s d x=>(dG x).bind (F7 P s d)
 | .fieldAddr s x f=>match ux P s f,dG x with
  | some fd,some x=>if fe P fd.type == some 0 || (fe P fd.type).isNone then none else some (.fa x fd.offset)
  | _,_=>none
 | .field s x f=>match ux P s f,dG x with
  | some fd,some x=>(xH P fd.type).map (.BG x fd.offset)
  | _,_=>none
 | .indexAddr t x i=>match P.underlying t,dG x,dG i with
  | some (.array n e),some x,some i=>(fe P e).map (.Hf x i n)
  | some (.slice e),some x,some i=>(fe P e).map (.NI x i)
  | _,_,_=>none
 | .index t x i=>match P.underlying t,dG x,dG i with
  | some (.array n e),some x,some i=>match fe P e,xH P e with
   | some z,some r=>some (.CY x i n z r)
   | _,_=>none
  | some .string,some x,some i=>some (.Qy x i)
  | _,_,_=>none
 | .extract x i=>(dG x).map (.ext · i)
 | .makeFunc (.func f) a b=>match m7 a,m7 b with
  | some a,some b=>if fy P f then some (.vM (.func f) a b) else none
  | _,_=>none
 | .slice t x lo hi none=>match P.underlying t,dG x,cOpt lo,cOpt hi with
  | some (.slice e),some x,some lo,some hi=>(fe P e).map fun z=>.NJ z x lo hi
  | some (.array n e),some x,some none,some none=>(fe P e).map fun z=>.Nk x n z
  | some (.array n e),some x,some none,some (some hi)=>(fe P e).map fun z=>.Qg x n z hi
  | _,_,_,_=>none
 | .call c=>No P c
 | _=>none
def QB (P:Program) (ops:List Oper) (y:Nat):Option Operand :=
 match ops.find? (fun o=>o.dst == some y) with
 | some o=>match o.op with
  | .slice t x none (some _) none=>match P.underlying t with
   | some (.array _ _)=>some x
   | _=>none
  | _=>none
 | none=>none
def BL (P:Program) (ops:List Oper):Op→Option bU
 | .call c=>match c.callee,c.argTypes.toList,c.args.toList with
  | .builtin .append,[t,t'],[.const (.slice none 0 0),.tmp y]=>if t=t' then match P.underlying t,(QB P ops y).bind dG with
    | some (.slice e),some x=>match P.info? e with
     | some i=>match i.zero with
      | some z=>if 0 < i.size && z.cells.size == i.size && 0 < i.bytes then some (.AB e i.size i.bytes (.t y) x) else none
      | none=>none
     | none=>none
    | _,_=>none
   else none
  | _,_,_=>none
 | _=>none
def NP (P:Program) (ops:List Oper) (o:Op):Option bU :=
 match BL P ops o with
 | some c=>some c
 | none=>TD P o
def EZ (ops:Array Oper):Option (Nat × Bool)→Option (Option (Nat × Bool))
 | none=>some none
 | some (j,w)=>match (ops[j]?).bind (·.dst) with
  | some t=>some (some (t,w))
  | none=>none
def wV (P:Program) (ops:Array Oper) (o:Oper):Option CO :=
 match NP P ops.toList o.op,EZ ops o.guard with
 | some c,some g=>some ⟨o.dst,c,g⟩
 | _,_=>none
def vP (P:Program) (ops:Array Oper):List Oper→Option (List CO)
 | []=>some []
 | o :: r=>match wV P ops o,vP P ops r with
  | some c,some cs=>some (c :: cs)
  | _,_=>none
def waits (ops:List Oper) (i:Nat) (oj:Oper):Bool :=
 oj.after.any fun e=>Region.binds .any e && (e.on == i || match ops[e.on]? with
  | some ok=>ok.after.any fun e'=>Region.binds .any e' && e'.on == i
  | none=>false)
def m8 (dA:List (Nat × Nat)) (ops:List Oper) (i:Nat) (x:CO):Nat→List Oper→List CO→Bool
 | j,oj :: os,y :: ys=>(decide (j≤i) || oj.after.any (fun e=>Region.binds .any e && e.on == i) || x.apart y || waits ops i oj || dA.contains (i,j)) && m8 dA ops i x (j + 1) os ys
 | _,_,_=>true
def lY (dA:List (Nat × Nat)) (ops:List Oper) (cos:List CO):Nat→List Oper→List CO→Bool
 | i,oi :: os,x :: xs=>oi.after.all (fun e=>!Region.binds .any e || decide (e.on < i)) && m8 dA ops i x 0 ops cos && lY dA ops cos (i + 1) os xs
 | _,_,_=>true
def qF (dA:List (Nat × Nat)) (ops:List Oper) (cos:List CO):Bool:=lY dA ops cos 0 ops cos
def IL (ops:List Oper) (i:Nat) (x:CO):Nat→List Oper→List CO→List (Nat × Nat)
 | j,oj :: os,y :: ys=>(if decide (j≤i) || oj.after.any (fun e=>Region.binds .any e && e.on == i) || x.apart y || waits ops i oj then [] else [(i,j)])++IL ops i x (j + 1) os ys
 | _,_,_=>[]
def F8 (ops:List Oper) (cos:List CO):Nat→List CO→List (Nat × Nat)
 | i,x :: xs=>IL ops i x 0 ops cos++F8 ops cos (i + 1) xs
 | _,[]=>[]
def F9 (cos:List CO):List (Nat × Nat)→Bool
 | []=>true
 |(i,j) :: r=>(match cos[i]?,cos[j]? with | some x,some y=>x.indep y | _,_=>false) && F9 cos r
def QC:Code→Bool
 | .region ..=>true
 | .skip=>true
 | _=>false
def dstsOf:List CO→List Nat
 | []=>[]
 | o :: r=>(match o.dst with | some d=>[d] | none=>[])++dstsOf r
def bp.writes:bp→List Nat
 | .KY ops=>dstsOf ops
 | .nB ops _=>dstsOf ops
 | .seq a b | .join a b | .cond _ a b=>a.writes++b.writes
 | .block _ c | .loop c=>c.writes
 | .mW _ _ wr _ _=>wr
 | .scope _ c r=>c.writes++r.writes
 | _=>[]
def bp.after (l:Nat):bp→Option bp
 | .seq a b | .join a b=>match a.after l with
  | some r=>some (.join r b)
  | none=>b.after l
 | .label l'=>if l' == l then some .skip else none
 | _=>none
def bp.labels:bp→List Nat
 | .seq a b | .join a b=>a.labels++b.labels
 | .label l=>[l]
 | _=>[]
def ez (P:Program):Code→Option bp
 | .skip=>some .skip
 | .region _ ops oA=>match vP P ops ops.toList with
  | some cos=>if oA then
    match F8 ops.toList cos 0 cos with
    | []=>if qF [] ops.toList cos then some (.KY cos) else none
    | dA=>if qF dA ops.toList cos && F9 cos dA then some (.nB cos dA) else none
   else some (.KY cos)
  | none=>none
 | .seq a b=>match ez P a,ez P b with
  | some x,some y=>some (if QC a then .seq x y else .join x y)
  | _,_=>none
 | .cond c a b=>match dG c,ez P a,ez P b with
  | some c,some a,some b=>some (.cond c a b)
  | _,_,_=>none
 | .block id c=>(ez P c).map (.block id)
 | .loop c=>(ez P c).map .loop
 | .exit id=>some (.exit id)
 | .ret=>some .ret
 | .label l=>some (.label l)
 | .goto l=>some (.goto l)
 | .scope c=>match ez P c with
  | some c=>match c.labels with
   | [l]=>(c.after l).map (.scope l c)
   | _=>none
  | none=>none
 | .rangeFunc g ps as bd=>match dG g,ez P as,ez P bd with
  | some g,some a,some b =>
   let wr:=ps.toList++a.writes++b.writes
   if g.rd.all (fun t=>!wr.contains t) then some (.mW g ps.toList wr a b) else none
  | _,_,_=>none
 | _=>none
def jf (n:Nat):List CO→Bool
 | []=>true
 | o :: r=>(match o.dst with | some d=>decide (d < n) | none=>true) && jf n r
def bp.fits (n:Nat):bp→Bool
 | .KY ops=>jf n ops
 | .nB ops _=>jf n ops
 | .seq a b | .join a b | .cond _ a b=>a.fits n && b.fits n
 | .block _ c | .loop c=>c.fits n
 | .scope _ c r=>c.fits n && r.fits n
 | .mW _ ps wr a b=>ps.all (fun t=>decide (t < n)) && a.fits n && b.fits n && ps.all (fun t=>wr.contains t) && a.writes.all (fun t=>wr.contains t) && b.writes.all (fun t=>wr.contains t)
 | _=>true
inductive nD where
 | tmp (t:Nat)
 | cell (t:Nat) (sz:Option Nat)
 deriving Inhabited
def Hi (P:Program):ResultVar→Option nD
 | .tmp t=>some (.tmp t)
 | .cell a t=>(xH P t).map (.cell a)
structure bY where
 nt:Nat
 res:List nD
 code:bp
def aL (P:Program) (f:FuncId):Option bY :=
 match P.funcs[f]? with
 | some fn=>match fn.body,fn.results.toList.mapM (Hi P) with
  | some c,some rs=>match ez P c with
   | some cc=>if cc.fits fn.ntmps && fy P f then some ⟨fn.ntmps,rs,cc⟩ else none
   | none=>none
  | _,_=>none
 | none=>none
end Go.Eng
namespace Go.Eng
open Go
open Go.RowKit (Below)
inductive DV (w:World) (π:Nat→Nat→Prop):AV→Value→Prop
 | bool (b:Bool):DV w π (.bool b) (.bool b)
 | int (k:IntKind) (n:Int):DV w π (.int k n) (.int k n)
 | float (k:FloatKind) (n:Nat):DV w π (.float k n) (.float k n)
 | str (s:ByteArray):DV w π (.str s) (.string s)
 | Az:DV w π .Az (.pointer none)
 | bw:DV w π .bw (.slice none 0 0)
 | dW:DV w π .dW .nilFunc
 | AQ:DV w π .AQ .nilIface
 | dX (n:Nat):AD n=true→DV w π .dX (.float .f64 n)
 | iface (t:Nat) (a:AV) (v:Value):DV w π a v→DV w π (.iface t a) (.iface t v)
 | agg (as:List AV) (vs:Array Value):as.length=vs.size→(∀ a∈as,a.scalar=true)→(∀ (i:Nat) (a:AV) (v:Value),as[i]? = some a→vs[i]? = some v→DV w π a v)→DV w π (.agg as) (.agg vs)
 | cI (as:List AV) (vs:Array Value):as.length=vs.size→(∀ (i:Nat) (a:AV) (v:Value),as[i]? = some a→vs[i]? = some v→DV w π a v)→DV w π (.cI as) (.tuple vs)
 | fn (f:Fn) (as:List AV) (vs:Array Value) (bs:List AV) (us:Array Value):as.length=vs.size→bs.length=us.size →
   (∀ (i:Nat) (a:AV) (v:Value),as[i]? = some a→vs[i]? = some v→DV w π a v)→(∀ (i:Nat) (a:AV) (v:Value),bs[i]? = some a→us[i]? = some v→DV w π a v)→DV w π (.fn f as bs) (.func f vs us)
 | sl (xs:List (List AV)) (B off cap z:Nat) (f:Nat→Nat→Value):xs.length≤cap→(∀ (i:Nat) (r:List AV),xs[i]? = some r→r.length=z) →
   (∀ (i j:Nat) (r:List AV) (a:AV),xs[i]? = some r→r[j]? = some a→a.scalar=true) →
   (∀ (i j:Nat) (r:List AV) (a:AV),xs[i]? = some r→r[j]? = some a→π B (off + i * z + j)) →
   (∀ (i j:Nat) (r:List AV) (a:AV),xs[i]? = some r→r[j]? = some a→w.cell? ⟨B,off + i * z + j,none⟩=some (f i j)) →
   (∀ (i j:Nat) (r:List AV) (a:AV),xs[i]? = some r→r[j]? = some a→DV w π a (f i j))→DV w π (.sl xs) (.slice (some ⟨B,off,none⟩) xs.length cap)
 | IM (A:Addr):DV w π (.sl []) (.slice (some A) 0 0)
 | ref (cs:List AV) (B off:Nat) (f:Nat→Value):(∀ (j:Nat) (a:AV),cs[j]? = some a→a.scalar=true)→(∀ (j:Nat) (a:AV),cs[j]? = some a→π B (off + j)) →
   (∀ (j:Nat) (a:AV),cs[j]? = some a→w.cell? ⟨B,off + j,none⟩=some (f j))→(∀ (j:Nat) (a:AV),cs[j]? = some a→DV w π a (f j))→DV w π (.ref cs) (.pointer (some ⟨B,off,none⟩))
theorem DV.mono {w w':World} {π π':Nat→Nat→Prop} (hp:∀ b o,π b o→π' b o) (hc:∀ b o,π b o→w'.cell? ⟨b,o,none⟩=w.cell? ⟨b,o,none⟩) {a:AV} {v:Value} (h:DV w π a v):DV w' π' a v:=by
 induction h with
 | bool | int | float | str | Az | bw | dW | AQ=>constructor
 | iface t a v _ ih=>exact .iface t a v ih
 | dX n h=>exact .dX n h
 | agg as vs hl hs _ ih=>exact .agg as vs hl hs ih
 | cI as vs hl _ ih=>exact .cI as vs hl ih
 | fn f as vs bs us h1 h2 _ _ ih1 ih2=>exact .fn f as vs bs us h1 h2 ih1 ih2
 | sl xs B off cap z f h1 h2 h3 h4 h5 _ ih =>
  exact .sl xs B off cap z f h1 h2 h3 (fun i j r a hr ha=>hp _ _ (h4 i j r a hr ha)) (fun i j r a hr ha=>(hc _ _ (h4 i j r a hr ha)).trans (h5 i j r a hr ha)) ih
 | IM A=>exact .IM A
 | ref cs B off f h1 h2 h3 _ ih=>exact .ref cs B off f h1 (fun j a ha=>hp _ _ (h2 j a ha)) (fun j a ha=>(hc _ _ (h2 j a ha)).trans (h3 j a ha)) ih
def jJ (w:World) (π:Nat→Nat→Prop) (as:List AV) (vs:List Value):Prop :=
 as.length=vs.length∧∀ (i:Nat) (a:AV) (v:Value),as[i]? = some a→vs[i]? = some v→DV w π a v
theorem jJ.mono {w w':World} {π π':Nat→Nat→Prop} (hp:∀ b o,π b o→π' b o) (hc:∀ b o,π b o→w'.cell? ⟨b,o,none⟩=w.cell? ⟨b,o,none⟩) {as:List AV} {vs:List Value} (h:jJ w π as vs):jJ w' π' as vs :=
 ⟨h.1,fun i a v ha hv=>(h.2 i a v ha hv).mono hp hc⟩
theorem jJ.nil (w:World) (π:Nat→Nat→Prop):jJ w π [] []:=⟨rfl,fun i a v h=>by simp at h⟩
theorem jJ.cons {w:World} {π:Nat→Nat→Prop} {a:AV} {v:Value} {as:List AV} {vs:List Value} (h:DV w π a v) (hs:jJ w π as vs):jJ w π (a :: as) (v :: vs):=by
 refine ⟨by simp [hs.1],fun i x u hx hu=>?_⟩
 cases i with
 | zero=>simp at hx hu; subst hx; subst hu; exact h
 | succ i=>exact hs.2 i x u (by simpa using hx) (by simpa using hu)
theorem jJ.append {w:World} {π:Nat→Nat→Prop} {as bs:List AV} {vs us:List Value} (h:jJ w π as vs) (k:jJ w π bs us):jJ w π (as++bs) (vs++us):=by
 refine ⟨by simp [h.1,k.1],fun i x u hx hu=>?_⟩
 by_cases hi:i < as.length
 ·exact h.2 i x u (by rwa [List.getElem?_append_left hi] at hx) (by rwa [List.getElem?_append_left (by rw [← h.1]; exact hi)] at hu)
 ·rw [List.getElem?_append_right (by omega)] at hx
  rw [List.getElem?_append_right (by rw [← h.1]; omega)] at hu
  exact k.2 (i - as.length) x u hx (by rw [h.1]; exact hu)
theorem jJ.get {w:World} {π:Nat→Nat→Prop} {as:List AV} {vs:List Value} (h:jJ w π as vs) {i:Nat} {a:AV} (ha:as[i]? = some a):∃ v,vs[i]? = some v∧DV w π a v:=by
 have hi:i < as.length:=by
  rcases Nat.lt_or_ge i as.length with h|h
  ·exact h
  ·rw [List.getElem?_eq_none h] at ha; cases ha
 have hv:vs[i]? = some vs[i]!:=by
  rw [List.getElem?_eq_getElem (by rw [← h.1]; exact hi)]
  simp [getElem!_pos vs i (by rw [← h.1]; exact hi)]
 exact ⟨_,hv,h.2 i a _ ha hv⟩
theorem DV.Ga {w:World} {π:Nat→Nat→Prop} {a:AV} {v:Value} (h:DV w π a v) (hs:a.scalar=true):v.oneCell'=true:=by
 cases h<;>first | rfl | (simp [AV.scalar] at hs)
theorem DV.cells {w:World} {π:Nat→Nat→Prop} {a:AV} {v:Value} (h:DV w π a v) (ht:∀ vs,a≠.cI vs):jJ w π a.cells v.cells.toList∧∀ x∈a.cells,x.scalar=true:=by
 cases h with
 | agg as vs hl hs hd=>exact ⟨⟨by simpa [AV.cells,Value.cells] using hl,fun i a v ha hv=>hd i a v ha (by simpa [Value.cells] using hv)⟩,hs⟩
 | cI as vs=>exact absurd rfl (ht as)
 | bool b=>exact ⟨.cons (.bool b) (.nil _ _),by simp [AV.cells,AV.scalar]⟩
 | int k n=>exact ⟨.cons (.int k n) (.nil _ _),by simp [AV.cells,AV.scalar]⟩
 | float k n=>exact ⟨.cons (.float k n) (.nil _ _),by simp [AV.cells,AV.scalar]⟩
 | str s=>exact ⟨.cons (.str s) (.nil _ _),by simp [AV.cells,AV.scalar]⟩
 | Az=>exact ⟨.cons .Az (.nil _ _),by simp [AV.cells,AV.scalar]⟩
 | bw=>exact ⟨.cons .bw (.nil _ _),by simp [AV.cells,AV.scalar]⟩
 | dW=>exact ⟨.cons .dW (.nil _ _),by simp [AV.cells,AV.scalar]⟩
 | AQ=>exact ⟨.cons .AQ (.nil _ _),by simp [AV.cells,AV.scalar]⟩
 | iface t a v h=>exact ⟨.cons (.iface t a v h) (.nil _ _),by simp [AV.cells,AV.scalar]⟩
 | dX n h=>exact ⟨.cons (.dX n h) (.nil _ _),by simp [AV.cells,AV.scalar]⟩
 | fn f as vs bs us h1 h2 h3 h4=>exact ⟨.cons (.fn f as vs bs us h1 h2 h3 h4) (.nil _ _),by simp [AV.cells,AV.scalar]⟩
 | ref cs B off f h1 h2 h3 h4=>exact ⟨.cons (.ref cs B off f h1 h2 h3 h4) (.nil _ _),by simp [AV.cells,AV.scalar]⟩
 | IM A=>exact ⟨.cons (.IM A) (.nil _ _),by simp [AV.cells,AV.scalar]⟩
 | sl xs B off cap z f h1 h2 h3 h4 h5 h6=>exact ⟨.cons (.sl xs B off cap z f h1 h2 h3 h4 h5 h6) (.nil _ _),by simp [AV.cells,AV.scalar]⟩
theorem Gb {w:World} {π:Nat→Nat→Prop} {v:Value} {a:AV} (h:Hh v=some a):DV w π a v∧a.scalar=true:=by
 unfold Hh at h
 split at h<;>first | (cases h; exact ⟨by constructor,rfl⟩) | cases h
theorem vQ {w:World} {π:Nat→Nat→Prop}:∀ (l:List Value) (as:List AV),l.mapM Hh=some as→jJ w π as l∧∀ a∈as,a.scalar=true
 | [],as,h=>by simp at h; subst h; exact ⟨.nil _ _,by simp⟩
 | v :: l,as,h=>by
  simp only [List.mapM_cons,Option.bind_eq_bind,Option.bind_eq_some_iff,Option.pure_def,Option.some.injEq] at h
  obtain ⟨a,ha,as',has,rfl⟩:=h
  have h1:=Gb (w:=w) (π:=π) ha
  have h2:=vQ (w:=w) (π:=π) l as' has
  exact ⟨.cons h1.1 h2.1,by simpa using ⟨h1.2,h2.2⟩⟩
theorem NQ {w:World} {π:Nat→Nat→Prop} {v:Value} {a:AV} (h:TW v=some a):DV w π a v:=by
 unfold TW at h
 split at h
 ·rename_i cs
  simp only [Option.map_eq_some_iff] at h
  obtain ⟨as,has,rfl⟩:=h
  have h2:=vQ (w:=w) (π:=π) _ _ has
  exact .agg as cs (by simpa using h2.1.1) h2.2 (fun i a v ha hv=>h2.1.2 i a v ha (by simpa using hv))
 ·exact (Gb h).1
structure mZ where
 n:Nat
 X:Nat→Prop
 β:Nat→Nat
def mZ.ok (F:mZ) (B:Nat):Prop:=F.n≤B∨F.X B
def mZ.U9 (F:mZ) (b B:Nat):Prop:=F.n≤B∨(b < 4∧F.X B)
def mZ.top (w:World):mZ:=⟨w.heap.size,fun _=>False,id⟩
structure yp (n:mZ) (w w':World):Prop where
 os:w'.os=w.os
 tape:w'.tape=w.tape
 output:w'.output=w.output
 size:w.heap.size≤w'.heap.size
 block:∀ k,k < n.n→¬ n.X k→w'.heap[k]? = w.heap[k]?
 /-- what is no variables' block lies as it lay -/
 others:∀ (k:Nat) (o:Obj),w.heap[k]? = some o→o.isCells=false→w'.heap[k]? = some o
theorem yp.refl (n:mZ) (w:World):yp n w w:=⟨rfl,rfl,rfl,Nat.le_refl _,fun _ _ _=>rfl,fun _ _ h _=>h⟩
theorem yp.trans {n:mZ} {a b c:World} (h:yp n a b) (k:yp n b c):yp n a c :=
 ⟨k.os.trans h.os,k.tape.trans h.tape,k.output.trans h.output,Nat.le_trans h.size k.size,fun i hi hx=>(k.block i hi hx).trans (h.block i hi hx),fun i o hi ho=>k.others i o (h.others i o hi ho) ho⟩
theorem yp.of {n:mZ} {w w':World} (h:Below w.heap.size w w') (hn:n.n≤w.heap.size):yp n w w':=⟨h.os,h.tape,h.output,h.size,fun k hk _=>h.block k (by omega),fun k o hk _=>(h.block k (Array.getElem?_eq_some_iff.1 hk).1).trans hk⟩
theorem yp.below {n:mZ} {w w':World} (h:yp n w w') (hX:∀ k,¬ n.X k):Below n.n w w':=⟨h.os,h.tape,h.output,h.size,fun k hk=>h.block k hk (hX k)⟩
def ES (P:Program) (w:World) (π:Nat→Nat→Prop) (n0 e:Nat) (v:Value):Prop :=
 v=.slice none 0 0∨∃ B len cap cur i,v=.slice (some ⟨B,0,none⟩) len cap∧n0≤B∧w.heap[B]? = some (.cells cur e (0,0))∧len≤cap∧cap≤maxLen∧P.info? e=some i∧cur.size=cap * i.size∧∀ o,len * i.size≤o→¬ π B o
def m3:Value→Option Nat
 | .slice (some a) _ _=>some a.block
 | _=>none
def C2 (P:Program) (f:FuncId) (args:List AV) (r:AV) (fr:Option Nat):Prop :=
 fy P f=true ∧
 ∀ (w:World) (π:Nat→Nat→Prop) (vs:List Value),(∀ b o,π b o→b < w.heap.size)→jJ w π args vs →
  Calls P f vs.toArray w fun e w'=>∃ v π',e=.returned v∧Below w.heap.size w w'∧(∀ b o,π b o→π' b o)∧(∀ b o,π' b o→π b o∨w.heap.size≤b) ∧
   (∀ b o,π' b o→b < w'.heap.size)∧DV w' π' r v∧∀ t,fr=some t→ES P w' π' w.heap.size t v
def RV (β:Nat→Nat) (τ:Nat→Value) (w:World) (π:Nat→Nat→Prop):SV→Value→Prop
 | .dat a q,v=>DV w π a v∧∀ t,q=some t→v=τ t
 | .ptr b off,v=>v=.pointer (some ⟨β b,off,none⟩)
 | .rp cs,v=>∃ (B off:Nat) (f:Nat→Value),v=.pointer (some ⟨B,off,none⟩)∧(∀ (j:Nat) (a:AV),cs[j]? = some a→a.scalar=true)∧(∀ (j:Nat) (a:AV),cs[j]? = some a→π B (off + j)) ∧
   (∀ (j:Nat) (a:AV),cs[j]? = some a→w.cell? ⟨B,off + j,none⟩=some (f j))∧∀ (j:Nat) (a:AV),cs[j]? = some a→DV w π a (f j)
 | .undef,v=>v=undef
 | .vs b off n _,v=>∃ cap,n≤cap∧v=.slice (some ⟨β b,off,none⟩) n cap
def SV.gR (U:Nat→Prop):SV→Prop
 | .dat _ (some q)=>U q
 | .ptr b _=>U b
 | .vs b _ _ _=>U b
 | _=>True
def tA (τ:Nat→Value) (w:World) (π:Nat→Nat→Prop) (B:Nat) (x:dO):Prop :=
 ∃ cur el,w.heap[B]? = some (.cells cur el (0,0))∧jJ w π x.cells cur.toList∧(∀ a∈x.cells,a.scalar=true)∧(∀ o q,eA o x.tags=some q→cur[o]? = some (τ q))∧∀ o,¬ π B o
def ff (w:World) (π:Nat→Nat→Prop):List (List AV)→List Nat→Prop
 | [],[]=>True
 | cs :: css,B :: Bs=>tA (fun _=>undef) w π B ⟨cs,[]⟩∧ff w π css Bs
 | _,_=>False
def sW (w:World) (π:Nat→Nat→Prop):List (Option AV)→List Nat→List Value→Prop
 | [],[],[]=>True
 | some a :: as,Bs,v :: vs=>DV w π a v∧sW w π as Bs vs
 | none :: as,B :: Bs,v :: vs=>v=.pointer (some ⟨B,0,none⟩)∧sW w π as Bs vs
 | _,_,_=>False
def mZ.AG (w:World) (Bs:List Nat):mZ:=⟨w.heap.size,fun B=>B∈Bs,fun k=>Bs.getD k 0⟩
def C3 (P:Program) (f:FuncId) (css:List (List AV)) (args:List (Option AV)) (r:AV) (fr:Option Nat) (css':List (List AV)):Prop :=
 fy P f=true∧css'.length=css.length∧css.length≤4 ∧
 ∀ (w:World) (π:Nat→Nat→Prop) (Bs:List Nat) (vs:List Value),(∀ b o,π b o→b < w.heap.size)→Bs.Nodup→ff w π css Bs→sW w π args Bs vs →
  Calls P f vs.toArray w fun e w'=>∃ v π',e=.returned v∧yp (mZ.AG w Bs) w w'∧(∀ b o,π b o→π' b o)∧(∀ b o,π' b o→π b o∨w.heap.size≤b) ∧
   (∀ b o,π' b o→b < w'.heap.size)∧ff w' π' css' Bs∧DV w' π' r v∧∀ t,fr=some t→ES P w' π' w.heap.size t v
def NR:AV→Value
 | .bool b=>.bool b
 | .int k n=>.int k n
 | .float k n=>.float k n
 | .str s=>.string s
 | .Az=>.pointer none
 | .bw=>.slice none 0 0
 | _=>undef
def m9:AV→Bool
 | .bool _ | .int .. | .float .. | .str _ | .Az | .bw=>true
 | _=>false
def AH:AV→Value
 | .agg cs=>.agg (cs.map NR).toArray
 | a=>NR a
def lF:AV→Bool
 | .agg cs=>cs.all m9
 | a=>m9 a
theorem DV.m9 {w:World} {π:Nat→Nat→Prop} {a:AV} (h:Eng.m9 a=true):DV w π a (NR a):=by
 cases a<;>first | (simp [Eng.m9] at h; done) | constructor
theorem DV.flat {w:World} {π:Nat→Nat→Prop} {a:AV} (h:lF a=true):DV w π a (AH a):=by
 cases a with
 | agg cs =>
  simp only [lF,List.all_eq_true] at h
  refine .agg cs _ (by simp) (fun a ha=>?_) (fun i a v ha hv=>?_)
  ·have:=h a ha; cases a<;>first | rfl | (simp [Eng.m9] at this; done)
  ·simp only [List.getElem?_toArray,List.getElem?_map,ha,Option.map_some,Option.some.injEq] at hv
   subst hv; exact .m9 (h a (List.mem_of_getElem? ha))
 | _=>first | exact .m9 h | (simp [lF,Eng.m9] at h; done)
def Iter (P:Program) (gv:AV) (xs:List (List AV)):Prop :=
 ∃ gf caps,gv=.fn (.func gf) [] caps∧fy P gf=true∧(∀ x∈xs,∀ a∈x,lF a=true) ∧
 ∀ (l:Nat) (J:Nat→World→Prop) (Jx:World→Prop) (W:World) (π:Nat→Nat→Prop) (vs:List Value),(∀ b o,π b o→b < W.heap.size)→jJ W π caps vs →
  (∀ i W',J i W'→∀ b o,π b o→W'.cell? ⟨b,o,none⟩=W.cell? ⟨b,o,none⟩) →
  (∀ i W W',J i W→Below W.heap.size W W'→J i W')→(∀ W W',Jx W→Below W.heap.size W W'→Jx W') →
  (∀ n i x W,xs[i]? = some x→J i W→YieldAt Fence.wide n P l (x.map AH).toArray W fun e W'=>(e=.returned (.bool true)∧J (i + 1) W')∨(e=.returned (.bool false)∧Jx W')) →
  J 0 W →
  Calls P gf (#[.func (.yield l) #[] #[]]++vs.toArray) W fun e W'=>(∃ v,e=.returned v)∧(J xs.length W'∨Jx W')
def Pure (P:Program):bk:=⟨C2 P,C3 P,Iter P⟩
structure Rel (P:Program) (nt:Nat) (n0:mZ) (w0:World) (π0:Nat→Nat→Prop) (U:Nat→Prop) (s:S) (a:Act) (w:World) (β:Nat→Nat) (τ:Nat→Value) (π:Nat→Nat→Prop):Prop where
 size:a.tmps.size=nt
 slots:∀ t v,lk t s.slots=some v→(∃ x,a.tmps[t]? = some x∧RV β τ w π v x)∧v.gR U
 boxes:∀ b x,cL b s.boxes=some x→U b∧n0.U9 b (β b)∧tA τ w π (β b) x∧∀ o q,eA o x.tags=some q→U q
 inj:∀ b b' x x',cL b s.boxes=some x→cL b' s.boxes=some x'→β b=β b'→b=b'
 live:∀ q e,eA q s.live=some e→U q∧ES P w π n0.n e (τ q)
 b9:∀ q q' e e' B,eA q s.live=some e→eA q' s.live=some e'→m3 (τ q)=some B→m3 (τ q')=some B→q=q'
 dZ:∀ q e b x,eA q s.live=some e→cL b s.boxes=some x→m3 (τ q)≠some (β b)
 below:yp n0 w0 w
 gi:n0.n≤w0.heap.size
 gT:∀ b o,π b o→b < w.heap.size
 fJ:∀ b o,π0 b o→π b o
 dM:∀ b o,π b o→π0 b o∨n0.n≤b
 sU:∀ k,k < 4→β k=n0.β k
 lZ:∀ k,k < 4→U k
 kept:∀ b o,π0 b o→w.cell? ⟨b,o,none⟩=w0.cell? ⟨b,o,none⟩
end Go.Eng
namespace Go.Eng
open Go
open Go.RowKit (Below)
theorem Below.si {n:Nat} {w w':World} (h:Below n w w') {b o:Nat} (hb:b < n):w'.cell? ⟨b,o,none⟩=w.cell? ⟨b,o,none⟩:=Below.cell h (p:=⟨b,o,none⟩) hb
theorem RV.mono {β β':Nat→Nat} {τ τ':Nat→Value} {w w':World} {π π':Nat→Nat→Prop} {U:Nat→Prop} (hβ:∀ b,U b→β' b=β b) (hτ:∀ b,U b→τ' b=τ b)
  (hp:∀ b o,π b o→π' b o) (hc:∀ b o,π b o→w'.cell? ⟨b,o,none⟩=w.cell? ⟨b,o,none⟩) {v:SV} {x:Value} (hU:v.gR U) (h:RV β τ w π v x):RV β' τ' w' π' v x:=by
 cases v with
 | dat a q =>
  refine ⟨h.1.mono hp hc,fun t ht=>?_⟩
  subst ht
  rw [hτ t hU]; exact h.2 t rfl
 | ptr b off =>
  show x=_
  rw [hβ b hU]; exact h
 | rp cs =>
  obtain ⟨B,off,f,hx,h1,h2,h3,h4⟩:=h
  exact ⟨B,off,f,hx,h1,fun j a ha=>hp _ _ (h2 j a ha),fun j a ha=>(hc _ _ (h2 j a ha)).trans (h3 j a ha),fun j a ha=>(h4 j a ha).mono hp hc⟩
 | undef=>exact h
 | vs b off n z =>
  obtain ⟨cap,h1,h2⟩:=h
  exact ⟨cap,h1,by rw [hβ b hU]; exact h2⟩
theorem SV.uy {U U':Nat→Prop} (hU:∀ n,U n→U' n) {v:SV} (h:v.gR U):v.gR U':=by
 cases v with
 | dat a q=>cases q with
  | none=>trivial
  | some q=>exact hU _ h
 | ptr b off=>exact hU _ h
 | rp cs=>trivial
 | undef=>trivial
 | vs b off n z=>exact hU _ h
theorem oV {w:World} {B:Nat} {o:Obj} (h:w.heap[B]? = some o):B < w.heap.size:=(Array.getElem?_eq_some_iff.1 h).1
theorem ES.block {P:Program} {w:World} {π:Nat→Nat→Prop} {n0 e B:Nat} {v:Value} (h:ES P w π n0 e v) (hB:m3 v=some B) :
  n0≤B∧B < w.heap.size:=by
 rcases h with rfl|⟨B',len,cap,cur,i,rfl,h1,h2,_⟩
 ·simp [m3] at hB
 ·simp [m3] at hB; subst hB; exact ⟨h1,oV h2⟩
theorem ES.keep {P:Program} {w w':World} {π π':Nat→Nat→Prop} {n0 e:Nat} {v:Value} (h:ES P w π n0 e v)
  (hb:∀ B,m3 v=some B→w'.heap[B]? = w.heap[B]?) (hp:∀ B o,m3 v=some B→π' B o→π B o):ES P w' π' n0 e v:=by
 rcases h with rfl|⟨B',len,cap,cur,i,rfl,h1,h2,h3,h4,h5,h6,h7⟩
 ·exact .inl rfl
 ·exact .inr ⟨B',len,cap,cur,i,rfl,h1,(hb B' rfl).trans h2,h3,h4,h5,h6,fun o ho hc=>h7 o ho (hp B' o rfl hc)⟩
theorem tA.keep {τ τ':Nat→Value} {w w':World} {π π':Nat→Nat→Prop} {U:Nat→Prop} {B:Nat} {x:dO} (h:tA τ w π B x) (hτ:∀ q,U q→τ' q=τ q) (hU:∀ o q,eA o x.tags=some q→U q)
  (hb:w'.heap[B]? = w.heap[B]?) (hp:∀ b o,π b o→π' b o) (hc:∀ b o,π b o→w'.cell? ⟨b,o,none⟩=w.cell? ⟨b,o,none⟩) (hn:∀ o,¬ π' B o):tA τ' w' π' B x:=by
 obtain ⟨cur,el,h1,h2,h3,h4,_⟩:=h
 exact ⟨cur,el,hb.trans h1,h2.mono hp hc,h3,fun o q hq=>by rw [hτ q (hU o q hq)]; exact h4 o q hq,hn⟩
section
variable {P:Program} {nt:Nat} {n0:mZ} {w0:World} {π0:Nat→Nat→Prop} {U U':Nat→Prop} {s:S} {a:Act} {w w':World} {β β':Nat→Nat} {τ τ':Nat→Value} {π π':Nat→Nat→Prop}
theorem Rel.frame (R:Rel P nt n0 w0 π0 U s a w β τ π) (hβ:∀ b,U b→β' b=β b) (hτ:∀ b,U b→τ' b=τ b) (hU:∀ n,U n→U' n)
  (hp:∀ b o,π b o→π' b o) (hp':∀ b o,π' b o→π b o∨w.heap.size≤b) (hpl:∀ b o,π' b o→b < w'.heap.size) (hbel:Below w.heap.size w w') :
  Rel P nt n0 w0 π0 U' s a w' β' τ' π':=by
 have hc:∀ b o,π b o→w'.cell? ⟨b,o,none⟩=w.cell? ⟨b,o,none⟩:=fun b o h=>Below.si hbel (R.gT b o h)
 have hsz:n0.n≤w.heap.size:=Nat.le_trans R.gi R.below.size
 refine ⟨R.size,fun t v h=>?_,fun b x h=>?_,fun b b' x x' h h' e=>?_,fun q e h=>?_,fun q q' e e' B h h' hB hB'=>?_,fun q e b x h h' hB=>?_,R.below.trans (.of hbel hsz),R.gi,hpl,fun b o h=>hp _ _ (R.fJ b o h),fun b o h=>?_,fun k hk=>by rw [hβ k (R.lZ k hk)]; exact R.sU k hk,fun k hk=>hU k (R.lZ k hk),fun b o h=>(hc b o (R.fJ b o h)).trans (R.kept b o h)⟩
 ·obtain ⟨⟨x,hx,hv⟩,hu⟩:=R.slots t v h
  exact ⟨⟨x,hx,RV.mono hβ hτ hp hc hu hv⟩,SV.uy hU hu⟩
 ·obtain ⟨h1,h2,h3,h4⟩:=R.boxes b x h
  rw [hβ b h1]
  have hlt:β b < w.heap.size:=by obtain ⟨cur,el,hh,_⟩:=h3; exact oV hh
  refine ⟨hU b h1,h2,h3.keep hτ h4 (hbel.block _ hlt) hp hc (fun o ho=>?_),fun o q hq=>hU _ (h4 o q hq)⟩
  rcases hp' _ _ ho with h|h
  ·obtain ⟨_,_,_,_,_,_,hn⟩:=h3; exact hn o h
  ·omega
 ·rw [hβ b (R.boxes b x h).1,hβ b' (R.boxes b' x' h').1] at e
  exact R.inj b b' x x' h h' e
 ·obtain ⟨h1,h2⟩:=R.live q e h
  rw [hτ q h1]
  refine ⟨hU q h1,h2.keep (fun B hB=>hbel.block _ (h2.block hB).2) (fun B o hB ho=>?_)⟩
  rcases hp' _ _ ho with h|h
  ·exact h
  ·have:=(h2.block hB).2; omega
 ·rw [hτ q (R.live q e h).1] at hB
  rw [hτ q' (R.live q' e' h').1] at hB'
  exact R.b9 q q' e e' B h h' hB hB'
 ·rw [hτ q (R.live q e h).1,hβ b (R.boxes b x h').1] at hB
  exact R.dZ q e b x h h' hB
 ·rcases hp' b o h with h | h
  ·exact R.dM b o h
  ·exact .inr (by omega)
theorem Rel.sub (R:Rel P nt n0 w0 π0 U s a w β τ π) (hU:∀ n,U n→U' n):Rel P nt n0 w0 π0 U' s a w β τ π :=
 R.frame (fun _ _=>rfl) (fun _ _=>rfl) hU (fun _ _ h=>h) (fun _ _ h=>.inl h) R.gT (Below.refl _ _)
theorem Rel.put (R:Rel P nt n0 w0 π0 U s a w β τ π) (d:Option Nat) {v:SV} {x:Value} (hd:∀ t,d=some t→t < nt) (hv:RV β τ w π v x) (hu:v.gR U):Rel P nt n0 w0 π0 U (s.put d v) (a.put d x) w β τ π:=by
 cases d with
 | none=>exact R
 | some d =>
  refine ⟨by simp [Act.put,R.size],fun t u h=>?_,R.boxes,R.inj,R.live,R.b9,R.dZ,R.below,R.gi,R.gT,R.fJ,R.dM,R.sU,R.lZ,R.kept⟩
  simp only [S.put,lk] at h
  by_cases e:t=d
  ·subst e
   simp at h
   subst h
   exact ⟨⟨x,by simp [Act.put,R.size,hd t rfl],hv⟩,hu⟩
  ·have:(t == d)=false:=by simpa using e
   simp only [this,cond_false] at h
   obtain ⟨⟨y,hy,hr⟩,hu'⟩:=R.slots t u h
   exact ⟨⟨y,by simp [Act.put,Array.getElem?_setIfInBounds_ne (Ne.symm e),hy],hr⟩,hu'⟩
theorem Rel.cM (R:Rel P nt n0 w0 π0 U s a w β τ π) {X:Operand} {x:bV} {v:SV} (hx:dG X=some x) (hv:cM s x=some v):RV β τ w π v (a.eval X)∧v.gR U:=by
 cases X with
 | tmp t =>
  simp [dG] at hx; subst hx
  obtain ⟨⟨y,hy,hr⟩,hu⟩:=R.slots t v hv
  refine ⟨?_,hu⟩
  have:a.eval (.tmp t)=y:=by simp [Act.eval,hy]
  rw [this]; exact hr
 | const c =>
  simp only [dG,Option.map_eq_some_iff] at hx
  obtain ⟨k,hk,rfl⟩:=hx
  simp [Eng.cM] at hv; subst hv
  exact ⟨⟨NQ hk,fun t ht=>by cases ht⟩,trivial⟩
 | global g=>simp [dG] at hx
 | func f =>
  simp [dG] at hx; subst hx
  simp [Eng.cM] at hv; subst hv
  refine ⟨⟨?_,fun t ht=>by cases ht⟩,trivial⟩
  exact .fn (.func f) [] #[] [] #[] rfl rfl (fun i a v h=>by simp at h) (fun i a v h=>by simp at h)
theorem RV.ref {β:Nat→Nat} {τ:Nat→Value} {w:World} {π:Nat→Nat→Prop} {cs:List AV} {v:Value}:RV β τ w π (.rp cs) v↔DV w π (.ref cs) v:=by
 constructor
 ·rintro ⟨B,off,f,rfl,h1,h2,h3,h4⟩
  exact .ref cs B off f h1 h2 h3 h4
 ·intro h
  cases h with
  | ref _ B off f h1 h2 h3 h4=>exact ⟨B,off,f,rfl,h1,h2,h3,h4⟩
theorem Rel.aG (R:Rel P nt n0 w0 π0 U s a w β τ π) {X:Operand} {x:bV} {v:AV} (hx:dG X=some x) (hv:Eng.aG s x=some v):DV w π v (a.eval X):=by
 unfold Eng.aG at hv
 split at hv
 ·rename_i b q ho
  cases hv
  exact (R.cM hx ho).1.1
 ·rename_i cs ho
  cases hv
  exact RV.ref.1 (R.cM hx ho).1
 ·cases hv
theorem Rel.dL (R:Rel P nt n0 w0 π0 U s a w β τ π):∀ {Xs:List Operand} {xs:List bV} {vs:List AV},Xs.mapM dG=some xs→Eng.dL s xs=some vs→jJ w π vs (Xs.map a.eval)
 | [],xs,vs,hx,hv=>by
  simp at hx; subst hx
  simp [Eng.dL] at hv; subst hv
  exact .nil _ _
 | X :: Xs,xs,vs,hx,hv=>by
  simp only [List.mapM_cons,Option.bind_eq_bind,Option.bind_eq_some_iff,Option.pure_def,Option.some.injEq] at hx
  obtain ⟨x,hx,xs',hxs,rfl⟩:=hx
  simp only [Eng.dL] at hv
  split at hv
  ·rename_i a' as h1 h2
   cases hv
   exact .cons (R.aG hx h1) (R.dL hxs h2)
  ·cases hv
def E0 {α:Type} (f:Nat→α) (n:Nat) (x:α):Nat→α:=fun m=>if m=n then x else f m
theorem dI {α:Type} (f:Nat→α) (n:Nat) (x:α):E0 f n x n=x:=by simp [E0]
theorem yq {α:Type} (f:Nat→α) (n:Nat) (x:α) {m:Nat} (h:m≠n):E0 f n x m=f m:=by simp [E0,h]
def iS (U:Nat→Prop) (n:Nat):Nat→Prop:=fun m=>U m∨m=n
theorem Rel.IP (R:Rel P nt n0 w0 π0 U s a w β τ π) {id:Nat} (hid:¬ U id) {cells:List AV} {cs:Array Value} (e:TypeId) (hd:jJ w π cells cs.toList) (hs:∀ a∈cells,a.scalar=true) :
  Rel P nt n0 w0 π0 (iS U id) { s with boxes:=(id,⟨cells,[]⟩) :: s.boxes } a (w.alloc (.cells cs e)) (E0 β id w.heap.size) τ π:=by
 have hne:∀ b,U b→b≠id:=fun b hb e=>hid (e ▸ hb)
 have hbel:Below w.heap.size w (w.alloc (.cells cs e)):=(Below.refl _ _).alloc (Nat.le_refl _) _
 have R1:Rel P nt n0 w0 π0 (iS U id) s a (w.alloc (.cells cs e)) (E0 β id w.heap.size) τ π :=
  R.frame (fun b hb=>yq _ _ _ (hne b hb)) (fun _ _=>rfl) (fun n h=>.inl h) (fun _ _ h=>h) (fun _ _ h=>.inl h) (fun b o h=>by have:=R.gT b o h; simp; omega) hbel
 have hsz:n0.n≤w.heap.size:=Nat.le_trans R.gi R.below.size
 have hold:∀ b x,cL b s.boxes=some x→E0 β id w.heap.size b≠w.heap.size:=fun b x h=>by
  obtain ⟨h1,_,⟨cur,el,hh,_⟩,_⟩:=R.boxes b x h
  rw [yq _ _ _ (hne b h1)]
  have:=oV hh
  omega
 refine ⟨R1.size,R1.slots,fun b x h=>?_,fun b b' x x' h h' e=>?_,R1.live,R1.b9,fun q e' b x h h' hB=>?_,R1.below,R1.gi,R1.gT,R1.fJ,R1.dM,R1.sU,R1.lZ,R1.kept⟩
 ·simp only [cL] at h
  by_cases hb:b=id
  ·subst hb
   simp at h
   subst h
   refine ⟨.inr rfl,by rw [dI]; exact .inl hsz,?_,fun o q h=>by simp [eA] at h⟩
   rw [dI]
   refine ⟨cs,e,heap_alloc_new w _,hd.mono (fun _ _ h=>h) (fun b o h=>Below.si hbel (R.gT b o h)),hs,fun o q h=>by simp [eA] at h,fun o h=>?_⟩
   have:=R.gT _ _ h; omega
  ·have:(b == id)=false:=by simpa using hb
   simp only [this,cond_false] at h
   exact R1.boxes b x h
 ·simp only [cL] at h h'
  by_cases hb:b=id
  ·by_cases hb':b'=id
   ·rw [hb,hb']
   ·have hf:(b' == id)=false:=by simpa using hb'
    simp only [hf,cond_false] at h'
    subst hb
    rw [dI] at e
    exact absurd e.symm (hold b' x' h')
  ·have hf:(b == id)=false:=by simpa using hb
   simp only [hf,cond_false] at h
   by_cases hb':b'=id
   ·subst hb'
    rw [dI] at e
    exact absurd e (hold b x h)
   ·have hf':(b' == id)=false:=by simpa using hb'
    simp only [hf',cond_false] at h'
    exact R1.inj b b' x x' h h' e
 ·simp only [cL] at h'
  by_cases hb:b=id
  ·subst hb
   rw [dI] at hB
   have:=((R.live q e' h).2.block hB).2
   omega
  ·have hf:(b == id)=false:=by simpa using hb
   simp only [hf,cond_false] at h'
   exact R1.dZ q e' b x h h' hB
theorem l5 {n m:Nat} {b:dO}:∀ {l:List (Nat × dO)} {x:dO},cL n (qk m b l)=some x→(n=m∧x=b∧∃ y,cL m l=some y)∨(n≠m∧cL n l=some x)
 | [],x,h=>by simp [qk,cL] at h
 |(k,v) :: r,x,h=>by
  simp only [qk] at h
  by_cases hk:m=k
  ·subst hk
   simp only [beq_self_eq_true,cond_true,cL] at h
   by_cases hn:n=m
   ·subst hn
    simp at h
    exact .inl ⟨rfl,h.symm,v,by simp [cL]⟩
   ·have hf:(n == m)=false:=by simpa using hn
    simp only [hf,cond_false] at h
    exact .inr ⟨hn,by simp [cL,hf,h]⟩
  ·have hf:(m == k)=false:=by simpa using hk
   simp only [hf,cond_false,cL] at h
   by_cases hn:n=k
   ·subst hn
    simp at h
    exact .inr ⟨fun e=>hk e.symm,by simp [cL,h]⟩
   ·have hf':(n == k)=false:=by simpa using hn
    simp only [hf',cond_false] at h
    rcases l5 h with ⟨h1,h2,y,h3⟩|⟨h1,h2⟩
    ·exact .inl ⟨h1,h2,y,by simp [cL,hf,h3]⟩
    ·exact .inr ⟨h1,by simp [cL,hf',h2]⟩
theorem Rel.NS (R:Rel P nt n0 w0 π0 U s a w β τ π) {b:Nat} {x y:dO} (hb:cL b s.boxes=some x) {cur cur':Array Value} {el:TypeId}
  (hh:w.heap[β b]? = some (.cells cur el (0,0))) (hd:jJ w π y.cells cur'.toList) (hs:∀ a∈y.cells,a.scalar=true)
  (ht:∀ o q,eA o y.tags=some q→cur'[o]? = some (τ q)∧U q) :
  Rel P nt n0 w0 π0 U { s with boxes:=qk b y s.boxes } a (w.setRow (β b) cur') β τ π:=by
 obtain ⟨hUb,hn0,⟨_,_,hh',_,_,_,hnp⟩,_⟩:=R.boxes b x hb
 have hsz:n0.n≤w.heap.size:=Nat.le_trans R.gi R.below.size
 have hother:∀ k,k≠β b→(w.setRow (β b) cur').heap[k]? = w.heap[k]?:=fun k hk=>setRow_other w _ k cur' hk
 have hc:∀ B o,π B o→(w.setRow (β b) cur').cell? ⟨B,o,none⟩=w.cell? ⟨B,o,none⟩:=fun B o h=>cell_setRow_other w _ cur' ⟨B,o,none⟩ (fun e=>hnp o (by simpa [← e] using h))
 have hbel:yp n0 w (w.setRow (β b) cur'):=⟨rfl,rfl,rfl,by simp,fun k hk hx=>hother k (fun e=>by subst e; rcases hn0 with h | h; exact absurd h (by omega); exact hx h.2),fun k o hk ho=>(hother k (fun e=>by subst e; rw [hh] at hk; cases hk; cases ho)).trans hk⟩
 refine ⟨R.size,fun t v h=>?_,fun c z h=>?_,fun c c' z z' h h' e=>?_,fun q e h=>?_,R.b9,fun q e c z h h' hB=>?_,R.below.trans hbel,R.gi,fun B o h=>by simpa using R.gT B o h,R.fJ,R.dM,R.sU,R.lZ,fun b o h=>(hc b o (R.fJ b o h)).trans (R.kept b o h)⟩
 ·obtain ⟨⟨z,hz,hv⟩,hu⟩:=R.slots t v h
  exact ⟨⟨z,hz,RV.mono (fun _ _=>rfl) (fun _ _=>rfl) (fun _ _ h=>h) hc hu hv⟩,hu⟩
 ·rcases l5 h with ⟨rfl,rfl,_⟩ | ⟨hne,h⟩
  ·exact ⟨hUb,hn0,⟨cur',el,setRow_heap w _ cur _ el _ hh,hd.mono (fun _ _ h=>h) hc,hs,fun o q hq=>(ht o q hq).1,hnp⟩,fun o q hq=>(ht o q hq).2⟩
  ·obtain ⟨h1,h2,h3,h4⟩:=R.boxes c z h
   refine ⟨h1,h2,h3.keep (fun _ _=>rfl) h4 (hother _ (fun e=>hne (R.inj c b z x h hb e))) (fun _ _ h=>h) hc ?_,h4⟩
   obtain ⟨_,_,_,_,_,_,hn⟩:=h3; exact hn
 ·have:∃ u,cL c s.boxes=some u:=by
   rcases l5 h with ⟨rfl,_,_⟩|⟨_,h⟩
   ·exact ⟨x,hb⟩
   ·exact ⟨z,h⟩
  have k':∃ u,cL c' s.boxes=some u:=by
   rcases l5 h' with ⟨rfl,_,_⟩|⟨_,h⟩
   ·exact ⟨x,hb⟩
   ·exact ⟨z',h⟩
  obtain ⟨u,hu⟩:=this
  obtain ⟨u',hu'⟩:=k'
  exact R.inj c c' u u' hu hu' e
 ·obtain ⟨h1,h2⟩:=R.live q e h
  exact ⟨h1,h2.keep (fun B hB=>hother B (fun eB=>R.dZ q e b x h hb (by rw [hB,eB]))) (fun B o _ h=>h)⟩
 ·have:∃ u,cL c s.boxes=some u:=by
   rcases l5 h' with ⟨rfl,_,_⟩|⟨_,h⟩
   ·exact ⟨x,hb⟩
   ·exact ⟨z,h⟩
  obtain ⟨u,hu⟩:=this
  exact R.dZ q e c u h hu hB
end
end Go.Eng
namespace Go.Eng
open Go
open Go.RowKit (Below)
theorem j9 (B o n:Nat):(⟨B,o,none⟩:Addr).add n=⟨B,o + n,none⟩:=by unfold Addr.add; split<;>simp_all
section runs
variable {P:Program} {w:World}
theorem d5 {t:TypeId} {z:Nat} (h:fe P t=some z):(sizeOf t).run P w=.ok z w:=by
 simp only [fe,Option.map_eq_some_iff] at h
 obtain ⟨i,hi,rfl⟩:=h
 simp [sizeOf,typeInfo,hi]
theorem uz {t:TypeId} {d:TypeDesc} (h:P.underlying t=some d):(isAgg t).run P w=.ok (mY P t) w:=by
 have:=run_underlying h w
 unfold isAgg mY
 simp only [Sem.run_bind,this,Result.andThen_ok,h]
 cases d<;>rfl
theorem C4 {t:TypeId} {n:Nat} (h:xH P t=some (some n)):∃ d,P.underlying t=some d∧mY P t=true∧fe P t=some n:=by
 unfold xH at h
 split at h
 ·rename_i fs hu; exact ⟨_,hu,by simp [mY,hu],by simpa using h⟩
 ·rename_i k e hu; exact ⟨_,hu,by simp [mY,hu],by simpa using h⟩
 ·simp at h
 ·simp at h
theorem C5 {t:TypeId} (h:xH P t=some none):∃ d,P.underlying t=some d∧mY P t=false:=by
 unfold xH at h
 split at h
 ·simp at h
 ·simp at h
 ·rename_i d h1 h2 hu
  refine ⟨d,hu,?_⟩
  unfold mY
  rw [hu]
  cases d<;>simp_all
 ·simp at h
theorem ox {t:TypeId} {n:Nat} (h:xH P t=some (some n)) {B o:Nat} {f:Nat→Value} (hc:∀ j,j < n→w.cell? ⟨B,o + j,none⟩=some (f j)) :
  (loadVar t ⟨B,o,none⟩).run P w=.ok (.agg ((List.range n).map f).toArray) w:=by
 obtain ⟨d,hd,ha,hs⟩:=C4 h
 have h1:=uz (w:=w) hd
 have h2:=d5 (w:=w) hs
 have h3:=run_loadCells (P:=P) w ⟨B,o,none⟩ n f (fun j hj=>by rw [j9]; exact hc j hj)
 simp only [loadVar,Sem.run_bind,h1,ha,Result.andThen_ok,if_true,h2,h3,Sem.run_pure]
theorem oy {t:TypeId} (h:xH P t=some none) {B o:Nat} {v:Value} (hc:w.cell? ⟨B,o,none⟩=some v) :
  (loadVar t ⟨B,o,none⟩).run P w=.ok v w:=by
 obtain ⟨d,hd,ha⟩:=C5 h
 have h1:=uz (w:=w) hd
 simp [loadVar,Sem.run_bind,h1,ha,Result.andThen_ok,hc]
end runs
theorem BM {w:World} {π:Nat→Nat→Prop} {cs:List AV} {f:Nat→Value} {off:Nat} {sz:Option Nat} {a:AV}
  (hs:∀ (j:Nat) (x:AV),cs[j]? = some x→x.scalar=true) (hd:∀ (j:Nat) (x:AV),cs[j]? = some x→DV w π x (f j)) (h:aD cs off sz=some a) :
  match sz with
  | none=>DV w π a (f off)∧off < cs.length
  | some n=>off + n≤cs.length∧DV w π a (.agg ((List.range n).map fun j=>f (off + j)).toArray):=by
 cases sz with
 | none =>
  simp only [aD] at h
  refine ⟨hd _ _ h,?_⟩
  rcases Nat.lt_or_ge off cs.length with h'|h'
  ·exact h'
  ·rw [List.getElem?_eq_none h'] at h; cases h
 | some n =>
  simp only [aD] at h
  split at h
  ·rename_i hle
   cases h
   have hg:∀ (i:Nat) (x:AV),((cs.drop off).take n)[i]? = some x→i < n∧cs[off + i]? = some x:=by
    intro i x hx
    rw [List.getElem?_take] at hx
    split at hx
    ·rename_i hi; exact ⟨hi,by simpa using hx⟩
    ·cases hx
   refine ⟨hle,.agg _ _ (by simp; omega) (fun x hx=>?_) (fun i x v hx hv=>?_)⟩
   ·obtain ⟨i,hi⟩:=List.mem_iff_getElem?.1 hx
    exact hs _ _ (hg i x hi).2
   ·obtain ⟨hi,hx'⟩:=hg i x hx
    have:v=f (off + i):=by simpa [hi] using hv.symm
    rw [this]
    exact hd _ _ hx'
  ·cases h
section ops
variable {P:Program} {nt:Nat} {n0:mZ} {w0:World} {π0:Nat→Nat→Prop} {U:Nat→Prop} {s:S} {a:Act} {w:World} {β:Nat→Nat} {τ:Nat→Value} {π:Nat→Nat→Prop}
theorem tA.cells {B:Nat} {x:dO} (h:tA τ w π B x):∃ f:Nat→Value,(∀ j,j < x.cells.length→w.cell? ⟨B,j,none⟩=some (f j))∧(∀ (j:Nat) (y:AV),x.cells[j]? = some y→y.scalar=true) ∧
  (∀ (j:Nat) (y:AV),x.cells[j]? = some y→DV w π y (f j))∧∀ o q,eA o x.tags=some q→f o=τ q:=by
 obtain ⟨cur,el,h1,h2,h3,h4,_⟩:=h
 refine ⟨fun j=>cur.getD j undef,fun j hj=>?_,fun j y hy=>h3 y (List.mem_of_getElem? hy),fun j y hy=>?_,fun o q hq=>?_⟩
 ·have hl:j < cur.size:=by have:=h2.1; simp at this; omega
  rw [cell_of_row w B j cur el (0,0) h1]
  simp [hl]
 ·obtain ⟨v,hv,hd⟩:=h2.get hy
  have:cur[j]? = some v:=by simpa using hv
  simp [this,hd]
 ·simp [h4 o q hq]
theorem Rel.load (R:Rel P nt n0 w0 π0 U s a w β τ π) {t:TypeId} {X:Operand} {x:bV} {sz:Option Nat} (hx:dG X=some x) (ht:xH P t=some sz) {id:Nat} {K:SV→S→Prop}
    (h:bS (Pure P) id (.ld x sz) K s):∃ v y,(Instr.loadAt t (a.eval X)).run P w=.ok y w∧RV β τ w π v y∧v.gR U∧K v s:=by
  simp only [bS] at h
  cases ho:Eng.cM s x with
  | none=>rw [ho] at h; exact h.elim
  | some p =>
    rw [ho] at h
    obtain ⟨hr,hu⟩:=R.cM hx ho
    cases p with
    | dat b q=>exact h.elim
    | undef=>exact h.elim
    | vs _ _ _ _=>exact h.elim
    | ptr b off =>
      simp only [aM] at h
      cases hb:cL b s.boxes with
      | none=>rw [hb] at h; exact h.elim
      | some z =>
        rw [hb] at h
        simp only [aM] at h
        cases hp:aD z.cells off sz with
        | none=>rw [hp] at h; exact h.elim
        | some av =>
          rw [hp] at h
          obtain ⟨h1,h2,h3,h4⟩:=R.boxes b z hb
          obtain ⟨f,hf,hs,hd,htg⟩:=h3.cells
          have hpd:=BM hs hd hp
          have he:a.eval X=.pointer (some ⟨β b,off,none⟩):=hr
          cases sz with
          | none =>
            obtain ⟨hd',hlt⟩:=hpd
            refine ⟨.dat av (eA off z.tags),f off,by simp only [he,Instr.loadAt,Instr.sureAddr,Sem.run_bind,Sem.run_pure,Result.andThen_ok]; exact oy ht (hf off hlt),⟨hd',fun q hq=>htg off q hq⟩,?_,h⟩
            cases hq:eA off z.tags with
            | none=>trivial
            | some q=>exact h4 off q hq
          | some n =>
            obtain ⟨hle,hd'⟩:=hpd
            refine ⟨.dat av none,_,by simp only [he,Instr.loadAt,Instr.sureAddr,Sem.run_bind,Sem.run_pure,Result.andThen_ok]; exact ox ht (fun j hj=>hf (off + j) (by omega)),⟨hd',fun q hq=>by cases hq⟩,trivial,h⟩
    | rp cs =>
      simp only [aM] at h
      cases hp:aD cs 0 sz with
      | none=>rw [hp] at h; exact h.elim
      | some av =>
        rw [hp] at h
        obtain ⟨B,off,f,he,hs,_,hf,hd⟩:=hr
        have hpd:=BM hs hd hp
        have hget:∀ j,j < cs.length→w.cell? ⟨B,off + j,none⟩=some (f j):=fun j hj=>hf j cs[j] (List.getElem?_eq_getElem hj)
        cases sz with
        | none =>
          obtain ⟨hd',hlt⟩:=hpd
          refine ⟨.dat av none,f 0,by simp only [he,Instr.loadAt,Instr.sureAddr,Sem.run_bind,Sem.run_pure,Result.andThen_ok]; exact oy ht (hget 0 hlt),⟨hd',fun q hq=>by cases hq⟩,trivial,h⟩
        | some n =>
          obtain ⟨hle,hd'⟩:=hpd
          refine ⟨.dat av none,_,by simp only [he,Instr.loadAt,Instr.sureAddr,Sem.run_bind,Sem.run_pure,Result.andThen_ok]; exact ox ht (fun j hj=>hget j (by omega)),⟨by simpa using hd',fun q hq=>by cases hq⟩,trivial,h⟩
theorem BN {w:World} {π:Nat→Nat→Prop} {av:AV} {u:Value} (h:DV w π av u) (hs:av.scalar=true):u.cells.toList=[u]:=by
 cases h<;>first | rfl | (simp [AV.scalar] at hs)
theorem gC {α:Type} (l ps:List α) (off:Nat) (h:off + ps.length≤l.length) (i:Nat) :
  (l.take off++ps++l.drop (off + ps.length))[i]? = if i < off then l[i]? else if i < off + ps.length then ps[i - off]? else l[i]?:=by
 have hl:(l.take off).length=off:=by simp; omega
 by_cases h1:i < off
 ·rw [if_pos h1,List.append_assoc,List.getElem?_append_left (by omega),List.getElem?_take,if_pos h1]
 ·rw [if_neg h1]
  by_cases h2:i < off + ps.length
  ·rw [if_pos h2,List.append_assoc,List.getElem?_append_right (by omega),List.getElem?_append_left (by omega),hl]
  ·rw [if_neg h2,List.getElem?_append_right (by simp; omega),List.getElem?_drop]
   congr 1
   simp; omega
theorem yu {l:List (Nat × Nat)} {p:Nat × Nat→Bool} {o q:Nat} (h:eA o (l.filter p)=some q) (hp:∀ x:Nat × Nat,p x=p (x.1,0)):eA o l=some q∧p (o,0)=true:=by
 induction l with
 | nil=>simp [eA] at h
 | cons x r ih =>
  obtain ⟨m,v⟩:=x
  rw [List.filter_cons] at h
  by_cases hx:p (m,v)=true
  ·rw [if_pos hx] at h
   simp only [eA] at h ⊢
   by_cases e:o=m
   ·subst e; simp at h ⊢; exact ⟨h,by rw [← hp (o,v)]; exact hx⟩
   ·have hf:(o == m)=false:=by simpa using e
    simp only [hf,cond_false] at h ⊢
    exact ih h
  ·rw [if_neg hx] at h
   obtain ⟨h1,h2⟩:=ih h
   refine ⟨?_,h2⟩
   simp only [eA]
   have e:o≠m:=fun e=>hx (by subst e; rw [hp (o,v)]; exact h2)
   have hf:(o == m)=false:=by simpa using e
   simp only [hf,cond_false]; exact h1
theorem Rel.store (R:Rel P nt n0 w0 π0 U s a w β τ π) {t:TypeId} {X V:Operand} {x v:bV} {z:Nat} (hx:dG X=some x) (hv:dG V=some v) (ht:fe P t=some z) {id:Nat} {K:SV→S→Prop}
    (h:bS (Pure P) id (.st x v z) K s):∃ s' w',(Instr.storeAt t (a.eval X) (a.eval V)).run P w=.ok () w'∧K .undef s'∧Rel P nt n0 w0 π0 U s' a w' β τ π:=by
  simp only [bS] at h
  cases ho:Eng.cM s x with
  | none=>rw [ho] at h; exact h.elim
  | some p =>
    rw [ho] at h
    obtain ⟨hr,hu⟩:=R.cM hx ho
    cases p with
    | dat b q=>exact h.elim
    | undef=>exact h.elim
    | vs _ _ _ _=>exact h.elim
    | rp cs=>exact h.elim
    | ptr b off =>
      simp only [aM] at h
      cases hb:cL b s.boxes with
      | none=>rw [hb] at h; exact h.elim
      | some y =>
        rw [hb] at h
        simp only [aM] at h
        cases hov:Eng.cM s v with
        | none=>rw [hov] at h; exact h.elim
        | some u =>
          rw [hov] at h
          cases u with
          | undef=>exact h.elim
          | vs _ _ _ _=>exact h.elim
          | rp cs=>exact h.elim
          | ptr _ _=>exact h.elim
          | dat av q =>
            simp only [aM] at h
            obtain ⟨hok,hlen,hfit,hK⟩:=h
            obtain ⟨⟨hdv,htag⟩,huv⟩:=R.cM hv hov
            have he:a.eval X=.pointer (some ⟨β b,off,none⟩):=hr
            obtain ⟨h1,h2,⟨cur,el,hh,hcd,hcs,hct,hnp⟩,h4⟩:=R.boxes b y hb
            have hsz:cur.size=y.cells.length:=by have:=hcd.1; simp at this; exact this.symm
            have htup':∀ vs,av≠.cI vs:=fun vs e=>by subst e; simp [jc] at hok
            obtain ⟨hds,hsc⟩:=hdv.cells htup'
            have hvl:(a.eval V).cells.toList.length=z:=by rw [← hds.1]; exact hlen
            have hone:∀ u∈(a.eval V).cells.toList,u.oneCell'=true:=by
              intro u hu
              obtain ⟨i,hi⟩:=List.mem_iff_getElem?.1 hu
              have hil:i < av.cells.length:=by
                rw [hds.1]
                rcases Nat.lt_or_ge i (a.eval V).cells.toList.length with h|h
                · exact h
                · rw [List.getElem?_eq_none h] at hi; cases hi
              have hx':=List.getElem?_eq_getElem hil
              exact (hds.2 i _ _ hx' hi).Ga (hsc _ (List.getElem_mem hil))
            have hst:=run_storeCells_at (P:=P) (β b) off el (a.eval V).cells.toList 0 cur w hh (by rw [hvl,hsz]; omega) hone
            simp only [Nat.add_zero] at hst
            have hrun:(Instr.storeAt t (a.eval X) (a.eval V)).run P w=.ok () (w.setRow (β b) (cur.toList.take off++(a.eval V).cells.toList++cur.toList.drop (off + (a.eval V).cells.toList.length)).toArray):=by
              have hz2:(a.eval V).cells.size=z:=by simpa using hvl
              simp [he,Instr.storeAt,Instr.sureAddr,storeVar,d5 (w:=w) ht,hz2,hst]
            refine ⟨_,_,hrun,hK,R.NS hb hh ?_ ?_ ?_⟩
            · -- cells
              refine ⟨?_,fun i c u hc hu=>?_⟩
              · simp [setCells,hds.1,hcd.1]
              · simp only [] at hu
                rw [gC _ _ _ (by rw [hvl]; simp; omega)] at hu
                simp only [setCells] at hc
                rw [gC _ _ _ (by omega)] at hc
                rw [hvl] at hu
                rw [hlen] at hc
                split at hc
                · rename_i hi; rw [if_pos hi] at hu; exact hcd.2 i c u hc hu
                · rename_i hi
                  rw [if_neg hi] at hu
                  split at hc
                  · rename_i hi2; rw [if_pos hi2] at hu; exact hds.2 _ c u hc hu
                  · rename_i hi2; rw [if_neg hi2] at hu; exact hcd.2 i c u hc hu
            · intro c hc
              simp only [setCells,List.mem_append] at hc
              rcases hc with (hc|hc)|hc
              · exact hcs c (List.mem_of_mem_take hc)
              · exact hsc c hc
              · exact hcs c (List.mem_of_mem_drop hc)
            · intro o q' hq'
              have hfil:∀ (o q':Nat),eA o (y.tags.filter fun p=>p.1 < off || off + z≤p.1)=some q'→(cur.toList.take off++(a.eval V).cells.toList++cur.toList.drop (off + (a.eval V).cells.toList.length)).toArray[o]? = some (τ q')∧U q':=by
                intro o q' hq'
                obtain ⟨hq1,hq2⟩:=yu hq' (fun x=>rfl)
                refine ⟨?_,h4 o q' hq1⟩
                have:=hct o q' hq1
                rw [List.getElem?_toArray,gC _ _ _ (by rw [hvl]; simp; omega),hvl]
                simp at hq2
                split
                · simpa using this
                · rw [if_neg (by omega)]; simpa using this
              cases q with
              | none=>exact hfil o q' hq'
              | some q =>
                simp only [eA] at hq'
                by_cases e:o=off
                · subst e
                  simp at hq'
                  subst hq'
                  have hsc1:av.scalar=true:=by cases av<;>simp_all [jc,AV.scalar]
                  have hz1:(a.eval V).cells.toList=[a.eval V]:=BN hdv hsc1
                  refine ⟨?_,huv⟩
                  rw [List.getElem?_toArray,gC _ _ _ (by rw [hvl]; simp; omega),hz1]
                  simp only [List.length_singleton,Nat.lt_irrefl,if_false,Nat.lt_add_one,if_true,Nat.sub_self]
                  simpa using htag q rfl
                · have hf:(o == off)=false:=by simpa using e
                  simp only [hf,cond_false] at hq'
                  exact hfil o q' hq'
end ops
end Go.Eng
