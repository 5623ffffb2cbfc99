/- The engine and the library, part 1 of 3: what the proofs of this seat need of them. -/
import Derived.WalkKit
import Derived.RangeFuncNested
import Derived.RangeFuncLeaves
import Derived.OrdersIn
import Derived.LoopNIn
import Derived.ChangeKeysEq
import Derived.Laws.Externs
import Derived.Lib.SliceRun
import Ieee.Arith
import GoSem.Core.Float
import Derived.ProofKit
import Derived.OpenShut
import Derived.ShutString
import Derived.ChangeOld
import Derived.Below
namespace Go.Eng
set_option linter.unusedVariables false
set_option linter.unusedSimpArgs false
set_option linter.unnecessarySimpa false
open Go
inductive AV where
  | bool (b : Bool)
  | int (k : IntKind) (n : Int)
  | float (k : FloatKind) (n : Nat)
  | str (s : ByteArray)
  | nilp
  | nils
  | sl (xs : List (List AV))
  | fn (f : Fn) (first caps : List AV)
  | nilfn
  | iface (t : Nat) (v : AV)
  | nilif
  | agg (cs : List AV)
  | tup (vs : List AV)
  | ref (cs : List AV)
  /-- a float (of 64 bits) that is no number, whichever -/
  | fnan
  deriving Inhabited
inductive SV where
  | dat (a : AV) (q : Option Nat)
  | ptr (b off : Nat)
  | rp (cs : List AV)
  | undef
  /-- a slice over a box of its own or another's: n elements of z cells each, from off on -/
  | vs (b off n z : Nat)
  deriving Inhabited
structure Box where
  cells : List AV
  tags : List (Nat × Nat)
  deriving Inhabited
structure S where
  slots : List (Nat × SV)
  boxes : List (Nat × Box)
  live : List (Nat × Nat)
  nx : Nat
  deriving Inhabited
inductive Opd where
  | t (n : Nat)
  | k (v : AV)
  deriving Inhabited
inductive CK where
  | b | i | f | s
  deriving DecidableEq, Inhabited
inductive Xt where
  | fbits | ffrom | rte
  deriving DecidableEq, Inhabited
inductive COp where
  | mv (x : Opd)
  | pick (c a b : Opd)
  | alloc (cs : List AV)
  | box (x : Opd)
  | build (zs : List AV) (parts : List (Nat × Nat × Opd))
  | bsl (e z : Nat) (xs : List Opd)
  | ld (x : Opd) (sz : Option Nat)
  | st (x v : Opd) (sz : Nat)
  | fa (x : Opd) (off : Nat)
  | iaA (x i : Opd) (n z : Nat)
  | iaS (x i : Opd) (z : Nat)
  | fld (x : Opd) (off : Nat) (sz : Option Nat)
  | ixA (x i : Opd) (n z : Nat) (sz : Option Nat)
  | bin (op : BinOp) (x y : Opd)
  | eqc (ks : List CK) (neg : Bool) (x y : Opd)
  | bb (neg : Bool) (x y : Opd)
  | un (op : UnOp) (x : Opd)
  | cvII (k : IntKind) (x : Opd)
  | cvIF (k : FloatKind) (x : Opd)
  | cvFI (k : IntKind) (x : Opd)
  | cvSame (x : Opd)
  | lenS (x : Opd)
  | lenK (n : Nat)
  | app (e z bytes : Nat) (s x : Opd)
  | call (f : Nat) (args : List Opd)
  | callp (f : Nat) (args : List Opd)
  | callv (g : Opd) (args : List Opd)
  | ext (x : Opd) (i : Nat)
  | mkf (fn : Fn) (first caps : List Opd)
  | slS (z : Nat) (x : Opd) (lo hi : Option Opd)
  | nc (x : Opd)
  | mm (max : Bool) (args : List Opd)
  | xt (e : Xt) (x : Opd)
  | slA (x : Opd) (n z : Nat)
  | ixB (x i : Opd)
  | isn (neg : Bool) (x : Opd)
  | callvp (g : Opd) (args : List Opd)
  | callr (f : Nat) (args : List Opd)
  | callvr (g : Opd) (args : List Opd)
  | slV (x : Opd) (n z : Nat) (hi : Opd)
  | appV (e z bytes : Nat) (y x : Opd)
  deriving Inhabited
structure CO where
  dst : Option Nat
  op : COp
  g : Option (Nat × Bool)
  deriving Inhabited
inductive CCode where
  | skip
  | reg (ops : List CO)
  | seq (a b : CCode)
  | join (a b : CCode)
  | cond (c : Opd) (a b : CCode)
  | block (id : Nat) (c : CCode)
  | loop (c : CCode)
  | exit (id : Nat)
  | ret
  | rfor (g : Opd) (ps wr : List Nat) (as bd : CCode)
  | regD (ops : List CO) (bad : List (Nat × Nat))
  | scope (l : Nat) (c r : CCode)
  | label (l : Nat)
  | goto (l : Nat)
  deriving Inhabited
def AV.cells : AV → List AV
  | .agg cs => cs
  | v => [v]
def AV.scalar : AV → Bool
  | .agg _ | .tup _ => false
  | _ => true
def ofV1 : Value → Option AV
  | .bool b => some (.bool b)
  | .int k n => some (.int k n)
  | .float k n => some (.float k n)
  | .string s => some (.str s)
  | .pointer none => some .nilp
  | .slice none 0 0 => some .nils
  | .nilFunc => some .nilfn
  | .nilIface => some .nilif
  | _ => none
def ofV : Value → Option AV
  | .agg cs => (cs.toList.mapM ofV1).map .agg
  | v => ofV1 v
def bitsA (op : BinOp) (k : IntKind) (x y : Int) : Option Int :=
  let a := BitVec.ofInt k.bits x
  let b := BitVec.ofInt k.bits y
  match op with
  | .and => some (k.wrap (a &&& b).toNat)
  | .or => some (k.wrap (a ||| b).toNat)
  | .xor => some (k.wrap (a ^^^ b).toNat)
  | .andNot => some (k.wrap (a &&& ~~~b).toNat)
  | _ => none
def intA (op : BinOp) (k : IntKind) (x y : Int) : Option AV :=
  match op with
  | .add => some (.int k (k.wrap (x + y)))
  | .sub => some (.int k (k.wrap (x - y)))
  | .mul => some (.int k (k.wrap (x * y)))
  | .quo => if y = 0 then none else some (.int k (k.wrap (x.tdiv y)))
  | .rem => if y = 0 then none else some (.int k (x.tmod y))
  | .and | .or | .xor | .andNot => (bitsA op k x y).map (.int k)
  | .eql => some (.bool (x == y))
  | .neq => some (.bool (x != y))
  | .lss => some (.bool (decide (x < y)))
  | .leq => some (.bool (decide (x ≤ y)))
  | .gtr => some (.bool (decide (x > y)))
  | .geq => some (.bool (decide (x ≥ y)))
  | _ => none
def nanB (n : Nat) : Bool := match FloatKind.f64.decode n with
  | .nan .. => true
  | _ => false
def arF : FloatKind → Option Nat → Option AV
  | k, some r => some (.float k r)
  | .f64, none => some .fnan
  | .f32, none => none
def nanO : BinOp → Option AV
  | .add | .sub | .mul | .quo => some .fnan
  | .neq => some (.bool true)
  | .eql | .lss | .leq | .gtr | .geq => some (.bool false)
  | _ => none
def floatA (op : BinOp) (k : FloatKind) (x y : Nat) : Option AV :=
  let c := k.format.order x y
  match op with
  | .add => arF k (k.format.add x y)
  | .sub => arF k (k.format.sub x y)
  | .mul => arF k (k.format.mul x y)
  | .quo => arF k (k.format.div x y)
  | .eql => some (.bool (c == some .eq))
  | .neq => some (.bool (c != some .eq))
  | .lss => some (.bool (c == some .lt))
  | .leq => some (.bool (c == some .lt || c == some .eq))
  | .gtr => some (.bool (c == some .gt))
  | .geq => some (.bool (c == some .gt || c == some .eq))
  | _ => none
def shiftA (op : BinOp) (k : IntKind) (x y : Int) : Option AV :=
  if y < 0 then none else
  match op with
  | .shl => some (.int k (k.wrap (x * 2 ^ min y.toNat k.bits)))
  | .shr => some (.int k (x.fdiv (2 ^ min y.toNat k.bits)))
  | _ => none
def binA (op : BinOp) (a b : AV) : Option AV :=
  match op, a, b with
  | .shl, .int k x, .int _ y => shiftA .shl k x y
  | .shr, .int k x, .int _ y => shiftA .shr k x y
  | op, .int k x, .int k' y => if k = k' then intA op k x y else none
  | op, .float k x, .float k' y => if k = k' then floatA op k x y else none
  | op, .fnan, .float .f64 _ => nanO op
  | op, .float .f64 _, .fnan => nanO op
  | op, .fnan, .fnan => nanO op
  | _, _, _ => none
def bbA (neg : Bool) : AV → AV → Option AV
  | .bool x, .bool y => some (.bool (if neg then x != y else x == y))
  | _, _ => none
def cellEq : CK → AV → AV → Option Bool
  | .b, .bool x, .bool y => some (x == y)
  | .i, .int k x, .int k' y => if k = k' then some (x == y) else none
  | .f, .float k x, .float k' y => if k = k' then some (k.format.order x y == some .eq) else none
  | .s, .str x, .str y => some (x == y)
  | _, _, _ => none
def cellsEq : List CK → List AV → List AV → Option Bool
  | [], [], [] => some true
  | k :: ks, a :: as, b :: bs => match cellEq k a b, cellsEq ks as bs with
    | some x, some y => some (x && y)
    | _, _ => none
  | _, _, _ => none
def unA (op : UnOp) (a : AV) : Option AV :=
  match op, a with
  | .neg, .int k n => some (.int k (k.wrap (0 - n)))
  | .xor, .int k n => (bitsA .xor k (if k.signed then -1 else k.max) n).map (.int k)
  | .neg, .float k b => some (.float k (Op.negFloat k b))
  | .not, .bool b => some (.bool !b)
  | _, _ => none
def cvIIA (k : IntKind) : AV → Option AV
  | .int _ n => some (.int k (k.wrap n))
  | _ => none
def cvIFA (k : FloatKind) : AV → Option AV
  | .int _ n => some (.float k (k.nearest n))
  | _ => none
def cvFIA (k : IntKind) : AV → Option AV
  | .float s b => match (s.decode b).toInt .zero with
    | some n => if k.min ≤ n ∧ n ≤ k.max then some (.int k n) else none
    | none => none
  | _ => none
def rteA (b : Nat) : Option AV :=
  match FloatKind.f64.decode b with
  | .nan _ t => if FloatKind.f64.format.quiet t = t then some (.float .f64 b) else none
  | d => some (.float .f64 (FloatKind.f64.encode (d.integral .even)))
def xtA : Xt → AV → Option AV
  | .fbits, .float .f64 b => some (.int .u64 b)
  | .ffrom, .int .u64 n => some (.float .f64 n.toNat)
  | .rte, .float .f64 b => rteA b
  | _, _ => none
def chunkA (z : Nat) : Nat → List AV → List (List AV)
  | 0, _ => []
  | n + 1, cs => cs.take z :: chunkA z n (cs.drop z)
def byteA (s : ByteArray) (i : Int) : Option AV :=
  if 0 ≤ i ∧ i < s.size then some (.int .u8 (s[i.toNat]!).toNat) else none
def lenA : AV → Option AV
  | .nils => some (.int .i64 0)
  | .sl xs => some (.int .i64 xs.length)
  | _ => none
def nilA : Bool → AV → Option Bool
  | neg, .nils => some (!neg)
  | neg, .sl _ => some neg
  | _, _ => none
def mmA (mx : Bool) : AV → AV → Option AV
  | .int k x, .int _ y => some (.int k (if mx then (if y > x then y else x) else (if y < x then y else x)))
  | .float k x, .float k' y => if k = k' then match k.format.order x y with
      | none => if k = .f64 then some .fnan else none
      | some .lt => some (.float k (if mx then y else x))
      | some .gt => some (.float k (if mx then x else y))
      | some .eq => some (.float k (if mx then (if (k.decode x).neg then y else x) else (if (k.decode x).neg then x else y)))
    else none
  | .fnan, .float .f64 _ => some .fnan
  | .float .f64 _, .fnan => some .fnan
  | .fnan, .fnan => some .fnan
  | _, _ => none
def extA : AV → Nat → Option AV
  | .tup vs, i => vs[i]?
  | _, _ => none
def partA (cs : List AV) (off : Nat) : Option Nat → Option AV
  | none => cs[off]?
  | some n => if off + n ≤ cs.length then some (.agg ((cs.drop off).take n)) else none
def fillA : List AV → List (Nat × List AV) → List AV
  | cs, [] => cs
  | cs, (off, ps) :: rest => fillA (cs.take off ++ ps ++ cs.drop (off + ps.length)) rest
def lk : Nat → List (Nat × SV) → Option SV
  | _, [] => none
  | n, (m, v) :: r => bif n == m then some v else lk n r
def lkB : Nat → List (Nat × Box) → Option Box
  | _, [] => none
  | n, (m, v) :: r => bif n == m then some v else lkB n r
def lkN : Nat → List (Nat × Nat) → Option Nat
  | _, [] => none
  | n, (m, v) :: r => bif n == m then some v else lkN n r
def setB : Nat → Box → List (Nat × Box) → List (Nat × Box)
  | _, _, [] => []
  | n, b, (m, v) :: r => bif n == m then (m, b) :: r else (m, v) :: setB n b r
def delN : Nat → List (Nat × Nat) → List (Nat × Nat)
  | _, [] => []
  | n, (m, v) :: r => bif n == m then delN n r else (m, v) :: delN n r
def S.put (s : S) (d : Option Nat) (v : SV) : S :=
  match d with
  | none => s
  | some d => { s with slots := (d, v) :: s.slots }
def opd (s : S) : Opd → Option SV
  | .t n => lk n s.slots
  | .k v => some (.dat v none)
def opdA (s : S) (x : Opd) : Option AV :=
  match opd s x with
  | some (.dat a _) => some a
  | some (.rp cs) => some (.ref cs)
  | _ => none
def opdsA (s : S) : List Opd → Option (List AV)
  | [] => some []
  | x :: r => match opdA s x, opdsA s r with
    | some a, some as => some (a :: as)
    | _, _ => none
def withV {α : Type} (o : Option α) (k : α → Prop) : Prop :=
  match o with
  | some a => k a
  | none => False
@[simp] theorem withV_some {α : Type} (a : α) (k : α → Prop) : withV (some a) k = k a := rfl
@[simp] theorem withV_none {α : Type} (k : α → Prop) : withV none k = False := rfl
def stOk : AV → Option Nat → Bool
  | .tup _, _ => false
  | .agg _, some _ => false
  | _, _ => true
def partsA (s : S) : List (Nat × Nat × Opd) → Option (List (Nat × List AV))
  | [] => some []
  | (off, sz, x) :: r => match opdA s x, partsA s r with
    | some a, some ps => if a.cells.length = sz ∧ stOk a none = true then some ((off, a.cells) :: ps) else none
    | _, _ => none
def rowsA (s : S) (z : Nat) : List Opd → Option (List (List AV))
  | [] => some []
  | x :: r => match opdA s x, rowsA s z r with
    | some a, some rows => if a.cells.length = z ∧ stOk a none = true then some (a.cells :: rows) else none
    | _, _ => none
def idxOf : AV → Option Int
  | .int _ i => some i
  | _ => none
def setCells (cs : List AV) (off : Nat) (ps : List AV) : List AV := cs.take off ++ ps ++ cs.drop (off + ps.length)
def idxO : Option AV → Option Int
  | some a => idxOf a
  | none => none
def bndL (s : S) : Option Opd → Option Int
  | none => some 0
  | some x => idxO (opdA s x)
def bndH (s : S) (xs : List (List AV)) : Option Opd → Option Int
  | none => some xs.length
  | some x => idxO (opdA s x)
def cutA (a : AV) (xs : List (List AV)) (l h : Int) : AV :=
  match a with
  | .nils => .nils
  | _ => .sl ((xs.take h.toNat).drop l.toNat)
structure Con where
  c : Nat → List AV → AV → Option Nat → Prop
  p : Nat → List (List AV) → List (Option AV) → AV → Option Nat → List (List AV) → Prop
  /-- what a function that is ranged over yields, one after the other -/
  i : AV → List (List AV) → Prop
def svsA (s : S) : List Opd → Option (List (Option AV) × List Nat)
  | [] => some ([], [])
  | x :: r => match opd s x, svsA s r with
    | some (.dat a _), some (as, bs) => some (some a :: as, bs)
    | some (.rp cs), some (as, bs) => some (some (.ref cs) :: as, bs)
    | some (.ptr b 0), some (as, bs) => some (none :: as, b :: bs)
    | _, _ => none
def cellsA (l : List (Nat × Box)) : List Nat → Option (List (List AV))
  | [] => some []
  | b :: bs => match lkB b l, cellsA l bs with
    | some x, some css => some (x.cells :: css)
    | _, _ => none
def cellsP (l : List (Nat × Box)) : List Nat → Option (List (List AV))
  | [] => some []
  | b :: bs => match lkB b l, cellsP l bs with
    | some ⟨cs, []⟩, some css => some (cs :: css)
    | _, _ => none
def setBs : List Nat → List (List AV) → List (Nat × Box) → List (Nat × Box)
  | b :: bs, cs :: css, l => setBs bs css (setB b ⟨cs, []⟩ l)
  | _, _, l => l
def frzV (b : Nat) (cs : List AV) : SV → SV
  | .ptr b' o => bif b' == b then .rp (cs.drop o) else .ptr b' o
  | v => v
def frzL (b : Nat) (cs : List AV) : List (Nat × SV) → List (Nat × SV)
  | [] => []
  | (t, v) :: r => (t, frzV b cs v) :: frzL b cs r
def delB : Nat → List (Nat × Box) → List (Nat × Box)
  | _, [] => []
  | n, (m, v) :: r => bif n == m then delB n r else (m, v) :: delB n r
def frzs : List Nat → List (List AV) → S → S
  | b :: bs, cs :: css, s => frzs bs css { s with slots := frzL b cs s.slots, boxes := delB b s.boxes }
  | _, _, s => s
theorem frzs_nx : ∀ {ids : List Nat} {css : List (List AV)} {s : S}, (frzs ids css s).nx = s.nx
  | [], css, s => rfl
  | b :: bs, [], s => rfl
  | b :: bs, cs :: css, s => by rw [frzs, frzs_nx]
def fillP : List (Option AV) → List (List AV) → List AV
  | some a :: as, css => a :: fillP as css
  | none :: as, cs :: css => .ref cs :: fillP as css
  | _, _ => []
def ownIds : List Nat → Bool
  | [] => true
  | b :: bs => decide (4 ≤ b) && ownIds bs
def nodupB : List Nat → Bool
  | [] => true
  | b :: bs => !bs.contains b && nodupB bs
def rowsOf : AV → Option (List (List AV))
  | .nils => some []
  | .sl xs => some xs
  | _ => none
def aop (C : Con) (id : Nat) (o : COp) (K : SV → S → Prop) (s : S) : Prop :=
  match o with
  | .mv x => withV (opd s x) fun v => K v s
  | .pick c a b => withV (opdA s c) fun
      | .bool t => withV (opd s a) fun u => withV (opd s b) fun v => (t = true → K u s) ∧ (t = false → K v s)
      | _ => False
  | .alloc cs => K (.ptr id 0) { s with boxes := (id, ⟨cs, []⟩) :: s.boxes }
  | .box x => withV (opdA s x) fun a => stOk a none = true ∧ K (.ptr id 0) { s with boxes := (id, ⟨a.cells, []⟩) :: s.boxes }
  | .build zs parts => withV (partsA s parts) fun ps => K (.dat (.agg (fillA zs ps)) none) s
  | .bsl e z xs => withV (rowsA s z xs) fun rows => K (.dat (.sl rows) (some id)) { s with live := (id, e) :: s.live }
  | .ld x sz => withV (opd s x) fun
      | .ptr b off => withV (lkB b s.boxes) fun bx => withV (partA bx.cells off sz) fun a =>
          K (.dat a (match sz with | none => lkN off bx.tags | some _ => none)) s
      | .rp cs => withV (partA cs 0 sz) fun a => K (.dat a none) s
      | _ => False
  | .st x v sz => withV (opd s x) fun
      | .ptr b off => withV (lkB b s.boxes) fun bx => withV (opd s v) fun
          | .dat a q => stOk a q = true ∧ a.cells.length = sz ∧ off + sz ≤ bx.cells.length ∧
              K .undef { s with boxes := setB b ⟨setCells bx.cells off a.cells, match q with | some q => (off, q) :: bx.tags.filter (fun p => p.1 < off || off + sz ≤ p.1) | none => bx.tags.filter (fun p => p.1 < off || off + sz ≤ p.1)⟩ s.boxes }
          | _ => False
      | _ => False
  | .fa x off => withV (opd s x) fun
      | .ptr b o => K (.ptr b (o + off)) s
      | .rp cs => K (.rp (cs.drop off)) s
      | _ => False
  | .iaA x i n z => withV (opd s x) fun p => withV (opdA s i) fun a => withV (idxOf a) fun i => (0 ≤ i ∧ i < n) ∧
      match p with
      | .ptr b o => K (.ptr b (o + i.toNat * z)) s
      | .rp cs => K (.rp (cs.drop (i.toNat * z))) s
      | _ => False
  | .iaS x i z => withV (opdA s x) fun l => withV (opdA s i) fun a => withV (idxOf a) fun i => withV (rowsOf l) fun xs => (0 ≤ i ∧ i < xs.length) ∧ withV (xs[i.toNat]?) fun row => row.length = z ∧ K (.rp row) s
  | .fld x off sz => withV (opdA s x) fun
      | .agg cs => withV (partA cs off sz) fun a => K (.dat a none) s
      | _ => False
  | .ixA x i n z sz => withV (opdA s x) fun
      | .agg cs => withV (opdA s i) fun a => withV (idxOf a) fun i => (0 ≤ i ∧ i < n) ∧ withV (partA cs (i.toNat * z) sz) fun a => K (.dat a none) s
      | _ => False
  | .bin op x y => withV (opdA s x) fun a => withV (opdA s y) fun b => withV (binA op a b) fun v => K (.dat v none) s
  | .eqc ks neg x y => withV (opdA s x) fun
      | .agg as => withV (opdA s y) fun
        | .agg bs => withV (cellsEq ks as bs) fun e => K (.dat (.bool (e != neg)) none) s
        | _ => False
      | _ => False
  | .bb neg x y => withV (opdA s x) fun a => withV (opdA s y) fun b => withV (bbA neg a b) fun v => K (.dat v none) s
  | .un op x => withV (opdA s x) fun a => withV (unA op a) fun v => K (.dat v none) s
  | .cvII k x => withV (opdA s x) fun a => withV (cvIIA k a) fun v => K (.dat v none) s
  | .cvIF k x => withV (opdA s x) fun a => withV (cvIFA k a) fun v => K (.dat v none) s
  | .cvFI k x => withV (opdA s x) fun a => withV (cvFIA k a) fun v => K (.dat v none) s
  | .cvSame x => withV (opd s x) fun v => K v s
  | .lenS x => withV (opdA s x) fun a => withV (lenA a) fun v => K (.dat v none) s
  | .lenK n => K (.dat (.int .i64 n) none) s
  | .app e z bytes x y => withV (opd s x) fun
      | .dat a q => withV (rowsOf a) fun xs => withV (opdA s y) fun b => withV (rowsOf b) fun ys =>
          (xs.length + ys.length) * bytes ≤ 140737488355328 ∧ (∀ r ∈ xs, r.length = z) ∧ (∀ r ∈ ys, r.length = z) ∧
          (match a, q with
           | .nils, _ => if ys = [] then K (.dat .nils none) s else K (.dat (.sl (xs ++ ys)) (some id)) { s with live := (id, e) :: s.live }
           | .sl _, some q => lkN q s.live = some e ∧ K (.dat (.sl (xs ++ ys)) (some id)) { s with live := (id, e) :: delN q s.live }
           | _, _ => False)
      | _ => False
  | .call f args => withV (opdsA s args) fun as => ∃ r fr, C.c f as r fr ∧ K (.dat r (fr.map fun _ => id)) { s with live := match fr with | some e => (id, e) :: s.live | none => s.live }
  | .callp f args => withV (svsA s args) fun p => nodupB p.2 = true ∧ withV (cellsA s.boxes p.2) fun css =>
      ∃ r fr css', C.p f css p.1 r fr css' ∧ K (.dat r (fr.map fun _ => id)) { s with boxes := setBs p.2 css' s.boxes, live := match fr with | some e => (id, e) :: s.live | none => s.live }
  | .callv g args => withV (opdA s g) fun
      | .fn (.func f) first caps => withV (opdsA s args) fun as => ∃ r fr, C.c f (first ++ as ++ caps) r fr ∧ K (.dat r (fr.map fun _ => id)) { s with live := match fr with | some e => (id, e) :: s.live | none => s.live }
      | _ => False
  | .ext x i => withV (opdA s x) fun a => withV (extA a i) fun v => K (.dat v none) s
  | .mkf fn first caps => withV (opdsA s first) fun as => withV (svsA s caps) fun p => (nodupB p.2 && ownIds p.2) = true ∧ withV (cellsA s.boxes p.2) fun css =>
      K (.dat (.fn fn as (fillP p.1 css)) none) (frzs p.2 css s)
  | .slS z x lo hi => withV (opdA s x) fun a => withV (rowsOf a) fun xs =>
      withV (bndL s lo) fun l => withV (bndH s xs hi) fun h =>
      (0 ≤ l ∧ l ≤ h ∧ h ≤ xs.length) ∧ (∀ r ∈ xs, r.length = z) ∧ K (.dat (cutA a xs l h) none) s
  | .nc x => withV (opd s x) fun
      | .ptr b o => K (.ptr b o) s
      | .rp cs => K (.rp cs) s
      | .dat (.fn (.func f) as bs) q => K (.dat (.fn (.func f) as bs) q) s
      | .dat (.ref cs) _ => K (.rp cs) s
      | _ => False
  | .mm mx args => withV (opdsA s args) fun
      | [] => False
      | a :: r => withV (r.foldlM (mmA mx) a) fun v => K (.dat v none) s
  | .xt e x => withV (opdA s x) fun a => withV (xtA e a) fun v => K (.dat v none) s
  | .slA x n z => withV (opd s x) fun
      | .rp cs => n * z ≤ cs.length ∧ K (.dat (.sl (chunkA z n cs)) none) s
      | .ptr b off => 4 ≤ b ∧ withV (lkB b s.boxes) fun bx => n * z ≤ (bx.cells.drop off).length ∧ K (.dat (.sl (chunkA z n (bx.cells.drop off))) none) (frzs [b] [bx.cells] s)
      | _ => False
  | .isn neg x => withV (opdA s x) fun a => withV (nilA neg a) fun b => K (.dat (.bool b) none) s
  | .callvp g args => withV (opdA s g) fun
      | .fn (.func f) [] [] => withV (svsA s args) fun p => nodupB p.2 = true ∧ withV (cellsA s.boxes p.2) fun css =>
          ∃ r fr css', C.p f css p.1 r fr css' ∧ K (.dat r (fr.map fun _ => id)) { s with boxes := setBs p.2 css' s.boxes, live := match fr with | some e => (id, e) :: s.live | none => s.live }
      | _ => False
  | .callr f args => withV (svsA s args) fun p => nodupB p.2 = true ∧ withV (cellsP s.boxes p.2) fun css =>
      ∃ r, C.p f css p.1 r none css ∧ K (.dat r none) s
  | .callvr g args => withV (opdA s g) fun
      | .fn (.func f) [] [] => withV (svsA s args) fun p => nodupB p.2 = true ∧ withV (cellsP s.boxes p.2) fun css =>
          ∃ r, C.p f css p.1 r none css ∧ K (.dat r none) s
      | _ => False
  | .slV x n z hi => withV (opd s x) fun
      | .ptr b off => withV (opdA s hi) fun a => withV (idxOf a) fun h => (0 ≤ h ∧ h ≤ n) ∧ K (.vs b off h.toNat z) s
      | _ => False
  | .appV e z bytes y x => withV (opd s y) fun
      | .vs b off n z' => withV (opd s x) fun
          | .ptr b' _ => (b' = b ∧ z' = z) ∧ withV (lkB b s.boxes) fun bx => (n * z ≤ (bx.cells.drop off).length ∧ n * bytes ≤ 140737488355328) ∧
              (if n = 0 then K (.dat .nils none) s else K (.dat (.sl (chunkA z n (bx.cells.drop off))) (some id)) { s with live := (id, e) :: s.live })
          | _ => False
      | _ => False
  | .ixB x i => withV (opdA s x) fun
      | .str b => withV (opdA s i) fun a => withV (idxOf a) fun j => withV (byteA b j) fun v => K (.dat v none) s
      | _ => False
def aguard (s : S) (g : Option (Nat × Bool)) (yes no : Prop) : Prop :=
  match g with
  | none => yes
  | some (t, want) => match lk t s.slots with
    | some (.dat (.bool b) _) => (b = want → yes) ∧ (b = !want → no)
    | some .undef => no
    | _ => False
def aops (C : Con) (base : Nat) : Nat → List CO → (S → Prop) → S → Prop
  | _, [], K, s => K s
  | i, o :: r, K, s => aguard s o.g
      (aop C (base + i) o.op (fun v s' => aops C base (i + 1) r K (s'.put o.dst v)) s)
      (aops C base (i + 1) r K (s.put o.dst .undef))
def athen (k : S → Prop) (Q : Exit → S → Prop) : Exit → S → Prop
  | .normal, s => k s
  | e, s => Q e s
def ablock (id : Nat) (Q : Exit → S → Prop) : Exit → S → Prop
  | .exit id', s => if id' = id then Q .normal s else Q (.exit id') s
  | e, s => Q e s
def ren (m : List (Nat × Nat)) (q : Nat) : Nat := (lkN q m).getD q
def leSV (m : List (Nat × Nat)) (nx : Nat) : SV → SV → Prop
  | .dat a _, .dat a' none => a = a'
  | .dat a (some q), .dat a' (some q') => a = a' ∧ q = ren m q' ∧ q' < nx
  | .ptr b o, .ptr b' o' => b = b' ∧ o = o' ∧ b' < nx
  | .rp cs, .rp cs' => cs = cs'
  | .undef, .undef => True
  | _, _ => False
def leSlots (m : List (Nat × Nat)) (nx : Nat) (a : List (Nat × SV)) : List (Nat × SV) → Prop
  | [] => True
  | (t, v) :: r => withV (lk t a) (fun u => leSV m nx u v) ∧ leSlots m nx a r
def leTags (m : List (Nat × Nat)) (nx : Nat) (a : List (Nat × Nat)) : List (Nat × Nat) → Prop
  | [] => True
  | (o, q) :: r => (lkN o a = some (ren m q) ∧ q < nx) ∧ leTags m nx a r
def leBoxes (m : List (Nat × Nat)) (nx : Nat) (a : List (Nat × Box)) : List (Nat × Box) → Prop
  | [] => True
  | (b, x) :: r => withV (lkB b a) (fun y => y.cells = x.cells ∧ leTags m nx y.tags x.tags ∧ b < nx) ∧ leBoxes m nx a r
def leLive (m : List (Nat × Nat)) (nx : Nat) (a : List (Nat × Nat)) : List (Nat × Nat) → Prop
  | [] => True
  | (q, e) :: r => (lkN (ren m q) a = some e ∧ q < nx) ∧ leLive m nx a r
def liveInj (m : List (Nat × Nat)) (l : List (Nat × Nat)) : Prop := ((l.map fun p => ren m p.1).Nodup)
def Le (s s1 : S) : Prop :=
  4 ≤ s1.nx ∧ ∃ m, leSlots m s1.nx s.slots s1.slots ∧ leBoxes m s1.nx s.boxes s1.boxes ∧ leLive m s1.nx s.live s1.live ∧ liveInj m s1.live
def down (F : S → Prop) (s : S) : Prop := ∃ s1, Le s s1 ∧ F s1 ∨ F s
theorem down_refl {F : S → Prop} {s : S} (h : F s) : down F s := ⟨s, .inr h⟩
def ARounds (F : (Exit → S → Prop) → S → Prop) (Q : Exit → S → Prop) : Nat → S → Prop
  | 0, _ => False
  | n + 1, s => F (athen (down (ARounds F Q n)) Q) s
def Opd.rd : Opd → List Nat
  | .t n => [n]
  | .k _ => []
def optRd : Option Opd → List Nat
  | some x => x.rd
  | none => []
def opdsRd : List Opd → List Nat
  | [] => []
  | x :: r => x.rd ++ opdsRd r
def partsRd : List (Nat × Nat × Opd) → List Nat
  | [] => []
  | (_, _, x) :: r => x.rd ++ partsRd r
def COp.rd : COp → List Nat
  | .mv x => x.rd
  | .pick c a b => c.rd ++ a.rd ++ b.rd
  | .alloc _ => []
  | .box x => x.rd
  | .build _ ps => partsRd ps
  | .bsl _ _ xs => opdsRd xs
  | .ld x _ => x.rd
  | .st x v _ => x.rd ++ v.rd
  | .fa x _ => x.rd
  | .iaA x i _ _ => x.rd ++ i.rd
  | .iaS x i _ => x.rd ++ i.rd
  | .fld x _ _ => x.rd
  | .ixA x i _ _ _ => x.rd ++ i.rd
  | .bin _ x y => x.rd ++ y.rd
  | .eqc _ _ x y => x.rd ++ y.rd
  | .bb _ x y => x.rd ++ y.rd
  | .un _ x => x.rd
  | .cvII _ x => x.rd
  | .cvIF _ x => x.rd
  | .cvFI _ x => x.rd
  | .cvSame x => x.rd
  | .lenS x => x.rd
  | .lenK _ => []
  | .app _ _ _ x y => x.rd ++ y.rd
  | .call _ args => opdsRd args
  | .callp _ args => opdsRd args
  | .callv g args => g.rd ++ opdsRd args
  | .ext x _ => x.rd
  | .mkf _ a b => opdsRd a ++ opdsRd b
  | .slS _ x lo hi => x.rd ++ optRd lo ++ optRd hi
  | .nc x => x.rd
  | .mm _ args => opdsRd args
  | .xt _ x => x.rd
  | .slA x _ _ => x.rd
  | .ixB x i => x.rd ++ i.rd
  | .isn _ x => x.rd
  | .callvp g args => g.rd ++ opdsRd args
  | .callr _ args => opdsRd args
  | .callvr g args => g.rd ++ opdsRd args
  | .slV x _ _ hi => x.rd ++ hi.rd
  | .appV _ _ _ y x => y.rd ++ x.rd
def COp.isApp : COp → Bool
  | .app .. => true
  | _ => false
def COp.rdB : COp → List Nat
  | .ld x _ => x.rd
  | .st x _ _ => x.rd
  | .callp _ args => opdsRd args
  | .callvp _ args => opdsRd args
  | .callr _ args => opdsRd args
  | .callvr _ args => opdsRd args
  | .mkf _ _ b => opdsRd b
  | .slA x _ _ => x.rd
  | .appV _ _ _ _ x => x.rd
  | _ => []
def COp.wrB : COp → List Nat
  | .st x _ _ => x.rd
  | .callp _ args => opdsRd args
  | .callvp _ args => opdsRd args
  | .mkf _ _ b => opdsRd b
  | .slA x _ _ => x.rd
  | _ => []
def COp.isFrz : COp → Bool
  | .mkf _ _ b => !b.isEmpty
  | .slA .. => true
  | _ => false
def COp.ptrSrc : COp → List Nat
  | .mv x | .fa x _ | .iaA x _ _ _ | .nc x | .cvSame x => x.rd
  | .pick _ a b => a.rd ++ b.rd
  | _ => []
def COp.isAl : COp → Bool
  | .alloc _ | .box _ => true
  | _ => false
def COp.ro : COp → COp
  | .callp f args => .callr f args
  | .callvp g args => .callvr g args
  | o => o
def CO.ro (o : CO) : CO := ⟨o.dst, o.op.ro, o.g⟩
def roL (ro : List Nat) : Nat → List CO → List CO
  | _, [] => []
  | i, o :: r => (bif ro.contains i then o.ro else o) :: roL ro (i + 1) r
theorem roL_nil : ∀ {i : Nat} {l : List CO}, roL [] i l = l
  | _, [] => rfl
  | i, o :: l => by show o :: roL [] (i + 1) l = _; rw [roL_nil]
def CO.rd (o : CO) : List Nat := o.op.rd ++ (match o.g with | some (t, _) => [t] | none => [])
abbrev Tag := Option (Option Nat)
def Tag.okT : Tag → Nat → Bool
  | none, _ => true
  | some z, b => z == some b
def Tag.dis : Tag → Tag → Bool
  | some none, _ => true
  | _, some none => true
  | some (some a), some (some b) => a != b
  | _, _ => false
def look : List (Nat × Tag) → Nat → Tag
  | [], _ => none
  | (t, z) :: r, n => bif n == t then z else look r n
def CO.indep (x y : CO) : Bool :=
  (match x.dst with | some d => !y.rd.contains d && y.dst != some d | none => true) &&
  (match y.dst with | some d => !x.rd.contains d | none => true) && !(x.op.isApp && y.op.isApp)
def CO.half (T : List (Nat × Tag)) (x y : CO) : Bool :=
  x.op.wrB.all fun t => y.op.rdB.all (fun u => (look T t).dis (look T u)) && (!x.op.isFrz || y.rd.all fun u => (look T t).dis (look T u))
def CO.apartT (T : List (Nat × Tag)) (x y : CO) : Bool := x.indep y && x.half T y && y.half T x
def CO.apart (x y : CO) : Bool := x.apartT [] y
def joinT (T : List (Nat × Tag)) : List Nat → Tag
  | [] => some none
  | [t] => look T t
  | t :: r => if look T t == joinT T r then look T t else none
def tabGo (T : List (Nat × Tag)) (base : Nat) : Nat → List CO → List (Nat × Tag)
  | _, [] => T
  | i, o :: r => tabGo (match o.dst with | some t => (t, if o.op.isAl then some (some (base + i)) else joinT T o.op.ptrSrc) :: T | none => T) base (i + 1) r
def entryT : List (Nat × SV) → List (Nat × Tag)
  | [] => []
  | (t, .ptr b _) :: r => (t, some (some b)) :: entryT r
  | (t, _) :: r => (t, some none) :: entryT r
def entryOk (T : List (Nat × Tag)) : List (Nat × SV) → Bool
  | [] => true
  | (t, .ptr b _) :: r => (look T t).okT b && entryOk T r
  | (_, _) :: r => entryOk T r
def stepOk (T : List (Nat × Tag)) (id : Nat) (o : CO) : Bool :=
  match o.dst with
  | none => true
  | some t => match look T t with
    | none => true
    | some z => if o.op.isAl then z == some id else o.op.ptrSrc.all fun u => match look T u with | some z' => z' == none || z' == z | none => false
def stepsOk (T : List (Nat × Tag)) (base : Nat) : Nat → List CO → Bool
  | _, [] => true
  | i, o :: r => stepOk T (base + i) o && stepsOk T base (i + 1) r
def badOk (T : List (Nat × Tag)) (ops : List CO) : List (Nat × Nat) → Bool
  | [] => true
  | (i, j) :: r => (match ops[i]?, ops[j]? with | some x, some y => x.apartT T y | _, _ => false) && badOk T ops r
def dynT (T : List (Nat × Tag)) (ops : List CO) (bad : List (Nat × Nat)) (base : Nat) (sl : List (Nat × SV)) : Bool := entryOk T sl && stepsOk T base 0 ops && badOk T ops bad
def dynOk (ops : List CO) (bad : List (Nat × Nat)) (base : Nat) (sl : List (Nat × SV)) : Bool := dynT (tabGo (entryT sl) base 0 ops) ops bad base sl
def putPs : List Nat → List AV → S → S
  | p :: ps, x :: xs, s => putPs ps xs (s.put (some p) (.dat x none))
  | _, _, s => s
def cutL (wr : List Nat) : List (Nat × SV) → List (Nat × SV)
  | [] => []
  | (t, v) :: r => bif wr.contains t then cutL wr r else (t, v) :: cutL wr r
def cutS (wr : List Nat) (s : S) : S := { s with slots := cutL wr s.slots }
def rfQ (wr : List Nat) (F : S → Prop) (Q : Exit → S → Prop) : Exit → S → Prop
  | .normal, s => down F (cutS wr s)
  | .ret, s => Q .ret (cutS wr s)
  | .exit id, s => Q (.exit id) (cutS wr s)
  | _, _ => False
def onlyN (K : S → Prop) : Exit → S → Prop
  | .normal, s => K s
  | _, _ => False
def scopeQ (l : Nat) (K : S → Prop) (Q : Exit → S → Prop) : Exit → S → Prop
  | .goto l', s => l' = l ∧ K s
  | e, s => Q e s
def noGo (Q : Exit → S → Prop) : Exit → S → Prop
  | .goto _, _ => False
  | e, s => Q e s
def regG (C : Con) (ops : List CO) (bad : List (Nat × Nat)) (K : S → Prop) (s : S) : Prop :=
  ∃ ro, dynOk (roL ro 0 ops) bad s.nx s.slots = true ∧ aops C s.nx 0 (roL ro 0 ops) K s
def aw (C : Con) : CCode → (Exit → S → Prop) → S → Prop
  | .skip, Q, s => Q .normal s
  | .reg ops, Q, s => aops C s.nx 0 ops (fun s' => Q .normal { s' with nx := s.nx + ops.length }) s
  | .seq a b, Q, s => aw C a (athen (aw C b Q) Q) s
  | .join a b, Q, s => aw C a (athen (down (aw C b Q)) Q) s
  | .cond c a b, Q, s => withV (opdA s c) fun
      | .bool t => (t = true → aw C a Q s) ∧ (t = false → aw C b Q s)
      | _ => False
  | .block id c, Q, s => aw C c (ablock id Q) s
  | .loop c, Q, s => down (fun s => ∃ n, ARounds (aw C c) Q n s) s
  | .exit id, Q, s => Q (.exit id) s
  | .ret, Q, s => Q .ret s
  | .scope l c r, Q, s => aw C c (scopeQ l (aw C r (noGo Q)) Q) s
  | .label _, Q, s => Q .normal s
  | .goto l, Q, s => Q (.goto l) s
  | .regD ops bad, Q, s => ∃ ids, (nodupB ids && ownIds ids) = true ∧ withV (cellsA s.boxes ids) fun css => regG C ops bad (fun s' => Q .normal { s' with nx := s.nx + ops.length }) (frzs ids css s)
  | .rfor g ps wr as bd, Q, s => withV (opdA s g) fun gv => ∃ xs, C.i gv xs ∧ (∀ x ∈ xs, x.length = ps.length) ∧ ∃ F : Nat → S → Prop, down (F 0) s ∧ (∀ i s', F i s' → opdA s' g = some gv) ∧
      (∀ i x s', xs[i]? = some x → F i s' → aw C as (onlyN (aw C bd (rfQ wr (F (i + 1)) Q))) (putPs ps x s')) ∧ ∀ s', F xs.length s' → Q .normal s'
end Go.Eng
namespace Go.Eng
set_option linter.unusedVariables false
set_option linter.unusedSimpArgs false
set_option linter.unnecessarySimpa false
open Go
def szOf (P : Program) (t : TypeId) : Option Nat := (P.info? t).map (·.size)
def aggB (P : Program) (t : TypeId) : Bool :=
  match P.underlying t with
  | some (.struct _) | some (.array _ _) => true
  | _ => false
def rdOf (P : Program) (t : TypeId) : Option (Option Nat) :=
  match P.underlying t with
  | some (.struct _) | some (.array _ _) => (szOf P t).map some
  | some _ => some none
  | none => none
def zeroOf (P : Program) (t : TypeId) : Option (List AV) :=
  match (P.info? t).bind (·.zero) with
  | some z => z.cells.toList.mapM ofV1
  | none => none
def cOpd : Operand → Option Opd
  | .tmp t => some (.t t)
  | .const v => (ofV v).map .k
  | .func f => some (.k (.fn (.func f) [] []))
  | .global _ => none
def cOpds (l : Array Operand) : Option (List Opd) := l.toList.mapM cOpd
def fieldOf (P : Program) (s : TypeId) (f : Nat) : Option Field :=
  match P.underlying s with
  | some (.struct fs) => fs[f]?
  | _ => none
def tileK (P : Program) (rec : TypeId → Option (List CK)) : List Field → Nat → Option (List CK)
  | [], _ => some []
  | f :: fs, off =>
    if f.name = "_" ∨ f.offset ≠ off then none else
    match rec f.type with
    | some ks => if szOf P f.type = some ks.length ∧ 0 < ks.length then (tileK P rec fs (off + ks.length)).map (ks ++ ·) else none
    | none => none
def plainK (P : Program) : Nat → TypeId → Option (List CK)
  | 0, _ => none
  | d + 1, t => match P.underlying t with
    | some .bool => some [.b]
    | some (.int _) => some [.i]
    | some (.float _) => some [.f]
    | some .string => some [.s]
    | some (.struct fs) => if P.stoodInHeld t then none else tileK P (plainK P d) fs.toList 0
    | some (.array n e) => match plainK P d e with
      | some ks => if szOf P e = some ks.length then some (List.replicate n ks).flatten else none
      | none => none
    | _ => none
def cEq (P : Program) (t : TypeId) (neg : Bool) (x y : Opd) : Option COp :=
  match plainK P 20 t with
  | some ks => if aggB P t && !P.eqGuardType P.depth t then some (.eqc ks neg x y) else none
  | none => none
def scalarB (P : Program) (t : TypeId) : Bool :=
  match P.underlying t with
  | some (.int _) | some (.float _) => true
  | _ => false
def boolB (P : Program) (t : TypeId) : Bool :=
  match P.underlying t with
  | some .bool => true
  | _ => false
def callable (P : Program) (f : FuncId) : Bool :=
  match P.funcs[f]? with
  | some fn => fn.name != "runtime.NumGoroutine" && fn.body.isSome
  | none => false
def cPart (P : Program) (t : TypeId) (i : Nat) : Option (Nat × Nat) :=
  match P.underlying t with
  | some (.struct fs) => match fs[i]? with
    | some f => (szOf P f.type).map fun z => (f.offset, z)
    | none => none
  | some (.array _ e) => (szOf P e).map fun z => (i * z, z)
  | _ => none
def cParts (P : Program) (t : TypeId) : List (Nat × Operand) → Option (List (Nat × Nat × Opd))
  | [] => some []
  | (i, x) :: r => match cPart P t i, cOpd x, cParts P t r with
    | some (o, z), some x, some ps => some ((o, z, x) :: ps)
    | _, _, _ => none
def sliceB (P : Program) (t : TypeId) : Bool := match P.underlying t with | some (.slice _) => true | _ => false
def buildOk (P : Program) (t : TypeId) : Bool :=
  match P.underlying t with
  | some (.struct fs) => fs.toList.all fun f => (szOf P f.type).isSome
  | some (.array _ e) => (szOf P e).isSome
  | _ => false
def partsFit (zs : Nat) : List (Nat × Nat × Opd) → Bool
  | [] => true
  | (o, z, _) :: r => decide (o + z ≤ zs) && partsFit zs r
def cOpt : Option Operand → Option (Option Opd)
  | none => some none
  | some x => (cOpd x).map some
def cConv (P : Program) (s d : TypeId) (x : Opd) : Option COp :=
  match P.underlying s, P.underlying d with
  | some (.int _), some (.int k) => some (.cvII k x)
  | some (.int _), some (.float k) => some (.cvIF k x)
  | some (.float _), some (.int k) => some (.cvFI k x)
  | _, _ => none
def hasPtr (P : Program) : List TypeId → Bool
  | [] => false
  | t :: r => (match P.underlying t with | some (.pointer _) => true | _ => false) || hasPtr P r
def xtOf (P : Program) (f : FuncId) : Option Xt :=
  match P.funcs[f]? with
  | some fn => if fn.body.isNone && (Extern.findNext fn).isNone then
      if fn.name == "math.Float64bits" then some .fbits
      else if fn.name == "math.Float64frombits" then some .ffrom
      else if fn.name == "math.RoundToEven" then some .rte
      else none
    else none
  | none => none
def cCall (P : Program) (c : Call) : Option COp :=
  match c.callee with
  | .value (.func f) => if callable P f then (cOpds c.args).map (if hasPtr P c.argTypes.toList then .callp f else .call f)
    else match xtOf P f, c.args.toList with
      | some e, [x] => (cOpd x).map (.xt e)
      | _, _ => none
  | .value g => match cOpd g, cOpds c.args with
    | some g, some as => some (if hasPtr P c.argTypes.toList then .callvp g as else .callv g as)
    | _, _ => none
  | .builtin .len => match c.argTypes[0]?, c.args[0]? with
    | some t, some x => match P.underlying t with
      | some (.slice _) => (cOpd x).map .lenS
      | some (.array n _) => some (.lenK n)
      | _ => none
    | _, _ => none
  | .builtin .append => match c.argTypes.toList, c.args.toList with
    | [t, t'], [x, y] => if t = t' then match P.underlying t, cOpd x, cOpd y with
        | some (.slice e), some x, some y => match P.info? e with
          | some i => match i.zero with
            | some z => if 0 < i.size && z.cells.size == i.size && 0 < i.bytes then some (.app e i.size i.bytes x y) else none
            | none => none
          | none => none
        | _, _, _ => none
      else none
    | _, _ => none
  | .builtin .max => (cOpds c.args).map (.mm true)
  | .builtin .min => (cOpds c.args).map (.mm false)
  | _ => none
def cOp (P : Program) : Op → Option COp
  | .move x | .assign x => (cOpd x).map .mv
  | .pick c a b => match cOpd c, cOpd a, cOpd b with
    | some c, some a, some b => some (.pick c a b)
    | _, _, _ => none
  | .alloc t => (zeroOf P t).map .alloc
  | .box _ x => (cOpd x).map .box
  | .build t ps => match zeroOf P t, cParts P t ps.toList with
    | some zs, some ps => if partsFit zs.length ps && buildOk P t then some (.build zs ps) else none
    | _, _ => none
  | .buildSlice t n ps => match P.underlying t with
    | some (.slice e) => match zeroOf P e, szOf P e, ps.toList.mapM (fun p => cOpd p.2) with
      | some zs, some z, some xs => if n * z ≤ 16777216 && 0 < z && zs.length == z && ps.toList.map (·.1) == List.range n then some (.bsl e z xs) else none
      | _, _, _ => none
    | _ => none
  | .load t x => match rdOf P t, cOpd x with
    | some r, some x => some (.ld x r)
    | _, _ => none
  | .store t x v => match szOf P t, cOpd x, cOpd v with
    | some z, some x, some v => some (.st x v z)
    | _, _, _ => none
  | .nilCheck x => (cOpd x).map .nc
  | .binOp op t x y _ => match cOpd x, cOpd y with
    | some x, some y =>
      if scalarB P t then some (.bin op x y)
      else if boolB P t then (match op with | .eql => some (.bb false x y) | .neq => some (.bb true x y) | _ => none)
      else if sliceB P t then (match op, y with | .eql, .k .nils => some (.isn false x) | .neq, .k .nils => some (.isn true x) | _, _ => none)
      else match op with
        | .eql => cEq P t false x y
        | .neq => cEq P t true x y
        | _ => none
    | _, _ => none
  | .unOp op _ x => (cOpd x).map (.un op)
  | .convert s d x => (cOpd x).bind (cConv P s d)
  | .fieldAddr s x f => match fieldOf P s f, cOpd x with
    | some fd, some x => if szOf P fd.type == some 0 || (szOf P fd.type).isNone then none else some (.fa x fd.offset)
    | _, _ => none
  | .field s x f => match fieldOf P s f, cOpd x with
    | some fd, some x => (rdOf P fd.type).map (.fld x fd.offset)
    | _, _ => none
  | .indexAddr t x i => match P.underlying t, cOpd x, cOpd i with
    | some (.array n e), some x, some i => (szOf P e).map (.iaA x i n)
    | some (.slice e), some x, some i => (szOf P e).map (.iaS x i)
    | _, _, _ => none
  | .index t x i => match P.underlying t, cOpd x, cOpd i with
    | some (.array n e), some x, some i => match szOf P e, rdOf P e with
      | some z, some r => some (.ixA x i n z r)
      | _, _ => none
    | some .string, some x, some i => some (.ixB x i)
    | _, _, _ => none
  | .extract x i => (cOpd x).map (.ext · i)
  | .makeFunc (.func f) a b => match cOpds a, cOpds b with
    | some a, some b => if callable P f then some (.mkf (.func f) a b) else none
    | _, _ => none
  | .slice t x lo hi none => match P.underlying t, cOpd x, cOpt lo, cOpt hi with
    | some (.slice e), some x, some lo, some hi => (szOf P e).map fun z => .slS z x lo hi
    | some (.array n e), some x, some none, some none => (szOf P e).map fun z => .slA x n z
    | some (.array n e), some x, some none, some (some hi) => (szOf P e).map fun z => .slV x n z hi
    | _, _, _, _ => none
  | .call c => cCall P c
  | _ => none
def srcOf (P : Program) (ops : List Oper) (y : Nat) : Option Operand :=
  match ops.find? (fun o => o.dst == some y) with
  | some o => match o.op with
    | .slice t x none (some _) none => match P.underlying t with
      | some (.array _ _) => some x
      | _ => none
    | _ => none
  | none => none
def appVOf (P : Program) (ops : List Oper) : Op → Option COp
  | .call c => match c.callee, c.argTypes.toList, c.args.toList with
    | .builtin .append, [t, t'], [.const (.slice none 0 0), .tmp y] => if t = t' then match P.underlying t, (srcOf P ops y).bind cOpd with
        | some (.slice e), some x => match P.info? e with
          | some i => match i.zero with
            | some z => if 0 < i.size && z.cells.size == i.size && 0 < i.bytes then some (.appV e i.size i.bytes (.t y) x) else none
            | none => none
          | none => none
        | _, _ => none
      else none
    | _, _, _ => none
  | _ => none
def cOpR (P : Program) (ops : List Oper) (o : Op) : Option COp :=
  match appVOf P ops o with
  | some c => some c
  | none => cOp P o
def cGuard (ops : Array Oper) : Option (Nat × Bool) → Option (Option (Nat × Bool))
  | none => some none
  | some (j, w) => match (ops[j]?).bind (·.dst) with
    | some t => some (some (t, w))
    | none => none
def cOper (P : Program) (ops : Array Oper) (o : Oper) : Option CO :=
  match cOpR P ops.toList o.op, cGuard ops o.guard with
  | some c, some g => some ⟨o.dst, c, g⟩
  | _, _ => none
def cOpers (P : Program) (ops : Array Oper) : List Oper → Option (List CO)
  | [] => some []
  | o :: r => match cOper P ops o, cOpers P ops r with
    | some c, some cs => some (c :: cs)
    | _, _ => none
def waits (ops : List Oper) (i : Nat) (oj : Oper) : Bool :=
  oj.after.any fun e => Region.binds .any e && (e.on == i || match ops[e.on]? with
    | some ok => ok.after.any fun e' => Region.binds .any e' && e'.on == i
    | none => false)
def drawRow (bad : List (Nat × Nat)) (ops : List Oper) (i : Nat) (x : CO) : Nat → List Oper → List CO → Bool
  | j, oj :: os, y :: ys => (decide (j ≤ i) || oj.after.any (fun e => Region.binds .any e && e.on == i) || x.apart y || waits ops i oj || bad.contains (i, j)) && drawRow bad ops i x (j + 1) os ys
  | _, _, _ => true
def drawRows (bad : List (Nat × Nat)) (ops : List Oper) (cos : List CO) : Nat → List Oper → List CO → Bool
  | i, oi :: os, x :: xs => oi.after.all (fun e => !Region.binds .any e || decide (e.on < i)) && drawRow bad ops i x 0 ops cos && drawRows bad ops cos (i + 1) os xs
  | _, _, _ => true
def drawOk (bad : List (Nat × Nat)) (ops : List Oper) (cos : List CO) : Bool := drawRows bad ops cos 0 ops cos
def badRow (ops : List Oper) (i : Nat) (x : CO) : Nat → List Oper → List CO → List (Nat × Nat)
  | j, oj :: os, y :: ys => (if decide (j ≤ i) || oj.after.any (fun e => Region.binds .any e && e.on == i) || x.apart y || waits ops i oj then [] else [(i, j)]) ++ badRow ops i x (j + 1) os ys
  | _, _, _ => []
def badRows (ops : List Oper) (cos : List CO) : Nat → List CO → List (Nat × Nat)
  | i, x :: xs => badRow ops i x 0 ops cos ++ badRows ops cos (i + 1) xs
  | _, [] => []
def couldOk (cos : List CO) : List (Nat × Nat) → Bool
  | [] => true
  | (i, j) :: r => (match cos[i]?, cos[j]? with | some x, some y => x.indep y | _, _ => false) && couldOk cos r
def isReg : Code → Bool
  | .region .. => true
  | .skip => true
  | _ => false
def dstsOf : List CO → List Nat
  | [] => []
  | o :: r => (match o.dst with | some d => [d] | none => []) ++ dstsOf r
def CCode.writes : CCode → List Nat
  | .reg ops => dstsOf ops
  | .regD ops _ => dstsOf ops
  | .seq a b | .join a b | .cond _ a b => a.writes ++ b.writes
  | .block _ c | .loop c => c.writes
  | .rfor _ _ wr _ _ => wr
  | .scope _ c r => c.writes ++ r.writes
  | _ => []
def CCode.after (l : Nat) : CCode → Option CCode
  | .seq a b | .join a b => match a.after l with
    | some r => some (.join r b)
    | none => b.after l
  | .label l' => if l' == l then some .skip else none
  | _ => none
def CCode.labels : CCode → List Nat
  | .seq a b | .join a b => a.labels ++ b.labels
  | .label l => [l]
  | _ => []
def cCode (P : Program) : Code → Option CCode
  | .skip => some .skip
  | .region _ ops draws => match cOpers P ops ops.toList with
    | some cos => if draws then
        match badRows ops.toList cos 0 cos with
        | [] => if drawOk [] ops.toList cos then some (.reg cos) else none
        | bad => if drawOk bad ops.toList cos && couldOk cos bad then some (.regD cos bad) else none
      else some (.reg cos)
    | none => none
  | .seq a b => match cCode P a, cCode P b with
    | some x, some y => some (if isReg a then .seq x y else .join x y)
    | _, _ => none
  | .cond c a b => match cOpd c, cCode P a, cCode P b with
    | some c, some a, some b => some (.cond c a b)
    | _, _, _ => none
  | .block id c => (cCode P c).map (.block id)
  | .loop c => (cCode P c).map .loop
  | .exit id => some (.exit id)
  | .ret => some .ret
  | .label l => some (.label l)
  | .goto l => some (.goto l)
  | .scope c => match cCode P c with
    | some c => match c.labels with
      | [l] => (c.after l).map (.scope l c)
      | _ => none
    | none => none
  | .rangeFunc g ps as bd => match cOpd g, cCode P as, cCode P bd with
    | some g, some a, some b =>
      let wr := ps.toList ++ a.writes ++ b.writes
      if g.rd.all (fun t => !wr.contains t) then some (.rfor g ps.toList wr a b) else none
    | _, _, _ => none
  | _ => none
def dstFits (n : Nat) : List CO → Bool
  | [] => true
  | o :: r => (match o.dst with | some d => decide (d < n) | none => true) && dstFits n r
def CCode.fits (n : Nat) : CCode → Bool
  | .reg ops => dstFits n ops
  | .regD ops _ => dstFits n ops
  | .seq a b | .join a b | .cond _ a b => a.fits n && b.fits n
  | .block _ c | .loop c => c.fits n
  | .scope _ c r => c.fits n && r.fits n
  | .rfor _ ps wr a b => ps.all (fun t => decide (t < n)) && a.fits n && b.fits n && ps.all (fun t => wr.contains t) && a.writes.all (fun t => wr.contains t) && b.writes.all (fun t => wr.contains t)
  | _ => true
inductive CRes where
  | tmp (t : Nat)
  | cell (t : Nat) (sz : Option Nat)
  deriving Inhabited
def cRes (P : Program) : ResultVar → Option CRes
  | .tmp t => some (.tmp t)
  | .cell a t => (rdOf P t).map (.cell a)
structure CFn where
  nt : Nat
  res : List CRes
  code : CCode
def cFn (P : Program) (f : FuncId) : Option CFn :=
  match P.funcs[f]? with
  | some fn => match fn.body, fn.results.toList.mapM (cRes P) with
    | some c, some rs => match cCode P c with
      | some cc => if cc.fits fn.ntmps && callable P f then some ⟨fn.ntmps, rs, cc⟩ else none
      | none => none
    | _, _ => none
  | none => none
end Go.Eng
namespace Go.Eng
set_option linter.unusedVariables false
set_option linter.unusedSimpArgs false
set_option linter.unnecessarySimpa false
open Go
open Go.RowKit (Below)
inductive DV (w : World) (π : Nat → Nat → Prop) : AV → Value → Prop
  | bool (b : Bool) : DV w π (.bool b) (.bool b)
  | int (k : IntKind) (n : Int) : DV w π (.int k n) (.int k n)
  | float (k : FloatKind) (n : Nat) : DV w π (.float k n) (.float k n)
  | str (s : ByteArray) : DV w π (.str s) (.string s)
  | nilp : DV w π .nilp (.pointer none)
  | nils : DV w π .nils (.slice none 0 0)
  | nilfn : DV w π .nilfn .nilFunc
  | nilif : DV w π .nilif .nilIface
  | fnan (n : Nat) : nanB n = true → DV w π .fnan (.float .f64 n)
  | iface (t : Nat) (a : AV) (v : Value) : DV w π a v → DV w π (.iface t a) (.iface t v)
  | agg (as : List AV) (vs : Array Value) : as.length = vs.size → (∀ a ∈ as, a.scalar = true) → (∀ (i : Nat) (a : AV) (v : Value), as[i]? = some a → vs[i]? = some v → DV w π a v) → DV w π (.agg as) (.agg vs)
  | tup (as : List AV) (vs : Array Value) : as.length = vs.size → (∀ (i : Nat) (a : AV) (v : Value), as[i]? = some a → vs[i]? = some v → DV w π a v) → DV w π (.tup as) (.tuple vs)
  | fn (f : Fn) (as : List AV) (vs : Array Value) (bs : List AV) (us : Array Value) : as.length = vs.size → bs.length = us.size →
      (∀ (i : Nat) (a : AV) (v : Value), as[i]? = some a → vs[i]? = some v → DV w π a v) → (∀ (i : Nat) (a : AV) (v : Value), bs[i]? = some a → us[i]? = some v → DV w π a v) → DV w π (.fn f as bs) (.func f vs us)
  | sl (xs : List (List AV)) (B off cap z : Nat) (f : Nat → Nat → Value) : xs.length ≤ cap → (∀ (i : Nat) (r : List AV), xs[i]? = some r → r.length = z) →
      (∀ (i j : Nat) (r : List AV) (a : AV), xs[i]? = some r → r[j]? = some a → a.scalar = true) →
      (∀ (i j : Nat) (r : List AV) (a : AV), xs[i]? = some r → r[j]? = some a → π B (off + i * z + j)) →
      (∀ (i j : Nat) (r : List AV) (a : AV), xs[i]? = some r → r[j]? = some a → w.cell? ⟨B, off + i * z + j, none⟩ = some (f i j)) →
      (∀ (i j : Nat) (r : List AV) (a : AV), xs[i]? = some r → r[j]? = some a → DV w π a (f i j)) → DV w π (.sl xs) (.slice (some ⟨B, off, none⟩) xs.length cap)
  | sl0 (A : Addr) : DV w π (.sl []) (.slice (some A) 0 0)
  | ref (cs : List AV) (B off : Nat) (f : Nat → Value) : (∀ (j : Nat) (a : AV), cs[j]? = some a → a.scalar = true) → (∀ (j : Nat) (a : AV), cs[j]? = some a → π B (off + j)) →
      (∀ (j : Nat) (a : AV), cs[j]? = some a → w.cell? ⟨B, off + j, none⟩ = some (f j)) → (∀ (j : Nat) (a : AV), cs[j]? = some a → DV w π a (f j)) → DV w π (.ref cs) (.pointer (some ⟨B, off, none⟩))
theorem DV.mono {w w' : World} {π π' : Nat → Nat → Prop} (hp : ∀ b o, π b o → π' b o) (hc : ∀ b o, π b o → w'.cell? ⟨b, o, none⟩ = w.cell? ⟨b, o, none⟩) {a : AV} {v : Value} (h : DV w π a v) : DV w' π' a v := by
  induction h with
  | bool | int | float | str | nilp | nils | nilfn | nilif => constructor
  | iface t a v _ ih => exact .iface t a v ih
  | fnan n h => exact .fnan n h
  | agg as vs hl hs _ ih => exact .agg as vs hl hs ih
  | tup as vs hl _ ih => exact .tup as vs hl ih
  | fn f as vs bs us h1 h2 _ _ ih1 ih2 => exact .fn f as vs bs us h1 h2 ih1 ih2
  | sl xs B off cap z f h1 h2 h3 h4 h5 _ ih =>
    exact .sl xs B off cap z f h1 h2 h3 (fun i j r a hr ha => hp _ _ (h4 i j r a hr ha)) (fun i j r a hr ha => (hc _ _ (h4 i j r a hr ha)).trans (h5 i j r a hr ha)) ih
  | sl0 A => exact .sl0 A
  | ref cs B off f h1 h2 h3 _ ih => exact .ref cs B off f h1 (fun j a ha => hp _ _ (h2 j a ha)) (fun j a ha => (hc _ _ (h2 j a ha)).trans (h3 j a ha)) ih
def DVs (w : World) (π : Nat → Nat → Prop) (as : List AV) (vs : List Value) : Prop :=
  as.length = vs.length ∧ ∀ (i : Nat) (a : AV) (v : Value), as[i]? = some a → vs[i]? = some v → DV w π a v
theorem DVs.mono {w w' : World} {π π' : Nat → Nat → Prop} (hp : ∀ b o, π b o → π' b o) (hc : ∀ b o, π b o → w'.cell? ⟨b, o, none⟩ = w.cell? ⟨b, o, none⟩) {as : List AV} {vs : List Value} (h : DVs w π as vs) : DVs w' π' as vs :=
  ⟨h.1, fun i a v ha hv => (h.2 i a v ha hv).mono hp hc⟩
theorem DVs.nil (w : World) (π : Nat → Nat → Prop) : DVs w π [] [] := ⟨rfl, fun i a v h => by simp at h⟩
theorem DVs.cons {w : World} {π : Nat → Nat → Prop} {a : AV} {v : Value} {as : List AV} {vs : List Value} (h : DV w π a v) (hs : DVs w π as vs) : DVs w π (a :: as) (v :: vs) := by
  refine ⟨by simp [hs.1], fun i x u hx hu => ?_⟩
  cases i with
  | zero => simp at hx hu; subst hx; subst hu; exact h
  | succ i => exact hs.2 i x u (by simpa using hx) (by simpa using hu)
theorem DVs.append {w : World} {π : Nat → Nat → Prop} {as bs : List AV} {vs us : List Value} (h : DVs w π as vs) (k : DVs w π bs us) : DVs w π (as ++ bs) (vs ++ us) := by
  refine ⟨by simp [h.1, k.1], fun i x u hx hu => ?_⟩
  by_cases hi : i < as.length
  · exact h.2 i x u (by rwa [List.getElem?_append_left hi] at hx) (by rwa [List.getElem?_append_left (by rw [← h.1]; exact hi)] at hu)
  · rw [List.getElem?_append_right (by omega)] at hx
    rw [List.getElem?_append_right (by rw [← h.1]; omega)] at hu
    exact k.2 (i - as.length) x u hx (by rw [h.1]; exact hu)
theorem DVs.get {w : World} {π : Nat → Nat → Prop} {as : List AV} {vs : List Value} (h : DVs w π as vs) {i : Nat} {a : AV} (ha : as[i]? = some a) : ∃ v, vs[i]? = some v ∧ DV w π a v := by
  have hi : i < as.length := by
    rcases Nat.lt_or_ge i as.length with h | h
    · exact h
    · rw [List.getElem?_eq_none h] at ha; cases ha
  have hv : vs[i]? = some vs[i]! := by
    rw [List.getElem?_eq_getElem (by rw [← h.1]; exact hi)]
    simp [getElem!_pos vs i (by rw [← h.1]; exact hi)]
  exact ⟨_, hv, h.2 i a _ ha hv⟩
theorem DV.oneCell {w : World} {π : Nat → Nat → Prop} {a : AV} {v : Value} (h : DV w π a v) (hs : a.scalar = true) : v.oneCell' = true := by
  cases h <;> first | rfl | (simp [AV.scalar] at hs)
theorem DV.cells {w : World} {π : Nat → Nat → Prop} {a : AV} {v : Value} (h : DV w π a v) (ht : ∀ vs, a ≠ .tup vs) : DVs w π a.cells v.cells.toList ∧ ∀ x ∈ a.cells, x.scalar = true := by
  cases h with
  | agg as vs hl hs hd => exact ⟨⟨by simpa [AV.cells, Value.cells] using hl, fun i a v ha hv => hd i a v ha (by simpa [Value.cells] using hv)⟩, hs⟩
  | tup as vs => exact absurd rfl (ht as)
  | bool b => exact ⟨.cons (.bool b) (.nil _ _), by simp [AV.cells, AV.scalar]⟩
  | int k n => exact ⟨.cons (.int k n) (.nil _ _), by simp [AV.cells, AV.scalar]⟩
  | float k n => exact ⟨.cons (.float k n) (.nil _ _), by simp [AV.cells, AV.scalar]⟩
  | str s => exact ⟨.cons (.str s) (.nil _ _), by simp [AV.cells, AV.scalar]⟩
  | nilp => exact ⟨.cons .nilp (.nil _ _), by simp [AV.cells, AV.scalar]⟩
  | nils => exact ⟨.cons .nils (.nil _ _), by simp [AV.cells, AV.scalar]⟩
  | nilfn => exact ⟨.cons .nilfn (.nil _ _), by simp [AV.cells, AV.scalar]⟩
  | nilif => exact ⟨.cons .nilif (.nil _ _), by simp [AV.cells, AV.scalar]⟩
  | iface t a v h => exact ⟨.cons (.iface t a v h) (.nil _ _), by simp [AV.cells, AV.scalar]⟩
  | fnan n h => exact ⟨.cons (.fnan n h) (.nil _ _), by simp [AV.cells, AV.scalar]⟩
  | fn f as vs bs us h1 h2 h3 h4 => exact ⟨.cons (.fn f as vs bs us h1 h2 h3 h4) (.nil _ _), by simp [AV.cells, AV.scalar]⟩
  | ref cs B off f h1 h2 h3 h4 => exact ⟨.cons (.ref cs B off f h1 h2 h3 h4) (.nil _ _), by simp [AV.cells, AV.scalar]⟩
  | sl0 A => exact ⟨.cons (.sl0 A) (.nil _ _), by simp [AV.cells, AV.scalar]⟩
  | sl xs B off cap z f h1 h2 h3 h4 h5 h6 => exact ⟨.cons (.sl xs B off cap z f h1 h2 h3 h4 h5 h6) (.nil _ _), by simp [AV.cells, AV.scalar]⟩
theorem ofV1_DV {w : World} {π : Nat → Nat → Prop} {v : Value} {a : AV} (h : ofV1 v = some a) : DV w π a v ∧ a.scalar = true := by
  unfold ofV1 at h
  split at h <;> first | (cases h; exact ⟨by constructor, rfl⟩) | cases h
theorem mapM_ofV1 {w : World} {π : Nat → Nat → Prop} : ∀ (l : List Value) (as : List AV), l.mapM ofV1 = some as → DVs w π as l ∧ ∀ a ∈ as, a.scalar = true
  | [], as, h => by simp at h; subst h; exact ⟨.nil _ _, by simp⟩
  | v :: l, as, h => by
    simp only [List.mapM_cons, Option.bind_eq_bind, Option.bind_eq_some_iff, Option.pure_def, Option.some.injEq] at h
    obtain ⟨a, ha, as', has, rfl⟩ := h
    have h1 := ofV1_DV (w := w) (π := π) ha
    have h2 := mapM_ofV1 (w := w) (π := π) l as' has
    exact ⟨.cons h1.1 h2.1, by simpa using ⟨h1.2, h2.2⟩⟩
theorem ofV_DV {w : World} {π : Nat → Nat → Prop} {v : Value} {a : AV} (h : ofV v = some a) : DV w π a v := by
  unfold ofV at h
  split at h
  · rename_i cs
    simp only [Option.map_eq_some_iff] at h
    obtain ⟨as, has, rfl⟩ := h
    have h2 := mapM_ofV1 (w := w) (π := π) _ _ has
    exact .agg as cs (by simpa using h2.1.1) h2.2 (fun i a v ha hv => h2.1.2 i a v ha (by simpa using hv))
  · exact (ofV1_DV h).1
structure Fen where
  n : Nat
  X : Nat → Prop
  β : Nat → Nat
def Fen.ok (F : Fen) (B : Nat) : Prop := F.n ≤ B ∨ F.X B
def Fen.okb (F : Fen) (b B : Nat) : Prop := F.n ≤ B ∨ (b < 4 ∧ F.X B)
def Fen.top (w : World) : Fen := ⟨w.heap.size, fun _ => False, id⟩
structure Blw (n : Fen) (w w' : World) : Prop where
  os : w'.os = w.os
  tape : w'.tape = w.tape
  output : w'.output = w.output
  size : w.heap.size ≤ w'.heap.size
  block : ∀ k, k < n.n → ¬ n.X k → w'.heap[k]? = w.heap[k]?
  /-- what is no variables' block lies as it lay -/
  others : ∀ (k : Nat) (o : Obj), w.heap[k]? = some o → o.isCells = false → w'.heap[k]? = some o
theorem Blw.refl (n : Fen) (w : World) : Blw n w w := ⟨rfl, rfl, rfl, Nat.le_refl _, fun _ _ _ => rfl, fun _ _ h _ => h⟩
theorem Blw.trans {n : Fen} {a b c : World} (h : Blw n a b) (k : Blw n b c) : Blw n a c :=
  ⟨k.os.trans h.os, k.tape.trans h.tape, k.output.trans h.output, Nat.le_trans h.size k.size, fun i hi hx => (k.block i hi hx).trans (h.block i hi hx), fun i o hi ho => k.others i o (h.others i o hi ho) ho⟩
theorem Blw.of {n : Fen} {w w' : World} (h : Below w.heap.size w w') (hn : n.n ≤ w.heap.size) : Blw n w w' := ⟨h.os, h.tape, h.output, h.size, fun k hk _ => h.block k (by omega), fun k o hk _ => (h.block k (Array.getElem?_eq_some_iff.1 hk).1).trans hk⟩
theorem Blw.below {n : Fen} {w w' : World} (h : Blw n w w') (hX : ∀ k, ¬ n.X k) : Below n.n w w' := ⟨h.os, h.tape, h.output, h.size, fun k hk => h.block k hk (hX k)⟩
def Tok (P : Program) (w : World) (π : Nat → Nat → Prop) (n0 e : Nat) (v : Value) : Prop :=
  v = .slice none 0 0 ∨ ∃ B len cap cur i, v = .slice (some ⟨B, 0, none⟩) len cap ∧ n0 ≤ B ∧ w.heap[B]? = some (.cells cur e (0, 0)) ∧ len ≤ cap ∧ cap ≤ maxLen ∧ P.info? e = some i ∧ cur.size = cap * i.size ∧ ∀ o, len * i.size ≤ o → ¬ π B o
def ownB : Value → Option Nat
  | .slice (some a) _ _ => some a.block
  | _ => none
def Pure0 (P : Program) (f : FuncId) (args : List AV) (r : AV) (fr : Option Nat) : Prop :=
  callable P f = true ∧
  ∀ (w : World) (π : Nat → Nat → Prop) (vs : List Value), (∀ b o, π b o → b < w.heap.size) → DVs w π args vs →
    Calls P f vs.toArray w fun e w' => ∃ v π', e = .returned v ∧ Below w.heap.size w w' ∧ (∀ b o, π b o → π' b o) ∧ (∀ b o, π' b o → π b o ∨ w.heap.size ≤ b) ∧
      (∀ b o, π' b o → b < w'.heap.size) ∧ DV w' π' r v ∧ ∀ t, fr = some t → Tok P w' π' w.heap.size t v
def RV (β : Nat → Nat) (τ : Nat → Value) (w : World) (π : Nat → Nat → Prop) : SV → Value → Prop
  | .dat a q, v => DV w π a v ∧ ∀ t, q = some t → v = τ t
  | .ptr b off, v => v = .pointer (some ⟨β b, off, none⟩)
  | .rp cs, v => ∃ (B off : Nat) (f : Nat → Value), v = .pointer (some ⟨B, off, none⟩) ∧ (∀ (j : Nat) (a : AV), cs[j]? = some a → a.scalar = true) ∧ (∀ (j : Nat) (a : AV), cs[j]? = some a → π B (off + j)) ∧
      (∀ (j : Nat) (a : AV), cs[j]? = some a → w.cell? ⟨B, off + j, none⟩ = some (f j)) ∧ ∀ (j : Nat) (a : AV), cs[j]? = some a → DV w π a (f j)
  | .undef, v => v = undef
  | .vs b off n _, v => ∃ cap, n ≤ cap ∧ v = .slice (some ⟨β b, off, none⟩) n cap
def SV.inU (U : Nat → Prop) : SV → Prop
  | .dat _ (some q) => U q
  | .ptr b _ => U b
  | .vs b _ _ _ => U b
  | _ => True
def BoxR (τ : Nat → Value) (w : World) (π : Nat → Nat → Prop) (B : Nat) (x : Box) : Prop :=
  ∃ cur el, w.heap[B]? = some (.cells cur el (0, 0)) ∧ DVs w π x.cells cur.toList ∧ (∀ a ∈ x.cells, a.scalar = true) ∧ (∀ o q, lkN o x.tags = some q → cur[o]? = some (τ q)) ∧ ∀ o, ¬ π B o
def BoxesAt (w : World) (π : Nat → Nat → Prop) : List (List AV) → List Nat → Prop
  | [], [] => True
  | cs :: css, B :: Bs => BoxR (fun _ => undef) w π B ⟨cs, []⟩ ∧ BoxesAt w π css Bs
  | _, _ => False
def ArgsR (w : World) (π : Nat → Nat → Prop) : List (Option AV) → List Nat → List Value → Prop
  | [], [], [] => True
  | some a :: as, Bs, v :: vs => DV w π a v ∧ ArgsR w π as Bs vs
  | none :: as, B :: Bs, v :: vs => v = .pointer (some ⟨B, 0, none⟩) ∧ ArgsR w π as Bs vs
  | _, _, _ => False
def Fen.topB (w : World) (Bs : List Nat) : Fen := ⟨w.heap.size, fun B => B ∈ Bs, fun k => Bs.getD k 0⟩
def PureB (P : Program) (f : FuncId) (css : List (List AV)) (args : List (Option AV)) (r : AV) (fr : Option Nat) (css' : List (List AV)) : Prop :=
  callable P f = true ∧ css'.length = css.length ∧ css.length ≤ 4 ∧
  ∀ (w : World) (π : Nat → Nat → Prop) (Bs : List Nat) (vs : List Value), (∀ b o, π b o → b < w.heap.size) → Bs.Nodup → BoxesAt w π css Bs → ArgsR w π args Bs vs →
    Calls P f vs.toArray w fun e w' => ∃ v π', e = .returned v ∧ Blw (Fen.topB w Bs) w w' ∧ (∀ b o, π b o → π' b o) ∧ (∀ b o, π' b o → π b o ∨ w.heap.size ≤ b) ∧
      (∀ b o, π' b o → b < w'.heap.size) ∧ BoxesAt w' π' css' Bs ∧ DV w' π' r v ∧ ∀ t, fr = some t → Tok P w' π' w.heap.size t v
def val1 : AV → Value
  | .bool b => .bool b
  | .int k n => .int k n
  | .float k n => .float k n
  | .str s => .string s
  | .nilp => .pointer none
  | .nils => .slice none 0 0
  | _ => undef
def flat1 : AV → Bool
  | .bool _ | .int .. | .float .. | .str _ | .nilp | .nils => true
  | _ => false
def valA : AV → Value
  | .agg cs => .agg (cs.map val1).toArray
  | a => val1 a
def flatV : AV → Bool
  | .agg cs => cs.all flat1
  | a => flat1 a
theorem DV.flat1 {w : World} {π : Nat → Nat → Prop} {a : AV} (h : Eng.flat1 a = true) : DV w π a (val1 a) := by
  cases a <;> first | (simp [Eng.flat1] at h; done) | constructor
theorem DV.flat {w : World} {π : Nat → Nat → Prop} {a : AV} (h : flatV a = true) : DV w π a (valA a) := by
  cases a with
  | agg cs =>
    simp only [flatV, List.all_eq_true] at h
    refine .agg cs _ (by simp) (fun a ha => ?_) (fun i a v ha hv => ?_)
    · have := h a ha; cases a <;> first | rfl | (simp [Eng.flat1] at this; done)
    · simp only [List.getElem?_toArray, List.getElem?_map, ha, Option.map_some, Option.some.injEq] at hv
      subst hv; exact .flat1 (h a (List.mem_of_getElem? ha))
  | _ => first | exact .flat1 h | (simp [flatV, Eng.flat1] at h; done)
def Iter (P : Program) (gv : AV) (xs : List (List AV)) : Prop :=
  ∃ gf caps, gv = .fn (.func gf) [] caps ∧ callable P gf = true ∧ (∀ x ∈ xs, ∀ a ∈ x, flatV a = true) ∧
  ∀ (l : Nat) (J : Nat → World → Prop) (Jx : World → Prop) (W : World) (π : Nat → Nat → Prop) (vs : List Value), (∀ b o, π b o → b < W.heap.size) → DVs W π caps vs →
    (∀ i W', J i W' → ∀ b o, π b o → W'.cell? ⟨b, o, none⟩ = W.cell? ⟨b, o, none⟩) →
    (∀ i W W', J i W → Below W.heap.size W W' → J i W') → (∀ W W', Jx W → Below W.heap.size W W' → Jx W') →
    (∀ n i x W, xs[i]? = some x → J i W → YieldAt Fence.wide n P l (x.map valA).toArray W fun e W' => (e = .returned (.bool true) ∧ J (i + 1) W') ∨ (e = .returned (.bool false) ∧ Jx W')) →
    J 0 W →
    Calls P gf (#[.func (.yield l) #[] #[]] ++ vs.toArray) W fun e W' => (∃ v, e = .returned v) ∧ (J xs.length W' ∨ Jx W')
def Pure (P : Program) : Con := ⟨Pure0 P, PureB P, Iter P⟩
structure Rel (P : Program) (nt : Nat) (n0 : Fen) (w0 : World) (π0 : Nat → Nat → Prop) (U : Nat → Prop) (s : S) (a : Act) (w : World) (β : Nat → Nat) (τ : Nat → Value) (π : Nat → Nat → Prop) : Prop where
  size : a.tmps.size = nt
  slots : ∀ t v, lk t s.slots = some v → (∃ x, a.tmps[t]? = some x ∧ RV β τ w π v x) ∧ v.inU U
  boxes : ∀ b x, lkB b s.boxes = some x → U b ∧ n0.okb b (β b) ∧ BoxR τ w π (β b) x ∧ ∀ o q, lkN o x.tags = some q → U q
  inj : ∀ b b' x x', lkB b s.boxes = some x → lkB b' s.boxes = some x' → β b = β b' → b = b'
  live : ∀ q e, lkN q s.live = some e → U q ∧ Tok P w π n0.n e (τ q)
  liveInj : ∀ q q' e e' B, lkN q s.live = some e → lkN q' s.live = some e' → ownB (τ q) = some B → ownB (τ q') = some B → q = q'
  liveBox : ∀ q e b x, lkN q s.live = some e → lkB b s.boxes = some x → ownB (τ q) ≠ some (β b)
  below : Blw n0 w0 w
  n0le : n0.n ≤ w0.heap.size
  prot : ∀ b o, π b o → b < w.heap.size
  prot0 : ∀ b o, π0 b o → π b o
  protOld : ∀ b o, π b o → π0 b o ∨ n0.n ≤ b
  fore : ∀ k, k < 4 → β k = n0.β k
  foreU : ∀ k, k < 4 → U k
  kept : ∀ b o, π0 b o → w.cell? ⟨b, o, none⟩ = w0.cell? ⟨b, o, none⟩
end Go.Eng
namespace Go.Eng
set_option linter.unusedVariables false
set_option linter.unusedSimpArgs false
set_option linter.unnecessarySimpa false
open Go
open Go.RowKit (Below)
theorem Below.cellOld {n : Nat} {w w' : World} (h : Below n w w') {b o : Nat} (hb : b < n) : w'.cell? ⟨b, o, none⟩ = w.cell? ⟨b, o, none⟩ := Below.cell h (p := ⟨b, o, none⟩) hb
theorem RV.mono {β β' : Nat → Nat} {τ τ' : Nat → Value} {w w' : World} {π π' : Nat → Nat → Prop} {U : Nat → Prop} (hβ : ∀ b, U b → β' b = β b) (hτ : ∀ b, U b → τ' b = τ b)
    (hp : ∀ b o, π b o → π' b o) (hc : ∀ b o, π b o → w'.cell? ⟨b, o, none⟩ = w.cell? ⟨b, o, none⟩) {v : SV} {x : Value} (hU : v.inU U) (h : RV β τ w π v x) : RV β' τ' w' π' v x := by
  cases v with
  | dat a q =>
    refine ⟨h.1.mono hp hc, fun t ht => ?_⟩
    subst ht
    rw [hτ t hU]; exact h.2 t rfl
  | ptr b off =>
    show x = _
    rw [hβ b hU]; exact h
  | rp cs =>
    obtain ⟨B, off, f, hx, h1, h2, h3, h4⟩ := h
    exact ⟨B, off, f, hx, h1, fun j a ha => hp _ _ (h2 j a ha), fun j a ha => (hc _ _ (h2 j a ha)).trans (h3 j a ha), fun j a ha => (h4 j a ha).mono hp hc⟩
  | undef => exact h
  | vs b off n z =>
    obtain ⟨cap, h1, h2⟩ := h
    exact ⟨cap, h1, by rw [hβ b hU]; exact h2⟩
theorem SV.inU_mono {U U' : Nat → Prop} (hU : ∀ n, U n → U' n) {v : SV} (h : v.inU U) : v.inU U' := by
  cases v with
  | dat a q => cases q with
    | none => trivial
    | some q => exact hU _ h
  | ptr b off => exact hU _ h
  | rp cs => trivial
  | undef => trivial
  | vs b off n z => exact hU _ h
theorem heap_lt {w : World} {B : Nat} {o : Obj} (h : w.heap[B]? = some o) : B < w.heap.size := (Array.getElem?_eq_some_iff.1 h).1
theorem Tok.block {P : Program} {w : World} {π : Nat → Nat → Prop} {n0 e B : Nat} {v : Value} (h : Tok P w π n0 e v) (hB : ownB v = some B) :
    n0 ≤ B ∧ B < w.heap.size := by
  rcases h with rfl | ⟨B', len, cap, cur, i, rfl, h1, h2, _⟩
  · simp [ownB] at hB
  · simp [ownB] at hB; subst hB; exact ⟨h1, heap_lt h2⟩
theorem Tok.keep {P : Program} {w w' : World} {π π' : Nat → Nat → Prop} {n0 e : Nat} {v : Value} (h : Tok P w π n0 e v)
    (hb : ∀ B, ownB v = some B → w'.heap[B]? = w.heap[B]?) (hp : ∀ B o, ownB v = some B → π' B o → π B o) : Tok P w' π' n0 e v := by
  rcases h with rfl | ⟨B', len, cap, cur, i, rfl, h1, h2, h3, h4, h5, h6, h7⟩
  · exact .inl rfl
  · exact .inr ⟨B', len, cap, cur, i, rfl, h1, (hb B' rfl).trans h2, h3, h4, h5, h6, fun o ho hc => h7 o ho (hp B' o rfl hc)⟩
theorem BoxR.keep {τ τ' : Nat → Value} {w w' : World} {π π' : Nat → Nat → Prop} {U : Nat → Prop} {B : Nat} {x : Box} (h : BoxR τ w π B x) (hτ : ∀ q, U q → τ' q = τ q) (hU : ∀ o q, lkN o x.tags = some q → U q)
    (hb : w'.heap[B]? = w.heap[B]?) (hp : ∀ b o, π b o → π' b o) (hc : ∀ b o, π b o → w'.cell? ⟨b, o, none⟩ = w.cell? ⟨b, o, none⟩) (hn : ∀ o, ¬ π' B o) : BoxR τ' w' π' B x := by
  obtain ⟨cur, el, h1, h2, h3, h4, _⟩ := h
  exact ⟨cur, el, hb.trans h1, h2.mono hp hc, h3, fun o q hq => by rw [hτ q (hU o q hq)]; exact h4 o q hq, hn⟩
section
variable {P : Program} {nt : Nat} {n0 : Fen} {w0 : World} {π0 : Nat → Nat → Prop} {U U' : Nat → Prop} {s : S} {a : Act} {w w' : World} {β β' : Nat → Nat} {τ τ' : Nat → Value} {π π' : Nat → Nat → Prop}
theorem Rel.frame (R : Rel P nt n0 w0 π0 U s a w β τ π) (hβ : ∀ b, U b → β' b = β b) (hτ : ∀ b, U b → τ' b = τ b) (hU : ∀ n, U n → U' n)
    (hp : ∀ b o, π b o → π' b o) (hp' : ∀ b o, π' b o → π b o ∨ w.heap.size ≤ b) (hpl : ∀ b o, π' b o → b < w'.heap.size) (hbel : Below w.heap.size w w') :
    Rel P nt n0 w0 π0 U' s a w' β' τ' π' := by
  have hc : ∀ b o, π b o → w'.cell? ⟨b, o, none⟩ = w.cell? ⟨b, o, none⟩ := fun b o h => Below.cellOld hbel (R.prot b o h)
  have hsz : n0.n ≤ w.heap.size := Nat.le_trans R.n0le R.below.size
  refine ⟨R.size, fun t v h => ?_, fun b x h => ?_, fun b b' x x' h h' e => ?_, fun q e h => ?_, fun q q' e e' B h h' hB hB' => ?_, fun q e b x h h' hB => ?_, R.below.trans (.of hbel hsz), R.n0le, hpl, fun b o h => hp _ _ (R.prot0 b o h), fun b o h => ?_, fun k hk => by rw [hβ k (R.foreU k hk)]; exact R.fore k hk, fun k hk => hU k (R.foreU k hk), fun b o h => (hc b o (R.prot0 b o h)).trans (R.kept b o h)⟩
  · obtain ⟨⟨x, hx, hv⟩, hu⟩ := R.slots t v h
    exact ⟨⟨x, hx, RV.mono hβ hτ hp hc hu hv⟩, SV.inU_mono hU hu⟩
  · obtain ⟨h1, h2, h3, h4⟩ := R.boxes b x h
    rw [hβ b h1]
    have hlt : β b < w.heap.size := by obtain ⟨cur, el, hh, _⟩ := h3; exact heap_lt hh
    refine ⟨hU b h1, h2, h3.keep hτ h4 (hbel.block _ hlt) hp hc (fun o ho => ?_), fun o q hq => hU _ (h4 o q hq)⟩
    rcases hp' _ _ ho with h | h
    · obtain ⟨_, _, _, _, _, _, hn⟩ := h3; exact hn o h
    · omega
  · rw [hβ b (R.boxes b x h).1, hβ b' (R.boxes b' x' h').1] at e
    exact R.inj b b' x x' h h' e
  · obtain ⟨h1, h2⟩ := R.live q e h
    rw [hτ q h1]
    refine ⟨hU q h1, h2.keep (fun B hB => hbel.block _ (h2.block hB).2) (fun B o hB ho => ?_)⟩
    rcases hp' _ _ ho with h | h
    · exact h
    · have := (h2.block hB).2; omega
  · rw [hτ q (R.live q e h).1] at hB
    rw [hτ q' (R.live q' e' h').1] at hB'
    exact R.liveInj q q' e e' B h h' hB hB'
  · rw [hτ q (R.live q e h).1, hβ b (R.boxes b x h').1] at hB
    exact R.liveBox q e b x h h' hB
  · rcases hp' b o h with h | h
    · exact R.protOld b o h
    · exact .inr (by omega)
theorem Rel.sub (R : Rel P nt n0 w0 π0 U s a w β τ π) (hU : ∀ n, U n → U' n) : Rel P nt n0 w0 π0 U' s a w β τ π :=
  R.frame (fun _ _ => rfl) (fun _ _ => rfl) hU (fun _ _ h => h) (fun _ _ h => .inl h) R.prot (Below.refl _ _)
theorem Rel.put (R : Rel P nt n0 w0 π0 U s a w β τ π) (d : Option Nat) {v : SV} {x : Value} (hd : ∀ t, d = some t → t < nt) (hv : RV β τ w π v x) (hu : v.inU U) : Rel P nt n0 w0 π0 U (s.put d v) (a.put d x) w β τ π := by
  cases d with
  | none => exact R
  | some d =>
    refine ⟨by simp [Act.put, R.size], fun t u h => ?_, R.boxes, R.inj, R.live, R.liveInj, R.liveBox, R.below, R.n0le, R.prot, R.prot0, R.protOld, R.fore, R.foreU, R.kept⟩
    simp only [S.put, lk] at h
    by_cases e : t = d
    · subst e
      simp at h
      subst h
      exact ⟨⟨x, by simp [Act.put, R.size, hd t rfl], hv⟩, hu⟩
    · have : (t == d) = false := by simpa using e
      simp only [this, cond_false] at h
      obtain ⟨⟨y, hy, hr⟩, hu'⟩ := R.slots t u h
      exact ⟨⟨y, by simp [Act.put, Array.getElem?_setIfInBounds_ne (Ne.symm e), hy], hr⟩, hu'⟩
theorem Rel.opd (R : Rel P nt n0 w0 π0 U s a w β τ π) {X : Operand} {x : Opd} {v : SV} (hx : cOpd X = some x) (hv : opd s x = some v) : RV β τ w π v (a.eval X) ∧ v.inU U := by
  cases X with
  | tmp t =>
    simp [cOpd] at hx; subst hx
    obtain ⟨⟨y, hy, hr⟩, hu⟩ := R.slots t v hv
    refine ⟨?_, hu⟩
    have : a.eval (.tmp t) = y := by simp [Act.eval, hy]
    rw [this]; exact hr
  | const c =>
    simp only [cOpd, Option.map_eq_some_iff] at hx
    obtain ⟨k, hk, rfl⟩ := hx
    simp [Eng.opd] at hv; subst hv
    exact ⟨⟨ofV_DV hk, fun t ht => by cases ht⟩, trivial⟩
  | global g => simp [cOpd] at hx
  | func f =>
    simp [cOpd] at hx; subst hx
    simp [Eng.opd] at hv; subst hv
    refine ⟨⟨?_, fun t ht => by cases ht⟩, trivial⟩
    exact .fn (.func f) [] #[] [] #[] rfl rfl (fun i a v h => by simp at h) (fun i a v h => by simp at h)
theorem RV.ref {β : Nat → Nat} {τ : Nat → Value} {w : World} {π : Nat → Nat → Prop} {cs : List AV} {v : Value} : RV β τ w π (.rp cs) v ↔ DV w π (.ref cs) v := by
  constructor
  · rintro ⟨B, off, f, rfl, h1, h2, h3, h4⟩
    exact .ref cs B off f h1 h2 h3 h4
  · intro h
    cases h with
    | ref _ B off f h1 h2 h3 h4 => exact ⟨B, off, f, rfl, h1, h2, h3, h4⟩
theorem Rel.opdA (R : Rel P nt n0 w0 π0 U s a w β τ π) {X : Operand} {x : Opd} {v : AV} (hx : cOpd X = some x) (hv : Eng.opdA s x = some v) : DV w π v (a.eval X) := by
  unfold Eng.opdA at hv
  split at hv
  · rename_i b q ho
    cases hv
    exact (R.opd hx ho).1.1
  · rename_i cs ho
    cases hv
    exact RV.ref.1 (R.opd hx ho).1
  · cases hv
theorem Rel.opdsA (R : Rel P nt n0 w0 π0 U s a w β τ π) : ∀ {Xs : List Operand} {xs : List Opd} {vs : List AV}, Xs.mapM cOpd = some xs → Eng.opdsA s xs = some vs → DVs w π vs (Xs.map a.eval)
  | [], xs, vs, hx, hv => by
    simp at hx; subst hx
    simp [Eng.opdsA] at hv; subst hv
    exact .nil _ _
  | X :: Xs, xs, vs, hx, hv => by
    simp only [List.mapM_cons, Option.bind_eq_bind, Option.bind_eq_some_iff, Option.pure_def, Option.some.injEq] at hx
    obtain ⟨x, hx, xs', hxs, rfl⟩ := hx
    simp only [Eng.opdsA] at hv
    split at hv
    · rename_i a' as h1 h2
      cases hv
      exact .cons (R.opdA hx h1) (R.opdsA hxs h2)
    · cases hv
def upd {α : Type} (f : Nat → α) (n : Nat) (x : α) : Nat → α := fun m => if m = n then x else f m
theorem upd_same {α : Type} (f : Nat → α) (n : Nat) (x : α) : upd f n x n = x := by simp [upd]
theorem upd_ne {α : Type} (f : Nat → α) (n : Nat) (x : α) {m : Nat} (h : m ≠ n) : upd f n x m = f m := by simp [upd, h]
def also (U : Nat → Prop) (n : Nat) : Nat → Prop := fun m => U m ∨ m = n
theorem Rel.newBox (R : Rel P nt n0 w0 π0 U s a w β τ π) {id : Nat} (hid : ¬ U id) {cells : List AV} {cs : Array Value} (e : TypeId) (hd : DVs w π cells cs.toList) (hs : ∀ a ∈ cells, a.scalar = true) :
    Rel P nt n0 w0 π0 (also U id) { s with boxes := (id, ⟨cells, []⟩) :: s.boxes } a (w.alloc (.cells cs e)) (upd β id w.heap.size) τ π := by
  have hne : ∀ b, U b → b ≠ id := fun b hb e => hid (e ▸ hb)
  have hbel : Below w.heap.size w (w.alloc (.cells cs e)) := (Below.refl _ _).alloc (Nat.le_refl _) _
  have R1 : Rel P nt n0 w0 π0 (also U id) s a (w.alloc (.cells cs e)) (upd β id w.heap.size) τ π :=
    R.frame (fun b hb => upd_ne _ _ _ (hne b hb)) (fun _ _ => rfl) (fun n h => .inl h) (fun _ _ h => h) (fun _ _ h => .inl h) (fun b o h => by have := R.prot b o h; simp; omega) hbel
  have hsz : n0.n ≤ w.heap.size := Nat.le_trans R.n0le R.below.size
  have hold : ∀ b x, lkB b s.boxes = some x → upd β id w.heap.size b ≠ w.heap.size := fun b x h => by
    obtain ⟨h1, _, ⟨cur, el, hh, _⟩, _⟩ := R.boxes b x h
    rw [upd_ne _ _ _ (hne b h1)]
    have := heap_lt hh
    omega
  refine ⟨R1.size, R1.slots, fun b x h => ?_, fun b b' x x' h h' e => ?_, R1.live, R1.liveInj, fun q e' b x h h' hB => ?_, R1.below, R1.n0le, R1.prot, R1.prot0, R1.protOld, R1.fore, R1.foreU, R1.kept⟩
  · simp only [lkB] at h
    by_cases hb : b = id
    · subst hb
      simp at h
      subst h
      refine ⟨.inr rfl, by rw [upd_same]; exact .inl hsz, ?_, fun o q h => by simp [lkN] at h⟩
      rw [upd_same]
      refine ⟨cs, e, heap_alloc_new w _, hd.mono (fun _ _ h => h) (fun b o h => Below.cellOld hbel (R.prot b o h)), hs, fun o q h => by simp [lkN] at h, fun o h => ?_⟩
      have := R.prot _ _ h; omega
    · have : (b == id) = false := by simpa using hb
      simp only [this, cond_false] at h
      exact R1.boxes b x h
  · simp only [lkB] at h h'
    by_cases hb : b = id
    · by_cases hb' : b' = id
      · rw [hb, hb']
      · have hf : (b' == id) = false := by simpa using hb'
        simp only [hf, cond_false] at h'
        subst hb
        rw [upd_same] at e
        exact absurd e.symm (hold b' x' h')
    · have hf : (b == id) = false := by simpa using hb
      simp only [hf, cond_false] at h
      by_cases hb' : b' = id
      · subst hb'
        rw [upd_same] at e
        exact absurd e (hold b x h)
      · have hf' : (b' == id) = false := by simpa using hb'
        simp only [hf', cond_false] at h'
        exact R1.inj b b' x x' h h' e
  · simp only [lkB] at h'
    by_cases hb : b = id
    · subst hb
      rw [upd_same] at hB
      have := ((R.live q e' h).2.block hB).2
      omega
    · have hf : (b == id) = false := by simpa using hb
      simp only [hf, cond_false] at h'
      exact R1.liveBox q e' b x h h' hB
theorem lkB_setB {n m : Nat} {b : Box} : ∀ {l : List (Nat × Box)} {x : Box}, lkB n (setB m b l) = some x → (n = m ∧ x = b ∧ ∃ y, lkB m l = some y) ∨ (n ≠ m ∧ lkB n l = some x)
  | [], x, h => by simp [setB, lkB] at h
  | (k, v) :: r, x, h => by
    simp only [setB] at h
    by_cases hk : m = k
    · subst hk
      simp only [beq_self_eq_true, cond_true, lkB] at h
      by_cases hn : n = m
      · subst hn
        simp at h
        exact .inl ⟨rfl, h.symm, v, by simp [lkB]⟩
      · have hf : (n == m) = false := by simpa using hn
        simp only [hf, cond_false] at h
        exact .inr ⟨hn, by simp [lkB, hf, h]⟩
    · have hf : (m == k) = false := by simpa using hk
      simp only [hf, cond_false, lkB] at h
      by_cases hn : n = k
      · subst hn
        simp at h
        exact .inr ⟨fun e => hk e.symm, by simp [lkB, h]⟩
      · have hf' : (n == k) = false := by simpa using hn
        simp only [hf', cond_false] at h
        rcases lkB_setB h with ⟨h1, h2, y, h3⟩ | ⟨h1, h2⟩
        · exact .inl ⟨h1, h2, y, by simp [lkB, hf, h3]⟩
        · exact .inr ⟨h1, by simp [lkB, hf', h2]⟩
theorem Rel.setBox (R : Rel P nt n0 w0 π0 U s a w β τ π) {b : Nat} {x y : Box} (hb : lkB b s.boxes = some x) {cur cur' : Array Value} {el : TypeId}
    (hh : w.heap[β b]? = some (.cells cur el (0, 0))) (hd : DVs w π y.cells cur'.toList) (hs : ∀ a ∈ y.cells, a.scalar = true)
    (ht : ∀ o q, lkN o y.tags = some q → cur'[o]? = some (τ q) ∧ U q) :
    Rel P nt n0 w0 π0 U { s with boxes := setB b y s.boxes } a (w.setRow (β b) cur') β τ π := by
  obtain ⟨hUb, hn0, ⟨_, _, hh', _, _, _, hnp⟩, _⟩ := R.boxes b x hb
  have hsz : n0.n ≤ w.heap.size := Nat.le_trans R.n0le R.below.size
  have hother : ∀ k, k ≠ β b → (w.setRow (β b) cur').heap[k]? = w.heap[k]? := fun k hk => setRow_other w _ k cur' hk
  have hc : ∀ B o, π B o → (w.setRow (β b) cur').cell? ⟨B, o, none⟩ = w.cell? ⟨B, o, none⟩ := fun B o h => cell_setRow_other w _ cur' ⟨B, o, none⟩ (fun e => hnp o (by simpa [← e] using h))
  have hbel : Blw n0 w (w.setRow (β b) cur') := ⟨rfl, rfl, rfl, by simp, fun k hk hx => hother k (fun e => by subst e; rcases hn0 with h | h; exact absurd h (by omega); exact hx h.2), fun k o hk ho => (hother k (fun e => by subst e; rw [hh] at hk; cases hk; cases ho)).trans hk⟩
  refine ⟨R.size, fun t v h => ?_, fun c z h => ?_, fun c c' z z' h h' e => ?_, fun q e h => ?_, R.liveInj, fun q e c z h h' hB => ?_, R.below.trans hbel, R.n0le, fun B o h => by simpa using R.prot B o h, R.prot0, R.protOld, R.fore, R.foreU, fun b o h => (hc b o (R.prot0 b o h)).trans (R.kept b o h)⟩
  · obtain ⟨⟨z, hz, hv⟩, hu⟩ := R.slots t v h
    exact ⟨⟨z, hz, RV.mono (fun _ _ => rfl) (fun _ _ => rfl) (fun _ _ h => h) hc hu hv⟩, hu⟩
  · rcases lkB_setB h with ⟨rfl, rfl, _⟩ | ⟨hne, h⟩
    · exact ⟨hUb, hn0, ⟨cur', el, setRow_heap w _ cur _ el _ hh, hd.mono (fun _ _ h => h) hc, hs, fun o q hq => (ht o q hq).1, hnp⟩, fun o q hq => (ht o q hq).2⟩
    · obtain ⟨h1, h2, h3, h4⟩ := R.boxes c z h
      refine ⟨h1, h2, h3.keep (fun _ _ => rfl) h4 (hother _ (fun e => hne (R.inj c b z x h hb e))) (fun _ _ h => h) hc ?_, h4⟩
      obtain ⟨_, _, _, _, _, _, hn⟩ := h3; exact hn
  · have : ∃ u, lkB c s.boxes = some u := by
      rcases lkB_setB h with ⟨rfl, _, _⟩ | ⟨_, h⟩
      · exact ⟨x, hb⟩
      · exact ⟨z, h⟩
    have k' : ∃ u, lkB c' s.boxes = some u := by
      rcases lkB_setB h' with ⟨rfl, _, _⟩ | ⟨_, h⟩
      · exact ⟨x, hb⟩
      · exact ⟨z', h⟩
    obtain ⟨u, hu⟩ := this
    obtain ⟨u', hu'⟩ := k'
    exact R.inj c c' u u' hu hu' e
  · obtain ⟨h1, h2⟩ := R.live q e h
    exact ⟨h1, h2.keep (fun B hB => hother B (fun eB => R.liveBox q e b x h hb (by rw [hB, eB]))) (fun B o _ h => h)⟩
  · have : ∃ u, lkB c s.boxes = some u := by
      rcases lkB_setB h' with ⟨rfl, _, _⟩ | ⟨_, h⟩
      · exact ⟨x, hb⟩
      · exact ⟨z, h⟩
    obtain ⟨u, hu⟩ := this
    exact R.liveBox q e c u h hu hB
end
end Go.Eng
namespace Go.Eng
set_option linter.unusedVariables false
set_option linter.unusedSimpArgs false
set_option linter.unnecessarySimpa false
open Go
open Go.RowKit (Below)
theorem addr_add (B o n : Nat) : (⟨B, o, none⟩ : Addr).add n = ⟨B, o + n, none⟩ := by unfold Addr.add; split <;> simp_all
section runs
variable {P : Program} {w : World}
theorem run_size {t : TypeId} {z : Nat} (h : szOf P t = some z) : (sizeOf t).run P w = .ok z w := by
  simp only [szOf, Option.map_eq_some_iff] at h
  obtain ⟨i, hi, rfl⟩ := h
  simp [sizeOf, typeInfo, hi]
theorem run_agg {t : TypeId} {d : TypeDesc} (h : P.underlying t = some d) : (isAgg t).run P w = .ok (aggB P t) w := by
  have := run_underlying h w
  unfold isAgg aggB
  simp only [Sem.run_bind, this, Result.andThen_ok, h]
  cases d <;> rfl
theorem rdOf_agg {t : TypeId} {n : Nat} (h : rdOf P t = some (some n)) : ∃ d, P.underlying t = some d ∧ aggB P t = true ∧ szOf P t = some n := by
  unfold rdOf at h
  split at h
  · rename_i fs hu; exact ⟨_, hu, by simp [aggB, hu], by simpa using h⟩
  · rename_i k e hu; exact ⟨_, hu, by simp [aggB, hu], by simpa using h⟩
  · simp at h
  · simp at h
theorem rdOf_one {t : TypeId} (h : rdOf P t = some none) : ∃ d, P.underlying t = some d ∧ aggB P t = false := by
  unfold rdOf at h
  split at h
  · simp at h
  · simp at h
  · rename_i d h1 h2 hu
    refine ⟨d, hu, ?_⟩
    unfold aggB
    rw [hu]
    cases d <;> simp_all
  · simp at h
theorem run_loadVar_some {t : TypeId} {n : Nat} (h : rdOf P t = some (some n)) {B o : Nat} {f : Nat → Value} (hc : ∀ j, j < n → w.cell? ⟨B, o + j, none⟩ = some (f j)) :
    (loadVar t ⟨B, o, none⟩).run P w = .ok (.agg ((List.range n).map f).toArray) w := by
  obtain ⟨d, hd, ha, hs⟩ := rdOf_agg h
  have h1 := run_agg (w := w) hd
  have h2 := run_size (w := w) hs
  have h3 := run_loadCells (P := P) w ⟨B, o, none⟩ n f (fun j hj => by rw [addr_add]; exact hc j hj)
  simp only [loadVar, Sem.run_bind, h1, ha, Result.andThen_ok, if_true, h2, h3, Sem.run_pure]
theorem run_loadVar_none {t : TypeId} (h : rdOf P t = some none) {B o : Nat} {v : Value} (hc : w.cell? ⟨B, o, none⟩ = some v) :
    (loadVar t ⟨B, o, none⟩).run P w = .ok v w := by
  obtain ⟨d, hd, ha⟩ := rdOf_one h
  have h1 := run_agg (w := w) hd
  simp [loadVar, Sem.run_bind, h1, ha, Result.andThen_ok, hc]
end runs
theorem part_DV {w : World} {π : Nat → Nat → Prop} {cs : List AV} {f : Nat → Value} {off : Nat} {sz : Option Nat} {a : AV}
    (hs : ∀ (j : Nat) (x : AV), cs[j]? = some x → x.scalar = true) (hd : ∀ (j : Nat) (x : AV), cs[j]? = some x → DV w π x (f j)) (h : partA cs off sz = some a) :
    match sz with
    | none => DV w π a (f off) ∧ off < cs.length
    | some n => off + n ≤ cs.length ∧ DV w π a (.agg ((List.range n).map fun j => f (off + j)).toArray) := by
  cases sz with
  | none =>
    simp only [partA] at h
    refine ⟨hd _ _ h, ?_⟩
    rcases Nat.lt_or_ge off cs.length with h' | h'
    · exact h'
    · rw [List.getElem?_eq_none h'] at h; cases h
  | some n =>
    simp only [partA] at h
    split at h
    · rename_i hle
      cases h
      have hg : ∀ (i : Nat) (x : AV), ((cs.drop off).take n)[i]? = some x → i < n ∧ cs[off + i]? = some x := by
        intro i x hx
        rw [List.getElem?_take] at hx
        split at hx
        · rename_i hi; exact ⟨hi, by simpa using hx⟩
        · cases hx
      refine ⟨hle, .agg _ _ (by simp; omega) (fun x hx => ?_) (fun i x v hx hv => ?_)⟩
      · obtain ⟨i, hi⟩ := List.mem_iff_getElem?.1 hx
        exact hs _ _ (hg i x hi).2
      · obtain ⟨hi, hx'⟩ := hg i x hx
        have : v = f (off + i) := by simpa [hi] using hv.symm
        rw [this]
        exact hd _ _ hx'
    · cases h
section ops
variable {P : Program} {nt : Nat} {n0 : Fen} {w0 : World} {π0 : Nat → Nat → Prop} {U : Nat → Prop} {s : S} {a : Act} {w : World} {β : Nat → Nat} {τ : Nat → Value} {π : Nat → Nat → Prop}
theorem BoxR.cells {B : Nat} {x : Box} (h : BoxR τ w π B x) : ∃ f : Nat → Value, (∀ j, j < x.cells.length → w.cell? ⟨B, j, none⟩ = some (f j)) ∧ (∀ (j : Nat) (y : AV), x.cells[j]? = some y → y.scalar = true) ∧
    (∀ (j : Nat) (y : AV), x.cells[j]? = some y → DV w π y (f j)) ∧ ∀ o q, lkN o x.tags = some q → f o = τ q := by
  obtain ⟨cur, el, h1, h2, h3, h4, _⟩ := h
  refine ⟨fun j => cur.getD j undef, fun j hj => ?_, fun j y hy => h3 y (List.mem_of_getElem? hy), fun j y hy => ?_, fun o q hq => ?_⟩
  · have hl : j < cur.size := by have := h2.1; simp at this; omega
    rw [cell_of_row w B j cur el (0, 0) h1]
    simp [hl]
  · obtain ⟨v, hv, hd⟩ := h2.get hy
    have : cur[j]? = some v := by simpa using hv
    simp [this, hd]
  · simp [h4 o q hq]
theorem Rel.load (R : Rel P nt n0 w0 π0 U s a w β τ π) {t : TypeId} {X : Operand} {x : Opd} {sz : Option Nat} (hx : cOpd X = some x) (ht : rdOf P t = some sz) {id : Nat} {K : SV → S → Prop}
    (h : aop (Pure P) id (.ld x sz) K s) : ∃ v y, (Instr.loadAt t (a.eval X)).run P w = .ok y w ∧ RV β τ w π v y ∧ v.inU U ∧ K v s := by
  simp only [aop] at h
  cases ho : Eng.opd s x with
  | none => rw [ho] at h; exact h.elim
  | some p =>
    rw [ho] at h
    obtain ⟨hr, hu⟩ := R.opd hx ho
    cases p with
    | dat b q => exact h.elim
    | undef => exact h.elim
    | vs _ _ _ _ => exact h.elim
    | ptr b off =>
      simp only [withV_some] at h
      cases hb : lkB b s.boxes with
      | none => rw [hb] at h; exact h.elim
      | some z =>
        rw [hb] at h
        simp only [withV_some] at h
        cases hp : partA z.cells off sz with
        | none => rw [hp] at h; exact h.elim
        | some av =>
          rw [hp] at h
          obtain ⟨h1, h2, h3, h4⟩ := R.boxes b z hb
          obtain ⟨f, hf, hs, hd, htg⟩ := h3.cells
          have hpd := part_DV hs hd hp
          have he : a.eval X = .pointer (some ⟨β b, off, none⟩) := hr
          cases sz with
          | none =>
            obtain ⟨hd', hlt⟩ := hpd
            refine ⟨.dat av (lkN off z.tags), f off, by simp only [he, Instr.loadAt, Instr.sureAddr, Sem.run_bind, Sem.run_pure, Result.andThen_ok]; exact run_loadVar_none ht (hf off hlt), ⟨hd', fun q hq => htg off q hq⟩, ?_, h⟩
            cases hq : lkN off z.tags with
            | none => trivial
            | some q => exact h4 off q hq
          | some n =>
            obtain ⟨hle, hd'⟩ := hpd
            refine ⟨.dat av none, _, by simp only [he, Instr.loadAt, Instr.sureAddr, Sem.run_bind, Sem.run_pure, Result.andThen_ok]; exact run_loadVar_some ht (fun j hj => hf (off + j) (by omega)), ⟨hd', fun q hq => by cases hq⟩, trivial, h⟩
    | rp cs =>
      simp only [withV_some] at h
      cases hp : partA cs 0 sz with
      | none => rw [hp] at h; exact h.elim
      | some av =>
        rw [hp] at h
        obtain ⟨B, off, f, he, hs, _, hf, hd⟩ := hr
        have hpd := part_DV hs hd hp
        have hget : ∀ j, j < cs.length → w.cell? ⟨B, off + j, none⟩ = some (f j) := fun j hj => hf j cs[j] (List.getElem?_eq_getElem hj)
        cases sz with
        | none =>
          obtain ⟨hd', hlt⟩ := hpd
          refine ⟨.dat av none, f 0, by simp only [he, Instr.loadAt, Instr.sureAddr, Sem.run_bind, Sem.run_pure, Result.andThen_ok]; exact run_loadVar_none ht (hget 0 hlt), ⟨hd', fun q hq => by cases hq⟩, trivial, h⟩
        | some n =>
          obtain ⟨hle, hd'⟩ := hpd
          refine ⟨.dat av none, _, by simp only [he, Instr.loadAt, Instr.sureAddr, Sem.run_bind, Sem.run_pure, Result.andThen_ok]; exact run_loadVar_some ht (fun j hj => hget j (by omega)), ⟨by simpa using hd', fun q hq => by cases hq⟩, trivial, h⟩
theorem scalar_cells {w : World} {π : Nat → Nat → Prop} {av : AV} {u : Value} (h : DV w π av u) (hs : av.scalar = true) : u.cells.toList = [u] := by
  cases h <;> first | rfl | (simp [AV.scalar] at hs)
theorem list_splice {α : Type} (l ps : List α) (off : Nat) (h : off + ps.length ≤ l.length) (i : Nat) :
    (l.take off ++ ps ++ l.drop (off + ps.length))[i]? = if i < off then l[i]? else if i < off + ps.length then ps[i - off]? else l[i]? := by
  have hl : (l.take off).length = off := by simp; omega
  by_cases h1 : i < off
  · rw [if_pos h1, List.append_assoc, List.getElem?_append_left (by omega), List.getElem?_take, if_pos h1]
  · rw [if_neg h1]
    by_cases h2 : i < off + ps.length
    · rw [if_pos h2, List.append_assoc, List.getElem?_append_right (by omega), List.getElem?_append_left (by omega), hl]
    · rw [if_neg h2, List.getElem?_append_right (by simp; omega), List.getElem?_drop]
      congr 1
      simp; omega
theorem lkN_filter {l : List (Nat × Nat)} {p : Nat × Nat → Bool} {o q : Nat} (h : lkN o (l.filter p) = some q) (hp : ∀ x : Nat × Nat, p x = p (x.1, 0)) : lkN o l = some q ∧ p (o, 0) = true := by
  induction l with
  | nil => simp [lkN] at h
  | cons x r ih =>
    obtain ⟨m, v⟩ := x
    rw [List.filter_cons] at h
    by_cases hx : p (m, v) = true
    · rw [if_pos hx] at h
      simp only [lkN] at h ⊢
      by_cases e : o = m
      · subst e; simp at h ⊢; exact ⟨h, by rw [← hp (o, v)]; exact hx⟩
      · have hf : (o == m) = false := by simpa using e
        simp only [hf, cond_false] at h ⊢
        exact ih h
    · rw [if_neg hx] at h
      obtain ⟨h1, h2⟩ := ih h
      refine ⟨?_, h2⟩
      simp only [lkN]
      have e : o ≠ m := fun e => hx (by subst e; rw [hp (o, v)]; exact h2)
      have hf : (o == m) = false := by simpa using e
      simp only [hf, cond_false]; exact h1
theorem Rel.store (R : Rel P nt n0 w0 π0 U s a w β τ π) {t : TypeId} {X V : Operand} {x v : Opd} {z : Nat} (hx : cOpd X = some x) (hv : cOpd V = some v) (ht : szOf P t = some z) {id : Nat} {K : SV → S → Prop}
    (h : aop (Pure P) id (.st x v z) K s) : ∃ s' w', (Instr.storeAt t (a.eval X) (a.eval V)).run P w = .ok () w' ∧ K .undef s' ∧ Rel P nt n0 w0 π0 U s' a w' β τ π := by
  simp only [aop] at h
  cases ho : Eng.opd s x with
  | none => rw [ho] at h; exact h.elim
  | some p =>
    rw [ho] at h
    obtain ⟨hr, hu⟩ := R.opd hx ho
    cases p with
    | dat b q => exact h.elim
    | undef => exact h.elim
    | vs _ _ _ _ => exact h.elim
    | rp cs => exact h.elim
    | ptr b off =>
      simp only [withV_some] at h
      cases hb : lkB b s.boxes with
      | none => rw [hb] at h; exact h.elim
      | some y =>
        rw [hb] at h
        simp only [withV_some] at h
        cases hov : Eng.opd s v with
        | none => rw [hov] at h; exact h.elim
        | some u =>
          rw [hov] at h
          cases u with
          | undef => exact h.elim
          | vs _ _ _ _ => exact h.elim
          | rp cs => exact h.elim
          | ptr _ _ => exact h.elim
          | dat av q =>
            simp only [withV_some] at h
            obtain ⟨hok, hlen, hfit, hK⟩ := h
            obtain ⟨⟨hdv, htag⟩, huv⟩ := R.opd hv hov
            have he : a.eval X = .pointer (some ⟨β b, off, none⟩) := hr
            obtain ⟨h1, h2, ⟨cur, el, hh, hcd, hcs, hct, hnp⟩, h4⟩ := R.boxes b y hb
            have hsz : cur.size = y.cells.length := by have := hcd.1; simp at this; exact this.symm
            have htup' : ∀ vs, av ≠ .tup vs := fun vs e => by subst e; simp [stOk] at hok
            obtain ⟨hds, hsc⟩ := hdv.cells htup'
            have hvl : (a.eval V).cells.toList.length = z := by rw [← hds.1]; exact hlen
            have hone : ∀ u ∈ (a.eval V).cells.toList, u.oneCell' = true := by
              intro u hu
              obtain ⟨i, hi⟩ := List.mem_iff_getElem?.1 hu
              have hil : i < av.cells.length := by
                rw [hds.1]
                rcases Nat.lt_or_ge i (a.eval V).cells.toList.length with h | h
                · exact h
                · rw [List.getElem?_eq_none h] at hi; cases hi
              have hx' := List.getElem?_eq_getElem hil
              exact (hds.2 i _ _ hx' hi).oneCell (hsc _ (List.getElem_mem hil))
            have hst := run_storeCells_at (P := P) (β b) off el (a.eval V).cells.toList 0 cur w hh (by rw [hvl, hsz]; omega) hone
            simp only [Nat.add_zero] at hst
            have hrun : (Instr.storeAt t (a.eval X) (a.eval V)).run P w = .ok () (w.setRow (β b) (cur.toList.take off ++ (a.eval V).cells.toList ++ cur.toList.drop (off + (a.eval V).cells.toList.length)).toArray) := by
              have hz2 : (a.eval V).cells.size = z := by simpa using hvl
              simp [he, Instr.storeAt, Instr.sureAddr, storeVar, run_size (w := w) ht, hz2, hst]
            refine ⟨_, _, hrun, hK, R.setBox hb hh ?_ ?_ ?_⟩
            · -- cells
              refine ⟨?_, fun i c u hc hu => ?_⟩
              · simp [setCells, hds.1, hcd.1]
              · simp only [] at hu
                rw [list_splice _ _ _ (by rw [hvl]; simp; omega)] at hu
                simp only [setCells] at hc
                rw [list_splice _ _ _ (by omega)] at hc
                rw [hvl] at hu
                rw [hlen] at hc
                split at hc
                · rename_i hi; rw [if_pos hi] at hu; exact hcd.2 i c u hc hu
                · rename_i hi
                  rw [if_neg hi] at hu
                  split at hc
                  · rename_i hi2; rw [if_pos hi2] at hu; exact hds.2 _ c u hc hu
                  · rename_i hi2; rw [if_neg hi2] at hu; exact hcd.2 i c u hc hu
            · intro c hc
              simp only [setCells, List.mem_append] at hc
              rcases hc with (hc | hc) | hc
              · exact hcs c (List.mem_of_mem_take hc)
              · exact hsc c hc
              · exact hcs c (List.mem_of_mem_drop hc)
            · intro o q' hq'
              have hfil : ∀ (o q' : Nat), lkN o (y.tags.filter fun p => p.1 < off || off + z ≤ p.1) = some q' → (cur.toList.take off ++ (a.eval V).cells.toList ++ cur.toList.drop (off + (a.eval V).cells.toList.length)).toArray[o]? = some (τ q') ∧ U q' := by
                intro o q' hq'
                obtain ⟨hq1, hq2⟩ := lkN_filter hq' (fun x => rfl)
                refine ⟨?_, h4 o q' hq1⟩
                have := hct o q' hq1
                rw [List.getElem?_toArray, list_splice _ _ _ (by rw [hvl]; simp; omega), hvl]
                simp at hq2
                split
                · simpa using this
                · rw [if_neg (by omega)]; simpa using this
              cases q with
              | none => exact hfil o q' hq'
              | some q =>
                simp only [lkN] at hq'
                by_cases e : o = off
                · subst e
                  simp at hq'
                  subst hq'
                  have hsc1 : av.scalar = true := by cases av <;> simp_all [stOk, AV.scalar]
                  have hz1 : (a.eval V).cells.toList = [a.eval V] := scalar_cells hdv hsc1
                  refine ⟨?_, huv⟩
                  rw [List.getElem?_toArray, list_splice _ _ _ (by rw [hvl]; simp; omega), hz1]
                  simp only [List.length_singleton, Nat.lt_irrefl, if_false, Nat.lt_add_one, if_true, Nat.sub_self]
                  simpa using htag q rfl
                · have hf : (o == off) = false := by simpa using e
                  simp only [hf, cond_false] at hq'
                  exact hfil o q' hq'
end ops
end Go.Eng
namespace Go.Eng
set_option linter.unusedVariables false
set_option linter.unusedSimpArgs false
set_option linter.unnecessarySimpa false
open Go
open Go.RowKit (Below)
section
variable {P : Program} {w : World} {π : Nat → Nat → Prop}
theorem DV.int_inv {k : IntKind} {n : Int} {v : Value} (h : DV w π (.int k n) v) : v = .int k n := by cases h; rfl
theorem DV.bool_inv {b : Bool} {v : Value} (h : DV w π (.bool b) v) : v = .bool b := by cases h; rfl
theorem bits_run {op : BinOp} {k : IntKind} {x y n : Int} (h : bitsA op k x y = some n) : (Op.intBits op k x y).run P w = .ok (.int k n) w := by
  unfold bitsA at h
  unfold Op.intBits
  split at h <;> first | (cases h; rfl) | cases h
theorem int_run {op : BinOp} {k : IntKind} {x y : Int} {v : AV} (hs1 : op ≠ .shl) (hs2 : op ≠ .shr) (h : intA op k x y = some v) (t : TypeId) : ∃ u, (binOp op t (.int k x) (.int k y)).run P w = .ok u w ∧ DV w π v u := by
  cases op <;> simp only [intA] at h
  case add => cases h; exact ⟨_, by simp [binOp, Op.intArith], .int _ _⟩
  case sub => cases h; exact ⟨_, by simp [binOp, Op.intArith], .int _ _⟩
  case mul => cases h; exact ⟨_, by simp [binOp, Op.intArith], .int _ _⟩
  case quo =>
    split at h
    · cases h
    · rename_i hy; cases h; exact ⟨_, by simp [binOp, Op.intDiv, hy], .int _ _⟩
  case rem =>
    split at h
    · cases h
    · rename_i hy; cases h; exact ⟨_, by simp [binOp, Op.intDiv, hy], .int _ _⟩
  case and => simp only [Option.map_eq_some_iff] at h; obtain ⟨n, hn, rfl⟩ := h; exact ⟨_, by simp only [binOp, ne_eq, not_true_eq_false, if_false]; exact bits_run hn, .int _ _⟩
  case or => simp only [Option.map_eq_some_iff] at h; obtain ⟨n, hn, rfl⟩ := h; exact ⟨_, by simp only [binOp, ne_eq, not_true_eq_false, if_false]; exact bits_run hn, .int _ _⟩
  case xor => simp only [Option.map_eq_some_iff] at h; obtain ⟨n, hn, rfl⟩ := h; exact ⟨_, by simp only [binOp, ne_eq, not_true_eq_false, if_false]; exact bits_run hn, .int _ _⟩
  case andNot => simp only [Option.map_eq_some_iff] at h; obtain ⟨n, hn, rfl⟩ := h; exact ⟨_, by simp only [binOp, ne_eq, not_true_eq_false, if_false]; exact bits_run hn, .int _ _⟩
  case shl => exact absurd rfl hs1
  case shr => exact absurd rfl hs2
  case eql => cases h; exact ⟨_, by simp [binOp, Op.intCmp], .bool _⟩
  case neq => cases h; exact ⟨_, by simp [binOp, Op.intCmp], .bool _⟩
  case lss => cases h; exact ⟨_, by simp [binOp, Op.intCmp], .bool _⟩
  case leq => cases h; exact ⟨_, by simp [binOp, Op.intCmp], .bool _⟩
  case gtr => cases h; exact ⟨_, by simp [binOp, Op.intCmp], .bool _⟩
  case geq => cases h; exact ⟨_, by simp [binOp, Op.intCmp], .bool _⟩
theorem shift_run {op : BinOp} {k : IntKind} {x y : Int} {v : AV} (h : shiftA op k x y = some v) : ∃ u, (∀ k' : IntKind, (Op.shift op k x k' y).run P w = .ok u w) ∧ DV w π v u := by
  unfold shiftA at h
  split at h
  · cases h
  · rename_i hy
    split at h
    · cases h; exact ⟨_, by simp [Op.shift, hy], .int _ _⟩
    · cases h; exact ⟨_, by simp [Op.shift, hy], .int _ _⟩
    · cases h
theorem nan_read {n : Nat} (h : nanB n = true) : ∃ s p, FloatKind.f64.format.read n = .nan s p := by
  unfold nanB FloatKind.decode at h
  split at h
  · rename_i s p hh; exact ⟨s, p, hh⟩
  · cases h
theorem cut_f64 (x y t : Nat) : (Question.nanBits .f64 x y).cut t = (t % 2) * 9223372036854775808 + 9218868437227405312 + 1 + (t / 2) % 4503599627370495 := by
  simp only [Question.cut, Nat.reducePow, Nat.reduceSub]
theorem read_nan (f : Ieee.Format) (n : Nat) (h1 : f.infRung < n % f.signWeight) (h2 : f.binade ≤ f.infRung) : f.read n = .nan (n / f.signWeight % 2 == 1) (n % f.signWeight - f.infRung) := by
  unfold Ieee.Format.read
  rw [if_neg (by omega), if_neg (by omega), if_neg (by omega)]
theorem nan_of (n : Nat) (h1 : Ieee.double.infRung < n % Ieee.double.signWeight) : nanB n = true := by
  unfold nanB FloatKind.decode
  rw [show FloatKind.f64.format = Ieee.double from rfl, read_nan _ _ h1 (by decide +kernel)]
theorem nan_nums (a m k i s : Nat) (hs : s = k + i) (ha : a < 2) (hm : i + 1 + m < s) : i < (a * s + i + 1 + m) % s := by
  have h : a = 0 ∨ a = 1 := by omega
  rcases h with rfl | rfl
  · rw [show 0 * s + i + 1 + m = i + 1 + m by omega, Nat.mod_eq_of_lt hm]; omega
  · rw [show 1 * s + i + 1 + m = s + (i + 1 + m) by omega, Nat.add_mod_left, Nat.mod_eq_of_lt hm]; omega
theorem nanBits_nan (x y t : Nat) : nanB ((Question.nanBits .f64 x y).cut t) = true := by
  apply nan_of
  rw [cut_f64]
  have hs : Ieee.double.signWeight = 9223372036854775808 := by decide +kernel
  have hi : Ieee.double.infRung = 9218868437227405312 := by decide +kernel
  rw [hs, hi]
  have := Nat.mod_lt (t / 2) (y := 4503599627370495) (by decide)
  generalize t / 2 % 4503599627370495 = m at *
  exact nan_nums _ _ 4503599627370496 _ _ (by decide) (Nat.mod_lt _ (by decide)) (by omega)
def Drw (w w' : World) : Prop := w' = w ∨ w' = w.drew
theorem Drw.dv {w w' : World} {π : Nat → Nat → Prop} (h : Drw w w') {v : AV} {u : Value} (hd : DV w π v u) : DV w' π v u := by
  rcases h with rfl | rfl
  · exact hd
  · exact DV.mono (w := w) (w' := w.drew) (π := π) (fun _ _ h => h) (fun _ _ _ => rfl) hd
theorem arith_nan {op : BinOp} {x y : Nat} (hop : op = .add ∧ FloatKind.f64.format.add x y = none ∨ op = .sub ∧ FloatKind.f64.format.sub x y = none ∨ op = .mul ∧ FloatKind.f64.format.mul x y = none ∨ op = .quo ∧ FloatKind.f64.format.div x y = none) (t : TypeId) :
    ∃ u, (binOp op t (.float .f64 x) (.float .f64 y)).run P w = .ok u w.drew ∧ DV w π .fnan u := by
  rcases hop with ⟨rfl, h⟩ | ⟨rfl, h⟩ | ⟨rfl, h⟩ | ⟨rfl, h⟩ <;>
  exact ⟨.float .f64 ((Question.nanBits .f64 x y).cut (w.tape w.drawn (Question.nanBits .f64 x y))), by simp [binOp, Op.floatArith, h, run_choose_drew, Question.forced], .fnan _ (nanBits_nan _ _ _)⟩
theorem float_run {op : BinOp} {k : FloatKind} {x y : Nat} {v : AV} (h : floatA op k x y = some v) (t : TypeId) : ∃ u w', Drw w w' ∧ (binOp op t (.float k x) (.float k y)).run P w = .ok u w' ∧ DV w π v u := by
  have ar : ∀ (o : Option Nat), arF k o = some v → (∃ r, o = some r ∧ v = .float k r) ∨ (o = none ∧ k = .f64 ∧ v = .fnan) := by
    intro o ho
    cases o with
    | some r => left; cases k <;> (simp only [arF, Option.some.injEq] at ho; exact ⟨r, rfl, ho.symm⟩)
    | none =>
      cases k
      · cases ho
      · right; simp only [arF, Option.some.injEq] at ho; exact ⟨rfl, rfl, ho.symm⟩
  cases op <;> simp only [floatA] at h <;> try (cases h; done)
  case add =>
    rcases ar _ h with ⟨n, hn, rfl⟩ | ⟨hn, rfl, rfl⟩
    · exact ⟨_, w, .inl rfl, by simp [binOp, Op.floatArith, hn], .float _ _⟩
    · obtain ⟨u, hu, hd⟩ := arith_nan (P := P) (w := w) (π := π) (op := .add) (.inl ⟨rfl, hn⟩) t
      exact ⟨u, _, .inr rfl, hu, hd⟩
  case sub =>
    rcases ar _ h with ⟨n, hn, rfl⟩ | ⟨hn, rfl, rfl⟩
    · exact ⟨_, w, .inl rfl, by simp [binOp, Op.floatArith, hn], .float _ _⟩
    · obtain ⟨u, hu, hd⟩ := arith_nan (P := P) (w := w) (π := π) (op := .sub) (.inr (.inl ⟨rfl, hn⟩)) t
      exact ⟨u, _, .inr rfl, hu, hd⟩
  case mul =>
    rcases ar _ h with ⟨n, hn, rfl⟩ | ⟨hn, rfl, rfl⟩
    · exact ⟨_, w, .inl rfl, by simp [binOp, Op.floatArith, hn], .float _ _⟩
    · obtain ⟨u, hu, hd⟩ := arith_nan (P := P) (w := w) (π := π) (op := .mul) (.inr (.inr (.inl ⟨rfl, hn⟩))) t
      exact ⟨u, _, .inr rfl, hu, hd⟩
  case quo =>
    rcases ar _ h with ⟨n, hn, rfl⟩ | ⟨hn, rfl, rfl⟩
    · exact ⟨_, w, .inl rfl, by simp [binOp, Op.floatArith, hn], .float _ _⟩
    · obtain ⟨u, hu, hd⟩ := arith_nan (P := P) (w := w) (π := π) (op := .quo) (.inr (.inr (.inr ⟨rfl, hn⟩))) t
      exact ⟨u, _, .inr rfl, hu, hd⟩
  all_goals (cases h; exact ⟨_, w, .inl rfl, by simp [binOp, Op.floatCmp], .bool _⟩)
theorem sum_nan {a b : Ieee.Datum} (h : (∃ s p, a = .nan s p) ∨ ∃ s p, b = .nan s p) : a.sum b = none := by
  rcases h with ⟨s, p, rfl⟩ | ⟨s, p, rfl⟩ <;> first | rfl | (cases a <;> rfl)
theorem product_nan {a b : Ieee.Datum} (h : (∃ s p, a = .nan s p) ∨ ∃ s p, b = .nan s p) : a.product b = none := by
  rcases h with ⟨s, p, rfl⟩ | ⟨s, p, rfl⟩ <;> first | rfl | (cases a <;> rfl)
theorem quotient_nan {d : Nat} {a b : Ieee.Datum} (h : (∃ s p, a = .nan s p) ∨ ∃ s p, b = .nan s p) : a.quotient d b = none := by
  rcases h with ⟨s, p, rfl⟩ | ⟨s, p, rfl⟩ <;> first | rfl | (cases a <;> rfl)
theorem order_nan {a b : Ieee.Datum} (h : (∃ s p, a = .nan s p) ∨ ∃ s p, b = .nan s p) : a.order b = none := by
  rcases h with ⟨s, p, rfl⟩ | ⟨s, p, rfl⟩ <;> first | rfl | (cases a <;> rfl)
theorem nan_run {op : BinOp} {x y : Nat} {v : AV} (hn : nanB x = true ∨ nanB y = true) (h : nanO op = some v) (t : TypeId) : ∃ u w', Drw w w' ∧ (binOp op t (.float .f64 x) (.float .f64 y)).run P w = .ok u w' ∧ DV w π v u := by
  have hr : (∃ s p, FloatKind.f64.format.read x = .nan s p) ∨ ∃ s p, FloatKind.f64.format.read y = .nan s p := hn.imp nan_read nan_read
  have hopp : ∀ d : Ieee.Datum, (∃ s p, d = .nan s p) → ∃ s p, d.opposite = .nan s p := fun d ⟨s, p, h⟩ => by subst h; exact ⟨_, _, rfl⟩
  have ho : FloatKind.f64.format.order x y = none := order_nan hr
  have arith : ∀ o : BinOp, (o = .add ∨ o = .sub ∨ o = .mul ∨ o = .quo) → v = .fnan → op = o → ∃ u w', Drw w w' ∧ (binOp op t (.float .f64 x) (.float .f64 y)).run P w = .ok u w' ∧ DV w π v u := by
    intro o ho hv he
    subst he hv
    have : op = .add ∧ FloatKind.f64.format.add x y = none ∨ op = .sub ∧ FloatKind.f64.format.sub x y = none ∨ op = .mul ∧ FloatKind.f64.format.mul x y = none ∨ op = .quo ∧ FloatKind.f64.format.div x y = none := by
      rcases ho with rfl | rfl | rfl | rfl
      · exact .inl ⟨rfl, by simp [Ieee.Format.add, sum_nan hr]⟩
      · exact .inr (.inl ⟨rfl, by simp [Ieee.Format.sub, sum_nan (hr.imp id (hopp _))]⟩)
      · exact .inr (.inr (.inl ⟨rfl, by simp [Ieee.Format.mul, product_nan hr]⟩))
      · exact .inr (.inr (.inr ⟨rfl, by simp [Ieee.Format.div, quotient_nan hr]⟩))
    obtain ⟨u, hu, hd⟩ := arith_nan (P := P) (w := w) (π := π) this t
    exact ⟨u, _, .inr rfl, hu, hd⟩
  cases op <;> simp only [nanO, Option.some.injEq] at h <;> try (cases h; done)
  case add => exact arith .add (.inl rfl) h.symm rfl
  case sub => exact arith .sub (.inr (.inl rfl)) h.symm rfl
  case mul => exact arith .mul (.inr (.inr (.inl rfl))) h.symm rfl
  case quo => exact arith .quo (.inr (.inr (.inr rfl))) h.symm rfl
  all_goals (subst h; exact ⟨_, w, .inl rfl, by simp [binOp, Op.floatCmp, ho], .bool _⟩)
theorem bool_run {P : Program} {w : World} {t : TypeId} (h : P.underlying t = some .bool) (x y : Bool) : (Op.equal t (.bool x) (.bool y)).run P w = .ok (x == y) w := by
  exact run_equalIn_bool' w 9999 t x y h
theorem guard_run (op : BinOp) (t : TypeId) (X Y : Operand) {x y : Value} (h1 : ∀ u, x ≠ .agg u) (h2 : x ≠ .nilIface) : (eqGuard op t X Y x y).run P w = .ok () w := by
  unfold eqGuard
  cases x <;> first | exact absurd rfl h2 | exact absurd rfl (h1 _) | (cases op <;> rfl)
theorem bin_run {op : BinOp} {t : TypeId} (ht : scalarB P t = true) {a b v : AV} {X Y : Operand} {x y : Value} (h : binA op a b = some v) (ha : DV w π a x) (hb : DV w π b y) :
    ∃ u w', Drw w w' ∧ (do eqGuard op t X Y x y; binOp op t x y : Sem Value).run P w = .ok u w' ∧ DV w π v u := by
  unfold binA at h
  split at h
  · cases ha; cases hb
    obtain ⟨u, hu, hd⟩ := shift_run (P := P) (w := w) (π := π) h
    refine ⟨u, w, .inl rfl, ?_, hd⟩
    rw [Sem.run_bind, guard_run _ _ _ _ (fun _ h => by cases h) (fun h => by cases h)]
    exact hu .i64
  · cases ha; cases hb
    obtain ⟨u, hu, hd⟩ := shift_run (P := P) (w := w) (π := π) h
    refine ⟨u, w, .inl rfl, ?_, hd⟩
    rw [Sem.run_bind, guard_run _ _ _ _ (fun _ h => by cases h) (fun h => by cases h)]
    exact hu .i64
  · rename_i hs1 hs2
    split at h
    · rename_i hk
      subst hk
      cases ha; cases hb
      obtain ⟨u, hu, hd⟩ := int_run (P := P) (w := w) (π := π) (fun e => hs1 e) (fun e => hs2 e) h t
      refine ⟨u, w, .inl rfl, ?_, hd⟩
      rw [Sem.run_bind, guard_run _ _ _ _ (fun _ h => by cases h) (fun h => by cases h)]
      exact hu
    · cases h
  · split at h
    · rename_i hk
      subst hk
      cases ha; cases hb
      obtain ⟨u, w', hw', hu, hd⟩ := float_run (P := P) (w := w) (π := π) h t
      refine ⟨u, w', hw', ?_, hd⟩
      rw [Sem.run_bind, guard_run _ _ _ _ (fun _ h => by cases h) (fun h => by cases h)]
      exact hu
    · cases h
  · cases ha with
    | fnan n hn =>
      cases hb
      obtain ⟨u, w', hw', hu, hd⟩ := nan_run (P := P) (w := w) (π := π) (.inl hn) h t
      refine ⟨u, w', hw', ?_, hd⟩
      rw [Sem.run_bind, guard_run _ _ _ _ (fun _ h => by cases h) (fun h => by cases h)]
      exact hu
  · cases hb with
    | fnan n hn =>
      cases ha
      obtain ⟨u, w', hw', hu, hd⟩ := nan_run (P := P) (w := w) (π := π) (.inr hn) h t
      refine ⟨u, w', hw', ?_, hd⟩
      rw [Sem.run_bind, guard_run _ _ _ _ (fun _ h => by cases h) (fun h => by cases h)]
      exact hu
  · cases ha with
    | fnan n hn =>
      cases hb
      obtain ⟨u, w', hw', hu, hd⟩ := nan_run (P := P) (w := w) (π := π) (.inl hn) h t
      refine ⟨u, w', hw', ?_, hd⟩
      rw [Sem.run_bind, guard_run _ _ _ _ (fun _ h => by cases h) (fun h => by cases h)]
      exact hu
  · cases h
theorem bb_run {op : BinOp} {neg : Bool} (hop : (op = .eql ∧ neg = false) ∨ (op = .neq ∧ neg = true)) {t : TypeId} (ht : boolB P t = true) {a b v : AV} {X Y : Operand} {x y : Value} (h : bbA neg a b = some v) (ha : DV w π a x) (hb : DV w π b y) :
    ∃ u, (do eqGuard op t X Y x y; binOp op t x y : Sem Value).run P w = .ok u w ∧ DV w π v u := by
  have hu : P.underlying t = some .bool := by
    unfold boolB at ht
    split at ht
    · assumption
    · cases ht
  unfold bbA at h
  split at h
  · cases ha; cases hb; cases h
    rename_i x y
    have hr := bool_run (w := w) hu x y
    rcases hop with ⟨rfl, rfl⟩ | ⟨rfl, rfl⟩
    · refine ⟨.bool (x == y), ?_, .bool _⟩
      rw [Sem.run_bind, guard_run _ _ _ _ (fun _ h => by cases h) (fun h => by cases h)]
      simp [binOp, hr]
    · refine ⟨.bool (x != y), ?_, .bool _⟩
      rw [Sem.run_bind, guard_run _ _ _ _ (fun _ h => by cases h) (fun h => by cases h)]
      simp [binOp, hr, bne]
  · cases h
theorem un_run {op : UnOp} {a v : AV} {x : Value} (h : unA op a = some v) (ha : DV w π a x) : ∃ u, (Op.unary op x).run P w = .ok u w ∧ DV w π v u := by
  unfold unA at h
  split at h
  · cases ha; cases h; exact ⟨_, rfl, .int _ _⟩
  · cases ha
    simp only [Option.map_eq_some_iff] at h
    obtain ⟨n, hn, rfl⟩ := h
    exact ⟨_, bits_run hn, .int _ _⟩
  · cases ha; cases h; exact ⟨_, rfl, .float _ _⟩
  · cases ha; cases h; exact ⟨_, rfl, .bool _⟩
  · cases h
theorem conv_run {s d : TypeId} {X : Operand} {xo : Opd} {c : COp} (hc : cConv P s d xo = some c) {a v : AV} {x : Value} (ha : DV w π a x)
    (h : (∃ k, c = .cvII k xo ∧ cvIIA k a = some v) ∨ (∃ k, c = .cvIF k xo ∧ cvIFA k a = some v) ∨ (∃ k, c = .cvFI k xo ∧ cvFIA k a = some v)) :
    ∃ u, (convert s d x).run P w = .ok u w ∧ DV w π v u := by
  unfold cConv at hc
  split at hc
  · rename_i k1 k2 hs hd
    cases hc
    rcases h with ⟨k, e, h⟩ | ⟨k, e, h⟩ | ⟨k, e, h⟩ <;> try (cases e; done)
    cases e
    unfold cvIIA at h
    split at h
    · cases ha; cases h
      exact ⟨_, by simp [convert, run_underlying hs, run_underlying hd, Conv.intToInt], .int _ _⟩
    · cases h
  · rename_i k1 k2 hs hd
    cases hc
    rcases h with ⟨k, e, h⟩ | ⟨k, e, h⟩ | ⟨k, e, h⟩ <;> try (cases e; done)
    cases e
    unfold cvIFA at h
    split at h
    · cases ha; cases h
      exact ⟨_, by simp [convert, run_underlying hs, run_underlying hd, Conv.intToFloat], .float _ _⟩
    · cases h
  · rename_i k1 k2 hs hd
    cases hc
    rcases h with ⟨k, e, h⟩ | ⟨k, e, h⟩ | ⟨k, e, h⟩ <;> try (cases e; done)
    cases e
    unfold cvFIA at h
    split at h
    · rename_i sk bb
      cases ha
      split at h
      · rename_i n hn
        split at h
        · rename_i hr
          cases h
          exact ⟨_, by simp [convert, run_underlying hs, run_underlying hd, Conv.floatToInt, hn, hr], .int _ _⟩
        · cases h
      · cases h
    · cases h
  · cases hc
theorem len_run {t e : TypeId} (he : P.underlying t = some (.slice e)) {Ts : Array TypeId} {Xs : Array Value} {a v : AV} {x : Value} (hT : Ts[0]? = some t) (hX : Xs[0]? = some x) (ha : DV w π a x) (h : lenA a = some v) (ty : TypeId) :
    ∃ u, (Builtin.len_ Ts ty Xs).run P w = .ok u w ∧ DV w π v u := by
  unfold lenA at h
  split at h
  · cases ha; cases h
    exact ⟨_, by simp [Builtin.len_, hT, hX, run_underlying he]; rfl, .int _ _⟩
  · cases ha <;> cases h
    · exact ⟨_, by simp [Builtin.len_, hT, hX, run_underlying he]; rfl, .int _ _⟩
    · exact ⟨_, by simp [Builtin.len_, hT, hX, run_underlying he]; rfl, .int _ _⟩
  · cases h
end
end Go.Eng
namespace Go.Eng
set_option linter.unusedVariables false
set_option linter.unusedSimpArgs false
set_option linter.unnecessarySimpa false
open Go
open Go.RowKit (Below)
set_option linter.unusedVariables false
section
variable {P : Program} {w : World} {π : Nat → Nat → Prop}
theorem ext_run {a v : AV} {i : Nat} {x : Value} (h : extA a i = some v) (ha : DV w π a x) : ∃ u, (Instr.extract x i).run P w = .ok u w ∧ DV w π v u := by
  unfold extA at h
  split at h
  · rename_i vs
    cases ha with
    | tup as us hl hd =>
      have hi : i < vs.length := by
        rcases Nat.lt_or_ge i vs.length with h' | h'
        · exact h'
        · rw [List.getElem?_eq_none h'] at h; cases h
      have hu : us[i]? = some us[i]! := by
        have : i < us.size := by omega
        simp [this]
      exact ⟨_, by simp [Instr.extract, hu], hd i v _ h hu⟩
  · cases h
theorem part_run {t : TypeId} {sz : Option Nat} (ht : rdOf P t = some sz) {cs : List AV} {us : Array Value} {off : Nat} {v : AV} (hl : cs.length = us.size) (hs : ∀ a ∈ cs, a.scalar = true)
    (hd : ∀ (i : Nat) (a : AV) (v : Value), cs[i]? = some a → us[i]? = some v → DV w π a v) (h : partA cs off sz = some v) : ∃ u, (part t us off).run P w = .ok u w ∧ DV w π v u := by
  have hpd := part_DV (w := w) (π := π) (f := fun j => us.getD j undef) (fun j x hx => hs x (List.mem_of_getElem? hx)) (fun j x hx => by
    have hj : j < us.size := by
      rw [← hl]
      rcases Nat.lt_or_ge j cs.length with h' | h'
      · exact h'
      · rw [List.getElem?_eq_none h'] at hx; cases hx
    have hu : us[j]? = some us[j] := Array.getElem?_eq_getElem hj
    have := hd j x _ hx hu
    simpa [hj] using this) h
  cases sz with
  | none =>
    obtain ⟨d, hu, hg⟩ := rdOf_one ht
    have h1 := run_agg (w := w) hu
    have hlt : off < us.size := by have := hpd.2; omega
    exact ⟨us[off], by simp [part, h1, hg, hlt], by simpa [hlt] using hpd.1⟩
  | some n =>
    obtain ⟨d, hu, hg, hz⟩ := rdOf_agg ht
    have h1 := run_agg (w := w) hu
    have h2 := run_size (w := w) hz
    have hle : off + n ≤ us.size := by have := hpd.1; omega
    refine ⟨.agg (us.extract off (off + n)), by simp [part, h1, hg, h2], ?_⟩
    have : us.extract off (off + n) = ((List.range n).map fun j => us.getD (off + j) undef).toArray := by
      apply Array.ext
      · simp; omega
      · intro i h1 h2
        simp at h2
        have : off + i < us.size := by omega
        simp [this]
    rw [this]
    exact hpd.2
inductive Drws (w : World) : World → Prop
  | refl : Drws w w
  | step {w' : World} : Drws w w' → Drws w w'.drew
theorem Drws.dv {w w' : World} {π : Nat → Nat → Prop} (h : Drws w w') {v : AV} {u : Value} (hd : DV w π v u) : DV w' π v u := by
  induction h with
  | refl => exact hd
  | step _ ih => exact Drw.dv (Or.inr rfl) ih
theorem Drws.dvs {w w' : World} {π : Nat → Nat → Prop} (h : Drws w w') {v : List AV} {u : List Value} (hd : DVs w π v u) : DVs w' π v u :=
  ⟨hd.1, fun i a v h1 h2 => h.dv (hd.2 i a v h1 h2)⟩
theorem Drws.trans {w w' w'' : World} (h : Drws w w') (h' : Drws w' w'') : Drws w w'' := by
  induction h' with
  | refl => exact h
  | step _ ih => exact .step ih
theorem nanMM_nan (mx : Bool) (x y t : Nat) : nanB ((Question.nanMinMax .f64 mx x y).cut t) = true := by
  have e : (Question.nanMinMax .f64 mx x y).cut t = (Question.nanBits .f64 x y).cut t := by simp only [Question.cut]
  rw [e]; exact nanBits_nan x y t
theorem mm_nan {mx : Bool} {x y : Nat} (h : FloatKind.f64.format.order x y = none) :
    ∃ u, ((if mx then Builtin.max2 (.float .f64 x) (.float .f64 y) else Builtin.min2 (.float .f64 x) (.float .f64 y)) : Sem Value).run P w = .ok u w.drew ∧ DV w π .fnan u := by
  cases mx
  · exact ⟨.float .f64 ((Question.nanMinMax .f64 false x y).cut (w.tape w.drawn (Question.nanMinMax .f64 false x y))), by simp [Builtin.min2, h, run_choose_drew, Question.forced], .fnan _ (nanMM_nan _ _ _ _)⟩
  · exact ⟨.float .f64 ((Question.nanMinMax .f64 true x y).cut (w.tape w.drawn (Question.nanMinMax .f64 true x y))), by simp [Builtin.max2, h, run_choose_drew, Question.forced], .fnan _ (nanMM_nan _ _ _ _)⟩
theorem mm2_run {mx : Bool} {a b v : AV} {x y : Value} (h : mmA mx a b = some v) (ha : DV w π a x) (hb : DV w π b y) :
    ∃ u w', Drws w w' ∧ ((if mx then Builtin.max2 x y else Builtin.min2 x y) : Sem Value).run P w = .ok u w' ∧ DV w π v u := by
  have nan : ∀ n m : Nat, FloatKind.f64.format.order n m = none → v = .fnan → x = .float .f64 n → y = .float .f64 m → ∃ u w', Drws w w' ∧ ((if mx then Builtin.max2 x y else Builtin.min2 x y) : Sem Value).run P w = .ok u w' ∧ DV w π v u := by
    intro n m ho hv hx hy
    subst hv hx hy
    obtain ⟨u, hu, hd⟩ := mm_nan (P := P) (w := w) (π := π) (mx := mx) ho
    exact ⟨u, _, .step .refl, hu, hd⟩
  unfold mmA at h
  split at h
  · cases ha; cases hb; cases h
    cases mx <;> exact ⟨_, w, .refl, rfl, .int _ _⟩
  · split at h
    · rename_i hk
      subst hk
      cases ha; cases hb
      rename_i k x y
      split at h
      · rename_i ho
        split at h
        · rename_i hk; subst hk; cases h; exact nan _ _ ho rfl rfl rfl
        · cases h
      · rename_i ho; cases h; cases mx <;> exact ⟨_, w, .refl, by simp [Builtin.max2, Builtin.min2, ho], .float _ _⟩
      · rename_i ho; cases h; cases mx <;> exact ⟨_, w, .refl, by simp [Builtin.max2, Builtin.min2, ho], .float _ _⟩
      · rename_i ho; cases h; cases mx <;> exact ⟨_, w, .refl, by simp [Builtin.max2, Builtin.min2, ho], .float _ _⟩
    · cases h
  · cases h; cases ha; cases hb
    exact nan _ _ (order_nan (.inl (nan_read (by assumption)))) rfl rfl rfl
  · cases h; cases ha; cases hb
    exact nan _ _ (order_nan (.inr (nan_read (by assumption)))) rfl rfl rfl
  · cases h
    cases ha with
    | fnan n hn => cases hb with
      | fnan m hm => exact nan _ _ (order_nan (.inl (nan_read hn))) rfl rfl rfl
  · cases h
theorem mm_run {mx : Bool} : ∀ {as : List AV} {us : List Value} {a v : AV} {x : Value} {w : World}, as.foldlM (mmA mx) a = some v → DV w π a x → DVs w π as us →
    ∃ u w', Drws w w' ∧ (us.foldlM (fun p q => if mx then Builtin.max2 p q else Builtin.min2 p q) x : Sem Value).run P w = .ok u w' ∧ DV w' π v u
  | [], us, a, v, x, w, h, ha, hs => by
    have : us = [] := List.eq_nil_of_length_eq_zero (by simpa using hs.1.symm)
    subst this
    simp at h; subst h
    exact ⟨x, w, .refl, rfl, ha⟩
  | b :: as, us, a, v, x, w, h, ha, hs => by
    cases us with
    | nil => have := hs.1; simp at this
    | cons y us =>
      simp only [List.foldlM_cons, Option.bind_eq_bind, Option.bind_eq_some_iff] at h
      obtain ⟨c, hc, h⟩ := h
      obtain ⟨u, w1, hw1, hu, hd⟩ := mm2_run (P := P) hc ha (hs.2 0 b y rfl rfl)
      have hs' : DVs w π as us := ⟨by have := hs.1; simpa using this, fun i a v h1 h2 => hs.2 (i + 1) a v (by simpa using h1) (by simpa using h2)⟩
      obtain ⟨u', w2, hw2, hu', hd'⟩ := mm_run h (hw1.dv hd) (hw1.dvs hs')
      exact ⟨u', w2, hw1.trans hw2, by simp only [List.foldlM_cons, Sem.run_bind, hu, Result.andThen_ok]; exact hu', hd'⟩
end
section ops
variable {P : Program} {nt : Nat} {n0 : Fen} {w0 : World} {π0 : Nat → Nat → Prop} {U : Nat → Prop} {s : S} {a : Act} {w : World} {β : Nat → Nat} {τ : Nat → Value} {π : Nat → Nat → Prop}
theorem withV_inv {α : Type} {o : Option α} {k : α → Prop} (h : withV o k) : ∃ x, o = some x ∧ k x := by
  cases o with
  | none => exact h.elim
  | some x => exact ⟨x, rfl, h⟩
theorem RV.rp_drop {cs : List AV} {v : Value} (h : RV β τ w π (.rp cs) v) (d : Nat) : ∃ B off, v = .pointer (some ⟨B, off, none⟩) ∧ RV β τ w π (.rp (cs.drop d)) (.pointer (some ⟨B, off + d, none⟩)) := by
  obtain ⟨B, off, f, hv, h1, h2, h3, h4⟩ := h
  refine ⟨B, off, hv, B, off + d, fun j => f (d + j), rfl, ?_, ?_, ?_, ?_⟩ <;> intro j x hx <;> rw [List.getElem?_drop] at hx
  · exact h1 _ x hx
  · have := h2 _ x hx; rwa [← Nat.add_assoc] at this
  · have := h3 _ x hx; rwa [← Nat.add_assoc] at this
  · exact h4 _ x hx
theorem Rel.fieldAddr (R : Rel P nt n0 w0 π0 U s a w β τ π) {t : TypeId} {f : Nat} {fd : Field} {X : Operand} {x : Opd} (hx : cOpd X = some x) (hf : fieldOf P t f = some fd)
    (hz : ¬ (szOf P fd.type == some 0 || (szOf P fd.type).isNone) = true) {id : Nat} {K : SV → S → Prop} (h : aop (Pure P) id (.fa x fd.offset) K s) :
    ∃ v y, (Instr.fieldAt t (a.eval X) f).run P w = .ok y w ∧ RV β τ w π v y ∧ v.inU U ∧ K v s := by
  have hu : ∃ fs : Array Field, P.underlying t = some (.struct fs) ∧ fs[f]? = some fd := by
    unfold fieldOf at hf
    split at hf
    · exact ⟨_, by assumption, hf⟩
    · cases hf
  obtain ⟨fs, hu, hfs⟩ := hu
  obtain ⟨z, hz1, hz2⟩ : ∃ z, szOf P fd.type = some z ∧ z ≠ 0 := by
    cases hs : szOf P fd.type with
    | none => simp [hs] at hz
    | some z => exact ⟨z, rfl, fun e => by subst e; simp [hs] at hz⟩
  have hsz := run_size (w := w) hz1
  have hrun : ∀ (B off : Nat), a.eval X = .pointer (some ⟨B, off, none⟩) → (Instr.fieldAt t (a.eval X) f).run P w = .ok (.pointer (some ⟨B, off + fd.offset, none⟩)) w := by
    intro B off he
    simp [Instr.fieldAt, run_underlying hu, hfs, he, Instr.sureAddr, fieldPlace, hsz, hz2, addr_add]
  simp only [aop] at h
  obtain ⟨p, hp, h⟩ := withV_inv h
  obtain ⟨hr, hU⟩ := R.opd hx hp
  cases p with
  | dat _ _ => exact h.elim
  | undef => exact h.elim
  | vs _ _ _ _ => exact h.elim
  | ptr b o => exact ⟨.ptr b (o + fd.offset), _, hrun _ _ hr, rfl, hU, h⟩
  | rp cs =>
    obtain ⟨B, off, hv, hr'⟩ := RV.rp_drop hr fd.offset
    exact ⟨.rp (cs.drop fd.offset), _, hrun _ _ hv, hr', trivial, h⟩
theorem Rel.idx (R : Rel P nt n0 w0 π0 U s a w β τ π) {X : Operand} {x : Opd} {i : Int} {b : AV} (hx : cOpd X = some x) (hb : Eng.opdA s x = some b) (hi : idxOf b = some i) : ∃ k, a.eval X = .int k i := by
  have hd := R.opdA hx hb
  unfold idxOf at hi
  split at hi
  · rename_i k n
    cases hi
    exact ⟨k, hd.int_inv⟩
  · cases hi
theorem Rel.indexArr (R : Rel P nt n0 w0 π0 U s a w β τ π) {t e : TypeId} {n z : Nat} {X I : Operand} {x i : Opd} (hx : cOpd X = some x) (hi : cOpd I = some i) (ht : P.underlying t = some (.array n e)) (hz : szOf P e = some z)
    {id : Nat} {K : SV → S → Prop} (h : aop (Pure P) id (.iaA x i n z) K s) :
    ∃ v y, (Instr.indexAt t (a.eval X) (a.eval I)).run P w = .ok y w ∧ RV β τ w π v y ∧ v.inU U ∧ K v s := by
  simp only [aop] at h
  obtain ⟨p, hp, h⟩ := withV_inv h
  obtain ⟨b, hb, h⟩ := withV_inv h
  obtain ⟨j, hj, h⟩ := withV_inv h
  obtain ⟨hlt, h⟩ := h
  obtain ⟨k, hk⟩ := R.idx hi hb hj
  obtain ⟨hr, hU⟩ := R.opd hx hp
  have hsz := run_size (w := w) hz
  have hrun : ∀ (B off : Nat), a.eval X = .pointer (some ⟨B, off, none⟩) → (Instr.indexAt t (a.eval X) (a.eval I)).run P w = .ok (.pointer (some ⟨B, off + j.toNat * z, none⟩)) w := by
    intro B off he
    simp [Instr.indexAt, hk, he, asIntOf, run_underlying ht, Instr.sureAddr, hlt, hsz, addr_add]
  cases p with
  | dat _ _ => exact h.elim
  | undef => exact h.elim
  | vs _ _ _ _ => exact h.elim
  | ptr b o => exact ⟨.ptr b (o + j.toNat * z), _, hrun _ _ hr, rfl, hU, h⟩
  | rp cs =>
    obtain ⟨B, off, hv, hr'⟩ := RV.rp_drop hr (j.toNat * z)
    exact ⟨.rp (cs.drop (j.toNat * z)), _, hrun _ _ hv, hr', trivial, h⟩
theorem Rel.indexSl (R : Rel P nt n0 w0 π0 U s a w β τ π) {t e : TypeId} {z : Nat} {X I : Operand} {x i : Opd} (hx : cOpd X = some x) (hi : cOpd I = some i) (ht : P.underlying t = some (.slice e)) (hz : szOf P e = some z)
    {id : Nat} {K : SV → S → Prop} (h : aop (Pure P) id (.iaS x i z) K s) :
    ∃ v y, (Instr.indexAt t (a.eval X) (a.eval I)).run P w = .ok y w ∧ RV β τ w π v y ∧ v.inU U ∧ K v s := by
  simp only [aop] at h
  obtain ⟨l, hl, k1⟩ := withV_inv h
  obtain ⟨b, hb, k2⟩ := withV_inv k1
  obtain ⟨j, hj, k3⟩ := withV_inv k2
  obtain ⟨xs, hxs, hlt, k4⟩ := withV_inv k3
  obtain ⟨row, hrow, hrl, hK⟩ := withV_inv k4
  obtain ⟨k, hk⟩ := R.idx hi hb hj
  have hd := R.opdA hx hl
  have hsz := run_size (w := w) hz
  have hl' : l = .sl xs := by
    cases l <;> simp only [rowsOf] at hxs <;> try (cases hxs; done)
    · cases hxs; simp at hlt; omega
    · cases hxs; rfl
  subst hl'
  generalize hv : a.eval X = v at hd
  cases hd with
  | sl0 A => simp at hrow
  | sl _ B off cap z' f h1 h2 h3 h4 h5 h6 =>
    have hzz' : z' = z := by rw [← h2 _ _ hrow, hrl]
    subst hzz'
    refine ⟨.rp row, .pointer (some ⟨B, off + j.toNat * z', none⟩), ?_, ⟨B, off + j.toNat * z', fun m => f j.toNat m, rfl, ?_, ?_, ?_, ?_⟩, trivial, hK⟩
    · simp [Instr.indexAt, hk, asIntOf, run_underlying ht, hlt, hsz, addr_add]
    · intro m c hc; exact h3 _ m row c hrow hc
    · intro m c hc; exact h4 _ m row c hrow hc
    · intro m c hc; exact h5 _ m row c hrow hc
    · intro m c hc; exact h6 _ m row c hrow hc
end ops
end Go.Eng
namespace Go.Eng
set_option linter.unusedVariables false
set_option linter.unusedSimpArgs false
set_option linter.unnecessarySimpa false
open Go
open Go.RowKit (Below)
set_option linter.unusedVariables false
theorem fold_set : ∀ (vs : List Value) (cells : Array Value) (off k : Nat), off + k + vs.length ≤ cells.size →
    ((vs.zipIdx k).foldl (fun cs (c, j) => cs.setIfInBounds (off + j) c) cells).toList = cells.toList.take (off + k) ++ vs ++ cells.toList.drop (off + k + vs.length)
  | [], cells, off, k, h => by simp
  | v :: vs, cells, off, k, h => by
    simp only [List.zipIdx_cons, List.foldl_cons]
    have hk : off + k < cells.size := by simp at h; omega
    rw [fold_set vs (cells.setIfInBounds (off + k) v) off (k + 1) (by simp at h ⊢; omega)]
    have e := list_seg_step cells.toList (off + k) v vs (by simp at h ⊢; omega)
    simpa [Array.toList_setIfInBounds, Nat.add_assoc] using e
theorem fill_cons {place : Nat → Option (Nat × Nat)} {cells : Array Value} {i off : Nat} {v : Value} {rest : List (Nat × Value)} (hp : place i = some (off, v.cells.size)) (hf : off + v.cells.size ≤ cells.size) :
    ∃ cells', Instr.fill place cells ((i, v) :: rest) = Instr.fill place cells' rest ∧ cells'.toList = cells.toList.take off ++ v.cells.toList ++ cells.toList.drop (off + v.cells.toList.length) ∧ cells'.size = cells.size := by
  have hl := fold_set v.cells.toList cells off 0 (by simpa using hf)
  refine ⟨(v.cells.toList.zipIdx 0).foldl (fun cs (c, j) => cs.setIfInBounds (off + j) c) cells, ?_, by simpa using hl, ?_⟩
  · simp only [Instr.fill, hp]
    have hn : ¬ (off + v.cells.size > cells.size) := by omega
    simp only [ne_eq, not_true_eq_false, decide_false, hn, Bool.or_self, Bool.false_eq_true, if_false, bne_self_eq_false]
    congr 1
    rw [← Array.foldl_toList]
    simp
  · have := congrArg List.length hl
    simp at this
    rw [← Array.length_toList, hl]
    simp; omega
section
variable {P : Program} {w : World} {π : Nat → Nat → Prop}
theorem DVs.splice {cs ps : List AV} {us vs : List Value} {off : Nat} (h : DVs w π cs us) (k : DVs w π ps vs) (hle : off + ps.length ≤ cs.length) :
    DVs w π (cs.take off ++ ps ++ cs.drop (off + ps.length)) (us.take off ++ vs ++ us.drop (off + vs.length)) := by
  have h1 := h.1
  have h2 := k.1
  refine ⟨by simp; omega, fun i c u hc hu => ?_⟩
  rw [list_splice _ _ _ hle] at hc
  rw [list_splice _ _ _ (by omega)] at hu
  rw [← h2] at hu
  split at hc
  · rename_i hi; rw [if_pos hi] at hu; exact h.2 i c u hc hu
  · rename_i hi
    rw [if_neg hi] at hu
    split at hc
    · rename_i hi2; rw [if_pos hi2] at hu; exact k.2 _ c u hc hu
    · rename_i hi2; rw [if_neg hi2] at hu; exact h.2 i c u hc hu
theorem zero_run {t : TypeId} {zs : List AV} (h : zeroOf P t = some zs) : ∃ z : Value, (zeroValue t).run P w = .ok z w ∧ DVs w π zs z.cells.toList ∧ ∀ a ∈ zs, a.scalar = true := by
  unfold zeroOf at h
  split at h
  · rename_i z hz
    simp only [Option.bind_eq_some_iff] at hz
    obtain ⟨i, hi, hz⟩ := hz
    have hm := mapM_ofV1 (w := w) (π := π) _ _ h
    exact ⟨z, by simp [zeroValue, typeInfo, hi, hz], hm.1, hm.2⟩
  · cases h
end
section ops
variable {P : Program} {nt : Nat} {n0 : Fen} {w0 : World} {π0 : Nat → Nat → Prop} {U : Nat → Prop} {s : S} {a : Act} {w : World} {β : Nat → Nat} {τ : Nat → Value} {π : Nat → Nat → Prop}
theorem Rel.fill (R : Rel P nt n0 w0 π0 U s a w β τ π) {t : TypeId} {place : Nat → Option (Nat × Nat)} (hpl : ∀ i o z, cPart P t i = some (o, z) → place i = some (o, z)) :
    ∀ (Xs : List (Nat × Operand)) (ps : List (Nat × Nat × Opd)) (as : List (Nat × List AV)) (cs : List AV) (us : Array Value), cParts P t Xs = some ps → partsA s ps = some as → partsFit cs.length ps = true →
      DVs w π cs us.toList → (∀ c ∈ cs, c.scalar = true) →
      ∃ us', Instr.fill place us (Xs.map fun p => (p.1, a.eval p.2)) = some us' ∧ DVs w π (fillA cs as) us'.toList ∧ ∀ c ∈ fillA cs as, c.scalar = true
  | [], ps, as, cs, us, h1, h2, h3, hd, hs => by
    simp [cParts] at h1; subst h1
    simp [partsA] at h2; subst h2
    exact ⟨us, rfl, hd, hs⟩
  | (i, X) :: Xs, ps, as, cs, us, h1, h2, h3, hd, hs => by
    simp only [cParts] at h1
    split at h1
    · rename_i o z x ps' hp hx hps
      cases h1
      simp only [partsA] at h2
      split at h2
      · rename_i av as' hav has
        split at h2
        · rename_i hz
          obtain ⟨hz, hok⟩ := hz
          cases h2
          simp only [partsFit, Bool.and_eq_true, decide_eq_true_eq] at h3
          have hdv := R.opdA hx hav
          obtain ⟨hcs, hsc⟩ := hdv.cells (fun vs e => by subst e; simp [stOk] at hok)
          have hsz : (a.eval X).cells.size = z := by have := hcs.1; simp at this; omega
          have husz : us.size = cs.length := by have := hd.1; simp at this; omega
          obtain ⟨us1, he, hl1, hs1⟩ := fill_cons (place := place) (cells := us) (i := i) (off := o) (v := a.eval X) (rest := Xs.map fun p => (p.1, a.eval p.2)) (by rw [hsz]; exact hpl i o z hp) (by omega)
          have hd1 : DVs w π (cs.take o ++ av.cells ++ cs.drop (o + av.cells.length)) us1.toList := by rw [hl1]; exact hd.splice hcs (by omega)
          have hs1' : ∀ c ∈ cs.take o ++ av.cells ++ cs.drop (o + av.cells.length), c.scalar = true := by
            intro c hc
            simp only [List.mem_append] at hc
            rcases hc with (hc | hc) | hc
            · exact hs c (List.mem_of_mem_take hc)
            · exact hsc c hc
            · exact hs c (List.mem_of_mem_drop hc)
          obtain ⟨us', hf, hd', hs'⟩ := R.fill hpl Xs ps' as' _ us1 hps has (by
            have : (cs.take o ++ av.cells ++ cs.drop (o + av.cells.length)).length = cs.length := by simp; omega
            rw [this]; exact h3.2) hd1 hs1'
          exact ⟨us', by rw [List.map_cons, he]; exact hf, hd', hs'⟩
        · cases h2
      · cases h2
    · cases h1
theorem Array_mapM_run {P : Program} {w : World} {α β : Type} (xs : Array α) (f : α → Sem β) (g : α → β) (h : ∀ x ∈ xs, (f x).run P w = .ok (g x) w) : (xs.mapM f).run P w = .ok (xs.map g) w := by
  obtain ⟨l⟩ := xs
  rw [List.mapM_toArray, Sem.run_map]
  have : ∀ l : List α, (∀ x ∈ l, (f x).run P w = .ok (g x) w) → (l.mapM f).run P w = .ok (l.map g) w := by
    intro l
    induction l with
    | nil => intro _; rfl
    | cons x l ih =>
      intro h
      simp [List.mapM_cons, Sem.run_bind, h x (by simp), ih (fun y hy => h y (by simp [hy]))]
  rw [this l (fun x hx => h x (by simpa using hx))]
  simp
theorem Rel.build (R : Rel P nt n0 w0 π0 U s a w β τ π) {t : TypeId} {Xs : Array (Nat × Operand)} {zs : List AV} {ps : List (Nat × Nat × Opd)} (hz : zeroOf P t = some zs) (hps : cParts P t Xs.toList = some ps) (hfit : partsFit zs.length ps = true) (hok : buildOk P t = true)
    {id : Nat} {K : SV → S → Prop} (h : aop (Pure P) id (.build zs ps) K s) :
    ∃ v y, (Instr.build t (Xs.map fun (i, x) => (i, a.eval x))).run P w = .ok y w ∧ RV β τ w π v y ∧ v.inU U ∧ K v s := by
  simp only [aop] at h
  obtain ⟨as, has, hK⟩ := withV_inv h
  obtain ⟨z, hzr, hzd, hzs⟩ := zero_run (P := P) (w := w) (π := π) hz
  unfold buildOk at hok
  split at hok
  · rename_i fs hu
    have hm := Array_mapM_run (P := P) (w := w) fs (fun f => do pure (f.offset, ← sizeOf f.type)) (fun f => (f.offset, (szOf P f.type).getD 0)) (by
      intro f hf
      have := (List.all_eq_true.1 hok) f (by simpa using hf)
      cases hs : szOf P f.type with
      | none => simp [hs] at this
      | some z => simp [run_size (w := w) hs])
    obtain ⟨us', hf, hd, hs⟩ := R.fill (place := ((fs.map fun f => (f.offset, (szOf P f.type).getD 0))[·]?)) (fun i o z hp => by
      unfold cPart at hp
      simp only [hu] at hp
      split at hp
      · rename_i f hfi
        simp only [Option.map_eq_some_iff] at hp
        obtain ⟨z', hz', e⟩ := hp
        cases e
        simp [hfi, hz']
      · cases hp) Xs.toList ps as zs z.cells hps has hfit hzd hzs
    refine ⟨.dat (.agg (fillA zs as)) none, .agg us', ?_, ⟨.agg _ _ (by have := hd.1; simpa using this) hs (fun i a v ha hv => hd.2 i a v ha (by simpa using hv)), fun t ht => by cases ht⟩, trivial, hK⟩
    simp only [Instr.build, Sem.run_bind, hzr, Result.andThen_ok, run_underlying hu, hm]
    have : (Xs.map fun (i, x) => (i, a.eval x)).toList = Xs.toList.map fun p => (p.1, a.eval p.2) := by simp
    rw [this, hf]
    rfl
  · rename_i n e hu
    cases hse : szOf P e with
    | none => simp [hse] at hok
    | some ze =>
      obtain ⟨us', hf, hd, hs⟩ := R.fill (place := fun i => some (i * ze, ze)) (fun i o z hp => by
        unfold cPart at hp
        simp [hu, hse] at hp
        obtain ⟨rfl, rfl⟩ := hp
        rfl) Xs.toList ps as zs z.cells hps has hfit hzd hzs
      refine ⟨.dat (.agg (fillA zs as)) none, .agg us', ?_, ⟨.agg _ _ (by have := hd.1; simpa using this) hs (fun i a v ha hv => hd.2 i a v ha (by simpa using hv)), fun t ht => by cases ht⟩, trivial, hK⟩
      simp only [Instr.build, Sem.run_bind, hzr, Result.andThen_ok, run_underlying hu, run_size (w := w) hse]
      have : (Xs.map fun (i, x) => (i, a.eval x)).toList = Xs.toList.map fun p => (p.1, a.eval p.2) := by simp
      rw [this, hf]
      rfl
  · cases hok
end ops
end Go.Eng
namespace Go.Eng
set_option linter.unusedVariables false
set_option linter.unusedSimpArgs false
set_option linter.unnecessarySimpa false
open Go
open Go.RowKit (Below)
set_option linter.unusedVariables false
theorem flat_get {α : Type} {z : Nat} : ∀ {xs : List (List α)}, (∀ r ∈ xs, r.length = z) → ∀ {i j : Nat} {r : List α} {a : α}, xs[i]? = some r → r[j]? = some a → xs.flatten[i * z + j]? = some a
  | [], h, i, j, r, a, hr, ha => by simp at hr
  | x :: xs, h, 0, j, r, a, hr, ha => by
    simp at hr; subst hr
    have hj : j < x.length := by
      rcases Nat.lt_or_ge j x.length with h' | h'
      · exact h'
      · rw [List.getElem?_eq_none h'] at ha; cases ha
    simp only [List.flatten_cons, Nat.zero_mul, Nat.zero_add]
    rw [List.getElem?_append_left hj]; exact ha
  | x :: xs, h, i + 1, j, r, a, hr, ha => by
    have hx := h x (by simp)
    have := flat_get (xs := xs) (fun r hr => h r (by simp [hr])) (by simpa using hr) ha
    simp only [List.flatten_cons]
    rw [List.getElem?_append_right (by rw [hx, Nat.add_mul]; omega)]
    rw [hx, show (i + 1) * z + j - z = i * z + j by rw [Nat.add_mul]; omega]
    exact this
theorem flat_len {α : Type} {z : Nat} : ∀ {xs : List (List α)}, (∀ r ∈ xs, r.length = z) → xs.flatten.length = xs.length * z
  | [], h => by simp
  | x :: xs, h => by
    have hx := h x (by simp)
    have := flat_len (xs := xs) (fun r hr => h r (by simp [hr]))
    simp [hx, this, Nat.add_mul]; omega
section
variable {P : Program} {nt : Nat} {n0 : Fen} {w0 : World} {π0 : Nat → Nat → Prop} {U : Nat → Prop} {s : S} {a : Act} {w : World} {β : Nat → Nat} {τ : Nat → Value} {π : Nat → Nat → Prop}
def grow (π : Nat → Nat → Prop) (B m : Nat) : Nat → Nat → Prop := fun b o => π b o ∨ (b = B ∧ o < m)
theorem Rel.newRow (R : Rel P nt n0 w0 π0 U s a w β τ π) {xs : List (List AV)} {z cap : Nat} {cs : Array Value} (e : TypeId) (hrow : ∀ r ∈ xs, r.length = z) (hcap : xs.length ≤ cap) (hlen : xs.length * z ≤ cs.size)
    (hd : ∀ (i : Nat) (x : AV) (v : Value), xs.flatten[i]? = some x → cs[i]? = some v → DV w π x v) (hs : ∀ r ∈ xs, ∀ x ∈ r, x.scalar = true) :
    Rel P nt n0 w0 π0 U s a (w.alloc (.cells cs e)) β τ (grow π w.heap.size (xs.length * z)) ∧
      DV (w.alloc (.cells cs e)) (grow π w.heap.size (xs.length * z)) (.sl xs) (.slice (some ⟨w.heap.size, 0, none⟩) xs.length cap) := by
  have hbel : Below w.heap.size w (w.alloc (.cells cs e)) := (Below.refl _ _).alloc (Nat.le_refl _) _
  refine ⟨R.frame (fun _ _ => rfl) (fun _ _ => rfl) (fun _ h => h) (fun _ _ h => .inl h) (fun b o h => ?_) (fun b o h => ?_) hbel, ?_⟩
  · rcases h with h | ⟨rfl, _⟩
    · exact .inl h
    · exact .inr (Nat.le_refl _)
  · rcases h with h | ⟨rfl, _⟩
    · have := R.prot b o h; simp; omega
    · simp
  · have hmono : ∀ {x : AV} {v : Value}, DV w π x v → DV (w.alloc (.cells cs e)) (grow π w.heap.size (xs.length * z)) x v := fun h => h.mono (fun _ _ h => .inl h) (fun b o h => Below.cellOld hbel (R.prot b o h))
    have hin : ∀ (i j : Nat) (r : List AV) (x : AV), xs[i]? = some r → r[j]? = some x → i * z + j < xs.length * z := by
      intro i j r x hr hx
      have hf := flat_get hrow hr hx
      rcases Nat.lt_or_ge (i * z + j) (xs.length * z) with h' | h'
      · exact h'
      · rw [List.getElem?_eq_none (by rw [flat_len hrow]; exact h')] at hf; cases hf
    refine .sl xs w.heap.size 0 cap z (fun i j => cs.getD (i * z + j) undef) hcap (fun i r hr => hrow r (List.mem_of_getElem? hr)) (fun i j r x hr hx => hs r (List.mem_of_getElem? hr) x (List.mem_of_getElem? hx)) ?_ ?_ ?_
    · intro i j r x hr hx
      exact .inr ⟨rfl, by have := hin i j r x hr hx; omega⟩
    · intro i j r x hr hx
      have hlt := hin i j r x hr hx
      rw [cell_of_row _ _ _ cs e (0, 0) (heap_alloc_new w _)]
      have : i * z + j < cs.size := by omega
      simp [this]
    · intro i j r x hr hx
      have hlt : i * z + j < cs.size := by have := hin i j r x hr hx; omega
      have := hd (i * z + j) x cs[i * z + j] (flat_get hrow hr hx) (Array.getElem?_eq_getElem hlt)
      have hgd : cs.getD (i * z + j) undef = cs[i * z + j] := by simp [hlt]
      rw [hgd]
      exact hmono this
theorem lkN_delN {q k e : Nat} : ∀ {l : List (Nat × Nat)}, lkN q (delN k l) = some e → lkN q l = some e ∧ q ≠ k
  | [], h => by simp [delN, lkN] at h
  | (m, v) :: r, h => by
    simp only [delN] at h
    by_cases hk : k = m
    · subst hk
      simp only [beq_self_eq_true, cond_true] at h
      obtain ⟨h1, h2⟩ := lkN_delN h
      have hf : (q == k) = false := by simpa using h2
      exact ⟨by simp [lkN, hf, h1], h2⟩
    · have hf : (k == m) = false := by simpa using hk
      simp only [hf, cond_false, lkN] at h
      by_cases hq : q = m
      · subst hq
        simp at h
        exact ⟨by simp [lkN, h], fun e => hk e.symm⟩
      · have hf' : (q == m) = false := by simpa using hq
        simp only [hf', cond_false] at h
        obtain ⟨h1, h2⟩ := lkN_delN h
        exact ⟨by simp [lkN, hf', h1], h2⟩
theorem Rel.addTok (R : Rel P nt n0 w0 π0 U s a w β τ π) {id e : Nat} {v : Value} (hid : ¬ U id) (ht : Tok P w π n0.n e v)
    (hl : ∀ q e' B, lkN q s.live = some e' → ownB (τ q) = some B → ownB v ≠ some B) (hb : ∀ b x, lkB b s.boxes = some x → ownB v ≠ some (β b)) :
    Rel P nt n0 w0 π0 (also U id) { s with live := (id, e) :: s.live } a w β (upd τ id v) π := by
  have hne : ∀ b, U b → b ≠ id := fun b hb e => hid (e ▸ hb)
  have R1 : Rel P nt n0 w0 π0 (also U id) s a w β (upd τ id v) π :=
    R.frame (fun _ _ => rfl) (fun b hb => upd_ne _ _ _ (hne b hb)) (fun n h => .inl h) (fun _ _ h => h) (fun _ _ h => .inl h) R.prot (Below.refl _ _)
  have hcase : ∀ {q e'}, lkN q ((id, e) :: s.live) = some e' → (q = id ∧ e' = e) ∨ (q ≠ id ∧ lkN q s.live = some e') := by
    intro q e' h
    simp only [lkN] at h
    by_cases hq : q = id
    · subst hq; simp at h; exact .inl ⟨rfl, h.symm⟩
    · have hf : (q == id) = false := by simpa using hq
      simp only [hf, cond_false] at h; exact .inr ⟨hq, h⟩
  refine ⟨R1.size, R1.slots, R1.boxes, R1.inj, fun q e' h => ?_, fun q q' e' e'' B h h' hB hB' => ?_, fun q e' b x h h' hB => ?_, R1.below, R1.n0le, R1.prot, R1.prot0, R1.protOld, R1.fore, R1.foreU, R1.kept⟩
  · rcases hcase h with ⟨rfl, rfl⟩ | ⟨_, h⟩
    · exact ⟨.inr rfl, by rw [upd_same]; exact ht⟩
    · exact R1.live q e' h
  · rcases hcase h with ⟨k1, _⟩ | ⟨hq, k⟩ <;> rcases hcase h' with ⟨k1', _⟩ | ⟨hq', k'⟩
    · rw [k1, k1']
    · rw [k1, upd_same] at hB
      rw [upd_ne _ _ _ hq'] at hB'
      exact absurd hB (hl q' e'' B k' hB')
    · rw [k1', upd_same] at hB'
      rw [upd_ne _ _ _ hq] at hB
      exact absurd hB' (hl q e' B k hB)
    · exact R1.liveInj q q' e' e'' B k k' hB hB'
  · rcases hcase h with ⟨rfl, rfl⟩ | ⟨hq, h⟩
    · rw [upd_same] at hB; exact hb b x h' hB
    · exact R1.liveBox q e' b x h h' hB
theorem Rel.delTok (R : Rel P nt n0 w0 π0 U s a w β τ π) (q : Nat) : Rel P nt n0 w0 π0 U { s with live := delN q s.live } a w β τ π :=
  ⟨R.size, R.slots, R.boxes, R.inj, fun k e h => R.live k e (lkN_delN h).1, fun k k' e e' B h h' => R.liveInj k k' e e' B (lkN_delN h).1 (lkN_delN h').1, fun k e b x h => R.liveBox k e b x (lkN_delN h).1, R.below, R.n0le, R.prot, R.prot0, R.protOld, R.fore, R.foreU, R.kept⟩
theorem Rel.rowWrite (R : Rel P nt n0 w0 π0 U s a w β τ π) {B m : Nat} {cur cur' : Array Value} {e : TypeId} (hB : n0.n ≤ B) (hh : w.heap[B]? = some (.cells cur e (0, 0)))
    (hsame : ∀ o, π B o → cur'[o]? = cur[o]?) (hl : ∀ q e', lkN q s.live = some e' → ownB (τ q) ≠ some B) (hb : ∀ b x, lkB b s.boxes = some x → β b ≠ B) :
    Rel P nt n0 w0 π0 U s a (w.setRow B cur') β τ (grow π B m) := by
  have hlt := heap_lt hh
  have hother : ∀ k, k ≠ B → (w.setRow B cur').heap[k]? = w.heap[k]? := fun k hk => setRow_other w _ k cur' hk
  have hc : ∀ b o, π b o → (w.setRow B cur').cell? ⟨b, o, none⟩ = w.cell? ⟨b, o, none⟩ := by
    intro b o h
    by_cases e' : b = B
    · subst e'
      rw [cell_of_row _ _ _ cur' e (0, 0) (setRow_heap w _ cur _ e _ hh), cell_of_row _ _ _ cur e (0, 0) hh]
      exact hsame o h
    · exact cell_setRow_other w _ cur' ⟨b, o, none⟩ e'
  have hp : ∀ b o, π b o → grow π B m b o := fun _ _ h => .inl h
  have hp' : ∀ b o, b ≠ B → grow π B m b o → π b o := fun b o hb h => by
    rcases h with h | ⟨h, _⟩
    · exact h
    · exact absurd h hb
  refine ⟨R.size, fun t v h => ?_, fun b x h => ?_, R.inj, fun q e' h => ?_, R.liveInj, R.liveBox, R.below.trans ⟨rfl, rfl, rfl, by simp, fun k hk hx => hother k (by omega), fun k o hk ho => (hother k (fun e => by subst e; rw [hh] at hk; cases hk; cases ho)).trans hk⟩, R.n0le, fun b o h => ?_, fun b o h => hp _ _ (R.prot0 b o h), fun b o h => ?_, R.fore, R.foreU, fun b o h => (hc b o (R.prot0 b o h)).trans (R.kept b o h)⟩
  · obtain ⟨⟨x, hx, hv⟩, hu⟩ := R.slots t v h
    exact ⟨⟨x, hx, RV.mono (fun _ _ => rfl) (fun _ _ => rfl) hp hc hu hv⟩, hu⟩
  · obtain ⟨h1, h2, h3, h4⟩ := R.boxes b x h
    refine ⟨h1, h2, h3.keep (fun _ _ => rfl) h4 (hother _ (hb b x h)) hp hc (fun o ho => ?_), h4⟩
    obtain ⟨_, _, _, _, _, _, hn⟩ := h3
    exact hn o (hp' _ o (hb b x h) ho)
  · obtain ⟨h1, h2⟩ := R.live q e' h
    exact ⟨h1, h2.keep (fun C hC => hother C (fun eC => hl q e' h (by rw [hC, eC]))) (fun C o hC ho => hp' C o (fun eC => hl q e' h (by rw [hC, eC])) ho)⟩
  · rcases h with h | ⟨rfl, _⟩
    · simpa using R.prot b o h
    · simpa using hlt
  · rcases h with h | ⟨rfl, _⟩
    · exact R.protOld b o h
    · exact .inr hB
theorem Rel.draw (R : Rel P nt n0 w0 π0 U s a w β τ π) : Rel P nt n0 w0 π0 U s a w.drew β τ π :=
  R.frame (fun _ _ => rfl) (fun _ _ => rfl) (fun _ h => h) (fun _ _ h => h) (fun _ _ h => .inl h) R.prot (Below.refl _ _).drew
theorem Rel.draws (R : Rel P nt n0 w0 π0 U s a w β τ π) {w' : World} (h : Drws w w') : Rel P nt n0 w0 π0 U s a w' β τ π := by
  induction h with
  | refl => exact R
  | step _ ih => exact ih.draw
end
end Go.Eng
namespace Go.Eng
set_option linter.unusedVariables false
set_option linter.unusedSimpArgs false
set_option linter.unnecessarySimpa false
open Go
open Go.RowKit (Below)
set_option linter.unusedVariables false
section
variable {P : Program} {nt : Nat} {n0 : Fen} {w0 : World} {π0 : Nat → Nat → Prop} {U : Nat → Prop} {s : S} {a : Act} {w : World} {β : Nat → Nat} {τ : Nat → Value} {π : Nat → Nat → Prop}
theorem Rel.fillRows (R : Rel P nt n0 w0 π0 U s a w β τ π) (z : Nat) : ∀ (Xs : List (Nat × Operand)) (xs : List Opd) (rows : List (List AV)) (k : Nat) (pre tail : List AV) (us : Array Value),
    Xs.map (·.1) = (List.range Xs.length).map (· + k) → Xs.mapM (fun p => cOpd p.2) = some xs → rowsA s z xs = some rows → DVs w π (pre ++ tail) us.toList → (∀ c ∈ pre ++ tail, c.scalar = true) → pre.length = k * z → tail.length = Xs.length * z →
    ∃ us', Instr.fill (fun i => some (i * z, z)) us (Xs.map fun p => (p.1, a.eval p.2)) = some us' ∧ DVs w π (pre ++ rows.flatten) us'.toList ∧ (∀ c ∈ pre ++ rows.flatten, c.scalar = true) ∧ rows.length = Xs.length ∧ ∀ r ∈ rows, r.length = z
  | [], xs, rows, k, pre, tail, us, h1, h2, h3, hd, hs, hp, ht => by
    simp at h2; subst h2
    simp [rowsA] at h3; subst h3
    have : tail = [] := List.eq_nil_of_length_eq_zero (by simpa using ht)
    subst this
    exact ⟨us, rfl, by simpa using hd, by simpa using hs, rfl, by simp⟩
  | (i, X) :: Xs, xs, rows, k, pre, tail, us, h1, h2, h3, hd, hs, hp, ht => by
    simp only [List.mapM_cons, Option.bind_eq_bind, Option.bind_eq_some_iff, Option.pure_def, Option.some.injEq] at h2
    obtain ⟨x, hx, xs', hxs, rfl⟩ := h2
    simp only [rowsA] at h3
    split at h3
    · rename_i av rows' hav hrows
      split at h3
      · rename_i hz
        obtain ⟨hz, hok⟩ := hz
        cases h3
        have hi : i = k := by
          have := congrArg (fun l => l[0]?) h1
          simpa using this
        subst hi
        have h1' : Xs.map (·.1) = (List.range Xs.length).map (· + (i + 1)) := by
          have h1t := congrArg List.tail h1
          simp only [List.map_cons, List.tail_cons, List.length_cons, List.range_succ_eq_map, List.map_map] at h1t
          rw [h1t]
          apply List.map_congr_left
          intro q _
          simp; omega
        have hdv := R.opdA hx hav
        obtain ⟨hcs, hsc⟩ := hdv.cells (fun vs e => by subst e; simp [stOk] at hok)
        have hsz : (a.eval X).cells.size = z := by have := hcs.1; simp at this; omega
        have husz : us.size = pre.length + tail.length := by have := hd.1; simp at this; omega
        have htl : tail.length = Xs.length * z + z := by rw [ht]; simp [Nat.add_mul]
        obtain ⟨us1, he, hl1, hs1⟩ := fill_cons (place := fun i => some (i * z, z)) (cells := us) (i := i) (off := i * z) (v := a.eval X) (rest := Xs.map fun p => (p.1, a.eval p.2)) (by rw [hsz]) (by omega)
        have hsp := hd.splice hcs (off := i * z) (by simp; omega)
        have heq : (pre ++ tail).take (i * z) ++ av.cells ++ (pre ++ tail).drop (i * z + av.cells.length) = (pre ++ av.cells) ++ tail.drop z := by
          rw [← hp, List.take_left, hz, List.drop_append, List.drop_eq_nil_of_le (by omega)]
          simp
        rw [heq] at hsp
        have hsall : ∀ c ∈ (pre ++ av.cells) ++ tail.drop z, c.scalar = true := by
          intro c hc
          simp only [List.mem_append] at hc
          rcases hc with (hc | hc) | hc
          · exact hs c (by simp [hc])
          · exact hsc c hc
          · exact hs c (by simp [List.mem_of_mem_drop hc])
        obtain ⟨us', hf, hd', hs', hlen, hrl⟩ := R.fillRows z Xs xs' rows' (i + 1) (pre ++ av.cells) (tail.drop z) us1 h1' hxs hrows (by rw [hl1]; exact hsp) hsall (by simp [hp, hz, Nat.add_mul]) (by simp; omega)
        refine ⟨us', by rw [List.map_cons, he]; exact hf, by simpa [List.append_assoc] using hd', by simpa [List.append_assoc] using hs', by simp [hlen], ?_⟩
        intro r hr
        rcases List.mem_cons.1 hr with rfl | hr
        · exact hz
        · exact hrl r hr
      · cases h3
    · cases h3
theorem Rel.buildSlice (R : Rel P nt n0 w0 π0 U s a w β τ π) {t e : TypeId} {n z : Nat} {Xs : Array (Nat × Operand)} {zs : List AV} {xs : List Opd} (ht : P.underlying t = some (.slice e)) (hzv : zeroOf P e = some zs) (hz : szOf P e = some z)
    (hxs : Xs.toList.mapM (fun p => cOpd p.2) = some xs) (hok : (n * z ≤ 16777216 && 0 < z && zs.length == z && Xs.toList.map (·.1) == List.range n) = true) {id : Nat} (hid : ¬ U id) {K : SV → S → Prop} (h : aop (Pure P) id (.bsl e z xs) K s) :
    ∃ v y s' w' τ' π', (Instr.buildSlice t n (Xs.map fun (i, x) => (i, a.eval x))).run P w = .ok y w' ∧ RV β τ' w' π' v y ∧ v.inU (also U id) ∧ K v s' ∧ Rel P nt n0 w0 π0 (also U id) s' a w' β τ' π' := by
  simp only [aop] at h
  obtain ⟨rows, hrows, hK⟩ := withV_inv h
  simp only [Bool.and_eq_true, decide_eq_true_eq, beq_iff_eq] at hok
  obtain ⟨⟨⟨hn, hz0⟩, hzl⟩, hidx⟩ := hok
  obtain ⟨zv, hzr, hzd, hzsc⟩ := zero_run (P := P) (w := w) (π := π) hzv
  have hXl : Xs.toList.length = n := by have := congrArg List.length hidx; simpa using this
  have hzsz : zv.cells.size = z := by have := hzd.1; simp at this; omega
  -- the row of zeros that is filled
  have hinit : DVs w π ([] ++ (List.range (n * z)).map fun i => zs.getD (i % z) default) ((Array.range (n * z)).map (zv.cells[· % zv.cells.size]!)).toList := by
    refine ⟨by simp, fun i c u hc hu => ?_⟩
    simp only [List.nil_append, List.getElem?_map, Array.toList_map, Array.toList_range] at hc hu
    by_cases hi : i < n * z
    · have hm : i % z < z := Nat.mod_lt _ hz0
      rw [List.getElem?_range hi] at hc hu
      simp only [Option.map_some, Option.some.injEq] at hc hu
      subst hc; subst hu
      have h1 : zs[i % z]? = some (zs.getD (i % z) default) := by
        rw [List.getD_eq_getElem?_getD, List.getElem?_eq_getElem (by omega)]; simp
      have h2 : zv.cells.toList[i % z]? = some (zv.cells[i % zv.cells.size]!) := by
        rw [hzsz]
        have : i % z < zv.cells.size := by omega
        simp [this]
      exact hzd.2 _ _ _ h1 h2
    · rw [List.getElem?_eq_none (by simp; omega)] at hc
      simp at hc
  have hinits : ∀ c ∈ ([] : List AV) ++ (List.range (n * z)).map fun i => zs.getD (i % z) default, c.scalar = true := by
    intro c hc
    simp only [List.nil_append, List.mem_map, List.mem_range] at hc
    obtain ⟨i, hi, rfl⟩ := hc
    have hm : i % z < zs.length := by rw [hzl]; exact Nat.mod_lt _ hz0
    rw [List.getD_eq_getElem?_getD, List.getElem?_eq_getElem hm]
    exact hzsc _ (List.getElem_mem hm)
  obtain ⟨us', hf, hd, hs, hlen, hrl⟩ := R.fillRows z Xs.toList xs rows 0 [] _ _ (by rw [hidx, hXl]; simp) hxs hrows hinit hinits (by simp) (by simp [hXl])
  simp only [List.nil_append] at hd hs
  have hrn : rows.length = n := by rw [hlen, hXl]
  have husz : us'.size = n * z := by have := hd.1; rw [flat_len hrl, hrn] at this; simpa using this.symm
  obtain ⟨R', hdv⟩ := R.newRow (xs := rows) (z := z) (cap := n) (cs := us') e hrl (by omega) (by rw [hrn]; omega) (fun i x v hx hv => hd.2 i x v hx (by simpa using hv)) (fun r hr x hx => hs x (List.mem_flatten.2 ⟨r, hr, hx⟩))
  obtain ⟨i, hi, hisz⟩ : ∃ i, P.info? e = some i ∧ i.size = z := by
    simp only [szOf, Option.map_eq_some_iff] at hz
    obtain ⟨i, hi, hiz⟩ := hz
    exact ⟨i, hi, hiz⟩
  have hsz0 : n0.n ≤ w.heap.size := Nat.le_trans R.n0le R.below.size
  have R2 := R'.addTok (v := .slice (some ⟨w.heap.size, 0, none⟩) rows.length n) hid (by
      refine .inr ⟨w.heap.size, rows.length, n, us', i, rfl, hsz0, heap_alloc_new w _, by omega, ?_, hi, by rw [hisz]; exact husz, fun o ho hc => ?_⟩
      · have := Nat.le_mul_of_pos_right n hz0
        simp only [maxLen]; omega
      · rw [hisz] at ho
        rcases hc with h | ⟨_, h⟩
        · have := R.prot _ _ h; omega
        · omega)
    (fun q e' B hq hB hB' => by
      have h1 := ((R.live q e' hq).2.block hB).2
      simp [ownB] at hB'
      omega)
    (fun b x hb hB' => by
      obtain ⟨_, _, ⟨cur, el, hh, _⟩, _⟩ := R.boxes b x hb
      have := heap_lt hh
      simp [ownB] at hB'
      omega)
  refine ⟨.dat (.sl rows) (some id), _, _, _, _, _, ?_, ⟨hdv, fun t ht => by cases ht; rw [upd_same]⟩, .inr rfl, hK, R2⟩
  have hlim : ¬ (n * z > 16777216) := by omega
  have htl : (Xs.map fun (i, x) => (i, a.eval x)).toList = Xs.toList.map fun p => (p.1, a.eval p.2) := by simp
  by_cases hnz : n * z = 0
  · have hn0 : n = 0 := by
      rcases Nat.mul_eq_zero.1 hnz with h | h
      · exact h
      · omega
    subst hn0
    have hX : Xs.toList = [] := List.eq_nil_of_length_eq_zero hXl
    have hus : us' = #[] := by
      apply Array.eq_empty_of_size_eq_zero
      rw [husz]; simp
    have hX' : Xs = #[] := by cases Xs; simp at hX; subst hX; rfl
    subst hX' hus
    simp [Instr.buildSlice, run_underlying ht, run_size (w := w) hz, Instr.fill, Go.newRow, hrn]
    congr 2
    exact Array.eq_empty_of_size_eq_zero (by simp)
  · simp only [Instr.buildSlice, Sem.run_bind, run_underlying ht, Result.andThen_ok, run_size (w := w) hz]
    rw [if_neg (by simpa using hlim)]
    simp only [hnz, if_false, Sem.run_bind, Sem.run_pure, Result.andThen_ok, hzr, htl, hf, Go.newRow, run_newObj, hrn]
    rfl
theorem DV.news {ys : List (List AV)} {B off m c : Nat} {z : Nat} (h : DV w π (.sl ys) (.slice (some ⟨B, off, none⟩) m c)) (hz : ∀ r ∈ ys, r.length = z) :
    m = ys.length ∧ ∃ news : List Value, news.length = m * z ∧ (∀ j u, news[j]? = some u → w.cell? ((⟨B, off, none⟩ : Addr).add j) = some u) ∧ (∀ u ∈ news, u.oneCell' = true) ∧ DVs w π ys.flatten news ∧ ∀ r ∈ ys, ∀ x ∈ r, x.scalar = true := by
  cases h with
  | sl0 _ => exact ⟨rfl, [], by simp, by simp, by simp, ⟨rfl, by simp⟩, by simp⟩
  | sl _ _ _ cap z' f h1 h2 h3 h4 h5 h6 =>
    refine ⟨rfl, ?_⟩
    have hfl := flat_len hz
    -- every place of the row is some element's
    have hat : ∀ q, q < ys.length * z → ∃ (i j : Nat) (r : List AV) (x : AV), ys[i]? = some r ∧ r[j]? = some x ∧ q = i * z + j ∧ ys.flatten[q]? = some x ∧ z' = z := by
      intro q hq
      have hz0 : 0 < z := by
        rcases Nat.eq_zero_or_pos z with e | e
        · subst e; simp at hq
        · exact e
      have hi : q / z < ys.length := by rw [Nat.div_lt_iff_lt_mul hz0]; exact hq
      have hr := List.getElem?_eq_getElem hi
      have hrl := hz _ (List.getElem_mem hi)
      have hj : q % z < (ys[q / z]).length := by rw [hrl]; exact Nat.mod_lt _ hz0
      have hx := List.getElem?_eq_getElem hj
      have hq' : q / z * z + q % z = q := by rw [Nat.mul_comm]; exact Nat.div_add_mod q z
      refine ⟨q / z, q % z, _, _, hr, hx, hq'.symm, ?_, by rw [← h2 _ _ hr, hrl]⟩
      have := flat_get hz hr hx
      rwa [hq'] at this
    refine ⟨(List.range (ys.length * z)).map fun q => f (q / z) (q % z), by simp, ?_, ?_, ⟨by simp [hfl], ?_⟩, fun r hr x hx => ?_⟩
    · intro q u hu
      have hq : q < ys.length * z := by
        rcases Nat.lt_or_ge q (ys.length * z) with h' | h'
        · exact h'
        · rw [List.getElem?_eq_none (by simp; omega)] at hu; cases hu
      obtain ⟨i, j, r, x, hr, hx, he, _, hzz⟩ := hat q hq
      subst hzz
      have hz0 : 0 < z' := by
        rcases Nat.eq_zero_or_pos z' with e | e
        · subst e; simp at hq
        · exact e
      have hjz : j < z' := by
        rw [← h2 _ _ hr]
        rcases Nat.lt_or_ge j r.length with h' | h'
        · exact h'
        · rw [List.getElem?_eq_none h'] at hx; cases hx
      have hdv : q / z' = i := by rw [he, Nat.mul_comm, Nat.mul_add_div hz0, Nat.div_eq_of_lt hjz, Nat.add_zero]
      have hmd : q % z' = j := by rw [he, Nat.mul_comm, Nat.mul_add_mod, Nat.mod_eq_of_lt hjz]
      simp only [List.getElem?_map, List.getElem?_range hq, Option.map_some, Option.some.injEq] at hu
      subst hu
      rw [addr_add, hdv, hmd, he, ← Nat.add_assoc]
      exact h5 i j r x hr hx
    · intro u hu
      simp only [List.mem_map, List.mem_range] at hu
      obtain ⟨q, hq, rfl⟩ := hu
      obtain ⟨i, j, r, x, hr, hx, he, _, hzz⟩ := hat q hq
      subst hzz
      have hz0 : 0 < z' := by
        rcases Nat.eq_zero_or_pos z' with e | e
        · subst e; simp at hq
        · exact e
      have hjz : j < z' := by
        rw [← h2 _ _ hr]
        rcases Nat.lt_or_ge j r.length with h' | h'
        · exact h'
        · rw [List.getElem?_eq_none h'] at hx; cases hx
      have hdv : q / z' = i := by rw [he, Nat.mul_comm, Nat.mul_add_div hz0, Nat.div_eq_of_lt hjz, Nat.add_zero]
      have hmd : q % z' = j := by rw [he, Nat.mul_comm, Nat.mul_add_mod, Nat.mod_eq_of_lt hjz]
      rw [hdv, hmd]
      exact (h6 i j r x hr hx).oneCell (h3 i j r x hr hx)
    · intro q x u hx hu
      have hq : q < ys.length * z := by
        rcases Nat.lt_or_ge q (ys.length * z) with h' | h'
        · exact h'
        · rw [List.getElem?_eq_none (by rw [hfl]; omega)] at hx; cases hx
      obtain ⟨i, j, r, x', hr, hx', he, hfx, hzz⟩ := hat q hq
      subst hzz
      have hxx : x = x' := by rw [hx] at hfx; exact Option.some.inj hfx
      subst hxx
      have hz0 : 0 < z' := by
        rcases Nat.eq_zero_or_pos z' with e | e
        · subst e; simp at hq
        · exact e
      have hjz : j < z' := by
        rw [← h2 _ _ hr]
        rcases Nat.lt_or_ge j r.length with h' | h'
        · exact h'
        · rw [List.getElem?_eq_none h'] at hx'; cases hx'
      have hdv : q / z' = i := by rw [he, Nat.mul_comm, Nat.mul_add_div hz0, Nat.div_eq_of_lt hjz, Nat.add_zero]
      have hmd : q % z' = j := by rw [he, Nat.mul_comm, Nat.mul_add_mod, Nat.mod_eq_of_lt hjz]
      simp only [List.getElem?_map, List.getElem?_range hq, Option.map_some, Option.some.injEq] at hu
      subst hu
      rw [hdv, hmd]
      exact h6 i j r x hr hx'
    · obtain ⟨i, hi⟩ := List.mem_iff_getElem?.1 hr
      obtain ⟨j, hj⟩ := List.mem_iff_getElem?.1 hx
      exact h3 i j r x hi hj
theorem Rel.blocks_lt (R : Rel P nt n0 w0 π0 U s a w β τ π) {b : Nat} {x : Box} (h : lkB b s.boxes = some x) : β b < w.heap.size := by
  obtain ⟨_, _, ⟨cur, el, hh, _⟩, _⟩ := R.boxes b x h
  exact heap_lt hh
theorem Rel.grown (R : Rel P nt n0 w0 π0 U s a w β τ π) {id e z old : Nat} {i : TypeInfo} {zv : Value} (hi : P.info? e = some i) (hz : i.zero = some zv) (hsz : i.size = z) (hzs : zv.cells.size = z) (hz0 : 0 < z) (hid : ¬ U id) {zs : List (List AV)} {vs : List Value} (hlv : vs.length = zs.length * z) (hd : DVs w π zs.flatten vs) (hrow : ∀ r ∈ zs, r.length = z) (hsc : ∀ r ∈ zs, ∀ x ∈ r, x.scalar = true)
    (h63 : zs.length ≤ maxLen) {cs : Array Value} (hcs : cs = vs.toArray ++ Builtin.zeroCells zv.cells (grownCap w zs.length old e - zs.length)) :
    ∃ π', Rel P nt n0 w0 π0 (also U id) { s with live := (id, e) :: s.live } a (w.drew.alloc (.cells cs e)) β (upd τ id (.slice (some ⟨w.heap.size, 0, none⟩) zs.length (grownCap w zs.length old e))) π' ∧
      DV (w.drew.alloc (.cells cs e)) π' (.sl zs) (.slice (some ⟨w.heap.size, 0, none⟩) zs.length (grownCap w zs.length old e)) := by
  have hge := grownCap_ge w zs.length old e
  have hcm : grownCap w zs.length old e ≤ maxLen := grownCap_le_maxLen w zs.length old e h63
  have hsize : cs.size = grownCap w zs.length old e * z := by
    rw [hcs]
    simp only [Array.size_append, List.size_toArray, size_zeroCells, hzs, hlv, ← Nat.add_mul]
    congr 1; omega
  have hsz0 : n0.n ≤ w.heap.size := Nat.le_trans R.n0le R.below.size
  obtain ⟨R', hdv⟩ := R.draw.newRow (xs := zs) (z := z) (cap := grownCap w zs.length old e) (cs := cs) e hrow hge (by rw [hsize]; exact Nat.mul_le_mul_right _ hge)
    (fun q x v hx hv => by
      have hq : q < vs.length := by
        rw [hlv, ← flat_len hrow]
        rcases Nat.lt_or_ge q zs.flatten.length with h' | h'
        · exact h'
        · rw [List.getElem?_eq_none h'] at hx; cases hx
      rw [hcs, Array.getElem?_append_left (by simpa using hq)] at hv
      exact DV.mono (w := w) (w' := w.drew) (π := π) (fun _ _ h => h) (fun _ _ _ => rfl) (hd.2 q x v hx (by simpa using hv))) hsc
  refine ⟨_, R'.addTok hid ?_ ?_ ?_, hdv⟩
  · refine .inr ⟨w.heap.size, zs.length, grownCap w zs.length old e, cs, i, rfl, hsz0, heap_alloc_new w.drew _, hge, hcm, hi, by rw [hsz]; exact hsize, fun o ho hc => ?_⟩
    rw [hsz] at ho
    rcases hc with h | ⟨_, h⟩
    · have := R.prot _ _ h; omega
    · omega
  · intro q e' B hq hB hB'
    have h1 := ((R.live q e' hq).2.block hB).2
    simp [ownB] at hB'
    omega
  · intro b x hb hB'
    have := R.blocks_lt hb
    simp [ownB] at hB'
    omega
theorem Rel.append (R : Rel P nt n0 w0 π0 U s a w β τ π) {t e : TypeId} {i : TypeInfo} {zv : Value} {X Y : Operand} {x y : Opd} (ht : P.underlying t = some (.slice e)) (hi : P.info? e = some i) (hz : i.zero = some zv) (hsz : (0 < i.size && zv.cells.size == i.size && 0 < i.bytes) = true)
    (hx : cOpd X = some x) (hy : cOpd Y = some y) {id : Nat} (hid : ¬ U id) (ty : TypeId) {K : SV → S → Prop} (h : aop (Pure P) id (.app e i.size i.bytes x y) K s) :
    ∃ v u s' w' τ' π', (Builtin.append_ #[t, t] ty #[a.eval X, a.eval Y]).run P w = .ok u w' ∧ RV β τ' w' π' v u ∧ v.inU (also U id) ∧ K v s' ∧ Rel P nt n0 w0 π0 (also U id) s' a w' β τ' π' := by
  simp only [Bool.and_eq_true, decide_eq_true_eq, beq_iff_eq] at hsz
  obtain ⟨⟨hz0, hzs⟩, hb0⟩ := hsz
  simp only [aop] at h
  obtain ⟨p, hp, k1⟩ := withV_inv h
  obtain ⟨hr, hU⟩ := R.opd hx hp
  cases p with
  | ptr _ _ => exact k1.elim
  | rp _ => exact k1.elim
  | undef => exact k1.elim
  | vs _ _ _ _ => exact k1.elim
  | dat av q =>
    obtain ⟨xs, hxs, k2⟩ := withV_inv k1
    obtain ⟨b, hb, k3⟩ := withV_inv k2
    obtain ⟨ys, hys, hbytes, hrx, hry, k4⟩ := withV_inv k3
    obtain ⟨hdx, htag⟩ := hr
    have hdy := R.opdA hy hb
    have hsub : ∀ n, U n → also U id n := fun n h => .inl h
    -- what is appended: nil, or a slice whose cells are known
    have hnews : (a.eval Y = .slice none 0 0 ∧ ys = []) ∨ ∃ (A : Addr) (m c : Nat), a.eval Y = .slice (some A) m c ∧ m = ys.length ∧ ∃ news : List Value, news.length = m * i.size ∧ (∀ j u, news[j]? = some u → w.cell? (A.add j) = some u) ∧ (∀ u ∈ news, u.oneCell' = true) ∧ DVs w π ys.flatten news ∧ ∀ r ∈ ys, ∀ x ∈ r, x.scalar = true := by
      cases b <;> simp only [rowsOf] at hys <;> try (cases hys; done)
      · cases hys
        generalize a.eval Y = v at hdy
        cases hdy
        exact .inl ⟨rfl, rfl⟩
      · cases hys
        generalize a.eval Y = v at hdy
        cases hdy with
        | sl0 A => exact .inr ⟨A, 0, 0, rfl, rfl, [], by simp, by simp, by simp, ⟨rfl, by simp⟩, by simp⟩
        | sl _ B off cap z f h1 h2 h3 h4 h5 h6 =>
          obtain ⟨hm, hn⟩ := DV.news (.sl ys B off cap z f h1 h2 h3 h4 h5 h6) hry
          exact .inr ⟨⟨B, off, none⟩, _, cap, rfl, rfl, hn⟩
    have h63' : (xs.length + ys.length) ≤ maxLen := by
      have := Nat.le_mul_of_pos_right (xs.length + ys.length) hb0
      simp only [maxLen]; omega
    cases av <;> simp only [rowsOf] at hxs <;> try (cases hxs; done)
    case nils =>
      cases hxs
      have hvx : a.eval X = .slice none 0 0 := by generalize a.eval X = v at hdx; cases hdx; rfl
      by_cases hy0 : ys = []
      · subst hy0
        simp only [if_true] at k4
        refine ⟨.dat .nils none, .slice none 0 0, s, w, τ, π, ?_, ⟨.nils, fun t ht => by cases ht⟩, trivial, k4, R.sub hsub⟩
        rcases hnews with ⟨hyv, _⟩ | ⟨A, m, c, hyv, hm, news, hl, _⟩
        · rw [hvx, hyv]
          simp [Builtin.append_, run_underlying ht, sizeOf, typeInfo, hi, Builtin.lenOf, Builtin.firstCells]
        · simp at hm; subst hm
          rw [hvx, hyv]
          simp [Builtin.append_, run_underlying ht, sizeOf, typeInfo, hi, Builtin.lenOf, Builtin.firstCells, loadCells, loadCellsFrom]
      · simp only [hy0, if_false, List.nil_append] at k4
        rcases hnews with ⟨_, hy0'⟩ | ⟨A, m, c, hyv, rfl, news, hl, hcell, hone, hdn, hscn⟩
        · exact absurd hy0' hy0
        · have hpos : 0 < ys.length := List.length_pos_iff.2 hy0
          simp only [List.length_nil, Nat.zero_add] at hbytes h63'
          have hrun := run_append_nil (P := P) w t ty e i zv ht hi hz A ys.length c news hl hcell hpos (by simp only [maxLen] at h63'; omega) (by omega)
          obtain ⟨π', R', hdv⟩ := R.grown (old := 0) hi hz rfl hzs hz0 hid hl hdn hry hscn h63' rfl
          exact ⟨.dat (.sl ys) (some id), _, _, _, _, _, by rw [hvx, hyv]; exact hrun, ⟨hdv, fun t ht => by cases ht; rw [upd_same]⟩, .inr rfl, k4, R'⟩
    case sl l =>
      cases hxs
      cases q with
      | none => exact k4.elim
      | some q =>
        obtain ⟨hlive, hK⟩ := k4
        have hτ : a.eval X = τ q := htag q rfl
        obtain ⟨hUq, htok⟩ := R.live q e hlive
        generalize hvx : a.eval X = v at hdx hτ
        rcases htok with hnil | ⟨B, len, cap, cur, i', hsl, hB0, hh, hlc, hcm, hi', hcur, hfree⟩
        · rw [← hτ] at hnil
          subst hnil
          cases hdx
        · rw [← hτ] at hsl
          have hii : i' = i := by rw [hi] at hi'; exact (Option.some.inj hi').symm
          subst hii
          subst hsl
          have hown : ownB (τ q) = some B := by rw [← hτ]; rfl
          have hlen : len = xs.length := by cases hdx <;> rfl
          subst hlen
          obtain ⟨_, olds, hol, holds, holdone, hdo, hsco⟩ := DV.news hdx hrx
          have hcell0 : ∀ (j : Nat) (u : Value), olds[j]? = some u → cur[j]? = some u := by
            intro j u hu
            have := holds j u hu
            rw [addr_add, Nat.zero_add, cell_of_row w B j cur e (0, 0) hh] at this
            exact this
          have hrows : ∀ r ∈ xs ++ ys, r.length = i'.size := fun r hr => by
            rcases List.mem_append.1 hr with hr | hr
            · exact hrx r hr
            · exact hry r hr
          have hol' : olds.length = xs.length * i'.size := hol
          -- what is appended, whatever it is, as a list of values
          have hsplit : xs.flatten ++ ys.flatten = (xs ++ ys).flatten := by simp
          have hcurle : xs.length * i'.size ≤ cur.size := by rw [hcur]; exact Nat.mul_le_mul_right _ hlc
          have hneB : ∀ q' e', lkN q' (delN q s.live) = some e' → ownB (τ q') ≠ some B := by
            intro q' e' hq' hB'
            obtain ⟨h1, h2⟩ := lkN_delN hq'
            exact h2 (R.liveInj q' q e' e B h1 hlive hB' hown)
          have hbox : ∀ b x, lkB b s.boxes = some x → β b ≠ B := fun b x hb e' => R.liveBox q e b x hlive hb (by rw [hown, e'])
          by_cases hroom : xs.length + ys.length ≤ cap
          · -- in place
            have key : ∃ (news : List Value), news.length = ys.length * i'.size ∧ DVs w π ys.flatten news ∧ (∀ r ∈ ys, ∀ x ∈ r, x.scalar = true) ∧
                (Builtin.append_ #[t, t] ty #[.slice (some ⟨B, 0, none⟩) xs.length cap, a.eval Y]).run P w = .ok (.slice (some ⟨B, 0, none⟩) (xs.length + ys.length) cap) (w.setRow B (cur.toList.take (xs.length * i'.size) ++ news ++ cur.toList.drop (xs.length * i'.size + news.length)).toArray) := by
              rcases hnews with ⟨hyv, rfl⟩ | ⟨A, m, c, hyv, rfl, news, hl, hcell, hone, hdn, hscn⟩
              · refine ⟨[], by simp, ⟨rfl, fun i a v h => by simp at h⟩, by simp, ?_⟩
                rw [hyv]
                have hself : w.setRow B (cur.toList.take (xs.length * i'.size) ++ [] ++ cur.toList.drop (xs.length * i'.size + ([] : List Value).length)).toArray = w := by
                  have := setRow_self w B cur e (0, 0) hh
                  simpa using this
                rw [hself]
                simp at hroom
                simp [Builtin.append_, run_underlying ht, sizeOf, typeInfo, hi, Builtin.lenOf, Builtin.firstCells, hroom, storeCells]
              · refine ⟨news, hl, hdn, hscn, ?_⟩
                rw [hyv]
                exact run_append_room (P := P) w t ty e i' ht hi B xs.length cap cur hh A ys.length c news hl hcell hone hroom (by rw [hl, hcur, ← Nat.add_mul]; exact Nat.mul_le_mul_right _ hroom)
            obtain ⟨news, hl, hdn, hscn, hrun⟩ := key
            have hfit : xs.length * i'.size + news.length ≤ cur.size := by rw [hl, hcur, ← Nat.add_mul]; exact Nat.mul_le_mul_right _ hroom
            have hget := list_splice cur.toList news (xs.length * i'.size) (by simpa using hfit)
            generalize hcur' : (cur.toList.take (xs.length * i'.size) ++ news ++ cur.toList.drop (xs.length * i'.size + news.length)).toArray = cur' at hrun
            have hget' : ∀ o, cur'[o]? = if o < xs.length * i'.size then cur[o]? else if o < xs.length * i'.size + news.length then news[o - xs.length * i'.size]? else cur[o]? := by
              intro o
              rw [← hcur', List.getElem?_toArray, hget]
              simp
            have R1 := (R.delTok q).rowWrite (m := (xs.length + ys.length) * i'.size) (cur' := cur') hB0 hh (fun o ho => by
              rw [hget' o, if_pos]
              rcases Nat.lt_or_ge o (xs.length * i'.size) with h' | h'
              · exact h'
              · exact absurd ho (hfree o h')) hneB hbox
            have hh' : (w.setRow B cur').heap[B]? = some (.cells cur' e (0, 0)) := setRow_heap w _ cur _ e _ hh
            have hcsz : cur'.size = cur.size := by
              rw [← hcur']; simp; omega
            have hlive' : ∀ q' e' C, lkN q' (delN q s.live) = some e' → ownB (τ q') = some C → ownB (Value.slice (some ⟨B, 0, none⟩) (xs.length + ys.length) cap) ≠ some C := by
              intro q' e' C hq' hC hB'
              simp [ownB] at hB'
              exact hneB q' e' hq' (by rw [hC, hB'])
            have R2 := R1.addTok (id := id) (e := e) (v := .slice (some ⟨B, 0, none⟩) (xs.length + ys.length) cap) hid
              (.inr ⟨B, xs.length + ys.length, cap, cur', i', rfl, hB0, hh', hroom, hcm, hi, by rw [hcsz, hcur], fun o ho hc => by
                rcases hc with h | ⟨_, h⟩
                · exact hfree o (by rw [Nat.add_mul] at ho; omega) h
                · omega⟩) hlive' (fun b x hb hB' => hbox b x hb (by simpa [ownB] using hB'.symm))
            refine ⟨.dat (.sl (xs ++ ys)) (some id), _, _, _, _, _, hrun, ⟨?_, fun t ht => by cases ht; rw [upd_same]⟩, .inr rfl, hK, R2⟩
            -- the longer slice reads as the longer list
            have hmono : ∀ {x : AV} {v : Value}, DV w π x v → DV (w.setRow B cur') (grow π B ((xs.length + ys.length) * i'.size)) x v := fun h => h.mono (fun _ _ h => .inl h) (fun b o h => by
              by_cases e' : b = B
              · subst e'
                rw [cell_of_row _ _ _ cur' e (0, 0) hh', cell_of_row _ _ _ cur e (0, 0) hh, hget' o, if_pos]
                rcases Nat.lt_or_ge o (xs.length * i'.size) with h' | h'
                · exact h'
                · exact absurd h (hfree o h')
              · exact cell_setRow_other w _ cur' ⟨b, o, none⟩ e')
            have hall : ∀ (j : Nat) (x : AV), (xs ++ ys).flatten[j]? = some x → ∃ v, cur'[j]? = some v ∧ DV w π x v := by
              intro j x hx
              rw [← hsplit] at hx
              rw [hget' j]
              by_cases hj : j < xs.length * i'.size
              · rw [if_pos hj]
                rw [List.getElem?_append_left (by rw [flat_len hrx]; exact hj)] at hx
                obtain ⟨v, hv, hd⟩ := hdo.get hx
                exact ⟨v, hcell0 j v hv, hd⟩
              · rw [if_neg hj]
                rw [List.getElem?_append_right (by rw [flat_len hrx]; omega), flat_len hrx] at hx
                obtain ⟨v, hv, hd⟩ := hdn.get hx
                have : j - xs.length * i'.size < news.length := by
                  rcases Nat.lt_or_ge (j - xs.length * i'.size) news.length with h' | h'
                  · exact h'
                  · rw [List.getElem?_eq_none h'] at hv; cases hv
                rw [if_pos (by omega)]
                exact ⟨v, hv, hd⟩
            have hxyl : xs.length + ys.length = (xs ++ ys).length := by simp
            rw [hxyl]
            refine .sl (xs ++ ys) B 0 cap i'.size (fun i j => cur'.getD (i * i'.size + j) undef) (by simpa using hroom) (fun i r hr => hrows r (List.mem_of_getElem? hr)) (fun i j r x hr hx => ?_) (fun i j r x hr hx => ?_) (fun i j r x hr hx => ?_) (fun i j r x hr hx => ?_)
            · rcases List.mem_append.1 (List.mem_of_getElem? hr) with hr' | hr'
              · exact hsco r hr' x (List.mem_of_getElem? hx)
              · exact hscn r hr' x (List.mem_of_getElem? hx)
            · refine .inr ⟨rfl, ?_⟩
              have hf := flat_get hrows hr hx
              rcases Nat.lt_or_ge (i * i'.size + j) ((xs ++ ys).length * i'.size) with h' | h'
              · omega
              · rw [List.getElem?_eq_none (by rw [flat_len hrows]; exact h')] at hf; cases hf
            · obtain ⟨v, hv, hd⟩ := hall _ x (flat_get hrows hr hx)
              rw [Nat.zero_add, cell_of_row _ _ _ cur' e (0, 0) hh', hv]
              simp [hv]
            · obtain ⟨v, hv, hd⟩ := hall _ x (flat_get hrows hr hx)
              simp only [Array.getD_eq_getD_getElem?, hv, Option.getD_some]
              have hmd := hmono hd
              rw [hxyl] at hmd
              exact hmd
          · -- a new row
            rcases hnews with ⟨hyv, rfl⟩ | ⟨A, m, c, hyv, rfl, news, hl, hcell, hone, hdn, hscn⟩
            · simp at hroom; omega
            · have hrun := run_append_grow (P := P) w t ty e i' zv ht hi hz ⟨B, 0, none⟩ xs.length cap olds hol holds A ys.length c news hl hcell (by omega) (by simp only [maxLen] at h63'; omega) (growslice_fits (by omega) hbytes)
              have hxyl : xs.length + ys.length = (xs ++ ys).length := by simp
              have hlv : (olds ++ news).length = (xs ++ ys).length * i'.size := by simp [hol, hl, Nat.add_mul]
              have hdv : DVs w π (xs ++ ys).flatten (olds ++ news) := by rw [← hsplit]; exact hdo.append hdn
              have hscxy : ∀ r ∈ xs ++ ys, ∀ x ∈ r, x.scalar = true := fun r hr => by
                rcases List.mem_append.1 hr with hr | hr
                · exact hsco r hr
                · exact hscn r hr
              obtain ⟨π', R', hd'⟩ := (R.delTok q).grown (old := cap) hi hz rfl hzs hz0 hid hlv hdv hrows hscxy (by rw [← hxyl]; exact h63') rfl
              rw [hyv]
              rw [hxyl] at hrun
              refine ⟨.dat (.sl (xs ++ ys)) (some id), _, _, _, upd τ id (.slice (some ⟨w.heap.size, 0, none⟩) (xs ++ ys).length (grownCap w (xs ++ ys).length cap e)), π', hrun, ⟨?_, fun t ht => by cases ht; rw [upd_same]⟩, .inr rfl, hK, ?_⟩
              · have e1 : olds.toArray ++ news.toArray = (olds ++ news).toArray := by simp
                rw [e1]; exact hd'
              · have e1 : olds.toArray ++ news.toArray = (olds ++ news).toArray := by simp
                rw [e1]; exact R'
end
end Go.Eng
namespace Go.Eng
set_option linter.unusedVariables false
set_option linter.unusedSimpArgs false
set_option linter.unnecessarySimpa false
open Go
open Go.RowKit (Below)
set_option linter.unusedVariables false
def Val (w : World) (π : Nat → Nat → Prop) (P : Program) (t : TypeId) (as : List AV) (v : Value) : Prop :=
  if aggB P t then ∃ xs : Array Value, v = .agg xs ∧ DVs w π as xs.toList ∧ ∀ a ∈ as, a.scalar = true
  else ∃ a, as = [a] ∧ DV w π a v
section
variable {P : Program} {w : World} {π : Nat → Nat → Prop}
theorem cellsEq_append : ∀ {ks ls : List CK} {as bs cs ds : List AV} {e : Bool}, ks.length = as.length → as.length = bs.length → cellsEq (ks ++ ls) (as ++ cs) (bs ++ ds) = some e → ∃ e1 e2, cellsEq ks as bs = some e1 ∧ cellsEq ls cs ds = some e2 ∧ e = (e1 && e2)
  | [], ls, [], [], cs, ds, e, _, _, h => ⟨true, e, rfl, h, rfl⟩
  | [], ls, [], b :: bs, _, _, _, _, h, _ => by simp at h
  | [], ls, a :: as, _, _, _, _, h, _, _ => by simp at h
  | k :: ks, ls, [], _, _, _, _, h, _, _ => by simp at h
  | k :: ks, ls, a :: as, [], _, _, _, _, h, _ => by simp at h
  | k :: ks, ls, a :: as, b :: bs, cs, ds, e, hk, hl, h => by
    simp only [List.cons_append, cellsEq] at h
    split at h
    · rename_i x y hx hy
      cases h
      obtain ⟨e1, e2, h1, h2, h3⟩ := cellsEq_append (by simpa using hk) (by simpa using hl) hy
      exact ⟨x && e1, e2, by simp [cellsEq, hx, h1], h2, by rw [h3, Bool.and_assoc]⟩
    · cases h
theorem part_Val {t : TypeId} {z : Nat} (hz : szOf P t = some z) {d : TypeDesc} (hu : P.underlying t = some d) (hone : aggB P t = false → z = 1) {as : List AV} {xs : Array Value} (hd : DVs w π as xs.toList) (hs : ∀ a ∈ as, a.scalar = true) {off : Nat} (hle : off + z ≤ as.length) :
    ∃ v, (part t xs off).run P w = .ok v w ∧ Val w π P t ((as.drop off).take z) v := by
  have h1 := run_agg (P := P) (w := w) hu
  have h2 := run_size (P := P) (w := w) hz
  have hl : xs.size = as.length := by have := hd.1; simp at this; omega
  cases hg : aggB P t with
  | true =>
    refine ⟨.agg (xs.extract off (off + z)), by simp [part, h1, hg, h2], ?_⟩
    unfold Val
    rw [if_pos hg]
    refine ⟨_, rfl, ⟨by simp; omega, fun i a v ha hv => ?_⟩, fun a ha => hs a (List.mem_of_mem_drop (List.mem_of_mem_take ha))⟩
    rw [List.getElem?_take] at ha
    split at ha
    · rename_i hi
      rw [List.getElem?_drop] at ha
      refine hd.2 (off + i) a v ha ?_
      have : xs.toList[off + i]? = (xs.extract off (off + z)).toList[i]? := by
        simp only [Array.getElem?_toList, Array.getElem?_extract]
        rw [if_pos (by omega)]
      rw [this]; exact hv
    · cases ha
  | false =>
    have hz1 := hone hg
    subst hz1
    have hlt : off < xs.size := by omega
    refine ⟨xs[off], by simp [part, h1, hg, hlt], ?_⟩
    unfold Val
    rw [if_neg (by simp [hg])]
    have hoff : off < as.length := by omega
    refine ⟨as[off], ?_, hd.2 off _ _ (List.getElem?_eq_getElem hoff) (by simp [hlt])⟩
    rw [List.drop_eq_getElem_cons hoff]
    rfl
theorem plainK_under {d t : Nat} {ks : List CK} (h : plainK P d t = some ks) : ∃ u, P.underlying t = some u ∧ (aggB P t = false → ks.length = 1) := by
  cases d with
  | zero => simp [plainK] at h
  | succ d =>
    simp only [plainK] at h
    split at h <;> first | (rename_i hu; cases h; exact ⟨_, hu, fun _ => rfl⟩) | skip
    · rename_i fs hu; exact ⟨_, hu, fun hg => by simp [aggB, hu] at hg⟩
    · rename_i k e hu; exact ⟨_, hu, fun hg => by simp [aggB, hu] at hg⟩
    · cases h
theorem cellsEq_one {k : CK} {a b : AV} {e : Bool} (h : cellsEq [k] [a] [b] = some e) : cellEq k a b = some e := by
  simp only [cellsEq] at h
  split at h
  · rename_i x y hx hy; cases h; cases hy; simp [hx]
  · cases h
theorem cellsEq_len : ∀ {ks : List CK} {as bs : List AV} {e : Bool}, cellsEq ks as bs = some e → ks.length = as.length ∧ as.length = bs.length
  | [], [], [], e, h => ⟨rfl, rfl⟩
  | [], [], b :: bs, _, h => by simp [cellsEq] at h
  | [], a :: as, _, _, h => by simp [cellsEq] at h
  | k :: ks, [], _, _, h => by simp [cellsEq] at h
  | k :: ks, a :: as, [], _, h => by simp [cellsEq] at h
  | k :: ks, a :: as, b :: bs, e, h => by
    simp only [cellsEq] at h
    split at h
    · rename_i x y hx hy
      obtain ⟨h1, h2⟩ := cellsEq_len hy
      simp [h1, h2]
    · cases h
theorem eq_run : ∀ (d : Nat) (t : TypeId) (ks : List CK), plainK P d t = some ks → ∀ (D : Nat), d ≤ D → ∀ (as bs : List AV) (x y : Value) (e : Bool), Val w π P t as x → Val w π P t bs y → cellsEq ks as bs = some e →
    (Op.equalIn D t x y).run P w = .ok e w := by
  intro d
  induction d with
  | zero => intro t ks h; simp [plainK] at h
  | succ d ih =>
    intro t ks h D hD as bs x y e hx hy he
    obtain ⟨D, rfl⟩ : ∃ D', D = D' + 1 := ⟨D - 1, by omega⟩
    obtain ⟨hla, hlb⟩ := cellsEq_len he
    simp only [plainK] at h
    -- the fields, one behind the other
    have hfields : ∀ (fs : List Field) (off : Nat) (ls : List CK), tileK P (plainK P d) fs off = some ls → ∀ (xs ys : Array Value) (e : Bool), DVs w π as xs.toList → (∀ a ∈ as, a.scalar = true) → DVs w π bs ys.toList → (∀ a ∈ bs, a.scalar = true) → cellsEq ls (as.drop off) (bs.drop off) = some e → (Op.eqFields D xs ys fs).run P w = .ok e w := by
      intro fs
      induction fs with
      | nil =>
        intro off ls ht xs ys e h1 h2 h3 h4 he
        simp [tileK] at ht
        subst ht
        obtain ⟨k1, k2⟩ := cellsEq_len he
        have n1 : as.drop off = [] := List.eq_nil_of_length_eq_zero k1.symm
        have n2 : bs.drop off = [] := List.eq_nil_of_length_eq_zero (by rw [← k2, ← k1]; rfl)
        rw [n1, n2] at he
        simp [cellsEq] at he
        subst he
        rfl
      | cons f fs ihf =>
        intro off ls ht xs ys e h1 h2 h3 h4 he
        simp only [tileK] at ht
        split at ht
        · cases ht
        · rename_i hname
          split at ht
          · rename_i ms hz
            split at ht
            · rename_i hsz
              obtain ⟨hsz, hpos⟩ := hsz
              simp only [Option.map_eq_some_iff] at ht
              obtain ⟨ls', ht, rfl⟩ := ht
              obtain ⟨k1, k2⟩ := cellsEq_len he
              simp only [List.length_append, List.length_drop] at k1 k2
              obtain ⟨u, hu, hone⟩ := plainK_under hz
              have hoff : f.offset = off := by
                have := not_or.1 hname
                simpa using this.2
              have hnm : f.name ≠ "_" := (not_or.1 hname).1
              have hma : off + ms.length ≤ as.length := by omega
              obtain ⟨va, hva, hVa⟩ := part_Val (P := P) hsz hu hone h1 h2 (off := off) (by omega)
              obtain ⟨vb, hvb, hVb⟩ := part_Val (P := P) hsz hu hone h3 h4 (off := off) (by omega)
              have hsplit : ∀ l : List AV, l.drop off = (l.drop off).take ms.length ++ l.drop (off + ms.length) := by
                intro l
                rw [← List.drop_drop, List.take_append_drop]
              rw [hsplit as, hsplit bs] at he
              obtain ⟨e1, e2, he1, he2, rfl⟩ := cellsEq_append (by simp; omega) (by simp; omega) he
              have hr := ih f.type ms hz D (by omega) _ _ va vb e1 hVa hVb he1
              have hrest := ihf (off + ms.length) ls' ht xs ys e2 h1 h2 h3 h4 he2
              simp only [Op.eqFields, if_pos hnm, hoff, Sem.run_bind, hva, hvb, Result.andThen_ok, hr]
              cases e1
              · simp
              · simpa using hrest
            · cases ht
          · cases ht
    have hscalar : aggB P t = false → ∃ a b, as = [a] ∧ bs = [b] ∧ DV w π a x ∧ DV w π b y := by
      intro hg
      simp only [Val, hg, Bool.false_eq_true, if_false] at hx hy
      obtain ⟨a, rfl, ha⟩ := hx
      obtain ⟨b, rfl, hb⟩ := hy
      exact ⟨a, b, rfl, rfl, ha, hb⟩
    split at h
    · rename_i hu
      cases h
      obtain ⟨a, b, rfl, rfl, ha, hb⟩ := hscalar (by simp [aggB, hu])
      have hc := cellsEq_one he
      cases a <;> cases b <;> simp only [cellEq] at hc <;> try (cases hc; done)
      cases ha; cases hb; cases hc
      exact run_equalIn_bool' w D t _ _ hu
    · rename_i k hu
      cases h
      obtain ⟨a, b, rfl, rfl, ha, hb⟩ := hscalar (by simp [aggB, hu])
      have hc := cellsEq_one he
      cases a <;> cases b <;> simp only [cellEq] at hc <;> try (cases hc; done)
      split at hc
      · rename_i hk
        subst hk
        cases ha; cases hb; cases hc
        exact run_equalIn_int w D t _ k _ _ hu
      · cases hc
    · rename_i k hu
      cases h
      obtain ⟨a, b, rfl, rfl, ha, hb⟩ := hscalar (by simp [aggB, hu])
      have hc := cellsEq_one he
      cases a <;> cases b <;> simp only [cellEq] at hc <;> try (cases hc; done)
      split at hc
      · rename_i hk
        subst hk
        cases ha; cases hb; cases hc
        simp [Op.equalIn, run_underlying hu, Op.floatEq]
      · cases hc
    · rename_i hu
      cases h
      obtain ⟨a, b, rfl, rfl, ha, hb⟩ := hscalar (by simp [aggB, hu])
      have hc := cellsEq_one he
      cases a <;> cases b <;> simp only [cellEq] at hc <;> try (cases hc; done)
      cases ha; cases hb; cases hc
      simp [Op.equalIn, run_underlying hu]
    · rename_i fs hu
      split at h
      · cases h
      · rename_i hst
        simp only [Val, aggB, hu, if_true] at hx hy
        obtain ⟨xs, rfl, hxd, hxs⟩ := hx
        obtain ⟨ys, rfl, hyd, hys⟩ := hy
        have hfo : P.fieldsOf t = fs := by simp [Program.fieldsOf, hu]
        rw [run_equalIn_struct w D t xs ys (by rw [hfo]; exact hu) (by simpa using hst), hfo]
        exact hfields fs.toList 0 ks h xs ys e hxd hxs hyd hys (by simpa using he)
    · rename_i k el hu
      split at h
      · rename_i ms hz
        split at h
        · rename_i hsz
          cases h
          simp only [Val, aggB, hu, if_true] at hx hy
          obtain ⟨xs, rfl, hxd, hxs⟩ := hx
          obtain ⟨ys, rfl, hyd, hys⟩ := hy
          obtain ⟨i, hi⟩ : ∃ i, P.info? el = some i := by
            simp only [szOf, Option.map_eq_some_iff] at hsz
            obtain ⟨i, hi, _⟩ := hsz
            exact ⟨i, hi⟩
          rw [run_equalIn_array w D xs ys hu hi]
          obtain ⟨u, hue, hone⟩ := plainK_under hz
          have hcz : P.cellsOf el = ms.length := by
            have := hsz
            simp only [szOf] at this
            simp [Program.cellsOf, this]
          rw [hcz]
          have hlk : as.length = k * ms.length := by rw [← hla]; simp
          -- item by item
          have hitems : ∀ (m off : Nat), off + m = k → ∀ e, cellsEq (List.replicate m ms).flatten (as.drop (off * ms.length)) (bs.drop (off * ms.length)) = some e → (Op.eqItems D el ms.length xs ys ((List.range m).map (· + off))).run P w = .ok e w := by
            intro m
            induction m with
            | zero =>
              intro off hoff e2 he2
              have hoff' : off = k := by omega
              rw [hoff'] at he2
              have n1 : as.drop (k * ms.length) = [] := List.drop_eq_nil_of_le (by omega)
              have n2 : bs.drop (k * ms.length) = [] := List.drop_eq_nil_of_le (by omega)
              rw [n1, n2] at he2
              simp [cellsEq] at he2
              subst he2
              rfl
            | succ m ihm =>
              intro off hoff e he
              have hle : off * ms.length + ms.length ≤ k * ms.length := by
                have : (off + 1) * ms.length ≤ k * ms.length := Nat.mul_le_mul_right ms.length (by omega)
                rw [Nat.add_mul] at this; omega
              obtain ⟨va, hva, hVa⟩ := part_Val (P := P) hsz hue hone hxd hxs (off := off * ms.length) (by omega)
              obtain ⟨vb, hvb, hVb⟩ := part_Val (P := P) hsz hue hone hyd hys (off := off * ms.length) (by omega)
              have hsplit : ∀ l : List AV, l.drop (off * ms.length) = (l.drop (off * ms.length)).take ms.length ++ l.drop ((off + 1) * ms.length) := by
                intro l
                rw [show (off + 1) * ms.length = off * ms.length + ms.length by rw [Nat.add_mul]; omega, ← List.drop_drop, List.take_append_drop]
              rw [hsplit as, hsplit bs, List.replicate_succ, List.flatten_cons] at he
              obtain ⟨e1, e2, he1, he2, rfl⟩ := cellsEq_append (by simp; omega) (by simp; omega) he
              have hr := ih el ms hz D (by omega) _ _ va vb e1 hVa hVb he1
              have hrest := ihm (off + 1) (by omega) e2 he2
              have hl : (List.range (m + 1)).map (· + off) = off :: (List.range m).map (· + (off + 1)) := by
                rw [List.range_succ_eq_map]
                simp
                intro q _
                omega
              rw [hl]
              simp only [Op.eqItems, Sem.run_bind, hva, hvb, Result.andThen_ok, hr]
              cases e1
              · simp
              · simpa using hrest
          have := hitems k 0 (by omega) e (by simpa using he)
          simpa using this
        · cases h
      · cases h
    · cases h
end
end Go.Eng
