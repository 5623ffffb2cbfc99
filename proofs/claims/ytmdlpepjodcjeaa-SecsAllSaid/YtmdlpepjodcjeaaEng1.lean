/- ENGINE, PART 1: abstract values, compiled code, the abstract weakest precondition. -/
import Derived.WalkKit
namespace Go.Eng
set_option linter.unusedVariables false
set_option linter.unusedSimpArgs false
set_option linter.unnecessarySimpa false
open Go

/-- A value without addresses: a slice stands as the list of its elements (each a list of cells). -/
inductive AV where
  | bool (b : Bool)
  | int (k : IntKind) (n : Int)
  | float (k : FloatKind) (n : Nat)
  | str (s : ByteArray)
  | nilp
  | nils
  | sl (xs : List (List AV))
  | fn (f : Fn) (first caps : List AV)
  | nilfn
  | iface (t : Nat) (v : AV)
  | nilif
  | agg (cs : List AV)
  | tup (vs : List AV)
  | ref (cs : List AV)
  deriving Inhabited

inductive SV where
  | dat (a : AV) (q : Option Nat)
  | ptr (b off : Nat)
  | rp (cs : List AV)
  | undef
  deriving Inhabited

structure Box where
  cells : List AV
  tags : List (Nat × Nat)
  deriving Inhabited

structure S where
  slots : List (Nat × SV)
  boxes : List (Nat × Box)
  live : List (Nat × Nat)
  nx : Nat
  deriving Inhabited

inductive Opd where
  | t (n : Nat)
  | k (v : AV)
  deriving Inhabited

/-- what a cell of a plain type holds -/
inductive CK where
  | b | i | f | s
  deriving DecidableEq, Inhabited

/-- what the language's library does by itself -/
inductive Xt where
  | fbits | ffrom | rte
  deriving DecidableEq, Inhabited

inductive COp where
  | mv (x : Opd)
  | pick (c a b : Opd)
  | alloc (cs : List AV)
  | box (x : Opd)
  | build (zs : List AV) (parts : List (Nat × Nat × Opd))
  | bsl (e z : Nat) (xs : List Opd)
  | ld (x : Opd) (sz : Option Nat)
  | st (x v : Opd) (sz : Nat)
  | fa (x : Opd) (off : Nat)
  | iaA (x i : Opd) (n z : Nat)
  | iaS (x i : Opd) (z : Nat)
  | fld (x : Opd) (off : Nat) (sz : Option Nat)
  | ixA (x i : Opd) (n z : Nat) (sz : Option Nat)
  | bin (op : BinOp) (x y : Opd)
  | eqc (ks : List CK) (neg : Bool) (x y : Opd)
  | bb (neg : Bool) (x y : Opd)
  | un (op : UnOp) (x : Opd)
  | cvII (k : IntKind) (x : Opd)
  | cvIF (k : FloatKind) (x : Opd)
  | cvFI (k : IntKind) (x : Opd)
  | cvSame (x : Opd)
  | lenS (x : Opd)
  | lenK (n : Nat)
  | app (e z bytes : Nat) (s x : Opd)
  | call (f : Nat) (args : List Opd)
  | callp (f : Nat) (args : List Opd)
  | callv (g : Opd) (args : List Opd)
  | ext (x : Opd) (i : Nat)
  | mkf (fn : Fn) (first caps : List Opd)
  | slS (z : Nat) (x : Opd) (lo hi : Option Opd)
  | nc (x : Opd)
  | mm (max : Bool) (args : List Opd)
  | xt (e : Xt) (x : Opd)
  | slA (x : Opd) (n z : Nat)
  | ixB (x i : Opd)
  deriving Inhabited

structure CO where
  dst : Option Nat
  op : COp
  g : Option (Nat × Bool)
  deriving Inhabited

inductive CCode where
  | skip
  | reg (ops : List CO)
  | seq (a b : CCode)
  | join (a b : CCode)
  | cond (c : Opd) (a b : CCode)
  | block (id : Nat) (c : CCode)
  | loop (c : CCode)
  | exit (id : Nat)
  | ret
  | rfor (g : Opd) (ps wr : List Nat) (as bd : CCode)
  | regD (ops : List CO) (bad : List (Nat × Nat))
  | scope (l : Nat) (c r : CCode)
  | label (l : Nat)
  | goto (l : Nat)
  deriving Inhabited

/-! ### values -/

def AV.cells : AV → List AV
  | .agg cs => cs
  | v => [v]

def AV.scalar : AV → Bool
  | .agg _ | .tup _ => false
  | _ => true

/-- constants -/
def ofV1 : Value → Option AV
  | .bool b => some (.bool b)
  | .int k n => some (.int k n)
  | .float k n => some (.float k n)
  | .string s => some (.str s)
  | .pointer none => some .nilp
  | .slice none 0 0 => some .nils
  | .nilFunc => some .nilfn
  | .nilIface => some .nilif
  | _ => none

def ofV : Value → Option AV
  | .agg cs => (cs.toList.mapM ofV1).map .agg
  | v => ofV1 v

def bitsA (op : BinOp) (k : IntKind) (x y : Int) : Option Int :=
  let a := BitVec.ofInt k.bits x
  let b := BitVec.ofInt k.bits y
  match op with
  | .and => some (k.wrap (a &&& b).toNat)
  | .or => some (k.wrap (a ||| b).toNat)
  | .xor => some (k.wrap (a ^^^ b).toNat)
  | .andNot => some (k.wrap (a &&& ~~~b).toNat)
  | _ => none

def intA (op : BinOp) (k : IntKind) (x y : Int) : Option AV :=
  match op with
  | .add => some (.int k (k.wrap (x + y)))
  | .sub => some (.int k (k.wrap (x - y)))
  | .mul => some (.int k (k.wrap (x * y)))
  | .quo => if y = 0 then none else some (.int k (k.wrap (x.tdiv y)))
  | .rem => if y = 0 then none else some (.int k (x.tmod y))
  | .and | .or | .xor | .andNot => (bitsA op k x y).map (.int k)
  | .eql => some (.bool (x == y))
  | .neq => some (.bool (x != y))
  | .lss => some (.bool (decide (x < y)))
  | .leq => some (.bool (decide (x ≤ y)))
  | .gtr => some (.bool (decide (x > y)))
  | .geq => some (.bool (decide (x ≥ y)))
  | _ => none

def floatA (op : BinOp) (k : FloatKind) (x y : Nat) : Option AV :=
  let c := k.format.order x y
  match op with
  | .add => (k.format.add x y).map (.float k)
  | .sub => (k.format.sub x y).map (.float k)
  | .mul => (k.format.mul x y).map (.float k)
  | .quo => (k.format.div x y).map (.float k)
  | .eql => some (.bool (c == some .eq))
  | .neq => some (.bool (c != some .eq))
  | .lss => some (.bool (c == some .lt))
  | .leq => some (.bool (c == some .lt || c == some .eq))
  | .gtr => some (.bool (c == some .gt))
  | .geq => some (.bool (c == some .gt || c == some .eq))
  | _ => none

def shiftA (op : BinOp) (k : IntKind) (x y : Int) : Option AV :=
  if y < 0 then none else
  match op with
  | .shl => some (.int k (k.wrap (x * 2 ^ min y.toNat k.bits)))
  | .shr => some (.int k (x.fdiv (2 ^ min y.toNat k.bits)))
  | _ => none

def binA (op : BinOp) (a b : AV) : Option AV :=
  match op, a, b with
  | .shl, .int k x, .int _ y => shiftA .shl k x y
  | .shr, .int k x, .int _ y => shiftA .shr k x y
  | op, .int k x, .int k' y => if k = k' then intA op k x y else none
  | op, .float k x, .float k' y => if k = k' then floatA op k x y else none
  | _, _, _ => none

def bbA (neg : Bool) : AV → AV → Option AV
  | .bool x, .bool y => some (.bool (if neg then x != y else x == y))
  | _, _ => none

def cellEq : CK → AV → AV → Option Bool
  | .b, .bool x, .bool y => some (x == y)
  | .i, .int k x, .int k' y => if k = k' then some (x == y) else none
  | .f, .float k x, .float k' y => if k = k' then some (k.format.order x y == some .eq) else none
  | .s, .str x, .str y => some (x == y)
  | _, _, _ => none

def cellsEq : List CK → List AV → List AV → Option Bool
  | [], [], [] => some true
  | k :: ks, a :: as, b :: bs => match cellEq k a b, cellsEq ks as bs with
    | some x, some y => some (x && y)
    | _, _ => none
  | _, _, _ => none

def unA (op : UnOp) (a : AV) : Option AV :=
  match op, a with
  | .neg, .int k n => some (.int k (k.wrap (0 - n)))
  | .xor, .int k n => (bitsA .xor k (if k.signed then -1 else k.max) n).map (.int k)
  | .neg, .float k b => some (.float k (Op.negFloat k b))
  | .not, .bool b => some (.bool !b)
  | _, _ => none

def cvIIA (k : IntKind) : AV → Option AV
  | .int _ n => some (.int k (k.wrap n))
  | _ => none

def cvIFA (k : FloatKind) : AV → Option AV
  | .int _ n => some (.float k (k.nearest n))
  | _ => none

def cvFIA (k : IntKind) : AV → Option AV
  | .float s b => match (s.decode b).toInt .zero with
    | some n => if k.min ≤ n ∧ n ≤ k.max then some (.int k n) else none
    | none => none
  | _ => none

/-- a float made whole, to the nearest, of two to the even one -/
def rteA (b : Nat) : Option AV :=
  match FloatKind.f64.decode b with
  | .nan _ t => if FloatKind.f64.format.quiet t = t then some (.float .f64 b) else none
  | d => some (.float .f64 (FloatKind.f64.encode (d.integral .even)))
def xtA : Xt → AV → Option AV
  | .fbits, .float .f64 b => some (.int .u64 b)
  | .ffrom, .int .u64 n => some (.float .f64 n.toNat)
  | .rte, .float .f64 b => rteA b
  | _, _ => none
/-- a row of n parts of z cells each -/
def chunkA (z : Nat) : Nat → List AV → List (List AV)
  | 0, _ => []
  | n + 1, cs => cs.take z :: chunkA z n (cs.drop z)
def byteA (s : ByteArray) (i : Int) : Option AV :=
  if 0 ≤ i ∧ i < s.size then some (.int .u8 (s[i.toNat]!).toNat) else none

def lenA : AV → Option AV
  | .nils => some (.int .i64 0)
  | .sl xs => some (.int .i64 xs.length)
  | _ => none

def mmA (mx : Bool) : AV → AV → Option AV
  | .int k x, .int _ y => some (.int k (if mx then (if y > x then y else x) else (if y < x then y else x)))
  | .float k x, .float k' y => if k = k' then match k.format.order x y with
      | none => none
      | some .lt => some (.float k (if mx then y else x))
      | some .gt => some (.float k (if mx then x else y))
      | some .eq => some (.float k (if mx then (if (k.decode x).neg then y else x) else (if (k.decode x).neg then x else y)))
    else none
  | _, _ => none

def extA : AV → Nat → Option AV
  | .tup vs, i => vs[i]?
  | _, _ => none

/-- a part of cells: one cell, or an aggregate of n -/
def partA (cs : List AV) (off : Nat) : Option Nat → Option AV
  | none => cs[off]?
  | some n => if off + n ≤ cs.length then some (.agg ((cs.drop off).take n)) else none

def fillA : List AV → List (Nat × List AV) → List AV
  | cs, [] => cs
  | cs, (off, ps) :: rest => fillA (cs.take off ++ ps ++ cs.drop (off + ps.length)) rest

/-! ### states -/

def lk : Nat → List (Nat × SV) → Option SV
  | _, [] => none
  | n, (m, v) :: r => bif n == m then some v else lk n r

def lkB : Nat → List (Nat × Box) → Option Box
  | _, [] => none
  | n, (m, v) :: r => bif n == m then some v else lkB n r

def lkN : Nat → List (Nat × Nat) → Option Nat
  | _, [] => none
  | n, (m, v) :: r => bif n == m then some v else lkN n r

def setB : Nat → Box → List (Nat × Box) → List (Nat × Box)
  | _, _, [] => []
  | n, b, (m, v) :: r => bif n == m then (m, b) :: r else (m, v) :: setB n b r

def delN : Nat → List (Nat × Nat) → List (Nat × Nat)
  | _, [] => []
  | n, (m, v) :: r => bif n == m then delN n r else (m, v) :: delN n r

def S.put (s : S) (d : Option Nat) (v : SV) : S :=
  match d with
  | none => s
  | some d => { s with slots := (d, v) :: s.slots }

def opd (s : S) : Opd → Option SV
  | .t n => lk n s.slots
  | .k v => some (.dat v none)

def opdA (s : S) (x : Opd) : Option AV :=
  match opd s x with
  | some (.dat a _) => some a
  | some (.rp cs) => some (.ref cs)
  | _ => none

def opdsA (s : S) : List Opd → Option (List AV)
  | [] => some []
  | x :: r => match opdA s x, opdsA s r with
    | some a, some as => some (a :: as)
    | _, _ => none

def withV {α : Type} (o : Option α) (k : α → Prop) : Prop :=
  match o with
  | some a => k a
  | none => False

@[simp] theorem withV_some {α : Type} (a : α) (k : α → Prop) : withV (some a) k = k a := rfl
@[simp] theorem withV_none {α : Type} (k : α → Prop) : withV none k = False := rfl

/-- a value that can be written into a variable; only a lone cell bears a number -/
def stOk : AV → Option Nat → Bool
  | .tup _, _ => false
  | .agg _, some _ => false
  | _, _ => true

def partsA (s : S) : List (Nat × Nat × Opd) → Option (List (Nat × List AV))
  | [] => some []
  | (off, sz, x) :: r => match opdA s x, partsA s r with
    | some a, some ps => if a.cells.length = sz ∧ stOk a none = true then some ((off, a.cells) :: ps) else none
    | _, _ => none

def rowsA (s : S) (z : Nat) : List Opd → Option (List (List AV))
  | [] => some []
  | x :: r => match opdA s x, rowsA s z r with
    | some a, some rows => if a.cells.length = z ∧ stOk a none = true then some (a.cells :: rows) else none
    | _, _ => none

def datOf : SV → Option AV
  | .dat a _ => some a
  | _ => none

def idxOf : AV → Option Int
  | .int _ i => some i
  | _ => none

def setCells (cs : List AV) (off : Nat) (ps : List AV) : List AV := cs.take off ++ ps ++ cs.drop (off + ps.length)

def idxO : Option AV → Option Int
  | some a => idxOf a
  | none => none
def bndL (s : S) : Option Opd → Option Int
  | none => some 0
  | some x => idxO (opdA s x)
def bndH (s : S) (xs : List (List AV)) : Option Opd → Option Int
  | none => some xs.length
  | some x => idxO (opdA s x)
def cutA (a : AV) (xs : List (List AV)) (l h : Int) : AV :=
  match a with
  | .nils => .nils
  | _ => .sl ((xs.take h.toNat).drop l.toNat)

/-- the abstract contract of a function is a parameter here -/
structure Con where
  c : Nat → List AV → AV → Option Nat → Prop
  p : Nat → List (List AV) → List (Option AV) → AV → Option Nat → List (List AV) → Prop
  /-- what a function that is ranged over yields, one after the other -/
  i : AV → List (List AV) → Prop

/-- arguments that may be pointers at the head of a box: what is given, and the boxes -/
def svsA (s : S) : List Opd → Option (List (Option AV) × List Nat)
  | [] => some ([], [])
  | x :: r => match opd s x, svsA s r with
    | some (.dat a _), some (as, bs) => some (some a :: as, bs)
    | some (.rp cs), some (as, bs) => some (some (.ref cs) :: as, bs)
    | some (.ptr b 0), some (as, bs) => some (none :: as, b :: bs)
    | _, _ => none

def cellsA (l : List (Nat × Box)) : List Nat → Option (List (List AV))
  | [] => some []
  | b :: bs => match lkB b l, cellsA l bs with
    | some x, some css => some (x.cells :: css)
    | _, _ => none

def setBs : List Nat → List (List AV) → List (Nat × Box) → List (Nat × Box)
  | b :: bs, cs :: css, l => setBs bs css (setB b ⟨cs, []⟩ l)
  | _, _, l => l

/-- a box turns into what never turns again -/
def frzV (b : Nat) (cs : List AV) : SV → SV
  | .ptr b' o => bif b' == b then .rp (cs.drop o) else .ptr b' o
  | v => v

def frzL (b : Nat) (cs : List AV) : List (Nat × SV) → List (Nat × SV)
  | [] => []
  | (t, v) :: r => (t, frzV b cs v) :: frzL b cs r

def delB : Nat → List (Nat × Box) → List (Nat × Box)
  | _, [] => []
  | n, (m, v) :: r => bif n == m then delB n r else (m, v) :: delB n r

def frzs : List Nat → List (List AV) → S → S
  | b :: bs, cs :: css, s => frzs bs css { s with slots := frzL b cs s.slots, boxes := delB b s.boxes }
  | _, _, s => s

/-- the frozen ones, where the pointers stood -/
def fillP : List (Option AV) → List (List AV) → List AV
  | some a :: as, css => a :: fillP as css
  | none :: as, cs :: css => .ref cs :: fillP as css
  | _, _ => []

def ownIds : List Nat → Bool
  | [] => true
  | b :: bs => decide (4 ≤ b) && ownIds bs

def nodupB : List Nat → Bool
  | [] => true
  | b :: bs => !bs.contains b && nodupB bs

def rowsOf : AV → Option (List (List AV))
  | .nils => some []
  | .sl xs => some xs
  | _ => none

def aop (C : Con) (id : Nat) (o : COp) (K : SV → S → Prop) (s : S) : Prop :=
  match o with
  | .mv x => withV (opd s x) fun v => K v s
  | .pick c a b => withV (opdA s c) fun
      | .bool t => withV (opd s a) fun u => withV (opd s b) fun v => (t = true → K u s) ∧ (t = false → K v s)
      | _ => False
  | .alloc cs => K (.ptr id 0) { s with boxes := (id, ⟨cs, []⟩) :: s.boxes }
  | .box x => withV (opdA s x) fun a => stOk a none = true ∧ K (.ptr id 0) { s with boxes := (id, ⟨a.cells, []⟩) :: s.boxes }
  | .build zs parts => withV (partsA s parts) fun ps => K (.dat (.agg (fillA zs ps)) none) s
  | .bsl e z xs => withV (rowsA s z xs) fun rows => K (.dat (.sl rows) (some id)) { s with live := (id, e) :: s.live }
  | .ld x sz => withV (opd s x) fun
      | .ptr b off => withV (lkB b s.boxes) fun bx => withV (partA bx.cells off sz) fun a =>
          K (.dat a (match sz with | none => lkN off bx.tags | some _ => none)) s
      | .rp cs => withV (partA cs 0 sz) fun a => K (.dat a none) s
      | _ => False
  | .st x v sz => withV (opd s x) fun
      | .ptr b off => withV (lkB b s.boxes) fun bx => withV (opd s v) fun
          | .dat a q => stOk a q = true ∧ a.cells.length = sz ∧ off + sz ≤ bx.cells.length ∧
              K .undef { s with boxes := setB b ⟨setCells bx.cells off a.cells, match q with | some q => (off, q) :: bx.tags.filter (fun p => p.1 < off || off + sz ≤ p.1) | none => bx.tags.filter (fun p => p.1 < off || off + sz ≤ p.1)⟩ s.boxes }
          | _ => False
      | _ => False
  | .fa x off => withV (opd s x) fun
      | .ptr b o => K (.ptr b (o + off)) s
      | .rp cs => K (.rp (cs.drop off)) s
      | _ => False
  | .iaA x i n z => withV (opd s x) fun p => withV (opdA s i) fun a => withV (idxOf a) fun i => (0 ≤ i ∧ i < n) ∧
      match p with
      | .ptr b o => K (.ptr b (o + i.toNat * z)) s
      | .rp cs => K (.rp (cs.drop (i.toNat * z))) s
      | _ => False
  | .iaS x i z => withV (opdA s x) fun l => withV (opdA s i) fun a => withV (idxOf a) fun i => withV (rowsOf l) fun xs => (0 ≤ i ∧ i < xs.length) ∧ withV (xs[i.toNat]?) fun row => row.length = z ∧ K (.rp row) s
  | .fld x off sz => withV (opdA s x) fun
      | .agg cs => withV (partA cs off sz) fun a => K (.dat a none) s
      | _ => False
  | .ixA x i n z sz => withV (opdA s x) fun
      | .agg cs => withV (opdA s i) fun a => withV (idxOf a) fun i => (0 ≤ i ∧ i < n) ∧ withV (partA cs (i.toNat * z) sz) fun a => K (.dat a none) s
      | _ => False
  | .bin op x y => withV (opdA s x) fun a => withV (opdA s y) fun b => withV (binA op a b) fun v => K (.dat v none) s
  | .eqc ks neg x y => withV (opdA s x) fun
      | .agg as => withV (opdA s y) fun
        | .agg bs => withV (cellsEq ks as bs) fun e => K (.dat (.bool (e != neg)) none) s
        | _ => False
      | _ => False
  | .bb neg x y => withV (opdA s x) fun a => withV (opdA s y) fun b => withV (bbA neg a b) fun v => K (.dat v none) s
  | .un op x => withV (opdA s x) fun a => withV (unA op a) fun v => K (.dat v none) s
  | .cvII k x => withV (opdA s x) fun a => withV (cvIIA k a) fun v => K (.dat v none) s
  | .cvIF k x => withV (opdA s x) fun a => withV (cvIFA k a) fun v => K (.dat v none) s
  | .cvFI k x => withV (opdA s x) fun a => withV (cvFIA k a) fun v => K (.dat v none) s
  | .cvSame x => withV (opd s x) fun v => K v s
  | .lenS x => withV (opdA s x) fun a => withV (lenA a) fun v => K (.dat v none) s
  | .lenK n => K (.dat (.int .i64 n) none) s
  | .app e z bytes x y => withV (opd s x) fun
      | .dat a q => withV (rowsOf a) fun xs => withV (opdA s y) fun b => withV (rowsOf b) fun ys =>
          (xs.length + ys.length) * bytes ≤ 140737488355328 ∧ (∀ r ∈ xs, r.length = z) ∧ (∀ r ∈ ys, r.length = z) ∧
          (match a, q with
           | .nils, _ => if ys = [] then K (.dat .nils none) s else K (.dat (.sl (xs ++ ys)) (some id)) { s with live := (id, e) :: s.live }
           | .sl _, some q => lkN q s.live = some e ∧ K (.dat (.sl (xs ++ ys)) (some id)) { s with live := (id, e) :: delN q s.live }
           | _, _ => False)
      | _ => False
  | .call f args => withV (opdsA s args) fun as => ∃ r fr, C.c f as r fr ∧ K (.dat r (fr.map fun _ => id)) { s with live := match fr with | some e => (id, e) :: s.live | none => s.live }
  | .callp f args => withV (svsA s args) fun p => nodupB p.2 = true ∧ withV (cellsA s.boxes p.2) fun css =>
      ∃ r fr css', C.p f css p.1 r fr css' ∧ K (.dat r (fr.map fun _ => id)) { s with boxes := setBs p.2 css' s.boxes, live := match fr with | some e => (id, e) :: s.live | none => s.live }
  | .callv g args => withV (opdA s g) fun
      | .fn (.func f) first caps => withV (opdsA s args) fun as => ∃ r fr, C.c f (first ++ as ++ caps) r fr ∧ K (.dat r (fr.map fun _ => id)) { s with live := match fr with | some e => (id, e) :: s.live | none => s.live }
      | _ => False
  | .ext x i => withV (opdA s x) fun a => withV (extA a i) fun v => K (.dat v none) s
  | .mkf fn first caps => withV (opdsA s first) fun as => withV (svsA s caps) fun p => (nodupB p.2 && ownIds p.2) = true ∧ withV (cellsA s.boxes p.2) fun css =>
      K (.dat (.fn fn as (fillP p.1 css)) none) (frzs p.2 css s)
  | .slS z x lo hi => withV (opdA s x) fun a => withV (rowsOf a) fun xs =>
      withV (bndL s lo) fun l => withV (bndH s xs hi) fun h =>
      (0 ≤ l ∧ l ≤ h ∧ h ≤ xs.length) ∧ (∀ r ∈ xs, r.length = z) ∧ K (.dat (cutA a xs l h) none) s
  | .nc x => withV (opd s x) fun
      | .ptr b o => K (.ptr b o) s
      | .rp cs => K (.rp cs) s
      | .dat (.fn (.func f) as bs) q => K (.dat (.fn (.func f) as bs) q) s
      | _ => False
  | .mm mx args => withV (opdsA s args) fun
      | [] => False
      | a :: r => withV (r.foldlM (mmA mx) a) fun v => K (.dat v none) s
  | .xt e x => withV (opdA s x) fun a => withV (xtA e a) fun v => K (.dat v none) s
  | .slA x n z => withV (opd s x) fun
      | .rp cs => n * z ≤ cs.length ∧ K (.dat (.sl (chunkA z n cs)) none) s
      | .ptr b off => 4 ≤ b ∧ withV (lkB b s.boxes) fun bx => n * z ≤ (bx.cells.drop off).length ∧ K (.dat (.sl (chunkA z n (bx.cells.drop off))) none) (frzs [b] [bx.cells] s)
      | _ => False
  | .ixB x i => withV (opdA s x) fun
      | .str b => withV (opdA s i) fun a => withV (idxOf a) fun j => withV (byteA b j) fun v => K (.dat v none) s
      | _ => False

def aguard (s : S) (g : Option (Nat × Bool)) (yes no : Prop) : Prop :=
  match g with
  | none => yes
  | some (t, want) => match lk t s.slots with
    | some (.dat (.bool b) _) => (b = want → yes) ∧ (b = !want → no)
    | some .undef => no
    | _ => False

def aops (C : Con) (base : Nat) : Nat → List CO → (S → Prop) → S → Prop
  | _, [], K, s => K s
  | i, o :: r, K, s => aguard s o.g
      (aop C (base + i) o.op (fun v s' => aops C base (i + 1) r K (s'.put o.dst v)) s)
      (aops C base (i + 1) r K (s.put o.dst .undef))

def athen (k : S → Prop) (Q : Exit → S → Prop) : Exit → S → Prop
  | .normal, s => k s
  | e, s => Q e s

def ablock (id : Nat) (Q : Exit → S → Prop) : Exit → S → Prop
  | .exit id', s => if id' = id then Q .normal s else Q (.exit id') s
  | e, s => Q e s

/-! ### less is known -/

def ren (m : List (Nat × Nat)) (q : Nat) : Nat := (lkN q m).getD q

def leSV (m : List (Nat × Nat)) (nx : Nat) : SV → SV → Prop
  | .dat a _, .dat a' none => a = a'
  | .dat a (some q), .dat a' (some q') => a = a' ∧ q = ren m q' ∧ q' < nx
  | .ptr b o, .ptr b' o' => b = b' ∧ o = o' ∧ b' < nx
  | .rp cs, .rp cs' => cs = cs'
  | .undef, .undef => True
  | _, _ => False

def leSlots (m : List (Nat × Nat)) (nx : Nat) (a : List (Nat × SV)) : List (Nat × SV) → Prop
  | [] => True
  | (t, v) :: r => withV (lk t a) (fun u => leSV m nx u v) ∧ leSlots m nx a r

def leTags (m : List (Nat × Nat)) (nx : Nat) (a : List (Nat × Nat)) : List (Nat × Nat) → Prop
  | [] => True
  | (o, q) :: r => (lkN o a = some (ren m q) ∧ q < nx) ∧ leTags m nx a r

def leBoxes (m : List (Nat × Nat)) (nx : Nat) (a : List (Nat × Box)) : List (Nat × Box) → Prop
  | [] => True
  | (b, x) :: r => withV (lkB b a) (fun y => y.cells = x.cells ∧ leTags m nx y.tags x.tags ∧ b < nx) ∧ leBoxes m nx a r

def leLive (m : List (Nat × Nat)) (nx : Nat) (a : List (Nat × Nat)) : List (Nat × Nat) → Prop
  | [] => True
  | (q, e) :: r => (lkN (ren m q) a = some e ∧ q < nx) ∧ leLive m nx a r

def liveInj (m : List (Nat × Nat)) (l : List (Nat × Nat)) : Prop := ((l.map fun p => ren m p.1).Nodup)

def Le (s s1 : S) : Prop :=
  4 ≤ s1.nx ∧ ∃ m, leSlots m s1.nx s.slots s1.slots ∧ leBoxes m s1.nx s.boxes s1.boxes ∧ leLive m s1.nx s.live s1.live ∧ liveInj m s1.live

def down (F : S → Prop) (s : S) : Prop := ∃ s1, Le s s1 ∧ F s1 ∨ F s

theorem down_refl {F : S → Prop} {s : S} (h : F s) : down F s := ⟨s, .inr h⟩

def ARounds (F : (Exit → S → Prop) → S → Prop) (Q : Exit → S → Prop) : Nat → S → Prop
  | 0, _ => False
  | n + 1, s => F (athen (down (ARounds F Q n)) Q) s

def Opd.rd : Opd → List Nat
  | .t n => [n]
  | .k _ => []

def optRd : Option Opd → List Nat
  | some x => x.rd
  | none => []

def opdsRd : List Opd → List Nat
  | [] => []
  | x :: r => x.rd ++ opdsRd r

def partsRd : List (Nat × Nat × Opd) → List Nat
  | [] => []
  | (_, _, x) :: r => x.rd ++ partsRd r

def COp.rd : COp → List Nat
  | .mv x => x.rd
  | .pick c a b => c.rd ++ a.rd ++ b.rd
  | .alloc _ => []
  | .box x => x.rd
  | .build _ ps => partsRd ps
  | .bsl _ _ xs => opdsRd xs
  | .ld x _ => x.rd
  | .st x v _ => x.rd ++ v.rd
  | .fa x _ => x.rd
  | .iaA x i _ _ => x.rd ++ i.rd
  | .iaS x i _ => x.rd ++ i.rd
  | .fld x _ _ => x.rd
  | .ixA x i _ _ _ => x.rd ++ i.rd
  | .bin _ x y => x.rd ++ y.rd
  | .eqc _ _ x y => x.rd ++ y.rd
  | .bb _ x y => x.rd ++ y.rd
  | .un _ x => x.rd
  | .cvII _ x => x.rd
  | .cvIF _ x => x.rd
  | .cvFI _ x => x.rd
  | .cvSame x => x.rd
  | .lenS x => x.rd
  | .lenK _ => []
  | .app _ _ _ x y => x.rd ++ y.rd
  | .call _ args => opdsRd args
  | .callp _ args => opdsRd args
  | .callv g args => g.rd ++ opdsRd args
  | .ext x _ => x.rd
  | .mkf _ a b => opdsRd a ++ opdsRd b
  | .slS _ x lo hi => x.rd ++ optRd lo ++ optRd hi
  | .nc x => x.rd
  | .mm _ args => opdsRd args
  | .xt _ x => x.rd
  | .slA x _ _ => x.rd
  | .ixB x i => x.rd ++ i.rd

def COp.isApp : COp → Bool
  | .app .. => true
  | _ => false
/-- the slots through which boxes are looked into; written -/
def COp.rdB : COp → List Nat
  | .ld x _ => x.rd
  | .st x _ _ => x.rd
  | .callp _ args => opdsRd args
  | .mkf _ _ b => opdsRd b
  | .slA x _ _ => x.rd
  | _ => []
def COp.wrB : COp → List Nat
  | .st x _ _ => x.rd
  | .callp _ args => opdsRd args
  | .mkf _ _ b => opdsRd b
  | .slA x _ _ => x.rd
  | _ => []
def COp.isFrz : COp → Bool
  | .mkf _ _ b => !b.isEmpty
  | .slA .. => true
  | _ => false
/-- whence a pointer comes that is yielded -/
def COp.ptrSrc : COp → List Nat
  | .mv x | .fa x _ | .iaA x _ _ _ | .nc x | .cvSame x => x.rd
  | .pick _ a b => a.rd ++ b.rd
  | _ => []
def COp.isAl : COp → Bool
  | .alloc _ | .box _ => true
  | _ => false

def CO.rd (o : CO) : List Nat := o.op.rd ++ (match o.g with | some (t, _) => [t] | none => [])

/-- what is known of a slot: nothing; that it is no pointer; that it is at most a pointer into this box -/
abbrev Tag := Option (Option Nat)
def Tag.okT : Tag → Nat → Bool
  | none, _ => true
  | some z, b => z == some b
def Tag.dis : Tag → Tag → Bool
  | some none, _ => true
  | _, some none => true
  | some (some a), some (some b) => a != b
  | _, _ => false
def look : List (Nat × Tag) → Nat → Tag
  | [], _ => none
  | (t, z) :: r, n => bif n == t then z else look r n

/-- neither looks at what the other yields, nor writes where the other reads -/
def CO.indep (x y : CO) : Bool :=
  (match x.dst with | some d => !y.rd.contains d && y.dst != some d | none => true) &&
  (match y.dst with | some d => !x.rd.contains d | none => true) && !(x.op.isApp && y.op.isApp)
def CO.half (T : List (Nat × Tag)) (x y : CO) : Bool :=
  x.op.wrB.all fun t => y.op.rdB.all (fun u => (look T t).dis (look T u)) && (!x.op.isFrz || y.rd.all fun u => (look T t).dis (look T u))
def CO.apartT (T : List (Nat × Tag)) (x y : CO) : Bool := x.indep y && x.half T y && y.half T x
def CO.apart (x y : CO) : Bool := x.apartT [] y

def joinT (T : List (Nat × Tag)) : List Nat → Tag
  | [] => some none
  | [t] => look T t
  | t :: r => if look T t == joinT T r then look T t else none
def tabGo (T : List (Nat × Tag)) (base : Nat) : Nat → List CO → List (Nat × Tag)
  | _, [] => T
  | i, o :: r => tabGo (match o.dst with | some t => (t, if o.op.isAl then some (some (base + i)) else joinT T o.op.ptrSrc) :: T | none => T) base (i + 1) r
def entryT : List (Nat × SV) → List (Nat × Tag)
  | [] => []
  | (t, .ptr b _) :: r => (t, some (some b)) :: entryT r
  | (t, _) :: r => (t, some none) :: entryT r
def entryOk (T : List (Nat × Tag)) : List (Nat × SV) → Bool
  | [] => true
  | (t, .ptr b _) :: r => (look T t).okT b && entryOk T r
  | (_, _) :: r => entryOk T r
def stepOk (T : List (Nat × Tag)) (id : Nat) (o : CO) : Bool :=
  match o.dst with
  | none => true
  | some t => match look T t with
    | none => true
    | some z => if o.op.isAl then z == some id else o.op.ptrSrc.all fun u => match look T u with | some z' => z' == none || z' == z | none => false
def stepsOk (T : List (Nat × Tag)) (base : Nat) : Nat → List CO → Bool
  | _, [] => true
  | i, o :: r => stepOk T (base + i) o && stepsOk T base (i + 1) r
def badOk (T : List (Nat × Tag)) (ops : List CO) : List (Nat × Nat) → Bool
  | [] => true
  | (i, j) :: r => (match ops[i]?, ops[j]? with | some x, some y => x.apartT T y | _, _ => false) && badOk T ops r
def dynT (T : List (Nat × Tag)) (ops : List CO) (bad : List (Nat × Nat)) (base : Nat) (sl : List (Nat × SV)) : Bool := entryOk T sl && stepsOk T base 0 ops && badOk T ops bad
/-- at these slots, the pairs that were left open are apart -/
def dynOk (ops : List CO) (bad : List (Nat × Nat)) (base : Nat) (sl : List (Nat × SV)) : Bool := dynT (tabGo (entryT sl) base 0 ops) ops bad base sl

/-- a round's parameters -/
def putPs : List Nat → List AV → S → S
  | p :: ps, x :: xs, s => putPs ps xs (s.put (some p) (.dat x none))
  | _, _, s => s

/-- what a round has written in its own slots is gone -/
def cutL (wr : List Nat) : List (Nat × SV) → List (Nat × SV)
  | [] => []
  | (t, v) :: r => bif wr.contains t then cutL wr r else (t, v) :: cutL wr r
def cutS (wr : List Nat) (s : S) : S := { s with slots := cutL wr s.slots }

/-- how a round may end -/
def rfQ (wr : List Nat) (F : S → Prop) (Q : Exit → S → Prop) : Exit → S → Prop
  | .normal, s => down F (cutS wr s)
  | .ret, s => Q .ret (cutS wr s)
  | .exit id, s => Q (.exit id) (cutS wr s)
  | _, _ => False

def onlyN (K : S → Prop) : Exit → S → Prop
  | .normal, s => K s
  | _, _ => False

/-- what is jumped to; it jumps no more -/
def scopeQ (l : Nat) (K : S → Prop) (Q : Exit → S → Prop) : Exit → S → Prop
  | .goto l', s => l' = l ∧ K s
  | e, s => Q e s
def noGo (Q : Exit → S → Prop) : Exit → S → Prop
  | .goto _, _ => False
  | e, s => Q e s

def aw (C : Con) : CCode → (Exit → S → Prop) → S → Prop
  | .skip, Q, s => Q .normal s
  | .reg ops, Q, s => aops C s.nx 0 ops (fun s' => Q .normal { s' with nx := s.nx + ops.length }) s
  | .seq a b, Q, s => aw C a (athen (aw C b Q) Q) s
  | .join a b, Q, s => aw C a (athen (down (aw C b Q)) Q) s
  | .cond c a b, Q, s => withV (opdA s c) fun
      | .bool t => (t = true → aw C a Q s) ∧ (t = false → aw C b Q s)
      | _ => False
  | .block id c, Q, s => aw C c (ablock id Q) s
  | .loop c, Q, s => down (fun s => ∃ n, ARounds (aw C c) Q n s) s
  | .exit id, Q, s => Q (.exit id) s
  | .ret, Q, s => Q .ret s
  | .scope l c r, Q, s => aw C c (scopeQ l (aw C r (noGo Q)) Q) s
  | .label _, Q, s => Q .normal s
  | .goto l, Q, s => Q (.goto l) s
  | .regD ops bad, Q, s => dynOk ops bad s.nx s.slots = true ∧ aops C s.nx 0 ops (fun s' => Q .normal { s' with nx := s.nx + ops.length }) s
  | .rfor g ps wr as bd, Q, s => withV (opdA s g) fun gv => ∃ xs, C.i gv xs ∧ (∀ x ∈ xs, x.length = ps.length) ∧ ∃ F : Nat → S → Prop, down (F 0) s ∧ (∀ i s', F i s' → opdA s' g = some gv) ∧
      (∀ i x s', xs[i]? = some x → F i s' → aw C as (onlyN (aw C bd (rfQ wr (F (i + 1)) Q))) (putPs ps x s')) ∧ ∀ s', F xs.length s' → Q .normal s'

end Go.Eng
