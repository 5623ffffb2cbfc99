/- ENGINE, PART 2: a function's code, with all that hangs on its types worked out. -/
import Derived.Test.YtmdlpepjodcjeaaEng1
namespace Go.Eng
set_option linter.unusedVariables false
set_option linter.unusedSimpArgs false
set_option linter.unnecessarySimpa false
open Go

def szOf (P : Program) (t : TypeId) : Option Nat := (P.info? t).map (·.size)

def aggB (P : Program) (t : TypeId) : Bool :=
  match P.underlying t with
  | some (.struct _) | some (.array _ _) => true
  | _ => false

/-- how a variable of the type is read: one cell, or an aggregate of so many -/
def rdOf (P : Program) (t : TypeId) : Option (Option Nat) :=
  match P.underlying t with
  | some (.struct _) | some (.array _ _) => (szOf P t).map some
  | some _ => some none
  | none => none

def zeroOf (P : Program) (t : TypeId) : Option (List AV) :=
  match (P.info? t).bind (·.zero) with
  | some z => z.cells.toList.mapM ofV1
  | none => none

def cOpd : Operand → Option Opd
  | .tmp t => some (.t t)
  | .const v => (ofV v).map .k
  | .func f => some (.k (.fn (.func f) [] []))
  | .global _ => none

def cOpds (l : Array Operand) : Option (List Opd) := l.toList.mapM cOpd

def fieldOf (P : Program) (s : TypeId) (f : Nat) : Option Field :=
  match P.underlying s with
  | some (.struct fs) => fs[f]?
  | _ => none

/-- the fields lie one behind the other: what their cells hold -/
def tileK (P : Program) (rec : TypeId → Option (List CK)) : List Field → Nat → Option (List CK)
  | [], _ => some []
  | f :: fs, off =>
    if f.name = "_" ∨ f.offset ≠ off then none else
    match rec f.type with
    | some ks => if szOf P f.type = some ks.length ∧ 0 < ks.length then (tileK P rec fs (off + ks.length)).map (ks ++ ·) else none
    | none => none

/-- plain types (bools, numbers, strings; structs and arrays of such): equality is equality cell by cell; what the cells hold -/
def plainK (P : Program) : Nat → TypeId → Option (List CK)
  | 0, _ => none
  | d + 1, t => match P.underlying t with
    | some .bool => some [.b]
    | some (.int _) => some [.i]
    | some (.float _) => some [.f]
    | some .string => some [.s]
    | some (.struct fs) => if P.stoodInHeld t then none else tileK P (plainK P d) fs.toList 0
    | some (.array n e) => match plainK P d e with
      | some ks => if szOf P e = some ks.length then some (List.replicate n ks).flatten else none
      | none => none
    | _ => none

def cEq (P : Program) (t : TypeId) (neg : Bool) (x y : Opd) : Option COp :=
  match plainK P 20 t with
  | some ks => if aggB P t && !P.eqGuardType P.depth t then some (.eqc ks neg x y) else none
  | none => none

def scalarB (P : Program) (t : TypeId) : Bool :=
  match P.underlying t with
  | some (.int _) | some (.float _) => true
  | _ => false

def boolB (P : Program) (t : TypeId) : Bool :=
  match P.underlying t with
  | some .bool => true
  | _ => false

def callable (P : Program) (f : FuncId) : Bool :=
  match P.funcs[f]? with
  | some fn => fn.name != "runtime.NumGoroutine" && fn.body.isSome
  | none => false

def cPart (P : Program) (t : TypeId) (i : Nat) : Option (Nat × Nat) :=
  match P.underlying t with
  | some (.struct fs) => match fs[i]? with
    | some f => (szOf P f.type).map fun z => (f.offset, z)
    | none => none
  | some (.array _ e) => (szOf P e).map fun z => (i * z, z)
  | _ => none

def cParts (P : Program) (t : TypeId) : List (Nat × Operand) → Option (List (Nat × Nat × Opd))
  | [] => some []
  | (i, x) :: r => match cPart P t i, cOpd x, cParts P t r with
    | some (o, z), some x, some ps => some ((o, z, x) :: ps)
    | _, _, _ => none

/-- every field of the struct has a known size (an array: its element) -/
def buildOk (P : Program) (t : TypeId) : Bool :=
  match P.underlying t with
  | some (.struct fs) => fs.toList.all fun f => (szOf P f.type).isSome
  | some (.array _ e) => (szOf P e).isSome
  | _ => false

def partsFit (zs : Nat) : List (Nat × Nat × Opd) → Bool
  | [] => true
  | (o, z, _) :: r => decide (o + z ≤ zs) && partsFit zs r

def cOpt : Option Operand → Option (Option Opd)
  | none => some none
  | some x => (cOpd x).map some

def cConv (P : Program) (s d : TypeId) (x : Opd) : Option COp :=
  match P.underlying s, P.underlying d with
  | some (.int _), some (.int k) => some (.cvII k x)
  | some (.int _), some (.float k) => some (.cvIF k x)
  | some (.float _), some (.int k) => some (.cvFI k x)
  | _, _ => none

def hasPtr (P : Program) : List TypeId → Bool
  | [] => false
  | t :: r => (match P.underlying t with | some (.pointer _) => true | _ => false) || hasPtr P r

/-- a function that the language's library has no text for -/
def xtOf (P : Program) (f : FuncId) : Option Xt :=
  match P.funcs[f]? with
  | some fn => if fn.body.isNone && (Extern.findNext fn).isNone then
      if fn.name == "math.Float64bits" then some .fbits
      else if fn.name == "math.Float64frombits" then some .ffrom
      else if fn.name == "math.RoundToEven" then some .rte
      else none
    else none
  | none => none

def cCall (P : Program) (c : Call) : Option COp :=
  match c.callee with
  | .value (.func f) => if callable P f then (cOpds c.args).map (if hasPtr P c.argTypes.toList then .callp f else .call f)
    else match xtOf P f, c.args.toList with
      | some e, [x] => (cOpd x).map (.xt e)
      | _, _ => none
  | .value g => match cOpd g, cOpds c.args with
    | some g, some as => some (.callv g as)
    | _, _ => none
  | .builtin .len => match c.argTypes[0]?, c.args[0]? with
    | some t, some x => match P.underlying t with
      | some (.slice _) => (cOpd x).map .lenS
      | some (.array n _) => some (.lenK n)
      | _ => none
    | _, _ => none
  | .builtin .append => match c.argTypes.toList, c.args.toList with
    | [t, t'], [x, y] => if t = t' then match P.underlying t, cOpd x, cOpd y with
        | some (.slice e), some x, some y => match P.info? e with
          | some i => match i.zero with
            | some z => if 0 < i.size && z.cells.size == i.size && 0 < i.bytes then some (.app e i.size i.bytes x y) else none
            | none => none
          | none => none
        | _, _, _ => none
      else none
    | _, _ => none
  | .builtin .max => (cOpds c.args).map (.mm true)
  | .builtin .min => (cOpds c.args).map (.mm false)
  | _ => none

def cOp (P : Program) : Op → Option COp
  | .move x | .assign x => (cOpd x).map .mv
  | .pick c a b => match cOpd c, cOpd a, cOpd b with
    | some c, some a, some b => some (.pick c a b)
    | _, _, _ => none
  | .alloc t => (zeroOf P t).map .alloc
  | .box _ x => (cOpd x).map .box
  | .build t ps => match zeroOf P t, cParts P t ps.toList with
    | some zs, some ps => if partsFit zs.length ps && buildOk P t then some (.build zs ps) else none
    | _, _ => none
  | .buildSlice t n ps => match P.underlying t with
    | some (.slice e) => match zeroOf P e, szOf P e, ps.toList.mapM (fun p => cOpd p.2) with
      | some zs, some z, some xs => if n * z ≤ 16777216 && 0 < z && zs.length == z && ps.toList.map (·.1) == List.range n then some (.bsl e z xs) else none
      | _, _, _ => none
    | _ => none
  | .load t x => match rdOf P t, cOpd x with
    | some r, some x => some (.ld x r)
    | _, _ => none
  | .store t x v => match szOf P t, cOpd x, cOpd v with
    | some z, some x, some v => some (.st x v z)
    | _, _, _ => none
  | .nilCheck x => (cOpd x).map .nc
  | .binOp op t x y _ => match cOpd x, cOpd y with
    | some x, some y =>
      if scalarB P t then some (.bin op x y)
      else if boolB P t then (match op with | .eql => some (.bb false x y) | .neq => some (.bb true x y) | _ => none)
      else match op with
        | .eql => cEq P t false x y
        | .neq => cEq P t true x y
        | _ => none
    | _, _ => none
  | .unOp op _ x => (cOpd x).map (.un op)
  | .convert s d x => (cOpd x).bind (cConv P s d)
  | .fieldAddr s x f => match fieldOf P s f, cOpd x with
    | some fd, some x => if szOf P fd.type == some 0 || (szOf P fd.type).isNone then none else some (.fa x fd.offset)
    | _, _ => none
  | .field s x f => match fieldOf P s f, cOpd x with
    | some fd, some x => (rdOf P fd.type).map (.fld x fd.offset)
    | _, _ => none
  | .indexAddr t x i => match P.underlying t, cOpd x, cOpd i with
    | some (.array n e), some x, some i => (szOf P e).map (.iaA x i n)
    | some (.slice e), some x, some i => (szOf P e).map (.iaS x i)
    | _, _, _ => none
  | .index t x i => match P.underlying t, cOpd x, cOpd i with
    | some (.array n e), some x, some i => match szOf P e, rdOf P e with
      | some z, some r => some (.ixA x i n z r)
      | _, _ => none
    | some .string, some x, some i => some (.ixB x i)
    | _, _, _ => none
  | .extract x i => (cOpd x).map (.ext · i)
  | .makeFunc (.func f) a b => match cOpds a, cOpds b with
    | some a, some b => if callable P f then some (.mkf (.func f) a b) else none
    | _, _ => none
  | .slice t x lo hi none => match P.underlying t, cOpd x, cOpt lo, cOpt hi with
    | some (.slice e), some x, some lo, some hi => (szOf P e).map fun z => .slS z x lo hi
    | some (.array n e), some x, some none, some none => (szOf P e).map fun z => .slA x n z
    | _, _, _, _ => none
  | .call c => cCall P c
  | _ => none

def cGuard (ops : Array Oper) : Option (Nat × Bool) → Option (Option (Nat × Bool))
  | none => some none
  | some (j, w) => match (ops[j]?).bind (·.dst) with
    | some t => some (some (t, w))
    | none => none

def cOper (P : Program) (ops : Array Oper) (o : Oper) : Option CO :=
  match cOp P o.op, cGuard ops o.guard with
  | some c, some g => some ⟨o.dst, c, g⟩
  | _, _ => none

def cOpers (P : Program) (ops : Array Oper) : List Oper → Option (List CO)
  | [] => some []
  | o :: r => match cOper P ops o, cOpers P ops r with
    | some c, some cs => some (c :: cs)
    | _, _ => none

/-- y comes behind x: at once, or behind one that does -/
def waits (ops : List Oper) (i : Nat) (oj : Oper) : Bool :=
  oj.after.any fun e => Region.binds .any e && (e.on == i || match ops[e.on]? with
    | some ok => ok.after.any fun e' => Region.binds .any e' && e'.on == i
    | none => false)

def drawRow (bad : List (Nat × Nat)) (ops : List Oper) (i : Nat) (x : CO) : Nat → List Oper → List CO → Bool
  | j, oj :: os, y :: ys => (decide (j ≤ i) || oj.after.any (fun e => Region.binds .any e && e.on == i) || x.apart y || waits ops i oj || bad.contains (i, j)) && drawRow bad ops i x (j + 1) os ys
  | _, _, _ => true

def drawRows (bad : List (Nat × Nat)) (ops : List Oper) (cos : List CO) : Nat → List Oper → List CO → Bool
  | i, oi :: os, x :: xs => oi.after.all (fun e => !Region.binds .any e || decide (e.on < i)) && drawRow bad ops i x 0 ops cos && drawRows bad ops cos (i + 1) os xs
  | _, _, _ => true

/-- whatever order is drawn, it comes to the same, if the pairs that are left open are apart -/
def drawOk (bad : List (Nat × Nat)) (ops : List Oper) (cos : List CO) : Bool := drawRows bad ops cos 0 ops cos

/-- the pairs that are left open -/
def badRow (ops : List Oper) (i : Nat) (x : CO) : Nat → List Oper → List CO → List (Nat × Nat)
  | j, oj :: os, y :: ys => (if decide (j ≤ i) || oj.after.any (fun e => Region.binds .any e && e.on == i) || x.apart y || waits ops i oj then [] else [(i, j)]) ++ badRow ops i x (j + 1) os ys
  | _, _, _ => []
def badRows (ops : List Oper) (cos : List CO) : Nat → List CO → List (Nat × Nat)
  | i, x :: xs => badRow ops i x 0 ops cos ++ badRows ops cos (i + 1) xs
  | _, [] => []
def couldOk (cos : List CO) : List (Nat × Nat) → Bool
  | [] => true
  | (i, j) :: r => (match cos[i]?, cos[j]? with | some x, some y => x.indep y | _, _ => false) && couldOk cos r

def isReg : Code → Bool
  | .region .. => true
  | .skip => true
  | _ => false

/-- the slots that are written -/
def dstsOf : List CO → List Nat
  | [] => []
  | o :: r => (match o.dst with | some d => [d] | none => []) ++ dstsOf r
def CCode.writes : CCode → List Nat
  | .reg ops => dstsOf ops
  | .regD ops _ => dstsOf ops
  | .seq a b | .join a b | .cond _ a b => a.writes ++ b.writes
  | .block _ c | .loop c => c.writes
  | .rfor _ _ wr _ _ => wr
  | .scope _ c r => c.writes ++ r.writes
  | _ => []

/-- where code goes on behind a label -/
def CCode.after (l : Nat) : CCode → Option CCode
  | .seq a b | .join a b => match a.after l with
    | some r => some (.join r b)
    | none => b.after l
  | .label l' => if l' == l then some .skip else none
  | _ => none
def CCode.labels : CCode → List Nat
  | .seq a b | .join a b => a.labels ++ b.labels
  | .label l => [l]
  | _ => []

def cCode (P : Program) : Code → Option CCode
  | .skip => some .skip
  | .region _ ops draws => match cOpers P ops ops.toList with
    | some cos => if draws then
        match badRows ops.toList cos 0 cos with
        | [] => if drawOk [] ops.toList cos then some (.reg cos) else none
        | bad => if drawOk bad ops.toList cos && couldOk cos bad then some (.regD cos bad) else none
      else some (.reg cos)
    | none => none
  | .seq a b => match cCode P a, cCode P b with
    | some x, some y => some (if isReg a then .seq x y else .join x y)
    | _, _ => none
  | .cond c a b => match cOpd c, cCode P a, cCode P b with
    | some c, some a, some b => some (.cond c a b)
    | _, _, _ => none
  | .block id c => (cCode P c).map (.block id)
  | .loop c => (cCode P c).map .loop
  | .exit id => some (.exit id)
  | .ret => some .ret
  | .label l => some (.label l)
  | .goto l => some (.goto l)
  | .scope c => match cCode P c with
    | some c => match c.labels with
      | [l] => (c.after l).map (.scope l c)
      | _ => none
    | none => none
  | .rangeFunc g ps as bd => match cOpd g, cCode P as, cCode P bd with
    | some g, some a, some b =>
      let wr := ps.toList ++ a.writes ++ b.writes
      if g.rd.all (fun t => !wr.contains t) then some (.rfor g ps.toList wr a b) else none
    | _, _, _ => none
  | _ => none

/-- why a code is not taken (for looking at, not for proofs) -/
def whyNot (P : Program) : Code → List String
  | .region id ops draws => (ops.toList.filterMap fun o => if (cOper P ops o).isNone then some s!"region {id} {o.pos}" else none) ++
      (match cOpers P ops ops.toList with
       | some cos => if (cCode P (.region id ops draws)).isSome then [] else [s!"ORDER {id} {((ops[0]?).map (·.pos)).getD ""}"]
       | none => [])
  | .seq a b => whyNot P a ++ whyNot P b
  | .cond _ a b => whyNot P a ++ whyNot P b
  | .block _ c => whyNot P c
  | .loop c => whyNot P c
  | .skip | .exit _ | .ret => []
  | .rangeFunc g ps a b => whyNot P a ++ whyNot P b ++ (if (cOpd g).isNone then ["rangeFunc"] else [])
  | .scope c => whyNot P c ++ (if (cCode P (.scope c)).isNone then ["scope"] else [])
  | .label _ | .goto _ => []
  | _ => ["other"]

def dstFits (n : Nat) : List CO → Bool
  | [] => true
  | o :: r => (match o.dst with | some d => decide (d < n) | none => true) && dstFits n r

/-- every slot that is written is one of the function's -/
def CCode.fits (n : Nat) : CCode → Bool
  | .reg ops => dstFits n ops
  | .regD ops _ => dstFits n ops
  | .seq a b | .join a b | .cond _ a b => a.fits n && b.fits n
  | .block _ c | .loop c => c.fits n
  | .scope _ c r => c.fits n && r.fits n
  | .rfor _ ps wr a b => ps.all (fun t => decide (t < n)) && a.fits n && b.fits n && ps.all (fun t => wr.contains t) && a.writes.all (fun t => wr.contains t) && b.writes.all (fun t => wr.contains t)
  | _ => true

/-- a result: a slot, or what the variable holds that the slot points at -/
inductive CRes where
  | tmp (t : Nat)
  | cell (t : Nat) (sz : Option Nat)
  deriving Inhabited

def cRes (P : Program) : ResultVar → Option CRes
  | .tmp t => some (.tmp t)
  | .cell a t => (rdOf P t).map (.cell a)

structure CFn where
  nt : Nat
  res : List CRes
  code : CCode

def cFn (P : Program) (f : FuncId) : Option CFn :=
  match P.funcs[f]? with
  | some fn => match fn.body, fn.results.toList.mapM (cRes P) with
    | some c, some rs => match cCode P c with
      | some cc => if cc.fits fn.ntmps && callable P f then some ⟨fn.ntmps, rs, cc⟩ else none
      | none => none
    | _, _ => none
  | none => none

end Go.Eng
