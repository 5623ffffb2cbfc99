/- LIBRARY, PART 0: tables as plain Lean values; how their cells lie. -/
import Derived.Test.YtmdlpepjodcjeaaEng19
namespace Go.Eng
set_option linter.unnecessarySimpa false
open Go
set_option linter.unusedVariables false
set_option linter.unusedSimpArgs false

abbrev I (n : Int) : AV := .int .i64 n
abbrev B (b : Bool) : AV := .bool b
abbrev D (n : Nat) : AV := .float .f64 n
def w64 (n : Int) : Int := IntKind.i64.wrap n

/-- a slice: nil, or a list -/
def slAV {α : Type} (f : α → List AV) : Option (List α) → AV
  | none => .nils
  | some l => .sl (l.map f)

def intRow (n : Int) : List AV := [I n]

structure Ph where
  on : Bool
  min : Int
  gap : Int
  max : Int
  top : Int
  step : Int
  yellow : Int
  red : Int
  walk : Int
  blinks : Int
  recall : Int
  lock : Bool
  rest : Bool
  deriving Inhabited, DecidableEq

def Ph.cells (p : Ph) : List AV := [B p.on, I p.min, I p.gap, I p.max, I p.top, I p.step, I p.yellow, I p.red, I p.walk, I p.blinks, I p.recall, B p.lock, B p.rest]

structure Det where
  phase : Int
  on : Nat
  off : Nat
  delay : Nat
  extend : Nat
  maxOn : Int
  maxOff : Int
  deriving Inhabited, DecidableEq

def Det.cells (d : Det) : List AV := [I d.phase, D d.on, D d.off, D d.delay, D d.extend, I d.maxOn, I d.maxOff]

structure Rl where
  bars : Int
  clear : Int
  dwell : Int
  exit : Int
  delay : Int
  green : Int
  foot : Int
  hold : Int
  stay : Int
  most : Int
  limit : Int
  deriving Inhabited, DecidableEq

def Rl.cells (r : Rl) : List AV := [I r.bars, I r.clear, I r.dwell, I r.exit, I r.delay, I r.green, I r.foot, I r.hold, I r.stay, I r.most, I r.limit]

structure Bs where
  set : Int
  lock : Int
  deriving Inhabited, DecidableEq

def Bs.cells (b : Bs) : List AV := [I b.set, I b.lock]

/-- a group: two rows -/
structure Gr where
  a : Option (List Int)
  b : Option (List Int)
  deriving Inhabited, DecidableEq

def Gr.cells (g : Gr) : List AV := [slAV intRow g.a, slAV intRow g.b]

structure Tb where
  phases : List Ph
  groups : Option (List Gr)
  conflict : List Int
  detectors : Option (List Det)
  rails : Option (List Rl)
  buses : Option (List Bs)
  extend : Int
  budget : Int
  start : Int
  revert : Int
  least : Int
  flash : List Int
  window : Int
  share : Int
  deriving Inhabited, DecidableEq

def Tb.cells (t : Tb) : List AV :=
  t.phases.flatMap Ph.cells ++ (slAV Gr.cells t.groups :: (t.conflict.map I ++ (slAV Det.cells t.detectors :: slAV Rl.cells t.rails :: slAV Bs.cells t.buses ::
    I t.extend :: I t.budget :: I t.start :: I t.revert :: I t.least :: (t.flash.map I ++ [I t.window, I t.share]))))

/-- eight of each -/
structure Tb.Ok (t : Tb) : Prop where
  phases : t.phases.length = 8
  conflict : t.conflict.length = 8
  flash : t.flash.length = 8
  groups : (t.groups.getD []).length ≤ 1048576
  rows : ∀ g ∈ t.groups.getD [], (g.a.getD []).length ≤ 1048576 ∧ (g.b.getD []).length ≤ 1048576
  dets : (t.detectors.getD []).length ≤ 1048576
  rails : (t.rails.getD []).length ≤ 1048576
  buses : (t.buses.getD []).length ≤ 1048576

theorem flatMap_len {α : Type} {f : α → List AV} {z : Nat} (hf : ∀ x, (f x).length = z) : ∀ {l : List α}, (l.flatMap f).length = l.length * z
  | [] => by simp
  | x :: l => by simp [List.flatMap_cons, hf, flatMap_len hf (l := l), Nat.add_mul]; omega

theorem Ph.len (p : Ph) : p.cells.length = 13 := rfl

theorem Tb.len {t : Tb} (h : t.Ok) : t.cells.length = 131 := by
  simp [Tb.cells, flatMap_len Ph.len, h.phases, h.conflict, h.flash]

theorem list_at {α : Type} : ∀ {l : List α} {i : Nat} {x : α}, l[i]? = some x → l = l.take i ++ x :: l.drop (i + 1)
  | [], i, x, h => by simp at h
  | y :: l, 0, x, h => by
    simp at h; subst h; simp
  | y :: l, i + 1, x, h => by
    have := list_at (l := l) (i := i) (x := x) (by simpa using h)
    simp only [List.take_succ_cons, List.drop_succ_cons, List.cons_append]
    exact congrArg (y :: ·) this

theorem flatMap_at {α : Type} {f : α → List AV} {l : List α} {i : Nat} {x : α} (h : l[i]? = some x) : l.flatMap f = (l.take i).flatMap f ++ (f x ++ (l.drop (i + 1)).flatMap f) := by
  conv => lhs; rw [list_at h]
  rw [List.flatMap_append, List.flatMap_cons]

theorem take_len {α : Type} {l : List α} {i : Nat} {x : α} (h : l[i]? = some x) : (l.take i).length = i := by
  have := (List.getElem?_eq_some_iff.1 h).1
  simp; omega

theorem part_mid {pre mid post : List AV} {off z : Nat} (h1 : pre.length = off) (h2 : mid.length = z) : partA (pre ++ (mid ++ post)) off (some z) = some (.agg mid) := by
  subst h1 h2
  have hle : pre.length + mid.length ≤ (pre ++ (mid ++ post)).length := by simp
  simp only [partA, hle, if_true, Option.some.injEq, AV.agg.injEq]
  simp

theorem set_mid {pre mid post ps : List AV} {off : Nat} (h1 : pre.length = off) (h2 : mid.length = ps.length) : setCells (pre ++ (mid ++ post)) off ps = pre ++ (ps ++ post) := by
  subst h1
  simp only [setCells]
  rw [← h2]
  simp [List.drop_append]

theorem set_all {cs ps : List AV} (h : cs.length = ps.length) : setCells cs 0 ps = ps := by
  simp only [setCells, List.take_zero, List.nil_append, Nat.zero_add, ← h, List.drop_length, List.append_nil]

/-- a phase of a table -/
theorem Tb.phase_part {t : Tb} {i : Nat} {p : Ph} (h : t.phases[i]? = some p) : partA t.cells (i * 13) (some 13) = some (.agg p.cells) := by
  unfold Tb.cells
  rw [flatMap_at h, List.append_assoc, List.append_assoc]
  exact part_mid (by rw [flatMap_len Ph.len, take_len h]) rfl

theorem set_at {α : Type} {l : List α} {i : Nat} {x y : α} (h : l[i]? = some x) : l.set i y = l.take i ++ y :: l.drop (i + 1) := by
  have hlt := (List.getElem?_eq_some_iff.1 h).1
  rw [List.set_eq_take_append_cons_drop, if_pos hlt]

theorem Tb.phase_set {t : Tb} {i : Nat} {p q : Ph} (h : t.phases[i]? = some p) : setCells t.cells (i * 13) q.cells = { t with phases := t.phases.set i q }.cells := by
  unfold Tb.cells
  simp only
  rw [set_at h, List.flatMap_append, List.flatMap_cons]
  conv => lhs; rw [flatMap_at h]
  rw [List.append_assoc, List.append_assoc, List.append_assoc, List.append_assoc]
  exact set_mid (by rw [flatMap_len Ph.len, take_len h]) rfl
end Go.Eng
