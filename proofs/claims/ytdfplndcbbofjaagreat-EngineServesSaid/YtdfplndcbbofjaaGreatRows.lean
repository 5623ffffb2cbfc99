/-
  No cell of these rows narrows 'for every input' (looked for: loops, veiled, ifaces, maps, wideKeys, modest, calm, conditions, laid).
  DERIVED. THE GIVEN ROWS OF THIS SEAT. 5 by the template 'for every input the law returns true; each argument reads behind the call as it read before'; 0 by the template 'total and deterministic' (their statements: YtdfplndcbbofjaaGreatTotals.lean).
  GIVEN WITH THE SEED: the statements are not yours to turn. If you find one false, say at which input.
  Laid BY PROGRAM, IN A SANDBOX (cutbox-rows.mjs): the forced cells as the released guide's own fill.sh prints them over the translation ac0419e3f996bf29… (all of the seat's roots in one cut). By AI agents, Wed Nov 11 2026. No macro, syntax, notation, axiom, sorry.
-/
import Derived.Test.YtdfplndcbbofjaaGreatChecked
import GoSem.Claim
import GoSem.ClaimJoined
import GoSem.ClaimMapViews
import Derived.JoinedTies
import Derived.KernelRfl
namespace Go.Proofs.YtdfplndcbbofjaaGreat
/- THE CELL 'sum', in the pinned program and in every row, IS THE sha256 OF THE DUMP (.gsa) THAT YtdfplndcbbofjaaGreatProg.lean LOADS. Nothing in Lean hashes anything: it is a label: what it is worth is what the hold of that sum in a sandbox is worth. -/
noncomputable def Tryz.pinned : Pinned := { name := "ytdfplndcbbofjaagreat", sum := "ac0419e3f996bf294d6103520dadbe152c8beb71ae9ce33ffcc917e3be3afdf2", checked := Tryz.checked }
namespace Rows
def none {H : Type} : Left H := { results := [], args := [] }

/-- 'crossbucklaw22.EnginePlays': WHATEVER THE INPUT: true; the input reads as it did. -/
def enginePlaysSpec : ChangeSpec := { name := "enginePlays", fn := fun _ => fun
  | [d1, d2] => { results := [.lit (.bool true)], args := [d1, d2] }
  | _ => none }
def enginePlaysRow : OpenClaim := { program := "ytdfplndcbbofjaagreat", sum := "ac0419e3f996bf294d6103520dadbe152c8beb71ae9ce33ffcc917e3be3afdf2", func := "crossbuck/crossbucklaw22.EnginePlays", spec := "enginePlays", inPlace := ["math.Float64frombits", "math.Float64bits", "math.RoundToEven"], unfollowed := true, recurses := true, apart := false }
def EnginePlaysSaid : Prop := enginePlaysRow.holds Tryz.pinned (OpenSpec.ofChange enginePlaysSpec)

/-- ITS FALSE NEIGHBOUR: 'it returns false'. Refute it at one input. -/
def enginePlaysWrong : ChangeSpec := { name := "enginePlays", fn := fun _ => fun
  | [d1, d2] => { results := [.lit (.bool false)], args := [d1, d2] }
  | _ => none }
def EnginePlaysWrongFalsely : Prop := enginePlaysRow.holds Tryz.pinned (OpenSpec.ofChange enginePlaysWrong)

/-- 'crossbucklaw22.EngineSafe': WHATEVER THE INPUT: true; the input reads as it did. -/
def engineSafeSpec : ChangeSpec := { name := "engineSafe", fn := fun _ => fun
  | [d1, d2] => { results := [.lit (.bool true)], args := [d1, d2] }
  | _ => none }
def engineSafeRow : OpenClaim := { program := "ytdfplndcbbofjaagreat", sum := "ac0419e3f996bf294d6103520dadbe152c8beb71ae9ce33ffcc917e3be3afdf2", func := "crossbuck/crossbucklaw22.EngineSafe", spec := "engineSafe", inPlace := ["math.Float64frombits", "math.Float64bits", "math.RoundToEven"], unfollowed := true, recurses := true, apart := false }
def EngineSafeSaid : Prop := engineSafeRow.holds Tryz.pinned (OpenSpec.ofChange engineSafeSpec)

/-- ITS FALSE NEIGHBOUR: 'it returns false'. Refute it at one input. -/
def engineSafeWrong : ChangeSpec := { name := "engineSafe", fn := fun _ => fun
  | [d1, d2] => { results := [.lit (.bool false)], args := [d1, d2] }
  | _ => none }
def EngineSafeWrongFalsely : Prop := engineSafeRow.holds Tryz.pinned (OpenSpec.ofChange engineSafeWrong)

/-- 'crossbucklaw22.EngineKept': WHATEVER THE INPUT: true; the input reads as it did. -/
def engineKeptSpec : ChangeSpec := { name := "engineKept", fn := fun _ => fun
  | [d1, d2] => { results := [.lit (.bool true)], args := [d1, d2] }
  | _ => none }
def engineKeptRow : OpenClaim := { program := "ytdfplndcbbofjaagreat", sum := "ac0419e3f996bf294d6103520dadbe152c8beb71ae9ce33ffcc917e3be3afdf2", func := "crossbuck/crossbucklaw22.EngineKept", spec := "engineKept", inPlace := ["math.Float64frombits", "math.Float64bits", "math.RoundToEven"], unfollowed := true, recurses := true, apart := false }
def EngineKeptSaid : Prop := engineKeptRow.holds Tryz.pinned (OpenSpec.ofChange engineKeptSpec)

/-- ITS FALSE NEIGHBOUR: 'it returns false'. Refute it at one input. -/
def engineKeptWrong : ChangeSpec := { name := "engineKept", fn := fun _ => fun
  | [d1, d2] => { results := [.lit (.bool false)], args := [d1, d2] }
  | _ => none }
def EngineKeptWrongFalsely : Prop := engineKeptRow.holds Tryz.pinned (OpenSpec.ofChange engineKeptWrong)

/-- 'crossbucklaw22.EngineServes': WHATEVER THE INPUT: true; the input reads as it did. -/
def engineServesSpec : ChangeSpec := { name := "engineServes", fn := fun _ => fun
  | [d1, d2] => { results := [.lit (.bool true)], args := [d1, d2] }
  | _ => none }
def engineServesRow : OpenClaim := { program := "ytdfplndcbbofjaagreat", sum := "ac0419e3f996bf294d6103520dadbe152c8beb71ae9ce33ffcc917e3be3afdf2", func := "crossbuck/crossbucklaw22.EngineServes", spec := "engineServes", inPlace := ["math.Float64frombits", "math.Float64bits", "math.RoundToEven"], unfollowed := true, recurses := true, apart := false }
def EngineServesSaid : Prop := engineServesRow.holds Tryz.pinned (OpenSpec.ofChange engineServesSpec)

/-- ITS FALSE NEIGHBOUR: 'it returns false'. Refute it at one input. -/
def engineServesWrong : ChangeSpec := { name := "engineServes", fn := fun _ => fun
  | [d1, d2] => { results := [.lit (.bool false)], args := [d1, d2] }
  | _ => none }
def EngineServesWrongFalsely : Prop := engineServesRow.holds Tryz.pinned (OpenSpec.ofChange engineServesWrong)

/-- 'crossbucklaw22.EngineTwice': WHATEVER THE INPUT: true; the input reads as it did. -/
def engineTwiceSpec : ChangeSpec := { name := "engineTwice", fn := fun _ => fun
  | [d1, d2, d3] => { results := [.lit (.bool true)], args := [d1, d2, d3] }
  | _ => none }
def engineTwiceRow : OpenClaim := { program := "ytdfplndcbbofjaagreat", sum := "ac0419e3f996bf294d6103520dadbe152c8beb71ae9ce33ffcc917e3be3afdf2", func := "crossbuck/crossbucklaw22.EngineTwice", spec := "engineTwice", inPlace := ["math.Float64frombits", "math.Float64bits", "math.RoundToEven"], unfollowed := true, recurses := true, apart := false }
def EngineTwiceSaid : Prop := engineTwiceRow.holds Tryz.pinned (OpenSpec.ofChange engineTwiceSpec)

/-- ITS FALSE NEIGHBOUR: 'it returns false'. Refute it at one input. -/
def engineTwiceWrong : ChangeSpec := { name := "engineTwice", fn := fun _ => fun
  | [d1, d2, d3] => { results := [.lit (.bool false)], args := [d1, d2, d3] }
  | _ => none }
def EngineTwiceWrongFalsely : Prop := engineTwiceRow.holds Tryz.pinned (OpenSpec.ofChange engineTwiceWrong)

/- THE SECOND FORM. 'bulk': how many values and letters a reading holds, each counted each time it is reached (what is shared counts as often as it is met; a slice's spare places count too). A statement '..UptoSaid' is the law's where the arguments, and the package variables that the reading takes, are together of bulk at most 1048576: NARROWER than '..Said'. Prove '..Said' where nothing that the law and all that it calls make is longer than what came in: it says more and counts as full. Else prove '..UptoSaid'. A law counts once. -/
mutual
def uptoBulk {H : Type} : DataW H → Nat
  | .lit (.string bytes) => bytes.length + 1
  | .lit _ => 1
  | .nil => 1
  | .ptr d => uptoBulk d + 1
  | .slice elems spare => uptoBulkAll elems + uptoBulkAll spare + 1
  | .agg parts => uptoBulkAll parts + 1
  | .iface _ d => uptoBulk d + 1
  | .map entries => uptoBulkEntries entries + 1
  | .held _ => 1
def uptoBulkAll {H : Type} : List (DataW H) → Nat
  | [] => 0
  | d :: r => uptoBulk d + uptoBulkAll r
def uptoBulkEntries {H : Type} : List (Lit × DataW H) → Nat
  | [] => 0
  | x :: r => uptoBulkEntry x + uptoBulkEntries r
def uptoBulkEntry {H : Type} : Lit × DataW H → Nat
  | (.string bytes, d) => bytes.length + uptoBulk d + 1
  | (_, d) => uptoBulk d + 1
 end
def uptoSmall : (H : Type) → List (DataW H) → Bool := fun _ ds => decide (uptoBulkAll ds ≤ 1048576)
def OpenSpec.upto (s : _root_.Go.ChangeSpec) : _root_.Go.OpenSpec := { _root_.Go.OpenSpec.ofChange s with cond := some uptoSmall }

/-- 'crossbucklaw22.EnginePlays', WHERE WHAT IT READS IS OF BULK AT MOST 1048576: true; the input reads as it did. -/
def enginePlaysUptoRow : OpenClaim := { program := "ytdfplndcbbofjaagreat", sum := "ac0419e3f996bf294d6103520dadbe152c8beb71ae9ce33ffcc917e3be3afdf2", func := "crossbuck/crossbucklaw22.EnginePlays", spec := "enginePlays", inPlace := ["math.Float64frombits", "math.Float64bits", "math.RoundToEven"], unfollowed := true, recurses := true, apart := false, narrowed := true }
def EnginePlaysUptoSaid : Prop := enginePlaysUptoRow.holds Tryz.pinned (OpenSpec.upto enginePlaysSpec)

/-- 'crossbucklaw22.EngineSafe', WHERE WHAT IT READS IS OF BULK AT MOST 1048576: true; the input reads as it did. -/
def engineSafeUptoRow : OpenClaim := { program := "ytdfplndcbbofjaagreat", sum := "ac0419e3f996bf294d6103520dadbe152c8beb71ae9ce33ffcc917e3be3afdf2", func := "crossbuck/crossbucklaw22.EngineSafe", spec := "engineSafe", inPlace := ["math.Float64frombits", "math.Float64bits", "math.RoundToEven"], unfollowed := true, recurses := true, apart := false, narrowed := true }
def EngineSafeUptoSaid : Prop := engineSafeUptoRow.holds Tryz.pinned (OpenSpec.upto engineSafeSpec)

/-- 'crossbucklaw22.EngineKept', WHERE WHAT IT READS IS OF BULK AT MOST 1048576: true; the input reads as it did. -/
def engineKeptUptoRow : OpenClaim := { program := "ytdfplndcbbofjaagreat", sum := "ac0419e3f996bf294d6103520dadbe152c8beb71ae9ce33ffcc917e3be3afdf2", func := "crossbuck/crossbucklaw22.EngineKept", spec := "engineKept", inPlace := ["math.Float64frombits", "math.Float64bits", "math.RoundToEven"], unfollowed := true, recurses := true, apart := false, narrowed := true }
def EngineKeptUptoSaid : Prop := engineKeptUptoRow.holds Tryz.pinned (OpenSpec.upto engineKeptSpec)

/-- 'crossbucklaw22.EngineServes', WHERE WHAT IT READS IS OF BULK AT MOST 1048576: true; the input reads as it did. -/
def engineServesUptoRow : OpenClaim := { program := "ytdfplndcbbofjaagreat", sum := "ac0419e3f996bf294d6103520dadbe152c8beb71ae9ce33ffcc917e3be3afdf2", func := "crossbuck/crossbucklaw22.EngineServes", spec := "engineServes", inPlace := ["math.Float64frombits", "math.Float64bits", "math.RoundToEven"], unfollowed := true, recurses := true, apart := false, narrowed := true }
def EngineServesUptoSaid : Prop := engineServesUptoRow.holds Tryz.pinned (OpenSpec.upto engineServesSpec)

/-- 'crossbucklaw22.EngineTwice', WHERE WHAT IT READS IS OF BULK AT MOST 1048576: true; the input reads as it did. -/
def engineTwiceUptoRow : OpenClaim := { program := "ytdfplndcbbofjaagreat", sum := "ac0419e3f996bf294d6103520dadbe152c8beb71ae9ce33ffcc917e3be3afdf2", func := "crossbuck/crossbucklaw22.EngineTwice", spec := "engineTwice", inPlace := ["math.Float64frombits", "math.Float64bits", "math.RoundToEven"], unfollowed := true, recurses := true, apart := false, narrowed := true }
def EngineTwiceUptoSaid : Prop := engineTwiceUptoRow.holds Tryz.pinned (OpenSpec.upto engineTwiceSpec)

end Rows
end Go.Proofs.YtdfplndcbbofjaaGreat
