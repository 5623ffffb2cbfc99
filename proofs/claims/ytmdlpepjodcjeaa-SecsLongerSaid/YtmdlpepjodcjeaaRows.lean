/-
  No cell of these rows narrows 'for every input' (looked for: loops, veiled, ifaces, maps, wideKeys, modest, calm, conditions, laid).
  DERIVED. THE GIVEN ROWS OF THIS SEAT. 5 by the template 'for every input the law returns true; each argument reads behind the call as it read before'; 0 by the template 'total and deterministic' (their statements: YtmdlpepjodcjeaaTotals.lean).
  GIVEN WITH THE SEED: the statements are not yours to turn. If you find one false, say at which input.
  Laid BY PROGRAM, IN A SANDBOX (cutbox-rows.mjs): the forced cells as the released guide's own fill.sh prints them over the translation 4b1299a707f1508d… (all of the seat's roots in one cut). By AI agents, Wed Nov 11 2026. No macro, syntax, notation, axiom, sorry.
-/
import Derived.Test.YtmdlpepjodcjeaaChecked
import GoSem.Claim
import GoSem.ClaimJoined
import GoSem.ClaimMapViews
import Derived.JoinedTies
import Derived.KernelRfl
namespace Go.Proofs.Ytmdlpepjodcjeaa
/- THE CELL 'sum', in the pinned program and in every row, IS THE sha256 OF THE DUMP (.gsa) THAT YtmdlpepjodcjeaaProg.lean LOADS. Nothing in Lean hashes anything: it is a label: what it is worth is what the hold of that sum in a sandbox is worth. -/
noncomputable def Try.pinned : Pinned := { name := "ytmdlpepjodcjeaa", sum := "4b1299a707f1508d493c4c7a849b59394b7f2705871ed91008c5bf2587bf63f8", checked := Try.checked }
namespace Rows
def none {H : Type} : Left H := { results := [], args := [] }

/-- 'crossbucklaw02.SecsBack': WHATEVER THE INPUT: true; the input reads as it did. -/
def secsBackSpec : ChangeSpec := { name := "secsBack", fn := fun _ => fun
  | [d1, d2] => { results := [.lit (.bool true)], args := [d1, d2] }
  | _ => none }
def secsBackRow : OpenClaim := { program := "ytmdlpepjodcjeaa", sum := "4b1299a707f1508d493c4c7a849b59394b7f2705871ed91008c5bf2587bf63f8", func := "crossbuck/crossbucklaw02.SecsBack", spec := "secsBack", inPlace := ["math.RoundToEven", "math.Float64bits"], apart := false }
def SecsBackSaid : Prop := secsBackRow.holds Try.pinned (OpenSpec.ofChange secsBackSpec)

/-- ITS FALSE NEIGHBOUR: 'it returns false'. Refute it at one input. -/
def secsBackWrong : ChangeSpec := { name := "secsBack", fn := fun _ => fun
  | [d1, d2] => { results := [.lit (.bool false)], args := [d1, d2] }
  | _ => none }
def SecsBackWrongFalsely : Prop := secsBackRow.holds Try.pinned (OpenSpec.ofChange secsBackWrong)

/-- 'crossbucklaw02.SecsRise': WHATEVER THE INPUT: true; the input reads as it did. -/
def secsRiseSpec : ChangeSpec := { name := "secsRise", fn := fun _ => fun
  | [d1, d2, d3] => { results := [.lit (.bool true)], args := [d1, d2, d3] }
  | _ => none }
def secsRiseRow : OpenClaim := { program := "ytmdlpepjodcjeaa", sum := "4b1299a707f1508d493c4c7a849b59394b7f2705871ed91008c5bf2587bf63f8", func := "crossbuck/crossbucklaw02.SecsRise", spec := "secsRise", inPlace := ["math.RoundToEven"], apart := false }
def SecsRiseSaid : Prop := secsRiseRow.holds Try.pinned (OpenSpec.ofChange secsRiseSpec)

/-- ITS FALSE NEIGHBOUR: 'it returns false'. Refute it at one input. -/
def secsRiseWrong : ChangeSpec := { name := "secsRise", fn := fun _ => fun
  | [d1, d2, d3] => { results := [.lit (.bool false)], args := [d1, d2, d3] }
  | _ => none }
def SecsRiseWrongFalsely : Prop := secsRiseRow.holds Try.pinned (OpenSpec.ofChange secsRiseWrong)

/-- 'crossbucklaw02.SecsLonger': WHATEVER THE INPUT: true; the input reads as it did. -/
def secsLongerSpec : ChangeSpec := { name := "secsLonger", fn := fun _ => fun
  | [d1, d2, d3] => { results := [.lit (.bool true)], args := [d1, d2, d3] }
  | _ => none }
def secsLongerRow : OpenClaim := { program := "ytmdlpepjodcjeaa", sum := "4b1299a707f1508d493c4c7a849b59394b7f2705871ed91008c5bf2587bf63f8", func := "crossbuck/crossbucklaw02.SecsLonger", spec := "secsLonger", inPlace := ["math.Float64bits", "math.Float64frombits", "math.RoundToEven"], apart := false }
def SecsLongerSaid : Prop := secsLongerRow.holds Try.pinned (OpenSpec.ofChange secsLongerSpec)

/-- ITS FALSE NEIGHBOUR: 'it returns false'. Refute it at one input. -/
def secsLongerWrong : ChangeSpec := { name := "secsLonger", fn := fun _ => fun
  | [d1, d2, d3] => { results := [.lit (.bool false)], args := [d1, d2, d3] }
  | _ => none }
def SecsLongerWrongFalsely : Prop := secsLongerRow.holds Try.pinned (OpenSpec.ofChange secsLongerWrong)

/-- 'crossbucklaw02.SecsAll': WHATEVER THE INPUT: true; the input reads as it did. -/
def secsAllSpec : ChangeSpec := { name := "secsAll", fn := fun _ => fun
  | [d] => { results := [.lit (.bool true)], args := [d] }
  | _ => none }
def secsAllRow : OpenClaim := { program := "ytmdlpepjodcjeaa", sum := "4b1299a707f1508d493c4c7a849b59394b7f2705871ed91008c5bf2587bf63f8", func := "crossbuck/crossbucklaw02.SecsAll", spec := "secsAll", inPlace := ["math.RoundToEven", "math.Float64bits"], apart := false }
def SecsAllSaid : Prop := secsAllRow.holds Try.pinned (OpenSpec.ofChange secsAllSpec)

/-- ITS FALSE NEIGHBOUR: 'it returns false'. Refute it at one input. -/
def secsAllWrong : ChangeSpec := { name := "secsAll", fn := fun _ => fun
  | [d] => { results := [.lit (.bool false)], args := [d] }
  | _ => none }
def SecsAllWrongFalsely : Prop := secsAllRow.holds Try.pinned (OpenSpec.ofChange secsAllWrong)

/-- 'crossbucklaw02.SecsClean': WHATEVER THE INPUT: true; the input reads as it did. -/
def secsCleanSpec : ChangeSpec := { name := "secsClean", fn := fun _ => fun
  | [d] => { results := [.lit (.bool true)], args := [d] }
  | _ => none }
def secsCleanRow : OpenClaim := { program := "ytmdlpepjodcjeaa", sum := "4b1299a707f1508d493c4c7a849b59394b7f2705871ed91008c5bf2587bf63f8", func := "crossbuck/crossbucklaw02.SecsClean", spec := "secsClean", inPlace := ["math.RoundToEven", "math.Float64bits"], apart := false }
def SecsCleanSaid : Prop := secsCleanRow.holds Try.pinned (OpenSpec.ofChange secsCleanSpec)

/-- ITS FALSE NEIGHBOUR: 'it returns false'. Refute it at one input. -/
def secsCleanWrong : ChangeSpec := { name := "secsClean", fn := fun _ => fun
  | [d] => { results := [.lit (.bool false)], args := [d] }
  | _ => none }
def SecsCleanWrongFalsely : Prop := secsCleanRow.holds Try.pinned (OpenSpec.ofChange secsCleanWrong)

/- THE SECOND FORM. 'bulk': how many values and letters a reading holds, each counted each time it is reached (what is shared counts as often as it is met; a slice's spare places count too). A statement '..UptoSaid' is the law's where the arguments, and the package variables that the reading takes, are together of bulk at most 1048576: NARROWER than '..Said'. Prove '..Said' where nothing that the law and all that it calls make is longer than what came in: it says more and counts as full. Else prove '..UptoSaid'. A law counts once. -/
mutual
def uptoBulk {H : Type} : DataW H → Nat
  | .lit (.string bytes) => bytes.length + 1
  | .lit _ => 1
  | .nil => 1
  | .ptr d => uptoBulk d + 1
  | .slice elems spare => uptoBulkAll elems + uptoBulkAll spare + 1
  | .agg parts => uptoBulkAll parts + 1
  | .iface _ d => uptoBulk d + 1
  | .map entries => uptoBulkEntries entries + 1
  | .held _ => 1
def uptoBulkAll {H : Type} : List (DataW H) → Nat
  | [] => 0
  | d :: r => uptoBulk d + uptoBulkAll r
def uptoBulkEntries {H : Type} : List (Lit × DataW H) → Nat
  | [] => 0
  | x :: r => uptoBulkEntry x + uptoBulkEntries r
def uptoBulkEntry {H : Type} : Lit × DataW H → Nat
  | (.string bytes, d) => bytes.length + uptoBulk d + 1
  | (_, d) => uptoBulk d + 1
 end
def uptoSmall : (H : Type) → List (DataW H) → Bool := fun _ ds => decide (uptoBulkAll ds ≤ 1048576)
def OpenSpec.upto (s : _root_.Go.ChangeSpec) : _root_.Go.OpenSpec := { _root_.Go.OpenSpec.ofChange s with cond := some uptoSmall }

/-- 'crossbucklaw02.SecsBack', WHERE WHAT IT READS IS OF BULK AT MOST 1048576: true; the input reads as it did. -/
def secsBackUptoRow : OpenClaim := { program := "ytmdlpepjodcjeaa", sum := "4b1299a707f1508d493c4c7a849b59394b7f2705871ed91008c5bf2587bf63f8", func := "crossbuck/crossbucklaw02.SecsBack", spec := "secsBack", inPlace := ["math.RoundToEven", "math.Float64bits"], apart := false, narrowed := true }
def SecsBackUptoSaid : Prop := secsBackUptoRow.holds Try.pinned (OpenSpec.upto secsBackSpec)

/-- 'crossbucklaw02.SecsRise', WHERE WHAT IT READS IS OF BULK AT MOST 1048576: true; the input reads as it did. -/
def secsRiseUptoRow : OpenClaim := { program := "ytmdlpepjodcjeaa", sum := "4b1299a707f1508d493c4c7a849b59394b7f2705871ed91008c5bf2587bf63f8", func := "crossbuck/crossbucklaw02.SecsRise", spec := "secsRise", inPlace := ["math.RoundToEven"], apart := false, narrowed := true }
def SecsRiseUptoSaid : Prop := secsRiseUptoRow.holds Try.pinned (OpenSpec.upto secsRiseSpec)

/-- 'crossbucklaw02.SecsLonger', WHERE WHAT IT READS IS OF BULK AT MOST 1048576: true; the input reads as it did. -/
def secsLongerUptoRow : OpenClaim := { program := "ytmdlpepjodcjeaa", sum := "4b1299a707f1508d493c4c7a849b59394b7f2705871ed91008c5bf2587bf63f8", func := "crossbuck/crossbucklaw02.SecsLonger", spec := "secsLonger", inPlace := ["math.Float64bits", "math.Float64frombits", "math.RoundToEven"], apart := false, narrowed := true }
def SecsLongerUptoSaid : Prop := secsLongerUptoRow.holds Try.pinned (OpenSpec.upto secsLongerSpec)

/-- 'crossbucklaw02.SecsAll', WHERE WHAT IT READS IS OF BULK AT MOST 1048576: true; the input reads as it did. -/
def secsAllUptoRow : OpenClaim := { program := "ytmdlpepjodcjeaa", sum := "4b1299a707f1508d493c4c7a849b59394b7f2705871ed91008c5bf2587bf63f8", func := "crossbuck/crossbucklaw02.SecsAll", spec := "secsAll", inPlace := ["math.RoundToEven", "math.Float64bits"], apart := false, narrowed := true }
def SecsAllUptoSaid : Prop := secsAllUptoRow.holds Try.pinned (OpenSpec.upto secsAllSpec)

/-- 'crossbucklaw02.SecsClean', WHERE WHAT IT READS IS OF BULK AT MOST 1048576: true; the input reads as it did. -/
def secsCleanUptoRow : OpenClaim := { program := "ytmdlpepjodcjeaa", sum := "4b1299a707f1508d493c4c7a849b59394b7f2705871ed91008c5bf2587bf63f8", func := "crossbuck/crossbucklaw02.SecsClean", spec := "secsClean", inPlace := ["math.RoundToEven", "math.Float64bits"], apart := false, narrowed := true }
def SecsCleanUptoSaid : Prop := secsCleanUptoRow.holds Try.pinned (OpenSpec.upto secsCleanSpec)

end Rows
end Go.Proofs.Ytmdlpepjodcjeaa
