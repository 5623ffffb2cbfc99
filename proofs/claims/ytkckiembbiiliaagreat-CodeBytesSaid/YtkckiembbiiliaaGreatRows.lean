/-
  No cell of these rows narrows 'for every input' (looked for: loops, veiled, ifaces, maps, wideKeys, modest, calm, conditions, laid).
  DERIVED. THE GIVEN ROWS OF THIS SEAT. 5 by the template 'for every input the law returns true; each argument reads behind the call as it read before'; 0 by the template 'total and deterministic' (their statements: YtkckiembbiiliaaGreatTotals.lean).
  GIVEN WITH THE SEED: the statements are not yours to turn. If you find one false, say at which input.
  Laid BY PROGRAM, IN A SANDBOX (cutbox-rows.mjs): the forced cells as the released guide's own fill.sh prints them over the translation f390189110e7080e… (all of the seat's roots in one cut). By AI agents, Wed Nov 11 2026. No macro, syntax, notation, axiom, sorry.
-/
import Derived.Test.YtkckiembbiiliaaGreatChecked
import GoSem.Claim
import GoSem.ClaimJoined
import GoSem.ClaimMapViews
import Derived.JoinedTies
import Derived.KernelRfl
namespace Go.Proofs.YtkckiembbiiliaaGreat
/- THE CELL 'sum', in the pinned program and in every row, IS THE sha256 OF THE DUMP (.gsa) THAT YtkckiembbiiliaaGreatProg.lean LOADS. Nothing in Lean hashes anything: it is a label: what it is worth is what the hold of that sum in a sandbox is worth. -/
noncomputable def Tryz.pinned : Pinned := { name := "ytkckiembbiiliaagreat", sum := "f390189110e7080e874b1cf427ff188c16ca64a42a9c767b589c57c65a4330a9", checked := Tryz.checked }
namespace Rows
def none {H : Type} : Left H := { results := [], args := [] }

/-- 'crossbucklaw07.CodeReads': WHATEVER THE INPUT: true; the input reads as it did. -/
def codeReadsSpec : ChangeSpec := { name := "codeReads", fn := fun _ => fun
  | [d] => { results := [.lit (.bool true)], args := [d] }
  | _ => none }
def codeReadsRow : OpenClaim := { program := "ytkckiembbiiliaagreat", sum := "f390189110e7080e874b1cf427ff188c16ca64a42a9c767b589c57c65a4330a9", func := "crossbuck/crossbucklaw07.CodeReads", spec := "codeReads", inPlace := ["math.Float64frombits", "math.RoundToEven", "math.Float64bits"], unfollowed := true, recurses := true, apart := false }
def CodeReadsSaid : Prop := codeReadsRow.holds Tryz.pinned (OpenSpec.ofChange codeReadsSpec)

/-- ITS FALSE NEIGHBOUR: 'it returns false'. Refute it at one input. -/
def codeReadsWrong : ChangeSpec := { name := "codeReads", fn := fun _ => fun
  | [d] => { results := [.lit (.bool false)], args := [d] }
  | _ => none }
def CodeReadsWrongFalsely : Prop := codeReadsRow.holds Tryz.pinned (OpenSpec.ofChange codeReadsWrong)

/-- 'crossbucklaw07.CodeBack': WHATEVER THE INPUT: true; the input reads as it did. -/
def codeBackSpec : ChangeSpec := { name := "codeBack", fn := fun _ => fun
  | [d] => { results := [.lit (.bool true)], args := [d] }
  | _ => none }
def codeBackRow : OpenClaim := { program := "ytkckiembbiiliaagreat", sum := "f390189110e7080e874b1cf427ff188c16ca64a42a9c767b589c57c65a4330a9", func := "crossbuck/crossbucklaw07.CodeBack", spec := "codeBack", inPlace := ["math.RoundToEven", "math.Float64bits", "math.Float64frombits"], unfollowed := true, recurses := true, apart := false }
def CodeBackSaid : Prop := codeBackRow.holds Tryz.pinned (OpenSpec.ofChange codeBackSpec)

/-- ITS FALSE NEIGHBOUR: 'it returns false'. Refute it at one input. -/
def codeBackWrong : ChangeSpec := { name := "codeBack", fn := fun _ => fun
  | [d] => { results := [.lit (.bool false)], args := [d] }
  | _ => none }
def CodeBackWrongFalsely : Prop := codeBackRow.holds Tryz.pinned (OpenSpec.ofChange codeBackWrong)

/-- 'crossbucklaw07.CodeBytes': WHATEVER THE INPUT: true; the input reads as it did. -/
def codeBytesSpec : ChangeSpec := { name := "codeBytes", fn := fun _ => fun
  | [d1, d2, d3] => { results := [.lit (.bool true)], args := [d1, d2, d3] }
  | _ => none }
def codeBytesRow : OpenClaim := { program := "ytkckiembbiiliaagreat", sum := "f390189110e7080e874b1cf427ff188c16ca64a42a9c767b589c57c65a4330a9", func := "crossbuck/crossbucklaw07.CodeBytes", spec := "codeBytes", inPlace := ["math.Float64bits", "math.Float64frombits", "math.RoundToEven"], unfollowed := true, recurses := true, apart := false }
def CodeBytesSaid : Prop := codeBytesRow.holds Tryz.pinned (OpenSpec.ofChange codeBytesSpec)

/-- ITS FALSE NEIGHBOUR: 'it returns false'. Refute it at one input. -/
def codeBytesWrong : ChangeSpec := { name := "codeBytes", fn := fun _ => fun
  | [d1, d2, d3] => { results := [.lit (.bool false)], args := [d1, d2, d3] }
  | _ => none }
def CodeBytesWrongFalsely : Prop := codeBytesRow.holds Tryz.pinned (OpenSpec.ofChange codeBytesWrong)

/-- 'crossbucklaw07.CodeCut': WHATEVER THE INPUT: true; the input reads as it did. -/
def codeCutSpec : ChangeSpec := { name := "codeCut", fn := fun _ => fun
  | [d1, d2, d3] => { results := [.lit (.bool true)], args := [d1, d2, d3] }
  | _ => none }
def codeCutRow : OpenClaim := { program := "ytkckiembbiiliaagreat", sum := "f390189110e7080e874b1cf427ff188c16ca64a42a9c767b589c57c65a4330a9", func := "crossbuck/crossbucklaw07.CodeCut", spec := "codeCut", inPlace := ["math.Float64frombits", "math.RoundToEven", "math.Float64bits"], unfollowed := true, recurses := true, apart := false }
def CodeCutSaid : Prop := codeCutRow.holds Tryz.pinned (OpenSpec.ofChange codeCutSpec)

/-- ITS FALSE NEIGHBOUR: 'it returns false'. Refute it at one input. -/
def codeCutWrong : ChangeSpec := { name := "codeCut", fn := fun _ => fun
  | [d1, d2, d3] => { results := [.lit (.bool false)], args := [d1, d2, d3] }
  | _ => none }
def CodeCutWrongFalsely : Prop := codeCutRow.holds Tryz.pinned (OpenSpec.ofChange codeCutWrong)

/-- 'crossbucklaw07.CodeSpoilt': WHATEVER THE INPUT: true; the input reads as it did. -/
def codeSpoiltSpec : ChangeSpec := { name := "codeSpoilt", fn := fun _ => fun
  | [d1, d2, d3, d4] => { results := [.lit (.bool true)], args := [d1, d2, d3, d4] }
  | _ => none }
def codeSpoiltRow : OpenClaim := { program := "ytkckiembbiiliaagreat", sum := "f390189110e7080e874b1cf427ff188c16ca64a42a9c767b589c57c65a4330a9", func := "crossbuck/crossbucklaw07.CodeSpoilt", spec := "codeSpoilt", inPlace := ["math.RoundToEven", "math.Float64bits", "math.Float64frombits"], unfollowed := true, recurses := true, apart := false }
def CodeSpoiltSaid : Prop := codeSpoiltRow.holds Tryz.pinned (OpenSpec.ofChange codeSpoiltSpec)

/-- ITS FALSE NEIGHBOUR: 'it returns false'. Refute it at one input. -/
def codeSpoiltWrong : ChangeSpec := { name := "codeSpoilt", fn := fun _ => fun
  | [d1, d2, d3, d4] => { results := [.lit (.bool false)], args := [d1, d2, d3, d4] }
  | _ => none }
def CodeSpoiltWrongFalsely : Prop := codeSpoiltRow.holds Tryz.pinned (OpenSpec.ofChange codeSpoiltWrong)

/- THE SECOND FORM. 'bulk': how many values and letters a reading holds, each counted each time it is reached (what is shared counts as often as it is met; a slice's spare places count too). A statement '..UptoSaid' is the law's where the arguments, and the package variables that the reading takes, are together of bulk at most 1048576: NARROWER than '..Said'. Prove '..Said' where nothing that the law and all that it calls make is longer than what came in: it says more and counts as full. Else prove '..UptoSaid'. A law counts once. -/
mutual
def uptoBulk {H : Type} : DataW H → Nat
  | .lit (.string bytes) => bytes.length + 1
  | .lit _ => 1
  | .nil => 1
  | .ptr d => uptoBulk d + 1
  | .slice elems spare => uptoBulkAll elems + uptoBulkAll spare + 1
  | .agg parts => uptoBulkAll parts + 1
  | .iface _ d => uptoBulk d + 1
  | .map entries => uptoBulkEntries entries + 1
  | .held _ => 1
def uptoBulkAll {H : Type} : List (DataW H) → Nat
  | [] => 0
  | d :: r => uptoBulk d + uptoBulkAll r
def uptoBulkEntries {H : Type} : List (Lit × DataW H) → Nat
  | [] => 0
  | x :: r => uptoBulkEntry x + uptoBulkEntries r
def uptoBulkEntry {H : Type} : Lit × DataW H → Nat
  | (.string bytes, d) => bytes.length + uptoBulk d + 1
  | (_, d) => uptoBulk d + 1
 end
def uptoSmall : (H : Type) → List (DataW H) → Bool := fun _ ds => decide (uptoBulkAll ds ≤ 1048576)
def OpenSpec.upto (s : _root_.Go.ChangeSpec) : _root_.Go.OpenSpec := { _root_.Go.OpenSpec.ofChange s with cond := some uptoSmall }

/-- 'crossbucklaw07.CodeReads', WHERE WHAT IT READS IS OF BULK AT MOST 1048576: true; the input reads as it did. -/
def codeReadsUptoRow : OpenClaim := { program := "ytkckiembbiiliaagreat", sum := "f390189110e7080e874b1cf427ff188c16ca64a42a9c767b589c57c65a4330a9", func := "crossbuck/crossbucklaw07.CodeReads", spec := "codeReads", inPlace := ["math.Float64frombits", "math.RoundToEven", "math.Float64bits"], unfollowed := true, recurses := true, apart := false, narrowed := true }
def CodeReadsUptoSaid : Prop := codeReadsUptoRow.holds Tryz.pinned (OpenSpec.upto codeReadsSpec)

/-- 'crossbucklaw07.CodeBack', WHERE WHAT IT READS IS OF BULK AT MOST 1048576: true; the input reads as it did. -/
def codeBackUptoRow : OpenClaim := { program := "ytkckiembbiiliaagreat", sum := "f390189110e7080e874b1cf427ff188c16ca64a42a9c767b589c57c65a4330a9", func := "crossbuck/crossbucklaw07.CodeBack", spec := "codeBack", inPlace := ["math.RoundToEven", "math.Float64bits", "math.Float64frombits"], unfollowed := true, recurses := true, apart := false, narrowed := true }
def CodeBackUptoSaid : Prop := codeBackUptoRow.holds Tryz.pinned (OpenSpec.upto codeBackSpec)

/-- 'crossbucklaw07.CodeBytes', WHERE WHAT IT READS IS OF BULK AT MOST 1048576: true; the input reads as it did. -/
def codeBytesUptoRow : OpenClaim := { program := "ytkckiembbiiliaagreat", sum := "f390189110e7080e874b1cf427ff188c16ca64a42a9c767b589c57c65a4330a9", func := "crossbuck/crossbucklaw07.CodeBytes", spec := "codeBytes", inPlace := ["math.Float64bits", "math.Float64frombits", "math.RoundToEven"], unfollowed := true, recurses := true, apart := false, narrowed := true }
def CodeBytesUptoSaid : Prop := codeBytesUptoRow.holds Tryz.pinned (OpenSpec.upto codeBytesSpec)

/-- 'crossbucklaw07.CodeCut', WHERE WHAT IT READS IS OF BULK AT MOST 1048576: true; the input reads as it did. -/
def codeCutUptoRow : OpenClaim := { program := "ytkckiembbiiliaagreat", sum := "f390189110e7080e874b1cf427ff188c16ca64a42a9c767b589c57c65a4330a9", func := "crossbuck/crossbucklaw07.CodeCut", spec := "codeCut", inPlace := ["math.Float64frombits", "math.RoundToEven", "math.Float64bits"], unfollowed := true, recurses := true, apart := false, narrowed := true }
def CodeCutUptoSaid : Prop := codeCutUptoRow.holds Tryz.pinned (OpenSpec.upto codeCutSpec)

/-- 'crossbucklaw07.CodeSpoilt', WHERE WHAT IT READS IS OF BULK AT MOST 1048576: true; the input reads as it did. -/
def codeSpoiltUptoRow : OpenClaim := { program := "ytkckiembbiiliaagreat", sum := "f390189110e7080e874b1cf427ff188c16ca64a42a9c767b589c57c65a4330a9", func := "crossbuck/crossbucklaw07.CodeSpoilt", spec := "codeSpoilt", inPlace := ["math.RoundToEven", "math.Float64bits", "math.Float64frombits"], unfollowed := true, recurses := true, apart := false, narrowed := true }
def CodeSpoiltUptoSaid : Prop := codeSpoiltUptoRow.holds Tryz.pinned (OpenSpec.upto codeSpoiltSpec)

end Rows
end Go.Proofs.YtkckiembbiiliaaGreat
