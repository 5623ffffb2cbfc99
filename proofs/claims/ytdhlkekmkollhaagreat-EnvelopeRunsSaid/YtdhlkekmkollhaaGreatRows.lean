/-
  No cell of these rows narrows 'for every input' (looked for: loops, veiled, ifaces, maps, wideKeys, modest, calm, conditions, laid).
  DERIVED. THE GIVEN ROWS OF THIS SEAT. 3 by the template 'for every input the law returns true; each argument reads behind the call as it read before'; 0 by the template 'total and deterministic' (their statements: YtdhlkekmkollhaaGreatTotals.lean).
  GIVEN WITH THE SEED: the statements are not yours to turn. If you find one false, say at which input.
  Laid BY PROGRAM, IN A SANDBOX (cutbox-rows.mjs): the forced cells as the released guide's own fill.sh prints them over the translation ff059afa1bff06d5… (all of the seat's roots in one cut). By AI agents, Wed Nov 11 2026. No macro, syntax, notation, axiom, sorry.
-/
import Derived.Test.YtdhlkekmkollhaaGreatChecked
import GoSem.Claim
import GoSem.ClaimJoined
import GoSem.ClaimMapViews
import Derived.JoinedTies
import Derived.KernelRfl
namespace Go.Proofs.YtdhlkekmkollhaaGreat
/- THE CELL 'sum', in the pinned program and in every row, IS THE sha256 OF THE DUMP (.gsa) THAT YtdhlkekmkollhaaGreatProg.lean LOADS. Nothing in Lean hashes anything: it is a label: what it is worth is what the hold of that sum in a sandbox is worth. -/
noncomputable def Tryz.pinned : Pinned := { name := "ytdhlkekmkollhaagreat", sum := "ff059afa1bff06d5625fa43f5c7791b80071ff89e560775bbb66e5d247c36a27", checked := Tryz.checked }
namespace Rows
def none {H : Type} : Left H := { results := [], args := [] }

/-- 'crossbucklaw27.EnvelopeRuns': WHATEVER THE INPUT: true; the input reads as it did. -/
def envelopeRunsSpec : ChangeSpec := { name := "envelopeRuns", fn := fun _ => fun
  | [d1, d2] => { results := [.lit (.bool true)], args := [d1, d2] }
  | _ => none }
def envelopeRunsRow : OpenClaim := { program := "ytdhlkekmkollhaagreat", sum := "ff059afa1bff06d5625fa43f5c7791b80071ff89e560775bbb66e5d247c36a27", func := "crossbuck/crossbucklaw27.EnvelopeRuns", spec := "envelopeRuns", inPlace := ["math.Float64frombits", "math.Float64bits", "math.RoundToEven"], unfollowed := true, recurses := true, apart := false }
def EnvelopeRunsSaid : Prop := envelopeRunsRow.holds Tryz.pinned (OpenSpec.ofChange envelopeRunsSpec)

/-- ITS FALSE NEIGHBOUR: 'it returns false'. Refute it at one input. -/
def envelopeRunsWrong : ChangeSpec := { name := "envelopeRuns", fn := fun _ => fun
  | [d1, d2] => { results := [.lit (.bool false)], args := [d1, d2] }
  | _ => none }
def EnvelopeRunsWrongFalsely : Prop := envelopeRunsRow.holds Tryz.pinned (OpenSpec.ofChange envelopeRunsWrong)

/-- 'crossbucklaw27.EnvelopeBent': WHATEVER THE INPUT: true; the input reads as it did. -/
def envelopeBentSpec : ChangeSpec := { name := "envelopeBent", fn := fun _ => fun
  | [d1, d2, d3, d4, d5, d6] => { results := [.lit (.bool true)], args := [d1, d2, d3, d4, d5, d6] }
  | _ => none }
def envelopeBentRow : OpenClaim := { program := "ytdhlkekmkollhaagreat", sum := "ff059afa1bff06d5625fa43f5c7791b80071ff89e560775bbb66e5d247c36a27", func := "crossbuck/crossbucklaw27.EnvelopeBent", spec := "envelopeBent", inPlace := ["math.Float64frombits", "math.Float64bits", "math.RoundToEven"], unfollowed := true, recurses := true, apart := false }
def EnvelopeBentSaid : Prop := envelopeBentRow.holds Tryz.pinned (OpenSpec.ofChange envelopeBentSpec)

/-- ITS FALSE NEIGHBOUR: 'it returns false'. Refute it at one input. -/
def envelopeBentWrong : ChangeSpec := { name := "envelopeBent", fn := fun _ => fun
  | [d1, d2, d3, d4, d5, d6] => { results := [.lit (.bool false)], args := [d1, d2, d3, d4, d5, d6] }
  | _ => none }
def EnvelopeBentWrongFalsely : Prop := envelopeBentRow.holds Tryz.pinned (OpenSpec.ofChange envelopeBentWrong)

/-- 'crossbucklaw24.MonitorQuiet': WHATEVER THE INPUT: true; the input reads as it did. -/
def monitorQuietSpec : ChangeSpec := { name := "monitorQuiet", fn := fun _ => fun
  | [d1, d2] => { results := [.lit (.bool true)], args := [d1, d2] }
  | _ => none }
def monitorQuietRow : OpenClaim := { program := "ytdhlkekmkollhaagreat", sum := "ff059afa1bff06d5625fa43f5c7791b80071ff89e560775bbb66e5d247c36a27", func := "crossbuck/crossbucklaw24.MonitorQuiet", spec := "monitorQuiet", inPlace := ["math.Float64frombits", "math.Float64bits", "math.RoundToEven"], unfollowed := true, recurses := true, apart := false }
def MonitorQuietSaid : Prop := monitorQuietRow.holds Tryz.pinned (OpenSpec.ofChange monitorQuietSpec)

/-- ITS FALSE NEIGHBOUR: 'it returns false'. Refute it at one input. -/
def monitorQuietWrong : ChangeSpec := { name := "monitorQuiet", fn := fun _ => fun
  | [d1, d2] => { results := [.lit (.bool false)], args := [d1, d2] }
  | _ => none }
def MonitorQuietWrongFalsely : Prop := monitorQuietRow.holds Tryz.pinned (OpenSpec.ofChange monitorQuietWrong)

/- THE SECOND FORM. 'bulk': how many values and letters a reading holds, each counted each time it is reached (what is shared counts as often as it is met; a slice's spare places count too). A statement '..UptoSaid' is the law's where the arguments, and the package variables that the reading takes, are together of bulk at most 1048576: NARROWER than '..Said'. Prove '..Said' where nothing that the law and all that it calls make is longer than what came in: it says more and counts as full. Else prove '..UptoSaid'. A law counts once. -/
mutual
def uptoBulk {H : Type} : DataW H → Nat
  | .lit (.string bytes) => bytes.length + 1
  | .lit _ => 1
  | .nil => 1
  | .ptr d => uptoBulk d + 1
  | .slice elems spare => uptoBulkAll elems + uptoBulkAll spare + 1
  | .agg parts => uptoBulkAll parts + 1
  | .iface _ d => uptoBulk d + 1
  | .map entries => uptoBulkEntries entries + 1
  | .held _ => 1
def uptoBulkAll {H : Type} : List (DataW H) → Nat
  | [] => 0
  | d :: r => uptoBulk d + uptoBulkAll r
def uptoBulkEntries {H : Type} : List (Lit × DataW H) → Nat
  | [] => 0
  | x :: r => uptoBulkEntry x + uptoBulkEntries r
def uptoBulkEntry {H : Type} : Lit × DataW H → Nat
  | (.string bytes, d) => bytes.length + uptoBulk d + 1
  | (_, d) => uptoBulk d + 1
 end
def uptoSmall : (H : Type) → List (DataW H) → Bool := fun _ ds => decide (uptoBulkAll ds ≤ 1048576)
def OpenSpec.upto (s : _root_.Go.ChangeSpec) : _root_.Go.OpenSpec := { _root_.Go.OpenSpec.ofChange s with cond := some uptoSmall }

/-- 'crossbucklaw27.EnvelopeRuns', WHERE WHAT IT READS IS OF BULK AT MOST 1048576: true; the input reads as it did. -/
def envelopeRunsUptoRow : OpenClaim := { program := "ytdhlkekmkollhaagreat", sum := "ff059afa1bff06d5625fa43f5c7791b80071ff89e560775bbb66e5d247c36a27", func := "crossbuck/crossbucklaw27.EnvelopeRuns", spec := "envelopeRuns", inPlace := ["math.Float64frombits", "math.Float64bits", "math.RoundToEven"], unfollowed := true, recurses := true, apart := false, narrowed := true }
def EnvelopeRunsUptoSaid : Prop := envelopeRunsUptoRow.holds Tryz.pinned (OpenSpec.upto envelopeRunsSpec)

/-- 'crossbucklaw27.EnvelopeBent', WHERE WHAT IT READS IS OF BULK AT MOST 1048576: true; the input reads as it did. -/
def envelopeBentUptoRow : OpenClaim := { program := "ytdhlkekmkollhaagreat", sum := "ff059afa1bff06d5625fa43f5c7791b80071ff89e560775bbb66e5d247c36a27", func := "crossbuck/crossbucklaw27.EnvelopeBent", spec := "envelopeBent", inPlace := ["math.Float64frombits", "math.Float64bits", "math.RoundToEven"], unfollowed := true, recurses := true, apart := false, narrowed := true }
def EnvelopeBentUptoSaid : Prop := envelopeBentUptoRow.holds Tryz.pinned (OpenSpec.upto envelopeBentSpec)

/-- 'crossbucklaw24.MonitorQuiet', WHERE WHAT IT READS IS OF BULK AT MOST 1048576: true; the input reads as it did. -/
def monitorQuietUptoRow : OpenClaim := { program := "ytdhlkekmkollhaagreat", sum := "ff059afa1bff06d5625fa43f5c7791b80071ff89e560775bbb66e5d247c36a27", func := "crossbuck/crossbucklaw24.MonitorQuiet", spec := "monitorQuiet", inPlace := ["math.Float64frombits", "math.Float64bits", "math.RoundToEven"], unfollowed := true, recurses := true, apart := false, narrowed := true }
def MonitorQuietUptoSaid : Prop := monitorQuietUptoRow.holds Tryz.pinned (OpenSpec.upto monitorQuietSpec)

end Rows
end Go.Proofs.YtdhlkekmkollhaaGreat
