/-
  No cell of these rows narrows 'for every input' (looked for: loops, veiled, ifaces, maps, wideKeys, modest, calm, conditions, laid).
  DERIVED. THE GIVEN ROWS OF THIS SEAT. 2 by the template 'for every input the law returns true; each argument reads behind the call as it read before'; 0 by the template 'total and deterministic' (their statements: YtddfefpncbdaeaaTotals.lean).
  GIVEN WITH THE SEED: the statements are not yours to turn. If you find one false, say at which input.
  Laid BY PROGRAM, IN A SANDBOX (cutbox-rows.mjs): the forced cells as the released guide's own fill.sh prints them over the translation 03f42cfd94cc922b… (all of the seat's roots in one cut). By AI agents, Wed Nov 11 2026. No macro, syntax, notation, axiom, sorry.
-/
import Derived.Test.YtddfefpncbdaeaaChecked
import GoSem.Claim
import GoSem.ClaimJoined
import GoSem.ClaimMapViews
import Derived.JoinedTies
import Derived.KernelRfl
namespace Go.Proofs.Ytddfefpncbdaeaa
/- THE CELL 'sum', in the pinned program and in every row, IS THE sha256 OF THE DUMP (.gsa) THAT YtddfefpncbdaeaaProg.lean LOADS. Nothing in Lean hashes anything: it is a label: what it is worth is what the hold of that sum in a sandbox is worth. -/
noncomputable def Try.pinned : Pinned := { name := "ytddfefpncbdaeaa", sum := "03f42cfd94cc922bb406f304eaf0bcac14851d0b156acdf425c64922d9641d09", checked := Try.checked }
namespace Rows
def none {H : Type} : Left H := { results := [], args := [] }

/-- 'crossbucklaw06.TableOwn': WHATEVER THE INPUT: true; the input reads as it did. -/
def tableOwnSpec : ChangeSpec := { name := "tableOwn", fn := fun _ => fun
  | [d] => { results := [.lit (.bool true)], args := [d] }
  | _ => none }
def tableOwnRow : OpenClaim := { program := "ytddfefpncbdaeaa", sum := "03f42cfd94cc922bb406f304eaf0bcac14851d0b156acdf425c64922d9641d09", func := "crossbuck/crossbucklaw06.TableOwn", spec := "tableOwn", inPlace := ["math.Float64bits", "math.RoundToEven"], unfollowed := true, recurses := true, apart := false }
def TableOwnSaid : Prop := tableOwnRow.holds Try.pinned (OpenSpec.ofChange tableOwnSpec)

/-- ITS FALSE NEIGHBOUR: 'it returns false'. Refute it at one input. -/
def tableOwnWrong : ChangeSpec := { name := "tableOwn", fn := fun _ => fun
  | [d] => { results := [.lit (.bool false)], args := [d] }
  | _ => none }
def TableOwnWrongFalsely : Prop := tableOwnRow.holds Try.pinned (OpenSpec.ofChange tableOwnWrong)

/-- 'crossbucklaw06.TableFloats': WHATEVER THE INPUT: true; the input reads as it did. -/
def tableFloatsSpec : ChangeSpec := { name := "tableFloats", fn := fun _ => fun
  | [d1, d2] => { results := [.lit (.bool true)], args := [d1, d2] }
  | _ => none }
def tableFloatsRow : OpenClaim := { program := "ytddfefpncbdaeaa", sum := "03f42cfd94cc922bb406f304eaf0bcac14851d0b156acdf425c64922d9641d09", func := "crossbuck/crossbucklaw06.TableFloats", spec := "tableFloats", inPlace := ["math.RoundToEven", "math.Float64bits"], unfollowed := true, recurses := true, apart := false }
def TableFloatsSaid : Prop := tableFloatsRow.holds Try.pinned (OpenSpec.ofChange tableFloatsSpec)

/-- ITS FALSE NEIGHBOUR: 'it returns false'. Refute it at one input. -/
def tableFloatsWrong : ChangeSpec := { name := "tableFloats", fn := fun _ => fun
  | [d1, d2] => { results := [.lit (.bool false)], args := [d1, d2] }
  | _ => none }
def TableFloatsWrongFalsely : Prop := tableFloatsRow.holds Try.pinned (OpenSpec.ofChange tableFloatsWrong)

/- THE SECOND FORM. 'bulk': how many values and letters a reading holds, each counted each time it is reached (what is shared counts as often as it is met; a slice's spare places count too). A statement '..UptoSaid' is the law's where the arguments, and the package variables that the reading takes, are together of bulk at most 1048576: NARROWER than '..Said'. Prove '..Said' where nothing that the law and all that it calls make is longer than what came in: it says more and counts as full. Else prove '..UptoSaid'. A law counts once. -/
mutual
def uptoBulk {H : Type} : DataW H → Nat
  | .lit (.string bytes) => bytes.length + 1
  | .lit _ => 1
  | .nil => 1
  | .ptr d => uptoBulk d + 1
  | .slice elems spare => uptoBulkAll elems + uptoBulkAll spare + 1
  | .agg parts => uptoBulkAll parts + 1
  | .iface _ d => uptoBulk d + 1
  | .map entries => uptoBulkEntries entries + 1
  | .held _ => 1
def uptoBulkAll {H : Type} : List (DataW H) → Nat
  | [] => 0
  | d :: r => uptoBulk d + uptoBulkAll r
def uptoBulkEntries {H : Type} : List (Lit × DataW H) → Nat
  | [] => 0
  | x :: r => uptoBulkEntry x + uptoBulkEntries r
def uptoBulkEntry {H : Type} : Lit × DataW H → Nat
  | (.string bytes, d) => bytes.length + uptoBulk d + 1
  | (_, d) => uptoBulk d + 1
 end
def uptoSmall : (H : Type) → List (DataW H) → Bool := fun _ ds => decide (uptoBulkAll ds ≤ 1048576)
def OpenSpec.upto (s : _root_.Go.ChangeSpec) : _root_.Go.OpenSpec := { _root_.Go.OpenSpec.ofChange s with cond := some uptoSmall }

/-- 'crossbucklaw06.TableOwn', WHERE WHAT IT READS IS OF BULK AT MOST 1048576: true; the input reads as it did. -/
def tableOwnUptoRow : OpenClaim := { program := "ytddfefpncbdaeaa", sum := "03f42cfd94cc922bb406f304eaf0bcac14851d0b156acdf425c64922d9641d09", func := "crossbuck/crossbucklaw06.TableOwn", spec := "tableOwn", inPlace := ["math.Float64bits", "math.RoundToEven"], unfollowed := true, recurses := true, apart := false, narrowed := true }
def TableOwnUptoSaid : Prop := tableOwnUptoRow.holds Try.pinned (OpenSpec.upto tableOwnSpec)

/-- 'crossbucklaw06.TableFloats', WHERE WHAT IT READS IS OF BULK AT MOST 1048576: true; the input reads as it did. -/
def tableFloatsUptoRow : OpenClaim := { program := "ytddfefpncbdaeaa", sum := "03f42cfd94cc922bb406f304eaf0bcac14851d0b156acdf425c64922d9641d09", func := "crossbuck/crossbucklaw06.TableFloats", spec := "tableFloats", inPlace := ["math.RoundToEven", "math.Float64bits"], unfollowed := true, recurses := true, apart := false, narrowed := true }
def TableFloatsUptoSaid : Prop := tableFloatsUptoRow.holds Try.pinned (OpenSpec.upto tableFloatsSpec)

end Rows
end Go.Proofs.Ytddfefpncbdaeaa
