/-
  No cell of these rows narrows 'for every input' (looked for: loops, veiled, ifaces, maps, wideKeys, modest, calm, conditions, laid).
  DERIVED. THE GIVEN ROWS OF THIS SEAT. 4 by the template 'for every input the law returns true; each argument reads behind the call as it read before'; 0 by the template 'total and deterministic' (their statements: YthghbmjeihahmaaTotals.lean).
  GIVEN WITH THE SEED: the statements are not yours to turn. If you find one false, say at which input.
  Laid BY PROGRAM, IN A SANDBOX (cutbox-rows.mjs): the forced cells as the released guide's own fill.sh prints them over the translation 73e1a69a3ff1d438… (all of the seat's roots in one cut). By AI agents, Wed Nov 11 2026. No macro, syntax, notation, axiom, sorry.
-/
import Derived.Test.YthghbmjeihahmaaChecked
import GoSem.Claim
import GoSem.ClaimJoined
import GoSem.ClaimMapViews
import Derived.JoinedTies
import Derived.KernelRfl
namespace Go.Proofs.Ythghbmjeihahmaa
/- THE CELL 'sum', in the pinned program and in every row, IS THE sha256 OF THE DUMP (.gsa) THAT YthghbmjeihahmaaProg.lean LOADS. Nothing in Lean hashes anything: it is a label: what it is worth is what the hold of that sum in a sandbox is worth. -/
noncomputable def Try.pinned : Pinned := { name := "ythghbmjeihahmaa", sum := "73e1a69a3ff1d438f6f1ae34327c19914afd7318afbb9549d05c2439a18ec931", checked := Try.checked }
namespace Rows
def none {H : Type} : Left H := { results := [], args := [] }

/-- 'crossbucklaw24.MonitorAll': WHATEVER THE INPUT: true; the input reads as it did. -/
def monitorAllSpec : ChangeSpec := { name := "monitorAll", fn := fun _ => fun
  | [d1, d2, d3] => { results := [.lit (.bool true)], args := [d1, d2, d3] }
  | _ => none }
def monitorAllRow : OpenClaim := { program := "ythghbmjeihahmaa", sum := "73e1a69a3ff1d438f6f1ae34327c19914afd7318afbb9549d05c2439a18ec931", func := "crossbuck/crossbucklaw24.MonitorAll", spec := "monitorAll", unfollowed := true, recurses := true, apart := false }
def MonitorAllSaid : Prop := monitorAllRow.holds Try.pinned (OpenSpec.ofChange monitorAllSpec)

/-- ITS FALSE NEIGHBOUR: 'it returns false'. Refute it at one input. -/
def monitorAllWrong : ChangeSpec := { name := "monitorAll", fn := fun _ => fun
  | [d1, d2, d3] => { results := [.lit (.bool false)], args := [d1, d2, d3] }
  | _ => none }
def MonitorAllWrongFalsely : Prop := monitorAllRow.holds Try.pinned (OpenSpec.ofChange monitorAllWrong)

/-- 'crossbucklaw24.MonitorPlays': WHATEVER THE INPUT: true; the input reads as it did. -/
def monitorPlaysSpec : ChangeSpec := { name := "monitorPlays", fn := fun _ => fun
  | [d1, d2] => { results := [.lit (.bool true)], args := [d1, d2] }
  | _ => none }
def monitorPlaysRow : OpenClaim := { program := "ythghbmjeihahmaa", sum := "73e1a69a3ff1d438f6f1ae34327c19914afd7318afbb9549d05c2439a18ec931", func := "crossbuck/crossbucklaw24.MonitorPlays", spec := "monitorPlays", unfollowed := true, recurses := true, apart := false }
def MonitorPlaysSaid : Prop := monitorPlaysRow.holds Try.pinned (OpenSpec.ofChange monitorPlaysSpec)

/-- ITS FALSE NEIGHBOUR: 'it returns false'. Refute it at one input. -/
def monitorPlaysWrong : ChangeSpec := { name := "monitorPlays", fn := fun _ => fun
  | [d1, d2] => { results := [.lit (.bool false)], args := [d1, d2] }
  | _ => none }
def MonitorPlaysWrongFalsely : Prop := monitorPlaysRow.holds Try.pinned (OpenSpec.ofChange monitorPlaysWrong)

/-- 'crossbucklaw24.MonitorFinds': WHATEVER THE INPUT: true; the input reads as it did. -/
def monitorFindsSpec : ChangeSpec := { name := "monitorFinds", fn := fun _ => fun
  | [d1, d2, d3, d4] => { results := [.lit (.bool true)], args := [d1, d2, d3, d4] }
  | _ => none }
def monitorFindsRow : OpenClaim := { program := "ythghbmjeihahmaa", sum := "73e1a69a3ff1d438f6f1ae34327c19914afd7318afbb9549d05c2439a18ec931", func := "crossbuck/crossbucklaw24.MonitorFinds", spec := "monitorFinds", unfollowed := true, recurses := true, apart := false }
def MonitorFindsSaid : Prop := monitorFindsRow.holds Try.pinned (OpenSpec.ofChange monitorFindsSpec)

/-- ITS FALSE NEIGHBOUR: 'it returns false'. Refute it at one input. -/
def monitorFindsWrong : ChangeSpec := { name := "monitorFinds", fn := fun _ => fun
  | [d1, d2, d3, d4] => { results := [.lit (.bool false)], args := [d1, d2, d3, d4] }
  | _ => none }
def MonitorFindsWrongFalsely : Prop := monitorFindsRow.holds Try.pinned (OpenSpec.ofChange monitorFindsWrong)

/-- 'crossbucklaw24.MonitorClash': WHATEVER THE INPUT: true; the input reads as it did. -/
def monitorClashSpec : ChangeSpec := { name := "monitorClash", fn := fun _ => fun
  | [d1, d2, d3, d4] => { results := [.lit (.bool true)], args := [d1, d2, d3, d4] }
  | _ => none }
def monitorClashRow : OpenClaim := { program := "ythghbmjeihahmaa", sum := "73e1a69a3ff1d438f6f1ae34327c19914afd7318afbb9549d05c2439a18ec931", func := "crossbuck/crossbucklaw24.MonitorClash", spec := "monitorClash", unfollowed := true, recurses := true, apart := false }
def MonitorClashSaid : Prop := monitorClashRow.holds Try.pinned (OpenSpec.ofChange monitorClashSpec)

/-- ITS FALSE NEIGHBOUR: 'it returns false'. Refute it at one input. -/
def monitorClashWrong : ChangeSpec := { name := "monitorClash", fn := fun _ => fun
  | [d1, d2, d3, d4] => { results := [.lit (.bool false)], args := [d1, d2, d3, d4] }
  | _ => none }
def MonitorClashWrongFalsely : Prop := monitorClashRow.holds Try.pinned (OpenSpec.ofChange monitorClashWrong)

/- THE SECOND FORM. 'bulk': how many values and letters a reading holds, each counted each time it is reached (what is shared counts as often as it is met; a slice's spare places count too). A statement '..UptoSaid' is the law's where the arguments, and the package variables that the reading takes, are together of bulk at most 1048576: NARROWER than '..Said'. Prove '..Said' where nothing that the law and all that it calls make is longer than what came in: it says more and counts as full. Else prove '..UptoSaid'. A law counts once. -/
mutual
def uptoBulk {H : Type} : DataW H → Nat
  | .lit (.string bytes) => bytes.length + 1
  | .lit _ => 1
  | .nil => 1
  | .ptr d => uptoBulk d + 1
  | .slice elems spare => uptoBulkAll elems + uptoBulkAll spare + 1
  | .agg parts => uptoBulkAll parts + 1
  | .iface _ d => uptoBulk d + 1
  | .map entries => uptoBulkEntries entries + 1
  | .held _ => 1
def uptoBulkAll {H : Type} : List (DataW H) → Nat
  | [] => 0
  | d :: r => uptoBulk d + uptoBulkAll r
def uptoBulkEntries {H : Type} : List (Lit × DataW H) → Nat
  | [] => 0
  | x :: r => uptoBulkEntry x + uptoBulkEntries r
def uptoBulkEntry {H : Type} : Lit × DataW H → Nat
  | (.string bytes, d) => bytes.length + uptoBulk d + 1
  | (_, d) => uptoBulk d + 1
 end
def uptoSmall : (H : Type) → List (DataW H) → Bool := fun _ ds => decide (uptoBulkAll ds ≤ 1048576)
def OpenSpec.upto (s : _root_.Go.ChangeSpec) : _root_.Go.OpenSpec := { _root_.Go.OpenSpec.ofChange s with cond := some uptoSmall }

/-- 'crossbucklaw24.MonitorAll', WHERE WHAT IT READS IS OF BULK AT MOST 1048576: true; the input reads as it did. -/
def monitorAllUptoRow : OpenClaim := { program := "ythghbmjeihahmaa", sum := "73e1a69a3ff1d438f6f1ae34327c19914afd7318afbb9549d05c2439a18ec931", func := "crossbuck/crossbucklaw24.MonitorAll", spec := "monitorAll", unfollowed := true, recurses := true, apart := false, narrowed := true }
def MonitorAllUptoSaid : Prop := monitorAllUptoRow.holds Try.pinned (OpenSpec.upto monitorAllSpec)

/-- 'crossbucklaw24.MonitorPlays', WHERE WHAT IT READS IS OF BULK AT MOST 1048576: true; the input reads as it did. -/
def monitorPlaysUptoRow : OpenClaim := { program := "ythghbmjeihahmaa", sum := "73e1a69a3ff1d438f6f1ae34327c19914afd7318afbb9549d05c2439a18ec931", func := "crossbuck/crossbucklaw24.MonitorPlays", spec := "monitorPlays", unfollowed := true, recurses := true, apart := false, narrowed := true }
def MonitorPlaysUptoSaid : Prop := monitorPlaysUptoRow.holds Try.pinned (OpenSpec.upto monitorPlaysSpec)

/-- 'crossbucklaw24.MonitorFinds', WHERE WHAT IT READS IS OF BULK AT MOST 1048576: true; the input reads as it did. -/
def monitorFindsUptoRow : OpenClaim := { program := "ythghbmjeihahmaa", sum := "73e1a69a3ff1d438f6f1ae34327c19914afd7318afbb9549d05c2439a18ec931", func := "crossbuck/crossbucklaw24.MonitorFinds", spec := "monitorFinds", unfollowed := true, recurses := true, apart := false, narrowed := true }
def MonitorFindsUptoSaid : Prop := monitorFindsUptoRow.holds Try.pinned (OpenSpec.upto monitorFindsSpec)

/-- 'crossbucklaw24.MonitorClash', WHERE WHAT IT READS IS OF BULK AT MOST 1048576: true; the input reads as it did. -/
def monitorClashUptoRow : OpenClaim := { program := "ythghbmjeihahmaa", sum := "73e1a69a3ff1d438f6f1ae34327c19914afd7318afbb9549d05c2439a18ec931", func := "crossbuck/crossbucklaw24.MonitorClash", spec := "monitorClash", unfollowed := true, recurses := true, apart := false, narrowed := true }
def MonitorClashUptoSaid : Prop := monitorClashUptoRow.holds Try.pinned (OpenSpec.upto monitorClashSpec)

end Rows
end Go.Proofs.Ythghbmjeihahmaa
