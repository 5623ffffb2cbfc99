/-
  No cell of these rows narrows 'for every input' (looked for: loops, veiled, ifaces, maps, wideKeys, modest, calm, conditions, laid).
  DERIVED. THE GIVEN ROWS OF THIS SEAT. 4 by the template 'for every input the law returns true; each argument reads behind the call as it read before'; 0 by the template 'total and deterministic' (their statements: YtebpminoibmngaaGreatTotals.lean).
  GIVEN WITH THE SEED: the statements are not yours to turn. If you find one false, say at which input.
  Laid BY PROGRAM, IN A SANDBOX (cutbox-rows.mjs): the forced cells as the released guide's own fill.sh prints them over the translation 37174938ddd197d0… (all of the seat's roots in one cut). By AI agents, Wed Nov 11 2026. No macro, syntax, notation, axiom, sorry.
-/
import Derived.Test.YtebpminoibmngaaGreatChecked
import GoSem.Claim
import GoSem.ClaimJoined
import GoSem.ClaimMapViews
import Derived.JoinedTies
import Derived.KernelRfl
namespace Go.Proofs.YtebpminoibmngaaGreat
/- THE CELL 'sum', in the pinned program and in every row, IS THE sha256 OF THE DUMP (.gsa) THAT YtebpminoibmngaaGreatProg.lean LOADS. Nothing in Lean hashes anything: it is a label: what it is worth is what the hold of that sum in a sandbox is worth. -/
noncomputable def Tryz.pinned : Pinned := { name := "ytebpminoibmngaagreat", sum := "37174938ddd197d0424bc96ca746d8ddb635423e0201988b5325f00ec4f230a0", checked := Tryz.checked }
namespace Rows
def none {H : Type} : Left H := { results := [], args := [] }

/-- 'crossbucklaw09.CheckGood': WHATEVER THE INPUT: true; the input reads as it did. -/
def checkGoodSpec : ChangeSpec := { name := "checkGood", fn := fun _ => fun
  | [d] => { results := [.lit (.bool true)], args := [d] }
  | _ => none }
def checkGoodRow : OpenClaim := { program := "ytebpminoibmngaagreat", sum := "37174938ddd197d0424bc96ca746d8ddb635423e0201988b5325f00ec4f230a0", func := "crossbuck/crossbucklaw09.CheckGood", spec := "checkGood", inPlace := ["math.RoundToEven", "math.Float64bits"], unfollowed := true, recurses := true, apart := false }
def CheckGoodSaid : Prop := checkGoodRow.holds Tryz.pinned (OpenSpec.ofChange checkGoodSpec)

/-- ITS FALSE NEIGHBOUR: 'it returns false'. Refute it at one input. -/
def checkGoodWrong : ChangeSpec := { name := "checkGood", fn := fun _ => fun
  | [d] => { results := [.lit (.bool false)], args := [d] }
  | _ => none }
def CheckGoodWrongFalsely : Prop := checkGoodRow.holds Tryz.pinned (OpenSpec.ofChange checkGoodWrong)

/-- 'crossbucklaw09.CheckPhase': WHATEVER THE INPUT: true; the input reads as it did. -/
def checkPhaseSpec : ChangeSpec := { name := "checkPhase", fn := fun _ => fun
  | [d1, d2, d3, d4, d5] => { results := [.lit (.bool true)], args := [d1, d2, d3, d4, d5] }
  | _ => none }
def checkPhaseRow : OpenClaim := { program := "ytebpminoibmngaagreat", sum := "37174938ddd197d0424bc96ca746d8ddb635423e0201988b5325f00ec4f230a0", func := "crossbuck/crossbucklaw09.CheckPhase", spec := "checkPhase", inPlace := ["math.RoundToEven", "math.Float64bits"], unfollowed := true, recurses := true, apart := false }
def CheckPhaseSaid : Prop := checkPhaseRow.holds Tryz.pinned (OpenSpec.ofChange checkPhaseSpec)

/-- ITS FALSE NEIGHBOUR: 'it returns false'. Refute it at one input. -/
def checkPhaseWrong : ChangeSpec := { name := "checkPhase", fn := fun _ => fun
  | [d1, d2, d3, d4, d5] => { results := [.lit (.bool false)], args := [d1, d2, d3, d4, d5] }
  | _ => none }
def CheckPhaseWrongFalsely : Prop := checkPhaseRow.holds Tryz.pinned (OpenSpec.ofChange checkPhaseWrong)

/-- 'crossbucklaw09.CheckRows': WHATEVER THE INPUT: true; the input reads as it did. -/
def checkRowsSpec : ChangeSpec := { name := "checkRows", fn := fun _ => fun
  | [d1, d2, d3, d4] => { results := [.lit (.bool true)], args := [d1, d2, d3, d4] }
  | _ => none }
def checkRowsRow : OpenClaim := { program := "ytebpminoibmngaagreat", sum := "37174938ddd197d0424bc96ca746d8ddb635423e0201988b5325f00ec4f230a0", func := "crossbuck/crossbucklaw09.CheckRows", spec := "checkRows", inPlace := ["math.RoundToEven", "math.Float64bits"], unfollowed := true, recurses := true, apart := false }
def CheckRowsSaid : Prop := checkRowsRow.holds Tryz.pinned (OpenSpec.ofChange checkRowsSpec)

/-- ITS FALSE NEIGHBOUR: 'it returns false'. Refute it at one input. -/
def checkRowsWrong : ChangeSpec := { name := "checkRows", fn := fun _ => fun
  | [d1, d2, d3, d4] => { results := [.lit (.bool false)], args := [d1, d2, d3, d4] }
  | _ => none }
def CheckRowsWrongFalsely : Prop := checkRowsRow.holds Tryz.pinned (OpenSpec.ofChange checkRowsWrong)

/-- 'crossbucklaw09.CheckRest': WHATEVER THE INPUT: true; the input reads as it did. -/
def checkRestSpec : ChangeSpec := { name := "checkRest", fn := fun _ => fun
  | [d1, d2, d3, d4, d5] => { results := [.lit (.bool true)], args := [d1, d2, d3, d4, d5] }
  | _ => none }
def checkRestRow : OpenClaim := { program := "ytebpminoibmngaagreat", sum := "37174938ddd197d0424bc96ca746d8ddb635423e0201988b5325f00ec4f230a0", func := "crossbuck/crossbucklaw09.CheckRest", spec := "checkRest", inPlace := ["math.RoundToEven", "math.Float64bits"], unfollowed := true, recurses := true, apart := false }
def CheckRestSaid : Prop := checkRestRow.holds Tryz.pinned (OpenSpec.ofChange checkRestSpec)

/-- ITS FALSE NEIGHBOUR: 'it returns false'. Refute it at one input. -/
def checkRestWrong : ChangeSpec := { name := "checkRest", fn := fun _ => fun
  | [d1, d2, d3, d4, d5] => { results := [.lit (.bool false)], args := [d1, d2, d3, d4, d5] }
  | _ => none }
def CheckRestWrongFalsely : Prop := checkRestRow.holds Tryz.pinned (OpenSpec.ofChange checkRestWrong)

/- THE SECOND FORM. 'bulk': how many values and letters a reading holds, each counted each time it is reached (what is shared counts as often as it is met; a slice's spare places count too). A statement '..UptoSaid' is the law's where the arguments, and the package variables that the reading takes, are together of bulk at most 1048576: NARROWER than '..Said'. Prove '..Said' where nothing that the law and all that it calls make is longer than what came in: it says more and counts as full. Else prove '..UptoSaid'. A law counts once. -/
mutual
def uptoBulk {H : Type} : DataW H → Nat
  | .lit (.string bytes) => bytes.length + 1
  | .lit _ => 1
  | .nil => 1
  | .ptr d => uptoBulk d + 1
  | .slice elems spare => uptoBulkAll elems + uptoBulkAll spare + 1
  | .agg parts => uptoBulkAll parts + 1
  | .iface _ d => uptoBulk d + 1
  | .map entries => uptoBulkEntries entries + 1
  | .held _ => 1
def uptoBulkAll {H : Type} : List (DataW H) → Nat
  | [] => 0
  | d :: r => uptoBulk d + uptoBulkAll r
def uptoBulkEntries {H : Type} : List (Lit × DataW H) → Nat
  | [] => 0
  | x :: r => uptoBulkEntry x + uptoBulkEntries r
def uptoBulkEntry {H : Type} : Lit × DataW H → Nat
  | (.string bytes, d) => bytes.length + uptoBulk d + 1
  | (_, d) => uptoBulk d + 1
 end
def uptoSmall : (H : Type) → List (DataW H) → Bool := fun _ ds => decide (uptoBulkAll ds ≤ 1048576)
def OpenSpec.upto (s : _root_.Go.ChangeSpec) : _root_.Go.OpenSpec := { _root_.Go.OpenSpec.ofChange s with cond := some uptoSmall }

/-- 'crossbucklaw09.CheckGood', WHERE WHAT IT READS IS OF BULK AT MOST 1048576: true; the input reads as it did. -/
def checkGoodUptoRow : OpenClaim := { program := "ytebpminoibmngaagreat", sum := "37174938ddd197d0424bc96ca746d8ddb635423e0201988b5325f00ec4f230a0", func := "crossbuck/crossbucklaw09.CheckGood", spec := "checkGood", inPlace := ["math.RoundToEven", "math.Float64bits"], unfollowed := true, recurses := true, apart := false, narrowed := true }
def CheckGoodUptoSaid : Prop := checkGoodUptoRow.holds Tryz.pinned (OpenSpec.upto checkGoodSpec)

/-- 'crossbucklaw09.CheckPhase', WHERE WHAT IT READS IS OF BULK AT MOST 1048576: true; the input reads as it did. -/
def checkPhaseUptoRow : OpenClaim := { program := "ytebpminoibmngaagreat", sum := "37174938ddd197d0424bc96ca746d8ddb635423e0201988b5325f00ec4f230a0", func := "crossbuck/crossbucklaw09.CheckPhase", spec := "checkPhase", inPlace := ["math.RoundToEven", "math.Float64bits"], unfollowed := true, recurses := true, apart := false, narrowed := true }
def CheckPhaseUptoSaid : Prop := checkPhaseUptoRow.holds Tryz.pinned (OpenSpec.upto checkPhaseSpec)

/-- 'crossbucklaw09.CheckRows', WHERE WHAT IT READS IS OF BULK AT MOST 1048576: true; the input reads as it did. -/
def checkRowsUptoRow : OpenClaim := { program := "ytebpminoibmngaagreat", sum := "37174938ddd197d0424bc96ca746d8ddb635423e0201988b5325f00ec4f230a0", func := "crossbuck/crossbucklaw09.CheckRows", spec := "checkRows", inPlace := ["math.RoundToEven", "math.Float64bits"], unfollowed := true, recurses := true, apart := false, narrowed := true }
def CheckRowsUptoSaid : Prop := checkRowsUptoRow.holds Tryz.pinned (OpenSpec.upto checkRowsSpec)

/-- 'crossbucklaw09.CheckRest', WHERE WHAT IT READS IS OF BULK AT MOST 1048576: true; the input reads as it did. -/
def checkRestUptoRow : OpenClaim := { program := "ytebpminoibmngaagreat", sum := "37174938ddd197d0424bc96ca746d8ddb635423e0201988b5325f00ec4f230a0", func := "crossbuck/crossbucklaw09.CheckRest", spec := "checkRest", inPlace := ["math.RoundToEven", "math.Float64bits"], unfollowed := true, recurses := true, apart := false, narrowed := true }
def CheckRestUptoSaid : Prop := checkRestUptoRow.holds Tryz.pinned (OpenSpec.upto checkRestSpec)

end Rows
end Go.Proofs.YtebpminoibmngaaGreat
