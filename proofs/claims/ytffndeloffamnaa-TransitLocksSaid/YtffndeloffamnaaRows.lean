/-
  No cell of these rows narrows 'for every input' (looked for: loops, veiled, ifaces, maps, wideKeys, modest, calm, conditions, laid).
  DERIVED. THE GIVEN ROWS OF THIS SEAT. 3 by the template 'for every input the law returns true; each argument reads behind the call as it read before'; 0 by the template 'total and deterministic' (their statements: YtffndeloffamnaaTotals.lean).
  GIVEN WITH THE SEED: the statements are not yours to turn. If you find one false, say at which input.
  Laid BY PROGRAM, IN A SANDBOX (cutbox-rows.mjs): the forced cells as the released guide's own fill.sh prints them over the translation a925c65cb25e3c59… (all of the seat's roots in one cut). By AI agents, Wed Nov 11 2026. No macro, syntax, notation, axiom, sorry.
-/
import Derived.Test.YtffndeloffamnaaChecked
import GoSem.Claim
import GoSem.ClaimJoined
import GoSem.ClaimMapViews
import Derived.JoinedTies
import Derived.KernelRfl
namespace Go.Proofs.Ytffndeloffamnaa
/- THE CELL 'sum', in the pinned program and in every row, IS THE sha256 OF THE DUMP (.gsa) THAT YtffndeloffamnaaProg.lean LOADS. Nothing in Lean hashes anything: it is a label: what it is worth is what the hold of that sum in a sandbox is worth. -/
noncomputable def Try.pinned : Pinned := { name := "ytffndeloffamnaa", sum := "a925c65cb25e3c598efbad87ac8fe65ed43e0271b8974dd3da83898e1b62d0a0", checked := Try.checked }
namespace Rows
def none {H : Type} : Left H := { results := [], args := [] }

/-- 'crossbucklaw20.TransitFair': WHATEVER THE INPUT: true; the input reads as it did. -/
def transitFairSpec : ChangeSpec := { name := "transitFair", fn := fun _ => fun
  | [d1, d2, d3, d4] => { results := [.lit (.bool true)], args := [d1, d2, d3, d4] }
  | _ => none }
def transitFairRow : OpenClaim := { program := "ytffndeloffamnaa", sum := "a925c65cb25e3c598efbad87ac8fe65ed43e0271b8974dd3da83898e1b62d0a0", func := "crossbuck/crossbucklaw20.TransitFair", spec := "transitFair", unfollowed := true, recurses := true, apart := false }
def TransitFairSaid : Prop := transitFairRow.holds Try.pinned (OpenSpec.ofChange transitFairSpec)

/-- ITS FALSE NEIGHBOUR: 'it returns false'. Refute it at one input. -/
def transitFairWrong : ChangeSpec := { name := "transitFair", fn := fun _ => fun
  | [d1, d2, d3, d4] => { results := [.lit (.bool false)], args := [d1, d2, d3, d4] }
  | _ => none }
def TransitFairWrongFalsely : Prop := transitFairRow.holds Try.pinned (OpenSpec.ofChange transitFairWrong)

/-- 'crossbucklaw20.TransitLocks': WHATEVER THE INPUT: true; the input reads as it did. -/
def transitLocksSpec : ChangeSpec := { name := "transitLocks", fn := fun _ => fun
  | [d1, d2] => { results := [.lit (.bool true)], args := [d1, d2] }
  | _ => none }
def transitLocksRow : OpenClaim := { program := "ytffndeloffamnaa", sum := "a925c65cb25e3c598efbad87ac8fe65ed43e0271b8974dd3da83898e1b62d0a0", func := "crossbuck/crossbucklaw20.TransitLocks", spec := "transitLocks", unfollowed := true, recurses := true, apart := false }
def TransitLocksSaid : Prop := transitLocksRow.holds Try.pinned (OpenSpec.ofChange transitLocksSpec)

/-- ITS FALSE NEIGHBOUR: 'it returns false'. Refute it at one input. -/
def transitLocksWrong : ChangeSpec := { name := "transitLocks", fn := fun _ => fun
  | [d1, d2] => { results := [.lit (.bool false)], args := [d1, d2] }
  | _ => none }
def TransitLocksWrongFalsely : Prop := transitLocksRow.holds Try.pinned (OpenSpec.ofChange transitLocksWrong)

/-- 'crossbucklaw20.TransitBudget': WHATEVER THE INPUT: true; the input reads as it did. -/
def transitBudgetSpec : ChangeSpec := { name := "transitBudget", fn := fun _ => fun
  | [d1, d2, d3] => { results := [.lit (.bool true)], args := [d1, d2, d3] }
  | _ => none }
def transitBudgetRow : OpenClaim := { program := "ytffndeloffamnaa", sum := "a925c65cb25e3c598efbad87ac8fe65ed43e0271b8974dd3da83898e1b62d0a0", func := "crossbuck/crossbucklaw20.TransitBudget", spec := "transitBudget", unfollowed := true, recurses := true, apart := false }
def TransitBudgetSaid : Prop := transitBudgetRow.holds Try.pinned (OpenSpec.ofChange transitBudgetSpec)

/-- ITS FALSE NEIGHBOUR: 'it returns false'. Refute it at one input. -/
def transitBudgetWrong : ChangeSpec := { name := "transitBudget", fn := fun _ => fun
  | [d1, d2, d3] => { results := [.lit (.bool false)], args := [d1, d2, d3] }
  | _ => none }
def TransitBudgetWrongFalsely : Prop := transitBudgetRow.holds Try.pinned (OpenSpec.ofChange transitBudgetWrong)

/- THE SECOND FORM. 'bulk': how many values and letters a reading holds, each counted each time it is reached (what is shared counts as often as it is met; a slice's spare places count too). A statement '..UptoSaid' is the law's where the arguments, and the package variables that the reading takes, are together of bulk at most 1048576: NARROWER than '..Said'. Prove '..Said' where nothing that the law and all that it calls make is longer than what came in: it says more and counts as full. Else prove '..UptoSaid'. A law counts once. -/
mutual
def uptoBulk {H : Type} : DataW H → Nat
  | .lit (.string bytes) => bytes.length + 1
  | .lit _ => 1
  | .nil => 1
  | .ptr d => uptoBulk d + 1
  | .slice elems spare => uptoBulkAll elems + uptoBulkAll spare + 1
  | .agg parts => uptoBulkAll parts + 1
  | .iface _ d => uptoBulk d + 1
  | .map entries => uptoBulkEntries entries + 1
  | .held _ => 1
def uptoBulkAll {H : Type} : List (DataW H) → Nat
  | [] => 0
  | d :: r => uptoBulk d + uptoBulkAll r
def uptoBulkEntries {H : Type} : List (Lit × DataW H) → Nat
  | [] => 0
  | x :: r => uptoBulkEntry x + uptoBulkEntries r
def uptoBulkEntry {H : Type} : Lit × DataW H → Nat
  | (.string bytes, d) => bytes.length + uptoBulk d + 1
  | (_, d) => uptoBulk d + 1
 end
def uptoSmall : (H : Type) → List (DataW H) → Bool := fun _ ds => decide (uptoBulkAll ds ≤ 1048576)
def OpenSpec.upto (s : _root_.Go.ChangeSpec) : _root_.Go.OpenSpec := { _root_.Go.OpenSpec.ofChange s with cond := some uptoSmall }

/-- 'crossbucklaw20.TransitFair', WHERE WHAT IT READS IS OF BULK AT MOST 1048576: true; the input reads as it did. -/
def transitFairUptoRow : OpenClaim := { program := "ytffndeloffamnaa", sum := "a925c65cb25e3c598efbad87ac8fe65ed43e0271b8974dd3da83898e1b62d0a0", func := "crossbuck/crossbucklaw20.TransitFair", spec := "transitFair", unfollowed := true, recurses := true, apart := false, narrowed := true }
def TransitFairUptoSaid : Prop := transitFairUptoRow.holds Try.pinned (OpenSpec.upto transitFairSpec)

/-- 'crossbucklaw20.TransitLocks', WHERE WHAT IT READS IS OF BULK AT MOST 1048576: true; the input reads as it did. -/
def transitLocksUptoRow : OpenClaim := { program := "ytffndeloffamnaa", sum := "a925c65cb25e3c598efbad87ac8fe65ed43e0271b8974dd3da83898e1b62d0a0", func := "crossbuck/crossbucklaw20.TransitLocks", spec := "transitLocks", unfollowed := true, recurses := true, apart := false, narrowed := true }
def TransitLocksUptoSaid : Prop := transitLocksUptoRow.holds Try.pinned (OpenSpec.upto transitLocksSpec)

/-- 'crossbucklaw20.TransitBudget', WHERE WHAT IT READS IS OF BULK AT MOST 1048576: true; the input reads as it did. -/
def transitBudgetUptoRow : OpenClaim := { program := "ytffndeloffamnaa", sum := "a925c65cb25e3c598efbad87ac8fe65ed43e0271b8974dd3da83898e1b62d0a0", func := "crossbuck/crossbucklaw20.TransitBudget", spec := "transitBudget", unfollowed := true, recurses := true, apart := false, narrowed := true }
def TransitBudgetUptoSaid : Prop := transitBudgetUptoRow.holds Try.pinned (OpenSpec.upto transitBudgetSpec)

end Rows
end Go.Proofs.Ytffndeloffamnaa
