/-
  No cell of these rows narrows 'for every input' (looked for: loops, veiled, ifaces, maps, wideKeys, modest, calm, conditions, laid).
  DERIVED. THE GIVEN ROWS OF THIS SEAT. 3 by the template 'for every input the law returns true; each argument reads behind the call as it read before'; 0 by the template 'total and deterministic' (their statements: YtbdahioikjgeeaaTotals.lean).
  GIVEN WITH THE SEED: the statements are not yours to turn. If you find one false, say at which input.
  Laid BY PROGRAM, IN A SANDBOX (cutbox-rows.mjs): the forced cells as the released guide's own fill.sh prints them over the translation ac9d0b046faa209c… (all of the seat's roots in one cut). By AI agents, Wed Nov 11 2026. No macro, syntax, notation, axiom, sorry.
-/
import Derived.Test.YtbdahioikjgeeaaChecked
import GoSem.Claim
import GoSem.ClaimJoined
import GoSem.ClaimMapViews
import Derived.JoinedTies
import Derived.KernelRfl
namespace Go.Proofs.Ytbdahioikjgeeaa
/- THE CELL 'sum', in the pinned program and in every row, IS THE sha256 OF THE DUMP (.gsa) THAT YtbdahioikjgeeaaProg.lean LOADS. Nothing in Lean hashes anything: it is a label: what it is worth is what the hold of that sum in a sandbox is worth. -/
noncomputable def Try.pinned : Pinned := { name := "ytbdahioikjgeeaa", sum := "ac9d0b046faa209c3965ad33aea073c2805bc33b82193d6d27221ec83178c52e", checked := Try.checked }
namespace Rows
def none {H : Type} : Left H := { results := [], args := [] }

/-- 'crossbucklaw27.EnvelopeOne': WHATEVER THE INPUT: true; the input reads as it did. -/
def envelopeOneSpec : ChangeSpec := { name := "envelopeOne", fn := fun _ => fun
  | [d1, d2, d3, d4] => { results := [.lit (.bool true)], args := [d1, d2, d3, d4] }
  | _ => none }
def envelopeOneRow : OpenClaim := { program := "ytbdahioikjgeeaa", sum := "ac9d0b046faa209c3965ad33aea073c2805bc33b82193d6d27221ec83178c52e", func := "crossbuck/crossbucklaw27.EnvelopeOne", spec := "envelopeOne", unfollowed := true, recurses := true, apart := false }
def EnvelopeOneSaid : Prop := envelopeOneRow.holds Try.pinned (OpenSpec.ofChange envelopeOneSpec)

/-- ITS FALSE NEIGHBOUR: 'it returns false'. Refute it at one input. -/
def envelopeOneWrong : ChangeSpec := { name := "envelopeOne", fn := fun _ => fun
  | [d1, d2, d3, d4] => { results := [.lit (.bool false)], args := [d1, d2, d3, d4] }
  | _ => none }
def EnvelopeOneWrongFalsely : Prop := envelopeOneRow.holds Try.pinned (OpenSpec.ofChange envelopeOneWrong)

/-- 'crossbucklaw27.EnvelopeAll': WHATEVER THE INPUT: true; the input reads as it did. -/
def envelopeAllSpec : ChangeSpec := { name := "envelopeAll", fn := fun _ => fun
  | [d1, d2, d3, d4] => { results := [.lit (.bool true)], args := [d1, d2, d3, d4] }
  | _ => none }
def envelopeAllRow : OpenClaim := { program := "ytbdahioikjgeeaa", sum := "ac9d0b046faa209c3965ad33aea073c2805bc33b82193d6d27221ec83178c52e", func := "crossbuck/crossbucklaw27.EnvelopeAll", spec := "envelopeAll", unfollowed := true, recurses := true, apart := false }
def EnvelopeAllSaid : Prop := envelopeAllRow.holds Try.pinned (OpenSpec.ofChange envelopeAllSpec)

/-- ITS FALSE NEIGHBOUR: 'it returns false'. Refute it at one input. -/
def envelopeAllWrong : ChangeSpec := { name := "envelopeAll", fn := fun _ => fun
  | [d1, d2, d3, d4] => { results := [.lit (.bool false)], args := [d1, d2, d3, d4] }
  | _ => none }
def EnvelopeAllWrongFalsely : Prop := envelopeAllRow.holds Try.pinned (OpenSpec.ofChange envelopeAllWrong)

/-- 'crossbucklaw27.EnvelopeSafe': WHATEVER THE INPUT: true; the input reads as it did. -/
def envelopeSafeSpec : ChangeSpec := { name := "envelopeSafe", fn := fun _ => fun
  | [d1, d2] => { results := [.lit (.bool true)], args := [d1, d2] }
  | _ => none }
def envelopeSafeRow : OpenClaim := { program := "ytbdahioikjgeeaa", sum := "ac9d0b046faa209c3965ad33aea073c2805bc33b82193d6d27221ec83178c52e", func := "crossbuck/crossbucklaw27.EnvelopeSafe", spec := "envelopeSafe", unfollowed := true, recurses := true, apart := false }
def EnvelopeSafeSaid : Prop := envelopeSafeRow.holds Try.pinned (OpenSpec.ofChange envelopeSafeSpec)

/-- ITS FALSE NEIGHBOUR: 'it returns false'. Refute it at one input. -/
def envelopeSafeWrong : ChangeSpec := { name := "envelopeSafe", fn := fun _ => fun
  | [d1, d2] => { results := [.lit (.bool false)], args := [d1, d2] }
  | _ => none }
def EnvelopeSafeWrongFalsely : Prop := envelopeSafeRow.holds Try.pinned (OpenSpec.ofChange envelopeSafeWrong)

/- THE SECOND FORM. 'bulk': how many values and letters a reading holds, each counted each time it is reached (what is shared counts as often as it is met; a slice's spare places count too). A statement '..UptoSaid' is the law's where the arguments, and the package variables that the reading takes, are together of bulk at most 1048576: NARROWER than '..Said'. Prove '..Said' where nothing that the law and all that it calls make is longer than what came in: it says more and counts as full. Else prove '..UptoSaid'. A law counts once. -/
mutual
def uptoBulk {H : Type} : DataW H → Nat
  | .lit (.string bytes) => bytes.length + 1
  | .lit _ => 1
  | .nil => 1
  | .ptr d => uptoBulk d + 1
  | .slice elems spare => uptoBulkAll elems + uptoBulkAll spare + 1
  | .agg parts => uptoBulkAll parts + 1
  | .iface _ d => uptoBulk d + 1
  | .map entries => uptoBulkEntries entries + 1
  | .held _ => 1
def uptoBulkAll {H : Type} : List (DataW H) → Nat
  | [] => 0
  | d :: r => uptoBulk d + uptoBulkAll r
def uptoBulkEntries {H : Type} : List (Lit × DataW H) → Nat
  | [] => 0
  | x :: r => uptoBulkEntry x + uptoBulkEntries r
def uptoBulkEntry {H : Type} : Lit × DataW H → Nat
  | (.string bytes, d) => bytes.length + uptoBulk d + 1
  | (_, d) => uptoBulk d + 1
 end
def uptoSmall : (H : Type) → List (DataW H) → Bool := fun _ ds => decide (uptoBulkAll ds ≤ 1048576)
def OpenSpec.upto (s : _root_.Go.ChangeSpec) : _root_.Go.OpenSpec := { _root_.Go.OpenSpec.ofChange s with cond := some uptoSmall }

/-- 'crossbucklaw27.EnvelopeOne', WHERE WHAT IT READS IS OF BULK AT MOST 1048576: true; the input reads as it did. -/
def envelopeOneUptoRow : OpenClaim := { program := "ytbdahioikjgeeaa", sum := "ac9d0b046faa209c3965ad33aea073c2805bc33b82193d6d27221ec83178c52e", func := "crossbuck/crossbucklaw27.EnvelopeOne", spec := "envelopeOne", unfollowed := true, recurses := true, apart := false, narrowed := true }
def EnvelopeOneUptoSaid : Prop := envelopeOneUptoRow.holds Try.pinned (OpenSpec.upto envelopeOneSpec)

/-- 'crossbucklaw27.EnvelopeAll', WHERE WHAT IT READS IS OF BULK AT MOST 1048576: true; the input reads as it did. -/
def envelopeAllUptoRow : OpenClaim := { program := "ytbdahioikjgeeaa", sum := "ac9d0b046faa209c3965ad33aea073c2805bc33b82193d6d27221ec83178c52e", func := "crossbuck/crossbucklaw27.EnvelopeAll", spec := "envelopeAll", unfollowed := true, recurses := true, apart := false, narrowed := true }
def EnvelopeAllUptoSaid : Prop := envelopeAllUptoRow.holds Try.pinned (OpenSpec.upto envelopeAllSpec)

/-- 'crossbucklaw27.EnvelopeSafe', WHERE WHAT IT READS IS OF BULK AT MOST 1048576: true; the input reads as it did. -/
def envelopeSafeUptoRow : OpenClaim := { program := "ytbdahioikjgeeaa", sum := "ac9d0b046faa209c3965ad33aea073c2805bc33b82193d6d27221ec83178c52e", func := "crossbuck/crossbucklaw27.EnvelopeSafe", spec := "envelopeSafe", unfollowed := true, recurses := true, apart := false, narrowed := true }
def EnvelopeSafeUptoSaid : Prop := envelopeSafeUptoRow.holds Try.pinned (OpenSpec.upto envelopeSafeSpec)

end Rows
end Go.Proofs.Ytbdahioikjgeeaa
