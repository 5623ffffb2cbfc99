/-
  No cell of these rows narrows 'for every input' (looked for: loops, veiled, ifaces, maps, wideKeys, modest, calm, conditions, laid).
  DERIVED. THE GIVEN ROWS OF THIS SEAT. 3 by the template 'for every input the law returns true; each argument reads behind the call as it read before'; 0 by the template 'total and deterministic' (their statements: YtjajlcaemehdoaaTotals.lean).
  GIVEN WITH THE SEED: the statements are not yours to turn. If you find one false, say at which input.
  Laid BY PROGRAM, IN A SANDBOX (cutbox-rows.mjs): the forced cells as the released guide's own fill.sh prints them over the translation 812473bdfd436a5a… (all of the seat's roots in one cut). By AI agents, Wed Nov 11 2026. No macro, syntax, notation, axiom, sorry.
-/
import Derived.Test.YtjajlcaemehdoaaChecked
import GoSem.Claim
import GoSem.ClaimJoined
import GoSem.ClaimMapViews
import Derived.JoinedTies
import Derived.KernelRfl
namespace Go.Proofs.Ytjajlcaemehdoaa
/- THE CELL 'sum', in the pinned program and in every row, IS THE sha256 OF THE DUMP (.gsa) THAT YtjajlcaemehdoaaProg.lean LOADS. Nothing in Lean hashes anything: it is a label: what it is worth is what the hold of that sum in a sandbox is worth. -/
noncomputable def Try.pinned : Pinned := { name := "ytjajlcaemehdoaa", sum := "812473bdfd436a5acb6c26adbda9e6602a2c54442f87d8885064f9087c2845c5", checked := Try.checked }
namespace Rows
def none {H : Type} : Left H := { results := [], args := [] }

/-- 'crossbucklaw21.RailStages': WHATEVER THE INPUT: true; the input reads as it did. -/
def railStagesSpec : ChangeSpec := { name := "railStages", fn := fun _ => fun
  | [d1, d2, d3, d4] => { results := [.lit (.bool true)], args := [d1, d2, d3, d4] }
  | _ => none }
def railStagesRow : OpenClaim := { program := "ytjajlcaemehdoaa", sum := "812473bdfd436a5acb6c26adbda9e6602a2c54442f87d8885064f9087c2845c5", func := "crossbuck/crossbucklaw21.RailStages", spec := "railStages", unfollowed := true, recurses := true, apart := false }
def RailStagesSaid : Prop := railStagesRow.holds Try.pinned (OpenSpec.ofChange railStagesSpec)

/-- ITS FALSE NEIGHBOUR: 'it returns false'. Refute it at one input. -/
def railStagesWrong : ChangeSpec := { name := "railStages", fn := fun _ => fun
  | [d1, d2, d3, d4] => { results := [.lit (.bool false)], args := [d1, d2, d3, d4] }
  | _ => none }
def RailStagesWrongFalsely : Prop := railStagesRow.holds Try.pinned (OpenSpec.ofChange railStagesWrong)

/-- 'crossbucklaw21.RailActs': WHATEVER THE INPUT: true; the input reads as it did. -/
def railActsSpec : ChangeSpec := { name := "railActs", fn := fun _ => fun
  | [d1, d2, d3, d4] => { results := [.lit (.bool true)], args := [d1, d2, d3, d4] }
  | _ => none }
def railActsRow : OpenClaim := { program := "ytjajlcaemehdoaa", sum := "812473bdfd436a5acb6c26adbda9e6602a2c54442f87d8885064f9087c2845c5", func := "crossbuck/crossbucklaw21.RailActs", spec := "railActs", unfollowed := true, recurses := true, apart := false }
def RailActsSaid : Prop := railActsRow.holds Try.pinned (OpenSpec.ofChange railActsSpec)

/-- ITS FALSE NEIGHBOUR: 'it returns false'. Refute it at one input. -/
def railActsWrong : ChangeSpec := { name := "railActs", fn := fun _ => fun
  | [d1, d2, d3, d4] => { results := [.lit (.bool false)], args := [d1, d2, d3, d4] }
  | _ => none }
def RailActsWrongFalsely : Prop := railActsRow.holds Try.pinned (OpenSpec.ofChange railActsWrong)

/-- 'crossbucklaw21.RailCounts': WHATEVER THE INPUT: true; the input reads as it did. -/
def railCountsSpec : ChangeSpec := { name := "railCounts", fn := fun _ => fun
  | [d1, d2] => { results := [.lit (.bool true)], args := [d1, d2] }
  | _ => none }
def railCountsRow : OpenClaim := { program := "ytjajlcaemehdoaa", sum := "812473bdfd436a5acb6c26adbda9e6602a2c54442f87d8885064f9087c2845c5", func := "crossbuck/crossbucklaw21.RailCounts", spec := "railCounts", unfollowed := true, recurses := true, apart := false }
def RailCountsSaid : Prop := railCountsRow.holds Try.pinned (OpenSpec.ofChange railCountsSpec)

/-- ITS FALSE NEIGHBOUR: 'it returns false'. Refute it at one input. -/
def railCountsWrong : ChangeSpec := { name := "railCounts", fn := fun _ => fun
  | [d1, d2] => { results := [.lit (.bool false)], args := [d1, d2] }
  | _ => none }
def RailCountsWrongFalsely : Prop := railCountsRow.holds Try.pinned (OpenSpec.ofChange railCountsWrong)

/- THE SECOND FORM. 'bulk': how many values and letters a reading holds, each counted each time it is reached (what is shared counts as often as it is met; a slice's spare places count too). A statement '..UptoSaid' is the law's where the arguments, and the package variables that the reading takes, are together of bulk at most 1048576: NARROWER than '..Said'. Prove '..Said' where nothing that the law and all that it calls make is longer than what came in: it says more and counts as full. Else prove '..UptoSaid'. A law counts once. -/
mutual
def uptoBulk {H : Type} : DataW H → Nat
  | .lit (.string bytes) => bytes.length + 1
  | .lit _ => 1
  | .nil => 1
  | .ptr d => uptoBulk d + 1
  | .slice elems spare => uptoBulkAll elems + uptoBulkAll spare + 1
  | .agg parts => uptoBulkAll parts + 1
  | .iface _ d => uptoBulk d + 1
  | .map entries => uptoBulkEntries entries + 1
  | .held _ => 1
def uptoBulkAll {H : Type} : List (DataW H) → Nat
  | [] => 0
  | d :: r => uptoBulk d + uptoBulkAll r
def uptoBulkEntries {H : Type} : List (Lit × DataW H) → Nat
  | [] => 0
  | x :: r => uptoBulkEntry x + uptoBulkEntries r
def uptoBulkEntry {H : Type} : Lit × DataW H → Nat
  | (.string bytes, d) => bytes.length + uptoBulk d + 1
  | (_, d) => uptoBulk d + 1
 end
def uptoSmall : (H : Type) → List (DataW H) → Bool := fun _ ds => decide (uptoBulkAll ds ≤ 1048576)
def OpenSpec.upto (s : _root_.Go.ChangeSpec) : _root_.Go.OpenSpec := { _root_.Go.OpenSpec.ofChange s with cond := some uptoSmall }

/-- 'crossbucklaw21.RailStages', WHERE WHAT IT READS IS OF BULK AT MOST 1048576: true; the input reads as it did. -/
def railStagesUptoRow : OpenClaim := { program := "ytjajlcaemehdoaa", sum := "812473bdfd436a5acb6c26adbda9e6602a2c54442f87d8885064f9087c2845c5", func := "crossbuck/crossbucklaw21.RailStages", spec := "railStages", unfollowed := true, recurses := true, apart := false, narrowed := true }
def RailStagesUptoSaid : Prop := railStagesUptoRow.holds Try.pinned (OpenSpec.upto railStagesSpec)

/-- 'crossbucklaw21.RailActs', WHERE WHAT IT READS IS OF BULK AT MOST 1048576: true; the input reads as it did. -/
def railActsUptoRow : OpenClaim := { program := "ytjajlcaemehdoaa", sum := "812473bdfd436a5acb6c26adbda9e6602a2c54442f87d8885064f9087c2845c5", func := "crossbuck/crossbucklaw21.RailActs", spec := "railActs", unfollowed := true, recurses := true, apart := false, narrowed := true }
def RailActsUptoSaid : Prop := railActsUptoRow.holds Try.pinned (OpenSpec.upto railActsSpec)

/-- 'crossbucklaw21.RailCounts', WHERE WHAT IT READS IS OF BULK AT MOST 1048576: true; the input reads as it did. -/
def railCountsUptoRow : OpenClaim := { program := "ytjajlcaemehdoaa", sum := "812473bdfd436a5acb6c26adbda9e6602a2c54442f87d8885064f9087c2845c5", func := "crossbuck/crossbucklaw21.RailCounts", spec := "railCounts", unfollowed := true, recurses := true, apart := false, narrowed := true }
def RailCountsUptoSaid : Prop := railCountsUptoRow.holds Try.pinned (OpenSpec.upto railCountsSpec)

end Rows
end Go.Proofs.Ytjajlcaemehdoaa
