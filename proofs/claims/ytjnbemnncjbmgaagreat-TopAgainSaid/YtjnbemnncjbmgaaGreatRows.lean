/-
  No cell of these rows narrows 'for every input' (looked for: loops, veiled, ifaces, maps, wideKeys, modest, calm, conditions, laid).
  DERIVED. THE GIVEN ROWS OF THIS SEAT. 10 by the template 'for every input the law returns true; each argument reads behind the call as it read before'; 0 by the template 'total and deterministic' (their statements: YtjnbemnncjbmgaaGreatTotals.lean).
  GIVEN WITH THE SEED: the statements are not yours to turn. If you find one false, say at which input.
  Laid BY PROGRAM, IN A SANDBOX (cutbox-rows.mjs): the forced cells as the released guide's own fill.sh prints them over the translation a427b90a45c7a066… (all of the seat's roots in one cut). By AI agents, Wed Nov 11 2026. No macro, syntax, notation, axiom, sorry.
-/
import Derived.Test.YtjnbemnncjbmgaaGreatChecked
import GoSem.Claim
import GoSem.ClaimJoined
import GoSem.ClaimMapViews
import Derived.JoinedTies
import Derived.KernelRfl
namespace Go.Proofs.YtjnbemnncjbmgaaGreat
/- THE CELL 'sum', in the pinned program and in every row, IS THE sha256 OF THE DUMP (.gsa) THAT YtjnbemnncjbmgaaGreatProg.lean LOADS. Nothing in Lean hashes anything: it is a label: what it is worth is what the hold of that sum in a sandbox is worth. -/
noncomputable def Tryz.pinned : Pinned := { name := "ytjnbemnncjbmgaagreat", sum := "a427b90a45c7a066f3bb7569e91ff48e762e157d9ea28cf821046ae7a629bac4", checked := Tryz.checked }
namespace Rows
def none {H : Type} : Left H := { results := [], args := [] }

/-- 'crossbucktop.TopColours': WHATEVER THE INPUT: true; the input reads as it did. -/
def topColoursSpec : ChangeSpec := { name := "topColours", fn := fun _ => fun
  | [d1, d2] => { results := [.lit (.bool true)], args := [d1, d2] }
  | _ => none }
def topColoursRow : OpenClaim := { program := "ytjnbemnncjbmgaagreat", sum := "a427b90a45c7a066f3bb7569e91ff48e762e157d9ea28cf821046ae7a629bac4", func := "crossbuck/crossbucktop.TopColours", spec := "topColours", inPlace := ["math.Float64frombits", "math.Float64bits", "math.RoundToEven"], unfollowed := true, recurses := true, apart := false }
def TopColoursSaid : Prop := topColoursRow.holds Tryz.pinned (OpenSpec.ofChange topColoursSpec)

/-- ITS FALSE NEIGHBOUR: 'it returns false'. Refute it at one input. -/
def topColoursWrong : ChangeSpec := { name := "topColours", fn := fun _ => fun
  | [d1, d2] => { results := [.lit (.bool false)], args := [d1, d2] }
  | _ => none }
def TopColoursWrongFalsely : Prop := topColoursRow.holds Tryz.pinned (OpenSpec.ofChange topColoursWrong)

/-- 'crossbucktop.TopFlash': WHATEVER THE INPUT: true; the input reads as it did. -/
def topFlashSpec : ChangeSpec := { name := "topFlash", fn := fun _ => fun
  | [d1, d2] => { results := [.lit (.bool true)], args := [d1, d2] }
  | _ => none }
def topFlashRow : OpenClaim := { program := "ytjnbemnncjbmgaagreat", sum := "a427b90a45c7a066f3bb7569e91ff48e762e157d9ea28cf821046ae7a629bac4", func := "crossbuck/crossbucktop.TopFlash", spec := "topFlash", inPlace := ["math.Float64frombits", "math.Float64bits", "math.RoundToEven"], unfollowed := true, recurses := true, apart := false }
def TopFlashSaid : Prop := topFlashRow.holds Tryz.pinned (OpenSpec.ofChange topFlashSpec)

/-- ITS FALSE NEIGHBOUR: 'it returns false'. Refute it at one input. -/
def topFlashWrong : ChangeSpec := { name := "topFlash", fn := fun _ => fun
  | [d1, d2] => { results := [.lit (.bool false)], args := [d1, d2] }
  | _ => none }
def TopFlashWrongFalsely : Prop := topFlashRow.holds Tryz.pinned (OpenSpec.ofChange topFlashWrong)

/-- 'crossbucktop.TopBack': WHATEVER THE INPUT: true; the input reads as it did. -/
def topBackSpec : ChangeSpec := { name := "topBack", fn := fun _ => fun
  | [d1, d2] => { results := [.lit (.bool true)], args := [d1, d2] }
  | _ => none }
def topBackRow : OpenClaim := { program := "ytjnbemnncjbmgaagreat", sum := "a427b90a45c7a066f3bb7569e91ff48e762e157d9ea28cf821046ae7a629bac4", func := "crossbuck/crossbucktop.TopBack", spec := "topBack", inPlace := ["math.Float64frombits", "math.Float64bits", "math.RoundToEven"], unfollowed := true, recurses := true, apart := false }
def TopBackSaid : Prop := topBackRow.holds Tryz.pinned (OpenSpec.ofChange topBackSpec)

/-- ITS FALSE NEIGHBOUR: 'it returns false'. Refute it at one input. -/
def topBackWrong : ChangeSpec := { name := "topBack", fn := fun _ => fun
  | [d1, d2] => { results := [.lit (.bool false)], args := [d1, d2] }
  | _ => none }
def TopBackWrongFalsely : Prop := topBackRow.holds Tryz.pinned (OpenSpec.ofChange topBackWrong)

/-- 'crossbucktop.TopBuses': WHATEVER THE INPUT: true; the input reads as it did. -/
def topBusesSpec : ChangeSpec := { name := "topBuses", fn := fun _ => fun
  | [d1, d2] => { results := [.lit (.bool true)], args := [d1, d2] }
  | _ => none }
def topBusesRow : OpenClaim := { program := "ytjnbemnncjbmgaagreat", sum := "a427b90a45c7a066f3bb7569e91ff48e762e157d9ea28cf821046ae7a629bac4", func := "crossbuck/crossbucktop.TopBuses", spec := "topBuses", inPlace := ["math.Float64frombits", "math.Float64bits", "math.RoundToEven"], unfollowed := true, recurses := true, apart := false }
def TopBusesSaid : Prop := topBusesRow.holds Tryz.pinned (OpenSpec.ofChange topBusesSpec)

/-- ITS FALSE NEIGHBOUR: 'it returns false'. Refute it at one input. -/
def topBusesWrong : ChangeSpec := { name := "topBuses", fn := fun _ => fun
  | [d1, d2] => { results := [.lit (.bool false)], args := [d1, d2] }
  | _ => none }
def TopBusesWrongFalsely : Prop := topBusesRow.holds Tryz.pinned (OpenSpec.ofChange topBusesWrong)

/-- 'crossbucktop.TopSame': WHATEVER THE INPUT: true; the input reads as it did. -/
def topSameSpec : ChangeSpec := { name := "topSame", fn := fun _ => fun
  | [d1, d2] => { results := [.lit (.bool true)], args := [d1, d2] }
  | _ => none }
def topSameRow : OpenClaim := { program := "ytjnbemnncjbmgaagreat", sum := "a427b90a45c7a066f3bb7569e91ff48e762e157d9ea28cf821046ae7a629bac4", func := "crossbuck/crossbucktop.TopSame", spec := "topSame", inPlace := ["math.RoundToEven", "math.Float64bits", "math.Float64frombits"], unfollowed := true, recurses := true, apart := false }
def TopSameSaid : Prop := topSameRow.holds Tryz.pinned (OpenSpec.ofChange topSameSpec)

/-- ITS FALSE NEIGHBOUR: 'it returns false'. Refute it at one input. -/
def topSameWrong : ChangeSpec := { name := "topSame", fn := fun _ => fun
  | [d1, d2] => { results := [.lit (.bool false)], args := [d1, d2] }
  | _ => none }
def TopSameWrongFalsely : Prop := topSameRow.holds Tryz.pinned (OpenSpec.ofChange topSameWrong)

/-- 'crossbucktop.TopAgain': WHATEVER THE INPUT: true; the input reads as it did. -/
def topAgainSpec : ChangeSpec := { name := "topAgain", fn := fun _ => fun
  | [d1, d2, d3] => { results := [.lit (.bool true)], args := [d1, d2, d3] }
  | _ => none }
def topAgainRow : OpenClaim := { program := "ytjnbemnncjbmgaagreat", sum := "a427b90a45c7a066f3bb7569e91ff48e762e157d9ea28cf821046ae7a629bac4", func := "crossbuck/crossbucktop.TopAgain", spec := "topAgain", inPlace := ["math.Float64frombits", "math.Float64bits", "math.RoundToEven"], unfollowed := true, recurses := true, apart := false }
def TopAgainSaid : Prop := topAgainRow.holds Tryz.pinned (OpenSpec.ofChange topAgainSpec)

/-- ITS FALSE NEIGHBOUR: 'it returns false'. Refute it at one input. -/
def topAgainWrong : ChangeSpec := { name := "topAgain", fn := fun _ => fun
  | [d1, d2, d3] => { results := [.lit (.bool false)], args := [d1, d2, d3] }
  | _ => none }
def TopAgainWrongFalsely : Prop := topAgainRow.holds Tryz.pinned (OpenSpec.ofChange topAgainWrong)

/-- 'crossbucktop.TopSafe': WHATEVER THE INPUT: true; the input reads as it did. -/
def topSafeSpec : ChangeSpec := { name := "topSafe", fn := fun _ => fun
  | [d1, d2] => { results := [.lit (.bool true)], args := [d1, d2] }
  | _ => none }
def topSafeRow : OpenClaim := { program := "ytjnbemnncjbmgaagreat", sum := "a427b90a45c7a066f3bb7569e91ff48e762e157d9ea28cf821046ae7a629bac4", func := "crossbuck/crossbucktop.TopSafe", spec := "topSafe", inPlace := ["math.Float64frombits", "math.Float64bits", "math.RoundToEven"], unfollowed := true, recurses := true, apart := false }
def TopSafeSaid : Prop := topSafeRow.holds Tryz.pinned (OpenSpec.ofChange topSafeSpec)

/-- ITS FALSE NEIGHBOUR: 'it returns false'. Refute it at one input. -/
def topSafeWrong : ChangeSpec := { name := "topSafe", fn := fun _ => fun
  | [d1, d2] => { results := [.lit (.bool false)], args := [d1, d2] }
  | _ => none }
def TopSafeWrongFalsely : Prop := topSafeRow.holds Tryz.pinned (OpenSpec.ofChange topSafeWrong)

/-- 'crossbucktop.TopRank': WHATEVER THE INPUT: true; the input reads as it did. -/
def topRankSpec : ChangeSpec := { name := "topRank", fn := fun _ => fun
  | [d1, d2] => { results := [.lit (.bool true)], args := [d1, d2] }
  | _ => none }
def topRankRow : OpenClaim := { program := "ytjnbemnncjbmgaagreat", sum := "a427b90a45c7a066f3bb7569e91ff48e762e157d9ea28cf821046ae7a629bac4", func := "crossbuck/crossbucktop.TopRank", spec := "topRank", inPlace := ["math.Float64frombits", "math.Float64bits", "math.RoundToEven"], unfollowed := true, recurses := true, apart := false }
def TopRankSaid : Prop := topRankRow.holds Tryz.pinned (OpenSpec.ofChange topRankSpec)

/-- ITS FALSE NEIGHBOUR: 'it returns false'. Refute it at one input. -/
def topRankWrong : ChangeSpec := { name := "topRank", fn := fun _ => fun
  | [d1, d2] => { results := [.lit (.bool false)], args := [d1, d2] }
  | _ => none }
def TopRankWrongFalsely : Prop := topRankRow.holds Tryz.pinned (OpenSpec.ofChange topRankWrong)

/-- 'crossbucktop.TopWaits': WHATEVER THE INPUT: true; the input reads as it did. -/
def topWaitsSpec : ChangeSpec := { name := "topWaits", fn := fun _ => fun
  | [d1, d2] => { results := [.lit (.bool true)], args := [d1, d2] }
  | _ => none }
def topWaitsRow : OpenClaim := { program := "ytjnbemnncjbmgaagreat", sum := "a427b90a45c7a066f3bb7569e91ff48e762e157d9ea28cf821046ae7a629bac4", func := "crossbuck/crossbucktop.TopWaits", spec := "topWaits", inPlace := ["math.Float64frombits", "math.Float64bits", "math.RoundToEven"], unfollowed := true, recurses := true, apart := false }
def TopWaitsSaid : Prop := topWaitsRow.holds Tryz.pinned (OpenSpec.ofChange topWaitsSpec)

/-- ITS FALSE NEIGHBOUR: 'it returns false'. Refute it at one input. -/
def topWaitsWrong : ChangeSpec := { name := "topWaits", fn := fun _ => fun
  | [d1, d2] => { results := [.lit (.bool false)], args := [d1, d2] }
  | _ => none }
def TopWaitsWrongFalsely : Prop := topWaitsRow.holds Tryz.pinned (OpenSpec.ofChange topWaitsWrong)

/-- 'crossbucktop.TopEnvelope': WHATEVER THE INPUT: true; the input reads as it did. -/
def topEnvelopeSpec : ChangeSpec := { name := "topEnvelope", fn := fun _ => fun
  | [d1, d2] => { results := [.lit (.bool true)], args := [d1, d2] }
  | _ => none }
def topEnvelopeRow : OpenClaim := { program := "ytjnbemnncjbmgaagreat", sum := "a427b90a45c7a066f3bb7569e91ff48e762e157d9ea28cf821046ae7a629bac4", func := "crossbuck/crossbucktop.TopEnvelope", spec := "topEnvelope", inPlace := ["math.Float64frombits", "math.Float64bits", "math.RoundToEven"], unfollowed := true, recurses := true, apart := false }
def TopEnvelopeSaid : Prop := topEnvelopeRow.holds Tryz.pinned (OpenSpec.ofChange topEnvelopeSpec)

/-- ITS FALSE NEIGHBOUR: 'it returns false'. Refute it at one input. -/
def topEnvelopeWrong : ChangeSpec := { name := "topEnvelope", fn := fun _ => fun
  | [d1, d2] => { results := [.lit (.bool false)], args := [d1, d2] }
  | _ => none }
def TopEnvelopeWrongFalsely : Prop := topEnvelopeRow.holds Tryz.pinned (OpenSpec.ofChange topEnvelopeWrong)

/- THE SECOND FORM. 'bulk': how many values and letters a reading holds, each counted each time it is reached (what is shared counts as often as it is met; a slice's spare places count too). A statement '..UptoSaid' is the law's where the arguments, and the package variables that the reading takes, are together of bulk at most 1048576: NARROWER than '..Said'. Prove '..Said' where nothing that the law and all that it calls make is longer than what came in: it says more and counts as full. Else prove '..UptoSaid'. A law counts once. -/
mutual
def uptoBulk {H : Type} : DataW H → Nat
  | .lit (.string bytes) => bytes.length + 1
  | .lit _ => 1
  | .nil => 1
  | .ptr d => uptoBulk d + 1
  | .slice elems spare => uptoBulkAll elems + uptoBulkAll spare + 1
  | .agg parts => uptoBulkAll parts + 1
  | .iface _ d => uptoBulk d + 1
  | .map entries => uptoBulkEntries entries + 1
  | .held _ => 1
def uptoBulkAll {H : Type} : List (DataW H) → Nat
  | [] => 0
  | d :: r => uptoBulk d + uptoBulkAll r
def uptoBulkEntries {H : Type} : List (Lit × DataW H) → Nat
  | [] => 0
  | x :: r => uptoBulkEntry x + uptoBulkEntries r
def uptoBulkEntry {H : Type} : Lit × DataW H → Nat
  | (.string bytes, d) => bytes.length + uptoBulk d + 1
  | (_, d) => uptoBulk d + 1
 end
def uptoSmall : (H : Type) → List (DataW H) → Bool := fun _ ds => decide (uptoBulkAll ds ≤ 1048576)
def OpenSpec.upto (s : _root_.Go.ChangeSpec) : _root_.Go.OpenSpec := { _root_.Go.OpenSpec.ofChange s with cond := some uptoSmall }

/-- 'crossbucktop.TopColours', WHERE WHAT IT READS IS OF BULK AT MOST 1048576: true; the input reads as it did. -/
def topColoursUptoRow : OpenClaim := { program := "ytjnbemnncjbmgaagreat", sum := "a427b90a45c7a066f3bb7569e91ff48e762e157d9ea28cf821046ae7a629bac4", func := "crossbuck/crossbucktop.TopColours", spec := "topColours", inPlace := ["math.Float64frombits", "math.Float64bits", "math.RoundToEven"], unfollowed := true, recurses := true, apart := false, narrowed := true }
def TopColoursUptoSaid : Prop := topColoursUptoRow.holds Tryz.pinned (OpenSpec.upto topColoursSpec)

/-- 'crossbucktop.TopFlash', WHERE WHAT IT READS IS OF BULK AT MOST 1048576: true; the input reads as it did. -/
def topFlashUptoRow : OpenClaim := { program := "ytjnbemnncjbmgaagreat", sum := "a427b90a45c7a066f3bb7569e91ff48e762e157d9ea28cf821046ae7a629bac4", func := "crossbuck/crossbucktop.TopFlash", spec := "topFlash", inPlace := ["math.Float64frombits", "math.Float64bits", "math.RoundToEven"], unfollowed := true, recurses := true, apart := false, narrowed := true }
def TopFlashUptoSaid : Prop := topFlashUptoRow.holds Tryz.pinned (OpenSpec.upto topFlashSpec)

/-- 'crossbucktop.TopBack', WHERE WHAT IT READS IS OF BULK AT MOST 1048576: true; the input reads as it did. -/
def topBackUptoRow : OpenClaim := { program := "ytjnbemnncjbmgaagreat", sum := "a427b90a45c7a066f3bb7569e91ff48e762e157d9ea28cf821046ae7a629bac4", func := "crossbuck/crossbucktop.TopBack", spec := "topBack", inPlace := ["math.Float64frombits", "math.Float64bits", "math.RoundToEven"], unfollowed := true, recurses := true, apart := false, narrowed := true }
def TopBackUptoSaid : Prop := topBackUptoRow.holds Tryz.pinned (OpenSpec.upto topBackSpec)

/-- 'crossbucktop.TopBuses', WHERE WHAT IT READS IS OF BULK AT MOST 1048576: true; the input reads as it did. -/
def topBusesUptoRow : OpenClaim := { program := "ytjnbemnncjbmgaagreat", sum := "a427b90a45c7a066f3bb7569e91ff48e762e157d9ea28cf821046ae7a629bac4", func := "crossbuck/crossbucktop.TopBuses", spec := "topBuses", inPlace := ["math.Float64frombits", "math.Float64bits", "math.RoundToEven"], unfollowed := true, recurses := true, apart := false, narrowed := true }
def TopBusesUptoSaid : Prop := topBusesUptoRow.holds Tryz.pinned (OpenSpec.upto topBusesSpec)

/-- 'crossbucktop.TopSame', WHERE WHAT IT READS IS OF BULK AT MOST 1048576: true; the input reads as it did. -/
def topSameUptoRow : OpenClaim := { program := "ytjnbemnncjbmgaagreat", sum := "a427b90a45c7a066f3bb7569e91ff48e762e157d9ea28cf821046ae7a629bac4", func := "crossbuck/crossbucktop.TopSame", spec := "topSame", inPlace := ["math.RoundToEven", "math.Float64bits", "math.Float64frombits"], unfollowed := true, recurses := true, apart := false, narrowed := true }
def TopSameUptoSaid : Prop := topSameUptoRow.holds Tryz.pinned (OpenSpec.upto topSameSpec)

/-- 'crossbucktop.TopAgain', WHERE WHAT IT READS IS OF BULK AT MOST 1048576: true; the input reads as it did. -/
def topAgainUptoRow : OpenClaim := { program := "ytjnbemnncjbmgaagreat", sum := "a427b90a45c7a066f3bb7569e91ff48e762e157d9ea28cf821046ae7a629bac4", func := "crossbuck/crossbucktop.TopAgain", spec := "topAgain", inPlace := ["math.Float64frombits", "math.Float64bits", "math.RoundToEven"], unfollowed := true, recurses := true, apart := false, narrowed := true }
def TopAgainUptoSaid : Prop := topAgainUptoRow.holds Tryz.pinned (OpenSpec.upto topAgainSpec)

/-- 'crossbucktop.TopSafe', WHERE WHAT IT READS IS OF BULK AT MOST 1048576: true; the input reads as it did. -/
def topSafeUptoRow : OpenClaim := { program := "ytjnbemnncjbmgaagreat", sum := "a427b90a45c7a066f3bb7569e91ff48e762e157d9ea28cf821046ae7a629bac4", func := "crossbuck/crossbucktop.TopSafe", spec := "topSafe", inPlace := ["math.Float64frombits", "math.Float64bits", "math.RoundToEven"], unfollowed := true, recurses := true, apart := false, narrowed := true }
def TopSafeUptoSaid : Prop := topSafeUptoRow.holds Tryz.pinned (OpenSpec.upto topSafeSpec)

/-- 'crossbucktop.TopRank', WHERE WHAT IT READS IS OF BULK AT MOST 1048576: true; the input reads as it did. -/
def topRankUptoRow : OpenClaim := { program := "ytjnbemnncjbmgaagreat", sum := "a427b90a45c7a066f3bb7569e91ff48e762e157d9ea28cf821046ae7a629bac4", func := "crossbuck/crossbucktop.TopRank", spec := "topRank", inPlace := ["math.Float64frombits", "math.Float64bits", "math.RoundToEven"], unfollowed := true, recurses := true, apart := false, narrowed := true }
def TopRankUptoSaid : Prop := topRankUptoRow.holds Tryz.pinned (OpenSpec.upto topRankSpec)

/-- 'crossbucktop.TopWaits', WHERE WHAT IT READS IS OF BULK AT MOST 1048576: true; the input reads as it did. -/
def topWaitsUptoRow : OpenClaim := { program := "ytjnbemnncjbmgaagreat", sum := "a427b90a45c7a066f3bb7569e91ff48e762e157d9ea28cf821046ae7a629bac4", func := "crossbuck/crossbucktop.TopWaits", spec := "topWaits", inPlace := ["math.Float64frombits", "math.Float64bits", "math.RoundToEven"], unfollowed := true, recurses := true, apart := false, narrowed := true }
def TopWaitsUptoSaid : Prop := topWaitsUptoRow.holds Tryz.pinned (OpenSpec.upto topWaitsSpec)

/-- 'crossbucktop.TopEnvelope', WHERE WHAT IT READS IS OF BULK AT MOST 1048576: true; the input reads as it did. -/
def topEnvelopeUptoRow : OpenClaim := { program := "ytjnbemnncjbmgaagreat", sum := "a427b90a45c7a066f3bb7569e91ff48e762e157d9ea28cf821046ae7a629bac4", func := "crossbuck/crossbucktop.TopEnvelope", spec := "topEnvelope", inPlace := ["math.Float64frombits", "math.Float64bits", "math.RoundToEven"], unfollowed := true, recurses := true, apart := false, narrowed := true }
def TopEnvelopeUptoSaid : Prop := topEnvelopeUptoRow.holds Tryz.pinned (OpenSpec.upto topEnvelopeSpec)

end Rows
end Go.Proofs.YtjnbemnncjbmgaaGreat
