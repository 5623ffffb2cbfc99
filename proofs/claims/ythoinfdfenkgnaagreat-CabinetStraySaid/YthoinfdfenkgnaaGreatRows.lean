/-
  No cell of these rows narrows 'for every input' (looked for: loops, veiled, ifaces, maps, wideKeys, modest, calm, conditions, laid).
  DERIVED. THE GIVEN ROWS OF THIS SEAT. 5 by the template 'for every input the law returns true; each argument reads behind the call as it read before'; 0 by the template 'total and deterministic' (their statements: YthoinfdfenkgnaaGreatTotals.lean).
  GIVEN WITH THE SEED: the statements are not yours to turn. If you find one false, say at which input.
  Laid BY PROGRAM, IN A SANDBOX (cutbox-rows.mjs): the forced cells as the released guide's own fill.sh prints them over the translation 58b6ca785043b351… (all of the seat's roots in one cut). By AI agents, Wed Nov 11 2026. No macro, syntax, notation, axiom, sorry.
-/
import Derived.Test.YthoinfdfenkgnaaGreatChecked
import GoSem.Claim
import GoSem.ClaimJoined
import GoSem.ClaimMapViews
import Derived.JoinedTies
import Derived.KernelRfl
namespace Go.Proofs.YthoinfdfenkgnaaGreat
/- THE CELL 'sum', in the pinned program and in every row, IS THE sha256 OF THE DUMP (.gsa) THAT YthoinfdfenkgnaaGreatProg.lean LOADS. Nothing in Lean hashes anything: it is a label: what it is worth is what the hold of that sum in a sandbox is worth. -/
noncomputable def Tryz.pinned : Pinned := { name := "ythoinfdfenkgnaagreat", sum := "58b6ca785043b351ede6e3ce3e281bd268353962b5e0abc011a1c4864bfb0cce", checked := Tryz.checked }
namespace Rows
def none {H : Type} : Left H := { results := [], args := [] }

/-- 'crossbucklaw26.CabinetPlays': WHATEVER THE INPUT: true; the input reads as it did. -/
def cabinetPlaysSpec : ChangeSpec := { name := "cabinetPlays", fn := fun _ => fun
  | [d1, d2] => { results := [.lit (.bool true)], args := [d1, d2] }
  | _ => none }
def cabinetPlaysRow : OpenClaim := { program := "ythoinfdfenkgnaagreat", sum := "58b6ca785043b351ede6e3ce3e281bd268353962b5e0abc011a1c4864bfb0cce", func := "crossbuck/crossbucklaw26.CabinetPlays", spec := "cabinetPlays", inPlace := ["math.Float64frombits", "math.Float64bits", "math.RoundToEven"], unfollowed := true, recurses := true, apart := false }
def CabinetPlaysSaid : Prop := cabinetPlaysRow.holds Tryz.pinned (OpenSpec.ofChange cabinetPlaysSpec)

/-- ITS FALSE NEIGHBOUR: 'it returns false'. Refute it at one input. -/
def cabinetPlaysWrong : ChangeSpec := { name := "cabinetPlays", fn := fun _ => fun
  | [d1, d2] => { results := [.lit (.bool false)], args := [d1, d2] }
  | _ => none }
def CabinetPlaysWrongFalsely : Prop := cabinetPlaysRow.holds Tryz.pinned (OpenSpec.ofChange cabinetPlaysWrong)

/-- 'crossbucklaw26.CabinetFlash': WHATEVER THE INPUT: true; the input reads as it did. -/
def cabinetFlashSpec : ChangeSpec := { name := "cabinetFlash", fn := fun _ => fun
  | [d1, d2] => { results := [.lit (.bool true)], args := [d1, d2] }
  | _ => none }
def cabinetFlashRow : OpenClaim := { program := "ythoinfdfenkgnaagreat", sum := "58b6ca785043b351ede6e3ce3e281bd268353962b5e0abc011a1c4864bfb0cce", func := "crossbuck/crossbucklaw26.CabinetFlash", spec := "cabinetFlash", inPlace := ["math.Float64frombits", "math.Float64bits", "math.RoundToEven"], unfollowed := true, recurses := true, apart := false }
def CabinetFlashSaid : Prop := cabinetFlashRow.holds Tryz.pinned (OpenSpec.ofChange cabinetFlashSpec)

/-- ITS FALSE NEIGHBOUR: 'it returns false'. Refute it at one input. -/
def cabinetFlashWrong : ChangeSpec := { name := "cabinetFlash", fn := fun _ => fun
  | [d1, d2] => { results := [.lit (.bool false)], args := [d1, d2] }
  | _ => none }
def CabinetFlashWrongFalsely : Prop := cabinetFlashRow.holds Tryz.pinned (OpenSpec.ofChange cabinetFlashWrong)

/-- 'crossbucklaw26.CabinetStray': WHATEVER THE INPUT: true; the input reads as it did. -/
def cabinetStraySpec : ChangeSpec := { name := "cabinetStray", fn := fun _ => fun
  | [d1, d2, d3] => { results := [.lit (.bool true)], args := [d1, d2, d3] }
  | _ => none }
def cabinetStrayRow : OpenClaim := { program := "ythoinfdfenkgnaagreat", sum := "58b6ca785043b351ede6e3ce3e281bd268353962b5e0abc011a1c4864bfb0cce", func := "crossbuck/crossbucklaw26.CabinetStray", spec := "cabinetStray", inPlace := ["math.Float64frombits", "math.Float64bits", "math.RoundToEven"], unfollowed := true, recurses := true, apart := false }
def CabinetStraySaid : Prop := cabinetStrayRow.holds Tryz.pinned (OpenSpec.ofChange cabinetStraySpec)

/-- ITS FALSE NEIGHBOUR: 'it returns false'. Refute it at one input. -/
def cabinetStrayWrong : ChangeSpec := { name := "cabinetStray", fn := fun _ => fun
  | [d1, d2, d3] => { results := [.lit (.bool false)], args := [d1, d2, d3] }
  | _ => none }
def CabinetStrayWrongFalsely : Prop := cabinetStrayRow.holds Tryz.pinned (OpenSpec.ofChange cabinetStrayWrong)

/-- 'crossbucklaw26.CabinetFrames': WHATEVER THE INPUT: true; the input reads as it did. -/
def cabinetFramesSpec : ChangeSpec := { name := "cabinetFrames", fn := fun _ => fun
  | [d1, d2] => { results := [.lit (.bool true)], args := [d1, d2] }
  | _ => none }
def cabinetFramesRow : OpenClaim := { program := "ythoinfdfenkgnaagreat", sum := "58b6ca785043b351ede6e3ce3e281bd268353962b5e0abc011a1c4864bfb0cce", func := "crossbuck/crossbucklaw26.CabinetFrames", spec := "cabinetFrames", inPlace := ["math.Float64frombits", "math.RoundToEven"], unfollowed := true, recurses := true, apart := false }
def CabinetFramesSaid : Prop := cabinetFramesRow.holds Tryz.pinned (OpenSpec.ofChange cabinetFramesSpec)

/-- ITS FALSE NEIGHBOUR: 'it returns false'. Refute it at one input. -/
def cabinetFramesWrong : ChangeSpec := { name := "cabinetFrames", fn := fun _ => fun
  | [d1, d2] => { results := [.lit (.bool false)], args := [d1, d2] }
  | _ => none }
def CabinetFramesWrongFalsely : Prop := cabinetFramesRow.holds Tryz.pinned (OpenSpec.ofChange cabinetFramesWrong)

/-- 'crossbucklaw26.CabinetTame': WHATEVER THE INPUT: true; the input reads as it did. -/
def cabinetTameSpec : ChangeSpec := { name := "cabinetTame", fn := fun _ => fun
  | [d1, d2] => { results := [.lit (.bool true)], args := [d1, d2] }
  | _ => none }
def cabinetTameRow : OpenClaim := { program := "ythoinfdfenkgnaagreat", sum := "58b6ca785043b351ede6e3ce3e281bd268353962b5e0abc011a1c4864bfb0cce", func := "crossbuck/crossbucklaw26.CabinetTame", spec := "cabinetTame", inPlace := ["math.Float64frombits", "math.Float64bits", "math.RoundToEven"], unfollowed := true, recurses := true, apart := false }
def CabinetTameSaid : Prop := cabinetTameRow.holds Tryz.pinned (OpenSpec.ofChange cabinetTameSpec)

/-- ITS FALSE NEIGHBOUR: 'it returns false'. Refute it at one input. -/
def cabinetTameWrong : ChangeSpec := { name := "cabinetTame", fn := fun _ => fun
  | [d1, d2] => { results := [.lit (.bool false)], args := [d1, d2] }
  | _ => none }
def CabinetTameWrongFalsely : Prop := cabinetTameRow.holds Tryz.pinned (OpenSpec.ofChange cabinetTameWrong)

/- THE SECOND FORM. 'bulk': how many values and letters a reading holds, each counted each time it is reached (what is shared counts as often as it is met; a slice's spare places count too). A statement '..UptoSaid' is the law's where the arguments, and the package variables that the reading takes, are together of bulk at most 1048576: NARROWER than '..Said'. Prove '..Said' where nothing that the law and all that it calls make is longer than what came in: it says more and counts as full. Else prove '..UptoSaid'. A law counts once. -/
mutual
def uptoBulk {H : Type} : DataW H → Nat
  | .lit (.string bytes) => bytes.length + 1
  | .lit _ => 1
  | .nil => 1
  | .ptr d => uptoBulk d + 1
  | .slice elems spare => uptoBulkAll elems + uptoBulkAll spare + 1
  | .agg parts => uptoBulkAll parts + 1
  | .iface _ d => uptoBulk d + 1
  | .map entries => uptoBulkEntries entries + 1
  | .held _ => 1
def uptoBulkAll {H : Type} : List (DataW H) → Nat
  | [] => 0
  | d :: r => uptoBulk d + uptoBulkAll r
def uptoBulkEntries {H : Type} : List (Lit × DataW H) → Nat
  | [] => 0
  | x :: r => uptoBulkEntry x + uptoBulkEntries r
def uptoBulkEntry {H : Type} : Lit × DataW H → Nat
  | (.string bytes, d) => bytes.length + uptoBulk d + 1
  | (_, d) => uptoBulk d + 1
 end
def uptoSmall : (H : Type) → List (DataW H) → Bool := fun _ ds => decide (uptoBulkAll ds ≤ 1048576)
def OpenSpec.upto (s : _root_.Go.ChangeSpec) : _root_.Go.OpenSpec := { _root_.Go.OpenSpec.ofChange s with cond := some uptoSmall }

/-- 'crossbucklaw26.CabinetPlays', WHERE WHAT IT READS IS OF BULK AT MOST 1048576: true; the input reads as it did. -/
def cabinetPlaysUptoRow : OpenClaim := { program := "ythoinfdfenkgnaagreat", sum := "58b6ca785043b351ede6e3ce3e281bd268353962b5e0abc011a1c4864bfb0cce", func := "crossbuck/crossbucklaw26.CabinetPlays", spec := "cabinetPlays", inPlace := ["math.Float64frombits", "math.Float64bits", "math.RoundToEven"], unfollowed := true, recurses := true, apart := false, narrowed := true }
def CabinetPlaysUptoSaid : Prop := cabinetPlaysUptoRow.holds Tryz.pinned (OpenSpec.upto cabinetPlaysSpec)

/-- 'crossbucklaw26.CabinetFlash', WHERE WHAT IT READS IS OF BULK AT MOST 1048576: true; the input reads as it did. -/
def cabinetFlashUptoRow : OpenClaim := { program := "ythoinfdfenkgnaagreat", sum := "58b6ca785043b351ede6e3ce3e281bd268353962b5e0abc011a1c4864bfb0cce", func := "crossbuck/crossbucklaw26.CabinetFlash", spec := "cabinetFlash", inPlace := ["math.Float64frombits", "math.Float64bits", "math.RoundToEven"], unfollowed := true, recurses := true, apart := false, narrowed := true }
def CabinetFlashUptoSaid : Prop := cabinetFlashUptoRow.holds Tryz.pinned (OpenSpec.upto cabinetFlashSpec)

/-- 'crossbucklaw26.CabinetStray', WHERE WHAT IT READS IS OF BULK AT MOST 1048576: true; the input reads as it did. -/
def cabinetStrayUptoRow : OpenClaim := { program := "ythoinfdfenkgnaagreat", sum := "58b6ca785043b351ede6e3ce3e281bd268353962b5e0abc011a1c4864bfb0cce", func := "crossbuck/crossbucklaw26.CabinetStray", spec := "cabinetStray", inPlace := ["math.Float64frombits", "math.Float64bits", "math.RoundToEven"], unfollowed := true, recurses := true, apart := false, narrowed := true }
def CabinetStrayUptoSaid : Prop := cabinetStrayUptoRow.holds Tryz.pinned (OpenSpec.upto cabinetStraySpec)

/-- 'crossbucklaw26.CabinetFrames', WHERE WHAT IT READS IS OF BULK AT MOST 1048576: true; the input reads as it did. -/
def cabinetFramesUptoRow : OpenClaim := { program := "ythoinfdfenkgnaagreat", sum := "58b6ca785043b351ede6e3ce3e281bd268353962b5e0abc011a1c4864bfb0cce", func := "crossbuck/crossbucklaw26.CabinetFrames", spec := "cabinetFrames", inPlace := ["math.Float64frombits", "math.RoundToEven"], unfollowed := true, recurses := true, apart := false, narrowed := true }
def CabinetFramesUptoSaid : Prop := cabinetFramesUptoRow.holds Tryz.pinned (OpenSpec.upto cabinetFramesSpec)

/-- 'crossbucklaw26.CabinetTame', WHERE WHAT IT READS IS OF BULK AT MOST 1048576: true; the input reads as it did. -/
def cabinetTameUptoRow : OpenClaim := { program := "ythoinfdfenkgnaagreat", sum := "58b6ca785043b351ede6e3ce3e281bd268353962b5e0abc011a1c4864bfb0cce", func := "crossbuck/crossbucklaw26.CabinetTame", spec := "cabinetTame", inPlace := ["math.Float64frombits", "math.Float64bits", "math.RoundToEven"], unfollowed := true, recurses := true, apart := false, narrowed := true }
def CabinetTameUptoSaid : Prop := cabinetTameUptoRow.holds Tryz.pinned (OpenSpec.upto cabinetTameSpec)

end Rows
end Go.Proofs.YthoinfdfenkgnaaGreat
