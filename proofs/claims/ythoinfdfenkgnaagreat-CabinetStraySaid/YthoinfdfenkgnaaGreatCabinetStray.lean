/- CabinetStray: for every input the law returns true, and each argument reads afterwards as it read before. -/
import Derived.Test.YthoinfdfenkgnaaGreatTies
import Derived.Test.YthoinfdfenkgnaaGreatRows
import Derived.Test.YthoinfdfenkgnaaGreatPk1
import Derived.Test.YthoinfdfenkgnaaGreatPk2
import Derived.Test.YthoinfdfenkgnaaGreatPk3
import Derived.Test.YthoinfdfenkgnaaGreatPk4
import Derived.Test.YthoinfdfenkgnaaGreatPk5
import Derived.Test.YthoinfdfenkgnaaGreatPk6
import Derived.Test.YthoinfdfenkgnaaGreatPk7
import Derived.Test.YthoinfdfenkgnaaGreatPk8
import Derived.Test.YthoinfdfenkgnaaGreatPk9
import Derived.Test.YthoinfdfenkgnaaGreatPk10
import Derived.Test.YthoinfdfenkgnaaGreatPk11
import Derived.Test.YthoinfdfenkgnaaGreatPk12
import Derived.Test.YthoinfdfenkgnaaGreatPk13
import Derived.Test.YthoinfdfenkgnaaGreatPk14
import Derived.Test.YthoinfdfenkgnaaGreatPk15
import Derived.Test.YthoinfdfenkgnaaGreatPk16
import Derived.Test.YthoinfdfenkgnaaGreatPk17
import Derived.Test.YthoinfdfenkgnaaGreatPk18
namespace Go.Proofs.YthoinfdfenkgnaaGreat.cabinetStrayDone
open Go.ChangeShapes Go.WideShapes Go.ChangeAt Go.RowKit Go.Eng
set_option linter.unusedVariables false

theorem own : ownKnob Tryz.prog.godebug = none := by kernel_rfl
theorem laidOut : laidOutB Tryz.prog = true := by kernel_rfl

set_option maxRecDepth 100000 in
theorem lifted (os : Os) (started : os.Started) (H : Type) (enc : TypeId × Value → H) :
    ReturnsInHanded {} Tryz.checked os 5 .any (Rows.cabinetStraySpec.pre6 enc Tryz.prog Tryz.f5 Rows.cabinetStrayRow.domain false) (Rows.cabinetStraySpec.post enc Tryz.prog Tryz.f5 false true false false) := by
  refine returnsInHanded_of_change (C := Tryz.checked) own started (by kernel_rfl) Tryz.func5
    (ChangeSpec.witness6 (enc := enc) (C := Tryz.checked) false ⟨#[], #[.slice none 0 0, .slice none 0 0, .int .i64 0], []⟩ 8 (by kernel_rfl) (by kernel_rfl) (by kernel_rfl) (by kernel_rfl)) ?_
  intro W base args ds gs before hval0 hW hcnd _
  have hval : ∀ (j : Nat) t v, Tryz.f5.params[j]? = some t → args[j]? = some v → Value.okWide Tryz.prog W .any base t v := hval0
  have hW' := hW
  obtain ⟨p, q, hA0, hV, rfl, hfz, hnd⟩ := hW
  have hA : DataW.TrodAll enc Tryz.prog W 0 (fun _ => true) true Tryz.f5.params.toList args.toList ds p := hA0
  rw [Tryz.params5] at hA hval
  obtain ⟨rfl, rfl⟩ := trodVars_none hV
  clear hA0 hval0
  obtain ⟨vs, rfl⟩ : ∃ vs : List Value, args = vs.toArray := ⟨args.toList, rfl⟩
  have al := EU hA (fun j t v h1 h2 => hval j t v (by simpa using h1) (by simpa using h2))
  obtain ⟨v0, r0, rfl, c0, al⟩ := al.cons_inv
  obtain ⟨a0, k0, d0⟩ := DC (n := 40) (k := .sl [.sc (.int .i64)]) (by kernel_rfl) (by kernel_rfl) c0
  obtain ⟨l0, rfl, m0, w0⟩ := IA k0
  obtain ⟨v1, r1, rfl, c1, al⟩ := al.cons_inv
  obtain ⟨a1, k1, d1⟩ := DC (n := 40) (k := .sl [.sc (.int .i64)]) (by kernel_rfl) (by kernel_rfl) c1
  obtain ⟨l1, rfl, m1, w1⟩ := IA k1
  obtain ⟨v2, r2, rfl, c2, al⟩ := al.cons_inv
  obtain ⟨a2, k2, d2⟩ := DC (n := 40) (k := .sc (.int .i64)) (by kernel_rfl) (by kernel_rfl) c2
  obtain ⟨n2, rfl, w2⟩ := KU k2
  cases al.Gg
  refine (O9 (s5 l0 l1 n2) (Al.c d0 (Al.c d1 (Al.c d2 Al.n)))).mono fun e W' ⟨he, bel⟩ => ?_
  subst he
  have hcl := DB laidOut (by kernel_rfl) hA bel
  have hlen : ds.length = 3 := by
    have := yD hA; simpa using this
  obtain ⟨y0, y1, y2, rfl⟩ := aab hlen
  exact ⟨_, rfl, _, _, _, [], _, [], hW', trodAll_mk1 (shut_bool Tryz.underlying4 _), hcl, rfl, bel.frame _, fun h => by cases h⟩

theorem BT : Rows.cabinetStrayRow.holds Tryz.pinned (OpenSpec.ofChange Rows.cabinetStraySpec) :=
  OpenClaim.holds_of_wide 5 Tryz.f5 rfl rfl rfl rfl rfl rfl rfl ⟨rfl, rfl, rfl, rfl, rfl⟩ rfl rfl rfl rfl rfl (by kernel_rfl) Tryz.func5 (by kernel_rfl)
    (of_decide_eq_true (by kernel_rfl)) (by unfold Func.isWrapper; first | (rw [if_pos (by decide +kernel)]; kernel_rfl) | (rw [if_neg (by decide +kernel)]; exact ⟨rfl, rfl⟩))
    (fun os started H enc _ => lifted os started H enc)

/-- THE STATEMENT -/
theorem proved : Rows.CabinetStraySaid := BT
end Go.Proofs.YthoinfdfenkgnaaGreat.cabinetStrayDone
