/- WireReads: for every input the law returns true, and each argument reads afterwards as it read before. -/
import Derived.Test.YtobofgkfhjlneaaTies
import Derived.Test.YtobofgkfhjlneaaRows
import Derived.Test.YtobofgkfhjlneaaPk1
import Derived.Test.YtobofgkfhjlneaaPk2
import Derived.Test.YtobofgkfhjlneaaPk3
import Derived.Test.YtobofgkfhjlneaaPk4
import Derived.Test.YtobofgkfhjlneaaPk5
import Derived.Test.YtobofgkfhjlneaaPk6
import Derived.Test.YtobofgkfhjlneaaPk7
import Derived.Test.YtobofgkfhjlneaaPk8
import Derived.Test.YtobofgkfhjlneaaPk9
namespace Go.Proofs.Ytobofgkfhjlneaa.wireReadsDone
open Go.ChangeShapes Go.WideShapes Go.ChangeAt Go.RowKit Go.Eng
set_option linter.unusedVariables false

theorem own : ownKnob Try.prog.godebug = none := by kernel_rfl
theorem laidOut : laidOutB Try.prog = true := by kernel_rfl

set_option maxRecDepth 100000 in
theorem lifted (os : Os) (started : os.Started) (H : Type) (enc : TypeId × Value → H) :
    ReturnsInHanded {} Try.checked os 5 .any (Rows.wireReadsSpec.pre6 enc Try.prog Try.f5 Rows.wireReadsRow.domain false) (Rows.wireReadsSpec.post enc Try.prog Try.f5 false true false false) := by
  refine returnsInHanded_of_change (C := Try.checked) own started (by kernel_rfl) Try.func5
    (ChangeSpec.witness6 (enc := enc) (C := Try.checked) false ⟨#[], #[.slice none 0 0, .slice none 0 0], []⟩ 8 (by kernel_rfl) (by kernel_rfl) (by kernel_rfl) (by kernel_rfl)) ?_
  intro W base args ds gs before hval0 hW hcnd _
  have hval : ∀ (j : Nat) t v, Try.f5.params[j]? = some t → args[j]? = some v → Value.okWide Try.prog W .any base t v := hval0
  have hW' := hW
  obtain ⟨p, q, hA0, hV, rfl, hfz, hnd⟩ := hW
  have hA : DataW.TrodAll enc Try.prog W 0 (fun _ => true) true Try.f5.params.toList args.toList ds p := hA0
  rw [Try.params5] at hA hval
  obtain ⟨rfl, rfl⟩ := trodVars_none hV
  clear hA0 hval0
  obtain ⟨vs, rfl⟩ : ∃ vs : List Value, args = vs.toArray := ⟨args.toList, rfl⟩
  have al := fJ hA (fun j t v h1 h2 => hval j t v (by simpa using h1) (by simpa using h2))
  obtain ⟨v0, r0, rfl, c0, al⟩ := al.cons_inv
  obtain ⟨a0, k0, d0⟩ := ck (n := 40) (k := .sl [.sc (.int .u8)]) (by kernel_rfl) (by kernel_rfl) c0
  obtain ⟨l0, rfl, m0, w0⟩ := jQ k0
  obtain ⟨v1, r1, rfl, c1, al⟩ := al.cons_inv
  obtain ⟨a1, k1, d1⟩ := ck (n := 40) (k := .sl EK) (by kernel_rfl) (by kernel_rfl) c1
  obtain ⟨t1, rfl, m1, w1⟩ := uG k1
  cases al.e7
  refine (jR (s5 l0 t1) (Al.c d0 (Al.c d1 Al.n))).mono fun e W' ⟨he, bel⟩ => ?_
  subst he
  have hcl := eN laidOut (by kernel_rfl) hA bel
  have hlen : ds.length = 2 := by
    have := dH hA; simpa using this
  obtain ⟨y0, y1, rfl⟩ := uF hlen
  exact ⟨_, rfl, _, _, _, [], _, [], hW', trodAll_mk1 (shut_bool Try.underlying4 _), hcl, rfl, bel.frame _, fun h => by cases h⟩

theorem over : Rows.wireReadsRow.holds Try.pinned (OpenSpec.ofChange Rows.wireReadsSpec) :=
  OpenClaim.holds_of_wide 5 Try.f5 rfl rfl rfl rfl rfl rfl rfl ⟨rfl, rfl, rfl, rfl, rfl⟩ rfl rfl rfl rfl rfl (by kernel_rfl) Try.func5 (by kernel_rfl)
    (of_decide_eq_true (by kernel_rfl)) (by unfold Func.isWrapper; first | (rw [if_pos (by decide +kernel)]; kernel_rfl) | (rw [if_neg (by decide +kernel)]; exact ⟨rfl, rfl⟩))
    (fun os started H enc _ => lifted os started H enc)

/-- THE STATEMENT -/
theorem proved : Rows.WireReadsSaid := over
end Go.Proofs.Ytobofgkfhjlneaa.wireReadsDone
