/- CallsMore: for every input the law returns true, and each argument reads afterwards as it read before. -/
import Derived.Test.YtklkmmgbcmeinaaTies
import Derived.Test.YtklkmmgbcmeinaaRows
import Derived.Test.YtklkmmgbcmeinaaOpen1
namespace Go.Proofs.Ytklkmmgbcmeinaa.callsMoreDone
open Go.ChangeShapes Go.WideShapes Go.ChangeAt Go.RowKit Go.Eng
set_option linter.unusedVariables false

theorem own : ownKnob Try.prog.godebug = none := by kernel_rfl
theorem laidOut : laidOutB Try.prog = true := by kernel_rfl

set_option maxRecDepth 100000 in
theorem lifted (os : Os) (started : os.Started) (H : Type) (enc : TypeId × Value → H) :
    ReturnsInHanded {} Try.checked os 5 .any (Rows.callsMoreSpec.pre6 enc Try.prog Try.f5 Rows.callsMoreRow.domain false) (Rows.callsMoreSpec.post enc Try.prog Try.f5 false true false false) := by
  refine returnsInHanded_of_change (C := Try.checked) own started (by kernel_rfl) Try.func5
    (ChangeSpec.witness6 (enc := enc) (C := Try.checked) false ⟨#[], #[.slice none 0 0, .agg #[.int .i64 0, .int .i64 0], .int .i64 0, .int .i64 0, .int .i64 0, .int .i64 0, .int .i64 0], []⟩ 8 (by kernel_rfl) (by kernel_rfl) (by kernel_rfl) (by kernel_rfl)) ?_
  intro W base args ds gs before hval0 hW hcnd _
  have hval : ∀ (j : Nat) t v, Try.f5.params[j]? = some t → args[j]? = some v → Value.okWide Try.prog W .any base t v := hval0
  have hW' := hW
  obtain ⟨p, q, hA0, hV, rfl, hfz, hnd⟩ := hW
  have hA : DataW.TrodAll enc Try.prog W 0 (fun _ => true) true Try.f5.params.toList args.toList ds p := hA0
  rw [Try.params5] at hA hval
  obtain ⟨rfl, rfl⟩ := trodVars_none hV
  clear hA0 hval0
  obtain ⟨vs, rfl⟩ : ∃ vs : List Value, args = vs.toArray := ⟨args.toList, rfl⟩
  have al := args_open hA (fun j t v h1 h2 => hval j t v (by simpa using h1) (by simpa using h2))
  obtain ⟨v0, r0, rfl, c0, al⟩ := al.cons_inv
  obtain ⟨a0, k0, d0⟩ := came_one (n := 40) (k := .sl [(.int .i64)]) (by kernel_rfl) (by kernel_rfl) c0
  obtain ⟨l0, rfl, m0, w0⟩ := tyv_ints k0
  obtain ⟨v1, r1, rfl, c1, al⟩ := al.cons_inv
  obtain ⟨as1, ty1, d1⟩ := came_agg (n := 40) (l := [.sc (.int .i64), .sc (.int .i64)]) (by kernel_rfl) (by kernel_rfl) c1
  obtain ⟨a, r1_0, rfl, k1_0, ty1_0⟩ := ty1.cons_inv
  obtain ⟨n1_0, rfl, w1_0⟩ := tyv_int k1_0
  obtain ⟨a, r1_1, rfl, k1_1, ty1_1⟩ := ty1_0.cons_inv
  obtain ⟨n1_1, rfl, w1_1⟩ := tyv_int k1_1
  cases ty1_1.nil_inv
  obtain ⟨v2, r2, rfl, c2, al⟩ := al.cons_inv
  obtain ⟨a2, k2, d2⟩ := came_one (n := 40) (k := .sc (.int .i64)) (by kernel_rfl) (by kernel_rfl) c2
  obtain ⟨n2, rfl, w2⟩ := tyv_int k2
  obtain ⟨v3, r3, rfl, c3, al⟩ := al.cons_inv
  obtain ⟨a3, k3, d3⟩ := came_one (n := 40) (k := .sc (.int .i64)) (by kernel_rfl) (by kernel_rfl) c3
  obtain ⟨n3, rfl, w3⟩ := tyv_int k3
  obtain ⟨v4, r4, rfl, c4, al⟩ := al.cons_inv
  obtain ⟨a4, k4, d4⟩ := came_one (n := 40) (k := .sc (.int .i64)) (by kernel_rfl) (by kernel_rfl) c4
  obtain ⟨n4, rfl, w4⟩ := tyv_int k4
  obtain ⟨v5, r5, rfl, c5, al⟩ := al.cons_inv
  obtain ⟨a5, k5, d5⟩ := came_one (n := 40) (k := .sc (.int .i64)) (by kernel_rfl) (by kernel_rfl) c5
  obtain ⟨n5, rfl, w5⟩ := tyv_int k5
  obtain ⟨v6, r6, rfl, c6, al⟩ := al.cons_inv
  obtain ⟨a6, k6, d6⟩ := came_one (n := 40) (k := .sc (.int .i64)) (by kernel_rfl) (by kernel_rfl) c6
  obtain ⟨n6, rfl, w6⟩ := tyv_int k6
  cases al.nil_inv
  refine (law_call (s5 l0 ⟨n1_0, n1_1⟩ n2 n3 n4 n5 n6) (Al.c d0 (Al.c d1 (Al.c d2 (Al.c d3 (Al.c d4 (Al.c d5 (Al.c d6 Al.n)))))))).mono fun e W' ⟨he, bel⟩ => ?_
  subst he
  have hcl := args_close laidOut (by kernel_rfl) hA bel
  have hlen : ds.length = 7 := by
    have := trodAll_lens hA; simpa using this
  obtain ⟨y0, y1, y2, y3, y4, y5, y6, rfl⟩ := len_7 hlen
  exact ⟨_, rfl, _, _, _, [], _, [], hW', trodAll_mk1 (shut_bool Try.underlying4 _), hcl, rfl, bel.frame _, fun h => by cases h⟩

theorem over : Rows.callsMoreRow.holds Try.pinned (OpenSpec.ofChange Rows.callsMoreSpec) :=
  OpenClaim.holds_of_wide 5 Try.f5 rfl rfl rfl rfl rfl rfl rfl ⟨rfl, rfl, rfl, rfl, rfl⟩ rfl rfl rfl rfl rfl (by kernel_rfl) Try.func5 (by kernel_rfl)
    (of_decide_eq_true (by kernel_rfl)) (by unfold Func.isWrapper; first | (rw [if_pos (by decide +kernel)]; kernel_rfl) | (rw [if_neg (by decide +kernel)]; exact ⟨rfl, rfl⟩))
    (fun os started H enc _ => lifted os started H enc)

/-- THE STATEMENT -/
theorem proved : Rows.CallsMoreSaid := over
end Go.Proofs.Ytklkmmgbcmeinaa.callsMoreDone
