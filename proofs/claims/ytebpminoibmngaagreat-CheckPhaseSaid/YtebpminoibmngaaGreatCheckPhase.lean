/- CheckPhase: for every input the law returns true, and each argument reads afterwards as it read before. -/
import Derived.Test.YtebpminoibmngaaGreatTies
import Derived.Test.YtebpminoibmngaaGreatRows
import Derived.Test.YtebpminoibmngaaGreatPk7
namespace Go.Proofs.YtebpminoibmngaaGreat.checkPhaseDone
open Go.ChangeShapes Go.WideShapes Go.ChangeAt Go.RowKit Go.Eng
set_option linter.unusedVariables false

theorem own : ownKnob Tryz.prog.godebug = none := by kernel_rfl
theorem laidOut : laidOutB Tryz.prog = true := by kernel_rfl

set_option maxRecDepth 100000 in
theorem lifted (os : Os) (started : os.Started) (H : Type) (enc : TypeId × Value → H) :
    ReturnsInHanded {} Tryz.checked os 4 .any (Rows.checkPhaseSpec.pre6 enc Tryz.prog Tryz.f4 Rows.checkPhaseRow.domain false) (Rows.checkPhaseSpec.post enc Tryz.prog Tryz.f4 false true false false) := by
  refine returnsInHanded_of_change (C := Tryz.checked) own started (by kernel_rfl) Tryz.func4
    (ChangeSpec.witness6 (enc := enc) (C := Tryz.checked) false ⟨#[], #[.slice none 0 0, .int .i64 0, .agg #[.bool false, .int .i64 0, .int .i64 0, .int .i64 0, .int .i64 0, .int .i64 0, .int .i64 0, .int .i64 0, .int .i64 0, .int .i64 0, .int .i64 0, .bool false, .bool false], .int .i64 0, .int .i64 0], []⟩ 8 (by kernel_rfl) (by kernel_rfl) (by kernel_rfl) (by kernel_rfl)) ?_
  intro W base args ds gs before hval0 hW hcnd _
  have hval : ∀ (j : Nat) t v, Tryz.f4.params[j]? = some t → args[j]? = some v → Value.okWide Tryz.prog W .any base t v := hval0
  have hW' := hW
  obtain ⟨p, q, hA0, hV, rfl, hfz, hnd⟩ := hW
  have hA : DataW.TrodAll enc Tryz.prog W 0 (fun _ => true) true Tryz.f4.params.toList args.toList ds p := hA0
  rw [Tryz.params4] at hA hval
  obtain ⟨rfl, rfl⟩ := trodVars_none hV
  clear hA0 hval0
  obtain ⟨vs, rfl⟩ : ∃ vs : List Value, args = vs.toArray := ⟨args.toList, rfl⟩
  have al := args_open hA (fun j t v h1 h2 => hval j t v (by simpa using h1) (by simpa using h2))
  obtain ⟨v0, r0, rfl, c0, al⟩ := al.cons_inv
  obtain ⟨a0, k0, d0⟩ := came_one (n := 40) (k := .sl [.sc (.int .i64)]) (by kernel_rfl) (by kernel_rfl) c0
  obtain ⟨l0, rfl, m0, w0⟩ := tyv_ints k0
  obtain ⟨v1, r1, rfl, c1, al⟩ := al.cons_inv
  obtain ⟨a1, k1, d1⟩ := came_one (n := 40) (k := .sc (.int .i64)) (by kernel_rfl) (by kernel_rfl) c1
  obtain ⟨n1, rfl, w1⟩ := tyv_int k1
  obtain ⟨v2, r2, rfl, c2, al⟩ := al.cons_inv
  obtain ⟨as2, ty2, d2⟩ := came_agg (n := 40) (l := [.sc .bool, .sc (.int .i64), .sc (.int .i64), .sc (.int .i64), .sc (.int .i64), .sc (.int .i64), .sc (.int .i64), .sc (.int .i64), .sc (.int .i64), .sc (.int .i64), .sc (.int .i64), .sc .bool, .sc .bool]) (by kernel_rfl) (by kernel_rfl) c2
  obtain ⟨a, r2_0, rfl, k2_0, ty2_0⟩ := ty2.cons_inv
  obtain ⟨b2_0, rfl⟩ := tyv_bool k2_0
  obtain ⟨a, r2_1, rfl, k2_1, ty2_1⟩ := ty2_0.cons_inv
  obtain ⟨n2_1, rfl, w2_1⟩ := tyv_int k2_1
  obtain ⟨a, r2_2, rfl, k2_2, ty2_2⟩ := ty2_1.cons_inv
  obtain ⟨n2_2, rfl, w2_2⟩ := tyv_int k2_2
  obtain ⟨a, r2_3, rfl, k2_3, ty2_3⟩ := ty2_2.cons_inv
  obtain ⟨n2_3, rfl, w2_3⟩ := tyv_int k2_3
  obtain ⟨a, r2_4, rfl, k2_4, ty2_4⟩ := ty2_3.cons_inv
  obtain ⟨n2_4, rfl, w2_4⟩ := tyv_int k2_4
  obtain ⟨a, r2_5, rfl, k2_5, ty2_5⟩ := ty2_4.cons_inv
  obtain ⟨n2_5, rfl, w2_5⟩ := tyv_int k2_5
  obtain ⟨a, r2_6, rfl, k2_6, ty2_6⟩ := ty2_5.cons_inv
  obtain ⟨n2_6, rfl, w2_6⟩ := tyv_int k2_6
  obtain ⟨a, r2_7, rfl, k2_7, ty2_7⟩ := ty2_6.cons_inv
  obtain ⟨n2_7, rfl, w2_7⟩ := tyv_int k2_7
  obtain ⟨a, r2_8, rfl, k2_8, ty2_8⟩ := ty2_7.cons_inv
  obtain ⟨n2_8, rfl, w2_8⟩ := tyv_int k2_8
  obtain ⟨a, r2_9, rfl, k2_9, ty2_9⟩ := ty2_8.cons_inv
  obtain ⟨n2_9, rfl, w2_9⟩ := tyv_int k2_9
  obtain ⟨a, r2_10, rfl, k2_10, ty2_10⟩ := ty2_9.cons_inv
  obtain ⟨n2_10, rfl, w2_10⟩ := tyv_int k2_10
  obtain ⟨a, r2_11, rfl, k2_11, ty2_11⟩ := ty2_10.cons_inv
  obtain ⟨b2_11, rfl⟩ := tyv_bool k2_11
  obtain ⟨a, r2_12, rfl, k2_12, ty2_12⟩ := ty2_11.cons_inv
  obtain ⟨b2_12, rfl⟩ := tyv_bool k2_12
  cases ty2_12.nil_inv
  obtain ⟨v3, r3, rfl, c3, al⟩ := al.cons_inv
  obtain ⟨a3, k3, d3⟩ := came_one (n := 40) (k := .sc (.int .i64)) (by kernel_rfl) (by kernel_rfl) c3
  obtain ⟨n3, rfl, w3⟩ := tyv_int k3
  obtain ⟨v4, r4, rfl, c4, al⟩ := al.cons_inv
  obtain ⟨a4, k4, d4⟩ := came_one (n := 40) (k := .sc (.int .i64)) (by kernel_rfl) (by kernel_rfl) c4
  obtain ⟨n4, rfl, w4⟩ := tyv_int k4
  cases al.nil_inv
  refine (law_call (s4 l0 n1 ⟨b2_0, n2_1, n2_2, n2_3, n2_4, n2_5, n2_6, n2_7, n2_8, n2_9, n2_10, b2_11, b2_12⟩ n3 n4) (Al.c d0 (Al.c d1 (Al.c d2 (Al.c d3 (Al.c d4 Al.n)))))).mono fun e W' ⟨he, bel⟩ => ?_
  subst he
  have hcl := args_close laidOut (by kernel_rfl) hA bel
  have hlen : ds.length = 5 := by
    have := trodAll_lens hA; simpa using this
  obtain ⟨y0, y1, y2, y3, y4, rfl⟩ := len_5 hlen
  exact ⟨_, rfl, _, _, _, [], _, [], hW', trodAll_mk1 (shut_bool Tryz.underlying4 _), hcl, rfl, bel.frame _, fun h => by cases h⟩

theorem over : Rows.checkPhaseRow.holds Tryz.pinned (OpenSpec.ofChange Rows.checkPhaseSpec) :=
  OpenClaim.holds_of_wide 4 Tryz.f4 rfl rfl rfl rfl rfl rfl rfl ⟨rfl, rfl, rfl, rfl, rfl⟩ rfl rfl rfl rfl rfl (by kernel_rfl) Tryz.func4 (by kernel_rfl)
    (of_decide_eq_true (by kernel_rfl)) (by unfold Func.isWrapper; first | (rw [if_pos (by decide +kernel)]; kernel_rfl) | (rw [if_neg (by decide +kernel)]; exact ⟨rfl, rfl⟩))
    (fun os started H enc _ => lifted os started H enc)

/-- THE STATEMENT -/
theorem proved : Rows.CheckPhaseSaid := over
end Go.Proofs.YtebpminoibmngaaGreat.checkPhaseDone
