/- MonitorAll: for every input the law returns true, and each argument reads afterwards as it read before. -/
import Derived.Test.YthghbmjeihahmaaTies
import Derived.Test.YthghbmjeihahmaaRows
import Derived.Test.YthghbmjeihahmaaPk6
namespace Go.Proofs.Ythghbmjeihahmaa.monitorAllDone
open Go.ChangeShapes Go.WideShapes Go.ChangeAt Go.RowKit Go.Eng
set_option linter.unusedVariables false

theorem own : ownKnob Try.prog.godebug = none := by kernel_rfl
theorem laidOut : laidOutB Try.prog = true := by kernel_rfl

set_option maxRecDepth 100000 in
theorem lifted (os : Os) (started : os.Started) (H : Type) (enc : TypeId × Value → H) :
    ReturnsInHanded {} Try.checked os 3 .any (Rows.monitorAllSpec.pre6 enc Try.prog Try.f3 Rows.monitorAllRow.domain false) (Rows.monitorAllSpec.post enc Try.prog Try.f3 false true false false) := by
  refine returnsInHanded_of_change (C := Try.checked) own started (by kernel_rfl) Try.func3
    (ChangeSpec.witness6 (enc := enc) (C := Try.checked) false ⟨#[], #[.agg #[.bool false, .int .i64 0, .int .i64 0, .int .i64 0, .int .i64 0, .int .i64 0, .int .i64 0, .int .i64 0, .int .i64 0, .int .i64 0, .int .i64 0, .bool false, .bool false, .bool false, .int .i64 0, .int .i64 0, .int .i64 0, .int .i64 0, .int .i64 0, .int .i64 0, .int .i64 0, .int .i64 0, .int .i64 0, .int .i64 0, .bool false, .bool false, .bool false, .int .i64 0, .int .i64 0, .int .i64 0, .int .i64 0, .int .i64 0, .int .i64 0, .int .i64 0, .int .i64 0, .int .i64 0, .int .i64 0, .bool false, .bool false, .bool false, .int .i64 0, .int .i64 0, .int .i64 0, .int .i64 0, .int .i64 0, .int .i64 0, .int .i64 0, .int .i64 0, .int .i64 0, .int .i64 0, .bool false, .bool false, .bool false, .int .i64 0, .int .i64 0, .int .i64 0, .int .i64 0, .int .i64 0, .int .i64 0, .int .i64 0, .int .i64 0, .int .i64 0, .int .i64 0, .bool false, .bool false, .bool false, .int .i64 0, .int .i64 0, .int .i64 0, .int .i64 0, .int .i64 0, .int .i64 0, .int .i64 0, .int .i64 0, .int .i64 0, .int .i64 0, .bool false, .bool false, .bool false, .int .i64 0, .int .i64 0, .int .i64 0, .int .i64 0, .int .i64 0, .int .i64 0, .int .i64 0, .int .i64 0, .int .i64 0, .int .i64 0, .bool false, .bool false, .bool false, .int .i64 0, .int .i64 0, .int .i64 0, .int .i64 0, .int .i64 0, .int .i64 0, .int .i64 0, .int .i64 0, .int .i64 0, .int .i64 0, .bool false, .bool false, .slice none 0 0, .int .i64 0, .int .i64 0, .int .i64 0, .int .i64 0, .int .i64 0, .int .i64 0, .int .i64 0, .int .i64 0, .slice none 0 0, .slice none 0 0, .slice none 0 0, .int .i64 0, .int .i64 0, .int .i64 0, .int .i64 0, .int .i64 0, .int .i64 0, .int .i64 0, .int .i64 0, .int .i64 0, .int .i64 0, .int .i64 0, .int .i64 0, .int .i64 0, .int .i64 0, .int .i64 0], .agg #[.int .i64 0, .int .i64 0, .int .i64 0, .int .i64 0, .int .i64 0, .int .i64 0, .int .i64 0, .int .i64 0, .int .i64 0, .int .i64 0, .int .i64 0, .int .i64 0, .int .i64 0, .int .i64 0, .int .i64 0, .int .i64 0], .agg #[.int .i64 0, .int .i64 0, .int .i64 0, .int .i64 0, .int .i64 0, .int .i64 0, .int .i64 0, .int .i64 0]], []⟩ 8 (by kernel_rfl) (by kernel_rfl) (by kernel_rfl) (by kernel_rfl)) ?_
  intro W base args ds gs before hval0 hW hcnd _
  have hval : ∀ (j : Nat) t v, Try.f3.params[j]? = some t → args[j]? = some v → Value.okWide Try.prog W .any base t v := hval0
  have hW' := hW
  obtain ⟨p, q, hA0, hV, rfl, hfz, hnd⟩ := hW
  have hA : DataW.TrodAll enc Try.prog W 0 (fun _ => true) true Try.f3.params.toList args.toList ds p := hA0
  rw [Try.params3] at hA hval
  obtain ⟨rfl, rfl⟩ := trodVars_none hV
  clear hA0 hval0
  obtain ⟨vs, rfl⟩ : ∃ vs : List Value, args = vs.toArray := ⟨args.toList, rfl⟩
  have al := args_open hA (fun j t v h1 h2 => hval j t v (by simpa using h1) (by simpa using h2))
  obtain ⟨v0, r0, rfl, c0, al⟩ := al.cons_inv
  obtain ⟨as0, ty0, d0⟩ := came_agg (n := 40) (l := kTb) (by kernel_rfl) (by kernel_rfl) c0
  obtain ⟨t0, rfl, w0⟩ := open_tb ty0
  obtain ⟨v1, r1, rfl, c1, al⟩ := al.cons_inv
  obtain ⟨as1, ty1, d1⟩ := came_agg (n := 40) (l := [.sc (.int .i64), .sc (.int .i64), .sc (.int .i64), .sc (.int .i64), .sc (.int .i64), .sc (.int .i64), .sc (.int .i64), .sc (.int .i64), .sc (.int .i64), .sc (.int .i64), .sc (.int .i64), .sc (.int .i64), .sc (.int .i64), .sc (.int .i64), .sc (.int .i64), .sc (.int .i64)]) (by kernel_rfl) (by kernel_rfl) c1
  obtain ⟨a, r1_0, rfl, k1_0, ty1_0⟩ := ty1.cons_inv
  obtain ⟨n1_0, rfl, w1_0⟩ := tyv_int k1_0
  obtain ⟨a, r1_1, rfl, k1_1, ty1_1⟩ := ty1_0.cons_inv
  obtain ⟨n1_1, rfl, w1_1⟩ := tyv_int k1_1
  obtain ⟨a, r1_2, rfl, k1_2, ty1_2⟩ := ty1_1.cons_inv
  obtain ⟨n1_2, rfl, w1_2⟩ := tyv_int k1_2
  obtain ⟨a, r1_3, rfl, k1_3, ty1_3⟩ := ty1_2.cons_inv
  obtain ⟨n1_3, rfl, w1_3⟩ := tyv_int k1_3
  obtain ⟨a, r1_4, rfl, k1_4, ty1_4⟩ := ty1_3.cons_inv
  obtain ⟨n1_4, rfl, w1_4⟩ := tyv_int k1_4
  obtain ⟨a, r1_5, rfl, k1_5, ty1_5⟩ := ty1_4.cons_inv
  obtain ⟨n1_5, rfl, w1_5⟩ := tyv_int k1_5
  obtain ⟨a, r1_6, rfl, k1_6, ty1_6⟩ := ty1_5.cons_inv
  obtain ⟨n1_6, rfl, w1_6⟩ := tyv_int k1_6
  obtain ⟨a, r1_7, rfl, k1_7, ty1_7⟩ := ty1_6.cons_inv
  obtain ⟨n1_7, rfl, w1_7⟩ := tyv_int k1_7
  obtain ⟨a, r1_8, rfl, k1_8, ty1_8⟩ := ty1_7.cons_inv
  obtain ⟨n1_8, rfl, w1_8⟩ := tyv_int k1_8
  obtain ⟨a, r1_9, rfl, k1_9, ty1_9⟩ := ty1_8.cons_inv
  obtain ⟨n1_9, rfl, w1_9⟩ := tyv_int k1_9
  obtain ⟨a, r1_10, rfl, k1_10, ty1_10⟩ := ty1_9.cons_inv
  obtain ⟨n1_10, rfl, w1_10⟩ := tyv_int k1_10
  obtain ⟨a, r1_11, rfl, k1_11, ty1_11⟩ := ty1_10.cons_inv
  obtain ⟨n1_11, rfl, w1_11⟩ := tyv_int k1_11
  obtain ⟨a, r1_12, rfl, k1_12, ty1_12⟩ := ty1_11.cons_inv
  obtain ⟨n1_12, rfl, w1_12⟩ := tyv_int k1_12
  obtain ⟨a, r1_13, rfl, k1_13, ty1_13⟩ := ty1_12.cons_inv
  obtain ⟨n1_13, rfl, w1_13⟩ := tyv_int k1_13
  obtain ⟨a, r1_14, rfl, k1_14, ty1_14⟩ := ty1_13.cons_inv
  obtain ⟨n1_14, rfl, w1_14⟩ := tyv_int k1_14
  obtain ⟨a, r1_15, rfl, k1_15, ty1_15⟩ := ty1_14.cons_inv
  obtain ⟨n1_15, rfl, w1_15⟩ := tyv_int k1_15
  cases ty1_15.nil_inv
  obtain ⟨v2, r2, rfl, c2, al⟩ := al.cons_inv
  obtain ⟨as2, ty2, d2⟩ := came_agg (n := 40) (l := [.sc (.int .i64), .sc (.int .i64), .sc (.int .i64), .sc (.int .i64), .sc (.int .i64), .sc (.int .i64), .sc (.int .i64), .sc (.int .i64)]) (by kernel_rfl) (by kernel_rfl) c2
  obtain ⟨a, r2_0, rfl, k2_0, ty2_0⟩ := ty2.cons_inv
  obtain ⟨n2_0, rfl, w2_0⟩ := tyv_int k2_0
  obtain ⟨a, r2_1, rfl, k2_1, ty2_1⟩ := ty2_0.cons_inv
  obtain ⟨n2_1, rfl, w2_1⟩ := tyv_int k2_1
  obtain ⟨a, r2_2, rfl, k2_2, ty2_2⟩ := ty2_1.cons_inv
  obtain ⟨n2_2, rfl, w2_2⟩ := tyv_int k2_2
  obtain ⟨a, r2_3, rfl, k2_3, ty2_3⟩ := ty2_2.cons_inv
  obtain ⟨n2_3, rfl, w2_3⟩ := tyv_int k2_3
  obtain ⟨a, r2_4, rfl, k2_4, ty2_4⟩ := ty2_3.cons_inv
  obtain ⟨n2_4, rfl, w2_4⟩ := tyv_int k2_4
  obtain ⟨a, r2_5, rfl, k2_5, ty2_5⟩ := ty2_4.cons_inv
  obtain ⟨n2_5, rfl, w2_5⟩ := tyv_int k2_5
  obtain ⟨a, r2_6, rfl, k2_6, ty2_6⟩ := ty2_5.cons_inv
  obtain ⟨n2_6, rfl, w2_6⟩ := tyv_int k2_6
  obtain ⟨a, r2_7, rfl, k2_7, ty2_7⟩ := ty2_6.cons_inv
  obtain ⟨n2_7, rfl, w2_7⟩ := tyv_int k2_7
  cases ty2_7.nil_inv
  cases al.nil_inv
  refine (law_call (s3 t0 ⟨[n1_0, n1_1, n1_2, n1_3, n1_4, n1_5, n1_6, n1_7], [n1_8, n1_9, n1_10, n1_11, n1_12, n1_13, n1_14, n1_15]⟩ [n2_0, n2_1, n2_2, n2_3, n2_4, n2_5, n2_6, n2_7] ⟨w0.ln, ⟨rfl, rfl⟩, rfl⟩) (Al.c d0 (Al.c d1 (Al.c d2 Al.n)))).mono fun e W' ⟨he, bel⟩ => ?_
  subst he
  have hcl := args_close laidOut (by kernel_rfl) hA bel
  have hlen : ds.length = 3 := by
    have := trodAll_lens hA; simpa using this
  obtain ⟨y0, y1, y2, rfl⟩ := len_3 hlen
  exact ⟨_, rfl, _, _, _, [], _, [], hW', trodAll_mk1 (shut_bool Try.underlying4 _), hcl, rfl, bel.frame _, fun h => by cases h⟩

theorem over : Rows.monitorAllRow.holds Try.pinned (OpenSpec.ofChange Rows.monitorAllSpec) :=
  OpenClaim.holds_of_wide 3 Try.f3 rfl rfl rfl rfl rfl rfl rfl ⟨rfl, rfl, rfl, rfl, rfl⟩ rfl rfl rfl rfl rfl (by kernel_rfl) Try.func3 (by kernel_rfl)
    (of_decide_eq_true (by kernel_rfl)) (by unfold Func.isWrapper; first | (rw [if_pos (by decide +kernel)]; kernel_rfl) | (rw [if_neg (by decide +kernel)]; exact ⟨rfl, rfl⟩))
    (fun os started H enc _ => lifted os started H enc)

/-- THE STATEMENT -/
theorem proved : Rows.MonitorAllSaid := over
end Go.Proofs.Ythghbmjeihahmaa.monitorAllDone
