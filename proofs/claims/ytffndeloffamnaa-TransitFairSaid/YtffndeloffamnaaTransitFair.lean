/- TransitFair: for every input the law returns true, and each argument reads afterwards as it read before. -/
import Derived.Test.YtffndeloffamnaaTies
import Derived.Test.YtffndeloffamnaaRows
import Derived.Test.YtffndeloffamnaaOpen1
namespace Go.Proofs.Ytffndeloffamnaa.transitFairDone
open Go.ChangeShapes Go.WideShapes Go.ChangeAt Go.RowKit Go.Eng
set_option linter.unusedVariables false

theorem own : ownKnob Try.prog.godebug = none := by kernel_rfl
theorem laidOut : laidOutB Try.prog = true := by kernel_rfl

set_option maxRecDepth 100000 in
theorem lifted (os : Os) (started : os.Started) (H : Type) (enc : TypeId × Value → H) :
    ReturnsInHanded {} Try.checked os 3 .any (Rows.transitFairSpec.pre6 enc Try.prog Try.f3 Rows.transitFairRow.domain false) (Rows.transitFairSpec.post enc Try.prog Try.f3 false true false false) := by
  refine returnsInHanded_of_change (C := Try.checked) own started (by kernel_rfl) Try.func3
    (ChangeSpec.witness6 (enc := enc) (C := Try.checked) false ⟨#[], #[.slice none 0 0, .agg #[.int .i64 0, .int .i64 0, .int .i64 0, .int .i64 0, .int .i64 0, .int .i64 0], .agg #[.int .i64 0, .int .i64 0, .int .i64 0, .int .i64 0, .int .i64 0, .int .i64 0, .int .i64 0, .bool false, .bool false, .int .i64 0, .int .i64 0, .int .i64 0, .int .i64 0, .int .i64 0, .int .i64 0, .int .i64 0, .int .i64 0, .int .i64 0, .int .i64 0, .bool false, .bool false, .int .i64 0, .int .i64 0, .int .i64 0, .int .i64 0, .int .i64 0, .int .i64 0, .int .i64 0, .int .i64 0, .int .i64 0, .int .i64 0, .bool false, .bool false, .int .i64 0, .int .i64 0, .int .i64 0, .int .i64 0, .int .i64 0, .int .i64 0, .int .i64 0, .int .i64 0, .int .i64 0, .int .i64 0, .bool false, .bool false, .int .i64 0, .int .i64 0, .int .i64 0, .int .i64 0, .int .i64 0, .int .i64 0, .int .i64 0, .int .i64 0, .int .i64 0, .int .i64 0, .bool false, .bool false, .int .i64 0, .int .i64 0, .int .i64 0, .int .i64 0, .int .i64 0, .int .i64 0, .int .i64 0, .int .i64 0, .int .i64 0, .int .i64 0, .bool false, .bool false, .int .i64 0, .int .i64 0, .int .i64 0, .int .i64 0, .int .i64 0, .int .i64 0, .int .i64 0, .int .i64 0, .int .i64 0, .int .i64 0, .bool false, .bool false, .int .i64 0, .int .i64 0, .int .i64 0, .int .i64 0, .int .i64 0, .int .i64 0, .int .i64 0, .int .i64 0, .int .i64 0, .int .i64 0, .bool false, .bool false, .int .i64 0, .int .i64 0, .int .i64 0], .int .i64 0], []⟩ 8 (by kernel_rfl) (by kernel_rfl) (by kernel_rfl) (by kernel_rfl)) ?_
  intro W base args ds gs before hval0 hW hcnd _
  have hval : ∀ (j : Nat) t v, Try.f3.params[j]? = some t → args[j]? = some v → Value.okWide Try.prog W .any base t v := hval0
  have hW' := hW
  obtain ⟨p, q, hA0, hV, rfl, hfz, hnd⟩ := hW
  have hA : DataW.TrodAll enc Try.prog W 0 (fun _ => true) true Try.f3.params.toList args.toList ds p := hA0
  rw [Try.params3] at hA hval
  obtain ⟨rfl, rfl⟩ := trodVars_none hV
  clear hA0 hval0
  obtain ⟨vs, rfl⟩ : ∃ vs : List Value, args = vs.toArray := ⟨args.toList, rfl⟩
  have al := args_open hA (fun j t v h1 h2 => hval j t v (by simpa using h1) (by simpa using h2))
  obtain ⟨v0, r0, rfl, c0, al⟩ := al.cons_inv
  obtain ⟨a0, k0, d0⟩ := came_one (n := 40) (k := .sl [(.int .i64)]) (by kernel_rfl) (by kernel_rfl) c0
  obtain ⟨l0, rfl, m0, w0⟩ := tyv_ints k0
  obtain ⟨v1, r1, rfl, c1, al⟩ := al.cons_inv
  obtain ⟨as1, ty1, d1⟩ := came_agg (n := 40) (l := [.sc (.int .i64), .sc (.int .i64), .sc (.int .i64), .sc (.int .i64), .sc (.int .i64), .sc (.int .i64)]) (by kernel_rfl) (by kernel_rfl) c1
  obtain ⟨a, r1_0, rfl, k1_0, ty1_0⟩ := ty1.cons_inv
  obtain ⟨n1_0, rfl, w1_0⟩ := tyv_int k1_0
  obtain ⟨a, r1_1, rfl, k1_1, ty1_1⟩ := ty1_0.cons_inv
  obtain ⟨n1_1, rfl, w1_1⟩ := tyv_int k1_1
  obtain ⟨a, r1_2, rfl, k1_2, ty1_2⟩ := ty1_1.cons_inv
  obtain ⟨n1_2, rfl, w1_2⟩ := tyv_int k1_2
  obtain ⟨a, r1_3, rfl, k1_3, ty1_3⟩ := ty1_2.cons_inv
  obtain ⟨n1_3, rfl, w1_3⟩ := tyv_int k1_3
  obtain ⟨a, r1_4, rfl, k1_4, ty1_4⟩ := ty1_3.cons_inv
  obtain ⟨n1_4, rfl, w1_4⟩ := tyv_int k1_4
  obtain ⟨a, r1_5, rfl, k1_5, ty1_5⟩ := ty1_4.cons_inv
  obtain ⟨n1_5, rfl, w1_5⟩ := tyv_int k1_5
  cases ty1_5.nil_inv
  obtain ⟨v2, r2, rfl, c2, al⟩ := al.cons_inv
  obtain ⟨as2, ty2, d2⟩ := came_agg (n := 40) (l := [.sc (.int .i64), .sc (.int .i64), .sc (.int .i64), .sc (.int .i64), .sc (.int .i64), .sc (.int .i64), .sc (.int .i64), .sc .bool, .sc .bool, .sc (.int .i64), .sc (.int .i64), .sc (.int .i64), .sc (.int .i64), .sc (.int .i64), .sc (.int .i64), .sc (.int .i64), .sc (.int .i64), .sc (.int .i64), .sc (.int .i64), .sc .bool, .sc .bool, .sc (.int .i64), .sc (.int .i64), .sc (.int .i64), .sc (.int .i64), .sc (.int .i64), .sc (.int .i64), .sc (.int .i64), .sc (.int .i64), .sc (.int .i64), .sc (.int .i64), .sc .bool, .sc .bool, .sc (.int .i64), .sc (.int .i64), .sc (.int .i64), .sc (.int .i64), .sc (.int .i64), .sc (.int .i64), .sc (.int .i64), .sc (.int .i64), .sc (.int .i64), .sc (.int .i64), .sc .bool, .sc .bool, .sc (.int .i64), .sc (.int .i64), .sc (.int .i64), .sc (.int .i64), .sc (.int .i64), .sc (.int .i64), .sc (.int .i64), .sc (.int .i64), .sc (.int .i64), .sc (.int .i64), .sc .bool, .sc .bool, .sc (.int .i64), .sc (.int .i64), .sc (.int .i64), .sc (.int .i64), .sc (.int .i64), .sc (.int .i64), .sc (.int .i64), .sc (.int .i64), .sc (.int .i64), .sc (.int .i64), .sc .bool, .sc .bool, .sc (.int .i64), .sc (.int .i64), .sc (.int .i64), .sc (.int .i64), .sc (.int .i64), .sc (.int .i64), .sc (.int .i64), .sc (.int .i64), .sc (.int .i64), .sc (.int .i64), .sc .bool, .sc .bool, .sc (.int .i64), .sc (.int .i64), .sc (.int .i64), .sc (.int .i64), .sc (.int .i64), .sc (.int .i64), .sc (.int .i64), .sc (.int .i64), .sc (.int .i64), .sc (.int .i64), .sc .bool, .sc .bool, .sc (.int .i64), .sc (.int .i64), .sc (.int .i64)]) (by kernel_rfl) (by kernel_rfl) c2
  obtain ⟨a, r2_0, rfl, k2_0, ty2_0⟩ := ty2.cons_inv
  obtain ⟨n2_0, rfl, w2_0⟩ := tyv_int k2_0
  obtain ⟨a, r2_1, rfl, k2_1, ty2_1⟩ := ty2_0.cons_inv
  obtain ⟨n2_1, rfl, w2_1⟩ := tyv_int k2_1
  obtain ⟨a, r2_2, rfl, k2_2, ty2_2⟩ := ty2_1.cons_inv
  obtain ⟨n2_2, rfl, w2_2⟩ := tyv_int k2_2
  obtain ⟨a, r2_3, rfl, k2_3, ty2_3⟩ := ty2_2.cons_inv
  obtain ⟨n2_3, rfl, w2_3⟩ := tyv_int k2_3
  obtain ⟨a, r2_4, rfl, k2_4, ty2_4⟩ := ty2_3.cons_inv
  obtain ⟨n2_4, rfl, w2_4⟩ := tyv_int k2_4
  obtain ⟨a, r2_5, rfl, k2_5, ty2_5⟩ := ty2_4.cons_inv
  obtain ⟨n2_5, rfl, w2_5⟩ := tyv_int k2_5
  obtain ⟨a, r2_6, rfl, k2_6, ty2_6⟩ := ty2_5.cons_inv
  obtain ⟨n2_6, rfl, w2_6⟩ := tyv_int k2_6
  obtain ⟨a, r2_7, rfl, k2_7, ty2_7⟩ := ty2_6.cons_inv
  obtain ⟨b2_7, rfl⟩ := tyv_bool k2_7
  obtain ⟨a, r2_8, rfl, k2_8, ty2_8⟩ := ty2_7.cons_inv
  obtain ⟨b2_8, rfl⟩ := tyv_bool k2_8
  obtain ⟨a, r2_9, rfl, k2_9, ty2_9⟩ := ty2_8.cons_inv
  obtain ⟨n2_9, rfl, w2_9⟩ := tyv_int k2_9
  obtain ⟨a, r2_10, rfl, k2_10, ty2_10⟩ := ty2_9.cons_inv
  obtain ⟨n2_10, rfl, w2_10⟩ := tyv_int k2_10
  obtain ⟨a, r2_11, rfl, k2_11, ty2_11⟩ := ty2_10.cons_inv
  obtain ⟨n2_11, rfl, w2_11⟩ := tyv_int k2_11
  obtain ⟨a, r2_12, rfl, k2_12, ty2_12⟩ := ty2_11.cons_inv
  obtain ⟨n2_12, rfl, w2_12⟩ := tyv_int k2_12
  obtain ⟨a, r2_13, rfl, k2_13, ty2_13⟩ := ty2_12.cons_inv
  obtain ⟨n2_13, rfl, w2_13⟩ := tyv_int k2_13
  obtain ⟨a, r2_14, rfl, k2_14, ty2_14⟩ := ty2_13.cons_inv
  obtain ⟨n2_14, rfl, w2_14⟩ := tyv_int k2_14
  obtain ⟨a, r2_15, rfl, k2_15, ty2_15⟩ := ty2_14.cons_inv
  obtain ⟨n2_15, rfl, w2_15⟩ := tyv_int k2_15
  obtain ⟨a, r2_16, rfl, k2_16, ty2_16⟩ := ty2_15.cons_inv
  obtain ⟨n2_16, rfl, w2_16⟩ := tyv_int k2_16
  obtain ⟨a, r2_17, rfl, k2_17, ty2_17⟩ := ty2_16.cons_inv
  obtain ⟨n2_17, rfl, w2_17⟩ := tyv_int k2_17
  obtain ⟨a, r2_18, rfl, k2_18, ty2_18⟩ := ty2_17.cons_inv
  obtain ⟨n2_18, rfl, w2_18⟩ := tyv_int k2_18
  obtain ⟨a, r2_19, rfl, k2_19, ty2_19⟩ := ty2_18.cons_inv
  obtain ⟨b2_19, rfl⟩ := tyv_bool k2_19
  obtain ⟨a, r2_20, rfl, k2_20, ty2_20⟩ := ty2_19.cons_inv
  obtain ⟨b2_20, rfl⟩ := tyv_bool k2_20
  obtain ⟨a, r2_21, rfl, k2_21, ty2_21⟩ := ty2_20.cons_inv
  obtain ⟨n2_21, rfl, w2_21⟩ := tyv_int k2_21
  obtain ⟨a, r2_22, rfl, k2_22, ty2_22⟩ := ty2_21.cons_inv
  obtain ⟨n2_22, rfl, w2_22⟩ := tyv_int k2_22
  obtain ⟨a, r2_23, rfl, k2_23, ty2_23⟩ := ty2_22.cons_inv
  obtain ⟨n2_23, rfl, w2_23⟩ := tyv_int k2_23
  obtain ⟨a, r2_24, rfl, k2_24, ty2_24⟩ := ty2_23.cons_inv
  obtain ⟨n2_24, rfl, w2_24⟩ := tyv_int k2_24
  obtain ⟨a, r2_25, rfl, k2_25, ty2_25⟩ := ty2_24.cons_inv
  obtain ⟨n2_25, rfl, w2_25⟩ := tyv_int k2_25
  obtain ⟨a, r2_26, rfl, k2_26, ty2_26⟩ := ty2_25.cons_inv
  obtain ⟨n2_26, rfl, w2_26⟩ := tyv_int k2_26
  obtain ⟨a, r2_27, rfl, k2_27, ty2_27⟩ := ty2_26.cons_inv
  obtain ⟨n2_27, rfl, w2_27⟩ := tyv_int k2_27
  obtain ⟨a, r2_28, rfl, k2_28, ty2_28⟩ := ty2_27.cons_inv
  obtain ⟨n2_28, rfl, w2_28⟩ := tyv_int k2_28
  obtain ⟨a, r2_29, rfl, k2_29, ty2_29⟩ := ty2_28.cons_inv
  obtain ⟨n2_29, rfl, w2_29⟩ := tyv_int k2_29
  obtain ⟨a, r2_30, rfl, k2_30, ty2_30⟩ := ty2_29.cons_inv
  obtain ⟨n2_30, rfl, w2_30⟩ := tyv_int k2_30
  obtain ⟨a, r2_31, rfl, k2_31, ty2_31⟩ := ty2_30.cons_inv
  obtain ⟨b2_31, rfl⟩ := tyv_bool k2_31
  obtain ⟨a, r2_32, rfl, k2_32, ty2_32⟩ := ty2_31.cons_inv
  obtain ⟨b2_32, rfl⟩ := tyv_bool k2_32
  obtain ⟨a, r2_33, rfl, k2_33, ty2_33⟩ := ty2_32.cons_inv
  obtain ⟨n2_33, rfl, w2_33⟩ := tyv_int k2_33
  obtain ⟨a, r2_34, rfl, k2_34, ty2_34⟩ := ty2_33.cons_inv
  obtain ⟨n2_34, rfl, w2_34⟩ := tyv_int k2_34
  obtain ⟨a, r2_35, rfl, k2_35, ty2_35⟩ := ty2_34.cons_inv
  obtain ⟨n2_35, rfl, w2_35⟩ := tyv_int k2_35
  obtain ⟨a, r2_36, rfl, k2_36, ty2_36⟩ := ty2_35.cons_inv
  obtain ⟨n2_36, rfl, w2_36⟩ := tyv_int k2_36
  obtain ⟨a, r2_37, rfl, k2_37, ty2_37⟩ := ty2_36.cons_inv
  obtain ⟨n2_37, rfl, w2_37⟩ := tyv_int k2_37
  obtain ⟨a, r2_38, rfl, k2_38, ty2_38⟩ := ty2_37.cons_inv
  obtain ⟨n2_38, rfl, w2_38⟩ := tyv_int k2_38
  obtain ⟨a, r2_39, rfl, k2_39, ty2_39⟩ := ty2_38.cons_inv
  obtain ⟨n2_39, rfl, w2_39⟩ := tyv_int k2_39
  obtain ⟨a, r2_40, rfl, k2_40, ty2_40⟩ := ty2_39.cons_inv
  obtain ⟨n2_40, rfl, w2_40⟩ := tyv_int k2_40
  obtain ⟨a, r2_41, rfl, k2_41, ty2_41⟩ := ty2_40.cons_inv
  obtain ⟨n2_41, rfl, w2_41⟩ := tyv_int k2_41
  obtain ⟨a, r2_42, rfl, k2_42, ty2_42⟩ := ty2_41.cons_inv
  obtain ⟨n2_42, rfl, w2_42⟩ := tyv_int k2_42
  obtain ⟨a, r2_43, rfl, k2_43, ty2_43⟩ := ty2_42.cons_inv
  obtain ⟨b2_43, rfl⟩ := tyv_bool k2_43
  obtain ⟨a, r2_44, rfl, k2_44, ty2_44⟩ := ty2_43.cons_inv
  obtain ⟨b2_44, rfl⟩ := tyv_bool k2_44
  obtain ⟨a, r2_45, rfl, k2_45, ty2_45⟩ := ty2_44.cons_inv
  obtain ⟨n2_45, rfl, w2_45⟩ := tyv_int k2_45
  obtain ⟨a, r2_46, rfl, k2_46, ty2_46⟩ := ty2_45.cons_inv
  obtain ⟨n2_46, rfl, w2_46⟩ := tyv_int k2_46
  obtain ⟨a, r2_47, rfl, k2_47, ty2_47⟩ := ty2_46.cons_inv
  obtain ⟨n2_47, rfl, w2_47⟩ := tyv_int k2_47
  obtain ⟨a, r2_48, rfl, k2_48, ty2_48⟩ := ty2_47.cons_inv
  obtain ⟨n2_48, rfl, w2_48⟩ := tyv_int k2_48
  obtain ⟨a, r2_49, rfl, k2_49, ty2_49⟩ := ty2_48.cons_inv
  obtain ⟨n2_49, rfl, w2_49⟩ := tyv_int k2_49
  obtain ⟨a, r2_50, rfl, k2_50, ty2_50⟩ := ty2_49.cons_inv
  obtain ⟨n2_50, rfl, w2_50⟩ := tyv_int k2_50
  obtain ⟨a, r2_51, rfl, k2_51, ty2_51⟩ := ty2_50.cons_inv
  obtain ⟨n2_51, rfl, w2_51⟩ := tyv_int k2_51
  obtain ⟨a, r2_52, rfl, k2_52, ty2_52⟩ := ty2_51.cons_inv
  obtain ⟨n2_52, rfl, w2_52⟩ := tyv_int k2_52
  obtain ⟨a, r2_53, rfl, k2_53, ty2_53⟩ := ty2_52.cons_inv
  obtain ⟨n2_53, rfl, w2_53⟩ := tyv_int k2_53
  obtain ⟨a, r2_54, rfl, k2_54, ty2_54⟩ := ty2_53.cons_inv
  obtain ⟨n2_54, rfl, w2_54⟩ := tyv_int k2_54
  obtain ⟨a, r2_55, rfl, k2_55, ty2_55⟩ := ty2_54.cons_inv
  obtain ⟨b2_55, rfl⟩ := tyv_bool k2_55
  obtain ⟨a, r2_56, rfl, k2_56, ty2_56⟩ := ty2_55.cons_inv
  obtain ⟨b2_56, rfl⟩ := tyv_bool k2_56
  obtain ⟨a, r2_57, rfl, k2_57, ty2_57⟩ := ty2_56.cons_inv
  obtain ⟨n2_57, rfl, w2_57⟩ := tyv_int k2_57
  obtain ⟨a, r2_58, rfl, k2_58, ty2_58⟩ := ty2_57.cons_inv
  obtain ⟨n2_58, rfl, w2_58⟩ := tyv_int k2_58
  obtain ⟨a, r2_59, rfl, k2_59, ty2_59⟩ := ty2_58.cons_inv
  obtain ⟨n2_59, rfl, w2_59⟩ := tyv_int k2_59
  obtain ⟨a, r2_60, rfl, k2_60, ty2_60⟩ := ty2_59.cons_inv
  obtain ⟨n2_60, rfl, w2_60⟩ := tyv_int k2_60
  obtain ⟨a, r2_61, rfl, k2_61, ty2_61⟩ := ty2_60.cons_inv
  obtain ⟨n2_61, rfl, w2_61⟩ := tyv_int k2_61
  obtain ⟨a, r2_62, rfl, k2_62, ty2_62⟩ := ty2_61.cons_inv
  obtain ⟨n2_62, rfl, w2_62⟩ := tyv_int k2_62
  obtain ⟨a, r2_63, rfl, k2_63, ty2_63⟩ := ty2_62.cons_inv
  obtain ⟨n2_63, rfl, w2_63⟩ := tyv_int k2_63
  obtain ⟨a, r2_64, rfl, k2_64, ty2_64⟩ := ty2_63.cons_inv
  obtain ⟨n2_64, rfl, w2_64⟩ := tyv_int k2_64
  obtain ⟨a, r2_65, rfl, k2_65, ty2_65⟩ := ty2_64.cons_inv
  obtain ⟨n2_65, rfl, w2_65⟩ := tyv_int k2_65
  obtain ⟨a, r2_66, rfl, k2_66, ty2_66⟩ := ty2_65.cons_inv
  obtain ⟨n2_66, rfl, w2_66⟩ := tyv_int k2_66
  obtain ⟨a, r2_67, rfl, k2_67, ty2_67⟩ := ty2_66.cons_inv
  obtain ⟨b2_67, rfl⟩ := tyv_bool k2_67
  obtain ⟨a, r2_68, rfl, k2_68, ty2_68⟩ := ty2_67.cons_inv
  obtain ⟨b2_68, rfl⟩ := tyv_bool k2_68
  obtain ⟨a, r2_69, rfl, k2_69, ty2_69⟩ := ty2_68.cons_inv
  obtain ⟨n2_69, rfl, w2_69⟩ := tyv_int k2_69
  obtain ⟨a, r2_70, rfl, k2_70, ty2_70⟩ := ty2_69.cons_inv
  obtain ⟨n2_70, rfl, w2_70⟩ := tyv_int k2_70
  obtain ⟨a, r2_71, rfl, k2_71, ty2_71⟩ := ty2_70.cons_inv
  obtain ⟨n2_71, rfl, w2_71⟩ := tyv_int k2_71
  obtain ⟨a, r2_72, rfl, k2_72, ty2_72⟩ := ty2_71.cons_inv
  obtain ⟨n2_72, rfl, w2_72⟩ := tyv_int k2_72
  obtain ⟨a, r2_73, rfl, k2_73, ty2_73⟩ := ty2_72.cons_inv
  obtain ⟨n2_73, rfl, w2_73⟩ := tyv_int k2_73
  obtain ⟨a, r2_74, rfl, k2_74, ty2_74⟩ := ty2_73.cons_inv
  obtain ⟨n2_74, rfl, w2_74⟩ := tyv_int k2_74
  obtain ⟨a, r2_75, rfl, k2_75, ty2_75⟩ := ty2_74.cons_inv
  obtain ⟨n2_75, rfl, w2_75⟩ := tyv_int k2_75
  obtain ⟨a, r2_76, rfl, k2_76, ty2_76⟩ := ty2_75.cons_inv
  obtain ⟨n2_76, rfl, w2_76⟩ := tyv_int k2_76
  obtain ⟨a, r2_77, rfl, k2_77, ty2_77⟩ := ty2_76.cons_inv
  obtain ⟨n2_77, rfl, w2_77⟩ := tyv_int k2_77
  obtain ⟨a, r2_78, rfl, k2_78, ty2_78⟩ := ty2_77.cons_inv
  obtain ⟨n2_78, rfl, w2_78⟩ := tyv_int k2_78
  obtain ⟨a, r2_79, rfl, k2_79, ty2_79⟩ := ty2_78.cons_inv
  obtain ⟨b2_79, rfl⟩ := tyv_bool k2_79
  obtain ⟨a, r2_80, rfl, k2_80, ty2_80⟩ := ty2_79.cons_inv
  obtain ⟨b2_80, rfl⟩ := tyv_bool k2_80
  obtain ⟨a, r2_81, rfl, k2_81, ty2_81⟩ := ty2_80.cons_inv
  obtain ⟨n2_81, rfl, w2_81⟩ := tyv_int k2_81
  obtain ⟨a, r2_82, rfl, k2_82, ty2_82⟩ := ty2_81.cons_inv
  obtain ⟨n2_82, rfl, w2_82⟩ := tyv_int k2_82
  obtain ⟨a, r2_83, rfl, k2_83, ty2_83⟩ := ty2_82.cons_inv
  obtain ⟨n2_83, rfl, w2_83⟩ := tyv_int k2_83
  obtain ⟨a, r2_84, rfl, k2_84, ty2_84⟩ := ty2_83.cons_inv
  obtain ⟨n2_84, rfl, w2_84⟩ := tyv_int k2_84
  obtain ⟨a, r2_85, rfl, k2_85, ty2_85⟩ := ty2_84.cons_inv
  obtain ⟨n2_85, rfl, w2_85⟩ := tyv_int k2_85
  obtain ⟨a, r2_86, rfl, k2_86, ty2_86⟩ := ty2_85.cons_inv
  obtain ⟨n2_86, rfl, w2_86⟩ := tyv_int k2_86
  obtain ⟨a, r2_87, rfl, k2_87, ty2_87⟩ := ty2_86.cons_inv
  obtain ⟨n2_87, rfl, w2_87⟩ := tyv_int k2_87
  obtain ⟨a, r2_88, rfl, k2_88, ty2_88⟩ := ty2_87.cons_inv
  obtain ⟨n2_88, rfl, w2_88⟩ := tyv_int k2_88
  obtain ⟨a, r2_89, rfl, k2_89, ty2_89⟩ := ty2_88.cons_inv
  obtain ⟨n2_89, rfl, w2_89⟩ := tyv_int k2_89
  obtain ⟨a, r2_90, rfl, k2_90, ty2_90⟩ := ty2_89.cons_inv
  obtain ⟨n2_90, rfl, w2_90⟩ := tyv_int k2_90
  obtain ⟨a, r2_91, rfl, k2_91, ty2_91⟩ := ty2_90.cons_inv
  obtain ⟨b2_91, rfl⟩ := tyv_bool k2_91
  obtain ⟨a, r2_92, rfl, k2_92, ty2_92⟩ := ty2_91.cons_inv
  obtain ⟨b2_92, rfl⟩ := tyv_bool k2_92
  obtain ⟨a, r2_93, rfl, k2_93, ty2_93⟩ := ty2_92.cons_inv
  obtain ⟨n2_93, rfl, w2_93⟩ := tyv_int k2_93
  obtain ⟨a, r2_94, rfl, k2_94, ty2_94⟩ := ty2_93.cons_inv
  obtain ⟨n2_94, rfl, w2_94⟩ := tyv_int k2_94
  obtain ⟨a, r2_95, rfl, k2_95, ty2_95⟩ := ty2_94.cons_inv
  obtain ⟨n2_95, rfl, w2_95⟩ := tyv_int k2_95
  cases ty2_95.nil_inv
  obtain ⟨v3, r3, rfl, c3, al⟩ := al.cons_inv
  obtain ⟨a3, k3, d3⟩ := came_one (n := 40) (k := .sc (.int .i64)) (by kernel_rfl) (by kernel_rfl) c3
  obtain ⟨n3, rfl, w3⟩ := tyv_int k3
  cases al.nil_inv
  refine (law_call (s3 l0 ⟨[n1_0, n1_1, n1_2, n1_3], n1_4, n1_5⟩ [⟨n2_0, n2_1, n2_2, n2_3, n2_4, n2_5, n2_6, b2_7, b2_8, n2_9, n2_10, n2_11⟩, ⟨n2_12, n2_13, n2_14, n2_15, n2_16, n2_17, n2_18, b2_19, b2_20, n2_21, n2_22, n2_23⟩, ⟨n2_24, n2_25, n2_26, n2_27, n2_28, n2_29, n2_30, b2_31, b2_32, n2_33, n2_34, n2_35⟩, ⟨n2_36, n2_37, n2_38, n2_39, n2_40, n2_41, n2_42, b2_43, b2_44, n2_45, n2_46, n2_47⟩, ⟨n2_48, n2_49, n2_50, n2_51, n2_52, n2_53, n2_54, b2_55, b2_56, n2_57, n2_58, n2_59⟩, ⟨n2_60, n2_61, n2_62, n2_63, n2_64, n2_65, n2_66, b2_67, b2_68, n2_69, n2_70, n2_71⟩, ⟨n2_72, n2_73, n2_74, n2_75, n2_76, n2_77, n2_78, b2_79, b2_80, n2_81, n2_82, n2_83⟩, ⟨n2_84, n2_85, n2_86, n2_87, n2_88, n2_89, n2_90, b2_91, b2_92, n2_93, n2_94, n2_95⟩] n3 rfl rfl) (Al.c d0 (Al.c d1 (Al.c d2 (Al.c d3 Al.n))))).mono fun e W' ⟨he, bel⟩ => ?_
  subst he
  have hcl := args_close laidOut (by kernel_rfl) hA bel
  have hlen : ds.length = 4 := by
    have := trodAll_lens hA; simpa using this
  obtain ⟨y0, y1, y2, y3, rfl⟩ := len_4 hlen
  exact ⟨_, rfl, _, _, _, [], _, [], hW', trodAll_mk1 (shut_bool Try.underlying4 _), hcl, rfl, bel.frame _, fun h => by cases h⟩

theorem over : Rows.transitFairRow.holds Try.pinned (OpenSpec.ofChange Rows.transitFairSpec) :=
  OpenClaim.holds_of_wide 3 Try.f3 rfl rfl rfl rfl rfl rfl rfl ⟨rfl, rfl, rfl, rfl, rfl⟩ rfl rfl rfl rfl rfl (by kernel_rfl) Try.func3 (by kernel_rfl)
    (of_decide_eq_true (by kernel_rfl)) (by unfold Func.isWrapper; first | (rw [if_pos (by decide +kernel)]; kernel_rfl) | (rw [if_neg (by decide +kernel)]; exact ⟨rfl, rfl⟩))
    (fun os started H enc _ => lifted os started H enc)

/-- THE STATEMENT -/
theorem proved : Rows.TransitFairSaid := over
end Go.Proofs.Ytffndeloffamnaa.transitFairDone
