/- RailActs: for every input the law returns true, and each argument reads afterwards as it read before. -/
import Derived.Test.YtjajlcaemehdoaaTies
import Derived.Test.YtjajlcaemehdoaaRows
import Derived.Test.YtjajlcaemehdoaaPk6
namespace Go.Proofs.Ytjajlcaemehdoaa.railActsDone
open Go.ChangeShapes Go.WideShapes Go.ChangeAt Go.RowKit Go.Eng
set_option linter.unusedVariables false

theorem own : ownKnob Try.prog.godebug = none := by kernel_rfl
theorem laidOut : laidOutB Try.prog = true := by kernel_rfl

set_option maxRecDepth 100000 in
theorem lifted (os : Os) (started : os.Started) (H : Type) (enc : TypeId × Value → H) :
    ReturnsInHanded {} Try.checked os 4 .any (Rows.railActsSpec.pre6 enc Try.prog Try.f4 Rows.railActsRow.domain false) (Rows.railActsSpec.post enc Try.prog Try.f4 false true false false) := by
  refine returnsInHanded_of_change (C := Try.checked) own started (by kernel_rfl) Try.func4
    (ChangeSpec.witness6 (enc := enc) (C := Try.checked) false ⟨#[], #[.slice none 0 0, .agg #[.int .i64 0, .int .i64 0, .int .i64 0, .int .i64 0, .int .i64 0, .int .i64 0, .int .i64 0, .int .i64 0], .int .i64 0, .agg #[.int .i64 0, .int .i64 0, .int .i64 0, .int .i64 0, .int .i64 0, .int .i64 0, .int .i64 0, .bool false, .bool false, .int .i64 0, .int .i64 0, .int .i64 0, .int .i64 0, .int .i64 0, .int .i64 0, .int .i64 0, .int .i64 0, .int .i64 0, .int .i64 0, .bool false, .bool false, .int .i64 0, .int .i64 0, .int .i64 0, .int .i64 0, .int .i64 0, .int .i64 0, .int .i64 0, .int .i64 0, .int .i64 0, .int .i64 0, .bool false, .bool false, .int .i64 0, .int .i64 0, .int .i64 0, .int .i64 0, .int .i64 0, .int .i64 0, .int .i64 0, .int .i64 0, .int .i64 0, .int .i64 0, .bool false, .bool false, .int .i64 0, .int .i64 0, .int .i64 0, .int .i64 0, .int .i64 0, .int .i64 0, .int .i64 0, .int .i64 0, .int .i64 0, .int .i64 0, .bool false, .bool false, .int .i64 0, .int .i64 0, .int .i64 0, .int .i64 0, .int .i64 0, .int .i64 0, .int .i64 0, .int .i64 0, .int .i64 0, .int .i64 0, .bool false, .bool false, .int .i64 0, .int .i64 0, .int .i64 0, .int .i64 0, .int .i64 0, .int .i64 0, .int .i64 0, .int .i64 0, .int .i64 0, .int .i64 0, .bool false, .bool false, .int .i64 0, .int .i64 0, .int .i64 0, .int .i64 0, .int .i64 0, .int .i64 0, .int .i64 0, .int .i64 0, .int .i64 0, .int .i64 0, .bool false, .bool false, .int .i64 0, .int .i64 0, .int .i64 0]], []⟩ 8 (by kernel_rfl) (by kernel_rfl) (by kernel_rfl) (by kernel_rfl)) ?_
  intro W base args ds gs before hval0 hW hcnd _
  have hval : ∀ (j : Nat) t v, Try.f4.params[j]? = some t → args[j]? = some v → Value.okWide Try.prog W .any base t v := hval0
  have hW' := hW
  obtain ⟨p, q, hA0, hV, rfl, hfz, hnd⟩ := hW
  have hA : DataW.TrodAll enc Try.prog W 0 (fun _ => true) true Try.f4.params.toList args.toList ds p := hA0
  rw [Try.params4] at hA hval
  obtain ⟨rfl, rfl⟩ := trodVars_none hV
  clear hA0 hval0
  obtain ⟨vs, rfl⟩ : ∃ vs : List Value, args = vs.toArray := ⟨args.toList, rfl⟩
  have al := args_open hA (fun j t v h1 h2 => hval j t v (by simpa using h1) (by simpa using h2))
  obtain ⟨v0, r0, rfl, c0, al⟩ := al.cons_inv
  obtain ⟨a0, k0, d0⟩ := came_one (n := 40) (k := .sl [.sc (.int .i64)]) (by kernel_rfl) (by kernel_rfl) c0
  obtain ⟨l0, rfl, m0, w0⟩ := tyv_ints k0
  obtain ⟨v1, r1, rfl, c1, al⟩ := al.cons_inv
  obtain ⟨as1, ty1, d1⟩ := came_agg (n := 40) (l := [.sc (.int .i64), .sc (.int .i64), .sc (.int .i64), .sc (.int .i64), .sc (.int .i64), .sc (.int .i64), .sc (.int .i64), .sc (.int .i64)]) (by kernel_rfl) (by kernel_rfl) c1
  obtain ⟨a, r1_0, rfl, k1_0, ty1_0⟩ := ty1.cons_inv
  obtain ⟨n1_0, rfl, w1_0⟩ := tyv_int k1_0
  obtain ⟨a, r1_1, rfl, k1_1, ty1_1⟩ := ty1_0.cons_inv
  obtain ⟨n1_1, rfl, w1_1⟩ := tyv_int k1_1
  obtain ⟨a, r1_2, rfl, k1_2, ty1_2⟩ := ty1_1.cons_inv
  obtain ⟨n1_2, rfl, w1_2⟩ := tyv_int k1_2
  obtain ⟨a, r1_3, rfl, k1_3, ty1_3⟩ := ty1_2.cons_inv
  obtain ⟨n1_3, rfl, w1_3⟩ := tyv_int k1_3
  obtain ⟨a, r1_4, rfl, k1_4, ty1_4⟩ := ty1_3.cons_inv
  obtain ⟨n1_4, rfl, w1_4⟩ := tyv_int k1_4
  obtain ⟨a, r1_5, rfl, k1_5, ty1_5⟩ := ty1_4.cons_inv
  obtain ⟨n1_5, rfl, w1_5⟩ := tyv_int k1_5
  obtain ⟨a, r1_6, rfl, k1_6, ty1_6⟩ := ty1_5.cons_inv
  obtain ⟨n1_6, rfl, w1_6⟩ := tyv_int k1_6
  obtain ⟨a, r1_7, rfl, k1_7, ty1_7⟩ := ty1_6.cons_inv
  obtain ⟨n1_7, rfl, w1_7⟩ := tyv_int k1_7
  cases ty1_7.nil_inv
  obtain ⟨v2, r2, rfl, c2, al⟩ := al.cons_inv
  obtain ⟨a2, k2, d2⟩ := came_one (n := 40) (k := .sc (.int .i64)) (by kernel_rfl) (by kernel_rfl) c2
  obtain ⟨n2, rfl, w2⟩ := tyv_int k2
  obtain ⟨v3, r3, rfl, c3, al⟩ := al.cons_inv
  obtain ⟨as3, ty3, d3⟩ := came_agg (n := 40) (l := [.sc (.int .i64), .sc (.int .i64), .sc (.int .i64), .sc (.int .i64), .sc (.int .i64), .sc (.int .i64), .sc (.int .i64), .sc .bool, .sc .bool, .sc (.int .i64), .sc (.int .i64), .sc (.int .i64), .sc (.int .i64), .sc (.int .i64), .sc (.int .i64), .sc (.int .i64), .sc (.int .i64), .sc (.int .i64), .sc (.int .i64), .sc .bool, .sc .bool, .sc (.int .i64), .sc (.int .i64), .sc (.int .i64), .sc (.int .i64), .sc (.int .i64), .sc (.int .i64), .sc (.int .i64), .sc (.int .i64), .sc (.int .i64), .sc (.int .i64), .sc .bool, .sc .bool, .sc (.int .i64), .sc (.int .i64), .sc (.int .i64), .sc (.int .i64), .sc (.int .i64), .sc (.int .i64), .sc (.int .i64), .sc (.int .i64), .sc (.int .i64), .sc (.int .i64), .sc .bool, .sc .bool, .sc (.int .i64), .sc (.int .i64), .sc (.int .i64), .sc (.int .i64), .sc (.int .i64), .sc (.int .i64), .sc (.int .i64), .sc (.int .i64), .sc (.int .i64), .sc (.int .i64), .sc .bool, .sc .bool, .sc (.int .i64), .sc (.int .i64), .sc (.int .i64), .sc (.int .i64), .sc (.int .i64), .sc (.int .i64), .sc (.int .i64), .sc (.int .i64), .sc (.int .i64), .sc (.int .i64), .sc .bool, .sc .bool, .sc (.int .i64), .sc (.int .i64), .sc (.int .i64), .sc (.int .i64), .sc (.int .i64), .sc (.int .i64), .sc (.int .i64), .sc (.int .i64), .sc (.int .i64), .sc (.int .i64), .sc .bool, .sc .bool, .sc (.int .i64), .sc (.int .i64), .sc (.int .i64), .sc (.int .i64), .sc (.int .i64), .sc (.int .i64), .sc (.int .i64), .sc (.int .i64), .sc (.int .i64), .sc (.int .i64), .sc .bool, .sc .bool, .sc (.int .i64), .sc (.int .i64), .sc (.int .i64)]) (by kernel_rfl) (by kernel_rfl) c3
  obtain ⟨a, r3_0, rfl, k3_0, ty3_0⟩ := ty3.cons_inv
  obtain ⟨n3_0, rfl, w3_0⟩ := tyv_int k3_0
  obtain ⟨a, r3_1, rfl, k3_1, ty3_1⟩ := ty3_0.cons_inv
  obtain ⟨n3_1, rfl, w3_1⟩ := tyv_int k3_1
  obtain ⟨a, r3_2, rfl, k3_2, ty3_2⟩ := ty3_1.cons_inv
  obtain ⟨n3_2, rfl, w3_2⟩ := tyv_int k3_2
  obtain ⟨a, r3_3, rfl, k3_3, ty3_3⟩ := ty3_2.cons_inv
  obtain ⟨n3_3, rfl, w3_3⟩ := tyv_int k3_3
  obtain ⟨a, r3_4, rfl, k3_4, ty3_4⟩ := ty3_3.cons_inv
  obtain ⟨n3_4, rfl, w3_4⟩ := tyv_int k3_4
  obtain ⟨a, r3_5, rfl, k3_5, ty3_5⟩ := ty3_4.cons_inv
  obtain ⟨n3_5, rfl, w3_5⟩ := tyv_int k3_5
  obtain ⟨a, r3_6, rfl, k3_6, ty3_6⟩ := ty3_5.cons_inv
  obtain ⟨n3_6, rfl, w3_6⟩ := tyv_int k3_6
  obtain ⟨a, r3_7, rfl, k3_7, ty3_7⟩ := ty3_6.cons_inv
  obtain ⟨b3_7, rfl⟩ := tyv_bool k3_7
  obtain ⟨a, r3_8, rfl, k3_8, ty3_8⟩ := ty3_7.cons_inv
  obtain ⟨b3_8, rfl⟩ := tyv_bool k3_8
  obtain ⟨a, r3_9, rfl, k3_9, ty3_9⟩ := ty3_8.cons_inv
  obtain ⟨n3_9, rfl, w3_9⟩ := tyv_int k3_9
  obtain ⟨a, r3_10, rfl, k3_10, ty3_10⟩ := ty3_9.cons_inv
  obtain ⟨n3_10, rfl, w3_10⟩ := tyv_int k3_10
  obtain ⟨a, r3_11, rfl, k3_11, ty3_11⟩ := ty3_10.cons_inv
  obtain ⟨n3_11, rfl, w3_11⟩ := tyv_int k3_11
  obtain ⟨a, r3_12, rfl, k3_12, ty3_12⟩ := ty3_11.cons_inv
  obtain ⟨n3_12, rfl, w3_12⟩ := tyv_int k3_12
  obtain ⟨a, r3_13, rfl, k3_13, ty3_13⟩ := ty3_12.cons_inv
  obtain ⟨n3_13, rfl, w3_13⟩ := tyv_int k3_13
  obtain ⟨a, r3_14, rfl, k3_14, ty3_14⟩ := ty3_13.cons_inv
  obtain ⟨n3_14, rfl, w3_14⟩ := tyv_int k3_14
  obtain ⟨a, r3_15, rfl, k3_15, ty3_15⟩ := ty3_14.cons_inv
  obtain ⟨n3_15, rfl, w3_15⟩ := tyv_int k3_15
  obtain ⟨a, r3_16, rfl, k3_16, ty3_16⟩ := ty3_15.cons_inv
  obtain ⟨n3_16, rfl, w3_16⟩ := tyv_int k3_16
  obtain ⟨a, r3_17, rfl, k3_17, ty3_17⟩ := ty3_16.cons_inv
  obtain ⟨n3_17, rfl, w3_17⟩ := tyv_int k3_17
  obtain ⟨a, r3_18, rfl, k3_18, ty3_18⟩ := ty3_17.cons_inv
  obtain ⟨n3_18, rfl, w3_18⟩ := tyv_int k3_18
  obtain ⟨a, r3_19, rfl, k3_19, ty3_19⟩ := ty3_18.cons_inv
  obtain ⟨b3_19, rfl⟩ := tyv_bool k3_19
  obtain ⟨a, r3_20, rfl, k3_20, ty3_20⟩ := ty3_19.cons_inv
  obtain ⟨b3_20, rfl⟩ := tyv_bool k3_20
  obtain ⟨a, r3_21, rfl, k3_21, ty3_21⟩ := ty3_20.cons_inv
  obtain ⟨n3_21, rfl, w3_21⟩ := tyv_int k3_21
  obtain ⟨a, r3_22, rfl, k3_22, ty3_22⟩ := ty3_21.cons_inv
  obtain ⟨n3_22, rfl, w3_22⟩ := tyv_int k3_22
  obtain ⟨a, r3_23, rfl, k3_23, ty3_23⟩ := ty3_22.cons_inv
  obtain ⟨n3_23, rfl, w3_23⟩ := tyv_int k3_23
  obtain ⟨a, r3_24, rfl, k3_24, ty3_24⟩ := ty3_23.cons_inv
  obtain ⟨n3_24, rfl, w3_24⟩ := tyv_int k3_24
  obtain ⟨a, r3_25, rfl, k3_25, ty3_25⟩ := ty3_24.cons_inv
  obtain ⟨n3_25, rfl, w3_25⟩ := tyv_int k3_25
  obtain ⟨a, r3_26, rfl, k3_26, ty3_26⟩ := ty3_25.cons_inv
  obtain ⟨n3_26, rfl, w3_26⟩ := tyv_int k3_26
  obtain ⟨a, r3_27, rfl, k3_27, ty3_27⟩ := ty3_26.cons_inv
  obtain ⟨n3_27, rfl, w3_27⟩ := tyv_int k3_27
  obtain ⟨a, r3_28, rfl, k3_28, ty3_28⟩ := ty3_27.cons_inv
  obtain ⟨n3_28, rfl, w3_28⟩ := tyv_int k3_28
  obtain ⟨a, r3_29, rfl, k3_29, ty3_29⟩ := ty3_28.cons_inv
  obtain ⟨n3_29, rfl, w3_29⟩ := tyv_int k3_29
  obtain ⟨a, r3_30, rfl, k3_30, ty3_30⟩ := ty3_29.cons_inv
  obtain ⟨n3_30, rfl, w3_30⟩ := tyv_int k3_30
  obtain ⟨a, r3_31, rfl, k3_31, ty3_31⟩ := ty3_30.cons_inv
  obtain ⟨b3_31, rfl⟩ := tyv_bool k3_31
  obtain ⟨a, r3_32, rfl, k3_32, ty3_32⟩ := ty3_31.cons_inv
  obtain ⟨b3_32, rfl⟩ := tyv_bool k3_32
  obtain ⟨a, r3_33, rfl, k3_33, ty3_33⟩ := ty3_32.cons_inv
  obtain ⟨n3_33, rfl, w3_33⟩ := tyv_int k3_33
  obtain ⟨a, r3_34, rfl, k3_34, ty3_34⟩ := ty3_33.cons_inv
  obtain ⟨n3_34, rfl, w3_34⟩ := tyv_int k3_34
  obtain ⟨a, r3_35, rfl, k3_35, ty3_35⟩ := ty3_34.cons_inv
  obtain ⟨n3_35, rfl, w3_35⟩ := tyv_int k3_35
  obtain ⟨a, r3_36, rfl, k3_36, ty3_36⟩ := ty3_35.cons_inv
  obtain ⟨n3_36, rfl, w3_36⟩ := tyv_int k3_36
  obtain ⟨a, r3_37, rfl, k3_37, ty3_37⟩ := ty3_36.cons_inv
  obtain ⟨n3_37, rfl, w3_37⟩ := tyv_int k3_37
  obtain ⟨a, r3_38, rfl, k3_38, ty3_38⟩ := ty3_37.cons_inv
  obtain ⟨n3_38, rfl, w3_38⟩ := tyv_int k3_38
  obtain ⟨a, r3_39, rfl, k3_39, ty3_39⟩ := ty3_38.cons_inv
  obtain ⟨n3_39, rfl, w3_39⟩ := tyv_int k3_39
  obtain ⟨a, r3_40, rfl, k3_40, ty3_40⟩ := ty3_39.cons_inv
  obtain ⟨n3_40, rfl, w3_40⟩ := tyv_int k3_40
  obtain ⟨a, r3_41, rfl, k3_41, ty3_41⟩ := ty3_40.cons_inv
  obtain ⟨n3_41, rfl, w3_41⟩ := tyv_int k3_41
  obtain ⟨a, r3_42, rfl, k3_42, ty3_42⟩ := ty3_41.cons_inv
  obtain ⟨n3_42, rfl, w3_42⟩ := tyv_int k3_42
  obtain ⟨a, r3_43, rfl, k3_43, ty3_43⟩ := ty3_42.cons_inv
  obtain ⟨b3_43, rfl⟩ := tyv_bool k3_43
  obtain ⟨a, r3_44, rfl, k3_44, ty3_44⟩ := ty3_43.cons_inv
  obtain ⟨b3_44, rfl⟩ := tyv_bool k3_44
  obtain ⟨a, r3_45, rfl, k3_45, ty3_45⟩ := ty3_44.cons_inv
  obtain ⟨n3_45, rfl, w3_45⟩ := tyv_int k3_45
  obtain ⟨a, r3_46, rfl, k3_46, ty3_46⟩ := ty3_45.cons_inv
  obtain ⟨n3_46, rfl, w3_46⟩ := tyv_int k3_46
  obtain ⟨a, r3_47, rfl, k3_47, ty3_47⟩ := ty3_46.cons_inv
  obtain ⟨n3_47, rfl, w3_47⟩ := tyv_int k3_47
  obtain ⟨a, r3_48, rfl, k3_48, ty3_48⟩ := ty3_47.cons_inv
  obtain ⟨n3_48, rfl, w3_48⟩ := tyv_int k3_48
  obtain ⟨a, r3_49, rfl, k3_49, ty3_49⟩ := ty3_48.cons_inv
  obtain ⟨n3_49, rfl, w3_49⟩ := tyv_int k3_49
  obtain ⟨a, r3_50, rfl, k3_50, ty3_50⟩ := ty3_49.cons_inv
  obtain ⟨n3_50, rfl, w3_50⟩ := tyv_int k3_50
  obtain ⟨a, r3_51, rfl, k3_51, ty3_51⟩ := ty3_50.cons_inv
  obtain ⟨n3_51, rfl, w3_51⟩ := tyv_int k3_51
  obtain ⟨a, r3_52, rfl, k3_52, ty3_52⟩ := ty3_51.cons_inv
  obtain ⟨n3_52, rfl, w3_52⟩ := tyv_int k3_52
  obtain ⟨a, r3_53, rfl, k3_53, ty3_53⟩ := ty3_52.cons_inv
  obtain ⟨n3_53, rfl, w3_53⟩ := tyv_int k3_53
  obtain ⟨a, r3_54, rfl, k3_54, ty3_54⟩ := ty3_53.cons_inv
  obtain ⟨n3_54, rfl, w3_54⟩ := tyv_int k3_54
  obtain ⟨a, r3_55, rfl, k3_55, ty3_55⟩ := ty3_54.cons_inv
  obtain ⟨b3_55, rfl⟩ := tyv_bool k3_55
  obtain ⟨a, r3_56, rfl, k3_56, ty3_56⟩ := ty3_55.cons_inv
  obtain ⟨b3_56, rfl⟩ := tyv_bool k3_56
  obtain ⟨a, r3_57, rfl, k3_57, ty3_57⟩ := ty3_56.cons_inv
  obtain ⟨n3_57, rfl, w3_57⟩ := tyv_int k3_57
  obtain ⟨a, r3_58, rfl, k3_58, ty3_58⟩ := ty3_57.cons_inv
  obtain ⟨n3_58, rfl, w3_58⟩ := tyv_int k3_58
  obtain ⟨a, r3_59, rfl, k3_59, ty3_59⟩ := ty3_58.cons_inv
  obtain ⟨n3_59, rfl, w3_59⟩ := tyv_int k3_59
  obtain ⟨a, r3_60, rfl, k3_60, ty3_60⟩ := ty3_59.cons_inv
  obtain ⟨n3_60, rfl, w3_60⟩ := tyv_int k3_60
  obtain ⟨a, r3_61, rfl, k3_61, ty3_61⟩ := ty3_60.cons_inv
  obtain ⟨n3_61, rfl, w3_61⟩ := tyv_int k3_61
  obtain ⟨a, r3_62, rfl, k3_62, ty3_62⟩ := ty3_61.cons_inv
  obtain ⟨n3_62, rfl, w3_62⟩ := tyv_int k3_62
  obtain ⟨a, r3_63, rfl, k3_63, ty3_63⟩ := ty3_62.cons_inv
  obtain ⟨n3_63, rfl, w3_63⟩ := tyv_int k3_63
  obtain ⟨a, r3_64, rfl, k3_64, ty3_64⟩ := ty3_63.cons_inv
  obtain ⟨n3_64, rfl, w3_64⟩ := tyv_int k3_64
  obtain ⟨a, r3_65, rfl, k3_65, ty3_65⟩ := ty3_64.cons_inv
  obtain ⟨n3_65, rfl, w3_65⟩ := tyv_int k3_65
  obtain ⟨a, r3_66, rfl, k3_66, ty3_66⟩ := ty3_65.cons_inv
  obtain ⟨n3_66, rfl, w3_66⟩ := tyv_int k3_66
  obtain ⟨a, r3_67, rfl, k3_67, ty3_67⟩ := ty3_66.cons_inv
  obtain ⟨b3_67, rfl⟩ := tyv_bool k3_67
  obtain ⟨a, r3_68, rfl, k3_68, ty3_68⟩ := ty3_67.cons_inv
  obtain ⟨b3_68, rfl⟩ := tyv_bool k3_68
  obtain ⟨a, r3_69, rfl, k3_69, ty3_69⟩ := ty3_68.cons_inv
  obtain ⟨n3_69, rfl, w3_69⟩ := tyv_int k3_69
  obtain ⟨a, r3_70, rfl, k3_70, ty3_70⟩ := ty3_69.cons_inv
  obtain ⟨n3_70, rfl, w3_70⟩ := tyv_int k3_70
  obtain ⟨a, r3_71, rfl, k3_71, ty3_71⟩ := ty3_70.cons_inv
  obtain ⟨n3_71, rfl, w3_71⟩ := tyv_int k3_71
  obtain ⟨a, r3_72, rfl, k3_72, ty3_72⟩ := ty3_71.cons_inv
  obtain ⟨n3_72, rfl, w3_72⟩ := tyv_int k3_72
  obtain ⟨a, r3_73, rfl, k3_73, ty3_73⟩ := ty3_72.cons_inv
  obtain ⟨n3_73, rfl, w3_73⟩ := tyv_int k3_73
  obtain ⟨a, r3_74, rfl, k3_74, ty3_74⟩ := ty3_73.cons_inv
  obtain ⟨n3_74, rfl, w3_74⟩ := tyv_int k3_74
  obtain ⟨a, r3_75, rfl, k3_75, ty3_75⟩ := ty3_74.cons_inv
  obtain ⟨n3_75, rfl, w3_75⟩ := tyv_int k3_75
  obtain ⟨a, r3_76, rfl, k3_76, ty3_76⟩ := ty3_75.cons_inv
  obtain ⟨n3_76, rfl, w3_76⟩ := tyv_int k3_76
  obtain ⟨a, r3_77, rfl, k3_77, ty3_77⟩ := ty3_76.cons_inv
  obtain ⟨n3_77, rfl, w3_77⟩ := tyv_int k3_77
  obtain ⟨a, r3_78, rfl, k3_78, ty3_78⟩ := ty3_77.cons_inv
  obtain ⟨n3_78, rfl, w3_78⟩ := tyv_int k3_78
  obtain ⟨a, r3_79, rfl, k3_79, ty3_79⟩ := ty3_78.cons_inv
  obtain ⟨b3_79, rfl⟩ := tyv_bool k3_79
  obtain ⟨a, r3_80, rfl, k3_80, ty3_80⟩ := ty3_79.cons_inv
  obtain ⟨b3_80, rfl⟩ := tyv_bool k3_80
  obtain ⟨a, r3_81, rfl, k3_81, ty3_81⟩ := ty3_80.cons_inv
  obtain ⟨n3_81, rfl, w3_81⟩ := tyv_int k3_81
  obtain ⟨a, r3_82, rfl, k3_82, ty3_82⟩ := ty3_81.cons_inv
  obtain ⟨n3_82, rfl, w3_82⟩ := tyv_int k3_82
  obtain ⟨a, r3_83, rfl, k3_83, ty3_83⟩ := ty3_82.cons_inv
  obtain ⟨n3_83, rfl, w3_83⟩ := tyv_int k3_83
  obtain ⟨a, r3_84, rfl, k3_84, ty3_84⟩ := ty3_83.cons_inv
  obtain ⟨n3_84, rfl, w3_84⟩ := tyv_int k3_84
  obtain ⟨a, r3_85, rfl, k3_85, ty3_85⟩ := ty3_84.cons_inv
  obtain ⟨n3_85, rfl, w3_85⟩ := tyv_int k3_85
  obtain ⟨a, r3_86, rfl, k3_86, ty3_86⟩ := ty3_85.cons_inv
  obtain ⟨n3_86, rfl, w3_86⟩ := tyv_int k3_86
  obtain ⟨a, r3_87, rfl, k3_87, ty3_87⟩ := ty3_86.cons_inv
  obtain ⟨n3_87, rfl, w3_87⟩ := tyv_int k3_87
  obtain ⟨a, r3_88, rfl, k3_88, ty3_88⟩ := ty3_87.cons_inv
  obtain ⟨n3_88, rfl, w3_88⟩ := tyv_int k3_88
  obtain ⟨a, r3_89, rfl, k3_89, ty3_89⟩ := ty3_88.cons_inv
  obtain ⟨n3_89, rfl, w3_89⟩ := tyv_int k3_89
  obtain ⟨a, r3_90, rfl, k3_90, ty3_90⟩ := ty3_89.cons_inv
  obtain ⟨n3_90, rfl, w3_90⟩ := tyv_int k3_90
  obtain ⟨a, r3_91, rfl, k3_91, ty3_91⟩ := ty3_90.cons_inv
  obtain ⟨b3_91, rfl⟩ := tyv_bool k3_91
  obtain ⟨a, r3_92, rfl, k3_92, ty3_92⟩ := ty3_91.cons_inv
  obtain ⟨b3_92, rfl⟩ := tyv_bool k3_92
  obtain ⟨a, r3_93, rfl, k3_93, ty3_93⟩ := ty3_92.cons_inv
  obtain ⟨n3_93, rfl, w3_93⟩ := tyv_int k3_93
  obtain ⟨a, r3_94, rfl, k3_94, ty3_94⟩ := ty3_93.cons_inv
  obtain ⟨n3_94, rfl, w3_94⟩ := tyv_int k3_94
  obtain ⟨a, r3_95, rfl, k3_95, ty3_95⟩ := ty3_94.cons_inv
  obtain ⟨n3_95, rfl, w3_95⟩ := tyv_int k3_95
  cases ty3_95.nil_inv
  cases al.nil_inv
  refine (law_call (s4 l0 ⟨n1_0, n1_1, n1_2, [n1_3, n1_4, n1_5, n1_6], n1_7⟩ n2 [⟨n3_0, n3_1, n3_2, n3_3, n3_4, n3_5, n3_6, b3_7, b3_8, n3_9, n3_10, n3_11⟩, ⟨n3_12, n3_13, n3_14, n3_15, n3_16, n3_17, n3_18, b3_19, b3_20, n3_21, n3_22, n3_23⟩, ⟨n3_24, n3_25, n3_26, n3_27, n3_28, n3_29, n3_30, b3_31, b3_32, n3_33, n3_34, n3_35⟩, ⟨n3_36, n3_37, n3_38, n3_39, n3_40, n3_41, n3_42, b3_43, b3_44, n3_45, n3_46, n3_47⟩, ⟨n3_48, n3_49, n3_50, n3_51, n3_52, n3_53, n3_54, b3_55, b3_56, n3_57, n3_58, n3_59⟩, ⟨n3_60, n3_61, n3_62, n3_63, n3_64, n3_65, n3_66, b3_67, b3_68, n3_69, n3_70, n3_71⟩, ⟨n3_72, n3_73, n3_74, n3_75, n3_76, n3_77, n3_78, b3_79, b3_80, n3_81, n3_82, n3_83⟩, ⟨n3_84, n3_85, n3_86, n3_87, n3_88, n3_89, n3_90, b3_91, b3_92, n3_93, n3_94, n3_95⟩] rfl rfl) (Al.c d0 (Al.c d1 (Al.c d2 (Al.c d3 Al.n))))).mono fun e W' ⟨he, bel⟩ => ?_
  subst he
  have hcl := args_close laidOut (by kernel_rfl) hA bel
  have hlen : ds.length = 4 := by
    have := trodAll_lens hA; simpa using this
  obtain ⟨y0, y1, y2, y3, rfl⟩ := len_4 hlen
  exact ⟨_, rfl, _, _, _, [], _, [], hW', trodAll_mk1 (shut_bool Try.underlying4 _), hcl, rfl, bel.frame _, fun h => by cases h⟩

theorem over : Rows.railActsRow.holds Try.pinned (OpenSpec.ofChange Rows.railActsSpec) :=
  OpenClaim.holds_of_wide 4 Try.f4 rfl rfl rfl rfl rfl rfl rfl ⟨rfl, rfl, rfl, rfl, rfl⟩ rfl rfl rfl rfl rfl (by kernel_rfl) Try.func4 (by kernel_rfl)
    (of_decide_eq_true (by kernel_rfl)) (by unfold Func.isWrapper; first | (rw [if_pos (by decide +kernel)]; kernel_rfl) | (rw [if_neg (by decide +kernel)]; exact ⟨rfl, rfl⟩))
    (fun os started H enc _ => lifted os started H enc)

/-- THE STATEMENT -/
theorem proved : Rows.RailActsSaid := over
end Go.Proofs.Ytjajlcaemehdoaa.railActsDone
