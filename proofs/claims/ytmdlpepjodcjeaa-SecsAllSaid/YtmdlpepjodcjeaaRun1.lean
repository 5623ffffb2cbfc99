/- LIBRARY: the rules of a run, in one. -/
import Derived.Test.YtmdlpepjodcjeaaLib7
namespace Go.Eng
set_option linter.unnecessarySimpa false
open Go
set_option linter.unusedVariables false
set_option linter.unusedSimpArgs false
set_option maxRecDepth 10000
set_option maxHeartbeats 4000000
theorem intRow_len (n : Int) : (intRow n).length = 1 := rfl
set_option linter.defProp false
def RW :=
  And.intro @EV (And.intro @EW (And.intro @cond_true.{1} (And.intro @cond_false.{1} (And.intro @List.length_cons.{0} (And.intro @List.length_nil.{0} (And.intro @r_partO (And.intro @r_rowO (And.intro @r_blk4 (And.intro @List.take_succ_cons.{0} (And.intro @List.take_zero.{0} (And.intro @List.drop_succ_cons.{0} (And.intro @List.drop_zero.{0} (And.intro @List.nil_append.{0} (And.intro @List.cons_append.{0} (And.intro @List.append_nil.{0} (And.intro @List.contains_nil.{0} (And.intro @Bool.false_eq_true (And.intro @if_false.{1} (And.intro @if_true.{1} (And.intro @true_and (And.intro @List.getElem?_cons_zero.{0} (And.intro @List.getElem?_cons_succ.{0} (And.intro @Nat.le_refl (And.intro @p_some (And.intro @ge_iff_le.{0} (And.intro @List.filter_nil.{0} (And.intro @Option.map_some.{0,0} (And.intro @ne_eq.{1} (And.intro @not_false_eq_true (And.intro @Bool.not_true (And.intro @Bool.not_false (And.intro @List.mem_singleton.{0} (And.intro @forall_eq.{1} (And.intro @List.not_mem_nil.{0} (And.intro @false_implies (And.intro @implies_true.{0} (And.intro @implies_true.{1} (And.intro @List.forall_mem_map.{0,0} (And.intro @List.length_map.{0,0} (And.intro @and_true (And.intro @intRow_len (And.intro @a_slAV (And.intro @a_rows (And.intro @a_len (And.intro @Int.toNat_natCast (And.intro @List.getElem?_map.{0,0} (And.intro @Nat.zero_add (And.intro @Nat.add_zero (And.intro @List.mem_cons.{0} (And.intro @forall_eq_or_imp.{1} (And.intro @Nat.mul_one (And.intro @decide_true (And.intro @decide_false (And.intro @List.contains_cons.{0} (And.intro @Bool.or_false (And.intro @Bool.false_or (And.intro @Bool.or_true (@Bool.true_or))))))))))))))))))))))))))))))))))))))))))))))))))))))))))
def KW :=
  And.intro @k_wv (And.intro @k_cl (And.intro @k_clp (And.intro @k_gd (And.intro @k_cd (And.intro @k_pk (@k_dg))))))

end Go.Eng
