/- LIBRARY, PART 7: sums, sets of the reference -/
import Derived.Test.YtmdlpepjodcjeaaLib6
namespace Go.Eng
set_option linter.unnecessarySimpa false
open Go
set_option linter.unusedVariables false
set_option linter.unusedSimpArgs false
set_option maxRecDepth 10000

def cutI (n a b : Int) : Int := if n < a then a else if b < n then b else n
def capI (n : Int) : Int := cutI n 0 2147483647
def addI (a b : Int) : Int := capI (capI a + capI b)
def mulI (a b : Int) : Int := capI (capI a * capI b)
def hasR (s p : Int) : Bool := decide (0 ≤ p) && decide (p < 8) && bAnd .i64 (s.fdiv (2 ^ p.toNat)) 1 == 1

def Cut.Spec (C : Con) (f : Nat) : Prop := ∀ n a b : Int, C.c f [I n, I a, I b] (I (cutI n a b)) none
def Cap.Spec (C : Con) (f : Nat) : Prop := ∀ n : Int, C.c f [I n] (I (capI n)) none
def Add.Spec (C : Con) (f : Nat) : Prop := ∀ a b : Int, C.c f [I a, I b] (I (addI a b)) none
def Mul.Spec (C : Con) (f : Nat) : Prop := ∀ a b : Int, C.c f [I a, I b] (I (mulI a b)) none
def refHas.Spec (C : Con) (f : Nat) : Prop := ∀ s p : Int, C.c f [I s, I p] (B (hasR s p)) none

theorem capI_range (n : Int) : 0 ≤ capI n ∧ capI n ≤ 2147483647 := by
  unfold capI cutI; split
  · omega
  · split <;> omega

theorem wrap_id {n : Int} (h1 : -9223372036854775808 ≤ n) (h2 : n ≤ 9223372036854775807) : IntKind.i64.wrap n = n := by
  simp only [IntKind.wrap, IntKind.bits, IntKind.signed]
  simp
  omega

section
variable {P : Program} (hm : P.follows .mixedOrders = true) {f : Nat}
include hm

theorem Cut.ok (hc : cFn P f = some cc_ref01_Cut) : Cut.Spec (Pure P) f := by
  intro n a b
  refine pure_of hm hc (by show 3 ≤ 16; decide) (aw_flat (keep := []) (i := 0) ?_)
  simp only [cc_ref01_Cut, I, B, D, EW, cond_true, cond_false, List.length_cons, List.length_nil, ↓ k_wv, ↓ k_cl, ↓ k_clp, ↓ k_gd, ↓ k_cd, ↓ k_pk, EV, r_partO, r_rowO, r_blk4, fillA, setCells, stTags, List.take_succ_cons, List.take_zero, List.drop_succ_cons, List.drop_zero, List.nil_append, List.cons_append, List.append_nil, flat, List.contains_nil, Bool.false_eq_true, if_false, if_true, true_and, List.getElem?_cons_zero, List.getElem?_cons_succ, Nat.reduceBEq, Nat.reduceAdd, Nat.le_refl, Nat.reduceLeDiff, p_some, ge_iff_le, List.filter_nil, Option.map_some, Int.reduceNe, Int.reduceBEq, ne_eq, not_false_eq_true, Int.reduceEq, Bool.not_true, Bool.not_false]
  repeat' (first | (refine cd_split (fun h => ?_) (fun h => ?_) <;> try simp only [I, B, D, EW, cond_true, cond_false, List.length_cons, List.length_nil, ↓ k_wv, ↓ k_cl, ↓ k_clp, ↓ k_gd, ↓ k_cd, ↓ k_pk, EV, r_partO, r_rowO, r_blk4, fillA, setCells, stTags, List.take_succ_cons, List.take_zero, List.drop_succ_cons, List.drop_zero, List.nil_append, List.cons_append, List.append_nil, flat, List.contains_nil, Bool.false_eq_true, if_false, if_true, true_and, List.getElem?_cons_zero, List.getElem?_cons_succ, Nat.reduceBEq, Nat.reduceAdd, Nat.le_refl, Nat.reduceLeDiff, p_some, ge_iff_le, List.filter_nil, Option.map_some, Int.reduceNe, Int.reduceBEq, ne_eq, not_false_eq_true, Int.reduceEq, Bool.not_true, Bool.not_false, h]))
  all_goals simp_all [cutI]
  all_goals omega

theorem Cap.ok {fC : Nat} (hc : cFn P f = some (cc_ref01_Cap fC)) (hC : Cut.Spec (Pure P) fC) : Cap.Spec (Pure P) f := by
  intro n
  refine pure_of hm hc (by show 1 ≤ 5; decide) (aw_flat (keep := []) (i := 0) ?_)
  simp only [cc_ref01_Cap, I, B, D, EW, cond_true, cond_false, List.length_cons, List.length_nil, ↓ k_wv, ↓ k_cl, ↓ k_clp, ↓ k_gd, ↓ k_cd, ↓ k_pk, EV, r_partO, r_rowO, r_blk4, fillA, setCells, stTags, List.take_succ_cons, List.take_zero, List.drop_succ_cons, List.drop_zero, List.nil_append, List.cons_append, List.append_nil, flat, List.contains_nil, Bool.false_eq_true, if_false, if_true, true_and, List.getElem?_cons_zero, List.getElem?_cons_succ, Nat.reduceBEq, Nat.reduceAdd, Nat.le_refl, Nat.reduceLeDiff, p_some, ge_iff_le, List.filter_nil, Option.map_some, Int.reduceNe, Int.reduceBEq, ne_eq, not_false_eq_true, Int.reduceEq, Bool.not_true, Bool.not_false]
  refine call_is (hC _ _ _) ?_
  simp only [I, B, D, EW, cond_true, cond_false, List.length_cons, List.length_nil, ↓ k_wv, ↓ k_cl, ↓ k_clp, ↓ k_gd, ↓ k_cd, ↓ k_pk, EV, r_partO, r_rowO, r_blk4, fillA, setCells, stTags, List.take_succ_cons, List.take_zero, List.drop_succ_cons, List.drop_zero, List.nil_append, List.cons_append, List.append_nil, flat, List.contains_nil, Bool.false_eq_true, if_false, if_true, true_and, List.getElem?_cons_zero, List.getElem?_cons_succ, Nat.reduceBEq, Nat.reduceAdd, Nat.le_refl, Nat.reduceLeDiff, p_some, ge_iff_le, List.filter_nil, Option.map_some, Int.reduceNe, Int.reduceBEq, ne_eq, not_false_eq_true, Int.reduceEq, Bool.not_true, Bool.not_false]
  rfl

theorem Add.ok {fC : Nat} (hc : cFn P f = some (cc_ref01_Add fC)) (hC : Cap.Spec (Pure P) fC) : Add.Spec (Pure P) f := by
  intro a b
  refine pure_of hm hc (by show 2 ≤ 11; decide) (aw_flat (keep := []) (i := 0) ?_)
  have ha := capI_range a
  have hb := capI_range b
  simp only [cc_ref01_Add, I, B, D, EW, cond_true, cond_false, List.length_cons, List.length_nil, ↓ k_wv, ↓ k_cl, ↓ k_clp, ↓ k_gd, ↓ k_cd, ↓ k_pk, EV, r_partO, r_rowO, r_blk4, fillA, setCells, stTags, List.take_succ_cons, List.take_zero, List.drop_succ_cons, List.drop_zero, List.nil_append, List.cons_append, List.append_nil, flat, List.contains_nil, Bool.false_eq_true, if_false, if_true, true_and, List.getElem?_cons_zero, List.getElem?_cons_succ, Nat.reduceBEq, Nat.reduceAdd, Nat.le_refl, Nat.reduceLeDiff, p_some, ge_iff_le, List.filter_nil, Option.map_some, Int.reduceNe, Int.reduceBEq, ne_eq, not_false_eq_true, Int.reduceEq, Bool.not_true, Bool.not_false]
  repeat (refine call_is (hC _) ?_; simp only [I, B, D, EW, cond_true, cond_false, List.length_cons, List.length_nil, ↓ k_wv, ↓ k_cl, ↓ k_clp, ↓ k_gd, ↓ k_cd, ↓ k_pk, EV, r_partO, r_rowO, r_blk4, fillA, setCells, stTags, List.take_succ_cons, List.take_zero, List.drop_succ_cons, List.drop_zero, List.nil_append, List.cons_append, List.append_nil, flat, List.contains_nil, Bool.false_eq_true, if_false, if_true, true_and, List.getElem?_cons_zero, List.getElem?_cons_succ, Nat.reduceBEq, Nat.reduceAdd, Nat.le_refl, Nat.reduceLeDiff, p_some, ge_iff_le, List.filter_nil, Option.map_some, Int.reduceNe, Int.reduceBEq, ne_eq, not_false_eq_true, Int.reduceEq, Bool.not_true, Bool.not_false])
  rw [wrap_id (by omega) (by omega)]
  rfl

theorem Mul.ok {fC : Nat} (hc : cFn P f = some (cc_ref01_Mul fC)) (hC : Cap.Spec (Pure P) fC) : Mul.Spec (Pure P) f := by
  intro a b
  refine pure_of hm hc (by show 2 ≤ 11; decide) (aw_flat (keep := []) (i := 0) ?_)
  have ha := capI_range a
  have hb := capI_range b
  have h1 : 0 ≤ capI a * capI b := Int.mul_nonneg ha.1 hb.1
  have h2 : capI a * capI b ≤ 2147483647 * 2147483647 := Int.mul_le_mul ha.2 hb.2 hb.1 (by omega)
  simp only [cc_ref01_Mul, I, B, D, EW, cond_true, cond_false, List.length_cons, List.length_nil, ↓ k_wv, ↓ k_cl, ↓ k_clp, ↓ k_gd, ↓ k_cd, ↓ k_pk, EV, r_partO, r_rowO, r_blk4, fillA, setCells, stTags, List.take_succ_cons, List.take_zero, List.drop_succ_cons, List.drop_zero, List.nil_append, List.cons_append, List.append_nil, flat, List.contains_nil, Bool.false_eq_true, if_false, if_true, true_and, List.getElem?_cons_zero, List.getElem?_cons_succ, Nat.reduceBEq, Nat.reduceAdd, Nat.le_refl, Nat.reduceLeDiff, p_some, ge_iff_le, List.filter_nil, Option.map_some, Int.reduceNe, Int.reduceBEq, ne_eq, not_false_eq_true, Int.reduceEq, Bool.not_true, Bool.not_false]
  repeat (refine call_is (hC _) ?_; simp only [I, B, D, EW, cond_true, cond_false, List.length_cons, List.length_nil, ↓ k_wv, ↓ k_cl, ↓ k_clp, ↓ k_gd, ↓ k_cd, ↓ k_pk, EV, r_partO, r_rowO, r_blk4, fillA, setCells, stTags, List.take_succ_cons, List.take_zero, List.drop_succ_cons, List.drop_zero, List.nil_append, List.cons_append, List.append_nil, flat, List.contains_nil, Bool.false_eq_true, if_false, if_true, true_and, List.getElem?_cons_zero, List.getElem?_cons_succ, Nat.reduceBEq, Nat.reduceAdd, Nat.le_refl, Nat.reduceLeDiff, p_some, ge_iff_le, List.filter_nil, Option.map_some, Int.reduceNe, Int.reduceBEq, ne_eq, not_false_eq_true, Int.reduceEq, Bool.not_true, Bool.not_false])
  rw [wrap_id (by omega) (by omega)]
  rfl

theorem refHas.ok (hc : cFn P f = some cc_ref01_Has) : refHas.Spec (Pure P) f := by
  intro s p
  refine pure_of hm hc (by show 2 ≤ 19; decide) (aw_flat (keep := []) (i := 0) ?_)
  simp only [cc_ref01_Has, I, B, D, EW, cond_true, cond_false, List.length_cons, List.length_nil, ↓ k_wv, ↓ k_cl, ↓ k_clp, ↓ k_gd, ↓ k_cd, ↓ k_pk, EV, r_partO, r_rowO, r_blk4, fillA, setCells, stTags, List.take_succ_cons, List.take_zero, List.drop_succ_cons, List.drop_zero, List.nil_append, List.cons_append, List.append_nil, flat, List.contains_nil, Bool.false_eq_true, if_false, if_true, true_and, List.getElem?_cons_zero, List.getElem?_cons_succ, Nat.reduceBEq, Nat.reduceAdd, Nat.le_refl, Nat.reduceLeDiff, p_some, ge_iff_le, List.filter_nil, Option.map_some, Int.reduceNe, Int.reduceBEq, ne_eq, not_false_eq_true, Int.reduceEq, Bool.not_true, Bool.not_false]
  repeat' (first | (refine gd_split (fun h => ?_) (fun h => ?_) <;> try simp only [I, B, D, EW, cond_true, cond_false, List.length_cons, List.length_nil, ↓ k_wv, ↓ k_cl, ↓ k_clp, ↓ k_gd, ↓ k_cd, ↓ k_pk, EV, r_partO, r_rowO, r_blk4, fillA, setCells, stTags, List.take_succ_cons, List.take_zero, List.drop_succ_cons, List.drop_zero, List.nil_append, List.cons_append, List.append_nil, flat, List.contains_nil, Bool.false_eq_true, if_false, if_true, true_and, List.getElem?_cons_zero, List.getElem?_cons_succ, Nat.reduceBEq, Nat.reduceAdd, Nat.le_refl, Nat.reduceLeDiff, p_some, ge_iff_le, List.filter_nil, Option.map_some, Int.reduceNe, Int.reduceBEq, ne_eq, not_false_eq_true, Int.reduceEq, Bool.not_true, Bool.not_false, h]))
  · rename_i h0
    have h1 := of_decide_eq_true h
    have h2 := of_decide_eq_true h0
    have hw : IntKind.u64.wrap p = p := by
      have : p = 0 ∨ p = 1 ∨ p = 2 ∨ p = 3 ∨ p = 4 ∨ p = 5 ∨ p = 6 ∨ p = 7 := by omega
      rcases this with rfl | rfl | rfl | rfl | rfl | rfl | rfl | rfl <;> decide
    have hm : min p.toNat IntKind.i64.bits = p.toNat := by
      have : IntKind.i64.bits = 64 := rfl
      omega
    rw [hw, hm]
    exact ⟨h2, by simp [hasR, h1, h2]⟩
  · simp [hasR, h]
  · simp [hasR, h]
end
end Go.Eng
