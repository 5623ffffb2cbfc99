/- LIBRARY, PART 3: sets of the program -/
import Derived.Test.YtmdlpepjodcjeaaLib2
namespace Go.Eng
set_option linter.unnecessarySimpa false
open Go
set_option linter.unusedVariables false
set_option linter.unusedSimpArgs false
set_option maxRecDepth 10000

def bitI (p : Int) : Int := if p < 0 ∨ 8 ≤ p then 0 else 2 ^ p.toNat
def hasS (s p : Int) : Bool := bAnd .i64 s (bitI p) != 0
def withS (s p : Int) : Int := bOr .i64 (bAnd .i64 s 255) (bitI p)

def bit.Spec (C : Con) (f : Nat) : Prop := ∀ p : Int, C.c f [I p] (I (bitI p)) none
def setHas.Spec (C : Con) (f : Nat) : Prop := ∀ s p : Int, C.c f [I s, I p] (B (hasS s p)) none
def setWith.Spec (C : Con) (f : Nat) : Prop := ∀ s p : Int, C.c f [I s, I p] (I (withS s p)) none

theorem shl_small {p : Int} (h0 : 0 ≤ p) (h8 : p < 8) : IntKind.i64.wrap (1 * 2 ^ min p.toNat IntKind.i64.bits) = 2 ^ p.toNat := by
  have : p = 0 ∨ p = 1 ∨ p = 2 ∨ p = 3 ∨ p = 4 ∨ p = 5 ∨ p = 6 ∨ p = 7 := by omega
  rcases this with rfl | rfl | rfl | rfl | rfl | rfl | rfl | rfl <;> decide

section
variable {P : Program} (hm : P.follows .mixedOrders = true) {f : Nat}
include hm

theorem bit.ok (hc : cFn P f = some cc_set_bit) : bit.Spec (Pure P) f := by
  intro p
  refine pure_of hm hc (by show 1 ≤ 11; decide) (aw_flat (keep := []) (i := 0) ?_)
  simp only [cc_set_bit, I, B, D, EW, cond_true, cond_false, List.length_cons, List.length_nil, ↓ k_wv, ↓ k_cl, ↓ k_clp, ↓ k_gd, ↓ k_cd, ↓ k_pk, EV, r_partO, r_rowO, r_blk4, fillA, setCells, stTags, List.take_succ_cons, List.take_zero, List.drop_succ_cons, List.drop_zero, List.nil_append, List.cons_append, List.append_nil, flat, List.contains_nil, Bool.false_eq_true, if_false, if_true, true_and, List.getElem?_cons_zero, List.getElem?_cons_succ, Nat.reduceBEq, Nat.reduceAdd, Nat.le_refl, Nat.reduceLeDiff, p_some, ge_iff_le, List.filter_nil, Option.map_some, Int.reduceNe, Int.reduceBEq, ne_eq, not_false_eq_true, Int.reduceEq]
  repeat' (first | (refine gd_split (fun h => ?_) (fun h => ?_) <;> try simp only [I, B, D, EW, cond_true, cond_false, List.length_cons, List.length_nil, ↓ k_wv, ↓ k_cl, ↓ k_clp, ↓ k_gd, ↓ k_cd, ↓ k_pk, EV, r_partO, r_rowO, r_blk4, fillA, setCells, stTags, List.take_succ_cons, List.take_zero, List.drop_succ_cons, List.drop_zero, List.nil_append, List.cons_append, List.append_nil, flat, List.contains_nil, Bool.false_eq_true, if_false, if_true, true_and, List.getElem?_cons_zero, List.getElem?_cons_succ, Nat.reduceBEq, Nat.reduceAdd, Nat.le_refl, Nat.reduceLeDiff, p_some, ge_iff_le, List.filter_nil, Option.map_some, Int.reduceNe, Int.reduceBEq, ne_eq, not_false_eq_true, Int.reduceEq, h]) | (refine cd_split (fun h => ?_) (fun h => ?_) <;> try simp only [I, B, D, EW, cond_true, cond_false, List.length_cons, List.length_nil, ↓ k_wv, ↓ k_cl, ↓ k_clp, ↓ k_gd, ↓ k_cd, ↓ k_pk, EV, r_partO, r_rowO, r_blk4, fillA, setCells, stTags, List.take_succ_cons, List.take_zero, List.drop_succ_cons, List.drop_zero, List.nil_append, List.cons_append, List.append_nil, flat, List.contains_nil, Bool.false_eq_true, if_false, if_true, true_and, List.getElem?_cons_zero, List.getElem?_cons_succ, Nat.reduceBEq, Nat.reduceAdd, Nat.le_refl, Nat.reduceLeDiff, p_some, ge_iff_le, List.filter_nil, Option.map_some, Int.reduceNe, Int.reduceBEq, ne_eq, not_false_eq_true, Int.reduceEq, h]))
  · simp only [decide_eq_true_eq] at h
    simp [bitI, h]
  · rename_i h'
    simp only [decide_eq_true_eq, decide_eq_false_iff_not] at h h'
    simp [bitI, h]
  · rename_i h'
    simp only [decide_eq_true_eq, decide_eq_false_iff_not] at h h'
    refine ⟨by omega, ?_⟩
    have hc : ¬ (p < 0 ∨ 8 ≤ p) := by omega
    rw [shl_small (by omega) (by omega)]
    simp only [bitI, hc, if_false]

theorem setHas.ok {fB : Nat} (hc : cFn P f = some (cc_set_Has fB)) (hB : bit.Spec (Pure P) fB) : setHas.Spec (Pure P) f := by
  intro s p
  refine pure_of hm hc (by show 2 ≤ 10; decide) (aw_flat (keep := []) (i := 0) ?_)
  simp only [cc_set_Has, I, B, D, EW, cond_true, cond_false, List.length_cons, List.length_nil, ↓ k_wv, ↓ k_cl, ↓ k_clp, ↓ k_gd, ↓ k_cd, ↓ k_pk, EV, r_partO, r_rowO, r_blk4, fillA, setCells, stTags, List.take_succ_cons, List.take_zero, List.drop_succ_cons, List.drop_zero, List.nil_append, List.cons_append, List.append_nil, flat, List.contains_nil, Bool.false_eq_true, if_false, if_true, true_and, List.getElem?_cons_zero, List.getElem?_cons_succ, Nat.reduceBEq, Nat.reduceAdd, Nat.le_refl, Nat.reduceLeDiff, p_some, ge_iff_le, List.filter_nil, Option.map_some, Int.reduceNe, Int.reduceBEq, ne_eq, not_false_eq_true, Int.reduceEq]
  refine call_is (hB _) ?_
  simp only [I, B, D, EW, cond_true, cond_false, List.length_cons, List.length_nil, ↓ k_wv, ↓ k_cl, ↓ k_clp, ↓ k_gd, ↓ k_cd, ↓ k_pk, EV, r_partO, r_rowO, r_blk4, fillA, setCells, stTags, List.take_succ_cons, List.take_zero, List.drop_succ_cons, List.drop_zero, List.nil_append, List.cons_append, List.append_nil, flat, List.contains_nil, Bool.false_eq_true, if_false, if_true, true_and, List.getElem?_cons_zero, List.getElem?_cons_succ, Nat.reduceBEq, Nat.reduceAdd, Nat.le_refl, Nat.reduceLeDiff, p_some, ge_iff_le, List.filter_nil, Option.map_some, Int.reduceNe, Int.reduceBEq, ne_eq, not_false_eq_true, Int.reduceEq]
  rfl

theorem setWith.ok {fB : Nat} (hc : cFn P f = some (cc_set_With fB)) (hB : bit.Spec (Pure P) fB) : setWith.Spec (Pure P) f := by
  intro s p
  refine pure_of hm hc (by show 2 ≤ 10; decide) (aw_flat (keep := []) (i := 0) ?_)
  simp only [cc_set_With, I, B, D, EW, cond_true, cond_false, List.length_cons, List.length_nil, ↓ k_wv, ↓ k_cl, ↓ k_clp, ↓ k_gd, ↓ k_cd, ↓ k_pk, EV, r_partO, r_rowO, r_blk4, fillA, setCells, stTags, List.take_succ_cons, List.take_zero, List.drop_succ_cons, List.drop_zero, List.nil_append, List.cons_append, List.append_nil, flat, List.contains_nil, Bool.false_eq_true, if_false, if_true, true_and, List.getElem?_cons_zero, List.getElem?_cons_succ, Nat.reduceBEq, Nat.reduceAdd, Nat.le_refl, Nat.reduceLeDiff, p_some, ge_iff_le, List.filter_nil, Option.map_some, Int.reduceNe, Int.reduceBEq, ne_eq, not_false_eq_true, Int.reduceEq]
  refine call_is (hB _) ?_
  simp only [I, B, D, EW, cond_true, cond_false, List.length_cons, List.length_nil, ↓ k_wv, ↓ k_cl, ↓ k_clp, ↓ k_gd, ↓ k_cd, ↓ k_pk, EV, r_partO, r_rowO, r_blk4, fillA, setCells, stTags, List.take_succ_cons, List.take_zero, List.drop_succ_cons, List.drop_zero, List.nil_append, List.cons_append, List.append_nil, flat, List.contains_nil, Bool.false_eq_true, if_false, if_true, true_and, List.getElem?_cons_zero, List.getElem?_cons_succ, Nat.reduceBEq, Nat.reduceAdd, Nat.le_refl, Nat.reduceLeDiff, p_some, ge_iff_le, List.filter_nil, Option.map_some, Int.reduceNe, Int.reduceBEq, ne_eq, not_false_eq_true, Int.reduceEq]
  rfl
end
end Go.Eng
