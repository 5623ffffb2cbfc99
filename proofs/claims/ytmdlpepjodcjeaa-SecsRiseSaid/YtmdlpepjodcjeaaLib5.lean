/- LIBRARY, PART 5: calls -/
import Derived.Test.YtmdlpepjodcjeaaLib4
namespace Go.Eng
set_option linter.unnecessarySimpa false
open Go
set_option linter.unusedVariables false
set_option linter.unusedSimpArgs false
set_option maxRecDepth 10000

def heldIs (here : Int) (p : Int) (x : Ph) : Bool := hasS here p || x.recall == 2
def heldI (t : Tb) (here : Int) : Int := thoseGo (heldIs here) t.phases 8
def Held1.Spec (C : Con) (f : Nat) : Prop := ∀ (here p : Int) (x : Ph), C.c f [I p, .agg x.cells, .ref [I here]] (B (heldIs here p x)) none
def Held.Spec (C : Con) (f : Nat) : Prop := ∀ (t : Tb) (here : Int), t.Ok → C.c f [.agg t.cells, I here] (I (heldI t here)) none

section
variable {P : Program} (hm : P.follows .mixedOrders = true) {f : Nat}
include hm

theorem Held1.ok {fH : Nat} (hc : cFn P f = some (cc_calls_Held_1 fH)) (hH : setHas.Spec (Pure P) fH) : Held1.Spec (Pure P) f := by
  intro here p x
  refine pure_of hm hc (by show 3 ≤ 14; decide) (aw_flat (keep := []) (i := 0) ?_)
  simp only [cc_calls_Held_1, Ph.cells, I, B, D, EW, cond_true, cond_false, List.length_cons, List.length_nil, ↓ k_wv, ↓ k_cl, ↓ k_clp, ↓ k_gd, ↓ k_cd, ↓ k_pk, EV, r_partO, r_rowO, r_blk4, fillA, setCells, stTags, List.take_succ_cons, List.take_zero, List.drop_succ_cons, List.drop_zero, List.nil_append, List.cons_append, List.append_nil, flat, List.contains_nil, Bool.false_eq_true, if_false, if_true, true_and, List.getElem?_cons_zero, List.getElem?_cons_succ, Nat.reduceBEq, Nat.reduceAdd, Nat.le_refl, Nat.reduceLeDiff, p_some, ge_iff_le, List.filter_nil, Option.map_some, Int.reduceNe, Int.reduceBEq, ne_eq, not_false_eq_true, Int.reduceEq]
  refine call_is (hH _ _) ?_
  simp only [I, B, D, EW, cond_true, cond_false, List.length_cons, List.length_nil, ↓ k_wv, ↓ k_cl, ↓ k_clp, ↓ k_gd, ↓ k_cd, ↓ k_pk, EV, r_partO, r_rowO, r_blk4, fillA, setCells, stTags, List.take_succ_cons, List.take_zero, List.drop_succ_cons, List.drop_zero, List.nil_append, List.cons_append, List.append_nil, flat, List.contains_nil, Bool.false_eq_true, if_false, if_true, true_and, List.getElem?_cons_zero, List.getElem?_cons_succ, Nat.reduceBEq, Nat.reduceAdd, Nat.le_refl, Nat.reduceLeDiff, p_some, ge_iff_le, List.filter_nil, Option.map_some, Int.reduceNe, Int.reduceBEq, ne_eq, not_false_eq_true, Int.reduceEq]
  repeat' (first | (refine gd_split (fun h => ?_) (fun h => ?_) <;> try simp only [I, B, D, EW, cond_true, cond_false, List.length_cons, List.length_nil, ↓ k_wv, ↓ k_cl, ↓ k_clp, ↓ k_gd, ↓ k_cd, ↓ k_pk, EV, r_partO, r_rowO, r_blk4, fillA, setCells, stTags, List.take_succ_cons, List.take_zero, List.drop_succ_cons, List.drop_zero, List.nil_append, List.cons_append, List.append_nil, flat, List.contains_nil, Bool.false_eq_true, if_false, if_true, true_and, List.getElem?_cons_zero, List.getElem?_cons_succ, Nat.reduceBEq, Nat.reduceAdd, Nat.le_refl, Nat.reduceLeDiff, p_some, ge_iff_le, List.filter_nil, Option.map_some, Int.reduceNe, Int.reduceBEq, ne_eq, not_false_eq_true, Int.reduceEq, h]))
  all_goals simp [heldIs, h]

theorem Held.ok {f1 fT : Nat} (hc : cFn P f = some (cc_calls_Held f1 fT)) (h1 : Held1.Spec (Pure P) f1) (hT : those.Spec (Pure P) fT) : Held.Spec (Pure P) f := by
  intro t here ht
  refine pure_of hm hc (by show 2 ≤ 8; decide) (aw_flat (keep := []) (i := 0) ?_)
  have hl := Tb.len ht
  have hp : partA t.cells 0 (some 131) = some (.agg t.cells) := by
    rw [p_some _ _ _ (by omega), List.drop_zero, ← hl, List.take_length]
  simp only [cc_calls_Held, I, B, D, EW, cond_true, cond_false, List.length_cons, List.length_nil, ↓ k_wv, ↓ k_cl, ↓ k_clp, ↓ k_gd, ↓ k_cd, ↓ k_pk, EV, r_partO, r_rowO, r_blk4, fillA, setCells, stTags, List.take_succ_cons, List.take_zero, List.drop_succ_cons, List.drop_zero, List.nil_append, List.cons_append, List.append_nil, flat, List.contains_nil, Bool.false_eq_true, if_false, if_true, true_and, List.getElem?_cons_zero, List.getElem?_cons_succ, Nat.reduceBEq, Nat.reduceAdd, Nat.le_refl, Nat.reduceLeDiff, p_some, ge_iff_le, List.filter_nil, Option.map_some, Int.reduceNe, Int.reduceBEq, ne_eq, not_false_eq_true, Int.reduceEq, hp]
  refine ⟨by decide, call_is (hT t f1 [.ref [I here]] (heldIs here) ht (fun p x => h1 here p x)) ?_⟩
  simp only [I, B, D, EW, cond_true, cond_false, List.length_cons, List.length_nil, ↓ k_wv, ↓ k_cl, ↓ k_clp, ↓ k_gd, ↓ k_cd, ↓ k_pk, EV, r_partO, r_rowO, r_blk4, fillA, setCells, stTags, List.take_succ_cons, List.take_zero, List.drop_succ_cons, List.drop_zero, List.nil_append, List.cons_append, List.append_nil, flat, List.contains_nil, Bool.false_eq_true, if_false, if_true, true_and, List.getElem?_cons_zero, List.getElem?_cons_succ, Nat.reduceBEq, Nat.reduceAdd, Nat.le_refl, Nat.reduceLeDiff, p_some, ge_iff_le, List.filter_nil, Option.map_some, Int.reduceNe, Int.reduceBEq, ne_eq, not_false_eq_true, Int.reduceEq]
  rfl
end
end Go.Eng
