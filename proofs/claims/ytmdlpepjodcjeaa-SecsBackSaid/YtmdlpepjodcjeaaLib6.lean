/- LIBRARY, PART 6: calls -/
import Derived.Test.YtmdlpepjodcjeaaLib5
namespace Go.Eng
set_option linter.unnecessarySimpa false
open Go
set_option linter.unusedVariables false
set_option linter.unusedSimpArgs false
set_option maxRecDepth 10000

/-- calls that are kept -/
structure Cs where
  car : Int
  foot : Int
  deriving Inhabited, DecidableEq

def Cs.cells (c : Cs) : List AV := [I c.car, I c.foot]

def carIs (green : Int) (c : Cs) (here : Int) (p : Int) (x : Ph) : Bool := !hasS green p && (hasS c.car p || x.lock && hasS here p || (x.recall == 1 || x.recall == 2))
def Step1.Spec (C : Con) (f : Nat) : Prop := ∀ (green here p : Int) (c : Cs) (x : Ph), C.c f [I p, .agg x.cells, .ref [I green], .ref c.cells, .ref [I here]] (B (carIs green c here p x)) none

def footIs (walk : Int) (c : Cs) (push : Int) (p : Int) (x : Ph) : Bool := decide (0 < x.walk) && !hasS walk p && (hasS c.foot p || hasS push p || x.recall == 3)
def wantIs (c : Cs) (held : Int) (p : Int) (x : Ph) : Bool := hasS c.car p || hasS held p || hasS c.foot p && decide (0 < x.walk)
def stepC (t : Tb) (c : Cs) (here push green walk : Int) : Cs := ⟨thoseGo (carIs green c here) t.phases 8, thoseGo (footIs walk c push) t.phases 8⟩
def wantI (t : Tb) (c : Cs) (here : Int) : Int := thoseGo (wantIs c (heldI t here)) t.phases 8
def Step2.Spec (C : Con) (f : Nat) : Prop := ∀ (walk push p : Int) (c : Cs) (x : Ph), C.c f [I p, .agg x.cells, .ref [I walk], .ref c.cells, .ref [I push]] (B (footIs walk c push p x)) none
def Want1.Spec (C : Con) (f : Nat) : Prop := ∀ (held p : Int) (c : Cs) (x : Ph), C.c f [I p, .agg x.cells, .ref c.cells, .ref [I held]] (B (wantIs c held p x)) none
def Step.Spec (C : Con) (f : Nat) : Prop := ∀ (t : Tb) (c : Cs) (here push green walk : Int), t.Ok → C.c f [.agg t.cells, .agg c.cells, I here, I push, I green, I walk] (.agg (stepC t c here push green walk).cells) none
def Want.Spec (C : Con) (f : Nat) : Prop := ∀ (t : Tb) (c : Cs) (here : Int), t.Ok → C.c f [.agg t.cells, .agg c.cells, I here] (I (wantI t c here)) none

theorem Tb.whole {t : Tb} (ht : t.Ok) : partA t.cells 0 (some 131) = some (.agg t.cells) := by
  have hl := Tb.len ht
  rw [p_some _ _ _ (by omega), List.drop_zero, ← hl, List.take_length]

section
variable {P : Program} (hm : P.follows .mixedOrders = true) {f : Nat}
include hm

theorem Step1.ok {fH : Nat} (hc : cFn P f = some (cc_calls_Step_1 fH)) (hH : setHas.Spec (Pure P) fH) : Step1.Spec (Pure P) f := by
  intro green here p c x
  refine pure_of hm hc (by show 5 ≤ 39; decide) (aw_flat (keep := []) (i := 0) ?_)
  simp only [cc_calls_Step_1, Ph.cells, Cs.cells, I, B, D, EW, cond_true, cond_false, List.length_cons, List.length_nil, ↓ k_wv, ↓ k_cl, ↓ k_clp, ↓ k_gd, ↓ k_cd, ↓ k_pk, EV, r_partO, r_rowO, r_blk4, fillA, setCells, stTags, List.take_succ_cons, List.take_zero, List.drop_succ_cons, List.drop_zero, List.nil_append, List.cons_append, List.append_nil, flat, List.contains_nil, Bool.false_eq_true, if_false, if_true, true_and, List.getElem?_cons_zero, List.getElem?_cons_succ, Nat.reduceBEq, Nat.reduceAdd, Nat.le_refl, Nat.reduceLeDiff, p_some, ge_iff_le, List.filter_nil, Option.map_some, Int.reduceNe, Int.reduceBEq, ne_eq, not_false_eq_true, Int.reduceEq, Bool.not_true, Bool.not_false]
  repeat' (first | (refine call_is (hH _ _) ?_; simp only [I, B, D, EW, cond_true, cond_false, List.length_cons, List.length_nil, ↓ k_wv, ↓ k_cl, ↓ k_clp, ↓ k_gd, ↓ k_cd, ↓ k_pk, EV, r_partO, r_rowO, r_blk4, fillA, setCells, stTags, List.take_succ_cons, List.take_zero, List.drop_succ_cons, List.drop_zero, List.nil_append, List.cons_append, List.append_nil, flat, List.contains_nil, Bool.false_eq_true, if_false, if_true, true_and, List.getElem?_cons_zero, List.getElem?_cons_succ, Nat.reduceBEq, Nat.reduceAdd, Nat.le_refl, Nat.reduceLeDiff, p_some, ge_iff_le, List.filter_nil, Option.map_some, Int.reduceNe, Int.reduceBEq, ne_eq, not_false_eq_true, Int.reduceEq, Bool.not_true, Bool.not_false]) | (refine gd_split (fun h => ?_) (fun h => ?_) <;> try simp only [I, B, D, EW, cond_true, cond_false, List.length_cons, List.length_nil, ↓ k_wv, ↓ k_cl, ↓ k_clp, ↓ k_gd, ↓ k_cd, ↓ k_pk, EV, r_partO, r_rowO, r_blk4, fillA, setCells, stTags, List.take_succ_cons, List.take_zero, List.drop_succ_cons, List.drop_zero, List.nil_append, List.cons_append, List.append_nil, flat, List.contains_nil, Bool.false_eq_true, if_false, if_true, true_and, List.getElem?_cons_zero, List.getElem?_cons_succ, Nat.reduceBEq, Nat.reduceAdd, Nat.le_refl, Nat.reduceLeDiff, p_some, ge_iff_le, List.filter_nil, Option.map_some, Int.reduceNe, Int.reduceBEq, ne_eq, not_false_eq_true, Int.reduceEq, Bool.not_true, Bool.not_false, h]))
  all_goals simp_all [carIs]

theorem Step2.ok {fH : Nat} (hc : cFn P f = some (cc_calls_Step_2 fH)) (hH : setHas.Spec (Pure P) fH) : Step2.Spec (Pure P) f := by
  intro walk push p c x
  refine pure_of hm hc (by show 5 ≤ 33; decide) (aw_flat (keep := []) (i := 0) ?_)
  simp only [cc_calls_Step_2, Ph.cells, Cs.cells, I, B, D, EW, cond_true, cond_false, List.length_cons, List.length_nil, ↓ k_wv, ↓ k_cl, ↓ k_clp, ↓ k_gd, ↓ k_cd, ↓ k_pk, EV, r_partO, r_rowO, r_blk4, fillA, setCells, stTags, List.take_succ_cons, List.take_zero, List.drop_succ_cons, List.drop_zero, List.nil_append, List.cons_append, List.append_nil, flat, List.contains_nil, Bool.false_eq_true, if_false, if_true, true_and, List.getElem?_cons_zero, List.getElem?_cons_succ, Nat.reduceBEq, Nat.reduceAdd, Nat.le_refl, Nat.reduceLeDiff, p_some, ge_iff_le, List.filter_nil, Option.map_some, Int.reduceNe, Int.reduceBEq, ne_eq, not_false_eq_true, Int.reduceEq, Bool.not_true, Bool.not_false]
  repeat' (first | (refine call_is (hH _ _) ?_; simp only [I, B, D, EW, cond_true, cond_false, List.length_cons, List.length_nil, ↓ k_wv, ↓ k_cl, ↓ k_clp, ↓ k_gd, ↓ k_cd, ↓ k_pk, EV, r_partO, r_rowO, r_blk4, fillA, setCells, stTags, List.take_succ_cons, List.take_zero, List.drop_succ_cons, List.drop_zero, List.nil_append, List.cons_append, List.append_nil, flat, List.contains_nil, Bool.false_eq_true, if_false, if_true, true_and, List.getElem?_cons_zero, List.getElem?_cons_succ, Nat.reduceBEq, Nat.reduceAdd, Nat.le_refl, Nat.reduceLeDiff, p_some, ge_iff_le, List.filter_nil, Option.map_some, Int.reduceNe, Int.reduceBEq, ne_eq, not_false_eq_true, Int.reduceEq, Bool.not_true, Bool.not_false]) | (refine gd_split (fun h => ?_) (fun h => ?_) <;> try simp only [I, B, D, EW, cond_true, cond_false, List.length_cons, List.length_nil, ↓ k_wv, ↓ k_cl, ↓ k_clp, ↓ k_gd, ↓ k_cd, ↓ k_pk, EV, r_partO, r_rowO, r_blk4, fillA, setCells, stTags, List.take_succ_cons, List.take_zero, List.drop_succ_cons, List.drop_zero, List.nil_append, List.cons_append, List.append_nil, flat, List.contains_nil, Bool.false_eq_true, if_false, if_true, true_and, List.getElem?_cons_zero, List.getElem?_cons_succ, Nat.reduceBEq, Nat.reduceAdd, Nat.le_refl, Nat.reduceLeDiff, p_some, ge_iff_le, List.filter_nil, Option.map_some, Int.reduceNe, Int.reduceBEq, ne_eq, not_false_eq_true, Int.reduceEq, Bool.not_true, Bool.not_false, h]))
  all_goals simp_all [footIs]
  all_goals (intro h'; omega)

theorem Want1.ok {fH : Nat} (hc : cFn P f = some (cc_calls_Want_1 fH)) (hH : setHas.Spec (Pure P) fH) : Want1.Spec (Pure P) f := by
  intro held p c x
  refine pure_of hm hc (by show 4 ≤ 27; decide) (aw_flat (keep := []) (i := 0) ?_)
  simp only [cc_calls_Want_1, Ph.cells, Cs.cells, I, B, D, EW, cond_true, cond_false, List.length_cons, List.length_nil, ↓ k_wv, ↓ k_cl, ↓ k_clp, ↓ k_gd, ↓ k_cd, ↓ k_pk, EV, r_partO, r_rowO, r_blk4, fillA, setCells, stTags, List.take_succ_cons, List.take_zero, List.drop_succ_cons, List.drop_zero, List.nil_append, List.cons_append, List.append_nil, flat, List.contains_nil, Bool.false_eq_true, if_false, if_true, true_and, List.getElem?_cons_zero, List.getElem?_cons_succ, Nat.reduceBEq, Nat.reduceAdd, Nat.le_refl, Nat.reduceLeDiff, p_some, ge_iff_le, List.filter_nil, Option.map_some, Int.reduceNe, Int.reduceBEq, ne_eq, not_false_eq_true, Int.reduceEq, Bool.not_true, Bool.not_false]
  repeat' (first | (refine call_is (hH _ _) ?_; simp only [I, B, D, EW, cond_true, cond_false, List.length_cons, List.length_nil, ↓ k_wv, ↓ k_cl, ↓ k_clp, ↓ k_gd, ↓ k_cd, ↓ k_pk, EV, r_partO, r_rowO, r_blk4, fillA, setCells, stTags, List.take_succ_cons, List.take_zero, List.drop_succ_cons, List.drop_zero, List.nil_append, List.cons_append, List.append_nil, flat, List.contains_nil, Bool.false_eq_true, if_false, if_true, true_and, List.getElem?_cons_zero, List.getElem?_cons_succ, Nat.reduceBEq, Nat.reduceAdd, Nat.le_refl, Nat.reduceLeDiff, p_some, ge_iff_le, List.filter_nil, Option.map_some, Int.reduceNe, Int.reduceBEq, ne_eq, not_false_eq_true, Int.reduceEq, Bool.not_true, Bool.not_false]) | (refine gd_split (fun h => ?_) (fun h => ?_) <;> try simp only [I, B, D, EW, cond_true, cond_false, List.length_cons, List.length_nil, ↓ k_wv, ↓ k_cl, ↓ k_clp, ↓ k_gd, ↓ k_cd, ↓ k_pk, EV, r_partO, r_rowO, r_blk4, fillA, setCells, stTags, List.take_succ_cons, List.take_zero, List.drop_succ_cons, List.drop_zero, List.nil_append, List.cons_append, List.append_nil, flat, List.contains_nil, Bool.false_eq_true, if_false, if_true, true_and, List.getElem?_cons_zero, List.getElem?_cons_succ, Nat.reduceBEq, Nat.reduceAdd, Nat.le_refl, Nat.reduceLeDiff, p_some, ge_iff_le, List.filter_nil, Option.map_some, Int.reduceNe, Int.reduceBEq, ne_eq, not_false_eq_true, Int.reduceEq, Bool.not_true, Bool.not_false, h]))
  all_goals simp_all [wantIs]

theorem Want.ok {fH f1 fT : Nat} (hc : cFn P f = some (cc_calls_Want fH f1 fT)) (hH : Held.Spec (Pure P) fH) (h1 : Want1.Spec (Pure P) f1) (hT : those.Spec (Pure P) fT) : Want.Spec (Pure P) f := by
  intro t c here ht
  refine pure_of hm hc (by show 3 ≤ 14; decide) (aw_flat (keep := []) (i := 0) ?_)
  have hp := Tb.whole ht
  simp only [cc_calls_Want, I, B, D, EW, cond_true, cond_false, List.length_cons, List.length_nil, ↓ k_wv, ↓ k_cl, ↓ k_clp, ↓ k_gd, ↓ k_cd, ↓ k_pk, EV, r_partO, r_rowO, r_blk4, fillA, setCells, stTags, List.take_succ_cons, List.take_zero, List.drop_succ_cons, List.drop_zero, List.nil_append, List.cons_append, List.append_nil, flat, List.contains_nil, Bool.false_eq_true, if_false, if_true, true_and, List.getElem?_cons_zero, List.getElem?_cons_succ, Nat.reduceBEq, Nat.reduceAdd, Nat.le_refl, Nat.reduceLeDiff, p_some, ge_iff_le, List.filter_nil, Option.map_some, Int.reduceNe, Int.reduceBEq, ne_eq, not_false_eq_true, Int.reduceEq, Bool.not_true, Bool.not_false, hp]
  refine call_is (hH t here ht) ?_
  simp only [I, B, D, EW, cond_true, cond_false, List.length_cons, List.length_nil, ↓ k_wv, ↓ k_cl, ↓ k_clp, ↓ k_gd, ↓ k_cd, ↓ k_pk, EV, r_partO, r_rowO, r_blk4, fillA, setCells, stTags, List.take_succ_cons, List.take_zero, List.drop_succ_cons, List.drop_zero, List.nil_append, List.cons_append, List.append_nil, flat, List.contains_nil, Bool.false_eq_true, if_false, if_true, true_and, List.getElem?_cons_zero, List.getElem?_cons_succ, Nat.reduceBEq, Nat.reduceAdd, Nat.le_refl, Nat.reduceLeDiff, p_some, ge_iff_le, List.filter_nil, Option.map_some, Int.reduceNe, Int.reduceBEq, ne_eq, not_false_eq_true, Int.reduceEq, Bool.not_true, Bool.not_false, hp]
  refine ⟨by decide, call_is (hT t f1 [.ref c.cells, .ref [I (heldI t here)]] (wantIs c (heldI t here)) ht (fun p x => h1 _ p c x)) ?_⟩
  simp only [I, B, D, EW, cond_true, cond_false, List.length_cons, List.length_nil, ↓ k_wv, ↓ k_cl, ↓ k_clp, ↓ k_gd, ↓ k_cd, ↓ k_pk, EV, r_partO, r_rowO, r_blk4, fillA, setCells, stTags, List.take_succ_cons, List.take_zero, List.drop_succ_cons, List.drop_zero, List.nil_append, List.cons_append, List.append_nil, flat, List.contains_nil, Bool.false_eq_true, if_false, if_true, true_and, List.getElem?_cons_zero, List.getElem?_cons_succ, Nat.reduceBEq, Nat.reduceAdd, Nat.le_refl, Nat.reduceLeDiff, p_some, ge_iff_le, List.filter_nil, Option.map_some, Int.reduceNe, Int.reduceBEq, ne_eq, not_false_eq_true, Int.reduceEq, Bool.not_true, Bool.not_false]
  rfl

theorem Step.ok {f1 f2 fT : Nat} (hc : cFn P f = some (cc_calls_Step f1 f2 fT)) (h1 : Step1.Spec (Pure P) f1) (h2 : Step2.Spec (Pure P) f2) (hT : those.Spec (Pure P) fT) : Step.Spec (Pure P) f := by
  intro t c here push green walk ht
  refine pure_of hm hc (by show 6 ≤ 24; decide) (aw_flat (keep := []) (i := 0) ?_)
  have hp := Tb.whole ht
  simp only [cc_calls_Step, I, B, D, EW, cond_true, cond_false, List.length_cons, List.length_nil, ↓ k_wv, ↓ k_cl, ↓ k_clp, ↓ k_gd, ↓ k_cd, ↓ k_pk, EV, r_partO, r_rowO, r_blk4, fillA, setCells, stTags, List.take_succ_cons, List.take_zero, List.drop_succ_cons, List.drop_zero, List.nil_append, List.cons_append, List.append_nil, flat, List.contains_nil, Bool.false_eq_true, if_false, if_true, true_and, List.getElem?_cons_zero, List.getElem?_cons_succ, Nat.reduceBEq, Nat.reduceAdd, Nat.le_refl, Nat.reduceLeDiff, p_some, ge_iff_le, List.filter_nil, Option.map_some, Int.reduceNe, Int.reduceBEq, ne_eq, not_false_eq_true, Int.reduceEq, Bool.not_true, Bool.not_false, hp]
  refine ⟨by decide, by decide, call_is (hT t f1 [.ref [I green], .ref c.cells, .ref [I here]] (carIs green c here) ht (fun p x => h1 _ _ p c x)) ?_⟩
  simp only [I, B, D, EW, cond_true, cond_false, List.length_cons, List.length_nil, ↓ k_wv, ↓ k_cl, ↓ k_clp, ↓ k_gd, ↓ k_cd, ↓ k_pk, EV, r_partO, r_rowO, r_blk4, fillA, setCells, stTags, List.take_succ_cons, List.take_zero, List.drop_succ_cons, List.drop_zero, List.nil_append, List.cons_append, List.append_nil, flat, List.contains_nil, Bool.false_eq_true, if_false, if_true, true_and, List.getElem?_cons_zero, List.getElem?_cons_succ, Nat.reduceBEq, Nat.reduceAdd, Nat.le_refl, Nat.reduceLeDiff, p_some, ge_iff_le, List.filter_nil, Option.map_some, Int.reduceNe, Int.reduceBEq, ne_eq, not_false_eq_true, Int.reduceEq, Bool.not_true, Bool.not_false, hp]
  refine call_is (hT t f2 [.ref [I walk], .ref c.cells, .ref [I push]] (footIs walk c push) ht (fun p x => h2 _ _ p c x)) ?_
  simp only [I, B, D, EW, cond_true, cond_false, List.length_cons, List.length_nil, ↓ k_wv, ↓ k_cl, ↓ k_clp, ↓ k_gd, ↓ k_cd, ↓ k_pk, EV, r_partO, r_rowO, r_blk4, fillA, setCells, stTags, List.take_succ_cons, List.take_zero, List.drop_succ_cons, List.drop_zero, List.nil_append, List.cons_append, List.append_nil, flat, List.contains_nil, Bool.false_eq_true, if_false, if_true, true_and, List.getElem?_cons_zero, List.getElem?_cons_succ, Nat.reduceBEq, Nat.reduceAdd, Nat.le_refl, Nat.reduceLeDiff, p_some, ge_iff_le, List.filter_nil, Option.map_some, Int.reduceNe, Int.reduceBEq, ne_eq, not_false_eq_true, Int.reduceEq, Bool.not_true, Bool.not_false, hp]
  rfl
end
end Go.Eng
