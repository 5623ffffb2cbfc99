/- LIBRARY, PART 2 -/
import Derived.Test.YtmdlpepjodcjeaaLib1
namespace Go.Eng
set_option linter.unnecessarySimpa false
open Go
set_option linter.unusedVariables false
set_option linter.unusedSimpArgs false
set_option maxRecDepth 10000

def phaseOf (l : Option (List Int)) (i : Int) : Ph :=
  let min := w64 (1 + frm l i 12)
  let max := w64 (min + frm l (w64 (i + 5)) 25)
  let top := w64 (max + frm l (w64 (i + 6)) 15)
  let w := frm l (w64 (i + 7)) 2 = 1
  let walk := if w then w64 (1 + frm l (w64 (i + 8)) 10) else 0
  let blinks := if w then w64 (1 + w64 ((frm l (w64 (i + 8)) 97).tdiv 10)) else 0
  let r := frm l (w64 (i + 9)) 7
  { on := true, min := min, gap := frm l (w64 (i + 1)) 9, max := max, top := top, step := w64 (1 + frm l (w64 (i + 2)) 6), yellow := w64 (10 + frm l (w64 (i + 3)) 4), red := frm l (w64 (i + 4)) 5,
    walk := walk, blinks := blinks, recall := if r > 3 ∨ r = 3 ∧ walk = 0 then 0 else r, lock := decide (frm l (w64 (i + 10)) 3 > 0), rest := frm l (w64 (i + 11)) 4 == 1 }

def phase.Spec (C : Con) (f : Nat) : Prop := ∀ (l : Option (List Int)) (i : Int), C.c f [slAV intRow l, I i] (.agg (phaseOf l i).cells) none

section
variable {P : Program} (hm : P.follows .mixedOrders = true) {f : Nat}
include hm

theorem phase.ok {fF : Nat} (hc : cFn P f = some (cc_law00_phase fF)) (hF : from.Spec (Pure P) fF) : phase.Spec (Pure P) f := by
  intro l i
  refine pure_of hm hc (by show 2 ≤ 95; decide) (aw_flat (keep := []) (i := 0) ?_)
  simp only [cc_law00_phase, z13_14216, a_slAV, I, B, D, EW, cond_true, cond_false, List.length_cons, List.length_nil, ↓ k_wv, ↓ k_cl, ↓ k_clp, ↓ k_gd, ↓ k_cd, ↓ k_pk, EV, r_partO, r_rowO, r_blk4, fillA, setCells, stTags, List.take_succ_cons, List.take_zero, List.drop_succ_cons, List.drop_zero, List.nil_append, List.cons_append, List.append_nil, flat, List.contains_nil, Bool.false_eq_true, if_false, if_true, true_and, List.getElem?_cons_zero, List.getElem?_cons_succ, Nat.reduceBEq, Nat.reduceAdd, Nat.le_refl, Nat.reduceLeDiff, p_some, ge_iff_le, List.filter_nil, Option.map_some, Int.reduceNe, Int.reduceBEq, ne_eq, not_false_eq_true, Int.reduceEq]
  repeat' (first | (refine call_is (hF _ _ _ (by decide)) ?_; simp only [I, B, D, EW, cond_true, cond_false, List.length_cons, List.length_nil, ↓ k_wv, ↓ k_cl, ↓ k_clp, ↓ k_gd, ↓ k_cd, ↓ k_pk, EV, r_partO, r_rowO, r_blk4, fillA, setCells, stTags, List.take_succ_cons, List.take_zero, List.drop_succ_cons, List.drop_zero, List.nil_append, List.cons_append, List.append_nil, flat, List.contains_nil, Bool.false_eq_true, if_false, if_true, true_and, List.getElem?_cons_zero, List.getElem?_cons_succ, Nat.reduceBEq, Nat.reduceAdd, Nat.le_refl, Nat.reduceLeDiff, p_some, ge_iff_le, List.filter_nil, Option.map_some, Int.reduceNe, Int.reduceBEq, ne_eq, not_false_eq_true, Int.reduceEq]) | (refine gd_split (fun h => ?_) (fun h => ?_) <;> try simp only [I, B, D, EW, cond_true, cond_false, List.length_cons, List.length_nil, ↓ k_wv, ↓ k_cl, ↓ k_clp, ↓ k_gd, ↓ k_cd, ↓ k_pk, EV, r_partO, r_rowO, r_blk4, fillA, setCells, stTags, List.take_succ_cons, List.take_zero, List.drop_succ_cons, List.drop_zero, List.nil_append, List.cons_append, List.append_nil, flat, List.contains_nil, Bool.false_eq_true, if_false, if_true, true_and, List.getElem?_cons_zero, List.getElem?_cons_succ, Nat.reduceBEq, Nat.reduceAdd, Nat.le_refl, Nat.reduceLeDiff, p_some, ge_iff_le, List.filter_nil, Option.map_some, Int.reduceNe, Int.reduceBEq, ne_eq, not_false_eq_true, Int.reduceEq, h]) | (refine cd_split (fun h => ?_) (fun h => ?_) <;> try simp only [I, B, D, EW, cond_true, cond_false, List.length_cons, List.length_nil, ↓ k_wv, ↓ k_cl, ↓ k_clp, ↓ k_gd, ↓ k_cd, ↓ k_pk, EV, r_partO, r_rowO, r_blk4, fillA, setCells, stTags, List.take_succ_cons, List.take_zero, List.drop_succ_cons, List.drop_zero, List.nil_append, List.cons_append, List.append_nil, flat, List.contains_nil, Bool.false_eq_true, if_false, if_true, true_and, List.getElem?_cons_zero, List.getElem?_cons_succ, Nat.reduceBEq, Nat.reduceAdd, Nat.le_refl, Nat.reduceLeDiff, p_some, ge_iff_le, List.filter_nil, Option.map_some, Int.reduceNe, Int.reduceBEq, ne_eq, not_false_eq_true, Int.reduceEq, h]))
  all_goals simp_all [phaseOf, Ph.cells, w64]
  all_goals omega
end
end Go.Eng
