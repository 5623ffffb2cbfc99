/- LIBRARY, PART 1 -/
import Derived.Test.YtmdlpepjodcjeaaCode1
namespace Go.Eng
set_option linter.unnecessarySimpa false
open Go
set_option linter.unusedVariables false
set_option linter.unusedSimpArgs false
set_option maxRecDepth 10000

/-! ### tables by numbers -/
def place (v n : Int) : Int := if v.tmod n < 0 then w64 (v.tmod n + n) else v.tmod n
def atL (l : Option (List Int)) (i : Int) : Int := if i < 0 then 0 else ((l.getD []).getD i.toNat 0)
def frm (l : Option (List Int)) (i n : Int) : Int := place (atL l i) n

def Place.Spec (C : Con) (f : Nat) : Prop := ∀ v n : Int, 0 < n → C.c f [I v, I n] (I (place v n)) none
def At.Spec (C : Con) (f : Nat) : Prop := ∀ (l : Option (List Int)) (i : Int), C.c f [slAV intRow l, I i] (I (atL l i)) none
def from.Spec (C : Con) (f : Nat) : Prop := ∀ (l : Option (List Int)) (i n : Int), 0 < n → C.c f [slAV intRow l, I i, I n] (I (frm l i n)) none

theorem a_slAV {α : Type} (f : α → List AV) (l : Option (List α)) : argSV (slAV f l) = .dat (slAV f l) none := by cases l <;> rfl

theorem a_rows {α : Type} (f : α → List AV) (l : Option (List α)) : rowsOf (slAV f l) = some ((l.getD []).map f) := by cases l <;> rfl
theorem a_len {α : Type} (f : α → List AV) (l : Option (List α)) : lenA (slAV f l) = some (.int .i64 (l.getD []).length) := by cases l <;> simp [lenA, slAV]

section
variable {P : Program} (hm : P.follows .mixedOrders = true) {f : Nat}
include hm

theorem Place.ok (hc : cFn P f = some cc_law00_Place) : Place.Spec (Pure P) f := by
  intro v n hn
  refine pure_of hm hc (by show 2 ≤ 15; decide) (aw_flat (keep := []) (i := 0) ?_)
  have hn0 : ¬ n = 0 := by omega
  simp only [cc_law00_Place, I, B, D, EW, cond_true, cond_false, decide_eq_true_eq, decide_eq_false_iff_not, List.length_cons, List.length_nil, ↓ k_wv, ↓ k_cl, ↓ k_clp, ↓ k_gd, ↓ k_cd, ↓ k_pk, EV, flat, List.contains_nil, Bool.false_eq_true, if_false, if_true, true_and, List.getElem?_cons_zero, List.getElem?_cons_succ, Nat.reduceBEq, Nat.reduceAdd, hn0]
  refine ⟨hn0, cd_split (fun h => ?_) (fun h => ?_)⟩ <;> try simp only [I, B, D, EW, cond_true, cond_false, decide_eq_true_eq, decide_eq_false_iff_not, List.length_cons, List.length_nil, ↓ k_wv, ↓ k_cl, ↓ k_clp, ↓ k_gd, ↓ k_cd, ↓ k_pk, EV, flat, List.contains_nil, Bool.false_eq_true, if_false, if_true, true_and, List.getElem?_cons_zero, List.getElem?_cons_succ, Nat.reduceBEq, Nat.reduceAdd, h]
  · simp only [decide_eq_true_eq] at h
    simp only [place, h, if_true, w64]
  · simp only [decide_eq_false_iff_not] at h
    simp only [place, h, if_false]

theorem from.ok {fA fP : Nat} (hc : cFn P f = some (cc_law00_from fA fP)) (hA : At.Spec (Pure P) fA) (hP : Place.Spec (Pure P) fP) : from.Spec (Pure P) f := by
  intro l i n hn
  refine pure_of hm hc (by show 3 ≤ 12; decide) (aw_flat (keep := []) (i := 0) ?_)
  simp only [cc_law00_from, a_slAV, I, B, D, EW, cond_true, cond_false, decide_eq_true_eq, decide_eq_false_iff_not, List.length_cons, List.length_nil, ↓ k_wv, ↓ k_cl, ↓ k_clp, ↓ k_gd, ↓ k_cd, ↓ k_pk, EV, flat, List.contains_nil, Bool.false_eq_true, if_false, if_true, true_and, List.getElem?_cons_zero, List.getElem?_cons_succ, Nat.reduceBEq, Nat.reduceAdd]
  refine call_is (hA _ _) ?_
  simp only [I, B, D, EW, cond_true, cond_false, decide_eq_true_eq, decide_eq_false_iff_not, List.length_cons, List.length_nil, ↓ k_wv, ↓ k_cl, ↓ k_clp, ↓ k_gd, ↓ k_cd, ↓ k_pk, EV, flat, List.contains_nil, Bool.false_eq_true, if_false, if_true, true_and, List.getElem?_cons_zero, List.getElem?_cons_succ, Nat.reduceBEq, Nat.reduceAdd]
  refine call_is (hP _ _ hn) ?_
  simp only [I, B, D, EW, cond_true, cond_false, decide_eq_true_eq, decide_eq_false_iff_not, List.length_cons, List.length_nil, ↓ k_wv, ↓ k_cl, ↓ k_clp, ↓ k_gd, ↓ k_cd, ↓ k_pk, EV, flat, List.contains_nil, Bool.false_eq_true, if_false, if_true, true_and, List.getElem?_cons_zero, List.getElem?_cons_succ, Nat.reduceBEq, Nat.reduceAdd]
  rfl

theorem At.ok (hc : cFn P f = some cc_law00_At) : At.Spec (Pure P) f := by
  intro l i
  refine pure_of hm hc (by show 2 ≤ 17; decide) (aw_flat (keep := []) (i := 0) ?_)
  simp only [cc_law00_At, a_slAV, a_rows, a_len, I, B, D, EW, cond_true, cond_false, decide_eq_true_eq, decide_eq_false_iff_not, List.length_cons, List.length_nil, ↓ k_wv, ↓ k_cl, ↓ k_clp, ↓ k_gd, ↓ k_cd, ↓ k_pk, EV, flat, List.contains_nil, Bool.false_eq_true, if_false, if_true, true_and, List.getElem?_cons_zero, List.getElem?_cons_succ, Nat.reduceBEq, Nat.reduceAdd]
  repeat' (first | (refine gd_split (fun h => ?_) (fun h => ?_) <;> try simp only [a_rows, a_len, I, B, D, EW, cond_true, cond_false, decide_eq_true_eq, decide_eq_false_iff_not, List.length_cons, List.length_nil, ↓ k_wv, ↓ k_cl, ↓ k_clp, ↓ k_gd, ↓ k_cd, ↓ k_pk, EV, flat, List.contains_nil, Bool.false_eq_true, if_false, if_true, true_and, List.getElem?_cons_zero, List.getElem?_cons_succ, Nat.reduceBEq, Nat.reduceAdd, h]) | (refine cd_split (fun h => ?_) (fun h => ?_) <;> try simp only [a_rows, a_len, I, B, D, EW, cond_true, cond_false, decide_eq_true_eq, decide_eq_false_iff_not, List.length_cons, List.length_nil, ↓ k_wv, ↓ k_cl, ↓ k_clp, ↓ k_gd, ↓ k_cd, ↓ k_pk, EV, flat, List.contains_nil, Bool.false_eq_true, if_false, if_true, true_and, List.getElem?_cons_zero, List.getElem?_cons_succ, Nat.reduceBEq, Nat.reduceAdd, h]))
  · simp only [decide_eq_true_eq] at h
    simp [atL, h]
  · rename_i h'
    simp only [decide_eq_true_eq, decide_eq_false_iff_not] at h h'
    have : (l.getD []).length ≤ i.toNat := by omega
    simp [atL, h, this]
  · rename_i h'
    simp only [decide_eq_false_iff_not] at h h'
    have hlt : i.toNat < (l.getD []).length := by omega
    refine ⟨⟨by omega, by simp; omega⟩, ?_⟩
    refine wv_of (intRow ((l.getD []).getD i.toNat 0)) (by simp [hlt]) ?_
    simp only [intRow, I, B, D, EW, cond_true, cond_false, List.length_cons, List.length_nil, ↓ k_wv, ↓ k_cl, ↓ k_clp, ↓ k_gd, ↓ k_cd, ↓ k_pk, EV, true_and, List.getElem?_cons_zero, Nat.reduceBEq, Nat.reduceAdd]
    simp [atL, h']
end
end Go.Eng
