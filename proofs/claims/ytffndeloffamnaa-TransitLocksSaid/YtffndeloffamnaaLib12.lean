/- LIBRARY, PART 12: the reference's bounds, rest. -/
import Derived.Test.YtffndeloffamnaaLib11
namespace Go.Eng
set_option linter.unnecessarySimpa false
open Go
set_option linter.unusedVariables false
set_option linter.unusedSimpArgs false
set_option maxRecDepth 10000
set_option maxHeartbeats 4000000
def freeTo (t : Tb) (p : Int) (n : Nat) : List Int := passI t (whereR t p).1.group :: (List.range n).map fun (g : Nat) => passI t g
theorem freeTo_next (t : Tb) (p : Int) (n : Nat) : freeTo t p (n + 1) = freeTo t p n ++ [passI t n] := by simp [freeTo, List.range_succ]
def stayTo (t : Tb) (n : Nat) : List Int := (List.range n).map fun (k : Nat) => sumI [entryI t k, (rlAt t k).stay]
theorem stayTo_next (t : Tb) (n : Nat) : stayTo t (n + 1) = stayTo t n ++ [sumI [entryI t n, (rlAt t n).stay]] := by simp [stayTo, List.range_succ]
def needOf (t : Tb) (l : List Int) : List Int := l.flatMap fun p => [capI (phAt t p).min, sumI [(phAt t p).walk, (phAt t p).blinks]]
theorem needOf_next {t : Tb} {l : List Int} {i : Nat} {x : Int} (h : l[i]? = some x) : needOf t (l.take (i + 1)) = needOf t (l.take i) ++ [capI (phAt t x).min, sumI [(phAt t x).walk, (phAt t x).blinks]] := by rw [take_next h]; simp [needOf]
theorem needOf_len (t : Tb) (l : List Int) : (needOf t l).length = l.length * 2 := by
  induction l with
  | nil => rfl
  | cons x l ih => simp only [needOf, List.flatMap_cons, List.length_append, List.length_cons, List.length_nil] at ih ⊢; omega
def overI (t : Tb) : Int := if (t.rails.getD []).length = 0 then 0 else sumI [mostI (stayTo t (t.rails.getD []).length), mostI (needOf t (listS (onI t))), clearI t, t.revert, 30]
def over.Spec (C : Con) (f : Nat) : Prop := ∀ (t : Tb), t.Ok → C.c f [.agg t.cells] (I (overI t)) none
def waitI (t : Tb) (p : Int) : Int := if freeI t p = 0 ∨ (t.rails.getD []).length = 0 then freeI t p else sumI [mulI (sumI [t.share, 1]) (sumI [overI t, freeI t p, 2]), t.share]
def wait.Spec (C : Con) (f : Nat) : Prop := ∀ (t : Tb) (p : Int), t.Ok → C.c f [.agg t.cells, I p] (I (waitI t p)) none
theorem Rl.len (r : Rl) : r.cells.length = 11 := rfl
theorem rlAt_get {t : Tb} {k : Int} (h0 : 0 ≤ k) (h1 : k < ((t.rails.getD []).length : Int)) : (t.rails.getD [])[k.toNat]? = some (rlAt t k) := by
  have : k.toNat < (t.rails.getD []).length := by omega
  simp [rlAt, this]

section
variable {P : Program} (hm : P.follows .mixedOrders = true) {f : Nat}
include hm
theorem free.ok {fW fO fH fP e fs : Nat} (hc : cFn P f = some (cc_ref08_Free fW fO fH fP e fs)) (hW : where.Spec (Pure P) fW) (hO : on.Spec (Pure P) fO) (hH : refHas.Spec (Pure P) fH) (hP : pass.Spec (Pure P) fP) (hs : sum1.Spec (Pure P) fs) : free.Spec (Pure P) f := by
  intro t p ht
  have hl := Tb.len ht
  have hp := Tb.whole ht
  have hg := Tb.groups_at ht
  have hb := ht.groups
  refine pure_of hm hc (by show 2 ≤ 44; decide) (aw_flat (keep := []) (i := 0) ?_)
  try simp only [I, B, D, RW, ↓ KW, fillA, setCells, stTags, flat, Nat.reduceBEq, Nat.reduceAdd, Nat.reduceLeDiff, Int.reduceNe, Int.reduceBEq, Int.reduceEq, reduceCtorEq, Nat.reduceMul, Int.reduceLT, Int.reduceLE, Int.reduceToNat, cc_ref08_Free, hp, hl]
  refine call_is (hW t _ ht) ?_
  try simp only [I, B, D, RW, ↓ KW, fillA, setCells, stTags, flat, Nat.reduceBEq, Nat.reduceAdd, Nat.reduceLeDiff, Int.reduceNe, Int.reduceBEq, Int.reduceEq, reduceCtorEq, Nat.reduceMul, Int.reduceLT, Int.reduceLE, Int.reduceToNat, hp, Sp.cells]
  by_cases h0 : ((whereR t p).2 && hasR (onI t) p) = true
  · have hx : freeI t p = sumI (freeTo t p (t.groups.getD []).length) := if_pos h0
    simp only [Bool.and_eq_true] at h0
    try simp only [I, B, D, RW, ↓ KW, fillA, setCells, stTags, flat, Nat.reduceBEq, Nat.reduceAdd, Nat.reduceLeDiff, Int.reduceNe, Int.reduceBEq, Int.reduceEq, reduceCtorEq, Nat.reduceMul, Int.reduceLT, Int.reduceLE, Int.reduceToNat, h0, hp]
    refine call_is (hO t ht) ?_
    try simp only [I, B, D, RW, ↓ KW, fillA, setCells, stTags, flat, Nat.reduceBEq, Nat.reduceAdd, Nat.reduceLeDiff, Int.reduceNe, Int.reduceBEq, Int.reduceEq, reduceCtorEq, Nat.reduceMul, Int.reduceLT, Int.reduceLE, Int.reduceToNat]
    refine call_is (hH _ _) ?_
    try simp only [I, B, D, RW, ↓ KW, fillA, setCells, stTags, flat, Nat.reduceBEq, Nat.reduceAdd, Nat.reduceLeDiff, Int.reduceNe, Int.reduceBEq, Int.reduceEq, reduceCtorEq, Nat.reduceMul, Int.reduceLT, Int.reduceLE, Int.reduceToNat, h0, hp]
    refine call_is (hP t _ ht) ?_
    try simp only [I, B, D, RW, ↓ KW, fillA, setCells, stTags, flat, Nat.reduceBEq, Nat.reduceAdd, Nat.reduceLeDiff, Int.reduceNe, Int.reduceBEq, Int.reduceEq, reduceCtorEq, Nat.reduceMul, Int.reduceLT, Int.reduceLE, Int.reduceToNat]
    refine aw_loop' (fun k : Nat => (⟨[(8, .dat (I k) none), (2, .ptr 4 0), (7, ownSV intRow (freeTo t p k) 0)], [(4, ⟨t.cells, []⟩)], ownL (freeTo t p k) 0 e, 400⟩ : S)) (fun k => (t.groups.getD []).length - k) (fun k => k ≤ (t.groups.getD []).length) ?_ 0 (by omega) ?_
    · intro k hk A back
      have hw := wrap_succ (k := k) (by omega)
      have hne : freeTo t p k ≠ [] := by simp [freeTo]
      have hn := freeTo_next t p k
      have hlen : (freeTo t p k).length = k + 1 := by simp [freeTo]
      try simp only [I, B, D, RW, ↓ KW, fillA, setCells, stTags, flat, Nat.reduceBEq, Nat.reduceAdd, Nat.reduceLeDiff, Int.reduceNe, Int.reduceBEq, Int.reduceEq, reduceCtorEq, Nat.reduceMul, Int.reduceLT, Int.reduceLE, Int.reduceToNat, ownSV, ownL, hne, hg]
      refine cd_split (fun h => ?_) (fun h => ?_) <;> try simp only [I, B, D, RW, ↓ KW, fillA, setCells, stTags, flat, Nat.reduceBEq, Nat.reduceAdd, Nat.reduceLeDiff, Int.reduceNe, Int.reduceBEq, Int.reduceEq, reduceCtorEq, Nat.reduceMul, Int.reduceLT, Int.reduceLE, Int.reduceToNat, hp, h]
      · have : k < (t.groups.getD []).length := by have := of_decide_eq_true h; omega
        refine call_is (hP t _ ht) ?_
        try simp only [I, B, D, RW, ↓ KW, fillA, setCells, stTags, flat, Nat.reduceBEq, Nat.reduceAdd, Nat.reduceLeDiff, Int.reduceNe, Int.reduceBEq, Int.reduceEq, reduceCtorEq, Nat.reduceMul, Int.reduceLT, Int.reduceLE, Int.reduceToNat]
        refine ⟨by omega, ?_⟩
        refine back (k + 1) _ (by omega) (by omega) (le_tok2 (by decide) ?_ ?_ ?_ ?_) <;> simp [intRow, ownSV, ownL, leSlots, lv_dat, lv_tok, lv_ptr, lv_rp, lv_undef, leBoxes, leTags, leLive, tokM, tokB, tokT, ren, liveInj, r_lk, r_lkN, r_lkB, r_lkN0, I, B, D, withV_some, hn, hw, hne]
      · have : k = (t.groups.getD []).length := by have := of_decide_eq_false h; omega
        subst this
        try simp only [I, B, D, RW, ↓ KW, fillA, setCells, stTags, flat, Nat.reduceBEq, Nat.reduceAdd, Nat.reduceLeDiff, Int.reduceNe, Int.reduceBEq, Int.reduceEq, reduceCtorEq, Nat.reduceMul, Int.reduceLT, Int.reduceLE, Int.reduceToNat]
        refine call_is (hs (some (freeTo t p (t.groups.getD []).length)) (by simp; omega)) ?_
        try simp only [I, B, D, RW, ↓ KW, fillA, setCells, stTags, flat, Nat.reduceBEq, Nat.reduceAdd, Nat.reduceLeDiff, Int.reduceNe, Int.reduceBEq, Int.reduceEq, reduceCtorEq, Nat.reduceMul, Int.reduceLT, Int.reduceLE, Int.reduceToNat, hx]
        rfl
    · refine le_tok2 (by decide) ?_ ?_ ?_ ?_ <;> simp [intRow, ownSV, ownL, leSlots, lv_dat, lv_tok, lv_ptr, lv_rp, lv_undef, leBoxes, leTags, leLive, tokM, tokB, tokT, ren, liveInj, r_lk, r_lkN, r_lkB, r_lkN0, I, B, D, withV_some, freeTo]
  · have hx : freeI t p = 0 := if_neg h0
    repeat' (first | (refine call_is (hO t ht) ?_; try simp only [I, B, D, RW, ↓ KW, fillA, setCells, stTags, flat, Nat.reduceBEq, Nat.reduceAdd, Nat.reduceLeDiff, Int.reduceNe, Int.reduceBEq, Int.reduceEq, reduceCtorEq, Nat.reduceMul, Int.reduceLT, Int.reduceLE, Int.reduceToNat, hp, hx]) | (refine call_is (hH _ _) ?_; try simp only [I, B, D, RW, ↓ KW, fillA, setCells, stTags, flat, Nat.reduceBEq, Nat.reduceAdd, Nat.reduceLeDiff, Int.reduceNe, Int.reduceBEq, Int.reduceEq, reduceCtorEq, Nat.reduceMul, Int.reduceLT, Int.reduceLE, Int.reduceToNat, hp, hx]) | (refine gd_split (fun h => ?_) (fun h => ?_) <;> try simp only [I, B, D, RW, ↓ KW, fillA, setCells, stTags, flat, Nat.reduceBEq, Nat.reduceAdd, Nat.reduceLeDiff, Int.reduceNe, Int.reduceBEq, Int.reduceEq, reduceCtorEq, Nat.reduceMul, Int.reduceLT, Int.reduceLE, Int.reduceToNat, hp, hx, h]) | (refine cd_split (fun h => ?_) (fun h => ?_) <;> try simp only [I, B, D, RW, ↓ KW, fillA, setCells, stTags, flat, Nat.reduceBEq, Nat.reduceAdd, Nat.reduceLeDiff, Int.reduceNe, Int.reduceBEq, Int.reduceEq, reduceCtorEq, Nat.reduceMul, Int.reduceLT, Int.reduceLE, Int.reduceToNat, hp, hx, h]) | (refine pk_split (fun h => ?_) (fun h => ?_) <;> try simp only [I, B, D, RW, ↓ KW, fillA, setCells, stTags, flat, Nat.reduceBEq, Nat.reduceAdd, Nat.reduceLeDiff, Int.reduceNe, Int.reduceBEq, Int.reduceEq, reduceCtorEq, Nat.reduceMul, Int.reduceLT, Int.reduceLE, Int.reduceToNat, hp, hx, h]))
    all_goals simp_all

theorem entry.ok {fC e fs : Nat} (hc : cFn P f = some (cc_ref08_Entry fC e fs)) (hC : clear.Spec (Pure P) fC) (hs : sum1.Spec (Pure P) fs) : entry.Spec (Pure P) f := by
  intro t k ht
  have hl := Tb.len ht
  have hp := Tb.whole ht
  have hg := Tb.rails_at ht
  have h119 := Tb.tail_at ht 3 (by omega)
  refine pure_of hm hc (by show 2 ≤ 50; decide) (aw_flat (keep := []) (i := 0) ?_)
  try simp only [I, B, D, RW, ↓ KW, fillA, setCells, stTags, flat, Nat.reduceBEq, Nat.reduceAdd, Nat.reduceLeDiff, Int.reduceNe, Int.reduceBEq, Int.reduceEq, reduceCtorEq, Nat.reduceMul, Int.reduceLT, Int.reduceLE, Int.reduceToNat, cc_ref08_Entry, hp, hl]
  by_cases h0 : k < 0 ∨ ((t.rails.getD []).length : Int) ≤ k
  · have hx : entryI t k = 0 := if_pos h0
    repeat' (first | (refine gd_split (fun h => ?_) (fun h => ?_) <;> try simp only [I, B, D, RW, ↓ KW, fillA, setCells, stTags, flat, Nat.reduceBEq, Nat.reduceAdd, Nat.reduceLeDiff, Int.reduceNe, Int.reduceBEq, Int.reduceEq, reduceCtorEq, Nat.reduceMul, Int.reduceLT, Int.reduceLE, Int.reduceToNat, hg, hx, h]) | (refine cd_split (fun h => ?_) (fun h => ?_) <;> try simp only [I, B, D, RW, ↓ KW, fillA, setCells, stTags, flat, Nat.reduceBEq, Nat.reduceAdd, Nat.reduceLeDiff, Int.reduceNe, Int.reduceBEq, Int.reduceEq, reduceCtorEq, Nat.reduceMul, Int.reduceLT, Int.reduceLE, Int.reduceToNat, hg, hx, h]) | (refine pk_split (fun h => ?_) (fun h => ?_) <;> try simp only [I, B, D, RW, ↓ KW, fillA, setCells, stTags, flat, Nat.reduceBEq, Nat.reduceAdd, Nat.reduceLeDiff, Int.reduceNe, Int.reduceBEq, Int.reduceEq, reduceCtorEq, Nat.reduceMul, Int.reduceLT, Int.reduceLE, Int.reduceToNat, hg, hx, h]))
    simp_all
    omega
  · have hx := show entryI t k = _ from if_neg h0
    have h1 : decide (k < 0) = false := by simp; omega
    have h2 : decide (((t.rails.getD []).length : Int) ≤ k) = false := by simp; omega
    have hr := rlAt_get (t := t) (k := k) (by omega) (by omega)
    try simp only [I, B, D, RW, ↓ KW, fillA, setCells, stTags, flat, Nat.reduceBEq, Nat.reduceAdd, Nat.reduceLeDiff, Int.reduceNe, Int.reduceBEq, Int.reduceEq, reduceCtorEq, Nat.reduceMul, Int.reduceLT, Int.reduceLE, Int.reduceToNat, h1, h2, hg]
    refine ⟨by omega, ?_⟩
    try simp only [I, B, D, RW, ↓ KW, fillA, setCells, stTags, flat, Nat.reduceBEq, Nat.reduceAdd, Nat.reduceLeDiff, Int.reduceNe, Int.reduceBEq, Int.reduceEq, reduceCtorEq, Nat.reduceMul, Int.reduceLT, Int.reduceLE, Int.reduceToNat, hr, Rl.len, Rl.cells, z11_58867, hp]
    refine call_is (hC t ht) ?_
    try simp only [I, B, D, RW, ↓ KW, fillA, setCells, stTags, flat, Nat.reduceBEq, Nat.reduceAdd, Nat.reduceLeDiff, Int.reduceNe, Int.reduceBEq, Int.reduceEq, reduceCtorEq, Nat.reduceMul, Int.reduceLT, Int.reduceLE, Int.reduceToNat, h119]
    refine call_is (hs (some [_, _, _, _, _, _, _, _, _, _, _, _, _, _, _, _]) (by simp)) ?_
    try simp only [I, B, D, RW, ↓ KW, fillA, setCells, stTags, flat, Nat.reduceBEq, Nat.reduceAdd, Nat.reduceLeDiff, Int.reduceNe, Int.reduceBEq, Int.reduceEq, reduceCtorEq, Nat.reduceMul, Int.reduceLT, Int.reduceLE, Int.reduceToNat, hx]
    rfl

theorem wait.ok {fF e fs fO fM : Nat} (hc : cFn P f = some (cc_ref08_Wait fF e fs fO fM)) (hF : free.Spec (Pure P) fF) (hs : sum1.Spec (Pure P) fs) (hO : over.Spec (Pure P) fO) (hM : Mul.Spec (Pure P) fM) : wait.Spec (Pure P) f := by
  intro t p ht
  have hl := Tb.len ht
  have hp := Tb.whole ht
  have hg := Tb.rails_at ht
  have h130 := Tb.share_at ht
  refine pure_of hm hc (by show 2 ≤ 32; decide) (aw_flat (keep := []) (i := 0) ?_)
  try simp only [I, B, D, RW, ↓ KW, fillA, setCells, stTags, flat, Nat.reduceBEq, Nat.reduceAdd, Nat.reduceLeDiff, Int.reduceNe, Int.reduceBEq, Int.reduceEq, reduceCtorEq, Nat.reduceMul, Int.reduceLT, Int.reduceLE, Int.reduceToNat, cc_ref08_Wait, hp, hl]
  refine call_is (hF t _ ht) ?_
  try simp only [I, B, D, RW, ↓ KW, fillA, setCells, stTags, flat, Nat.reduceBEq, Nat.reduceAdd, Nat.reduceLeDiff, Int.reduceNe, Int.reduceBEq, Int.reduceEq, reduceCtorEq, Nat.reduceMul, Int.reduceLT, Int.reduceLE, Int.reduceToNat, hg]
  by_cases h0 : freeI t p = 0 ∨ (t.rails.getD []).length = 0
  · have hx : waitI t p = freeI t p := if_pos h0
    repeat' (first | (refine gd_split (fun h => ?_) (fun h => ?_) <;> try simp only [I, B, D, RW, ↓ KW, fillA, setCells, stTags, flat, Nat.reduceBEq, Nat.reduceAdd, Nat.reduceLeDiff, Int.reduceNe, Int.reduceBEq, Int.reduceEq, reduceCtorEq, Nat.reduceMul, Int.reduceLT, Int.reduceLE, Int.reduceToNat, hg, hx, h]) | (refine cd_split (fun h => ?_) (fun h => ?_) <;> try simp only [I, B, D, RW, ↓ KW, fillA, setCells, stTags, flat, Nat.reduceBEq, Nat.reduceAdd, Nat.reduceLeDiff, Int.reduceNe, Int.reduceBEq, Int.reduceEq, reduceCtorEq, Nat.reduceMul, Int.reduceLT, Int.reduceLE, Int.reduceToNat, hg, hx, h]) | (refine pk_split (fun h => ?_) (fun h => ?_) <;> try simp only [I, B, D, RW, ↓ KW, fillA, setCells, stTags, flat, Nat.reduceBEq, Nat.reduceAdd, Nat.reduceLeDiff, Int.reduceNe, Int.reduceBEq, Int.reduceEq, reduceCtorEq, Nat.reduceMul, Int.reduceLT, Int.reduceLE, Int.reduceToNat, hg, hx, h]))
    simp_all
  · have hx := show waitI t p = _ from if_neg h0
    have h1 : (freeI t p == 0) = false := by simp; omega
    have h2 : (((t.rails.getD []).length : Int) == 0) = false := beq_false_of_ne (by omega)
    try simp only [I, B, D, RW, ↓ KW, fillA, setCells, stTags, flat, Nat.reduceBEq, Nat.reduceAdd, Nat.reduceLeDiff, Int.reduceNe, Int.reduceBEq, Int.reduceEq, reduceCtorEq, Nat.reduceMul, Int.reduceLT, Int.reduceLE, Int.reduceToNat, h1, h2, hg, h130]
    refine call_is (hs (some [_, _]) (by simp)) ?_
    try simp only [I, B, D, RW, ↓ KW, fillA, setCells, stTags, flat, Nat.reduceBEq, Nat.reduceAdd, Nat.reduceLeDiff, Int.reduceNe, Int.reduceBEq, Int.reduceEq, reduceCtorEq, Nat.reduceMul, Int.reduceLT, Int.reduceLE, Int.reduceToNat, hp]
    refine call_is (hO t ht) ?_
    try simp only [I, B, D, RW, ↓ KW, fillA, setCells, stTags, flat, Nat.reduceBEq, Nat.reduceAdd, Nat.reduceLeDiff, Int.reduceNe, Int.reduceBEq, Int.reduceEq, reduceCtorEq, Nat.reduceMul, Int.reduceLT, Int.reduceLE, Int.reduceToNat]
    refine call_is (hs (some [_, _, _]) (by simp)) ?_
    try simp only [I, B, D, RW, ↓ KW, fillA, setCells, stTags, flat, Nat.reduceBEq, Nat.reduceAdd, Nat.reduceLeDiff, Int.reduceNe, Int.reduceBEq, Int.reduceEq, reduceCtorEq, Nat.reduceMul, Int.reduceLT, Int.reduceLE, Int.reduceToNat, hp]
    refine call_is (hM _ _) ?_
    try simp only [I, B, D, RW, ↓ KW, fillA, setCells, stTags, flat, Nat.reduceBEq, Nat.reduceAdd, Nat.reduceLeDiff, Int.reduceNe, Int.reduceBEq, Int.reduceEq, reduceCtorEq, Nat.reduceMul, Int.reduceLT, Int.reduceLE, Int.reduceToNat, h130]
    refine call_is (hs (some [_, _]) (by simp)) ?_
    try simp only [I, B, D, RW, ↓ KW, fillA, setCells, stTags, flat, Nat.reduceBEq, Nat.reduceAdd, Nat.reduceLeDiff, Int.reduceNe, Int.reduceBEq, Int.reduceEq, reduceCtorEq, Nat.reduceMul, Int.reduceLT, Int.reduceLE, Int.reduceToNat, hx]
    rfl

theorem over.ok {fE e fs fO fL fC fM fcl : Nat} (hc : cFn P f = some (cc_ref08_Over fE e fs fO fL fC fM fcl)) (hE : entry.Spec (Pure P) fE) (hs : sum1.Spec (Pure P) fs) (hO : on.Spec (Pure P) fO) (hL : refList.Spec (Pure P) fL e) (hC : Cap.Spec (Pure P) fC) (hM : most.Spec (Pure P) fM) (hcl : clear.Spec (Pure P) fcl) : over.Spec (Pure P) f := by
  intro t ht
  have hl := Tb.len ht
  have hp := Tb.whole ht
  have hg := Tb.rails_at ht
  have hb := ht.rails
  have h119 := Tb.tail_at ht 3 (by omega)
  refine pure_of hm hc (by show 1 ≤ 73; decide) (aw_flat (keep := []) (i := 0) ?_)
  try simp only [I, B, D, RW, ↓ KW, fillA, setCells, stTags, flat, Nat.reduceBEq, Nat.reduceAdd, Nat.reduceLeDiff, Int.reduceNe, Int.reduceBEq, Int.reduceEq, reduceCtorEq, Nat.reduceMul, Int.reduceLT, Int.reduceLE, Int.reduceToNat, cc_ref08_Over, hp, hl, hg]
  by_cases h0 : (t.rails.getD []).length = 0
  · have hx : overI t = 0 := if_pos h0
    repeat' (first | (refine gd_split (fun h => ?_) (fun h => ?_) <;> try simp only [I, B, D, RW, ↓ KW, fillA, setCells, stTags, flat, Nat.reduceBEq, Nat.reduceAdd, Nat.reduceLeDiff, Int.reduceNe, Int.reduceBEq, Int.reduceEq, reduceCtorEq, Nat.reduceMul, Int.reduceLT, Int.reduceLE, Int.reduceToNat, hg, hx, h]) | (refine cd_split (fun h => ?_) (fun h => ?_) <;> try simp only [I, B, D, RW, ↓ KW, fillA, setCells, stTags, flat, Nat.reduceBEq, Nat.reduceAdd, Nat.reduceLeDiff, Int.reduceNe, Int.reduceBEq, Int.reduceEq, reduceCtorEq, Nat.reduceMul, Int.reduceLT, Int.reduceLE, Int.reduceToNat, hg, hx, h]) | (refine pk_split (fun h => ?_) (fun h => ?_) <;> try simp only [I, B, D, RW, ↓ KW, fillA, setCells, stTags, flat, Nat.reduceBEq, Nat.reduceAdd, Nat.reduceLeDiff, Int.reduceNe, Int.reduceBEq, Int.reduceEq, reduceCtorEq, Nat.reduceMul, Int.reduceLT, Int.reduceLE, Int.reduceToNat, hg, hx, h]))
    simp_all
  · have hx := show overI t = _ from if_neg h0
    have h2 : (((t.rails.getD []).length : Int) == 0) = false := beq_false_of_ne (by omega)
    try simp only [I, B, D, RW, ↓ KW, fillA, setCells, stTags, flat, Nat.reduceBEq, Nat.reduceAdd, Nat.reduceLeDiff, Int.reduceNe, Int.reduceBEq, Int.reduceEq, reduceCtorEq, Nat.reduceMul, Int.reduceLT, Int.reduceLE, Int.reduceToNat, h2]
    refine aw_loop' (fun k : Nat => (⟨[(5, .dat (I k) none), (1, .ptr 4 0), (4, .dat (.nils) none), (3, ownSV intRow (stayTo t k) 0)], [(4, ⟨t.cells, []⟩)], ownL (stayTo t k) 0 e, 400⟩ : S)) (fun k => (t.rails.getD []).length - k) (fun k => k ≤ (t.rails.getD []).length) ?_ 0 (by omega) ?_
    · intro k hk A back
      have hw := wrap_succ (k := k) (by omega)
      have hn := stayTo_next t k
      have hlen : (stayTo t k).length = k := by simp [stayTo]
      by_cases hl : stayTo t k = []
      all_goals
        try simp only [I, B, D, RW, ↓ KW, fillA, setCells, stTags, flat, Nat.reduceBEq, Nat.reduceAdd, Nat.reduceLeDiff, Int.reduceNe, Int.reduceBEq, Int.reduceEq, reduceCtorEq, Nat.reduceMul, Int.reduceLT, Int.reduceLE, Int.reduceToNat, ownSV, ownL, hl, hg]
        refine cd_split (fun h => ?_) (fun h => ?_) <;> try simp only [I, B, D, RW, ↓ KW, fillA, setCells, stTags, flat, Nat.reduceBEq, Nat.reduceAdd, Nat.reduceLeDiff, Int.reduceNe, Int.reduceBEq, Int.reduceEq, reduceCtorEq, Nat.reduceMul, Int.reduceLT, Int.reduceLE, Int.reduceToNat, hp, h]
      · have : k < (t.rails.getD []).length := by have := of_decide_eq_true h; omega
        have hr := rlAt_get (t := t) (k := k) (by omega) (by omega)
        rw [Int.toNat_natCast] at hr
        refine call_is (hE t _ ht) ?_
        try simp only [I, B, D, RW, ↓ KW, fillA, setCells, stTags, flat, Nat.reduceBEq, Nat.reduceAdd, Nat.reduceLeDiff, Int.reduceNe, Int.reduceBEq, Int.reduceEq, reduceCtorEq, Nat.reduceMul, Int.reduceLT, Int.reduceLE, Int.reduceToNat, hg]
        refine ⟨by omega, ?_⟩
        try simp only [I, B, D, RW, ↓ KW, fillA, setCells, stTags, flat, Nat.reduceBEq, Nat.reduceAdd, Nat.reduceLeDiff, Int.reduceNe, Int.reduceBEq, Int.reduceEq, reduceCtorEq, Nat.reduceMul, Int.reduceLT, Int.reduceLE, Int.reduceToNat, hr, Rl.len, Rl.cells]
        refine call_is (hs (some [_, _]) (by simp)) ?_
        try simp only [I, B, D, RW, ↓ KW, fillA, setCells, stTags, flat, Nat.reduceBEq, Nat.reduceAdd, Nat.reduceLeDiff, Int.reduceNe, Int.reduceBEq, Int.reduceEq, reduceCtorEq, Nat.reduceMul, Int.reduceLT, Int.reduceLE, Int.reduceToNat]
        refine back (k + 1) _ (by omega) (by omega) (le_tok2 (by decide) ?_ ?_ ?_ ?_) <;> simp [intRow, ownSV, ownL, leSlots, lv_dat, lv_tok, lv_ptr, lv_rp, lv_undef, leBoxes, leTags, leLive, tokM, tokB, tokT, ren, liveInj, r_lk, r_lkN, r_lkB, r_lkN0, I, B, D, withV_some, hn, hw, hl]
      · exfalso
        have := of_decide_eq_false h
        rw [hl] at hlen; simp at hlen; omega
      · have : k < (t.rails.getD []).length := by have := of_decide_eq_true h; omega
        have hr := rlAt_get (t := t) (k := k) (by omega) (by omega)
        rw [Int.toNat_natCast] at hr
        refine call_is (hE t _ ht) ?_
        try simp only [I, B, D, RW, ↓ KW, fillA, setCells, stTags, flat, Nat.reduceBEq, Nat.reduceAdd, Nat.reduceLeDiff, Int.reduceNe, Int.reduceBEq, Int.reduceEq, reduceCtorEq, Nat.reduceMul, Int.reduceLT, Int.reduceLE, Int.reduceToNat, hg]
        refine ⟨by omega, ?_⟩
        try simp only [I, B, D, RW, ↓ KW, fillA, setCells, stTags, flat, Nat.reduceBEq, Nat.reduceAdd, Nat.reduceLeDiff, Int.reduceNe, Int.reduceBEq, Int.reduceEq, reduceCtorEq, Nat.reduceMul, Int.reduceLT, Int.reduceLE, Int.reduceToNat, hr, Rl.len, Rl.cells]
        refine call_is (hs (some [_, _]) (by simp)) ?_
        try simp only [I, B, D, RW, ↓ KW, fillA, setCells, stTags, flat, Nat.reduceBEq, Nat.reduceAdd, Nat.reduceLeDiff, Int.reduceNe, Int.reduceBEq, Int.reduceEq, reduceCtorEq, Nat.reduceMul, Int.reduceLT, Int.reduceLE, Int.reduceToNat]
        refine ⟨by omega, ?_⟩
        refine back (k + 1) _ (by omega) (by omega) (le_tok2 (by decide) ?_ ?_ ?_ ?_) <;> simp [intRow, ownSV, ownL, leSlots, lv_dat, lv_tok, lv_ptr, lv_rp, lv_undef, leBoxes, leTags, leLive, tokM, tokB, tokT, ren, liveInj, r_lk, r_lkN, r_lkB, r_lkN0, I, B, D, withV_some, hn, hw, hl]
      · have : k = (t.rails.getD []).length := by have := of_decide_eq_false h; omega
        subst this
        try simp only [I, B, D, RW, ↓ KW, fillA, setCells, stTags, flat, Nat.reduceBEq, Nat.reduceAdd, Nat.reduceLeDiff, Int.reduceNe, Int.reduceBEq, Int.reduceEq, reduceCtorEq, Nat.reduceMul, Int.reduceLT, Int.reduceLE, Int.reduceToNat, hp]
        refine call_is (hO t ht) ?_
        try simp only [I, B, D, RW, ↓ KW, fillA, setCells, stTags, flat, Nat.reduceBEq, Nat.reduceAdd, Nat.reduceLeDiff, Int.reduceNe, Int.reduceBEq, Int.reduceEq, reduceCtorEq, Nat.reduceMul, Int.reduceLT, Int.reduceLE, Int.reduceToNat]
        refine call_is (hL _ none (.inl rfl)) ?_
        try simp only [I, B, D, RW, ↓ KW, fillA, setCells, stTags, flat, Nat.reduceBEq, Nat.reduceAdd, Nat.reduceLeDiff, Int.reduceNe, Int.reduceBEq, Int.reduceEq, reduceCtorEq, Nat.reduceMul, Int.reduceLT, Int.reduceLE, Int.reduceToNat]
        have hlen := listS_len (onI t)
        have hrg := @listS_range (onI t)
        have hmk := mkO_getD (listS (onI t))
        generalize listS (onI t) = L at *
        have hmst : mostI (stayTo t (t.rails.getD []).length) = mostI (stayTo t (t.rails.getD []).length) := rfl
        refine aw_loop' (fun k : Nat => (⟨[(37, .dat (I k) none), (36, .dat (I L.length) none), (35, .dat (slAV intRow (mkO L)) none), (1, .ptr 4 0), (3, .dat (.sl ((stayTo t (t.rails.getD []).length).map intRow)) none), (4, ownSV intRow (needOf t (L.take k)) 0)], [(4, ⟨t.cells, []⟩)], ownL (needOf t (L.take k)) 0 e, 400⟩ : S)) (fun k => L.length - k) (fun k => k ≤ L.length) ?_ 0 (by omega) ?_
        · intro k hk A back
          have hw := wrap_succ (k := k) (by omega)
          have hln : (needOf t (L.take k)).length ≤ 16 := by rw [needOf_len]; have := List.length_take_le k L; omega
          by_cases hl : needOf t (L.take k) = []
          all_goals
            try simp only [I, B, D, RW, ↓ KW, fillA, setCells, stTags, flat, Nat.reduceBEq, Nat.reduceAdd, Nat.reduceLeDiff, Int.reduceNe, Int.reduceBEq, Int.reduceEq, reduceCtorEq, Nat.reduceMul, Int.reduceLT, Int.reduceLE, Int.reduceToNat, ownSV, ownL, hl]
            refine cd_split (fun h => ?_) (fun h => ?_) <;> try simp only [I, B, D, RW, ↓ KW, fillA, setCells, stTags, flat, Nat.reduceBEq, Nat.reduceAdd, Nat.reduceLeDiff, Int.reduceNe, Int.reduceBEq, Int.reduceEq, reduceCtorEq, Nat.reduceMul, Int.reduceLT, Int.reduceLE, Int.reduceToNat, hmk, h]
          · have hlt : k < L.length := by have := of_decide_eq_true h; omega
            obtain ⟨x, hx2⟩ : ∃ x, L[k]? = some x := ⟨_, List.getElem?_eq_getElem hlt⟩
            have hx8 := hrg (List.mem_of_getElem? hx2)
            have hph := Tb.ph_int ht hx8.1 hx8.2
            have hn := needOf_next (t := t) hx2
            refine ⟨by omega, ?_⟩
            try simp only [I, B, D, RW, ↓ KW, fillA, setCells, stTags, flat, Nat.reduceBEq, Nat.reduceAdd, Nat.reduceLeDiff, Int.reduceNe, Int.reduceBEq, Int.reduceEq, reduceCtorEq, Nat.reduceMul, Int.reduceLT, Int.reduceLE, Int.reduceToNat, hx2, intRow]
            refine ⟨by omega, ?_⟩
            try simp only [I, B, D, RW, ↓ KW, fillA, setCells, stTags, flat, Nat.reduceBEq, Nat.reduceAdd, Nat.reduceLeDiff, Int.reduceNe, Int.reduceBEq, Int.reduceEq, reduceCtorEq, Nat.reduceMul, Int.reduceLT, Int.reduceLE, Int.reduceToNat, hph]
            refine call_is (hC _) ?_
            try simp only [I, B, D, RW, ↓ KW, fillA, setCells, stTags, flat, Nat.reduceBEq, Nat.reduceAdd, Nat.reduceLeDiff, Int.reduceNe, Int.reduceBEq, Int.reduceEq, reduceCtorEq, Nat.reduceMul, Int.reduceLT, Int.reduceLE, Int.reduceToNat, hph]
            refine ⟨by omega, ?_⟩
            try simp only [I, B, D, RW, ↓ KW, fillA, setCells, stTags, flat, Nat.reduceBEq, Nat.reduceAdd, Nat.reduceLeDiff, Int.reduceNe, Int.reduceBEq, Int.reduceEq, reduceCtorEq, Nat.reduceMul, Int.reduceLT, Int.reduceLE, Int.reduceToNat, hph]
            refine ⟨by omega, ?_⟩
            try simp only [I, B, D, RW, ↓ KW, fillA, setCells, stTags, flat, Nat.reduceBEq, Nat.reduceAdd, Nat.reduceLeDiff, Int.reduceNe, Int.reduceBEq, Int.reduceEq, reduceCtorEq, Nat.reduceMul, Int.reduceLT, Int.reduceLE, Int.reduceToNat, hph]
            refine call_is (hs (some [_, _]) (by simp)) ?_
            try simp only [I, B, D, RW, ↓ KW, fillA, setCells, stTags, flat, Nat.reduceBEq, Nat.reduceAdd, Nat.reduceLeDiff, Int.reduceNe, Int.reduceBEq, Int.reduceEq, reduceCtorEq, Nat.reduceMul, Int.reduceLT, Int.reduceLE, Int.reduceToNat]
            refine back (k + 1) _ (by omega) (by omega) (le_tok2 (by decide) ?_ ?_ ?_ ?_) <;> simp [intRow, ownSV, ownL, leSlots, lv_dat, lv_tok, lv_ptr, lv_rp, lv_undef, leBoxes, leTags, leLive, tokM, tokB, tokT, ren, liveInj, r_lk, r_lkN, r_lkB, r_lkN0, I, B, D, withV_some, hn, hw, hl]
          · have : k = L.length := by have := of_decide_eq_false h; omega
            subst this
            rw [List.take_length] at hl hln
            try simp only [I, B, D, RW, ↓ KW, fillA, setCells, stTags, flat, Nat.reduceBEq, Nat.reduceAdd, Nat.reduceLeDiff, Int.reduceNe, Int.reduceBEq, Int.reduceEq, reduceCtorEq, Nat.reduceMul, Int.reduceLT, Int.reduceLE, Int.reduceToNat]
            refine call_is (hM (some _) (by simp [stayTo]; omega)) ?_
            try simp only [I, B, D, RW, ↓ KW, fillA, setCells, stTags, flat, Nat.reduceBEq, Nat.reduceAdd, Nat.reduceLeDiff, Int.reduceNe, Int.reduceBEq, Int.reduceEq, reduceCtorEq, Nat.reduceMul, Int.reduceLT, Int.reduceLE, Int.reduceToNat]
            refine call_is (hM none (by simp)) ?_
            try simp only [I, B, D, RW, ↓ KW, fillA, setCells, stTags, flat, Nat.reduceBEq, Nat.reduceAdd, Nat.reduceLeDiff, Int.reduceNe, Int.reduceBEq, Int.reduceEq, reduceCtorEq, Nat.reduceMul, Int.reduceLT, Int.reduceLE, Int.reduceToNat, hp]
            refine call_is (hcl t ht) ?_
            try simp only [I, B, D, RW, ↓ KW, fillA, setCells, stTags, flat, Nat.reduceBEq, Nat.reduceAdd, Nat.reduceLeDiff, Int.reduceNe, Int.reduceBEq, Int.reduceEq, reduceCtorEq, Nat.reduceMul, Int.reduceLT, Int.reduceLE, Int.reduceToNat, h119]
            refine call_is (hs (some [_, _, _, _, _]) (by simp)) ?_
            try simp only [I, B, D, RW, ↓ KW, fillA, setCells, stTags, flat, Nat.reduceBEq, Nat.reduceAdd, Nat.reduceLeDiff, Int.reduceNe, Int.reduceBEq, Int.reduceEq, reduceCtorEq, Nat.reduceMul, Int.reduceLT, Int.reduceLE, Int.reduceToNat, hx, hl]
            rfl
          · have hlt : k < L.length := by have := of_decide_eq_true h; omega
            obtain ⟨x, hx2⟩ : ∃ x, L[k]? = some x := ⟨_, List.getElem?_eq_getElem hlt⟩
            have hx8 := hrg (List.mem_of_getElem? hx2)
            have hph := Tb.ph_int ht hx8.1 hx8.2
            have hn := needOf_next (t := t) hx2
            refine ⟨by omega, ?_⟩
            try simp only [I, B, D, RW, ↓ KW, fillA, setCells, stTags, flat, Nat.reduceBEq, Nat.reduceAdd, Nat.reduceLeDiff, Int.reduceNe, Int.reduceBEq, Int.reduceEq, reduceCtorEq, Nat.reduceMul, Int.reduceLT, Int.reduceLE, Int.reduceToNat, hx2, intRow]
            refine ⟨by omega, ?_⟩
            try simp only [I, B, D, RW, ↓ KW, fillA, setCells, stTags, flat, Nat.reduceBEq, Nat.reduceAdd, Nat.reduceLeDiff, Int.reduceNe, Int.reduceBEq, Int.reduceEq, reduceCtorEq, Nat.reduceMul, Int.reduceLT, Int.reduceLE, Int.reduceToNat, hph]
            refine call_is (hC _) ?_
            try simp only [I, B, D, RW, ↓ KW, fillA, setCells, stTags, flat, Nat.reduceBEq, Nat.reduceAdd, Nat.reduceLeDiff, Int.reduceNe, Int.reduceBEq, Int.reduceEq, reduceCtorEq, Nat.reduceMul, Int.reduceLT, Int.reduceLE, Int.reduceToNat, hph]
            refine ⟨by omega, ?_⟩
            try simp only [I, B, D, RW, ↓ KW, fillA, setCells, stTags, flat, Nat.reduceBEq, Nat.reduceAdd, Nat.reduceLeDiff, Int.reduceNe, Int.reduceBEq, Int.reduceEq, reduceCtorEq, Nat.reduceMul, Int.reduceLT, Int.reduceLE, Int.reduceToNat, hph]
            refine ⟨by omega, ?_⟩
            try simp only [I, B, D, RW, ↓ KW, fillA, setCells, stTags, flat, Nat.reduceBEq, Nat.reduceAdd, Nat.reduceLeDiff, Int.reduceNe, Int.reduceBEq, Int.reduceEq, reduceCtorEq, Nat.reduceMul, Int.reduceLT, Int.reduceLE, Int.reduceToNat, hph]
            refine call_is (hs (some [_, _]) (by simp)) ?_
            try simp only [I, B, D, RW, ↓ KW, fillA, setCells, stTags, flat, Nat.reduceBEq, Nat.reduceAdd, Nat.reduceLeDiff, Int.reduceNe, Int.reduceBEq, Int.reduceEq, reduceCtorEq, Nat.reduceMul, Int.reduceLT, Int.reduceLE, Int.reduceToNat]
            refine ⟨by omega, ?_⟩
            refine back (k + 1) _ (by omega) (by omega) (le_tok2 (by decide) ?_ ?_ ?_ ?_) <;> simp [intRow, ownSV, ownL, leSlots, lv_dat, lv_tok, lv_ptr, lv_rp, lv_undef, leBoxes, leTags, leLive, tokM, tokB, tokT, ren, liveInj, r_lk, r_lkN, r_lkB, r_lkN0, I, B, D, withV_some, hn, hw, hl]
          · have : k = L.length := by have := of_decide_eq_false h; omega
            subst this
            rw [List.take_length] at *
            try simp only [I, B, D, RW, ↓ KW, fillA, setCells, stTags, flat, Nat.reduceBEq, Nat.reduceAdd, Nat.reduceLeDiff, Int.reduceNe, Int.reduceBEq, Int.reduceEq, reduceCtorEq, Nat.reduceMul, Int.reduceLT, Int.reduceLE, Int.reduceToNat]
            refine call_is (hM (some _) (by simp [stayTo]; omega)) ?_
            try simp only [I, B, D, RW, ↓ KW, fillA, setCells, stTags, flat, Nat.reduceBEq, Nat.reduceAdd, Nat.reduceLeDiff, Int.reduceNe, Int.reduceBEq, Int.reduceEq, reduceCtorEq, Nat.reduceMul, Int.reduceLT, Int.reduceLE, Int.reduceToNat]
            refine call_is (hM (some _) (by simp; omega)) ?_
            try simp only [I, B, D, RW, ↓ KW, fillA, setCells, stTags, flat, Nat.reduceBEq, Nat.reduceAdd, Nat.reduceLeDiff, Int.reduceNe, Int.reduceBEq, Int.reduceEq, reduceCtorEq, Nat.reduceMul, Int.reduceLT, Int.reduceLE, Int.reduceToNat, hp]
            refine call_is (hcl t ht) ?_
            try simp only [I, B, D, RW, ↓ KW, fillA, setCells, stTags, flat, Nat.reduceBEq, Nat.reduceAdd, Nat.reduceLeDiff, Int.reduceNe, Int.reduceBEq, Int.reduceEq, reduceCtorEq, Nat.reduceMul, Int.reduceLT, Int.reduceLE, Int.reduceToNat, h119]
            refine call_is (hs (some [_, _, _, _, _]) (by simp)) ?_
            try simp only [I, B, D, RW, ↓ KW, fillA, setCells, stTags, flat, Nat.reduceBEq, Nat.reduceAdd, Nat.reduceLeDiff, Int.reduceNe, Int.reduceBEq, Int.reduceEq, reduceCtorEq, Nat.reduceMul, Int.reduceLT, Int.reduceLE, Int.reduceToNat, hx, hl]
            rfl
        · refine le_tok2 (by decide) ?_ ?_ ?_ ?_ <;> simp [intRow, ownSV, ownL, leSlots, lv_dat, lv_tok, lv_ptr, lv_rp, lv_undef, leBoxes, leTags, leLive, tokM, tokB, tokT, ren, liveInj, r_lk, r_lkN, r_lkB, r_lkN0, I, B, D, withV_some, hmk, needOf]
    · refine le_tok2 (by decide) ?_ ?_ ?_ ?_ <;> simp [intRow, ownSV, ownL, leSlots, lv_dat, lv_tok, lv_ptr, lv_rp, lv_undef, leBoxes, leTags, leLive, tokM, tokB, tokT, ren, liveInj, r_lk, r_lkN, r_lkB, r_lkN0, I, B, D, withV_some, stayTo]
end

end Go.Eng
