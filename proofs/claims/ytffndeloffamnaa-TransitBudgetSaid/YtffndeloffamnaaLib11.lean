/- LIBRARY, PART 11: the reference's bounds. -/
import Derived.Test.YtffndeloffamnaaLib10
namespace Go.Eng
set_option linter.unnecessarySimpa false
open Go
set_option linter.unusedVariables false
set_option linter.unusedSimpArgs false
set_option maxRecDepth 10000
set_option maxHeartbeats 4000000
def clearI (t : Tb) : Int := mostI ((listS (onI t)).map fun p => sumI [(phAt t p).yellow, (phAt t p).red])
def clear.Spec (C : Con) (f : Nat) : Prop := ∀ (t : Tb), t.Ok → C.c f [.agg t.cells] (I (clearI t)) none
def serveI (t : Tb) (p : Int) : Int := if hasR (onI t) p then sumI [mostI [capI (phAt t p).min, sumI [(phAt t p).walk, (phAt t p).blinks], capI (phAt t p).top], t.extend, (phAt t p).yellow, (phAt t p).red, t.revert, 8] else 0
def serve.Spec (C : Con) (f : Nat) : Prop := ∀ (t : Tb) (p : Int), t.Ok → C.c f [.agg t.cells, I p] (I (serveI t p)) none
def passTo (t : Tb) (g : Int) (n : Nat) : List Int := 8 :: (((spots t).take n).filter (fun x => x.group == g)).map (fun x => serveI t x.p)
def passI (t : Tb) (g : Int) : Int := if g < 0 ∨ ((t.groups.getD []).length : Int) ≤ g then 0 else sumI (passTo t g (spots t).length)
def pass.Spec (C : Con) (f : Nat) : Prop := ∀ (t : Tb) (g : Int), t.Ok → C.c f [.agg t.cells, I g] (I (passI t g)) none
def freeI (t : Tb) (p : Int) : Int := if (whereR t p).2 && hasR (onI t) p then sumI (passI t (whereR t p).1.group :: (List.range (t.groups.getD []).length).map fun (g : Nat) => passI t g) else 0
def free.Spec (C : Con) (f : Nat) : Prop := ∀ (t : Tb) (p : Int), t.Ok → C.c f [.agg t.cells, I p] (I (freeI t p)) none
def rlAt (t : Tb) (k : Int) : Rl := (t.rails.getD []).getD k.toNat default
def entryI (t : Tb) (k : Int) : Int := if k < 0 ∨ ((t.rails.getD []).length : Int) ≤ k then 0 else
  sumI [(rlAt t k).delay, (rlAt t k).hold, (rlAt t k).green, (rlAt t k).green, (rlAt t k).foot, (rlAt t k).foot, (rlAt t k).foot, clearI t, clearI t, clearI t, clearI t, clearI t, t.revert, t.revert, t.revert, 60]
def entry.Spec (C : Con) (f : Nat) : Prop := ∀ (t : Tb) (k : Int), t.Ok → C.c f [.agg t.cells, I k] (I (entryI t k)) none

theorem hasR_range {s p : Int} (h : hasR s p = true) : 0 ≤ p ∧ p < 8 := by
  simp only [hasR, Bool.and_eq_true, decide_eq_true_eq] at h; exact h.1
theorem listS_range {s p : Int} (h : p ∈ listS s) : 0 ≤ p ∧ p < 8 := hasR_range (List.mem_filter.1 h).2
theorem listS_len (s : Int) : (listS s).length ≤ 8 := by
  have := List.length_filter_le (hasR s) ((List.range 8).map fun (k : Nat) => (k : Int))
  simpa [listS] using this
theorem mkO_getD {α : Type} (l : List α) : (mkO l).getD [] = l := by unfold mkO; split <;> simp_all
theorem map_take_next {α β : Type} {f : α → β} {l : List α} {i : Nat} {x : α} (h : l[i]? = some x) : (l.take (i + 1)).map f = (l.take i).map f ++ [f x] := by rw [take_next h]; simp

theorem passTo_next {t : Tb} {g : Int} {k : Nat} {x : Sp} (h : (spots t)[k]? = some x) : passTo t g (k + 1) = if x.group == g then passTo t g k ++ [serveI t x.p] else passTo t g k := by
  unfold passTo
  rw [take_next h, List.filter_append, List.map_append]
  by_cases hx : x.group == g <;> simp [hx]
theorem passTo_len (t : Tb) (g : Int) (k : Nat) : (passTo t g k).length ≤ k + 1 := by
  have := List.length_filter_le (fun x : Sp => x.group == g) ((spots t).take k)
  have h2 : ((spots t).take k).length ≤ k := List.length_take_le _ _
  simp only [passTo, List.length_cons, List.length_map]
  omega

section
variable {P : Program} (hm : P.follows .mixedOrders = true) {f : Nat}
include hm
theorem clear.ok {fO fL e fS fM : Nat} (hc : cFn P f = some (cc_ref08_clear fO fL e fS fM)) (hO : on.Spec (Pure P) fO) (hL : refList.Spec (Pure P) fL e) (hS : sum1.Spec (Pure P) fS) (hM : most.Spec (Pure P) fM) : clear.Spec (Pure P) f := by
  intro t ht
  have hl := Tb.len ht
  have hp := Tb.whole ht
  refine pure_of hm hc (by show 1 ≤ 32; decide) (aw_flat (keep := []) (i := 0) ?_)
  try simp only [I, B, D, RW, ↓ KW, fillA, setCells, stTags, flat, Nat.reduceBEq, Nat.reduceAdd, Nat.reduceLeDiff, Int.reduceNe, Int.reduceBEq, Int.reduceEq, reduceCtorEq, Nat.reduceMul, Int.reduceLT, Int.reduceLE, Int.reduceToNat, cc_ref08_clear, hp, hl]
  refine call_is (hO t ht) ?_
  try simp only [I, B, D, RW, ↓ KW, fillA, setCells, stTags, flat, Nat.reduceBEq, Nat.reduceAdd, Nat.reduceLeDiff, Int.reduceNe, Int.reduceBEq, Int.reduceEq, reduceCtorEq, Nat.reduceMul, Int.reduceLT, Int.reduceLE, Int.reduceToNat]
  refine call_is (hL _ none (.inl rfl)) ?_
  try simp only [I, B, D, RW, ↓ KW, fillA, setCells, stTags, flat, Nat.reduceBEq, Nat.reduceAdd, Nat.reduceLeDiff, Int.reduceNe, Int.reduceBEq, Int.reduceEq, reduceCtorEq, Nat.reduceMul, Int.reduceLT, Int.reduceLE, Int.reduceToNat]
  have hlen := listS_len (onI t)
  have hrg := @listS_range (onI t)
  have hmost : ∀ G, G = (listS (onI t)).map (fun p => sumI [(phAt t p).yellow, (phAt t p).red]) → clearI t = mostI G := fun G h => by rw [h]; rfl
  generalize listS (onI t) = L at *
  generalize hF : (fun p => sumI [(phAt t p).yellow, (phAt t p).red]) = F at *
  have hF' : ∀ p, F p = sumI [(phAt t p).yellow, (phAt t p).red] := fun p => by rw [← hF]
  have hmk := mkO_getD L
  refine aw_loop' (fun k : Nat => (⟨[(10, .dat (I k) none), (9, .dat (I L.length) none), (8, .dat (slAV intRow (mkO L)) none), (1, .ptr 4 0), (3, ownSV intRow ((L.take k).map F) 0)], [(4, ⟨t.cells, []⟩)], ownL ((L.take k).map F) 0 e, 400⟩ : S)) (fun k => L.length - k) (fun k => k ≤ L.length) ?_ 0 (by omega) ?_
  · intro k hk A back
    have hw := wrap_succ (k := k) (by omega)
    by_cases hl : (L.take k).map F = []
    all_goals
      try simp only [I, B, D, RW, ↓ KW, fillA, setCells, stTags, flat, Nat.reduceBEq, Nat.reduceAdd, Nat.reduceLeDiff, Int.reduceNe, Int.reduceBEq, Int.reduceEq, reduceCtorEq, Nat.reduceMul, Int.reduceLT, Int.reduceLE, Int.reduceToNat, ownSV, ownL, hl]
      refine cd_split (fun h => ?_) (fun h => ?_) <;> try simp only [I, B, D, RW, ↓ KW, fillA, setCells, stTags, flat, Nat.reduceBEq, Nat.reduceAdd, Nat.reduceLeDiff, Int.reduceNe, Int.reduceBEq, Int.reduceEq, reduceCtorEq, Nat.reduceMul, Int.reduceLT, Int.reduceLE, Int.reduceToNat, hmk, h]
    · have hlt : k < L.length := by have := of_decide_eq_true h; omega
      obtain ⟨x, hx⟩ : ∃ x, L[k]? = some x := ⟨_, List.getElem?_eq_getElem hlt⟩
      have hn := map_take_next (f := F) hx
      have hx8 := hrg (List.mem_of_getElem? hx)
      have hph := Tb.ph_int ht hx8.1 hx8.2
      refine ⟨by omega, ?_⟩
      try simp only [I, B, D, RW, ↓ KW, fillA, setCells, stTags, flat, Nat.reduceBEq, Nat.reduceAdd, Nat.reduceLeDiff, Int.reduceNe, Int.reduceBEq, Int.reduceEq, reduceCtorEq, Nat.reduceMul, Int.reduceLT, Int.reduceLE, Int.reduceToNat, hx, intRow]
      refine ⟨by omega, ?_⟩
      try simp only [I, B, D, RW, ↓ KW, fillA, setCells, stTags, flat, Nat.reduceBEq, Nat.reduceAdd, Nat.reduceLeDiff, Int.reduceNe, Int.reduceBEq, Int.reduceEq, reduceCtorEq, Nat.reduceMul, Int.reduceLT, Int.reduceLE, Int.reduceToNat, hph]
      refine ⟨by omega, ?_⟩
      try simp only [I, B, D, RW, ↓ KW, fillA, setCells, stTags, flat, Nat.reduceBEq, Nat.reduceAdd, Nat.reduceLeDiff, Int.reduceNe, Int.reduceBEq, Int.reduceEq, reduceCtorEq, Nat.reduceMul, Int.reduceLT, Int.reduceLE, Int.reduceToNat, hph]
      refine call_is (hS (some [(phAt t x).yellow, (phAt t x).red]) (by simp)) ?_
      try simp only [I, B, D, RW, ↓ KW, fillA, setCells, stTags, flat, Nat.reduceBEq, Nat.reduceAdd, Nat.reduceLeDiff, Int.reduceNe, Int.reduceBEq, Int.reduceEq, reduceCtorEq, Nat.reduceMul, Int.reduceLT, Int.reduceLE, Int.reduceToNat]
      refine back (k + 1) _ (by omega) (by omega) (le_tok2 (by decide) ?_ ?_ ?_ ?_) <;> simp [intRow, ownSV, ownL, leSlots, lv_dat, lv_tok, lv_ptr, lv_rp, lv_undef, leBoxes, leTags, leLive, tokM, tokB, tokT, ren, liveInj, r_lk, r_lkN, r_lkB, r_lkN0, I, B, D, withV_some, hn, hl, hw, hF']
    · have : k = L.length := by have := of_decide_eq_false h; omega
      subst this
      try simp only [I, B, D, RW, ↓ KW, fillA, setCells, stTags, flat, Nat.reduceBEq, Nat.reduceAdd, Nat.reduceLeDiff, Int.reduceNe, Int.reduceBEq, Int.reduceEq, reduceCtorEq, Nat.reduceMul, Int.reduceLT, Int.reduceLE, Int.reduceToNat]
      rw [List.take_length] at hl
      refine call_is (hM none (by simp)) ?_
      try simp only [I, B, D, RW, ↓ KW, fillA, setCells, stTags, flat, Nat.reduceBEq, Nat.reduceAdd, Nat.reduceLeDiff, Int.reduceNe, Int.reduceBEq, Int.reduceEq, reduceCtorEq, Nat.reduceMul, Int.reduceLT, Int.reduceLE, Int.reduceToNat]
      simp [hmost _ rfl, hl]
    · have hlt : k < L.length := by have := of_decide_eq_true h; omega
      obtain ⟨x, hx⟩ : ∃ x, L[k]? = some x := ⟨_, List.getElem?_eq_getElem hlt⟩
      have hn := map_take_next (f := F) hx
      have hx8 := hrg (List.mem_of_getElem? hx)
      have hph := Tb.ph_int ht hx8.1 hx8.2
      refine ⟨by omega, ?_⟩
      try simp only [I, B, D, RW, ↓ KW, fillA, setCells, stTags, flat, Nat.reduceBEq, Nat.reduceAdd, Nat.reduceLeDiff, Int.reduceNe, Int.reduceBEq, Int.reduceEq, reduceCtorEq, Nat.reduceMul, Int.reduceLT, Int.reduceLE, Int.reduceToNat, hx, intRow]
      refine ⟨by omega, ?_⟩
      try simp only [I, B, D, RW, ↓ KW, fillA, setCells, stTags, flat, Nat.reduceBEq, Nat.reduceAdd, Nat.reduceLeDiff, Int.reduceNe, Int.reduceBEq, Int.reduceEq, reduceCtorEq, Nat.reduceMul, Int.reduceLT, Int.reduceLE, Int.reduceToNat, hph]
      refine ⟨by omega, ?_⟩
      try simp only [I, B, D, RW, ↓ KW, fillA, setCells, stTags, flat, Nat.reduceBEq, Nat.reduceAdd, Nat.reduceLeDiff, Int.reduceNe, Int.reduceBEq, Int.reduceEq, reduceCtorEq, Nat.reduceMul, Int.reduceLT, Int.reduceLE, Int.reduceToNat, hph]
      refine call_is (hS (some [(phAt t x).yellow, (phAt t x).red]) (by simp)) ?_
      try simp only [I, B, D, RW, ↓ KW, fillA, setCells, stTags, flat, Nat.reduceBEq, Nat.reduceAdd, Nat.reduceLeDiff, Int.reduceNe, Int.reduceBEq, Int.reduceEq, reduceCtorEq, Nat.reduceMul, Int.reduceLT, Int.reduceLE, Int.reduceToNat]
      refine ⟨by simp; omega, ?_⟩
      refine back (k + 1) _ (by omega) (by omega) (le_tok2 (by decide) ?_ ?_ ?_ ?_) <;> simp [intRow, ownSV, ownL, leSlots, lv_dat, lv_tok, lv_ptr, lv_rp, lv_undef, leBoxes, leTags, leLive, tokM, tokB, tokT, ren, liveInj, r_lk, r_lkN, r_lkB, r_lkN0, I, B, D, withV_some, hn, hl, hw, hF']
    · have : k = L.length := by have := of_decide_eq_false h; omega
      subst this
      rw [List.take_length] at *
      try simp only [I, B, D, RW, ↓ KW, fillA, setCells, stTags, flat, Nat.reduceBEq, Nat.reduceAdd, Nat.reduceLeDiff, Int.reduceNe, Int.reduceBEq, Int.reduceEq, reduceCtorEq, Nat.reduceMul, Int.reduceLT, Int.reduceLE, Int.reduceToNat]
      refine call_is (hM (some (L.map F)) (by simp; omega)) ?_
      try simp only [I, B, D, RW, ↓ KW, fillA, setCells, stTags, flat, Nat.reduceBEq, Nat.reduceAdd, Nat.reduceLeDiff, Int.reduceNe, Int.reduceBEq, Int.reduceEq, reduceCtorEq, Nat.reduceMul, Int.reduceLT, Int.reduceLE, Int.reduceToNat]
      simp [hmost _ rfl]
  · refine le_tok2 (by decide) ?_ ?_ ?_ ?_ <;> simp [intRow, ownSV, ownL, leSlots, lv_dat, lv_tok, lv_ptr, lv_rp, lv_undef, leBoxes, leTags, leLive, tokM, tokB, tokT, ren, liveInj, r_lk, r_lkN, r_lkB, r_lkN0, I, B, D, withV_some, hmk]

theorem serve.ok {fO fH fC e fS fM : Nat} (hc : cFn P f = some (cc_ref08_Serve fO fH fC e fS fM)) (hO : on.Spec (Pure P) fO) (hH : refHas.Spec (Pure P) fH) (hC : Cap.Spec (Pure P) fC) (hS : sum1.Spec (Pure P) fS) (hM : most.Spec (Pure P) fM) : serve.Spec (Pure P) f := by
  intro t p ht
  have hl := Tb.len ht
  have hp := Tb.whole ht
  have htl := Tb.tail_at ht
  have h116 := htl 0 (by omega)
  have h119 := htl 3 (by omega)
  refine pure_of hm hc (by show 2 ≤ 39; decide) (aw_flat (keep := []) (i := 0) ?_)
  try simp only [I, B, D, RW, ↓ KW, fillA, setCells, stTags, flat, Nat.reduceBEq, Nat.reduceAdd, Nat.reduceLeDiff, Int.reduceNe, Int.reduceBEq, Int.reduceEq, reduceCtorEq, Nat.reduceMul, Int.reduceLT, Int.reduceLE, Int.reduceToNat, cc_ref08_Serve, hp, hl]
  refine call_is (hO t ht) ?_
  try simp only [I, B, D, RW, ↓ KW, fillA, setCells, stTags, flat, Nat.reduceBEq, Nat.reduceAdd, Nat.reduceLeDiff, Int.reduceNe, Int.reduceBEq, Int.reduceEq, reduceCtorEq, Nat.reduceMul, Int.reduceLT, Int.reduceLE, Int.reduceToNat]
  refine call_is (hH _ _) ?_
  try simp only [I, B, D, RW, ↓ KW, fillA, setCells, stTags, flat, Nat.reduceBEq, Nat.reduceAdd, Nat.reduceLeDiff, Int.reduceNe, Int.reduceBEq, Int.reduceEq, reduceCtorEq, Nat.reduceMul, Int.reduceLT, Int.reduceLE, Int.reduceToNat]
  by_cases h : hasR (onI t) p = true
  · have hr := hasR_range h
    have hph := Tb.ph_whole ht hr.1 hr.2
    have hx : serveI t p = sumI [mostI [capI (phAt t p).min, sumI [(phAt t p).walk, (phAt t p).blinks], capI (phAt t p).top], t.extend, (phAt t p).yellow, (phAt t p).red, t.revert, 8] := if_pos h
    generalize phAt t p = x at *
    try simp only [I, B, D, RW, ↓ KW, fillA, setCells, stTags, flat, Nat.reduceBEq, Nat.reduceAdd, Nat.reduceLeDiff, Int.reduceNe, Int.reduceBEq, Int.reduceEq, reduceCtorEq, Nat.reduceMul, Int.reduceLT, Int.reduceLE, Int.reduceToNat, h]
    refine ⟨by omega, ?_⟩
    try simp only [I, B, D, RW, ↓ KW, fillA, setCells, stTags, flat, Nat.reduceBEq, Nat.reduceAdd, Nat.reduceLeDiff, Int.reduceNe, Int.reduceBEq, Int.reduceEq, reduceCtorEq, Nat.reduceMul, Int.reduceLT, Int.reduceLE, Int.reduceToNat, hph, Ph.cells, z13_14216]
    refine call_is (hC _) ?_
    try simp only [I, B, D, RW, ↓ KW, fillA, setCells, stTags, flat, Nat.reduceBEq, Nat.reduceAdd, Nat.reduceLeDiff, Int.reduceNe, Int.reduceBEq, Int.reduceEq, reduceCtorEq, Nat.reduceMul, Int.reduceLT, Int.reduceLE, Int.reduceToNat]
    refine call_is (hS (some [x.walk, x.blinks]) (by simp)) ?_
    try simp only [I, B, D, RW, ↓ KW, fillA, setCells, stTags, flat, Nat.reduceBEq, Nat.reduceAdd, Nat.reduceLeDiff, Int.reduceNe, Int.reduceBEq, Int.reduceEq, reduceCtorEq, Nat.reduceMul, Int.reduceLT, Int.reduceLE, Int.reduceToNat]
    refine call_is (hC _) ?_
    try simp only [I, B, D, RW, ↓ KW, fillA, setCells, stTags, flat, Nat.reduceBEq, Nat.reduceAdd, Nat.reduceLeDiff, Int.reduceNe, Int.reduceBEq, Int.reduceEq, reduceCtorEq, Nat.reduceMul, Int.reduceLT, Int.reduceLE, Int.reduceToNat]
    refine call_is (hM (some [_, _, _]) (by simp)) ?_
    try simp only [I, B, D, RW, ↓ KW, fillA, setCells, stTags, flat, Nat.reduceBEq, Nat.reduceAdd, Nat.reduceLeDiff, Int.reduceNe, Int.reduceBEq, Int.reduceEq, reduceCtorEq, Nat.reduceMul, Int.reduceLT, Int.reduceLE, Int.reduceToNat, h116, h119]
    refine call_is (hS (some [_, _, _, _, _, _]) (by simp)) ?_
    try simp only [I, B, D, RW, ↓ KW, fillA, setCells, stTags, flat, Nat.reduceBEq, Nat.reduceAdd, Nat.reduceLeDiff, Int.reduceNe, Int.reduceBEq, Int.reduceEq, reduceCtorEq, Nat.reduceMul, Int.reduceLT, Int.reduceLE, Int.reduceToNat, hx]
    rfl
  · have hx : serveI t p = 0 := if_neg h
    simp only [Bool.not_eq_true] at h
    try simp only [I, B, D, RW, ↓ KW, fillA, setCells, stTags, flat, Nat.reduceBEq, Nat.reduceAdd, Nat.reduceLeDiff, Int.reduceNe, Int.reduceBEq, Int.reduceEq, reduceCtorEq, Nat.reduceMul, Int.reduceLT, Int.reduceLE, Int.reduceToNat, h, hx]
theorem pass.ok {e fS fV fs e' : Nat} (hc : cFn P f = some (cc_ref08_Pass e fS fV fs)) (hS : spots.Spec (Pure P) fS e') (hV : serve.Spec (Pure P) fV) (hs : sum1.Spec (Pure P) fs) : pass.Spec (Pure P) f := by
  intro t g ht
  have hl := Tb.len ht
  have hp := Tb.whole ht
  have hg := Tb.groups_at ht
  refine pure_of hm hc (by show 2 ≤ 39; decide) (aw_flat (keep := []) (i := 0) ?_)
  try simp only [I, B, D, RW, ↓ KW, fillA, setCells, stTags, flat, Nat.reduceBEq, Nat.reduceAdd, Nat.reduceLeDiff, Int.reduceNe, Int.reduceBEq, Int.reduceEq, reduceCtorEq, Nat.reduceMul, Int.reduceLT, Int.reduceLE, Int.reduceToNat, cc_ref08_Pass, hp, hl]
  by_cases h0 : g < 0 ∨ ((t.groups.getD []).length : Int) ≤ g
  · have hx : passI t g = 0 := if_pos h0
    repeat' (first | (refine gd_split (fun h => ?_) (fun h => ?_) <;> try simp only [I, B, D, RW, ↓ KW, fillA, setCells, stTags, flat, Nat.reduceBEq, Nat.reduceAdd, Nat.reduceLeDiff, Int.reduceNe, Int.reduceBEq, Int.reduceEq, reduceCtorEq, Nat.reduceMul, Int.reduceLT, Int.reduceLE, Int.reduceToNat, hg, hx, h]) | (refine cd_split (fun h => ?_) (fun h => ?_) <;> try simp only [I, B, D, RW, ↓ KW, fillA, setCells, stTags, flat, Nat.reduceBEq, Nat.reduceAdd, Nat.reduceLeDiff, Int.reduceNe, Int.reduceBEq, Int.reduceEq, reduceCtorEq, Nat.reduceMul, Int.reduceLT, Int.reduceLE, Int.reduceToNat, hg, hx, h]) | (refine pk_split (fun h => ?_) (fun h => ?_) <;> try simp only [I, B, D, RW, ↓ KW, fillA, setCells, stTags, flat, Nat.reduceBEq, Nat.reduceAdd, Nat.reduceLeDiff, Int.reduceNe, Int.reduceBEq, Int.reduceEq, reduceCtorEq, Nat.reduceMul, Int.reduceLT, Int.reduceLE, Int.reduceToNat, hg, hx, h]))
    simp_all
    omega
  · have hx : passI t g = sumI (passTo t g (spots t).length) := if_neg h0
    have h1 : decide (g < 0) = false := by simp; omega
    have h2 : decide (((t.groups.getD []).length : Int) ≤ g) = false := by simp; omega
    try simp only [I, B, D, RW, ↓ KW, fillA, setCells, stTags, flat, Nat.reduceBEq, Nat.reduceAdd, Nat.reduceLeDiff, Int.reduceNe, Int.reduceBEq, Int.reduceEq, reduceCtorEq, Nat.reduceMul, Int.reduceLT, Int.reduceLE, Int.reduceToNat, h1, hg, h2, hp]
    refine call_is (hS t none ht (.inl rfl)) ?_
    have hsz := spots_len ht
    have hmk := mkO_getD (spots t)
    try simp only [I, B, D, RW, ↓ KW, fillA, setCells, stTags, flat, Nat.reduceBEq, Nat.reduceAdd, Nat.reduceLeDiff, Int.reduceNe, Int.reduceBEq, Int.reduceEq, reduceCtorEq, Nat.reduceMul, Int.reduceLT, Int.reduceLE, Int.reduceToNat, hmk]
    generalize hS' : spots t = Z at *
    refine aw_loop' (fun k : Nat => (⟨[(21, .dat (I k) none), (20, .dat (I Z.length) none), (19, .dat (slAV Sp.cells (mkO Z)) none), (1, .dat (I g) none), (2, .ptr 4 0), (5, ownSV intRow (passTo t g k) 0)], [(4, ⟨t.cells, []⟩)], ownL (passTo t g k) 0 e, 400⟩ : S)) (fun k => Z.length - k) (fun k => k ≤ Z.length) ?_ 0 (by omega) ?_
    · intro k hk A back
      have hw := wrap_succ (k := k) (by omega)
      have hne : passTo t g k ≠ [] := by simp [passTo]
      try simp only [I, B, D, RW, ↓ KW, fillA, setCells, stTags, flat, Nat.reduceBEq, Nat.reduceAdd, Nat.reduceLeDiff, Int.reduceNe, Int.reduceBEq, Int.reduceEq, reduceCtorEq, Nat.reduceMul, Int.reduceLT, Int.reduceLE, Int.reduceToNat, ownSV, ownL, hne]
      refine cd_split (fun h => ?_) (fun h => ?_) <;> try simp only [I, B, D, RW, ↓ KW, fillA, setCells, stTags, flat, Nat.reduceBEq, Nat.reduceAdd, Nat.reduceLeDiff, Int.reduceNe, Int.reduceBEq, Int.reduceEq, reduceCtorEq, Nat.reduceMul, Int.reduceLT, Int.reduceLE, Int.reduceToNat, hmk, hp, h]
      · have hlt : k < Z.length := by have := of_decide_eq_true h; omega
        obtain ⟨x, hx⟩ : ∃ x, Z[k]? = some x := ⟨_, List.getElem?_eq_getElem hlt⟩
        have hn : passTo t g (k + 1) = if x.group == g then passTo t g k ++ [serveI t x.p] else passTo t g k := passTo_next (by rw [hS']; exact hx)
        have hlen := passTo_len t g k
        refine ⟨by omega, ?_⟩
        try simp only [I, B, D, RW, ↓ KW, fillA, setCells, stTags, flat, Nat.reduceBEq, Nat.reduceAdd, Nat.reduceLeDiff, Int.reduceNe, Int.reduceBEq, Int.reduceEq, reduceCtorEq, Nat.reduceMul, Int.reduceLT, Int.reduceLE, Int.reduceToNat, hx, Sp.len, Sp.cells]
        refine cd_split (fun h2 => ?_) (fun h2 => ?_) <;> try simp only [I, B, D, RW, ↓ KW, fillA, setCells, stTags, flat, Nat.reduceBEq, Nat.reduceAdd, Nat.reduceLeDiff, Int.reduceNe, Int.reduceBEq, Int.reduceEq, reduceCtorEq, Nat.reduceMul, Int.reduceLT, Int.reduceLE, Int.reduceToNat, hp, h2]
        · refine call_is (hV t _ ht) ?_
          try simp only [I, B, D, RW, ↓ KW, fillA, setCells, stTags, flat, Nat.reduceBEq, Nat.reduceAdd, Nat.reduceLeDiff, Int.reduceNe, Int.reduceBEq, Int.reduceEq, reduceCtorEq, Nat.reduceMul, Int.reduceLT, Int.reduceLE, Int.reduceToNat]
          refine ⟨by omega, ?_⟩
          refine back (k + 1) _ (by omega) (by omega) (le_tok2 (by decide) ?_ ?_ ?_ ?_) <;> simp [intRow, ownSV, ownL, leSlots, lv_dat, lv_tok, lv_ptr, lv_rp, lv_undef, leBoxes, leTags, leLive, tokM, tokB, tokT, ren, liveInj, r_lk, r_lkN, r_lkB, r_lkN0, I, B, D, withV_some, hn, hw, h2, hne]
        · refine back (k + 1) _ (by omega) (by omega) (le_tok2 (by decide) ?_ ?_ ?_ ?_) <;> simp [intRow, ownSV, ownL, leSlots, lv_dat, lv_tok, lv_ptr, lv_rp, lv_undef, leBoxes, leTags, leLive, tokM, tokB, tokT, ren, liveInj, r_lk, r_lkN, r_lkB, r_lkN0, I, B, D, withV_some, hn, hw, h2, hne]
      · have : k = Z.length := by have := of_decide_eq_false h; omega
        subst this
        have hlen := passTo_len t g Z.length
        try simp only [I, B, D, RW, ↓ KW, fillA, setCells, stTags, flat, Nat.reduceBEq, Nat.reduceAdd, Nat.reduceLeDiff, Int.reduceNe, Int.reduceBEq, Int.reduceEq, reduceCtorEq, Nat.reduceMul, Int.reduceLT, Int.reduceLE, Int.reduceToNat]
        refine call_is (hs (some (passTo t g Z.length)) (by simp; omega)) ?_
        try simp only [I, B, D, RW, ↓ KW, fillA, setCells, stTags, flat, Nat.reduceBEq, Nat.reduceAdd, Nat.reduceLeDiff, Int.reduceNe, Int.reduceBEq, Int.reduceEq, reduceCtorEq, Nat.reduceMul, Int.reduceLT, Int.reduceLE, Int.reduceToNat, hx]
        rfl
    · refine le_tok2 (by decide) ?_ ?_ ?_ ?_ <;> simp [intRow, ownSV, ownL, leSlots, lv_dat, lv_tok, lv_ptr, lv_rp, lv_undef, leBoxes, leTags, leLive, tokM, tokB, tokT, ren, liveInj, r_lk, r_lkN, r_lkB, r_lkN0, I, B, D, withV_some, passTo, hmk, serveI]
end

end Go.Eng
