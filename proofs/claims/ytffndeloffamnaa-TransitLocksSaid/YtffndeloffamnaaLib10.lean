/- LIBRARY, PART 10: the reference's sums over tables. -/
import Derived.Test.YtffndeloffamnaaLib9
namespace Go.Eng
set_option linter.unnecessarySimpa false
open Go
set_option linter.unusedVariables false
set_option linter.unusedSimpArgs false
set_option maxRecDepth 10000
set_option maxHeartbeats 4000000
def sumI (l : List Int) : Int := l.foldl addI 0
def mostI (l : List Int) : Int := l.foldl (fun n x => if x > n then x else n) 0
theorem fold_next {α β : Type} {f : β → α → β} {b : β} {l : List α} {i : Nat} {x : α} (h : l[i]? = some x) : (l.take (i + 1)).foldl f b = f ((l.take i).foldl f b) x := by
  rw [take_next h, List.foldl_append]; rfl

def sum1.Spec (C : Con) (f : Nat) : Prop := ∀ l : Option (List Int), (l.getD []).length ≤ 140737488355328 → C.c f [slAV intRow l] (I (sumI (l.getD []))) none
def most.Spec (C : Con) (f : Nat) : Prop := ∀ l : Option (List Int), (l.getD []).length ≤ 140737488355328 → C.c f [slAV intRow l] (I (mostI (l.getD []))) none

def whereR (t : Tb) (p : Int) : Sp × Bool := match (spots t).find? (fun x => x.p == p) with
  | some x => (x, true)
  | none => (⟨0, 0, 0, 0⟩, false)
def where.Spec (C : Con) (f : Nat) : Prop := ∀ (t : Tb) (p : Int), t.Ok → C.c f [.agg t.cells, I p] (.tup [.agg (whereR t p).1.cells, B (whereR t p).2]) none
def besideR (t : Tb) (p q : Int) : Bool := (whereR t p).2 && (whereR t q).2 && (whereR t p).1.group == (whereR t q).1.group && (whereR t p).1.ring != (whereR t q).1.ring
def beside.Spec (C : Con) (f : Nat) : Prop := ∀ (t : Tb) (p q : Int), t.Ok → C.c f [.agg t.cells, I p, I q] (B (besideR t p q)) none

def phAt (t : Tb) (p : Int) : Ph := t.phases.getD p.toNat default
def onTo (t : Tb) (k : Nat) : List Int := ((List.range k).map fun (k : Nat) => (k : Int)).filter fun p => (phAt t p).on
def onI (t : Tb) : Int := ofI (onTo t 8)
def on.Spec (C : Con) (f : Nat) : Prop := ∀ (t : Tb), t.Ok → C.c f [.agg t.cells] (I (onI t)) none
theorem onTo_succ (t : Tb) (k : Nat) : onTo t (k + 1) = if (phAt t k).on then onTo t k ++ [(k : Int)] else onTo t k := by
  simp only [onTo, List.range_succ, List.map_append, List.filter_append, List.map_cons, List.map_nil, List.filter_cons, List.filter_nil]
  split <;> simp
theorem phAt_get {t : Tb} (h : t.Ok) {k : Nat} (hk : k < 8) : t.phases[k]? = some (phAt t k) := by
  have : k < t.phases.length := by rw [h.phases]; exact hk
  simp [phAt, this]

theorem Tb.ph_int {t : Tb} (ht : t.Ok) {x : Int} (h0 : 0 ≤ x) (h8 : x < 8) : t.cells[x.toNat * 13]? = some (B (phAt t x).on) ∧ t.cells[x.toNat * 13 + 1]? = some (I (phAt t x).min) ∧ t.cells[x.toNat * 13 + 2]? = some (I (phAt t x).gap) ∧ t.cells[x.toNat * 13 + 3]? = some (I (phAt t x).max) ∧ t.cells[x.toNat * 13 + 4]? = some (I (phAt t x).top) ∧ t.cells[x.toNat * 13 + 5]? = some (I (phAt t x).step) ∧ t.cells[x.toNat * 13 + 6]? = some (I (phAt t x).yellow) ∧ t.cells[x.toNat * 13 + 7]? = some (I (phAt t x).red) ∧ t.cells[x.toNat * 13 + 8]? = some (I (phAt t x).walk) ∧ t.cells[x.toNat * 13 + 9]? = some (I (phAt t x).blinks) ∧ t.cells[x.toNat * 13 + 10]? = some (I (phAt t x).recall) ∧ t.cells[x.toNat * 13 + 11]? = some (B (phAt t x).lock) ∧ t.cells[x.toNat * 13 + 12]? = some (B (phAt t x).rest) := by
  have := Tb.ph_all (phAt_get ht (k := x.toNat) (by omega))
  rw [Int.toNat_of_nonneg h0] at this
  exact this
theorem Tb.ph_whole {t : Tb} (ht : t.Ok) {x : Int} (h0 : 0 ≤ x) (h8 : x < 8) : partA t.cells (x.toNat * 13) (some 13) = some (.agg (phAt t x).cells) := by
  have := Tb.phase_part (phAt_get ht (k := x.toNat) (by omega))
  rw [Int.toNat_of_nonneg h0] at this
  exact this

theorem find_at {α : Type} {p : α → Bool} {l : List α} {i : Nat} {x : α} (h : l[i]? = some x) (hp : p x = true) (hn : ∀ y ∈ l.take i, p y = false) : l.find? p = some x := by
  rw [list_at h, List.find?_append]
  have : (l.take i).find? p = none := by rw [List.find?_eq_none]; intro y hy; simp [hn y hy]
  simp [this, hp]

section
variable {P : Program} (hm : P.follows .mixedOrders = true) {f : Nat}
include hm
theorem Sum.ok {fA : Nat} (hc : cFn P f = some (cc_ref01_Sum fA)) (hA : Add.Spec (Pure P) fA) : sum1.Spec (Pure P) f := by
  intro l hlen
  refine pure_of hm hc (by show 1 ≤ 18; decide) (aw_flat (keep := []) (i := 0) ?_)
  try simp only [I, B, D, RW, ↓ KW, fillA, setCells, stTags, flat, Nat.reduceBEq, Nat.reduceAdd, Nat.reduceLeDiff, Int.reduceNe, Int.reduceBEq, Int.reduceEq, reduceCtorEq, Nat.reduceMul, Int.reduceLT, Int.reduceLE, Int.reduceToNat, cc_ref01_Sum]
  refine aw_loop' (fun i : Nat => (⟨[(4, .dat (I i) none), (0, .dat (slAV intRow l) none), (3, .dat (I (sumI ((l.getD []).take i))) none)], [], [], 400⟩ : S)) (fun i => (l.getD []).length - i) (fun i => i ≤ (l.getD []).length) ?_ 0 (by omega) ?_
  · intro i hi A back
    have hw := wrap_succ (k := i) (by omega)
    try simp only [I, B, D, RW, ↓ KW, fillA, setCells, stTags, flat, Nat.reduceBEq, Nat.reduceAdd, Nat.reduceLeDiff, Int.reduceNe, Int.reduceBEq, Int.reduceEq, reduceCtorEq, Nat.reduceMul, Int.reduceLT, Int.reduceLE, Int.reduceToNat]
    refine cd_split (fun h => ?_) (fun h => ?_) <;> try simp only [I, B, D, RW, ↓ KW, fillA, setCells, stTags, flat, Nat.reduceBEq, Nat.reduceAdd, Nat.reduceLeDiff, Int.reduceNe, Int.reduceBEq, Int.reduceEq, reduceCtorEq, Nat.reduceMul, Int.reduceLT, Int.reduceLE, Int.reduceToNat, h]
    · have hlt : i < (l.getD []).length := by have := of_decide_eq_true h; omega
      obtain ⟨x, hx⟩ : ∃ x, (l.getD [])[i]? = some x := ⟨_, List.getElem?_eq_getElem hlt⟩
      have hn : sumI ((l.getD []).take (i + 1)) = addI (sumI ((l.getD []).take i)) x := fold_next hx
      refine ⟨by omega, ?_⟩
      try simp only [I, B, D, RW, ↓ KW, fillA, setCells, stTags, flat, Nat.reduceBEq, Nat.reduceAdd, Nat.reduceLeDiff, Int.reduceNe, Int.reduceBEq, Int.reduceEq, reduceCtorEq, Nat.reduceMul, Int.reduceLT, Int.reduceLE, Int.reduceToNat, hx, intRow]
      refine call_is (hA _ _) ?_
      try simp only [I, B, D, RW, ↓ KW, fillA, setCells, stTags, flat, Nat.reduceBEq, Nat.reduceAdd, Nat.reduceLeDiff, Int.reduceNe, Int.reduceBEq, Int.reduceEq, reduceCtorEq, Nat.reduceMul, Int.reduceLT, Int.reduceLE, Int.reduceToNat]
      refine back (i + 1) _ (by omega) (by omega) (le_tok2 (by decide) ?_ ?_ ?_ ?_) <;> simp [intRow, ownSV, ownL, leSlots, lv_dat, lv_tok, lv_ptr, lv_rp, lv_undef, leBoxes, leTags, leLive, tokM, tokB, tokT, ren, liveInj, r_lk, r_lkN, r_lkB, r_lkN0, I, B, D, withV_some, hw, hn]
    · have : i = (l.getD []).length := by have := of_decide_eq_false h; omega
      subst this
      simp
  · refine le_tok2 (by decide) ?_ ?_ ?_ ?_ <;> simp [intRow, ownSV, ownL, leSlots, lv_dat, lv_tok, lv_ptr, lv_rp, lv_undef, leBoxes, leTags, leLive, tokM, tokB, tokT, ren, liveInj, r_lk, r_lkN, r_lkB, r_lkN0, I, B, D, withV_some, sumI]
theorem sum1.ok {fS : Nat} (hc : cFn P f = some (cc_ref08_sum fS)) (hS : sum1.Spec (Pure P) fS) : sum1.Spec (Pure P) f := by
  intro l hlen
  refine pure_of hm hc (by show 1 ≤ 5; decide) (aw_flat (keep := []) (i := 0) ?_)
  try simp only [I, B, D, RW, ↓ KW, fillA, setCells, stTags, flat, Nat.reduceBEq, Nat.reduceAdd, Nat.reduceLeDiff, Int.reduceNe, Int.reduceBEq, Int.reduceEq, reduceCtorEq, Nat.reduceMul, Int.reduceLT, Int.reduceLE, Int.reduceToNat, cc_ref08_sum]
  refine call_is (hS l hlen) ?_
  try simp only [I, B, D, RW, ↓ KW, fillA, setCells, stTags, flat, Nat.reduceBEq, Nat.reduceAdd, Nat.reduceLeDiff, Int.reduceNe, Int.reduceBEq, Int.reduceEq, reduceCtorEq, Nat.reduceMul, Int.reduceLT, Int.reduceLE, Int.reduceToNat]
theorem most.ok (hc : cFn P f = some cc_ref08_most) : most.Spec (Pure P) f := by
  intro l hlen
  refine pure_of hm hc (by show 1 ≤ 18; decide) (aw_flat (keep := []) (i := 0) ?_)
  try simp only [I, B, D, RW, ↓ KW, fillA, setCells, stTags, flat, Nat.reduceBEq, Nat.reduceAdd, Nat.reduceLeDiff, Int.reduceNe, Int.reduceBEq, Int.reduceEq, reduceCtorEq, Nat.reduceMul, Int.reduceLT, Int.reduceLE, Int.reduceToNat, cc_ref08_most]
  refine aw_loop' (fun i : Nat => (⟨[(4, .dat (I i) none), (0, .dat (slAV intRow l) none), (3, .dat (I (mostI ((l.getD []).take i))) none)], [], [], 400⟩ : S)) (fun i => (l.getD []).length - i) (fun i => i ≤ (l.getD []).length) ?_ 0 (by omega) ?_
  · intro i hi A back
    have hw := wrap_succ (k := i) (by omega)
    try simp only [I, B, D, RW, ↓ KW, fillA, setCells, stTags, flat, Nat.reduceBEq, Nat.reduceAdd, Nat.reduceLeDiff, Int.reduceNe, Int.reduceBEq, Int.reduceEq, reduceCtorEq, Nat.reduceMul, Int.reduceLT, Int.reduceLE, Int.reduceToNat]
    refine cd_split (fun h => ?_) (fun h => ?_) <;> try simp only [I, B, D, RW, ↓ KW, fillA, setCells, stTags, flat, Nat.reduceBEq, Nat.reduceAdd, Nat.reduceLeDiff, Int.reduceNe, Int.reduceBEq, Int.reduceEq, reduceCtorEq, Nat.reduceMul, Int.reduceLT, Int.reduceLE, Int.reduceToNat, h]
    · have hlt : i < (l.getD []).length := by have := of_decide_eq_true h; omega
      obtain ⟨x, hx⟩ : ∃ x, (l.getD [])[i]? = some x := ⟨_, List.getElem?_eq_getElem hlt⟩
      have hn : mostI ((l.getD []).take (i + 1)) = (if x > mostI ((l.getD []).take i) then x else mostI ((l.getD []).take i)) := fold_next hx
      refine ⟨by omega, ?_⟩
      try simp only [I, B, D, RW, ↓ KW, fillA, setCells, stTags, flat, Nat.reduceBEq, Nat.reduceAdd, Nat.reduceLeDiff, Int.reduceNe, Int.reduceBEq, Int.reduceEq, reduceCtorEq, Nat.reduceMul, Int.reduceLT, Int.reduceLE, Int.reduceToNat, hx, intRow]
      refine back (i + 1) _ (by omega) (by omega) (le_tok2 (by decide) ?_ ?_ ?_ ?_) <;> simp [intRow, ownSV, ownL, leSlots, lv_dat, lv_tok, lv_ptr, lv_rp, lv_undef, leBoxes, leTags, leLive, tokM, tokB, tokT, ren, liveInj, r_lk, r_lkN, r_lkB, r_lkN0, I, B, D, withV_some, hw, hn]
    · have : i = (l.getD []).length := by have := of_decide_eq_false h; omega
      subst this
      simp
  · refine le_tok2 (by decide) ?_ ?_ ?_ ?_ <;> simp [intRow, ownSV, ownL, leSlots, lv_dat, lv_tok, lv_ptr, lv_rp, lv_undef, leBoxes, leTags, leLive, tokM, tokB, tokT, ren, liveInj, r_lk, r_lkN, r_lkB, r_lkN0, I, B, D, withV_some, mostI]
theorem where.ok {fS e : Nat} (hc : cFn P f = some (cc_ref08_Where fS)) (hS : spots.Spec (Pure P) fS e) : where.Spec (Pure P) f := by
  intro t p ht
  have hl := Tb.len ht
  have hp := Tb.whole ht
  have hsz := spots_len ht
  refine pure_of hm hc (by show 2 ≤ 28; decide) (aw_flat (keep := []) (i := 0) ?_)
  try simp only [I, B, D, RW, ↓ KW, fillA, setCells, stTags, flat, Nat.reduceBEq, Nat.reduceAdd, Nat.reduceLeDiff, Int.reduceNe, Int.reduceBEq, Int.reduceEq, reduceCtorEq, Nat.reduceMul, Int.reduceLT, Int.reduceLE, Int.reduceToNat, cc_ref08_Where, hp]
  refine call_is (hS t none ht (.inl rfl)) ?_
  try simp only [I, B, D, RW, ↓ KW, fillA, setCells, stTags, flat, Nat.reduceBEq, Nat.reduceAdd, Nat.reduceLeDiff, Int.reduceNe, Int.reduceBEq, Int.reduceEq, reduceCtorEq, Nat.reduceMul, Int.reduceLT, Int.reduceLE, Int.reduceToNat]
  refine aw_loop' (fun i : Nat => (⟨[(7, .dat (I i) none), (6, .dat (slAV Sp.cells (mkO (spots t))) none), (1, .dat (I p) none), (4, .ptr 5 0)], [(5, ⟨[I 0, I 0, I 0, I 0], []⟩)], [], 400⟩ : S)) (fun i => (spots t).length - i) (fun i => i ≤ (spots t).length ∧ ∀ x ∈ (spots t).take i, x.p ≠ p) ?_ 0 (by simp) ?_
  · intro i ⟨hi, hnot⟩ A back
    have hw := wrap_succ (k := i) (by omega)
    have hmk : (mkO (spots t)).getD [] = spots t := by unfold mkO; split <;> simp_all
    try simp only [I, B, D, RW, ↓ KW, fillA, setCells, stTags, flat, Nat.reduceBEq, Nat.reduceAdd, Nat.reduceLeDiff, Int.reduceNe, Int.reduceBEq, Int.reduceEq, reduceCtorEq, Nat.reduceMul, Int.reduceLT, Int.reduceLE, Int.reduceToNat, hmk]
    refine cd_split (fun h => ?_) (fun h => ?_) <;> try simp only [I, B, D, RW, ↓ KW, fillA, setCells, stTags, flat, Nat.reduceBEq, Nat.reduceAdd, Nat.reduceLeDiff, Int.reduceNe, Int.reduceBEq, Int.reduceEq, reduceCtorEq, Nat.reduceMul, Int.reduceLT, Int.reduceLE, Int.reduceToNat, hmk, h]
    · have hlt : i < (spots t).length := by have := of_decide_eq_true h; omega
      obtain ⟨x, hx⟩ : ∃ x, (spots t)[i]? = some x := ⟨_, List.getElem?_eq_getElem hlt⟩
      have htk := take_next hx
      refine ⟨by omega, ?_⟩
      try simp only [I, B, D, RW, ↓ KW, fillA, setCells, stTags, flat, Nat.reduceBEq, Nat.reduceAdd, Nat.reduceLeDiff, Int.reduceNe, Int.reduceBEq, Int.reduceEq, reduceCtorEq, Nat.reduceMul, Int.reduceLT, Int.reduceLE, Int.reduceToNat, hx, Sp.len, Sp.cells]
      refine cd_split (fun h2 => ?_) (fun h2 => ?_) <;> try simp only [I, B, D, RW, ↓ KW, fillA, setCells, stTags, flat, Nat.reduceBEq, Nat.reduceAdd, Nat.reduceLeDiff, Int.reduceNe, Int.reduceBEq, Int.reduceEq, reduceCtorEq, Nat.reduceMul, Int.reduceLT, Int.reduceLE, Int.reduceToNat, hx, Sp.len, Sp.cells, hmk, h2]
      · have hw2 : whereR t p = (x, true) := by
          have : (spots t).find? (fun x => x.p == p) = some x := find_at hx (by simpa using h2) (fun y hy => by simpa using hnot y hy)
          simp [whereR, this]
        exact ⟨by omega, by simp [hw2]⟩
      · refine back (i + 1) _ ⟨by omega, ?_⟩ (by omega) ?_
        · rw [htk]; simp only [List.mem_append, List.mem_singleton]; rintro y (hy | rfl); exact hnot y hy; simpa using h2
        · refine le_tok2 (by decide) ?_ ?_ ?_ ?_ <;> simp [intRow, ownSV, ownL, leSlots, lv_dat, lv_tok, lv_ptr, lv_rp, lv_undef, leBoxes, leTags, leLive, tokM, tokB, tokT, ren, liveInj, r_lk, r_lkN, r_lkB, r_lkN0, I, B, D, withV_some, hw]
    · have : i = (spots t).length := by have := of_decide_eq_false h; omega
      subst this
      have hw2 : whereR t p = (⟨0, 0, 0, 0⟩, false) := by
        have : (spots t).find? (fun x => x.p == p) = none := by
          rw [List.find?_eq_none]; intro x hx; simpa using hnot x (by simpa using hx)
        simp [whereR, this]
      try simp only [I, B, D, RW, ↓ KW, fillA, setCells, stTags, flat, Nat.reduceBEq, Nat.reduceAdd, Nat.reduceLeDiff, Int.reduceNe, Int.reduceBEq, Int.reduceEq, reduceCtorEq, Nat.reduceMul, Int.reduceLT, Int.reduceLE, Int.reduceToNat, hw2, Sp.cells]
  · refine le_tok2 (by decide) ?_ ?_ ?_ ?_ <;> simp [intRow, ownSV, ownL, leSlots, lv_dat, lv_tok, lv_ptr, lv_rp, lv_undef, leBoxes, leTags, leLive, tokM, tokB, tokT, ren, liveInj, r_lk, r_lkN, r_lkB, r_lkN0, I, B, D, withV_some]

theorem beside.ok {fW : Nat} (hc : cFn P f = some (cc_ref08_Beside fW)) (hW : where.Spec (Pure P) fW) : beside.Spec (Pure P) f := by
  intro t p q ht
  have hl := Tb.len ht
  have hp := Tb.whole ht
  refine pure_of hm hc (by show 3 ≤ 41; decide) (aw_flat (keep := []) (i := 0) ?_)
  try simp only [I, B, D, RW, ↓ KW, fillA, setCells, stTags, flat, Nat.reduceBEq, Nat.reduceAdd, Nat.reduceLeDiff, Int.reduceNe, Int.reduceBEq, Int.reduceEq, reduceCtorEq, Nat.reduceMul, Int.reduceLT, Int.reduceLE, Int.reduceToNat, cc_ref08_Beside, hp, hl]
  repeat' (first | (refine call_is (hW t _ ht) ?_; try simp only [I, B, D, RW, ↓ KW, fillA, setCells, stTags, flat, Nat.reduceBEq, Nat.reduceAdd, Nat.reduceLeDiff, Int.reduceNe, Int.reduceBEq, Int.reduceEq, reduceCtorEq, Nat.reduceMul, Int.reduceLT, Int.reduceLE, Int.reduceToNat, hp, Sp.cells]) | (refine gd_split (fun h => ?_) (fun h => ?_) <;> try simp only [I, B, D, RW, ↓ KW, fillA, setCells, stTags, flat, Nat.reduceBEq, Nat.reduceAdd, Nat.reduceLeDiff, Int.reduceNe, Int.reduceBEq, Int.reduceEq, reduceCtorEq, Nat.reduceMul, Int.reduceLT, Int.reduceLE, Int.reduceToNat, hp, Sp.cells, h]) | (refine cd_split (fun h => ?_) (fun h => ?_) <;> try simp only [I, B, D, RW, ↓ KW, fillA, setCells, stTags, flat, Nat.reduceBEq, Nat.reduceAdd, Nat.reduceLeDiff, Int.reduceNe, Int.reduceBEq, Int.reduceEq, reduceCtorEq, Nat.reduceMul, Int.reduceLT, Int.reduceLE, Int.reduceToNat, hp, Sp.cells, h]) | (refine pk_split (fun h => ?_) (fun h => ?_) <;> try simp only [I, B, D, RW, ↓ KW, fillA, setCells, stTags, flat, Nat.reduceBEq, Nat.reduceAdd, Nat.reduceLeDiff, Int.reduceNe, Int.reduceBEq, Int.reduceEq, reduceCtorEq, Nat.reduceMul, Int.reduceLT, Int.reduceLE, Int.reduceToNat, hp, Sp.cells, h]))
  all_goals simp_all [besideR]

theorem on.ok {e fO : Nat} (hc : cFn P f = some (cc_ref08_On e fO)) (hO : refOf.Spec (Pure P) fO) : on.Spec (Pure P) f := by
  intro t ht
  have hl := Tb.len ht
  have hp := Tb.whole ht
  refine pure_of hm hc (by show 1 ≤ 20; decide) (aw_flat (keep := []) (i := 0) ?_)
  try simp only [I, B, D, RW, ↓ KW, fillA, setCells, stTags, flat, Nat.reduceBEq, Nat.reduceAdd, Nat.reduceLeDiff, Int.reduceNe, Int.reduceBEq, Int.reduceEq, reduceCtorEq, Nat.reduceMul, Int.reduceLT, Int.reduceLE, Int.reduceToNat, cc_ref08_On, hp, hl]
  refine aw_loop' (fun k : Nat => (⟨[(4, .dat (I k) none), (1, .ptr 4 0), (3, ownSV intRow (onTo t k) 0)], [(4, ⟨t.cells, []⟩)], ownL (onTo t k) 0 e, 400⟩ : S)) (fun k => 8 - k) (fun k => k ≤ 8) ?_ 0 (by omega) ?_
  · intro k hk A back
    have hw := wrap_succ (k := k) (by omega)
    have hn := onTo_succ t k
    have hlen : (onTo t k).length ≤ k := by
      have := List.length_filter_le (fun p => (phAt t p).on) ((List.range k).map fun (k : Nat) => (k : Int))
      simpa [onTo] using this
    by_cases hl : onTo t k = []
    · try simp only [I, B, D, RW, ↓ KW, fillA, setCells, stTags, flat, Nat.reduceBEq, Nat.reduceAdd, Nat.reduceLeDiff, Int.reduceNe, Int.reduceBEq, Int.reduceEq, reduceCtorEq, Nat.reduceMul, Int.reduceLT, Int.reduceLE, Int.reduceToNat, ownSV, ownL, hl]
      refine cd_split (fun h => ?_) (fun h => ?_) <;> try simp only [I, B, D, RW, ↓ KW, fillA, setCells, stTags, flat, Nat.reduceBEq, Nat.reduceAdd, Nat.reduceLeDiff, Int.reduceNe, Int.reduceBEq, Int.reduceEq, reduceCtorEq, Nat.reduceMul, Int.reduceLT, Int.reduceLE, Int.reduceToNat, h]
      · have h8 := of_decide_eq_true h
        have hph := Tb.ph_all (phAt_get ht (k := k) (by omega))
        refine ⟨by omega, ?_⟩
        try simp only [I, B, D, RW, ↓ KW, fillA, setCells, stTags, flat, Nat.reduceBEq, Nat.reduceAdd, Nat.reduceLeDiff, Int.reduceNe, Int.reduceBEq, Int.reduceEq, reduceCtorEq, Nat.reduceMul, Int.reduceLT, Int.reduceLE, Int.reduceToNat, hph]
        refine cd_split (fun h2 => ?_) (fun h2 => ?_) <;> try simp only [I, B, D, RW, ↓ KW, fillA, setCells, stTags, flat, Nat.reduceBEq, Nat.reduceAdd, Nat.reduceLeDiff, Int.reduceNe, Int.reduceBEq, Int.reduceEq, reduceCtorEq, Nat.reduceMul, Int.reduceLT, Int.reduceLE, Int.reduceToNat, h2]
        · refine back (k + 1) _ (by omega) (by omega) (le_tok2 (by decide) ?_ ?_ ?_ ?_) <;> simp [intRow, ownSV, ownL, leSlots, lv_dat, lv_tok, lv_ptr, lv_rp, lv_undef, leBoxes, leTags, leLive, tokM, tokB, tokT, ren, liveInj, r_lk, r_lkN, r_lkB, r_lkN0, I, B, D, withV_some, hn, hl, h2, hw]
        · refine back (k + 1) _ (by omega) (by omega) (le_tok2 (by decide) ?_ ?_ ?_ ?_) <;> simp [intRow, ownSV, ownL, leSlots, lv_dat, lv_tok, lv_ptr, lv_rp, lv_undef, leBoxes, leTags, leLive, tokM, tokB, tokT, ren, liveInj, r_lk, r_lkN, r_lkB, r_lkN0, I, B, D, withV_some, hn, hl, h2, hw]
      · have : k = 8 := by have := of_decide_eq_false h; omega
        subst this
        try simp only [I, B, D, RW, ↓ KW, fillA, setCells, stTags, flat, Nat.reduceBEq, Nat.reduceAdd, Nat.reduceLeDiff, Int.reduceNe, Int.reduceBEq, Int.reduceEq, reduceCtorEq, Nat.reduceMul, Int.reduceLT, Int.reduceLE, Int.reduceToNat]
        refine call_is (hO none (by simp)) ?_
        try simp only [I, B, D, RW, ↓ KW, fillA, setCells, stTags, flat, Nat.reduceBEq, Nat.reduceAdd, Nat.reduceLeDiff, Int.reduceNe, Int.reduceBEq, Int.reduceEq, reduceCtorEq, Nat.reduceMul, Int.reduceLT, Int.reduceLE, Int.reduceToNat]
        simp [onI, hl]
    · try simp only [I, B, D, RW, ↓ KW, fillA, setCells, stTags, flat, Nat.reduceBEq, Nat.reduceAdd, Nat.reduceLeDiff, Int.reduceNe, Int.reduceBEq, Int.reduceEq, reduceCtorEq, Nat.reduceMul, Int.reduceLT, Int.reduceLE, Int.reduceToNat, ownSV, ownL, hl]
      refine cd_split (fun h => ?_) (fun h => ?_) <;> try simp only [I, B, D, RW, ↓ KW, fillA, setCells, stTags, flat, Nat.reduceBEq, Nat.reduceAdd, Nat.reduceLeDiff, Int.reduceNe, Int.reduceBEq, Int.reduceEq, reduceCtorEq, Nat.reduceMul, Int.reduceLT, Int.reduceLE, Int.reduceToNat, h]
      · have h8 := of_decide_eq_true h
        have hph := Tb.ph_all (phAt_get ht (k := k) (by omega))
        refine ⟨by omega, ?_⟩
        try simp only [I, B, D, RW, ↓ KW, fillA, setCells, stTags, flat, Nat.reduceBEq, Nat.reduceAdd, Nat.reduceLeDiff, Int.reduceNe, Int.reduceBEq, Int.reduceEq, reduceCtorEq, Nat.reduceMul, Int.reduceLT, Int.reduceLE, Int.reduceToNat, hph]
        refine cd_split (fun h2 => ?_) (fun h2 => ?_) <;> try simp only [I, B, D, RW, ↓ KW, fillA, setCells, stTags, flat, Nat.reduceBEq, Nat.reduceAdd, Nat.reduceLeDiff, Int.reduceNe, Int.reduceBEq, Int.reduceEq, reduceCtorEq, Nat.reduceMul, Int.reduceLT, Int.reduceLE, Int.reduceToNat, h2]
        · refine ⟨by omega, ?_⟩
          refine back (k + 1) _ (by omega) (by omega) (le_tok2 (by decide) ?_ ?_ ?_ ?_) <;> simp [intRow, ownSV, ownL, leSlots, lv_dat, lv_tok, lv_ptr, lv_rp, lv_undef, leBoxes, leTags, leLive, tokM, tokB, tokT, ren, liveInj, r_lk, r_lkN, r_lkB, r_lkN0, I, B, D, withV_some, hn, hl, h2, hw]
        · refine back (k + 1) _ (by omega) (by omega) (le_tok2 (by decide) ?_ ?_ ?_ ?_) <;> simp [intRow, ownSV, ownL, leSlots, lv_dat, lv_tok, lv_ptr, lv_rp, lv_undef, leBoxes, leTags, leLive, tokM, tokB, tokT, ren, liveInj, r_lk, r_lkN, r_lkB, r_lkN0, I, B, D, withV_some, hn, hl, h2, hw]
      · have : k = 8 := by have := of_decide_eq_false h; omega
        subst this
        try simp only [I, B, D, RW, ↓ KW, fillA, setCells, stTags, flat, Nat.reduceBEq, Nat.reduceAdd, Nat.reduceLeDiff, Int.reduceNe, Int.reduceBEq, Int.reduceEq, reduceCtorEq, Nat.reduceMul, Int.reduceLT, Int.reduceLE, Int.reduceToNat]
        refine call_is (hO (some (onTo t 8)) (by simp; omega)) ?_
        try simp only [I, B, D, RW, ↓ KW, fillA, setCells, stTags, flat, Nat.reduceBEq, Nat.reduceAdd, Nat.reduceLeDiff, Int.reduceNe, Int.reduceBEq, Int.reduceEq, reduceCtorEq, Nat.reduceMul, Int.reduceLT, Int.reduceLE, Int.reduceToNat]
        simp [onI]
  · refine le_tok2 (by decide) ?_ ?_ ?_ ?_ <;> simp [intRow, ownSV, ownL, leSlots, lv_dat, lv_tok, lv_ptr, lv_rp, lv_undef, leBoxes, leTags, leLive, tokM, tokB, tokT, ren, liveInj, r_lk, r_lkN, r_lkB, r_lkN0, I, B, D, withV_some, onTo]
end

end Go.Eng
