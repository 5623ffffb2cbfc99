/- The engine and the library, part 4 of 6: what the proofs of this seat need of them. -/
import Derived.Test.YthghbmjeihahmaaPk3
namespace Go.Eng
set_option linter.unusedVariables false
set_option linter.unusedSimpArgs false
set_option linter.unnecessarySimpa false
open Go
set_option linter.unusedVariables false
set_option linter.unusedSimpArgs false
set_option maxRecDepth 10000
set_option maxHeartbeats 4000000
def sumI (l : List Int) : Int := l.foldl addI 0
def mostI (l : List Int) : Int := l.foldl (fun n x => if x > n then x else n) 0
theorem fold_next {α β : Type} {f : β → α → β} {b : β} {l : List α} {i : Nat} {x : α} (h : l[i]? = some x) : (l.take (i + 1)).foldl f b = f ((l.take i).foldl f b) x := by
  rw [take_next h, List.foldl_append]; rfl
def sum1.Spec (C : Con) (f : Nat) : Prop := ∀ l : Option (List Int), (l.getD []).length ≤ 140737488355328 → C.c f [slAV intRow l] (I (sumI (l.getD []))) none
def most.Spec (C : Con) (f : Nat) : Prop := ∀ l : Option (List Int), (l.getD []).length ≤ 140737488355328 → C.c f [slAV intRow l] (I (mostI (l.getD []))) none
def whereR (t : Tb) (p : Int) : Sp × Bool := match (spots t).find? (fun x => x.p == p) with
  | some x => (x, true)
  | none => (⟨0, 0, 0, 0⟩, false)
def where.Spec (C : Con) (f : Nat) : Prop := ∀ (t : Tb) (p : Int), t.Ok → C.c f [.agg t.cells, I p] (.tup [.agg (whereR t p).1.cells, B (whereR t p).2]) none
def besideR (t : Tb) (p q : Int) : Bool := (whereR t p).2 && (whereR t q).2 && (whereR t p).1.group == (whereR t q).1.group && (whereR t p).1.ring != (whereR t q).1.ring
def beside.Spec (C : Con) (f : Nat) : Prop := ∀ (t : Tb) (p q : Int), t.Ok → C.c f [.agg t.cells, I p, I q] (B (besideR t p q)) none
def phAt (t : Tb) (p : Int) : Ph := t.phases.getD p.toNat default
def onTo (t : Tb) (k : Nat) : List Int := ((List.range k).map fun (k : Nat) => (k : Int)).filter fun p => (phAt t p).on
def onI (t : Tb) : Int := ofI (onTo t 8)
def on.Spec (C : Con) (f : Nat) : Prop := ∀ (t : Tb), t.Ok → C.c f [.agg t.cells] (I (onI t)) none
theorem onTo_succ (t : Tb) (k : Nat) : onTo t (k + 1) = if (phAt t k).on then onTo t k ++ [(k : Int)] else onTo t k := by
  simp only [onTo, List.range_succ, List.map_append, List.filter_append, List.map_cons, List.map_nil, List.filter_cons, List.filter_nil]
  split <;> simp
theorem phAt_get {t : Tb} (h : t.Ok) {k : Nat} (hk : k < 8) : t.phases[k]? = some (phAt t k) := by
  have : k < t.phases.length := by rw [h.phases]; exact hk
  simp [phAt, this]
theorem Tb.ph_int {t : Tb} (ht : t.Ok) {x : Int} (h0 : 0 ≤ x) (h8 : x < 8) : t.cells[x.toNat * 13]? = some (B (phAt t x).on) ∧ t.cells[x.toNat * 13 + 1]? = some (I (phAt t x).min) ∧ t.cells[x.toNat * 13 + 2]? = some (I (phAt t x).gap) ∧ t.cells[x.toNat * 13 + 3]? = some (I (phAt t x).max) ∧ t.cells[x.toNat * 13 + 4]? = some (I (phAt t x).top) ∧ t.cells[x.toNat * 13 + 5]? = some (I (phAt t x).step) ∧ t.cells[x.toNat * 13 + 6]? = some (I (phAt t x).yellow) ∧ t.cells[x.toNat * 13 + 7]? = some (I (phAt t x).red) ∧ t.cells[x.toNat * 13 + 8]? = some (I (phAt t x).walk) ∧ t.cells[x.toNat * 13 + 9]? = some (I (phAt t x).blinks) ∧ t.cells[x.toNat * 13 + 10]? = some (I (phAt t x).recall) ∧ t.cells[x.toNat * 13 + 11]? = some (B (phAt t x).lock) ∧ t.cells[x.toNat * 13 + 12]? = some (B (phAt t x).rest) := by
  have := Tb.ph_all (phAt_get ht (k := x.toNat) (by omega))
  rw [Int.toNat_of_nonneg h0] at this
  exact this
theorem Tb.ph_whole {t : Tb} (ht : t.Ok) {x : Int} (h0 : 0 ≤ x) (h8 : x < 8) : partA t.cells (x.toNat * 13) (some 13) = some (.agg (phAt t x).cells) := by
  have := Tb.phase_part (phAt_get ht (k := x.toNat) (by omega))
  rw [Int.toNat_of_nonneg h0] at this
  exact this
theorem find_at {α : Type} {p : α → Bool} {l : List α} {i : Nat} {x : α} (h : l[i]? = some x) (hp : p x = true) (hn : ∀ y ∈ l.take i, p y = false) : l.find? p = some x := by
  rw [list_at h, List.find?_append]
  have : (l.take i).find? p = none := by rw [List.find?_eq_none]; intro y hy; simp [hn y hy]
  simp [this, hp]
section
variable {P : Program} (hm : P.follows .mixedOrders = true) {f : Nat}
include hm
theorem Sum.ok {fA : Nat} (hc : cFn P f = some (cc_ref01_Sum fA)) (hA : Add.Spec (Pure P) fA) : sum1.Spec (Pure P) f := by
  intro l hlen
  refine pure_of hm hc (by show 1 ≤ 18; decide) (aw_flat (keep := []) (i := 0) ?_)
  try simp only [I, B, D, RW, ↓ KW, fillA, setCells, stTags, flat, Nat.reduceBEq, Nat.reduceAdd, Nat.reduceLeDiff, Int.reduceNe, Int.reduceBEq, Int.reduceEq, reduceCtorEq, Nat.reduceMul, Int.reduceLT, Int.reduceLE, Int.reduceToNat, cc_ref01_Sum]
  refine aw_loop' (fun i : Nat => (⟨[(4, .dat (I i) none), (0, .dat (slAV intRow l) none), (3, .dat (I (sumI ((l.getD []).take i))) none)], [], [], 400⟩ : S)) (fun i => (l.getD []).length - i) (fun i => i ≤ (l.getD []).length) ?_ 0 (by omega) ?_
  · intro i hi A back
    have hw := wrap_succ (k := i) (by omega)
    try simp only [I, B, D, RW, ↓ KW, fillA, setCells, stTags, flat, Nat.reduceBEq, Nat.reduceAdd, Nat.reduceLeDiff, Int.reduceNe, Int.reduceBEq, Int.reduceEq, reduceCtorEq, Nat.reduceMul, Int.reduceLT, Int.reduceLE, Int.reduceToNat]
    refine cd_split (fun h => ?_) (fun h => ?_) <;> try simp only [I, B, D, RW, ↓ KW, fillA, setCells, stTags, flat, Nat.reduceBEq, Nat.reduceAdd, Nat.reduceLeDiff, Int.reduceNe, Int.reduceBEq, Int.reduceEq, reduceCtorEq, Nat.reduceMul, Int.reduceLT, Int.reduceLE, Int.reduceToNat, h]
    · have hlt : i < (l.getD []).length := by have := of_decide_eq_true h; omega
      obtain ⟨x, hx⟩ : ∃ x, (l.getD [])[i]? = some x := ⟨_, List.getElem?_eq_getElem hlt⟩
      have hn : sumI ((l.getD []).take (i + 1)) = addI (sumI ((l.getD []).take i)) x := fold_next hx
      refine ⟨by omega, ?_⟩
      try simp only [I, B, D, RW, ↓ KW, fillA, setCells, stTags, flat, Nat.reduceBEq, Nat.reduceAdd, Nat.reduceLeDiff, Int.reduceNe, Int.reduceBEq, Int.reduceEq, reduceCtorEq, Nat.reduceMul, Int.reduceLT, Int.reduceLE, Int.reduceToNat, hx, intRow]
      refine call_is (hA _ _) ?_
      try simp only [I, B, D, RW, ↓ KW, fillA, setCells, stTags, flat, Nat.reduceBEq, Nat.reduceAdd, Nat.reduceLeDiff, Int.reduceNe, Int.reduceBEq, Int.reduceEq, reduceCtorEq, Nat.reduceMul, Int.reduceLT, Int.reduceLE, Int.reduceToNat]
      refine back (i + 1) _ (by omega) (by omega) (le_tok2 (by decide) ?_ ?_ ?_ ?_) <;> simp [intRow, ownSV, ownL, leSlots, lv_dat, lv_tok, lv_ptr, lv_rp, lv_undef, leBoxes, leTags, leLive, tokM, tokB, tokT, ren, liveInj, r_lk, r_lkN, r_lkB, r_lkN0, I, B, D, withV_some, hw, hn]
    · have : i = (l.getD []).length := by have := of_decide_eq_false h; omega
      subst this
      simp
  · refine le_tok2 (by decide) ?_ ?_ ?_ ?_ <;> simp [intRow, ownSV, ownL, leSlots, lv_dat, lv_tok, lv_ptr, lv_rp, lv_undef, leBoxes, leTags, leLive, tokM, tokB, tokT, ren, liveInj, r_lk, r_lkN, r_lkB, r_lkN0, I, B, D, withV_some, sumI]
theorem sum1.ok {fS : Nat} (hc : cFn P f = some (cc_ref08_sum fS)) (hS : sum1.Spec (Pure P) fS) : sum1.Spec (Pure P) f := by
  intro l hlen
  refine pure_of hm hc (by show 1 ≤ 5; decide) (aw_flat (keep := []) (i := 0) ?_)
  try simp only [I, B, D, RW, ↓ KW, fillA, setCells, stTags, flat, Nat.reduceBEq, Nat.reduceAdd, Nat.reduceLeDiff, Int.reduceNe, Int.reduceBEq, Int.reduceEq, reduceCtorEq, Nat.reduceMul, Int.reduceLT, Int.reduceLE, Int.reduceToNat, cc_ref08_sum]
  refine call_is (hS l hlen) ?_
  try simp only [I, B, D, RW, ↓ KW, fillA, setCells, stTags, flat, Nat.reduceBEq, Nat.reduceAdd, Nat.reduceLeDiff, Int.reduceNe, Int.reduceBEq, Int.reduceEq, reduceCtorEq, Nat.reduceMul, Int.reduceLT, Int.reduceLE, Int.reduceToNat]
theorem most.ok (hc : cFn P f = some cc_ref08_most) : most.Spec (Pure P) f := by
  intro l hlen
  refine pure_of hm hc (by show 1 ≤ 18; decide) (aw_flat (keep := []) (i := 0) ?_)
  try simp only [I, B, D, RW, ↓ KW, fillA, setCells, stTags, flat, Nat.reduceBEq, Nat.reduceAdd, Nat.reduceLeDiff, Int.reduceNe, Int.reduceBEq, Int.reduceEq, reduceCtorEq, Nat.reduceMul, Int.reduceLT, Int.reduceLE, Int.reduceToNat, cc_ref08_most]
  refine aw_loop' (fun i : Nat => (⟨[(4, .dat (I i) none), (0, .dat (slAV intRow l) none), (3, .dat (I (mostI ((l.getD []).take i))) none)], [], [], 400⟩ : S)) (fun i => (l.getD []).length - i) (fun i => i ≤ (l.getD []).length) ?_ 0 (by omega) ?_
  · intro i hi A back
    have hw := wrap_succ (k := i) (by omega)
    try simp only [I, B, D, RW, ↓ KW, fillA, setCells, stTags, flat, Nat.reduceBEq, Nat.reduceAdd, Nat.reduceLeDiff, Int.reduceNe, Int.reduceBEq, Int.reduceEq, reduceCtorEq, Nat.reduceMul, Int.reduceLT, Int.reduceLE, Int.reduceToNat]
    refine cd_split (fun h => ?_) (fun h => ?_) <;> try simp only [I, B, D, RW, ↓ KW, fillA, setCells, stTags, flat, Nat.reduceBEq, Nat.reduceAdd, Nat.reduceLeDiff, Int.reduceNe, Int.reduceBEq, Int.reduceEq, reduceCtorEq, Nat.reduceMul, Int.reduceLT, Int.reduceLE, Int.reduceToNat, h]
    · have hlt : i < (l.getD []).length := by have := of_decide_eq_true h; omega
      obtain ⟨x, hx⟩ : ∃ x, (l.getD [])[i]? = some x := ⟨_, List.getElem?_eq_getElem hlt⟩
      have hn : mostI ((l.getD []).take (i + 1)) = (if x > mostI ((l.getD []).take i) then x else mostI ((l.getD []).take i)) := fold_next hx
      refine ⟨by omega, ?_⟩
      try simp only [I, B, D, RW, ↓ KW, fillA, setCells, stTags, flat, Nat.reduceBEq, Nat.reduceAdd, Nat.reduceLeDiff, Int.reduceNe, Int.reduceBEq, Int.reduceEq, reduceCtorEq, Nat.reduceMul, Int.reduceLT, Int.reduceLE, Int.reduceToNat, hx, intRow]
      refine back (i + 1) _ (by omega) (by omega) (le_tok2 (by decide) ?_ ?_ ?_ ?_) <;> simp [intRow, ownSV, ownL, leSlots, lv_dat, lv_tok, lv_ptr, lv_rp, lv_undef, leBoxes, leTags, leLive, tokM, tokB, tokT, ren, liveInj, r_lk, r_lkN, r_lkB, r_lkN0, I, B, D, withV_some, hw, hn]
    · have : i = (l.getD []).length := by have := of_decide_eq_false h; omega
      subst this
      simp
  · refine le_tok2 (by decide) ?_ ?_ ?_ ?_ <;> simp [intRow, ownSV, ownL, leSlots, lv_dat, lv_tok, lv_ptr, lv_rp, lv_undef, leBoxes, leTags, leLive, tokM, tokB, tokT, ren, liveInj, r_lk, r_lkN, r_lkB, r_lkN0, I, B, D, withV_some, mostI]
theorem where.ok {fS e : Nat} (hc : cFn P f = some (cc_ref08_Where fS)) (hS : spots.Spec (Pure P) fS e) : where.Spec (Pure P) f := by
  intro t p ht
  have hl := Tb.len ht
  have hp := Tb.whole ht
  have hsz := spots_len ht
  refine pure_of hm hc (by show 2 ≤ 28; decide) (aw_flat (keep := []) (i := 0) ?_)
  try simp only [I, B, D, RW, ↓ KW, fillA, setCells, stTags, flat, Nat.reduceBEq, Nat.reduceAdd, Nat.reduceLeDiff, Int.reduceNe, Int.reduceBEq, Int.reduceEq, reduceCtorEq, Nat.reduceMul, Int.reduceLT, Int.reduceLE, Int.reduceToNat, cc_ref08_Where, hp]
  refine call_is (hS t none ht (.inl rfl)) ?_
  try simp only [I, B, D, RW, ↓ KW, fillA, setCells, stTags, flat, Nat.reduceBEq, Nat.reduceAdd, Nat.reduceLeDiff, Int.reduceNe, Int.reduceBEq, Int.reduceEq, reduceCtorEq, Nat.reduceMul, Int.reduceLT, Int.reduceLE, Int.reduceToNat]
  refine aw_loop' (fun i : Nat => (⟨[(7, .dat (I i) none), (6, .dat (slAV Sp.cells (mkO (spots t))) none), (1, .dat (I p) none), (4, .ptr 5 0)], [(5, ⟨[I 0, I 0, I 0, I 0], []⟩)], [], 400⟩ : S)) (fun i => (spots t).length - i) (fun i => i ≤ (spots t).length ∧ ∀ x ∈ (spots t).take i, x.p ≠ p) ?_ 0 (by simp) ?_
  · intro i ⟨hi, hnot⟩ A back
    have hw := wrap_succ (k := i) (by omega)
    have hmk : (mkO (spots t)).getD [] = spots t := by unfold mkO; split <;> simp_all
    try simp only [I, B, D, RW, ↓ KW, fillA, setCells, stTags, flat, Nat.reduceBEq, Nat.reduceAdd, Nat.reduceLeDiff, Int.reduceNe, Int.reduceBEq, Int.reduceEq, reduceCtorEq, Nat.reduceMul, Int.reduceLT, Int.reduceLE, Int.reduceToNat, hmk]
    refine cd_split (fun h => ?_) (fun h => ?_) <;> try simp only [I, B, D, RW, ↓ KW, fillA, setCells, stTags, flat, Nat.reduceBEq, Nat.reduceAdd, Nat.reduceLeDiff, Int.reduceNe, Int.reduceBEq, Int.reduceEq, reduceCtorEq, Nat.reduceMul, Int.reduceLT, Int.reduceLE, Int.reduceToNat, hmk, h]
    · have hlt : i < (spots t).length := by have := of_decide_eq_true h; omega
      obtain ⟨x, hx⟩ : ∃ x, (spots t)[i]? = some x := ⟨_, List.getElem?_eq_getElem hlt⟩
      have htk := take_next hx
      refine ⟨by omega, ?_⟩
      try simp only [I, B, D, RW, ↓ KW, fillA, setCells, stTags, flat, Nat.reduceBEq, Nat.reduceAdd, Nat.reduceLeDiff, Int.reduceNe, Int.reduceBEq, Int.reduceEq, reduceCtorEq, Nat.reduceMul, Int.reduceLT, Int.reduceLE, Int.reduceToNat, hx, Sp.len, Sp.cells]
      refine cd_split (fun h2 => ?_) (fun h2 => ?_) <;> try simp only [I, B, D, RW, ↓ KW, fillA, setCells, stTags, flat, Nat.reduceBEq, Nat.reduceAdd, Nat.reduceLeDiff, Int.reduceNe, Int.reduceBEq, Int.reduceEq, reduceCtorEq, Nat.reduceMul, Int.reduceLT, Int.reduceLE, Int.reduceToNat, hx, Sp.len, Sp.cells, hmk, h2]
      · have hw2 : whereR t p = (x, true) := by
          have : (spots t).find? (fun x => x.p == p) = some x := find_at hx (by simpa using h2) (fun y hy => by simpa using hnot y hy)
          simp [whereR, this]
        exact ⟨by omega, by simp [hw2]⟩
      · refine back (i + 1) _ ⟨by omega, ?_⟩ (by omega) ?_
        · rw [htk]; simp only [List.mem_append, List.mem_singleton]; rintro y (hy | rfl); exact hnot y hy; simpa using h2
        · refine le_tok2 (by decide) ?_ ?_ ?_ ?_ <;> simp [intRow, ownSV, ownL, leSlots, lv_dat, lv_tok, lv_ptr, lv_rp, lv_undef, leBoxes, leTags, leLive, tokM, tokB, tokT, ren, liveInj, r_lk, r_lkN, r_lkB, r_lkN0, I, B, D, withV_some, hw]
    · have : i = (spots t).length := by have := of_decide_eq_false h; omega
      subst this
      have hw2 : whereR t p = (⟨0, 0, 0, 0⟩, false) := by
        have : (spots t).find? (fun x => x.p == p) = none := by
          rw [List.find?_eq_none]; intro x hx; simpa using hnot x (by simpa using hx)
        simp [whereR, this]
      try simp only [I, B, D, RW, ↓ KW, fillA, setCells, stTags, flat, Nat.reduceBEq, Nat.reduceAdd, Nat.reduceLeDiff, Int.reduceNe, Int.reduceBEq, Int.reduceEq, reduceCtorEq, Nat.reduceMul, Int.reduceLT, Int.reduceLE, Int.reduceToNat, hw2, Sp.cells]
  · refine le_tok2 (by decide) ?_ ?_ ?_ ?_ <;> simp [intRow, ownSV, ownL, leSlots, lv_dat, lv_tok, lv_ptr, lv_rp, lv_undef, leBoxes, leTags, leLive, tokM, tokB, tokT, ren, liveInj, r_lk, r_lkN, r_lkB, r_lkN0, I, B, D, withV_some]
theorem beside.ok {fW : Nat} (hc : cFn P f = some (cc_ref08_Beside fW)) (hW : where.Spec (Pure P) fW) : beside.Spec (Pure P) f := by
  intro t p q ht
  have hl := Tb.len ht
  have hp := Tb.whole ht
  refine pure_of hm hc (by show 3 ≤ 41; decide) (aw_flat (keep := []) (i := 0) ?_)
  try simp only [I, B, D, RW, ↓ KW, fillA, setCells, stTags, flat, Nat.reduceBEq, Nat.reduceAdd, Nat.reduceLeDiff, Int.reduceNe, Int.reduceBEq, Int.reduceEq, reduceCtorEq, Nat.reduceMul, Int.reduceLT, Int.reduceLE, Int.reduceToNat, cc_ref08_Beside, hp, hl]
  repeat' (first | (refine call_is (hW t _ ht) ?_; try simp only [I, B, D, RW, ↓ KW, fillA, setCells, stTags, flat, Nat.reduceBEq, Nat.reduceAdd, Nat.reduceLeDiff, Int.reduceNe, Int.reduceBEq, Int.reduceEq, reduceCtorEq, Nat.reduceMul, Int.reduceLT, Int.reduceLE, Int.reduceToNat, hp, Sp.cells]) | (refine gd_split (fun h => ?_) (fun h => ?_) <;> try simp only [I, B, D, RW, ↓ KW, fillA, setCells, stTags, flat, Nat.reduceBEq, Nat.reduceAdd, Nat.reduceLeDiff, Int.reduceNe, Int.reduceBEq, Int.reduceEq, reduceCtorEq, Nat.reduceMul, Int.reduceLT, Int.reduceLE, Int.reduceToNat, hp, Sp.cells, h]) | (refine cd_split (fun h => ?_) (fun h => ?_) <;> try simp only [I, B, D, RW, ↓ KW, fillA, setCells, stTags, flat, Nat.reduceBEq, Nat.reduceAdd, Nat.reduceLeDiff, Int.reduceNe, Int.reduceBEq, Int.reduceEq, reduceCtorEq, Nat.reduceMul, Int.reduceLT, Int.reduceLE, Int.reduceToNat, hp, Sp.cells, h]) | (refine pk_split (fun h => ?_) (fun h => ?_) <;> try simp only [I, B, D, RW, ↓ KW, fillA, setCells, stTags, flat, Nat.reduceBEq, Nat.reduceAdd, Nat.reduceLeDiff, Int.reduceNe, Int.reduceBEq, Int.reduceEq, reduceCtorEq, Nat.reduceMul, Int.reduceLT, Int.reduceLE, Int.reduceToNat, hp, Sp.cells, h]))
  all_goals simp_all [besideR]
theorem on.ok {e fO : Nat} (hc : cFn P f = some (cc_ref08_On e fO)) (hO : refOf.Spec (Pure P) fO) : on.Spec (Pure P) f := by
  intro t ht
  have hl := Tb.len ht
  have hp := Tb.whole ht
  refine pure_of hm hc (by show 1 ≤ 20; decide) (aw_flat (keep := []) (i := 0) ?_)
  try simp only [I, B, D, RW, ↓ KW, fillA, setCells, stTags, flat, Nat.reduceBEq, Nat.reduceAdd, Nat.reduceLeDiff, Int.reduceNe, Int.reduceBEq, Int.reduceEq, reduceCtorEq, Nat.reduceMul, Int.reduceLT, Int.reduceLE, Int.reduceToNat, cc_ref08_On, hp, hl]
  refine aw_loop' (fun k : Nat => (⟨[(4, .dat (I k) none), (1, .ptr 4 0), (3, ownSV intRow (onTo t k) 0)], [(4, ⟨t.cells, []⟩)], ownL (onTo t k) 0 e, 400⟩ : S)) (fun k => 8 - k) (fun k => k ≤ 8) ?_ 0 (by omega) ?_
  · intro k hk A back
    have hw := wrap_succ (k := k) (by omega)
    have hn := onTo_succ t k
    have hlen : (onTo t k).length ≤ k := by
      have := List.length_filter_le (fun p => (phAt t p).on) ((List.range k).map fun (k : Nat) => (k : Int))
      simpa [onTo] using this
    by_cases hl : onTo t k = []
    · try simp only [I, B, D, RW, ↓ KW, fillA, setCells, stTags, flat, Nat.reduceBEq, Nat.reduceAdd, Nat.reduceLeDiff, Int.reduceNe, Int.reduceBEq, Int.reduceEq, reduceCtorEq, Nat.reduceMul, Int.reduceLT, Int.reduceLE, Int.reduceToNat, ownSV, ownL, hl]
      refine cd_split (fun h => ?_) (fun h => ?_) <;> try simp only [I, B, D, RW, ↓ KW, fillA, setCells, stTags, flat, Nat.reduceBEq, Nat.reduceAdd, Nat.reduceLeDiff, Int.reduceNe, Int.reduceBEq, Int.reduceEq, reduceCtorEq, Nat.reduceMul, Int.reduceLT, Int.reduceLE, Int.reduceToNat, h]
      · have h8 := of_decide_eq_true h
        have hph := Tb.ph_all (phAt_get ht (k := k) (by omega))
        refine ⟨by omega, ?_⟩
        try simp only [I, B, D, RW, ↓ KW, fillA, setCells, stTags, flat, Nat.reduceBEq, Nat.reduceAdd, Nat.reduceLeDiff, Int.reduceNe, Int.reduceBEq, Int.reduceEq, reduceCtorEq, Nat.reduceMul, Int.reduceLT, Int.reduceLE, Int.reduceToNat, hph]
        refine cd_split (fun h2 => ?_) (fun h2 => ?_) <;> try simp only [I, B, D, RW, ↓ KW, fillA, setCells, stTags, flat, Nat.reduceBEq, Nat.reduceAdd, Nat.reduceLeDiff, Int.reduceNe, Int.reduceBEq, Int.reduceEq, reduceCtorEq, Nat.reduceMul, Int.reduceLT, Int.reduceLE, Int.reduceToNat, h2]
        · refine back (k + 1) _ (by omega) (by omega) (le_tok2 (by decide) ?_ ?_ ?_ ?_) <;> simp [intRow, ownSV, ownL, leSlots, lv_dat, lv_tok, lv_ptr, lv_rp, lv_undef, leBoxes, leTags, leLive, tokM, tokB, tokT, ren, liveInj, r_lk, r_lkN, r_lkB, r_lkN0, I, B, D, withV_some, hn, hl, h2, hw]
        · refine back (k + 1) _ (by omega) (by omega) (le_tok2 (by decide) ?_ ?_ ?_ ?_) <;> simp [intRow, ownSV, ownL, leSlots, lv_dat, lv_tok, lv_ptr, lv_rp, lv_undef, leBoxes, leTags, leLive, tokM, tokB, tokT, ren, liveInj, r_lk, r_lkN, r_lkB, r_lkN0, I, B, D, withV_some, hn, hl, h2, hw]
      · have : k = 8 := by have := of_decide_eq_false h; omega
        subst this
        try simp only [I, B, D, RW, ↓ KW, fillA, setCells, stTags, flat, Nat.reduceBEq, Nat.reduceAdd, Nat.reduceLeDiff, Int.reduceNe, Int.reduceBEq, Int.reduceEq, reduceCtorEq, Nat.reduceMul, Int.reduceLT, Int.reduceLE, Int.reduceToNat]
        refine call_is (hO none (by simp)) ?_
        try simp only [I, B, D, RW, ↓ KW, fillA, setCells, stTags, flat, Nat.reduceBEq, Nat.reduceAdd, Nat.reduceLeDiff, Int.reduceNe, Int.reduceBEq, Int.reduceEq, reduceCtorEq, Nat.reduceMul, Int.reduceLT, Int.reduceLE, Int.reduceToNat]
        simp [onI, hl]
    · try simp only [I, B, D, RW, ↓ KW, fillA, setCells, stTags, flat, Nat.reduceBEq, Nat.reduceAdd, Nat.reduceLeDiff, Int.reduceNe, Int.reduceBEq, Int.reduceEq, reduceCtorEq, Nat.reduceMul, Int.reduceLT, Int.reduceLE, Int.reduceToNat, ownSV, ownL, hl]
      refine cd_split (fun h => ?_) (fun h => ?_) <;> try simp only [I, B, D, RW, ↓ KW, fillA, setCells, stTags, flat, Nat.reduceBEq, Nat.reduceAdd, Nat.reduceLeDiff, Int.reduceNe, Int.reduceBEq, Int.reduceEq, reduceCtorEq, Nat.reduceMul, Int.reduceLT, Int.reduceLE, Int.reduceToNat, h]
      · have h8 := of_decide_eq_true h
        have hph := Tb.ph_all (phAt_get ht (k := k) (by omega))
        refine ⟨by omega, ?_⟩
        try simp only [I, B, D, RW, ↓ KW, fillA, setCells, stTags, flat, Nat.reduceBEq, Nat.reduceAdd, Nat.reduceLeDiff, Int.reduceNe, Int.reduceBEq, Int.reduceEq, reduceCtorEq, Nat.reduceMul, Int.reduceLT, Int.reduceLE, Int.reduceToNat, hph]
        refine cd_split (fun h2 => ?_) (fun h2 => ?_) <;> try simp only [I, B, D, RW, ↓ KW, fillA, setCells, stTags, flat, Nat.reduceBEq, Nat.reduceAdd, Nat.reduceLeDiff, Int.reduceNe, Int.reduceBEq, Int.reduceEq, reduceCtorEq, Nat.reduceMul, Int.reduceLT, Int.reduceLE, Int.reduceToNat, h2]
        · refine ⟨by omega, ?_⟩
          refine back (k + 1) _ (by omega) (by omega) (le_tok2 (by decide) ?_ ?_ ?_ ?_) <;> simp [intRow, ownSV, ownL, leSlots, lv_dat, lv_tok, lv_ptr, lv_rp, lv_undef, leBoxes, leTags, leLive, tokM, tokB, tokT, ren, liveInj, r_lk, r_lkN, r_lkB, r_lkN0, I, B, D, withV_some, hn, hl, h2, hw]
        · refine back (k + 1) _ (by omega) (by omega) (le_tok2 (by decide) ?_ ?_ ?_ ?_) <;> simp [intRow, ownSV, ownL, leSlots, lv_dat, lv_tok, lv_ptr, lv_rp, lv_undef, leBoxes, leTags, leLive, tokM, tokB, tokT, ren, liveInj, r_lk, r_lkN, r_lkB, r_lkN0, I, B, D, withV_some, hn, hl, h2, hw]
      · have : k = 8 := by have := of_decide_eq_false h; omega
        subst this
        try simp only [I, B, D, RW, ↓ KW, fillA, setCells, stTags, flat, Nat.reduceBEq, Nat.reduceAdd, Nat.reduceLeDiff, Int.reduceNe, Int.reduceBEq, Int.reduceEq, reduceCtorEq, Nat.reduceMul, Int.reduceLT, Int.reduceLE, Int.reduceToNat]
        refine call_is (hO (some (onTo t 8)) (by simp; omega)) ?_
        try simp only [I, B, D, RW, ↓ KW, fillA, setCells, stTags, flat, Nat.reduceBEq, Nat.reduceAdd, Nat.reduceLeDiff, Int.reduceNe, Int.reduceBEq, Int.reduceEq, reduceCtorEq, Nat.reduceMul, Int.reduceLT, Int.reduceLE, Int.reduceToNat]
        simp [onI]
  · refine le_tok2 (by decide) ?_ ?_ ?_ ?_ <;> simp [intRow, ownSV, ownL, leSlots, lv_dat, lv_tok, lv_ptr, lv_rp, lv_undef, leBoxes, leTags, leLive, tokM, tokB, tokT, ren, liveInj, r_lk, r_lkN, r_lkB, r_lkN0, I, B, D, withV_some, onTo]
end
end Go.Eng
namespace Go.Eng
set_option linter.unusedVariables false
set_option linter.unusedSimpArgs false
set_option linter.unnecessarySimpa false
open Go
set_option linter.unusedVariables false
set_option linter.unusedSimpArgs false
set_option maxRecDepth 10000
set_option maxHeartbeats 4000000
def clearI (t : Tb) : Int := mostI ((listS (onI t)).map fun p => sumI [(phAt t p).yellow, (phAt t p).red])
def clear.Spec (C : Con) (f : Nat) : Prop := ∀ (t : Tb), t.Ok → C.c f [.agg t.cells] (I (clearI t)) none
def serveI (t : Tb) (p : Int) : Int := if hasR (onI t) p then sumI [mostI [capI (phAt t p).min, sumI [(phAt t p).walk, (phAt t p).blinks], capI (phAt t p).top], t.extend, (phAt t p).yellow, (phAt t p).red, t.revert, 8] else 0
def serve.Spec (C : Con) (f : Nat) : Prop := ∀ (t : Tb) (p : Int), t.Ok → C.c f [.agg t.cells, I p] (I (serveI t p)) none
def passTo (t : Tb) (g : Int) (n : Nat) : List Int := 8 :: (((spots t).take n).filter (fun x => x.group == g)).map (fun x => serveI t x.p)
def passI (t : Tb) (g : Int) : Int := if g < 0 ∨ ((t.groups.getD []).length : Int) ≤ g then 0 else sumI (passTo t g (spots t).length)
def pass.Spec (C : Con) (f : Nat) : Prop := ∀ (t : Tb) (g : Int), t.Ok → C.c f [.agg t.cells, I g] (I (passI t g)) none
def freeI (t : Tb) (p : Int) : Int := if (whereR t p).2 && hasR (onI t) p then sumI (passI t (whereR t p).1.group :: (List.range (t.groups.getD []).length).map fun (g : Nat) => passI t g) else 0
def free.Spec (C : Con) (f : Nat) : Prop := ∀ (t : Tb) (p : Int), t.Ok → C.c f [.agg t.cells, I p] (I (freeI t p)) none
def rlAt (t : Tb) (k : Int) : Rl := (t.rails.getD []).getD k.toNat default
def entryI (t : Tb) (k : Int) : Int := if k < 0 ∨ ((t.rails.getD []).length : Int) ≤ k then 0 else
  sumI [(rlAt t k).delay, (rlAt t k).hold, (rlAt t k).green, (rlAt t k).green, (rlAt t k).foot, (rlAt t k).foot, (rlAt t k).foot, clearI t, clearI t, clearI t, clearI t, clearI t, t.revert, t.revert, t.revert, 60]
def entry.Spec (C : Con) (f : Nat) : Prop := ∀ (t : Tb) (k : Int), t.Ok → C.c f [.agg t.cells, I k] (I (entryI t k)) none
theorem hasR_range {s p : Int} (h : hasR s p = true) : 0 ≤ p ∧ p < 8 := by
  simp only [hasR, Bool.and_eq_true, decide_eq_true_eq] at h; exact h.1
theorem listS_range {s p : Int} (h : p ∈ listS s) : 0 ≤ p ∧ p < 8 := hasR_range (List.mem_filter.1 h).2
theorem listS_len (s : Int) : (listS s).length ≤ 8 := by
  have := List.length_filter_le (hasR s) ((List.range 8).map fun (k : Nat) => (k : Int))
  simpa [listS] using this
theorem mkO_getD {α : Type} (l : List α) : (mkO l).getD [] = l := by unfold mkO; split <;> simp_all
theorem map_take_next {α β : Type} {f : α → β} {l : List α} {i : Nat} {x : α} (h : l[i]? = some x) : (l.take (i + 1)).map f = (l.take i).map f ++ [f x] := by rw [take_next h]; simp
theorem passTo_next {t : Tb} {g : Int} {k : Nat} {x : Sp} (h : (spots t)[k]? = some x) : passTo t g (k + 1) = if x.group == g then passTo t g k ++ [serveI t x.p] else passTo t g k := by
  unfold passTo
  rw [take_next h, List.filter_append, List.map_append]
  by_cases hx : x.group == g <;> simp [hx]
theorem passTo_len (t : Tb) (g : Int) (k : Nat) : (passTo t g k).length ≤ k + 1 := by
  have := List.length_filter_le (fun x : Sp => x.group == g) ((spots t).take k)
  have h2 : ((spots t).take k).length ≤ k := List.length_take_le _ _
  simp only [passTo, List.length_cons, List.length_map]
  omega
section
variable {P : Program} (hm : P.follows .mixedOrders = true) {f : Nat}
include hm
theorem clear.ok {fO fL e fS fM : Nat} (hc : cFn P f = some (cc_ref08_clear fO fL e fS fM)) (hO : on.Spec (Pure P) fO) (hL : refList.Spec (Pure P) fL e) (hS : sum1.Spec (Pure P) fS) (hM : most.Spec (Pure P) fM) : clear.Spec (Pure P) f := by
  intro t ht
  have hl := Tb.len ht
  have hp := Tb.whole ht
  refine pure_of hm hc (by show 1 ≤ 32; decide) (aw_flat (keep := []) (i := 0) ?_)
  try simp only [I, B, D, RW, ↓ KW, fillA, setCells, stTags, flat, Nat.reduceBEq, Nat.reduceAdd, Nat.reduceLeDiff, Int.reduceNe, Int.reduceBEq, Int.reduceEq, reduceCtorEq, Nat.reduceMul, Int.reduceLT, Int.reduceLE, Int.reduceToNat, cc_ref08_clear, hp, hl]
  refine call_is (hO t ht) ?_
  try simp only [I, B, D, RW, ↓ KW, fillA, setCells, stTags, flat, Nat.reduceBEq, Nat.reduceAdd, Nat.reduceLeDiff, Int.reduceNe, Int.reduceBEq, Int.reduceEq, reduceCtorEq, Nat.reduceMul, Int.reduceLT, Int.reduceLE, Int.reduceToNat]
  refine call_is (hL _ none (.inl rfl)) ?_
  try simp only [I, B, D, RW, ↓ KW, fillA, setCells, stTags, flat, Nat.reduceBEq, Nat.reduceAdd, Nat.reduceLeDiff, Int.reduceNe, Int.reduceBEq, Int.reduceEq, reduceCtorEq, Nat.reduceMul, Int.reduceLT, Int.reduceLE, Int.reduceToNat]
  have hlen := listS_len (onI t)
  have hrg := @listS_range (onI t)
  have hmost : ∀ G, G = (listS (onI t)).map (fun p => sumI [(phAt t p).yellow, (phAt t p).red]) → clearI t = mostI G := fun G h => by rw [h]; rfl
  generalize listS (onI t) = L at *
  generalize hF : (fun p => sumI [(phAt t p).yellow, (phAt t p).red]) = F at *
  have hF' : ∀ p, F p = sumI [(phAt t p).yellow, (phAt t p).red] := fun p => by rw [← hF]
  have hmk := mkO_getD L
  refine aw_loop' (fun k : Nat => (⟨[(10, .dat (I k) none), (9, .dat (I L.length) none), (8, .dat (slAV intRow (mkO L)) none), (1, .ptr 4 0), (3, ownSV intRow ((L.take k).map F) 0)], [(4, ⟨t.cells, []⟩)], ownL ((L.take k).map F) 0 e, 400⟩ : S)) (fun k => L.length - k) (fun k => k ≤ L.length) ?_ 0 (by omega) ?_
  · intro k hk A back
    have hw := wrap_succ (k := k) (by omega)
    by_cases hl : (L.take k).map F = []
    all_goals
      try simp only [I, B, D, RW, ↓ KW, fillA, setCells, stTags, flat, Nat.reduceBEq, Nat.reduceAdd, Nat.reduceLeDiff, Int.reduceNe, Int.reduceBEq, Int.reduceEq, reduceCtorEq, Nat.reduceMul, Int.reduceLT, Int.reduceLE, Int.reduceToNat, ownSV, ownL, hl]
      refine cd_split (fun h => ?_) (fun h => ?_) <;> try simp only [I, B, D, RW, ↓ KW, fillA, setCells, stTags, flat, Nat.reduceBEq, Nat.reduceAdd, Nat.reduceLeDiff, Int.reduceNe, Int.reduceBEq, Int.reduceEq, reduceCtorEq, Nat.reduceMul, Int.reduceLT, Int.reduceLE, Int.reduceToNat, hmk, h]
    · have hlt : k < L.length := by have := of_decide_eq_true h; omega
      obtain ⟨x, hx⟩ : ∃ x, L[k]? = some x := ⟨_, List.getElem?_eq_getElem hlt⟩
      have hn := map_take_next (f := F) hx
      have hx8 := hrg (List.mem_of_getElem? hx)
      have hph := Tb.ph_int ht hx8.1 hx8.2
      refine ⟨by omega, ?_⟩
      try simp only [I, B, D, RW, ↓ KW, fillA, setCells, stTags, flat, Nat.reduceBEq, Nat.reduceAdd, Nat.reduceLeDiff, Int.reduceNe, Int.reduceBEq, Int.reduceEq, reduceCtorEq, Nat.reduceMul, Int.reduceLT, Int.reduceLE, Int.reduceToNat, hx, intRow]
      refine ⟨by omega, ?_⟩
      try simp only [I, B, D, RW, ↓ KW, fillA, setCells, stTags, flat, Nat.reduceBEq, Nat.reduceAdd, Nat.reduceLeDiff, Int.reduceNe, Int.reduceBEq, Int.reduceEq, reduceCtorEq, Nat.reduceMul, Int.reduceLT, Int.reduceLE, Int.reduceToNat, hph]
      refine ⟨by omega, ?_⟩
      try simp only [I, B, D, RW, ↓ KW, fillA, setCells, stTags, flat, Nat.reduceBEq, Nat.reduceAdd, Nat.reduceLeDiff, Int.reduceNe, Int.reduceBEq, Int.reduceEq, reduceCtorEq, Nat.reduceMul, Int.reduceLT, Int.reduceLE, Int.reduceToNat, hph]
      refine call_is (hS (some [(phAt t x).yellow, (phAt t x).red]) (by simp)) ?_
      try simp only [I, B, D, RW, ↓ KW, fillA, setCells, stTags, flat, Nat.reduceBEq, Nat.reduceAdd, Nat.reduceLeDiff, Int.reduceNe, Int.reduceBEq, Int.reduceEq, reduceCtorEq, Nat.reduceMul, Int.reduceLT, Int.reduceLE, Int.reduceToNat]
      refine back (k + 1) _ (by omega) (by omega) (le_tok2 (by decide) ?_ ?_ ?_ ?_) <;> simp [intRow, ownSV, ownL, leSlots, lv_dat, lv_tok, lv_ptr, lv_rp, lv_undef, leBoxes, leTags, leLive, tokM, tokB, tokT, ren, liveInj, r_lk, r_lkN, r_lkB, r_lkN0, I, B, D, withV_some, hn, hl, hw, hF']
    · have : k = L.length := by have := of_decide_eq_false h; omega
      subst this
      try simp only [I, B, D, RW, ↓ KW, fillA, setCells, stTags, flat, Nat.reduceBEq, Nat.reduceAdd, Nat.reduceLeDiff, Int.reduceNe, Int.reduceBEq, Int.reduceEq, reduceCtorEq, Nat.reduceMul, Int.reduceLT, Int.reduceLE, Int.reduceToNat]
      rw [List.take_length] at hl
      refine call_is (hM none (by simp)) ?_
      try simp only [I, B, D, RW, ↓ KW, fillA, setCells, stTags, flat, Nat.reduceBEq, Nat.reduceAdd, Nat.reduceLeDiff, Int.reduceNe, Int.reduceBEq, Int.reduceEq, reduceCtorEq, Nat.reduceMul, Int.reduceLT, Int.reduceLE, Int.reduceToNat]
      simp [hmost _ rfl, hl]
    · have hlt : k < L.length := by have := of_decide_eq_true h; omega
      obtain ⟨x, hx⟩ : ∃ x, L[k]? = some x := ⟨_, List.getElem?_eq_getElem hlt⟩
      have hn := map_take_next (f := F) hx
      have hx8 := hrg (List.mem_of_getElem? hx)
      have hph := Tb.ph_int ht hx8.1 hx8.2
      refine ⟨by omega, ?_⟩
      try simp only [I, B, D, RW, ↓ KW, fillA, setCells, stTags, flat, Nat.reduceBEq, Nat.reduceAdd, Nat.reduceLeDiff, Int.reduceNe, Int.reduceBEq, Int.reduceEq, reduceCtorEq, Nat.reduceMul, Int.reduceLT, Int.reduceLE, Int.reduceToNat, hx, intRow]
      refine ⟨by omega, ?_⟩
      try simp only [I, B, D, RW, ↓ KW, fillA, setCells, stTags, flat, Nat.reduceBEq, Nat.reduceAdd, Nat.reduceLeDiff, Int.reduceNe, Int.reduceBEq, Int.reduceEq, reduceCtorEq, Nat.reduceMul, Int.reduceLT, Int.reduceLE, Int.reduceToNat, hph]
      refine ⟨by omega, ?_⟩
      try simp only [I, B, D, RW, ↓ KW, fillA, setCells, stTags, flat, Nat.reduceBEq, Nat.reduceAdd, Nat.reduceLeDiff, Int.reduceNe, Int.reduceBEq, Int.reduceEq, reduceCtorEq, Nat.reduceMul, Int.reduceLT, Int.reduceLE, Int.reduceToNat, hph]
      refine call_is (hS (some [(phAt t x).yellow, (phAt t x).red]) (by simp)) ?_
      try simp only [I, B, D, RW, ↓ KW, fillA, setCells, stTags, flat, Nat.reduceBEq, Nat.reduceAdd, Nat.reduceLeDiff, Int.reduceNe, Int.reduceBEq, Int.reduceEq, reduceCtorEq, Nat.reduceMul, Int.reduceLT, Int.reduceLE, Int.reduceToNat]
      refine ⟨by simp; omega, ?_⟩
      refine back (k + 1) _ (by omega) (by omega) (le_tok2 (by decide) ?_ ?_ ?_ ?_) <;> simp [intRow, ownSV, ownL, leSlots, lv_dat, lv_tok, lv_ptr, lv_rp, lv_undef, leBoxes, leTags, leLive, tokM, tokB, tokT, ren, liveInj, r_lk, r_lkN, r_lkB, r_lkN0, I, B, D, withV_some, hn, hl, hw, hF']
    · have : k = L.length := by have := of_decide_eq_false h; omega
      subst this
      rw [List.take_length] at *
      try simp only [I, B, D, RW, ↓ KW, fillA, setCells, stTags, flat, Nat.reduceBEq, Nat.reduceAdd, Nat.reduceLeDiff, Int.reduceNe, Int.reduceBEq, Int.reduceEq, reduceCtorEq, Nat.reduceMul, Int.reduceLT, Int.reduceLE, Int.reduceToNat]
      refine call_is (hM (some (L.map F)) (by simp; omega)) ?_
      try simp only [I, B, D, RW, ↓ KW, fillA, setCells, stTags, flat, Nat.reduceBEq, Nat.reduceAdd, Nat.reduceLeDiff, Int.reduceNe, Int.reduceBEq, Int.reduceEq, reduceCtorEq, Nat.reduceMul, Int.reduceLT, Int.reduceLE, Int.reduceToNat]
      simp [hmost _ rfl]
  · refine le_tok2 (by decide) ?_ ?_ ?_ ?_ <;> simp [intRow, ownSV, ownL, leSlots, lv_dat, lv_tok, lv_ptr, lv_rp, lv_undef, leBoxes, leTags, leLive, tokM, tokB, tokT, ren, liveInj, r_lk, r_lkN, r_lkB, r_lkN0, I, B, D, withV_some, hmk]
theorem serve.ok {fO fH fC e fS fM : Nat} (hc : cFn P f = some (cc_ref08_Serve fO fH fC e fS fM)) (hO : on.Spec (Pure P) fO) (hH : refHas.Spec (Pure P) fH) (hC : Cap.Spec (Pure P) fC) (hS : sum1.Spec (Pure P) fS) (hM : most.Spec (Pure P) fM) : serve.Spec (Pure P) f := by
  intro t p ht
  have hl := Tb.len ht
  have hp := Tb.whole ht
  have htl := Tb.tail_at ht
  have h116 := htl 0 (by omega)
  have h119 := htl 3 (by omega)
  refine pure_of hm hc (by show 2 ≤ 39; decide) (aw_flat (keep := []) (i := 0) ?_)
  try simp only [I, B, D, RW, ↓ KW, fillA, setCells, stTags, flat, Nat.reduceBEq, Nat.reduceAdd, Nat.reduceLeDiff, Int.reduceNe, Int.reduceBEq, Int.reduceEq, reduceCtorEq, Nat.reduceMul, Int.reduceLT, Int.reduceLE, Int.reduceToNat, cc_ref08_Serve, hp, hl]
  refine call_is (hO t ht) ?_
  try simp only [I, B, D, RW, ↓ KW, fillA, setCells, stTags, flat, Nat.reduceBEq, Nat.reduceAdd, Nat.reduceLeDiff, Int.reduceNe, Int.reduceBEq, Int.reduceEq, reduceCtorEq, Nat.reduceMul, Int.reduceLT, Int.reduceLE, Int.reduceToNat]
  refine call_is (hH _ _) ?_
  try simp only [I, B, D, RW, ↓ KW, fillA, setCells, stTags, flat, Nat.reduceBEq, Nat.reduceAdd, Nat.reduceLeDiff, Int.reduceNe, Int.reduceBEq, Int.reduceEq, reduceCtorEq, Nat.reduceMul, Int.reduceLT, Int.reduceLE, Int.reduceToNat]
  by_cases h : hasR (onI t) p = true
  · have hr := hasR_range h
    have hph := Tb.ph_whole ht hr.1 hr.2
    have hx : serveI t p = sumI [mostI [capI (phAt t p).min, sumI [(phAt t p).walk, (phAt t p).blinks], capI (phAt t p).top], t.extend, (phAt t p).yellow, (phAt t p).red, t.revert, 8] := if_pos h
    generalize phAt t p = x at *
    try simp only [I, B, D, RW, ↓ KW, fillA, setCells, stTags, flat, Nat.reduceBEq, Nat.reduceAdd, Nat.reduceLeDiff, Int.reduceNe, Int.reduceBEq, Int.reduceEq, reduceCtorEq, Nat.reduceMul, Int.reduceLT, Int.reduceLE, Int.reduceToNat, h]
    refine ⟨by omega, ?_⟩
    try simp only [I, B, D, RW, ↓ KW, fillA, setCells, stTags, flat, Nat.reduceBEq, Nat.reduceAdd, Nat.reduceLeDiff, Int.reduceNe, Int.reduceBEq, Int.reduceEq, reduceCtorEq, Nat.reduceMul, Int.reduceLT, Int.reduceLE, Int.reduceToNat, hph, Ph.cells, z13_14216]
    refine call_is (hC _) ?_
    try simp only [I, B, D, RW, ↓ KW, fillA, setCells, stTags, flat, Nat.reduceBEq, Nat.reduceAdd, Nat.reduceLeDiff, Int.reduceNe, Int.reduceBEq, Int.reduceEq, reduceCtorEq, Nat.reduceMul, Int.reduceLT, Int.reduceLE, Int.reduceToNat]
    refine call_is (hS (some [x.walk, x.blinks]) (by simp)) ?_
    try simp only [I, B, D, RW, ↓ KW, fillA, setCells, stTags, flat, Nat.reduceBEq, Nat.reduceAdd, Nat.reduceLeDiff, Int.reduceNe, Int.reduceBEq, Int.reduceEq, reduceCtorEq, Nat.reduceMul, Int.reduceLT, Int.reduceLE, Int.reduceToNat]
    refine call_is (hC _) ?_
    try simp only [I, B, D, RW, ↓ KW, fillA, setCells, stTags, flat, Nat.reduceBEq, Nat.reduceAdd, Nat.reduceLeDiff, Int.reduceNe, Int.reduceBEq, Int.reduceEq, reduceCtorEq, Nat.reduceMul, Int.reduceLT, Int.reduceLE, Int.reduceToNat]
    refine call_is (hM (some [_, _, _]) (by simp)) ?_
    try simp only [I, B, D, RW, ↓ KW, fillA, setCells, stTags, flat, Nat.reduceBEq, Nat.reduceAdd, Nat.reduceLeDiff, Int.reduceNe, Int.reduceBEq, Int.reduceEq, reduceCtorEq, Nat.reduceMul, Int.reduceLT, Int.reduceLE, Int.reduceToNat, h116, h119]
    refine call_is (hS (some [_, _, _, _, _, _]) (by simp)) ?_
    try simp only [I, B, D, RW, ↓ KW, fillA, setCells, stTags, flat, Nat.reduceBEq, Nat.reduceAdd, Nat.reduceLeDiff, Int.reduceNe, Int.reduceBEq, Int.reduceEq, reduceCtorEq, Nat.reduceMul, Int.reduceLT, Int.reduceLE, Int.reduceToNat, hx]
    rfl
  · have hx : serveI t p = 0 := if_neg h
    simp only [Bool.not_eq_true] at h
    try simp only [I, B, D, RW, ↓ KW, fillA, setCells, stTags, flat, Nat.reduceBEq, Nat.reduceAdd, Nat.reduceLeDiff, Int.reduceNe, Int.reduceBEq, Int.reduceEq, reduceCtorEq, Nat.reduceMul, Int.reduceLT, Int.reduceLE, Int.reduceToNat, h, hx]
theorem pass.ok {e fS fV fs e' : Nat} (hc : cFn P f = some (cc_ref08_Pass e fS fV fs)) (hS : spots.Spec (Pure P) fS e') (hV : serve.Spec (Pure P) fV) (hs : sum1.Spec (Pure P) fs) : pass.Spec (Pure P) f := by
  intro t g ht
  have hl := Tb.len ht
  have hp := Tb.whole ht
  have hg := Tb.groups_at ht
  refine pure_of hm hc (by show 2 ≤ 39; decide) (aw_flat (keep := []) (i := 0) ?_)
  try simp only [I, B, D, RW, ↓ KW, fillA, setCells, stTags, flat, Nat.reduceBEq, Nat.reduceAdd, Nat.reduceLeDiff, Int.reduceNe, Int.reduceBEq, Int.reduceEq, reduceCtorEq, Nat.reduceMul, Int.reduceLT, Int.reduceLE, Int.reduceToNat, cc_ref08_Pass, hp, hl]
  by_cases h0 : g < 0 ∨ ((t.groups.getD []).length : Int) ≤ g
  · have hx : passI t g = 0 := if_pos h0
    repeat' (first | (refine gd_split (fun h => ?_) (fun h => ?_) <;> try simp only [I, B, D, RW, ↓ KW, fillA, setCells, stTags, flat, Nat.reduceBEq, Nat.reduceAdd, Nat.reduceLeDiff, Int.reduceNe, Int.reduceBEq, Int.reduceEq, reduceCtorEq, Nat.reduceMul, Int.reduceLT, Int.reduceLE, Int.reduceToNat, hg, hx, h]) | (refine cd_split (fun h => ?_) (fun h => ?_) <;> try simp only [I, B, D, RW, ↓ KW, fillA, setCells, stTags, flat, Nat.reduceBEq, Nat.reduceAdd, Nat.reduceLeDiff, Int.reduceNe, Int.reduceBEq, Int.reduceEq, reduceCtorEq, Nat.reduceMul, Int.reduceLT, Int.reduceLE, Int.reduceToNat, hg, hx, h]) | (refine pk_split (fun h => ?_) (fun h => ?_) <;> try simp only [I, B, D, RW, ↓ KW, fillA, setCells, stTags, flat, Nat.reduceBEq, Nat.reduceAdd, Nat.reduceLeDiff, Int.reduceNe, Int.reduceBEq, Int.reduceEq, reduceCtorEq, Nat.reduceMul, Int.reduceLT, Int.reduceLE, Int.reduceToNat, hg, hx, h]))
    simp_all
    omega
  · have hx : passI t g = sumI (passTo t g (spots t).length) := if_neg h0
    have h1 : decide (g < 0) = false := by simp; omega
    have h2 : decide (((t.groups.getD []).length : Int) ≤ g) = false := by simp; omega
    try simp only [I, B, D, RW, ↓ KW, fillA, setCells, stTags, flat, Nat.reduceBEq, Nat.reduceAdd, Nat.reduceLeDiff, Int.reduceNe, Int.reduceBEq, Int.reduceEq, reduceCtorEq, Nat.reduceMul, Int.reduceLT, Int.reduceLE, Int.reduceToNat, h1, hg, h2, hp]
    refine call_is (hS t none ht (.inl rfl)) ?_
    have hsz := spots_len ht
    have hmk := mkO_getD (spots t)
    try simp only [I, B, D, RW, ↓ KW, fillA, setCells, stTags, flat, Nat.reduceBEq, Nat.reduceAdd, Nat.reduceLeDiff, Int.reduceNe, Int.reduceBEq, Int.reduceEq, reduceCtorEq, Nat.reduceMul, Int.reduceLT, Int.reduceLE, Int.reduceToNat, hmk]
    generalize hS' : spots t = Z at *
    refine aw_loop' (fun k : Nat => (⟨[(21, .dat (I k) none), (20, .dat (I Z.length) none), (19, .dat (slAV Sp.cells (mkO Z)) none), (1, .dat (I g) none), (2, .ptr 4 0), (5, ownSV intRow (passTo t g k) 0)], [(4, ⟨t.cells, []⟩)], ownL (passTo t g k) 0 e, 400⟩ : S)) (fun k => Z.length - k) (fun k => k ≤ Z.length) ?_ 0 (by omega) ?_
    · intro k hk A back
      have hw := wrap_succ (k := k) (by omega)
      have hne : passTo t g k ≠ [] := by simp [passTo]
      try simp only [I, B, D, RW, ↓ KW, fillA, setCells, stTags, flat, Nat.reduceBEq, Nat.reduceAdd, Nat.reduceLeDiff, Int.reduceNe, Int.reduceBEq, Int.reduceEq, reduceCtorEq, Nat.reduceMul, Int.reduceLT, Int.reduceLE, Int.reduceToNat, ownSV, ownL, hne]
      refine cd_split (fun h => ?_) (fun h => ?_) <;> try simp only [I, B, D, RW, ↓ KW, fillA, setCells, stTags, flat, Nat.reduceBEq, Nat.reduceAdd, Nat.reduceLeDiff, Int.reduceNe, Int.reduceBEq, Int.reduceEq, reduceCtorEq, Nat.reduceMul, Int.reduceLT, Int.reduceLE, Int.reduceToNat, hmk, hp, h]
      · have hlt : k < Z.length := by have := of_decide_eq_true h; omega
        obtain ⟨x, hx⟩ : ∃ x, Z[k]? = some x := ⟨_, List.getElem?_eq_getElem hlt⟩
        have hn : passTo t g (k + 1) = if x.group == g then passTo t g k ++ [serveI t x.p] else passTo t g k := passTo_next (by rw [hS']; exact hx)
        have hlen := passTo_len t g k
        refine ⟨by omega, ?_⟩
        try simp only [I, B, D, RW, ↓ KW, fillA, setCells, stTags, flat, Nat.reduceBEq, Nat.reduceAdd, Nat.reduceLeDiff, Int.reduceNe, Int.reduceBEq, Int.reduceEq, reduceCtorEq, Nat.reduceMul, Int.reduceLT, Int.reduceLE, Int.reduceToNat, hx, Sp.len, Sp.cells]
        refine cd_split (fun h2 => ?_) (fun h2 => ?_) <;> try simp only [I, B, D, RW, ↓ KW, fillA, setCells, stTags, flat, Nat.reduceBEq, Nat.reduceAdd, Nat.reduceLeDiff, Int.reduceNe, Int.reduceBEq, Int.reduceEq, reduceCtorEq, Nat.reduceMul, Int.reduceLT, Int.reduceLE, Int.reduceToNat, hp, h2]
        · refine call_is (hV t _ ht) ?_
          try simp only [I, B, D, RW, ↓ KW, fillA, setCells, stTags, flat, Nat.reduceBEq, Nat.reduceAdd, Nat.reduceLeDiff, Int.reduceNe, Int.reduceBEq, Int.reduceEq, reduceCtorEq, Nat.reduceMul, Int.reduceLT, Int.reduceLE, Int.reduceToNat]
          refine ⟨by omega, ?_⟩
          refine back (k + 1) _ (by omega) (by omega) (le_tok2 (by decide) ?_ ?_ ?_ ?_) <;> simp [intRow, ownSV, ownL, leSlots, lv_dat, lv_tok, lv_ptr, lv_rp, lv_undef, leBoxes, leTags, leLive, tokM, tokB, tokT, ren, liveInj, r_lk, r_lkN, r_lkB, r_lkN0, I, B, D, withV_some, hn, hw, h2, hne]
        · refine back (k + 1) _ (by omega) (by omega) (le_tok2 (by decide) ?_ ?_ ?_ ?_) <;> simp [intRow, ownSV, ownL, leSlots, lv_dat, lv_tok, lv_ptr, lv_rp, lv_undef, leBoxes, leTags, leLive, tokM, tokB, tokT, ren, liveInj, r_lk, r_lkN, r_lkB, r_lkN0, I, B, D, withV_some, hn, hw, h2, hne]
      · have : k = Z.length := by have := of_decide_eq_false h; omega
        subst this
        have hlen := passTo_len t g Z.length
        try simp only [I, B, D, RW, ↓ KW, fillA, setCells, stTags, flat, Nat.reduceBEq, Nat.reduceAdd, Nat.reduceLeDiff, Int.reduceNe, Int.reduceBEq, Int.reduceEq, reduceCtorEq, Nat.reduceMul, Int.reduceLT, Int.reduceLE, Int.reduceToNat]
        refine call_is (hs (some (passTo t g Z.length)) (by simp; omega)) ?_
        try simp only [I, B, D, RW, ↓ KW, fillA, setCells, stTags, flat, Nat.reduceBEq, Nat.reduceAdd, Nat.reduceLeDiff, Int.reduceNe, Int.reduceBEq, Int.reduceEq, reduceCtorEq, Nat.reduceMul, Int.reduceLT, Int.reduceLE, Int.reduceToNat, hx]
        rfl
    · refine le_tok2 (by decide) ?_ ?_ ?_ ?_ <;> simp [intRow, ownSV, ownL, leSlots, lv_dat, lv_tok, lv_ptr, lv_rp, lv_undef, leBoxes, leTags, leLive, tokM, tokB, tokT, ren, liveInj, r_lk, r_lkN, r_lkB, r_lkN0, I, B, D, withV_some, passTo, hmk, serveI]
end
end Go.Eng
namespace Go.Eng
set_option linter.unusedVariables false
set_option linter.unusedSimpArgs false
set_option linter.unnecessarySimpa false
open Go
set_option linter.unusedVariables false
set_option linter.unusedSimpArgs false
set_option maxRecDepth 10000
set_option maxHeartbeats 4000000
def freeTo (t : Tb) (p : Int) (n : Nat) : List Int := passI t (whereR t p).1.group :: (List.range n).map fun (g : Nat) => passI t g
theorem freeTo_next (t : Tb) (p : Int) (n : Nat) : freeTo t p (n + 1) = freeTo t p n ++ [passI t n] := by simp [freeTo, List.range_succ]
def stayTo (t : Tb) (n : Nat) : List Int := (List.range n).map fun (k : Nat) => sumI [entryI t k, (rlAt t k).stay]
theorem stayTo_next (t : Tb) (n : Nat) : stayTo t (n + 1) = stayTo t n ++ [sumI [entryI t n, (rlAt t n).stay]] := by simp [stayTo, List.range_succ]
def needOf (t : Tb) (l : List Int) : List Int := l.flatMap fun p => [capI (phAt t p).min, sumI [(phAt t p).walk, (phAt t p).blinks]]
theorem needOf_next {t : Tb} {l : List Int} {i : Nat} {x : Int} (h : l[i]? = some x) : needOf t (l.take (i + 1)) = needOf t (l.take i) ++ [capI (phAt t x).min, sumI [(phAt t x).walk, (phAt t x).blinks]] := by rw [take_next h]; simp [needOf]
theorem needOf_len (t : Tb) (l : List Int) : (needOf t l).length = l.length * 2 := by
  induction l with
  | nil => rfl
  | cons x l ih => simp only [needOf, List.flatMap_cons, List.length_append, List.length_cons, List.length_nil] at ih ⊢; omega
def overI (t : Tb) : Int := if (t.rails.getD []).length = 0 then 0 else sumI [mostI (stayTo t (t.rails.getD []).length), mostI (needOf t (listS (onI t))), clearI t, t.revert, 30]
def over.Spec (C : Con) (f : Nat) : Prop := ∀ (t : Tb), t.Ok → C.c f [.agg t.cells] (I (overI t)) none
def waitI (t : Tb) (p : Int) : Int := if freeI t p = 0 ∨ (t.rails.getD []).length = 0 then freeI t p else sumI [mulI (sumI [t.share, 1]) (sumI [overI t, freeI t p, 2]), t.share]
def wait.Spec (C : Con) (f : Nat) : Prop := ∀ (t : Tb) (p : Int), t.Ok → C.c f [.agg t.cells, I p] (I (waitI t p)) none
theorem Rl.len (r : Rl) : r.cells.length = 11 := rfl
theorem rlAt_get {t : Tb} {k : Int} (h0 : 0 ≤ k) (h1 : k < ((t.rails.getD []).length : Int)) : (t.rails.getD [])[k.toNat]? = some (rlAt t k) := by
  have : k.toNat < (t.rails.getD []).length := by omega
  simp [rlAt, this]
section
variable {P : Program} (hm : P.follows .mixedOrders = true) {f : Nat}
include hm
theorem free.ok {fW fO fH fP e fs : Nat} (hc : cFn P f = some (cc_ref08_Free fW fO fH fP e fs)) (hW : where.Spec (Pure P) fW) (hO : on.Spec (Pure P) fO) (hH : refHas.Spec (Pure P) fH) (hP : pass.Spec (Pure P) fP) (hs : sum1.Spec (Pure P) fs) : free.Spec (Pure P) f := by
  intro t p ht
  have hl := Tb.len ht
  have hp := Tb.whole ht
  have hg := Tb.groups_at ht
  have hb := ht.groups
  refine pure_of hm hc (by show 2 ≤ 44; decide) (aw_flat (keep := []) (i := 0) ?_)
  try simp only [I, B, D, RW, ↓ KW, fillA, setCells, stTags, flat, Nat.reduceBEq, Nat.reduceAdd, Nat.reduceLeDiff, Int.reduceNe, Int.reduceBEq, Int.reduceEq, reduceCtorEq, Nat.reduceMul, Int.reduceLT, Int.reduceLE, Int.reduceToNat, cc_ref08_Free, hp, hl]
  refine call_is (hW t _ ht) ?_
  try simp only [I, B, D, RW, ↓ KW, fillA, setCells, stTags, flat, Nat.reduceBEq, Nat.reduceAdd, Nat.reduceLeDiff, Int.reduceNe, Int.reduceBEq, Int.reduceEq, reduceCtorEq, Nat.reduceMul, Int.reduceLT, Int.reduceLE, Int.reduceToNat, hp, Sp.cells]
  by_cases h0 : ((whereR t p).2 && hasR (onI t) p) = true
  · have hx : freeI t p = sumI (freeTo t p (t.groups.getD []).length) := if_pos h0
    simp only [Bool.and_eq_true] at h0
    try simp only [I, B, D, RW, ↓ KW, fillA, setCells, stTags, flat, Nat.reduceBEq, Nat.reduceAdd, Nat.reduceLeDiff, Int.reduceNe, Int.reduceBEq, Int.reduceEq, reduceCtorEq, Nat.reduceMul, Int.reduceLT, Int.reduceLE, Int.reduceToNat, h0, hp]
    refine call_is (hO t ht) ?_
    try simp only [I, B, D, RW, ↓ KW, fillA, setCells, stTags, flat, Nat.reduceBEq, Nat.reduceAdd, Nat.reduceLeDiff, Int.reduceNe, Int.reduceBEq, Int.reduceEq, reduceCtorEq, Nat.reduceMul, Int.reduceLT, Int.reduceLE, Int.reduceToNat]
    refine call_is (hH _ _) ?_
    try simp only [I, B, D, RW, ↓ KW, fillA, setCells, stTags, flat, Nat.reduceBEq, Nat.reduceAdd, Nat.reduceLeDiff, Int.reduceNe, Int.reduceBEq, Int.reduceEq, reduceCtorEq, Nat.reduceMul, Int.reduceLT, Int.reduceLE, Int.reduceToNat, h0, hp]
    refine call_is (hP t _ ht) ?_
    try simp only [I, B, D, RW, ↓ KW, fillA, setCells, stTags, flat, Nat.reduceBEq, Nat.reduceAdd, Nat.reduceLeDiff, Int.reduceNe, Int.reduceBEq, Int.reduceEq, reduceCtorEq, Nat.reduceMul, Int.reduceLT, Int.reduceLE, Int.reduceToNat]
    refine aw_loop' (fun k : Nat => (⟨[(8, .dat (I k) none), (2, .ptr 4 0), (7, ownSV intRow (freeTo t p k) 0)], [(4, ⟨t.cells, []⟩)], ownL (freeTo t p k) 0 e, 400⟩ : S)) (fun k => (t.groups.getD []).length - k) (fun k => k ≤ (t.groups.getD []).length) ?_ 0 (by omega) ?_
    · intro k hk A back
      have hw := wrap_succ (k := k) (by omega)
      have hne : freeTo t p k ≠ [] := by simp [freeTo]
      have hn := freeTo_next t p k
      have hlen : (freeTo t p k).length = k + 1 := by simp [freeTo]
      try simp only [I, B, D, RW, ↓ KW, fillA, setCells, stTags, flat, Nat.reduceBEq, Nat.reduceAdd, Nat.reduceLeDiff, Int.reduceNe, Int.reduceBEq, Int.reduceEq, reduceCtorEq, Nat.reduceMul, Int.reduceLT, Int.reduceLE, Int.reduceToNat, ownSV, ownL, hne, hg]
      refine cd_split (fun h => ?_) (fun h => ?_) <;> try simp only [I, B, D, RW, ↓ KW, fillA, setCells, stTags, flat, Nat.reduceBEq, Nat.reduceAdd, Nat.reduceLeDiff, Int.reduceNe, Int.reduceBEq, Int.reduceEq, reduceCtorEq, Nat.reduceMul, Int.reduceLT, Int.reduceLE, Int.reduceToNat, hp, h]
      · have : k < (t.groups.getD []).length := by have := of_decide_eq_true h; omega
        refine call_is (hP t _ ht) ?_
        try simp only [I, B, D, RW, ↓ KW, fillA, setCells, stTags, flat, Nat.reduceBEq, Nat.reduceAdd, Nat.reduceLeDiff, Int.reduceNe, Int.reduceBEq, Int.reduceEq, reduceCtorEq, Nat.reduceMul, Int.reduceLT, Int.reduceLE, Int.reduceToNat]
        refine ⟨by omega, ?_⟩
        refine back (k + 1) _ (by omega) (by omega) (le_tok2 (by decide) ?_ ?_ ?_ ?_) <;> simp [intRow, ownSV, ownL, leSlots, lv_dat, lv_tok, lv_ptr, lv_rp, lv_undef, leBoxes, leTags, leLive, tokM, tokB, tokT, ren, liveInj, r_lk, r_lkN, r_lkB, r_lkN0, I, B, D, withV_some, hn, hw, hne]
      · have : k = (t.groups.getD []).length := by have := of_decide_eq_false h; omega
        subst this
        try simp only [I, B, D, RW, ↓ KW, fillA, setCells, stTags, flat, Nat.reduceBEq, Nat.reduceAdd, Nat.reduceLeDiff, Int.reduceNe, Int.reduceBEq, Int.reduceEq, reduceCtorEq, Nat.reduceMul, Int.reduceLT, Int.reduceLE, Int.reduceToNat]
        refine call_is (hs (some (freeTo t p (t.groups.getD []).length)) (by simp; omega)) ?_
        try simp only [I, B, D, RW, ↓ KW, fillA, setCells, stTags, flat, Nat.reduceBEq, Nat.reduceAdd, Nat.reduceLeDiff, Int.reduceNe, Int.reduceBEq, Int.reduceEq, reduceCtorEq, Nat.reduceMul, Int.reduceLT, Int.reduceLE, Int.reduceToNat, hx]
        rfl
    · refine le_tok2 (by decide) ?_ ?_ ?_ ?_ <;> simp [intRow, ownSV, ownL, leSlots, lv_dat, lv_tok, lv_ptr, lv_rp, lv_undef, leBoxes, leTags, leLive, tokM, tokB, tokT, ren, liveInj, r_lk, r_lkN, r_lkB, r_lkN0, I, B, D, withV_some, freeTo]
  · have hx : freeI t p = 0 := if_neg h0
    repeat' (first | (refine call_is (hO t ht) ?_; try simp only [I, B, D, RW, ↓ KW, fillA, setCells, stTags, flat, Nat.reduceBEq, Nat.reduceAdd, Nat.reduceLeDiff, Int.reduceNe, Int.reduceBEq, Int.reduceEq, reduceCtorEq, Nat.reduceMul, Int.reduceLT, Int.reduceLE, Int.reduceToNat, hp, hx]) | (refine call_is (hH _ _) ?_; try simp only [I, B, D, RW, ↓ KW, fillA, setCells, stTags, flat, Nat.reduceBEq, Nat.reduceAdd, Nat.reduceLeDiff, Int.reduceNe, Int.reduceBEq, Int.reduceEq, reduceCtorEq, Nat.reduceMul, Int.reduceLT, Int.reduceLE, Int.reduceToNat, hp, hx]) | (refine gd_split (fun h => ?_) (fun h => ?_) <;> try simp only [I, B, D, RW, ↓ KW, fillA, setCells, stTags, flat, Nat.reduceBEq, Nat.reduceAdd, Nat.reduceLeDiff, Int.reduceNe, Int.reduceBEq, Int.reduceEq, reduceCtorEq, Nat.reduceMul, Int.reduceLT, Int.reduceLE, Int.reduceToNat, hp, hx, h]) | (refine cd_split (fun h => ?_) (fun h => ?_) <;> try simp only [I, B, D, RW, ↓ KW, fillA, setCells, stTags, flat, Nat.reduceBEq, Nat.reduceAdd, Nat.reduceLeDiff, Int.reduceNe, Int.reduceBEq, Int.reduceEq, reduceCtorEq, Nat.reduceMul, Int.reduceLT, Int.reduceLE, Int.reduceToNat, hp, hx, h]) | (refine pk_split (fun h => ?_) (fun h => ?_) <;> try simp only [I, B, D, RW, ↓ KW, fillA, setCells, stTags, flat, Nat.reduceBEq, Nat.reduceAdd, Nat.reduceLeDiff, Int.reduceNe, Int.reduceBEq, Int.reduceEq, reduceCtorEq, Nat.reduceMul, Int.reduceLT, Int.reduceLE, Int.reduceToNat, hp, hx, h]))
    all_goals simp_all
theorem entry.ok {fC e fs : Nat} (hc : cFn P f = some (cc_ref08_Entry fC e fs)) (hC : clear.Spec (Pure P) fC) (hs : sum1.Spec (Pure P) fs) : entry.Spec (Pure P) f := by
  intro t k ht
  have hl := Tb.len ht
  have hp := Tb.whole ht
  have hg := Tb.rails_at ht
  have h119 := Tb.tail_at ht 3 (by omega)
  refine pure_of hm hc (by show 2 ≤ 50; decide) (aw_flat (keep := []) (i := 0) ?_)
  try simp only [I, B, D, RW, ↓ KW, fillA, setCells, stTags, flat, Nat.reduceBEq, Nat.reduceAdd, Nat.reduceLeDiff, Int.reduceNe, Int.reduceBEq, Int.reduceEq, reduceCtorEq, Nat.reduceMul, Int.reduceLT, Int.reduceLE, Int.reduceToNat, cc_ref08_Entry, hp, hl]
  by_cases h0 : k < 0 ∨ ((t.rails.getD []).length : Int) ≤ k
  · have hx : entryI t k = 0 := if_pos h0
    repeat' (first | (refine gd_split (fun h => ?_) (fun h => ?_) <;> try simp only [I, B, D, RW, ↓ KW, fillA, setCells, stTags, flat, Nat.reduceBEq, Nat.reduceAdd, Nat.reduceLeDiff, Int.reduceNe, Int.reduceBEq, Int.reduceEq, reduceCtorEq, Nat.reduceMul, Int.reduceLT, Int.reduceLE, Int.reduceToNat, hg, hx, h]) | (refine cd_split (fun h => ?_) (fun h => ?_) <;> try simp only [I, B, D, RW, ↓ KW, fillA, setCells, stTags, flat, Nat.reduceBEq, Nat.reduceAdd, Nat.reduceLeDiff, Int.reduceNe, Int.reduceBEq, Int.reduceEq, reduceCtorEq, Nat.reduceMul, Int.reduceLT, Int.reduceLE, Int.reduceToNat, hg, hx, h]) | (refine pk_split (fun h => ?_) (fun h => ?_) <;> try simp only [I, B, D, RW, ↓ KW, fillA, setCells, stTags, flat, Nat.reduceBEq, Nat.reduceAdd, Nat.reduceLeDiff, Int.reduceNe, Int.reduceBEq, Int.reduceEq, reduceCtorEq, Nat.reduceMul, Int.reduceLT, Int.reduceLE, Int.reduceToNat, hg, hx, h]))
    simp_all
    omega
  · have hx := show entryI t k = _ from if_neg h0
    have h1 : decide (k < 0) = false := by simp; omega
    have h2 : decide (((t.rails.getD []).length : Int) ≤ k) = false := by simp; omega
    have hr := rlAt_get (t := t) (k := k) (by omega) (by omega)
    try simp only [I, B, D, RW, ↓ KW, fillA, setCells, stTags, flat, Nat.reduceBEq, Nat.reduceAdd, Nat.reduceLeDiff, Int.reduceNe, Int.reduceBEq, Int.reduceEq, reduceCtorEq, Nat.reduceMul, Int.reduceLT, Int.reduceLE, Int.reduceToNat, h1, h2, hg]
    refine ⟨by omega, ?_⟩
    try simp only [I, B, D, RW, ↓ KW, fillA, setCells, stTags, flat, Nat.reduceBEq, Nat.reduceAdd, Nat.reduceLeDiff, Int.reduceNe, Int.reduceBEq, Int.reduceEq, reduceCtorEq, Nat.reduceMul, Int.reduceLT, Int.reduceLE, Int.reduceToNat, hr, Rl.len, Rl.cells, z11_58867, hp]
    refine call_is (hC t ht) ?_
    try simp only [I, B, D, RW, ↓ KW, fillA, setCells, stTags, flat, Nat.reduceBEq, Nat.reduceAdd, Nat.reduceLeDiff, Int.reduceNe, Int.reduceBEq, Int.reduceEq, reduceCtorEq, Nat.reduceMul, Int.reduceLT, Int.reduceLE, Int.reduceToNat, h119]
    refine call_is (hs (some [_, _, _, _, _, _, _, _, _, _, _, _, _, _, _, _]) (by simp)) ?_
    try simp only [I, B, D, RW, ↓ KW, fillA, setCells, stTags, flat, Nat.reduceBEq, Nat.reduceAdd, Nat.reduceLeDiff, Int.reduceNe, Int.reduceBEq, Int.reduceEq, reduceCtorEq, Nat.reduceMul, Int.reduceLT, Int.reduceLE, Int.reduceToNat, hx]
    rfl
theorem wait.ok {fF e fs fO fM : Nat} (hc : cFn P f = some (cc_ref08_Wait fF e fs fO fM)) (hF : free.Spec (Pure P) fF) (hs : sum1.Spec (Pure P) fs) (hO : over.Spec (Pure P) fO) (hM : Mul.Spec (Pure P) fM) : wait.Spec (Pure P) f := by
  intro t p ht
  have hl := Tb.len ht
  have hp := Tb.whole ht
  have hg := Tb.rails_at ht
  have h130 := Tb.share_at ht
  refine pure_of hm hc (by show 2 ≤ 32; decide) (aw_flat (keep := []) (i := 0) ?_)
  try simp only [I, B, D, RW, ↓ KW, fillA, setCells, stTags, flat, Nat.reduceBEq, Nat.reduceAdd, Nat.reduceLeDiff, Int.reduceNe, Int.reduceBEq, Int.reduceEq, reduceCtorEq, Nat.reduceMul, Int.reduceLT, Int.reduceLE, Int.reduceToNat, cc_ref08_Wait, hp, hl]
  refine call_is (hF t _ ht) ?_
  try simp only [I, B, D, RW, ↓ KW, fillA, setCells, stTags, flat, Nat.reduceBEq, Nat.reduceAdd, Nat.reduceLeDiff, Int.reduceNe, Int.reduceBEq, Int.reduceEq, reduceCtorEq, Nat.reduceMul, Int.reduceLT, Int.reduceLE, Int.reduceToNat, hg]
  by_cases h0 : freeI t p = 0 ∨ (t.rails.getD []).length = 0
  · have hx : waitI t p = freeI t p := if_pos h0
    repeat' (first | (refine gd_split (fun h => ?_) (fun h => ?_) <;> try simp only [I, B, D, RW, ↓ KW, fillA, setCells, stTags, flat, Nat.reduceBEq, Nat.reduceAdd, Nat.reduceLeDiff, Int.reduceNe, Int.reduceBEq, Int.reduceEq, reduceCtorEq, Nat.reduceMul, Int.reduceLT, Int.reduceLE, Int.reduceToNat, hg, hx, h]) | (refine cd_split (fun h => ?_) (fun h => ?_) <;> try simp only [I, B, D, RW, ↓ KW, fillA, setCells, stTags, flat, Nat.reduceBEq, Nat.reduceAdd, Nat.reduceLeDiff, Int.reduceNe, Int.reduceBEq, Int.reduceEq, reduceCtorEq, Nat.reduceMul, Int.reduceLT, Int.reduceLE, Int.reduceToNat, hg, hx, h]) | (refine pk_split (fun h => ?_) (fun h => ?_) <;> try simp only [I, B, D, RW, ↓ KW, fillA, setCells, stTags, flat, Nat.reduceBEq, Nat.reduceAdd, Nat.reduceLeDiff, Int.reduceNe, Int.reduceBEq, Int.reduceEq, reduceCtorEq, Nat.reduceMul, Int.reduceLT, Int.reduceLE, Int.reduceToNat, hg, hx, h]))
    simp_all
  · have hx := show waitI t p = _ from if_neg h0
    have h1 : (freeI t p == 0) = false := by simp; omega
    have h2 : (((t.rails.getD []).length : Int) == 0) = false := beq_false_of_ne (by omega)
    try simp only [I, B, D, RW, ↓ KW, fillA, setCells, stTags, flat, Nat.reduceBEq, Nat.reduceAdd, Nat.reduceLeDiff, Int.reduceNe, Int.reduceBEq, Int.reduceEq, reduceCtorEq, Nat.reduceMul, Int.reduceLT, Int.reduceLE, Int.reduceToNat, h1, h2, hg, h130]
    refine call_is (hs (some [_, _]) (by simp)) ?_
    try simp only [I, B, D, RW, ↓ KW, fillA, setCells, stTags, flat, Nat.reduceBEq, Nat.reduceAdd, Nat.reduceLeDiff, Int.reduceNe, Int.reduceBEq, Int.reduceEq, reduceCtorEq, Nat.reduceMul, Int.reduceLT, Int.reduceLE, Int.reduceToNat, hp]
    refine call_is (hO t ht) ?_
    try simp only [I, B, D, RW, ↓ KW, fillA, setCells, stTags, flat, Nat.reduceBEq, Nat.reduceAdd, Nat.reduceLeDiff, Int.reduceNe, Int.reduceBEq, Int.reduceEq, reduceCtorEq, Nat.reduceMul, Int.reduceLT, Int.reduceLE, Int.reduceToNat]
    refine call_is (hs (some [_, _, _]) (by simp)) ?_
    try simp only [I, B, D, RW, ↓ KW, fillA, setCells, stTags, flat, Nat.reduceBEq, Nat.reduceAdd, Nat.reduceLeDiff, Int.reduceNe, Int.reduceBEq, Int.reduceEq, reduceCtorEq, Nat.reduceMul, Int.reduceLT, Int.reduceLE, Int.reduceToNat, hp]
    refine call_is (hM _ _) ?_
    try simp only [I, B, D, RW, ↓ KW, fillA, setCells, stTags, flat, Nat.reduceBEq, Nat.reduceAdd, Nat.reduceLeDiff, Int.reduceNe, Int.reduceBEq, Int.reduceEq, reduceCtorEq, Nat.reduceMul, Int.reduceLT, Int.reduceLE, Int.reduceToNat, h130]
    refine call_is (hs (some [_, _]) (by simp)) ?_
    try simp only [I, B, D, RW, ↓ KW, fillA, setCells, stTags, flat, Nat.reduceBEq, Nat.reduceAdd, Nat.reduceLeDiff, Int.reduceNe, Int.reduceBEq, Int.reduceEq, reduceCtorEq, Nat.reduceMul, Int.reduceLT, Int.reduceLE, Int.reduceToNat, hx]
    rfl
theorem over.ok {fE e fs fO fL fC fM fcl : Nat} (hc : cFn P f = some (cc_ref08_Over fE e fs fO fL fC fM fcl)) (hE : entry.Spec (Pure P) fE) (hs : sum1.Spec (Pure P) fs) (hO : on.Spec (Pure P) fO) (hL : refList.Spec (Pure P) fL e) (hC : Cap.Spec (Pure P) fC) (hM : most.Spec (Pure P) fM) (hcl : clear.Spec (Pure P) fcl) : over.Spec (Pure P) f := by
  intro t ht
  have hl := Tb.len ht
  have hp := Tb.whole ht
  have hg := Tb.rails_at ht
  have hb := ht.rails
  have h119 := Tb.tail_at ht 3 (by omega)
  refine pure_of hm hc (by show 1 ≤ 73; decide) (aw_flat (keep := []) (i := 0) ?_)
  try simp only [I, B, D, RW, ↓ KW, fillA, setCells, stTags, flat, Nat.reduceBEq, Nat.reduceAdd, Nat.reduceLeDiff, Int.reduceNe, Int.reduceBEq, Int.reduceEq, reduceCtorEq, Nat.reduceMul, Int.reduceLT, Int.reduceLE, Int.reduceToNat, cc_ref08_Over, hp, hl, hg]
  by_cases h0 : (t.rails.getD []).length = 0
  · have hx : overI t = 0 := if_pos h0
    repeat' (first | (refine gd_split (fun h => ?_) (fun h => ?_) <;> try simp only [I, B, D, RW, ↓ KW, fillA, setCells, stTags, flat, Nat.reduceBEq, Nat.reduceAdd, Nat.reduceLeDiff, Int.reduceNe, Int.reduceBEq, Int.reduceEq, reduceCtorEq, Nat.reduceMul, Int.reduceLT, Int.reduceLE, Int.reduceToNat, hg, hx, h]) | (refine cd_split (fun h => ?_) (fun h => ?_) <;> try simp only [I, B, D, RW, ↓ KW, fillA, setCells, stTags, flat, Nat.reduceBEq, Nat.reduceAdd, Nat.reduceLeDiff, Int.reduceNe, Int.reduceBEq, Int.reduceEq, reduceCtorEq, Nat.reduceMul, Int.reduceLT, Int.reduceLE, Int.reduceToNat, hg, hx, h]) | (refine pk_split (fun h => ?_) (fun h => ?_) <;> try simp only [I, B, D, RW, ↓ KW, fillA, setCells, stTags, flat, Nat.reduceBEq, Nat.reduceAdd, Nat.reduceLeDiff, Int.reduceNe, Int.reduceBEq, Int.reduceEq, reduceCtorEq, Nat.reduceMul, Int.reduceLT, Int.reduceLE, Int.reduceToNat, hg, hx, h]))
    simp_all
  · have hx := show overI t = _ from if_neg h0
    have h2 : (((t.rails.getD []).length : Int) == 0) = false := beq_false_of_ne (by omega)
    try simp only [I, B, D, RW, ↓ KW, fillA, setCells, stTags, flat, Nat.reduceBEq, Nat.reduceAdd, Nat.reduceLeDiff, Int.reduceNe, Int.reduceBEq, Int.reduceEq, reduceCtorEq, Nat.reduceMul, Int.reduceLT, Int.reduceLE, Int.reduceToNat, h2]
    refine aw_loop' (fun k : Nat => (⟨[(5, .dat (I k) none), (1, .ptr 4 0), (4, .dat (.nils) none), (3, ownSV intRow (stayTo t k) 0)], [(4, ⟨t.cells, []⟩)], ownL (stayTo t k) 0 e, 400⟩ : S)) (fun k => (t.rails.getD []).length - k) (fun k => k ≤ (t.rails.getD []).length) ?_ 0 (by omega) ?_
    · intro k hk A back
      have hw := wrap_succ (k := k) (by omega)
      have hn := stayTo_next t k
      have hlen : (stayTo t k).length = k := by simp [stayTo]
      by_cases hl : stayTo t k = []
      all_goals
        try simp only [I, B, D, RW, ↓ KW, fillA, setCells, stTags, flat, Nat.reduceBEq, Nat.reduceAdd, Nat.reduceLeDiff, Int.reduceNe, Int.reduceBEq, Int.reduceEq, reduceCtorEq, Nat.reduceMul, Int.reduceLT, Int.reduceLE, Int.reduceToNat, ownSV, ownL, hl, hg]
        refine cd_split (fun h => ?_) (fun h => ?_) <;> try simp only [I, B, D, RW, ↓ KW, fillA, setCells, stTags, flat, Nat.reduceBEq, Nat.reduceAdd, Nat.reduceLeDiff, Int.reduceNe, Int.reduceBEq, Int.reduceEq, reduceCtorEq, Nat.reduceMul, Int.reduceLT, Int.reduceLE, Int.reduceToNat, hp, h]
      · have : k < (t.rails.getD []).length := by have := of_decide_eq_true h; omega
        have hr := rlAt_get (t := t) (k := k) (by omega) (by omega)
        rw [Int.toNat_natCast] at hr
        refine call_is (hE t _ ht) ?_
        try simp only [I, B, D, RW, ↓ KW, fillA, setCells, stTags, flat, Nat.reduceBEq, Nat.reduceAdd, Nat.reduceLeDiff, Int.reduceNe, Int.reduceBEq, Int.reduceEq, reduceCtorEq, Nat.reduceMul, Int.reduceLT, Int.reduceLE, Int.reduceToNat, hg]
        refine ⟨by omega, ?_⟩
        try simp only [I, B, D, RW, ↓ KW, fillA, setCells, stTags, flat, Nat.reduceBEq, Nat.reduceAdd, Nat.reduceLeDiff, Int.reduceNe, Int.reduceBEq, Int.reduceEq, reduceCtorEq, Nat.reduceMul, Int.reduceLT, Int.reduceLE, Int.reduceToNat, hr, Rl.len, Rl.cells]
        refine call_is (hs (some [_, _]) (by simp)) ?_
        try simp only [I, B, D, RW, ↓ KW, fillA, setCells, stTags, flat, Nat.reduceBEq, Nat.reduceAdd, Nat.reduceLeDiff, Int.reduceNe, Int.reduceBEq, Int.reduceEq, reduceCtorEq, Nat.reduceMul, Int.reduceLT, Int.reduceLE, Int.reduceToNat]
        refine back (k + 1) _ (by omega) (by omega) (le_tok2 (by decide) ?_ ?_ ?_ ?_) <;> simp [intRow, ownSV, ownL, leSlots, lv_dat, lv_tok, lv_ptr, lv_rp, lv_undef, leBoxes, leTags, leLive, tokM, tokB, tokT, ren, liveInj, r_lk, r_lkN, r_lkB, r_lkN0, I, B, D, withV_some, hn, hw, hl]
      · exfalso
        have := of_decide_eq_false h
        rw [hl] at hlen; simp at hlen; omega
      · have : k < (t.rails.getD []).length := by have := of_decide_eq_true h; omega
        have hr := rlAt_get (t := t) (k := k) (by omega) (by omega)
        rw [Int.toNat_natCast] at hr
        refine call_is (hE t _ ht) ?_
        try simp only [I, B, D, RW, ↓ KW, fillA, setCells, stTags, flat, Nat.reduceBEq, Nat.reduceAdd, Nat.reduceLeDiff, Int.reduceNe, Int.reduceBEq, Int.reduceEq, reduceCtorEq, Nat.reduceMul, Int.reduceLT, Int.reduceLE, Int.reduceToNat, hg]
        refine ⟨by omega, ?_⟩
        try simp only [I, B, D, RW, ↓ KW, fillA, setCells, stTags, flat, Nat.reduceBEq, Nat.reduceAdd, Nat.reduceLeDiff, Int.reduceNe, Int.reduceBEq, Int.reduceEq, reduceCtorEq, Nat.reduceMul, Int.reduceLT, Int.reduceLE, Int.reduceToNat, hr, Rl.len, Rl.cells]
        refine call_is (hs (some [_, _]) (by simp)) ?_
        try simp only [I, B, D, RW, ↓ KW, fillA, setCells, stTags, flat, Nat.reduceBEq, Nat.reduceAdd, Nat.reduceLeDiff, Int.reduceNe, Int.reduceBEq, Int.reduceEq, reduceCtorEq, Nat.reduceMul, Int.reduceLT, Int.reduceLE, Int.reduceToNat]
        refine ⟨by omega, ?_⟩
        refine back (k + 1) _ (by omega) (by omega) (le_tok2 (by decide) ?_ ?_ ?_ ?_) <;> simp [intRow, ownSV, ownL, leSlots, lv_dat, lv_tok, lv_ptr, lv_rp, lv_undef, leBoxes, leTags, leLive, tokM, tokB, tokT, ren, liveInj, r_lk, r_lkN, r_lkB, r_lkN0, I, B, D, withV_some, hn, hw, hl]
      · have : k = (t.rails.getD []).length := by have := of_decide_eq_false h; omega
        subst this
        try simp only [I, B, D, RW, ↓ KW, fillA, setCells, stTags, flat, Nat.reduceBEq, Nat.reduceAdd, Nat.reduceLeDiff, Int.reduceNe, Int.reduceBEq, Int.reduceEq, reduceCtorEq, Nat.reduceMul, Int.reduceLT, Int.reduceLE, Int.reduceToNat, hp]
        refine call_is (hO t ht) ?_
        try simp only [I, B, D, RW, ↓ KW, fillA, setCells, stTags, flat, Nat.reduceBEq, Nat.reduceAdd, Nat.reduceLeDiff, Int.reduceNe, Int.reduceBEq, Int.reduceEq, reduceCtorEq, Nat.reduceMul, Int.reduceLT, Int.reduceLE, Int.reduceToNat]
        refine call_is (hL _ none (.inl rfl)) ?_
        try simp only [I, B, D, RW, ↓ KW, fillA, setCells, stTags, flat, Nat.reduceBEq, Nat.reduceAdd, Nat.reduceLeDiff, Int.reduceNe, Int.reduceBEq, Int.reduceEq, reduceCtorEq, Nat.reduceMul, Int.reduceLT, Int.reduceLE, Int.reduceToNat]
        have hlen := listS_len (onI t)
        have hrg := @listS_range (onI t)
        have hmk := mkO_getD (listS (onI t))
        generalize listS (onI t) = L at *
        have hmst : mostI (stayTo t (t.rails.getD []).length) = mostI (stayTo t (t.rails.getD []).length) := rfl
        refine aw_loop' (fun k : Nat => (⟨[(37, .dat (I k) none), (36, .dat (I L.length) none), (35, .dat (slAV intRow (mkO L)) none), (1, .ptr 4 0), (3, .dat (.sl ((stayTo t (t.rails.getD []).length).map intRow)) none), (4, ownSV intRow (needOf t (L.take k)) 0)], [(4, ⟨t.cells, []⟩)], ownL (needOf t (L.take k)) 0 e, 400⟩ : S)) (fun k => L.length - k) (fun k => k ≤ L.length) ?_ 0 (by omega) ?_
        · intro k hk A back
          have hw := wrap_succ (k := k) (by omega)
          have hln : (needOf t (L.take k)).length ≤ 16 := by rw [needOf_len]; have := List.length_take_le k L; omega
          by_cases hl : needOf t (L.take k) = []
          all_goals
            try simp only [I, B, D, RW, ↓ KW, fillA, setCells, stTags, flat, Nat.reduceBEq, Nat.reduceAdd, Nat.reduceLeDiff, Int.reduceNe, Int.reduceBEq, Int.reduceEq, reduceCtorEq, Nat.reduceMul, Int.reduceLT, Int.reduceLE, Int.reduceToNat, ownSV, ownL, hl]
            refine cd_split (fun h => ?_) (fun h => ?_) <;> try simp only [I, B, D, RW, ↓ KW, fillA, setCells, stTags, flat, Nat.reduceBEq, Nat.reduceAdd, Nat.reduceLeDiff, Int.reduceNe, Int.reduceBEq, Int.reduceEq, reduceCtorEq, Nat.reduceMul, Int.reduceLT, Int.reduceLE, Int.reduceToNat, hmk, h]
          · have hlt : k < L.length := by have := of_decide_eq_true h; omega
            obtain ⟨x, hx2⟩ : ∃ x, L[k]? = some x := ⟨_, List.getElem?_eq_getElem hlt⟩
            have hx8 := hrg (List.mem_of_getElem? hx2)
            have hph := Tb.ph_int ht hx8.1 hx8.2
            have hn := needOf_next (t := t) hx2
            refine ⟨by omega, ?_⟩
            try simp only [I, B, D, RW, ↓ KW, fillA, setCells, stTags, flat, Nat.reduceBEq, Nat.reduceAdd, Nat.reduceLeDiff, Int.reduceNe, Int.reduceBEq, Int.reduceEq, reduceCtorEq, Nat.reduceMul, Int.reduceLT, Int.reduceLE, Int.reduceToNat, hx2, intRow]
            refine ⟨by omega, ?_⟩
            try simp only [I, B, D, RW, ↓ KW, fillA, setCells, stTags, flat, Nat.reduceBEq, Nat.reduceAdd, Nat.reduceLeDiff, Int.reduceNe, Int.reduceBEq, Int.reduceEq, reduceCtorEq, Nat.reduceMul, Int.reduceLT, Int.reduceLE, Int.reduceToNat, hph]
            refine call_is (hC _) ?_
            try simp only [I, B, D, RW, ↓ KW, fillA, setCells, stTags, flat, Nat.reduceBEq, Nat.reduceAdd, Nat.reduceLeDiff, Int.reduceNe, Int.reduceBEq, Int.reduceEq, reduceCtorEq, Nat.reduceMul, Int.reduceLT, Int.reduceLE, Int.reduceToNat, hph]
            refine ⟨by omega, ?_⟩
            try simp only [I, B, D, RW, ↓ KW, fillA, setCells, stTags, flat, Nat.reduceBEq, Nat.reduceAdd, Nat.reduceLeDiff, Int.reduceNe, Int.reduceBEq, Int.reduceEq, reduceCtorEq, Nat.reduceMul, Int.reduceLT, Int.reduceLE, Int.reduceToNat, hph]
            refine ⟨by omega, ?_⟩
            try simp only [I, B, D, RW, ↓ KW, fillA, setCells, stTags, flat, Nat.reduceBEq, Nat.reduceAdd, Nat.reduceLeDiff, Int.reduceNe, Int.reduceBEq, Int.reduceEq, reduceCtorEq, Nat.reduceMul, Int.reduceLT, Int.reduceLE, Int.reduceToNat, hph]
            refine call_is (hs (some [_, _]) (by simp)) ?_
            try simp only [I, B, D, RW, ↓ KW, fillA, setCells, stTags, flat, Nat.reduceBEq, Nat.reduceAdd, Nat.reduceLeDiff, Int.reduceNe, Int.reduceBEq, Int.reduceEq, reduceCtorEq, Nat.reduceMul, Int.reduceLT, Int.reduceLE, Int.reduceToNat]
            refine back (k + 1) _ (by omega) (by omega) (le_tok2 (by decide) ?_ ?_ ?_ ?_) <;> simp [intRow, ownSV, ownL, leSlots, lv_dat, lv_tok, lv_ptr, lv_rp, lv_undef, leBoxes, leTags, leLive, tokM, tokB, tokT, ren, liveInj, r_lk, r_lkN, r_lkB, r_lkN0, I, B, D, withV_some, hn, hw, hl]
          · have : k = L.length := by have := of_decide_eq_false h; omega
            subst this
            rw [List.take_length] at hl hln
            try simp only [I, B, D, RW, ↓ KW, fillA, setCells, stTags, flat, Nat.reduceBEq, Nat.reduceAdd, Nat.reduceLeDiff, Int.reduceNe, Int.reduceBEq, Int.reduceEq, reduceCtorEq, Nat.reduceMul, Int.reduceLT, Int.reduceLE, Int.reduceToNat]
            refine call_is (hM (some _) (by simp [stayTo]; omega)) ?_
            try simp only [I, B, D, RW, ↓ KW, fillA, setCells, stTags, flat, Nat.reduceBEq, Nat.reduceAdd, Nat.reduceLeDiff, Int.reduceNe, Int.reduceBEq, Int.reduceEq, reduceCtorEq, Nat.reduceMul, Int.reduceLT, Int.reduceLE, Int.reduceToNat]
            refine call_is (hM none (by simp)) ?_
            try simp only [I, B, D, RW, ↓ KW, fillA, setCells, stTags, flat, Nat.reduceBEq, Nat.reduceAdd, Nat.reduceLeDiff, Int.reduceNe, Int.reduceBEq, Int.reduceEq, reduceCtorEq, Nat.reduceMul, Int.reduceLT, Int.reduceLE, Int.reduceToNat, hp]
            refine call_is (hcl t ht) ?_
            try simp only [I, B, D, RW, ↓ KW, fillA, setCells, stTags, flat, Nat.reduceBEq, Nat.reduceAdd, Nat.reduceLeDiff, Int.reduceNe, Int.reduceBEq, Int.reduceEq, reduceCtorEq, Nat.reduceMul, Int.reduceLT, Int.reduceLE, Int.reduceToNat, h119]
            refine call_is (hs (some [_, _, _, _, _]) (by simp)) ?_
            try simp only [I, B, D, RW, ↓ KW, fillA, setCells, stTags, flat, Nat.reduceBEq, Nat.reduceAdd, Nat.reduceLeDiff, Int.reduceNe, Int.reduceBEq, Int.reduceEq, reduceCtorEq, Nat.reduceMul, Int.reduceLT, Int.reduceLE, Int.reduceToNat, hx, hl]
            rfl
          · have hlt : k < L.length := by have := of_decide_eq_true h; omega
            obtain ⟨x, hx2⟩ : ∃ x, L[k]? = some x := ⟨_, List.getElem?_eq_getElem hlt⟩
            have hx8 := hrg (List.mem_of_getElem? hx2)
            have hph := Tb.ph_int ht hx8.1 hx8.2
            have hn := needOf_next (t := t) hx2
            refine ⟨by omega, ?_⟩
            try simp only [I, B, D, RW, ↓ KW, fillA, setCells, stTags, flat, Nat.reduceBEq, Nat.reduceAdd, Nat.reduceLeDiff, Int.reduceNe, Int.reduceBEq, Int.reduceEq, reduceCtorEq, Nat.reduceMul, Int.reduceLT, Int.reduceLE, Int.reduceToNat, hx2, intRow]
            refine ⟨by omega, ?_⟩
            try simp only [I, B, D, RW, ↓ KW, fillA, setCells, stTags, flat, Nat.reduceBEq, Nat.reduceAdd, Nat.reduceLeDiff, Int.reduceNe, Int.reduceBEq, Int.reduceEq, reduceCtorEq, Nat.reduceMul, Int.reduceLT, Int.reduceLE, Int.reduceToNat, hph]
            refine call_is (hC _) ?_
            try simp only [I, B, D, RW, ↓ KW, fillA, setCells, stTags, flat, Nat.reduceBEq, Nat.reduceAdd, Nat.reduceLeDiff, Int.reduceNe, Int.reduceBEq, Int.reduceEq, reduceCtorEq, Nat.reduceMul, Int.reduceLT, Int.reduceLE, Int.reduceToNat, hph]
            refine ⟨by omega, ?_⟩
            try simp only [I, B, D, RW, ↓ KW, fillA, setCells, stTags, flat, Nat.reduceBEq, Nat.reduceAdd, Nat.reduceLeDiff, Int.reduceNe, Int.reduceBEq, Int.reduceEq, reduceCtorEq, Nat.reduceMul, Int.reduceLT, Int.reduceLE, Int.reduceToNat, hph]
            refine ⟨by omega, ?_⟩
            try simp only [I, B, D, RW, ↓ KW, fillA, setCells, stTags, flat, Nat.reduceBEq, Nat.reduceAdd, Nat.reduceLeDiff, Int.reduceNe, Int.reduceBEq, Int.reduceEq, reduceCtorEq, Nat.reduceMul, Int.reduceLT, Int.reduceLE, Int.reduceToNat, hph]
            refine call_is (hs (some [_, _]) (by simp)) ?_
            try simp only [I, B, D, RW, ↓ KW, fillA, setCells, stTags, flat, Nat.reduceBEq, Nat.reduceAdd, Nat.reduceLeDiff, Int.reduceNe, Int.reduceBEq, Int.reduceEq, reduceCtorEq, Nat.reduceMul, Int.reduceLT, Int.reduceLE, Int.reduceToNat]
            refine ⟨by omega, ?_⟩
            refine back (k + 1) _ (by omega) (by omega) (le_tok2 (by decide) ?_ ?_ ?_ ?_) <;> simp [intRow, ownSV, ownL, leSlots, lv_dat, lv_tok, lv_ptr, lv_rp, lv_undef, leBoxes, leTags, leLive, tokM, tokB, tokT, ren, liveInj, r_lk, r_lkN, r_lkB, r_lkN0, I, B, D, withV_some, hn, hw, hl]
          · have : k = L.length := by have := of_decide_eq_false h; omega
            subst this
            rw [List.take_length] at *
            try simp only [I, B, D, RW, ↓ KW, fillA, setCells, stTags, flat, Nat.reduceBEq, Nat.reduceAdd, Nat.reduceLeDiff, Int.reduceNe, Int.reduceBEq, Int.reduceEq, reduceCtorEq, Nat.reduceMul, Int.reduceLT, Int.reduceLE, Int.reduceToNat]
            refine call_is (hM (some _) (by simp [stayTo]; omega)) ?_
            try simp only [I, B, D, RW, ↓ KW, fillA, setCells, stTags, flat, Nat.reduceBEq, Nat.reduceAdd, Nat.reduceLeDiff, Int.reduceNe, Int.reduceBEq, Int.reduceEq, reduceCtorEq, Nat.reduceMul, Int.reduceLT, Int.reduceLE, Int.reduceToNat]
            refine call_is (hM (some _) (by simp; omega)) ?_
            try simp only [I, B, D, RW, ↓ KW, fillA, setCells, stTags, flat, Nat.reduceBEq, Nat.reduceAdd, Nat.reduceLeDiff, Int.reduceNe, Int.reduceBEq, Int.reduceEq, reduceCtorEq, Nat.reduceMul, Int.reduceLT, Int.reduceLE, Int.reduceToNat, hp]
            refine call_is (hcl t ht) ?_
            try simp only [I, B, D, RW, ↓ KW, fillA, setCells, stTags, flat, Nat.reduceBEq, Nat.reduceAdd, Nat.reduceLeDiff, Int.reduceNe, Int.reduceBEq, Int.reduceEq, reduceCtorEq, Nat.reduceMul, Int.reduceLT, Int.reduceLE, Int.reduceToNat, h119]
            refine call_is (hs (some [_, _, _, _, _]) (by simp)) ?_
            try simp only [I, B, D, RW, ↓ KW, fillA, setCells, stTags, flat, Nat.reduceBEq, Nat.reduceAdd, Nat.reduceLeDiff, Int.reduceNe, Int.reduceBEq, Int.reduceEq, reduceCtorEq, Nat.reduceMul, Int.reduceLT, Int.reduceLE, Int.reduceToNat, hx, hl]
            rfl
        · refine le_tok2 (by decide) ?_ ?_ ?_ ?_ <;> simp [intRow, ownSV, ownL, leSlots, lv_dat, lv_tok, lv_ptr, lv_rp, lv_undef, leBoxes, leTags, leLive, tokM, tokB, tokT, ren, liveInj, r_lk, r_lkN, r_lkB, r_lkN0, I, B, D, withV_some, hmk, needOf]
    · refine le_tok2 (by decide) ?_ ?_ ?_ ?_ <;> simp [intRow, ownSV, ownL, leSlots, lv_dat, lv_tok, lv_ptr, lv_rp, lv_undef, leBoxes, leTags, leLive, tokM, tokB, tokT, ren, liveInj, r_lk, r_lkN, r_lkB, r_lkN0, I, B, D, withV_some, stayTo]
end
end Go.Eng
namespace Go.Eng
set_option linter.unusedVariables false
set_option linter.unusedSimpArgs false
set_option linter.unnecessarySimpa false
open Go
set_option linter.unusedVariables false
set_option linter.unusedSimpArgs false
set_option maxRecDepth 10000
set_option maxHeartbeats 4000000
def withT (t : Tb) (p q : Int) : Int := if besideR t p q then withR (ofI [p]) q else ofI [p]
def with.Spec (C : Con) (f : Nat) : Prop := ∀ (t : Tb) (p q : Int), t.Ok → C.c f [.agg t.cells, I p, I q] (I (withT t p q)) none
theorem bf_mul (k : FloatKind) (x y : Nat) : binA .mul (.float k x) (.float k y) = (k.format.mul x y).map (.float k) := by simp [binA, floatA]
theorem bf_quo (k : FloatKind) (x y : Nat) : binA .quo (.float k x) (.float k y) = (k.format.div x y).map (.float k) := by simp [binA, floatA]
theorem cv_IF (k : FloatKind) (k' : IntKind) (n : Int) : cvIFA k (.int k' n) = some (.float k (k.nearest n)) := rfl
theorem frm_range (l : Option (List Int)) (i : Int) {n : Int} (h : 0 < n) (hn : n ≤ 4294967296) : 0 ≤ frm l i n ∧ frm l i n < n := by
  simp only [frm, place]
  have h1 := Int.tmod_lt_of_pos (atL l i) h
  have h2 := Int.lt_tmod_of_pos (atL l i) h
  split
  · rw [w64, wrap_id (by omega) (by omega)]; omega
  · omega
def tenth (n : Int) : Nat := (FloatKind.f64.format.div (FloatKind.f64.nearest n) 4621819117588971520).getD 0
theorem tenth_some : ∀ n : Nat, n < 6 → FloatKind.f64.format.div (FloatKind.f64.nearest (n : Int)) 4621819117588971520 = some (tenth n) := by decide +kernel
def detOn (k : Int) : Nat := [4617315517961601024, 4621819117588971520, 4607182418800017408, 4602678819172646912].getD k.toNat 0
def detScale (k : Int) : Nat := [4602678819172646912, 4607182418800017408, 4598175219545276416].getD k.toNat 0
def detOff (j k : Int) : Nat := (FloatKind.f64.format.mul (detOn j) (detScale k)).getD 0
theorem detOff_some : ∀ j : Nat, j < 4 → ∀ k : Nat, k < 3 → FloatKind.f64.format.mul (detOn j) (detScale k) = some (detOff j k) := by decide +kernel
def detectorOf (l : Option (List Int)) (i n : Int) : Det where
  phase := frm l i n
  on := detOn (frm l (w64 (i + 1)) 4)
  off := detOff (frm l (w64 (i + 1)) 4) (frm l (w64 (i + 2)) 3)
  delay := tenth (frm l (w64 (i + 3)) 4)
  extend := tenth (frm l (w64 (i + 4)) 6)
  maxOn := if frm l (w64 (i + 5)) 3 == 1 then w64 (20 + frm l (w64 (i + 6)) 60) else 0
  maxOff := if frm l (w64 (i + 5)) 9 == 2 then w64 (60 + frm l (w64 (i + 7)) 300) else 0
def detector.Spec (C : Con) (f : Nat) : Prop := ∀ (l : Option (List Int)) (i n : Int), 0 < n → C.c f [slAV intRow l, I i, I n] (.agg (detectorOf l i n).cells) none
section
variable {P : Program} (hm : P.follows .mixedOrders = true) {f : Nat}
include hm
theorem with.ok {e fO fB fW : Nat} (hc : cFn P f = some (cc_law00_with e fO fB fW)) (hO : refOf.Spec (Pure P) fO) (hB : beside.Spec (Pure P) fB) (hW : refWith.Spec (Pure P) fW) : with.Spec (Pure P) f := by
  intro t p q ht
  have hl := Tb.len ht
  have hp := Tb.whole ht
  refine pure_of hm hc (by show 3 ≤ 19; decide) (aw_flat (keep := []) (i := 0) ?_)
  try simp only [I, B, D, RW, ↓ KW, fillA, setCells, stTags, flat, Nat.reduceBEq, Nat.reduceAdd, Nat.reduceLeDiff, Int.reduceNe, Int.reduceBEq, Int.reduceEq, reduceCtorEq, Nat.reduceMul, Int.reduceLT, Int.reduceLE, Int.reduceToNat, cc_law00_with, hp, hl]
  refine call_is (hO (some [_]) (by simp)) ?_
  try simp only [I, B, D, RW, ↓ KW, fillA, setCells, stTags, flat, Nat.reduceBEq, Nat.reduceAdd, Nat.reduceLeDiff, Int.reduceNe, Int.reduceBEq, Int.reduceEq, reduceCtorEq, Nat.reduceMul, Int.reduceLT, Int.reduceLE, Int.reduceToNat, hp]
  refine call_is (hB t _ _ ht) ?_
  try simp only [I, B, D, RW, ↓ KW, fillA, setCells, stTags, flat, Nat.reduceBEq, Nat.reduceAdd, Nat.reduceLeDiff, Int.reduceNe, Int.reduceBEq, Int.reduceEq, reduceCtorEq, Nat.reduceMul, Int.reduceLT, Int.reduceLE, Int.reduceToNat]
  repeat' (first | (refine call_is (hW _ _) ?_; try simp only [I, B, D, RW, ↓ KW, fillA, setCells, stTags, flat, Nat.reduceBEq, Nat.reduceAdd, Nat.reduceLeDiff, Int.reduceNe, Int.reduceBEq, Int.reduceEq, reduceCtorEq, Nat.reduceMul, Int.reduceLT, Int.reduceLE, Int.reduceToNat]) | (refine gd_split (fun h => ?_) (fun h => ?_) <;> try simp only [I, B, D, RW, ↓ KW, fillA, setCells, stTags, flat, Nat.reduceBEq, Nat.reduceAdd, Nat.reduceLeDiff, Int.reduceNe, Int.reduceBEq, Int.reduceEq, reduceCtorEq, Nat.reduceMul, Int.reduceLT, Int.reduceLE, Int.reduceToNat, h]) | (refine cd_split (fun h => ?_) (fun h => ?_) <;> try simp only [I, B, D, RW, ↓ KW, fillA, setCells, stTags, flat, Nat.reduceBEq, Nat.reduceAdd, Nat.reduceLeDiff, Int.reduceNe, Int.reduceBEq, Int.reduceEq, reduceCtorEq, Nat.reduceMul, Int.reduceLT, Int.reduceLE, Int.reduceToNat, h]) | (refine pk_split (fun h => ?_) (fun h => ?_) <;> try simp only [I, B, D, RW, ↓ KW, fillA, setCells, stTags, flat, Nat.reduceBEq, Nat.reduceAdd, Nat.reduceLeDiff, Int.reduceNe, Int.reduceBEq, Int.reduceEq, reduceCtorEq, Nat.reduceMul, Int.reduceLT, Int.reduceLE, Int.reduceToNat, h]))
  all_goals simp_all [withT]
theorem detector.ok {fF : Nat} (hc : cFn P f = some (cc_law00_detector fF)) (hF : from.Spec (Pure P) fF) : detector.Spec (Pure P) f := by
  intro l i n hn
  refine pure_of hm hc (by show 3 ≤ 66; decide) (aw_flat (keep := []) (i := 0) ?_)
  try simp only [I, B, D, RW, ↓ KW, fillA, setCells, stTags, flat, Nat.reduceBEq, Nat.reduceAdd, Nat.reduceLeDiff, Int.reduceNe, Int.reduceBEq, Int.reduceEq, reduceCtorEq, Nat.reduceMul, Int.reduceLT, Int.reduceLE, Int.reduceToNat, cc_law00_detector]
  refine call_is (hF _ _ _ hn) ?_
  try simp only [I, B, D, RW, ↓ KW, fillA, setCells, stTags, flat, Nat.reduceBEq, Nat.reduceAdd, Nat.reduceLeDiff, Int.reduceNe, Int.reduceBEq, Int.reduceEq, reduceCtorEq, Nat.reduceMul, Int.reduceLT, Int.reduceLE, Int.reduceToNat]
  refine call_is (hF _ _ _ (by decide)) ?_
  try simp only [I, B, D, RW, ↓ KW, fillA, setCells, stTags, flat, Nat.reduceBEq, Nat.reduceAdd, Nat.reduceLeDiff, Int.reduceNe, Int.reduceBEq, Int.reduceEq, reduceCtorEq, Nat.reduceMul, Int.reduceLT, Int.reduceLE, Int.reduceToNat]
  have h1 := frm_range l (w64 (i + 1)) (n := 4) (by decide) (by decide)
  have h2 := frm_range l (w64 (i + 2)) (n := 3) (by decide) (by decide)
  have h3 := frm_range l (w64 (i + 3)) (n := 4) (by decide) (by decide)
  have h4 := frm_range l (w64 (i + 4)) (n := 6) (by decide) (by decide)
  have e1 : [AV.float FloatKind.f64 4617315517961601024, AV.float FloatKind.f64 4621819117588971520, AV.float FloatKind.f64 4607182418800017408, AV.float FloatKind.f64 4602678819172646912][(frm l (w64 (i + 1)) 4).toNat]? = some (.float .f64 (detOn (frm l (w64 (i + 1)) 4))) := by
    generalize frm l (w64 (i + 1)) 4 = j at *
    have : j = 0 ∨ j = 1 ∨ j = 2 ∨ j = 3 := by omega
    rcases this with rfl | rfl | rfl | rfl <;> rfl
  have e2 : [AV.float FloatKind.f64 4602678819172646912, AV.float FloatKind.f64 4607182418800017408, AV.float FloatKind.f64 4598175219545276416][(frm l (w64 (i + 2)) 3).toNat]? = some (.float .f64 (detScale (frm l (w64 (i + 2)) 3))) := by
    generalize frm l (w64 (i + 2)) 3 = j at *
    have : j = 0 ∨ j = 1 ∨ j = 2 := by omega
    rcases this with rfl | rfl | rfl <;> rfl
  have e3 := detOff_some (frm l (w64 (i + 1)) 4).toNat (by omega) (frm l (w64 (i + 2)) 3).toNat (by omega)
  have e4 := tenth_some (frm l (w64 (i + 3)) 4).toNat (by omega)
  have e5 := tenth_some (frm l (w64 (i + 4)) 6).toNat (by omega)
  simp only [Int.toNat_of_nonneg h1.1, Int.toNat_of_nonneg h2.1] at e3
  simp only [Int.toNat_of_nonneg h3.1] at e4
  simp only [Int.toNat_of_nonneg h4.1] at e5
  simp only [w64] at e1 e2 e3 e4 e5 h1 h2 h3 h4
  refine ⟨by omega, ?_⟩
  try simp only [I, B, D, RW, ↓ KW, fillA, setCells, stTags, flat, Nat.reduceBEq, Nat.reduceAdd, Nat.reduceLeDiff, Int.reduceNe, Int.reduceBEq, Int.reduceEq, reduceCtorEq, Nat.reduceMul, Int.reduceLT, Int.reduceLE, Int.reduceToNat, e1]
  refine call_is (hF l _ 3 (by decide)) ?_
  try simp only [I, B, D, RW, ↓ KW, fillA, setCells, stTags, flat, Nat.reduceBEq, Nat.reduceAdd, Nat.reduceLeDiff, Int.reduceNe, Int.reduceBEq, Int.reduceEq, reduceCtorEq, Nat.reduceMul, Int.reduceLT, Int.reduceLE, Int.reduceToNat]
  refine ⟨by omega, ?_⟩
  try simp only [I, B, D, RW, ↓ KW, fillA, setCells, stTags, flat, Nat.reduceBEq, Nat.reduceAdd, Nat.reduceLeDiff, Int.reduceNe, Int.reduceBEq, Int.reduceEq, reduceCtorEq, Nat.reduceMul, Int.reduceLT, Int.reduceLE, Int.reduceToNat, e2, bf_mul, e3]
  refine call_is (hF _ _ _ (by decide)) ?_
  try simp only [I, B, D, RW, ↓ KW, fillA, setCells, stTags, flat, Nat.reduceBEq, Nat.reduceAdd, Nat.reduceLeDiff, Int.reduceNe, Int.reduceBEq, Int.reduceEq, reduceCtorEq, Nat.reduceMul, Int.reduceLT, Int.reduceLE, Int.reduceToNat, cv_IF, bf_quo, e4]
  refine call_is (hF _ _ _ (by decide)) ?_
  try simp only [I, B, D, RW, ↓ KW, fillA, setCells, stTags, flat, Nat.reduceBEq, Nat.reduceAdd, Nat.reduceLeDiff, Int.reduceNe, Int.reduceBEq, Int.reduceEq, reduceCtorEq, Nat.reduceMul, Int.reduceLT, Int.reduceLE, Int.reduceToNat, cv_IF, bf_quo, e5]
  repeat' (first | (refine call_is (hF _ _ _ (by decide)) ?_; try simp only [I, B, D, RW, ↓ KW, fillA, setCells, stTags, flat, Nat.reduceBEq, Nat.reduceAdd, Nat.reduceLeDiff, Int.reduceNe, Int.reduceBEq, Int.reduceEq, reduceCtorEq, Nat.reduceMul, Int.reduceLT, Int.reduceLE, Int.reduceToNat]) | (refine gd_split (fun h => ?_) (fun h => ?_) <;> try simp only [I, B, D, RW, ↓ KW, fillA, setCells, stTags, flat, Nat.reduceBEq, Nat.reduceAdd, Nat.reduceLeDiff, Int.reduceNe, Int.reduceBEq, Int.reduceEq, reduceCtorEq, Nat.reduceMul, Int.reduceLT, Int.reduceLE, Int.reduceToNat, h]) | (refine cd_split (fun h => ?_) (fun h => ?_) <;> try simp only [I, B, D, RW, ↓ KW, fillA, setCells, stTags, flat, Nat.reduceBEq, Nat.reduceAdd, Nat.reduceLeDiff, Int.reduceNe, Int.reduceBEq, Int.reduceEq, reduceCtorEq, Nat.reduceMul, Int.reduceLT, Int.reduceLE, Int.reduceToNat, h]) | (refine pk_split (fun h => ?_) (fun h => ?_) <;> try simp only [I, B, D, RW, ↓ KW, fillA, setCells, stTags, flat, Nat.reduceBEq, Nat.reduceAdd, Nat.reduceLeDiff, Int.reduceNe, Int.reduceBEq, Int.reduceEq, reduceCtorEq, Nat.reduceMul, Int.reduceLT, Int.reduceLE, Int.reduceToNat, h]))
  all_goals simp_all [detectorOf, Det.cells, w64]
def railOf (t : Tb) (l : Option (List Int)) (i n : Int) : Rl :=
  let p := frm l (w64 (i + 4)) (w64 (n + 1))
  let dwell := withT t (frm l i n) (frm l (w64 (i + 1)) n)
  let stay := w64 (1 + frm l (w64 (i + 11)) 15)
  let delay := frm l (w64 (i + 8)) 4
  { bars := bAndNot .i64 (bAnd .i64 (frm l (w64 (i + 7)) 256) (w64 (w64 (1 * 2 ^ min (IntKind.u64.wrap n).toNat 64) - 1))) dwell
    clear := if p < n then withT t p (frm l (w64 (i + 5)) n) else 0
    dwell := dwell
    exit := withT t (frm l (w64 (i + 2)) n) (frm l (w64 (i + 3)) n)
    delay := delay
    green := w64 (1 + frm l (w64 (i + 9)) 6)
    foot := frm l (w64 (i + 10)) 6
    hold := if p < n then w64 (1 + frm l (w64 (i + 6)) 10) else 0
    stay := stay
    most := if frm l (w64 (i + 12)) 3 == 1 then w64 (stay + frm l (w64 (i + 13)) 30) else 0
    limit := w64 (w64 (delay + 1) + [10000, 400, 20].getD (frm l (w64 (i + 14)) 3).toNat 0) }
def rail.Spec (C : Con) (f : Nat) : Prop := ∀ (t : Tb) (l : Option (List Int)) (i n : Int), t.Ok → 0 < n → n ≤ 8 → C.c f [.agg t.cells, slAV intRow l, I i, I n] (.agg (railOf t l i n).cells) none
theorem rail.ok {fF fW : Nat} (hc : cFn P f = some (cc_law00_rail fF fW)) (hF : from.Spec (Pure P) fF) (hW : with.Spec (Pure P) fW) : rail.Spec (Pure P) f := by
  intro t l i n ht hn hn8
  have hl := Tb.len ht
  have hp := Tb.whole ht
  have hn1 : IntKind.i64.wrap (n + 1) = n + 1 := wrap_id (by omega) (by omega)
  refine pure_of hm hc (by show 4 ≤ 119; decide) (aw_flat (keep := []) (i := 0) ?_)
  try simp only [I, B, D, RW, ↓ KW, fillA, setCells, stTags, flat, Nat.reduceBEq, Nat.reduceAdd, Nat.reduceLeDiff, Int.reduceNe, Int.reduceBEq, Int.reduceEq, reduceCtorEq, Nat.reduceMul, Int.reduceLT, Int.reduceLE, Int.reduceToNat, cc_law00_rail, hp, hl, z11_58867]
  refine call_is (hF _ _ _ hn) ?_
  try simp only [I, B, D, RW, ↓ KW, fillA, setCells, stTags, flat, Nat.reduceBEq, Nat.reduceAdd, Nat.reduceLeDiff, Int.reduceNe, Int.reduceBEq, Int.reduceEq, reduceCtorEq, Nat.reduceMul, Int.reduceLT, Int.reduceLE, Int.reduceToNat, hp]
  refine call_is (hF _ _ _ hn) ?_
  try simp only [I, B, D, RW, ↓ KW, fillA, setCells, stTags, flat, Nat.reduceBEq, Nat.reduceAdd, Nat.reduceLeDiff, Int.reduceNe, Int.reduceBEq, Int.reduceEq, reduceCtorEq, Nat.reduceMul, Int.reduceLT, Int.reduceLE, Int.reduceToNat, hp]
  refine call_is (hW t _ _ ht) ?_
  try simp only [I, B, D, RW, ↓ KW, fillA, setCells, stTags, flat, Nat.reduceBEq, Nat.reduceAdd, Nat.reduceLeDiff, Int.reduceNe, Int.reduceBEq, Int.reduceEq, reduceCtorEq, Nat.reduceMul, Int.reduceLT, Int.reduceLE, Int.reduceToNat, hp]
  refine call_is (hF _ _ _ hn) ?_
  try simp only [I, B, D, RW, ↓ KW, fillA, setCells, stTags, flat, Nat.reduceBEq, Nat.reduceAdd, Nat.reduceLeDiff, Int.reduceNe, Int.reduceBEq, Int.reduceEq, reduceCtorEq, Nat.reduceMul, Int.reduceLT, Int.reduceLE, Int.reduceToNat, hp]
  refine call_is (hF _ _ _ hn) ?_
  try simp only [I, B, D, RW, ↓ KW, fillA, setCells, stTags, flat, Nat.reduceBEq, Nat.reduceAdd, Nat.reduceLeDiff, Int.reduceNe, Int.reduceBEq, Int.reduceEq, reduceCtorEq, Nat.reduceMul, Int.reduceLT, Int.reduceLE, Int.reduceToNat, hp]
  refine call_is (hW t _ _ ht) ?_
  try simp only [I, B, D, RW, ↓ KW, fillA, setCells, stTags, flat, Nat.reduceBEq, Nat.reduceAdd, Nat.reduceLeDiff, Int.reduceNe, Int.reduceBEq, Int.reduceEq, reduceCtorEq, Nat.reduceMul, Int.reduceLT, Int.reduceLE, Int.reduceToNat, hp]
  refine call_is (hF _ _ _ (by omega)) ?_
  try simp only [I, B, D, RW, ↓ KW, fillA, setCells, stTags, flat, Nat.reduceBEq, Nat.reduceAdd, Nat.reduceLeDiff, Int.reduceNe, Int.reduceBEq, Int.reduceEq, reduceCtorEq, Nat.reduceMul, Int.reduceLT, Int.reduceLE, Int.reduceToNat, hp]
  have h14 := frm_range l (w64 (i + 14)) (n := 3) (by decide) (by decide)
  have e14 : [AV.int .i64 10000, AV.int .i64 400, AV.int .i64 20][(frm l (w64 (i + 14)) 3).toNat]? = some (.int .i64 ([10000, 400, 20].getD (frm l (w64 (i + 14)) 3).toNat 0)) := by
    generalize frm l (w64 (i + 14)) 3 = j at *
    have : j = 0 ∨ j = 1 ∨ j = 2 := by omega
    rcases this with rfl | rfl | rfl <;> rfl
  have hu : 0 ≤ IntKind.u64.wrap n := by rw [IntKind.wrap]; simp [IntKind.signed]; omega
  simp only [w64] at e14 h14
  refine cd_split (fun h => ?_) (fun h => ?_) <;> try simp only [I, B, D, RW, ↓ KW, fillA, setCells, stTags, flat, Nat.reduceBEq, Nat.reduceAdd, Nat.reduceLeDiff, Int.reduceNe, Int.reduceBEq, Int.reduceEq, reduceCtorEq, Nat.reduceMul, Int.reduceLT, Int.reduceLE, Int.reduceToNat, hp, h]
  · repeat' (first | (refine call_is (hF _ _ _ hn) ?_; try simp only [I, B, D, RW, ↓ KW, fillA, setCells, stTags, flat, Nat.reduceBEq, Nat.reduceAdd, Nat.reduceLeDiff, Int.reduceNe, Int.reduceBEq, Int.reduceEq, reduceCtorEq, Nat.reduceMul, Int.reduceLT, Int.reduceLE, Int.reduceToNat, hp]) | (refine call_is (hF _ _ _ (by decide)) ?_; try simp only [I, B, D, RW, ↓ KW, fillA, setCells, stTags, flat, Nat.reduceBEq, Nat.reduceAdd, Nat.reduceLeDiff, Int.reduceNe, Int.reduceBEq, Int.reduceEq, reduceCtorEq, Nat.reduceMul, Int.reduceLT, Int.reduceLE, Int.reduceToNat, hp]) | (refine call_is (hW t _ _ ht) ?_; try simp only [I, B, D, RW, ↓ KW, fillA, setCells, stTags, flat, Nat.reduceBEq, Nat.reduceAdd, Nat.reduceLeDiff, Int.reduceNe, Int.reduceBEq, Int.reduceEq, reduceCtorEq, Nat.reduceMul, Int.reduceLT, Int.reduceLE, Int.reduceToNat, hp]) | (refine gd_split (fun h => ?_) (fun h => ?_) <;> try simp only [I, B, D, RW, ↓ KW, fillA, setCells, stTags, flat, Nat.reduceBEq, Nat.reduceAdd, Nat.reduceLeDiff, Int.reduceNe, Int.reduceBEq, Int.reduceEq, reduceCtorEq, Nat.reduceMul, Int.reduceLT, Int.reduceLE, Int.reduceToNat, hp, h]) | (refine cd_split (fun h => ?_) (fun h => ?_) <;> try simp only [I, B, D, RW, ↓ KW, fillA, setCells, stTags, flat, Nat.reduceBEq, Nat.reduceAdd, Nat.reduceLeDiff, Int.reduceNe, Int.reduceBEq, Int.reduceEq, reduceCtorEq, Nat.reduceMul, Int.reduceLT, Int.reduceLE, Int.reduceToNat, hp, h]) | (refine pk_split (fun h => ?_) (fun h => ?_) <;> try simp only [I, B, D, RW, ↓ KW, fillA, setCells, stTags, flat, Nat.reduceBEq, Nat.reduceAdd, Nat.reduceLeDiff, Int.reduceNe, Int.reduceBEq, Int.reduceEq, reduceCtorEq, Nat.reduceMul, Int.reduceLT, Int.reduceLE, Int.reduceToNat, hp, h]))
    refine ⟨hu, ?_⟩
    repeat' (first | (refine call_is (hF _ _ _ hn) ?_; try simp only [I, B, D, RW, ↓ KW, fillA, setCells, stTags, flat, Nat.reduceBEq, Nat.reduceAdd, Nat.reduceLeDiff, Int.reduceNe, Int.reduceBEq, Int.reduceEq, reduceCtorEq, Nat.reduceMul, Int.reduceLT, Int.reduceLE, Int.reduceToNat, hp]) | (refine call_is (hF _ _ _ (by decide)) ?_; try simp only [I, B, D, RW, ↓ KW, fillA, setCells, stTags, flat, Nat.reduceBEq, Nat.reduceAdd, Nat.reduceLeDiff, Int.reduceNe, Int.reduceBEq, Int.reduceEq, reduceCtorEq, Nat.reduceMul, Int.reduceLT, Int.reduceLE, Int.reduceToNat, hp]) | (refine call_is (hW t _ _ ht) ?_; try simp only [I, B, D, RW, ↓ KW, fillA, setCells, stTags, flat, Nat.reduceBEq, Nat.reduceAdd, Nat.reduceLeDiff, Int.reduceNe, Int.reduceBEq, Int.reduceEq, reduceCtorEq, Nat.reduceMul, Int.reduceLT, Int.reduceLE, Int.reduceToNat, hp]) | (refine gd_split (fun h => ?_) (fun h => ?_) <;> try simp only [I, B, D, RW, ↓ KW, fillA, setCells, stTags, flat, Nat.reduceBEq, Nat.reduceAdd, Nat.reduceLeDiff, Int.reduceNe, Int.reduceBEq, Int.reduceEq, reduceCtorEq, Nat.reduceMul, Int.reduceLT, Int.reduceLE, Int.reduceToNat, hp, h]) | (refine cd_split (fun h => ?_) (fun h => ?_) <;> try simp only [I, B, D, RW, ↓ KW, fillA, setCells, stTags, flat, Nat.reduceBEq, Nat.reduceAdd, Nat.reduceLeDiff, Int.reduceNe, Int.reduceBEq, Int.reduceEq, reduceCtorEq, Nat.reduceMul, Int.reduceLT, Int.reduceLE, Int.reduceToNat, hp, h]) | (refine pk_split (fun h => ?_) (fun h => ?_) <;> try simp only [I, B, D, RW, ↓ KW, fillA, setCells, stTags, flat, Nat.reduceBEq, Nat.reduceAdd, Nat.reduceLeDiff, Int.reduceNe, Int.reduceBEq, Int.reduceEq, reduceCtorEq, Nat.reduceMul, Int.reduceLT, Int.reduceLE, Int.reduceToNat, hp, h]))
    all_goals refine ⟨by omega, ?_⟩
    all_goals try simp only [I, B, D, RW, ↓ KW, fillA, setCells, stTags, flat, Nat.reduceBEq, Nat.reduceAdd, Nat.reduceLeDiff, Int.reduceNe, Int.reduceBEq, Int.reduceEq, reduceCtorEq, Nat.reduceMul, Int.reduceLT, Int.reduceLE, Int.reduceToNat, e14, hp]
    all_goals simp_all [railOf, Rl.cells, w64, IntKind.bits]
  · repeat' (first | (refine call_is (hF _ _ _ hn) ?_; try simp only [I, B, D, RW, ↓ KW, fillA, setCells, stTags, flat, Nat.reduceBEq, Nat.reduceAdd, Nat.reduceLeDiff, Int.reduceNe, Int.reduceBEq, Int.reduceEq, reduceCtorEq, Nat.reduceMul, Int.reduceLT, Int.reduceLE, Int.reduceToNat, hp]) | (refine call_is (hF _ _ _ (by decide)) ?_; try simp only [I, B, D, RW, ↓ KW, fillA, setCells, stTags, flat, Nat.reduceBEq, Nat.reduceAdd, Nat.reduceLeDiff, Int.reduceNe, Int.reduceBEq, Int.reduceEq, reduceCtorEq, Nat.reduceMul, Int.reduceLT, Int.reduceLE, Int.reduceToNat, hp]) | (refine call_is (hW t _ _ ht) ?_; try simp only [I, B, D, RW, ↓ KW, fillA, setCells, stTags, flat, Nat.reduceBEq, Nat.reduceAdd, Nat.reduceLeDiff, Int.reduceNe, Int.reduceBEq, Int.reduceEq, reduceCtorEq, Nat.reduceMul, Int.reduceLT, Int.reduceLE, Int.reduceToNat, hp]) | (refine gd_split (fun h => ?_) (fun h => ?_) <;> try simp only [I, B, D, RW, ↓ KW, fillA, setCells, stTags, flat, Nat.reduceBEq, Nat.reduceAdd, Nat.reduceLeDiff, Int.reduceNe, Int.reduceBEq, Int.reduceEq, reduceCtorEq, Nat.reduceMul, Int.reduceLT, Int.reduceLE, Int.reduceToNat, hp, h]) | (refine cd_split (fun h => ?_) (fun h => ?_) <;> try simp only [I, B, D, RW, ↓ KW, fillA, setCells, stTags, flat, Nat.reduceBEq, Nat.reduceAdd, Nat.reduceLeDiff, Int.reduceNe, Int.reduceBEq, Int.reduceEq, reduceCtorEq, Nat.reduceMul, Int.reduceLT, Int.reduceLE, Int.reduceToNat, hp, h]) | (refine pk_split (fun h => ?_) (fun h => ?_) <;> try simp only [I, B, D, RW, ↓ KW, fillA, setCells, stTags, flat, Nat.reduceBEq, Nat.reduceAdd, Nat.reduceLeDiff, Int.reduceNe, Int.reduceBEq, Int.reduceEq, reduceCtorEq, Nat.reduceMul, Int.reduceLT, Int.reduceLE, Int.reduceToNat, hp, h]))
    refine ⟨hu, ?_⟩
    repeat' (first | (refine call_is (hF _ _ _ hn) ?_; try simp only [I, B, D, RW, ↓ KW, fillA, setCells, stTags, flat, Nat.reduceBEq, Nat.reduceAdd, Nat.reduceLeDiff, Int.reduceNe, Int.reduceBEq, Int.reduceEq, reduceCtorEq, Nat.reduceMul, Int.reduceLT, Int.reduceLE, Int.reduceToNat, hp]) | (refine call_is (hF _ _ _ (by decide)) ?_; try simp only [I, B, D, RW, ↓ KW, fillA, setCells, stTags, flat, Nat.reduceBEq, Nat.reduceAdd, Nat.reduceLeDiff, Int.reduceNe, Int.reduceBEq, Int.reduceEq, reduceCtorEq, Nat.reduceMul, Int.reduceLT, Int.reduceLE, Int.reduceToNat, hp]) | (refine call_is (hW t _ _ ht) ?_; try simp only [I, B, D, RW, ↓ KW, fillA, setCells, stTags, flat, Nat.reduceBEq, Nat.reduceAdd, Nat.reduceLeDiff, Int.reduceNe, Int.reduceBEq, Int.reduceEq, reduceCtorEq, Nat.reduceMul, Int.reduceLT, Int.reduceLE, Int.reduceToNat, hp]) | (refine gd_split (fun h => ?_) (fun h => ?_) <;> try simp only [I, B, D, RW, ↓ KW, fillA, setCells, stTags, flat, Nat.reduceBEq, Nat.reduceAdd, Nat.reduceLeDiff, Int.reduceNe, Int.reduceBEq, Int.reduceEq, reduceCtorEq, Nat.reduceMul, Int.reduceLT, Int.reduceLE, Int.reduceToNat, hp, h]) | (refine cd_split (fun h => ?_) (fun h => ?_) <;> try simp only [I, B, D, RW, ↓ KW, fillA, setCells, stTags, flat, Nat.reduceBEq, Nat.reduceAdd, Nat.reduceLeDiff, Int.reduceNe, Int.reduceBEq, Int.reduceEq, reduceCtorEq, Nat.reduceMul, Int.reduceLT, Int.reduceLE, Int.reduceToNat, hp, h]) | (refine pk_split (fun h => ?_) (fun h => ?_) <;> try simp only [I, B, D, RW, ↓ KW, fillA, setCells, stTags, flat, Nat.reduceBEq, Nat.reduceAdd, Nat.reduceLeDiff, Int.reduceNe, Int.reduceBEq, Int.reduceEq, reduceCtorEq, Nat.reduceMul, Int.reduceLT, Int.reduceLE, Int.reduceToNat, hp, h]))
    all_goals refine ⟨by omega, ?_⟩
    all_goals try simp only [I, B, D, RW, ↓ KW, fillA, setCells, stTags, flat, Nat.reduceBEq, Nat.reduceAdd, Nat.reduceLeDiff, Int.reduceNe, Int.reduceBEq, Int.reduceEq, reduceCtorEq, Nat.reduceMul, Int.reduceLT, Int.reduceLE, Int.reduceToNat, e14, hp]
    all_goals simp_all [railOf, Rl.cells, w64, IntKind.bits]
    all_goals exact ⟨fun _ => by omega, fun _ => by omega⟩
end
end Go.Eng
namespace Go.Eng
set_option linter.unusedVariables false
set_option linter.unusedSimpArgs false
set_option linter.unnecessarySimpa false
open Go
set_option linter.unusedVariables false
set_option linter.unusedSimpArgs false
set_option maxRecDepth 10000
set_option maxHeartbeats 4000000
def limN (groups g : Nat) : Nat := 8 - (groups - 1 - g)
def rowN (p m : Nat) : List Int := (List.range m).map fun (j : Nat) => ((p + j : Nat) : Int)
def cnt (l : Option (List Int)) (g k : Nat) (r0 : Nat) : Nat :=
  let n := (frm l (1 + 2 * g + k) 3).toNat
  if k = 1 ∧ n = 0 ∧ r0 = 0 then 1 else n
def fillN (n p lim : Nat) : Nat := min n (lim - p)
def rowsTo (l : Option (List Int)) (groups : Nat) : Nat → List Gr × Nat
  | 0 => ([], 0)
  | g + 1 =>
    let q := rowsTo l groups g
    let m0 := fillN (cnt l g 0 0) q.2 (limN groups g)
    let m1 := fillN (cnt l g 1 m0) (q.2 + m0) (limN groups g)
    (q.1 ++ [⟨mkO (rowN q.2 m0), mkO (rowN (q.2 + m0) m1)⟩], q.2 + m0 + m1)
def groupsN (l : Option (List Int)) : Nat := (1 + frm l 0 3).toNat
def rows.Spec (C : Con) (f : Nat) : Prop := ∀ (t : Tb) (l : Option (List Int)), t.Ok → t.groups = none → C.p f [t.cells] [none, some (slAV intRow l)] (I ((rowsTo l (groupsN l) (groupsN l)).2 : Nat)) none [({ t with groups := some (rowsTo l (groupsN l) (groupsN l)).1 } : Tb).cells]
theorem Tb.len' {t : Tb} (h1 : t.phases.length = 8) (h2 : t.conflict.length = 8) (h3 : t.flash.length = 8) : t.cells.length = 131 := by
  simp [Tb.cells, flatMap_len Ph.len, h1, h2, h3]
theorem Tb.groups_at' {t : Tb} (h : t.phases.length = 8) : t.cells[104]? = some (slAV Gr.cells t.groups) := by
  simp [Tb.cells, List.getElem?_append, flatMap_len Ph.len, h]
theorem Tb.set_groups {t : Tb} (h : t.phases.length = 8) (g : Option (List Gr)) : t.cells.take 104 ++ (slAV Gr.cells g :: t.cells.drop 105) = ({ t with groups := g } : Tb).cells := by
  have e : (t.phases.flatMap Ph.cells).length = 104 := by rw [flatMap_len Ph.len, h]
  simp only [Tb.cells]
  rw [List.take_append_of_le_length (by omega), List.take_of_length_le (by omega), List.drop_append, List.drop_of_length_le (by omega), e]
  rfl
theorem aops_ex {C : Con} {base : Nat} : ∀ {l : List CO} {i : Nat} {s : S} {K : S → Prop}, aops C base i l K s → ∃ s', K s' ∧ ∀ K' : S → Prop, K' s' → aops C base i l K' s
  | [], i, s, K, h => ⟨s, h, fun _ h => h⟩
  | o :: l, i, s, K, h => by
    rw [aops_cons] at h
    obtain ⟨v, d, hd, hk', _⟩ := astep_path h
    obtain ⟨s', h1, h2⟩ := aops_ex hk'
    refine ⟨s', h1, fun K' hK => ?_⟩
    rw [aops_cons]
    exact hd.2 s .refl _ (h2 K' hK)
theorem aw_ex {C : Con} : ∀ {c : CCode} {Q : Exit → S → Prop} {s : S}, aw C c Q s → ∃ e s', Q e s' ∧ ∀ Q' : Exit → S → Prop, Q' e s' → aw C c Q' s := by
  intro c
  induction c with
  | skip => intro Q s h; exact ⟨_, _, h, fun _ h => h⟩
  | reg ops =>
    intro Q s h
    obtain ⟨s', h1, h2⟩ := aops_ex h
    exact ⟨_, _, h1, fun Q' hq => h2 _ hq⟩
  | seq a b iha ihb =>
    intro Q s h
    obtain ⟨e, s', h1, h2⟩ := iha h
    cases e with
    | normal =>
      obtain ⟨e, s'', h3, h4⟩ := ihb h1
      exact ⟨e, s'', h3, fun Q' hq => h2 _ (h4 _ hq)⟩
    | exit i => exact ⟨_, _, h1, fun Q' hq => h2 _ hq⟩
    | ret => exact ⟨_, _, h1, fun Q' hq => h2 _ hq⟩
    | _ => exact ⟨_, _, h1, fun Q' hq => h2 _ hq⟩
  | join a b iha ihb =>
    intro Q s h
    obtain ⟨e, s', h1, h2⟩ := iha h
    cases e with
    | normal =>
      obtain ⟨s1, ⟨hl, hF⟩ | hF⟩ := h1
      · obtain ⟨e, s'', h3, h4⟩ := ihb hF
        exact ⟨e, s'', h3, fun Q' hq => h2 _ ⟨s1, .inl ⟨hl, h4 _ hq⟩⟩⟩
      · obtain ⟨e, s'', h3, h4⟩ := ihb hF
        exact ⟨e, s'', h3, fun Q' hq => h2 _ ⟨s1, .inr (h4 _ hq)⟩⟩
    | exit i => exact ⟨_, _, h1, fun Q' hq => h2 _ hq⟩
    | ret => exact ⟨_, _, h1, fun Q' hq => h2 _ hq⟩
    | _ => exact ⟨_, _, h1, fun Q' hq => h2 _ hq⟩
  | cond c a b iha ihb =>
    intro Q s h
    simp only [aw] at h ⊢
    obtain ⟨v, hv, hw⟩ := withV_inv h
    cases v <;> try (exact hw.elim)
    rename_i t
    cases t with
    | true =>
      obtain ⟨e, s', h1, h2⟩ := iha (hw.1 rfl)
      exact ⟨e, s', h1, fun Q' hq => by rw [hv]; exact ⟨fun _ => h2 _ hq, fun h => by cases h⟩⟩
    | false =>
      obtain ⟨e, s', h1, h2⟩ := ihb (hw.2 rfl)
      exact ⟨e, s', h1, fun Q' hq => by rw [hv]; exact ⟨fun h => (by cases h), fun _ => h2 _ hq⟩⟩
  | label l => intro Q s h; exact ⟨_, _, h, fun _ h => h⟩
  | goto l => intro Q s h; exact ⟨_, _, h, fun _ h => h⟩
  | scope l c r ihc ihr =>
    intro Q s h
    obtain ⟨e, s', h1, h2⟩ := ihc h
    cases e with
    | goto l' =>
      obtain ⟨hl, h1⟩ := h1
      obtain ⟨e, s'', h3, h4⟩ := ihr h1
      cases e with
      | goto l2 => exact h3.elim
      | _ => exact ⟨_, s'', h3, fun Q' hq => h2 (scopeQ l (aw C r (noGo Q')) Q') ⟨hl, h4 (noGo Q') hq⟩⟩
    | _ => exact ⟨_, _, h1, fun Q' hq => h2 (scopeQ l (aw C r (noGo Q')) Q') hq⟩
  | block id c ih =>
    intro Q s h
    obtain ⟨e, s', h1, h2⟩ := ih h
    cases e with
    | exit i =>
      simp only [ablock] at h1
      by_cases hi : i = id
      · rw [if_pos hi] at h1
        exact ⟨_, _, h1, fun Q' hq => h2 _ (by simp only [ablock, if_pos hi]; exact hq)⟩
      · rw [if_neg hi] at h1
        exact ⟨_, _, h1, fun Q' hq => h2 _ (by simp only [ablock, if_neg hi]; exact hq)⟩
    | _ => exact ⟨_, _, h1, fun Q' hq => h2 _ hq⟩
  | loop c ih =>
    have key : ∀ (n : Nat) {Q : Exit → S → Prop} {s : S}, ARounds (aw C c) Q n s → ∃ e s', Q e s' ∧ ∀ Q' : Exit → S → Prop, Q' e s' → ARounds (aw C c) Q' n s := by
      intro n
      induction n with
      | zero => intro Q s h; exact h.elim
      | succ n ihn =>
        intro Q s h
        obtain ⟨e, s', h1, h2⟩ := ih h
        cases e with
        | normal =>
          obtain ⟨s1, ⟨hl, hF⟩ | hF⟩ := h1
          · obtain ⟨e, s'', h3, h4⟩ := ihn hF
            exact ⟨e, s'', h3, fun Q' hq => h2 _ ⟨s1, .inl ⟨hl, h4 _ hq⟩⟩⟩
          · obtain ⟨e, s'', h3, h4⟩ := ihn hF
            exact ⟨e, s'', h3, fun Q' hq => h2 _ ⟨s1, .inr (h4 _ hq)⟩⟩
        | exit i => exact ⟨_, _, h1, fun Q' hq => h2 _ hq⟩
        | ret => exact ⟨_, _, h1, fun Q' hq => h2 _ hq⟩
        | _ => exact ⟨_, _, h1, fun Q' hq => h2 _ hq⟩
    intro Q s h
    obtain ⟨s1, ⟨hl, n, hF⟩ | ⟨n, hF⟩⟩ := h
    · obtain ⟨e, s'', h3, h4⟩ := key n hF
      exact ⟨e, s'', h3, fun Q' hq => ⟨s1, .inl ⟨hl, n, h4 _ hq⟩⟩⟩
    · obtain ⟨e, s'', h3, h4⟩ := key n hF
      exact ⟨e, s'', h3, fun Q' hq => ⟨s1, .inr ⟨n, h4 _ hq⟩⟩⟩
  | exit id => intro Q s h; exact ⟨_, _, h, fun _ h => h⟩
  | ret => intro Q s h; exact ⟨_, _, h, fun _ h => h⟩
  | regD ops bad =>
    intro Q s h
    obtain ⟨s', h1, h2⟩ := aops_ex h.2
    exact ⟨_, _, h1, fun Q' hq => ⟨h.1, h2 _ hq⟩⟩
  | rfor g ps wr as bd iha ihb =>
    intro Q s h
    simp only [aw] at h
    obtain ⟨gv, hgv, xs, h1, h2, F, h3, h4, h5, h6⟩ := withV_inv h
    have mono : ∀ {F F' : S → Prop} {Q : Exit → S → Prop} {t : S}, (∀ s, F s → F' s) → aw C as (onlyN (aw C bd (rfQ wr F Q))) t → aw C as (onlyN (aw C bd (rfQ wr F' Q))) t := by
      intro F F' Q t hF h
      refine aw_mono (fun e s ha => ?_) h
      cases e <;> first | exact ha.elim | skip
      refine aw_mono (fun e s hb => ?_) ha
      cases e <;> first | exact down_mono hF hb | exact hb
    have key : ∀ n i s', xs.length - i = n → i ≤ xs.length → F i s' → ∃ e s'', Q e s'' ∧ ∀ Q' : Exit → S → Prop, Q' e s'' → ∃ F' : Nat → S → Prop, F' i s' ∧ (∀ j t, F' j t → i ≤ j ∧ opdA t g = some gv) ∧
        (∀ j x t, xs[j]? = some x → F' j t → aw C as (onlyN (aw C bd (rfQ wr (F' (j + 1)) Q'))) (putPs ps x t)) ∧ ∀ t, F' xs.length t → Q' .normal t := by
      intro n
      induction n with
      | zero =>
        intro i s' hn hi hF
        have hi : i = xs.length := by omega
        subst hi
        exact ⟨.normal, s', h6 s' hF, fun Q' hq => ⟨fun j t => j = xs.length ∧ t = s', ⟨rfl, rfl⟩, fun j t ⟨e, e'⟩ => by subst e; subst e'; exact ⟨Nat.le_refl _, h4 _ _ hF⟩,
          fun j x t hx ⟨e, _⟩ => by subst e; simp at hx, fun t ⟨_, e⟩ => by subst e; exact hq⟩⟩
      | succ n ih =>
        intro i s' hn hi hF
        have hlt : i < xs.length := by omega
        have hx : xs[i]? = some xs[i] := by simp [hlt]
        obtain ⟨e1, s1, k1, k2⟩ := iha (h5 i _ s' hx hF)
        cases e1 <;> try exact k1.elim
        obtain ⟨e2, s2, k3, k4⟩ := ihb k1
        have stop : ∀ (e : Exit) (s'' : S), Q e s'' → (∀ (F' : S → Prop) (Q' : Exit → S → Prop), Q' e s'' → rfQ wr F' Q' e2 s2) → ∃ e s'', Q e s'' ∧ ∀ Q' : Exit → S → Prop, Q' e s'' → ∃ F' : Nat → S → Prop, F' i s' ∧ (∀ j t, F' j t → i ≤ j ∧ opdA t g = some gv) ∧
            (∀ j x t, xs[j]? = some x → F' j t → aw C as (onlyN (aw C bd (rfQ wr (F' (j + 1)) Q'))) (putPs ps x t)) ∧ ∀ t, F' xs.length t → Q' .normal t := by
          intro e s'' hq hr
          refine ⟨e, s'', hq, fun Q' hq' => ⟨fun j t => j = i ∧ t = s', ⟨rfl, rfl⟩, fun j t ⟨e, e'⟩ => by subst e; subst e'; exact ⟨Nat.le_refl _, h4 _ _ hF⟩, fun j x t hx' ⟨e, e'⟩ => ?_, fun t ⟨e, _⟩ => by omega⟩⟩
          subst e; subst e'
          rw [hx] at hx'; cases hx'
          exact k2 _ (k4 _ (hr _ _ hq'))
        cases e2 with
        | normal =>
          obtain ⟨s3, hs3⟩ : ∃ s3, F (i + 1) s3 ∧ (Le (cutS wr s2) s3 ∨ s3 = cutS wr s2) := by
            obtain ⟨s3, ⟨hl, hf⟩ | hf⟩ := (show Eng.down (F (i + 1)) (cutS wr s2) from k3)
            · exact ⟨s3, hf, .inl hl⟩
            · exact ⟨_, hf, .inr rfl⟩
          obtain ⟨e, s'', hq, hre⟩ := ih (i + 1) s3 (by omega) (by omega) hs3.1
          refine ⟨e, s'', hq, fun Q' hq' => ?_⟩
          obtain ⟨F'', g1, g2, g3, g4⟩ := hre Q' hq'
          refine ⟨fun j t => (j = i ∧ t = s') ∨ F'' j t, .inl ⟨rfl, rfl⟩, fun j t ht => ?_, fun j x t hx' ht => ?_, fun t ht => ?_⟩
          · rcases ht with ⟨rfl, rfl⟩ | ht
            · exact ⟨Nat.le_refl _, h4 _ _ hF⟩
            · exact ⟨by have := (g2 j t ht).1; omega, (g2 j t ht).2⟩
          · rcases ht with ⟨rfl, rfl⟩ | ht
            · rw [hx] at hx'; cases hx'
              refine k2 _ (k4 _ (show Eng.down _ _ from ?_))
              rcases hs3.2 with hl | hl
              · exact ⟨s3, .inl ⟨hl, .inr g1⟩⟩
              · rw [← hl]; exact down_refl (.inr g1)
            · exact mono (fun _ h => .inr h) (g3 j x t hx' ht)
          · rcases ht with ⟨e, _⟩ | ht
            · omega
            · exact g4 t ht
        | ret => exact stop .ret _ k3 fun _ _ h => h
        | exit id => exact stop (.exit id) _ k3 fun _ _ h => h
        | _ => exact k3.elim
    obtain ⟨s0, h0⟩ : ∃ s0, F 0 s0 ∧ (Le s s0 ∨ s0 = s) := by
      obtain ⟨s0, ⟨hl, hf⟩ | hf⟩ := h3
      · exact ⟨s0, hf, .inl hl⟩
      · exact ⟨_, hf, .inr rfl⟩
    obtain ⟨e, s'', hq, hre⟩ := key _ 0 s0 rfl (Nat.zero_le _) h0.1
    refine ⟨e, s'', hq, fun Q' hq' => ?_⟩
    obtain ⟨F', g1, g2, g3, g4⟩ := hre Q' hq'
    simp only [aw, hgv]
    refine ⟨xs, h1, h2, F', ?_, fun j t ht => (g2 j t ht).2, g3, g4⟩
    rcases h0.2 with hl | hl
    · exact ⟨s0, .inl ⟨hl, g1⟩⟩
    · rw [← hl]; exact down_refl g1
theorem aw_unroll {C : Con} {c : CCode} {Q : Exit → S → Prop} {s : S} (h : aw C c (athen (aw C (.loop c) Q) Q) s) : aw C (.loop c) Q s := by
  obtain ⟨e, s', h1, h2⟩ := aw_ex h
  cases e with
  | normal =>
    obtain ⟨s1, ⟨hl, n, hF⟩ | ⟨n, hF⟩⟩ := h1
    · exact down_refl ⟨n + 1, h2 _ ⟨s1, .inl ⟨hl, hF⟩⟩⟩
    · exact down_refl ⟨n + 1, h2 _ ⟨s1, .inr hF⟩⟩
  | exit i => exact down_refl ⟨1, h2 _ h1⟩
  | ret => exact down_refl ⟨1, h2 _ h1⟩
  | _ => exact down_refl ⟨1, h2 _ h1⟩
theorem rowN_succ (p i : Nat) : rowN p (i + 1) = rowN p i ++ [((p + i : Nat) : Int)] := by simp [rowN, List.range_succ]
theorem rowsTo_le (l : Option (List Int)) (G : Nat) : ∀ g, (rowsTo l G g).2 ≤ 8
  | 0 => by simp [rowsTo]
  | g + 1 => by
    have := rowsTo_le l G g
    simp only [rowsTo, fillN, limN]
    omega
theorem rowsTo_len (l : Option (List Int)) (G : Nat) : ∀ g, (rowsTo l G g).1.length = g
  | 0 => by simp [rowsTo]
  | g + 1 => by
    have := rowsTo_len l G g
    simp only [rowsTo, List.length_append, List.length_cons, List.length_nil]
    omega
def Cut {α : Type} (ex : Exit) (st : α → S) (J : α → Prop) (e : Exit) (s : S) : Prop := e = ex ∧ ∃ y, J y ∧ Le s (st y)
theorem cut_at {α : Type} {ex : Exit} {st : α → S} {J : α → Prop} {s : S} (y : α) (hy : J y) (hle : Le s (st y)) : Cut ex st J ex s := ⟨rfl, y, hy, hle⟩
theorem aw_cut {C : Con} {c : CCode} {Q : Exit → S → Prop} {s : S} {F : S → Prop} {α : Type} (ex : Exit) (st : α → S) (J : α → Prop) (hQ : ∀ s', Q ex s' = down F s') (h1 : aw C c (Cut ex st J) s) (h2 : ∀ y, J y → F (st y)) : aw C c Q s := by
  refine aw_mono ?_ h1
  rintro e s' ⟨rfl, y, hy, hle⟩
  rw [hQ]
  exact ⟨st y, .inl ⟨hle, h2 y hy⟩⟩
theorem wrap_01 : IntKind.i64.wrap (0 + 1) = 1 := by decide
theorem wrap_11 : IntKind.i64.wrap (1 + 1) = 2 := by decide
theorem slAV_none {α : Type} (f : α → List AV) : slAV f none = .nils := rfl
theorem slAV_some {α : Type} (f : α → List AV) (l : List α) : slAV f (some l) = .sl (l.map f) := rfl
section
variable {P : Program} (hm : P.follows .mixedOrders = true) {f : Nat}
include hm
theorem rows.ok {fF e eR : Nat} (hc : cFn P f = some (cc_law00_rows fF e eR)) (hF : from.Spec (Pure P) fF) : rows.Spec (Pure P) f := by
  intro t l ht hg0
  have hl := Tb.len ht
  have hp := Tb.whole ht
  refine pureB_of hm hc (by show 2 ≤ 78; decide) rfl (by simp) (aw_flat (keep := [3,5]) (i := 0) ?_)
  try simp only [I, B, D, RW, ↓ KW, fillA, setCells, stTags, flat, Nat.reduceBEq, Nat.reduceAdd, Nat.reduceLeDiff, Int.reduceNe, Int.reduceBEq, Int.reduceEq, reduceCtorEq, Nat.reduceMul, Int.reduceLT, Int.reduceLE, Int.reduceToNat, cc_law00_rows]
  have hgr := frm_range l 0 (n := 3) (by decide) (by decide)
  refine call_is (hF _ _ _ (by decide)) ?_
  try simp only [I, B, D, RW, ↓ KW, fillA, setCells, stTags, flat, Nat.reduceBEq, Nat.reduceAdd, Nat.reduceLeDiff, Int.reduceNe, Int.reduceBEq, Int.reduceEq, reduceCtorEq, Nat.reduceMul, Int.reduceLT, Int.reduceLE, Int.reduceToNat]
  have hgn : IntKind.i64.wrap (1 + frm l 0 3) = (groupsN l : Nat) := by
    rw [wrap_id (by omega) (by omega), groupsN]; omega
  have hg3 : 1 ≤ groupsN l ∧ groupsN l ≤ 3 := by unfold groupsN; omega
  rw [hgn]
  generalize groupsN l = G at *
  refine aw_loop' (fun g : Nat => (⟨[(7, .dat (I g) none), (5, .dat (I G) none), (1, .dat (slAV intRow l) none), (6, .dat (I (rowsTo l G g).2) none), (0, .ptr 0 0)], [(0, ⟨({ t with groups := mkO (rowsTo l G g).1 } : Tb).cells, if (rowsTo l G g).1 = [] then [] else [(104, 0)]⟩)], ownL (rowsTo l G g).1 0 eR, 400⟩ : S)) (fun g => G - g) (fun g => g ≤ G) ?_ 0 (by omega) ?_
  · intro g hg A back
    have hw := wrap_succ (k := g) (by omega)
    have hn2 : rowsTo l G (g + 1) = ((rowsTo l G g).1 ++ [⟨mkO (rowN (rowsTo l G g).2 (fillN (cnt l g 0 0) (rowsTo l G g).2 (limN G g))), mkO (rowN ((rowsTo l G g).2 + fillN (cnt l g 0 0) (rowsTo l G g).2 (limN G g)) (fillN (cnt l g 1 (fillN (cnt l g 0 0) (rowsTo l G g).2 (limN G g))) ((rowsTo l G g).2 + fillN (cnt l g 0 0) (rowsTo l G g).2 (limN G g)) (limN G g)))⟩], (rowsTo l G g).2 + fillN (cnt l g 0 0) (rowsTo l G g).2 (limN G g) + fillN (cnt l g 1 (fillN (cnt l g 0 0) (rowsTo l G g).2 (limN G g))) ((rowsTo l G g).2 + fillN (cnt l g 0 0) (rowsTo l G g).2 (limN G g)) (limN G g)) := rfl
    have hp8 : (rowsTo l G g).2 ≤ 8 := rowsTo_le l G g
    have hgl : (rowsTo l G g).1.length = g := rowsTo_len l G g
    generalize hR : rowsTo l G g = R at *
    obtain ⟨gs, p⟩ := R
    simp only at hn2 hp8 hgl
    have hc0 : frm l (1 + 2 * (g : Int) + 0) 3 = (cnt l g 0 0 : Nat) := by
      have := frm_range l (1 + 2 * (g : Int) + 0) (n := 3) (by decide) (by decide)
      have hc : cnt l g 0 0 = (frm l (1 + 2 * (g : Int) + 0) 3).toNat := by simp [cnt]
      rw [hc]; omega
    have hw1 : IntKind.i64.wrap (IntKind.i64.wrap (1 + IntKind.i64.wrap (2 * (g : Int))) + 0) = 1 + 2 * (g : Int) + 0 := by
      rw [wrap_id (n := 2 * (g : Int)) (by omega) (by omega), wrap_id (n := 1 + 2 * (g : Int)) (by omega) (by omega), wrap_id (by omega) (by omega)]
    have hw2 : IntKind.i64.wrap (IntKind.i64.wrap (1 + IntKind.i64.wrap (2 * (g : Int))) + 1) = 1 + 2 * (g : Int) + 1 := by
      rw [wrap_id (n := 2 * (g : Int)) (by omega) (by omega), wrap_id (n := 1 + 2 * (g : Int)) (by omega) (by omega), wrap_id (by omega) (by omega)]
    have hlim : IntKind.i64.wrap (8 - IntKind.i64.wrap (IntKind.i64.wrap ((G : Int) - 1) - (g : Int))) = if g < G then ((limN G g : Nat) : Int) else (8 - ((G : Int) - 1 - g) : Int) := by
      rw [wrap_id (n := (G : Int) - 1) (by omega) (by omega), wrap_id (n := (G : Int) - 1 - g) (by omega) (by omega), wrap_id (by omega) (by omega)]
      split <;> simp [limN] <;> omega
    by_cases hgs : gs = []
    all_goals
      try simp only [I, B, D, RW, ↓ KW, fillA, setCells, stTags, flat, Nat.reduceBEq, Nat.reduceAdd, Nat.reduceLeDiff, Int.reduceNe, Int.reduceBEq, Int.reduceEq, reduceCtorEq, Nat.reduceMul, Int.reduceLT, Int.reduceLE, Int.reduceToNat, hgs, ownL, mkO]
      refine cd_split (fun h => ?_) (fun h => ?_) <;> try simp only [I, B, D, RW, ↓ KW, fillA, setCells, stTags, flat, Nat.reduceBEq, Nat.reduceAdd, Nat.reduceLeDiff, Int.reduceNe, Int.reduceBEq, Int.reduceEq, reduceCtorEq, Nat.reduceMul, Int.reduceLT, Int.reduceLE, Int.reduceToNat, hgs, ownL, mkO, h]
      · have hlt : g < G := by have := of_decide_eq_true h; omega
        rw [if_pos hlt] at hlim
        generalize hc0' : cnt l g 0 0 = n0 at *
        refine aw_cut (.exit 2) (fun _ : Unit => (⟨[(6, .dat (I (p + fillN n0 p (limN G g) + fillN (cnt l g 1 (fillN n0 p (limN G g))) (p + fillN n0 p (limN G g)) (limN G g) : Nat)) none), (5, .dat (I G) none), (7, .dat (I g) none), (8, .ptr 403 0), (1, .dat (slAV intRow l) none), (0, .ptr 0 0)], [(403, ⟨[slAV intRow (mkO (rowN p (fillN n0 p (limN G g)))), slAV intRow (mkO (rowN (p + fillN n0 p (limN G g)) (fillN (cnt l g 1 (fillN n0 p (limN G g))) (p + fillN n0 p (limN G g)) (limN G g))))], []⟩), (0, ⟨({ t with groups := mkO gs } : Tb).cells, if gs = [] then [] else [(104, 0)]⟩)], ownL gs 0 eR, 1000⟩ : S)) (fun _ => True) (fun _ => rfl) ?_ ?_
        · refine aw_unroll ?_
          try simp only [I, B, D, RW, ↓ KW, fillA, setCells, stTags, flat, Nat.reduceBEq, Nat.reduceAdd, Nat.reduceLeDiff, Int.reduceNe, Int.reduceBEq, Int.reduceEq, reduceCtorEq, Nat.reduceMul, Int.reduceLT, Int.reduceLE, Int.reduceToNat, hgs]
          refine call_is (hF _ _ _ (by decide)) ?_
          try simp only [I, B, D, RW, ↓ KW, fillA, setCells, stTags, flat, Nat.reduceBEq, Nat.reduceAdd, Nat.reduceLeDiff, Int.reduceNe, Int.reduceBEq, Int.reduceEq, reduceCtorEq, Nat.reduceMul, Int.reduceLT, Int.reduceLE, Int.reduceToNat, hw1, hc0, hgs]
          refine aw_cut (.exit 4) (fun _ : Unit => (⟨[(9, .dat (I 0) none), (6, .dat (I (p + fillN n0 (p) (limN G g) : Nat)) none), (5, .dat (I G) none), (7, .dat (I g) none), (8, .ptr 403 0), (1, .dat (slAV intRow l) none), (0, .ptr 0 0)], [(403, ⟨[slAV intRow (mkO (rowN (p) (fillN n0 (p) (limN G g)))), .nils], []⟩), (0, ⟨({ t with groups := mkO gs } : Tb).cells, if gs = [] then [] else [(104, 0)]⟩)], ownL gs 0 eR, 1000⟩ : S)) (fun _ => True) (fun _ => rfl) ?_ ?_
          · refine aw_loop' (fun i : Nat => (⟨[(11, .dat (I i) none), (10, .dat (I n0) none), (6, .dat (I (p + i : Nat)) none), (5, .dat (I G) none), (7, .dat (I g) none), (9, .dat (I 0) none), (8, .ptr 403 0), (1, .dat (slAV intRow l) none), (0, .ptr 0 0)], [(403, ⟨[slAV intRow (mkO (rowN (p) i)), .nils], if rowN (p) i = [] then [] else [(0, 1)]⟩), (0, ⟨({ t with groups := mkO gs } : Tb).cells, if gs = [] then [] else [(104, 0)]⟩)], ownL (rowN (p) i) 1 e ++ ownL gs 0 eR, 1000⟩ : S)) (fun i => fillN n0 (p) (limN G g) - i) (fun i => i ≤ fillN n0 (p) (limN G g)) ?_ 0 (by omega) ?_
            · intro i hi A1 back1
              have hfl : fillN n0 (p) (limN G g) ≤ 8 := by simp only [fillN, limN]; omega
              have hw3 := wrap_succ (k := i) (by omega)
              have hf : fillN n0 (p) (limN G g) = min n0 (limN G g - (p)) := rfl
              have hp1 : IntKind.i64.wrap (((p + i : Nat) : Int) + 1) = ((p + (i + 1) : Nat) : Int) := by rw [wrap_id (by omega) (by omega)]; omega
              have hrl : (rowN (p) i).length = i := by simp [rowN]
              by_cases hl : rowN (p) i = []
              · try simp only [I, B, D, RW, ↓ KW, fillA, setCells, stTags, flat, Nat.reduceBEq, Nat.reduceAdd, Nat.reduceLeDiff, Int.reduceNe, Int.reduceBEq, Int.reduceEq, reduceCtorEq, Nat.reduceMul, Int.reduceLT, Int.reduceLE, Int.reduceToNat, hl, ownL, mkO, hlim, hgs]
                repeat' (first | (refine gd_split (fun h => ?_) (fun h => ?_) <;> try simp only [I, B, D, RW, ↓ KW, fillA, setCells, stTags, flat, Nat.reduceBEq, Nat.reduceAdd, Nat.reduceLeDiff, Int.reduceNe, Int.reduceBEq, Int.reduceEq, reduceCtorEq, Nat.reduceMul, Int.reduceLT, Int.reduceLE, Int.reduceToNat, slAV_none, slAV_some, hlim, hl, hgs, hp1, h]) | (refine cd_split (fun h => ?_) (fun h => ?_) <;> try simp only [I, B, D, RW, ↓ KW, fillA, setCells, stTags, flat, Nat.reduceBEq, Nat.reduceAdd, Nat.reduceLeDiff, Int.reduceNe, Int.reduceBEq, Int.reduceEq, reduceCtorEq, Nat.reduceMul, Int.reduceLT, Int.reduceLE, Int.reduceToNat, slAV_none, slAV_some, hlim, hl, hgs, hp1, h]) | (refine pk_split (fun h => ?_) (fun h => ?_) <;> try simp only [I, B, D, RW, ↓ KW, fillA, setCells, stTags, flat, Nat.reduceBEq, Nat.reduceAdd, Nat.reduceLeDiff, Int.reduceNe, Int.reduceBEq, Int.reduceEq, reduceCtorEq, Nat.reduceMul, Int.reduceLT, Int.reduceLE, Int.reduceToNat, slAV_none, slAV_some, hlim, hl, hgs, hp1, h]))
                · have h1 := of_decide_eq_true h
                  refine ⟨by decide, ?_⟩
                  refine ⟨by decide, ?_⟩
                  have h2 : (i : Int) < n0 := by rename_i h2; exact of_decide_eq_true h2
                  refine back1 (i + 1) _ (by omega) (by omega) (le_tok2 (by decide) ?_ ?_ ?_ ?_) <;> simp [intRow, ownSV, ownL, leSlots, lv_dat, lv_tok, lv_ptr, lv_rp, lv_undef, leBoxes, leTags, leLive, tokM, tokB, tokT, ren, liveInj, r_lk, r_lkN, r_lkB, r_lkN0, I, B, D, withV_some, hw3, rowN_succ, hl, mkO, slAV_none, slAV_some, hgs]
                · have h1 := of_decide_eq_false h
                  have : i = fillN n0 (p) (limN G g) := by omega
                  rw [← this]
                  refine cut_at () trivial ?_
                  refine le_tok2 (by decide) ?_ ?_ ?_ ?_ <;> simp [intRow, ownSV, ownL, leSlots, lv_dat, lv_tok, lv_ptr, lv_rp, lv_undef, leBoxes, leTags, leLive, tokM, tokB, tokT, ren, liveInj, r_lk, r_lkN, r_lkB, r_lkN0, I, B, D, withV_some, hl, mkO, slAV_none, slAV_some, hgs]
                · have h1 := of_decide_eq_false h
                  have : i = fillN n0 (p) (limN G g) := by omega
                  rw [← this]
                  refine cut_at () trivial ?_
                  refine le_tok2 (by decide) ?_ ?_ ?_ ?_ <;> simp [intRow, ownSV, ownL, leSlots, lv_dat, lv_tok, lv_ptr, lv_rp, lv_undef, leBoxes, leTags, leLive, tokM, tokB, tokT, ren, liveInj, r_lk, r_lkN, r_lkB, r_lkN0, I, B, D, withV_some, hl, mkO, slAV_none, slAV_some, hgs]
              · try simp only [I, B, D, RW, ↓ KW, fillA, setCells, stTags, flat, Nat.reduceBEq, Nat.reduceAdd, Nat.reduceLeDiff, Int.reduceNe, Int.reduceBEq, Int.reduceEq, reduceCtorEq, Nat.reduceMul, Int.reduceLT, Int.reduceLE, Int.reduceToNat, hl, ownL, mkO, hlim, hgs]
                repeat' (first | (refine gd_split (fun h => ?_) (fun h => ?_) <;> try simp only [I, B, D, RW, ↓ KW, fillA, setCells, stTags, flat, Nat.reduceBEq, Nat.reduceAdd, Nat.reduceLeDiff, Int.reduceNe, Int.reduceBEq, Int.reduceEq, reduceCtorEq, Nat.reduceMul, Int.reduceLT, Int.reduceLE, Int.reduceToNat, slAV_none, slAV_some, hlim, hl, hgs, hp1, h]) | (refine cd_split (fun h => ?_) (fun h => ?_) <;> try simp only [I, B, D, RW, ↓ KW, fillA, setCells, stTags, flat, Nat.reduceBEq, Nat.reduceAdd, Nat.reduceLeDiff, Int.reduceNe, Int.reduceBEq, Int.reduceEq, reduceCtorEq, Nat.reduceMul, Int.reduceLT, Int.reduceLE, Int.reduceToNat, slAV_none, slAV_some, hlim, hl, hgs, hp1, h]) | (refine pk_split (fun h => ?_) (fun h => ?_) <;> try simp only [I, B, D, RW, ↓ KW, fillA, setCells, stTags, flat, Nat.reduceBEq, Nat.reduceAdd, Nat.reduceLeDiff, Int.reduceNe, Int.reduceBEq, Int.reduceEq, reduceCtorEq, Nat.reduceMul, Int.reduceLT, Int.reduceLE, Int.reduceToNat, slAV_none, slAV_some, hlim, hl, hgs, hp1, h]))
                · have h1 := of_decide_eq_true h
                  refine ⟨by decide, by omega, by decide, ?_⟩
                  have h2 : (i : Int) < n0 := by rename_i h2; exact of_decide_eq_true h2
                  refine back1 (i + 1) _ (by omega) (by omega) (le_tok2 (by decide) ?_ ?_ ?_ ?_) <;> simp [intRow, ownSV, ownL, leSlots, lv_dat, lv_tok, lv_ptr, lv_rp, lv_undef, leBoxes, leTags, leLive, tokM, tokB, tokT, ren, liveInj, r_lk, r_lkN, r_lkB, r_lkN0, I, B, D, withV_some, hw3, rowN_succ, hl, mkO, slAV_none, slAV_some, hgs]
                · have h1 := of_decide_eq_false h
                  have : i = fillN n0 (p) (limN G g) := by omega
                  rw [← this]
                  refine cut_at () trivial ?_
                  refine le_tok2 (by decide) ?_ ?_ ?_ ?_ <;> simp [intRow, ownSV, ownL, leSlots, lv_dat, lv_tok, lv_ptr, lv_rp, lv_undef, leBoxes, leTags, leLive, tokM, tokB, tokT, ren, liveInj, r_lk, r_lkN, r_lkB, r_lkN0, I, B, D, withV_some, hl, mkO, slAV_none, slAV_some, hgs]
                · have h1 := of_decide_eq_false h
                  have : i = fillN n0 (p) (limN G g) := by omega
                  rw [← this]
                  refine cut_at () trivial ?_
                  refine le_tok2 (by decide) ?_ ?_ ?_ ?_ <;> simp [intRow, ownSV, ownL, leSlots, lv_dat, lv_tok, lv_ptr, lv_rp, lv_undef, leBoxes, leTags, leLive, tokM, tokB, tokT, ren, liveInj, r_lk, r_lkN, r_lkB, r_lkN0, I, B, D, withV_some, hl, mkO, slAV_none, slAV_some, hgs]
            · refine le_tok2 (by decide) ?_ ?_ ?_ ?_ <;> simp [intRow, ownSV, ownL, leSlots, lv_dat, lv_tok, lv_ptr, lv_rp, lv_undef, leBoxes, leTags, leLive, tokM, tokB, tokT, ren, liveInj, r_lk, r_lkN, r_lkB, r_lkN0, I, B, D, withV_some, rowN, mkO, slAV_none, slAV_some, hgs]
          · intro _ _
            generalize hm0 : fillN n0 p (limN G g) = m0 at *
            have hrow0 : (mkO (rowN p m0)).getD [] = rowN p m0 := mkO_getD _
            have hrl0 : (rowN p m0).length = m0 := by simp [rowN]
            have hm8 : m0 ≤ 8 := by rw [← hm0]; simp only [fillN, limN]; omega
            try simp only [I, B, D, RW, ↓ KW, fillA, setCells, stTags, flat, Nat.reduceBEq, Nat.reduceAdd, Nat.reduceLeDiff, Int.reduceNe, Int.reduceBEq, Int.reduceEq, reduceCtorEq, Nat.reduceMul, Int.reduceLT, Int.reduceLE, Int.reduceToNat, hgs]
            refine aw_unroll ?_
            try simp only [I, B, D, RW, ↓ KW, fillA, setCells, stTags, flat, Nat.reduceBEq, Nat.reduceAdd, Nat.reduceLeDiff, Int.reduceNe, Int.reduceBEq, Int.reduceEq, reduceCtorEq, Nat.reduceMul, Int.reduceLT, Int.reduceLE, Int.reduceToNat, hgs, wrap_01]
            refine call_is (hF _ _ _ (by decide)) ?_
            try simp only [I, B, D, RW, ↓ KW, fillA, setCells, stTags, flat, Nat.reduceBEq, Nat.reduceAdd, Nat.reduceLeDiff, Int.reduceNe, Int.reduceBEq, Int.reduceEq, reduceCtorEq, Nat.reduceMul, Int.reduceLT, Int.reduceLE, Int.reduceToNat, hw2, hgs]
            have hr2 := frm_range l (1 + 2 * (g : Int) + 1) (n := 3) (by decide) (by decide)
            have hcn0 : cnt l g 1 m0 = if (frm l (1 + 2 * (g : Int) + 1) 3).toNat = 0 ∧ m0 = 0 then 1 else (frm l (1 + 2 * (g : Int) + 1) 3).toNat := by simp [cnt]
            generalize frm l (1 + 2 * (g : Int) + 1) 3 = fr1 at *
            generalize hn1 : cnt l g 1 m0 = n1 at *
            repeat' (first | (refine gd_split (fun h => ?_) (fun h => ?_) <;> try simp only [I, B, D, RW, ↓ KW, fillA, setCells, stTags, flat, Nat.reduceBEq, Nat.reduceAdd, Nat.reduceLeDiff, Int.reduceNe, Int.reduceBEq, Int.reduceEq, reduceCtorEq, Nat.reduceMul, Int.reduceLT, Int.reduceLE, Int.reduceToNat, hrow0, hrl0, hgs, h]) | (refine cd_split (fun h => ?_) (fun h => ?_) <;> try simp only [I, B, D, RW, ↓ KW, fillA, setCells, stTags, flat, Nat.reduceBEq, Nat.reduceAdd, Nat.reduceLeDiff, Int.reduceNe, Int.reduceBEq, Int.reduceEq, reduceCtorEq, Nat.reduceMul, Int.reduceLT, Int.reduceLE, Int.reduceToNat, hrow0, hrl0, hgs, h]) | (refine pk_split (fun h => ?_) (fun h => ?_) <;> try simp only [I, B, D, RW, ↓ KW, fillA, setCells, stTags, flat, Nat.reduceBEq, Nat.reduceAdd, Nat.reduceLeDiff, Int.reduceNe, Int.reduceBEq, Int.reduceEq, reduceCtorEq, Nat.reduceMul, Int.reduceLT, Int.reduceLE, Int.reduceToNat, hrow0, hrl0, hgs, h]))
            · have hfr : fr1 = 0 := by simpa using h
              refine ⟨by decide, ?_⟩
              refine cd_split (fun hz => ?_) (fun hz => ?_) <;> try simp only [I, B, D, RW, ↓ KW, fillA, setCells, stTags, flat, Nat.reduceBEq, Nat.reduceAdd, Nat.reduceLeDiff, Int.reduceNe, Int.reduceBEq, Int.reduceEq, reduceCtorEq, Nat.reduceMul, Int.reduceLT, Int.reduceLE, Int.reduceToNat, hgs, hz]
              · have hz : m0 = 0 := by simpa using hz
                have hcn : (n1 : Int) = 1 := by rw [hcn0, if_pos ⟨by omega, hz⟩]; rfl
                refine aw_cut (.exit 4) (fun _ : Unit => (⟨[(9, .dat (I 1) none), (6, .dat (I (p + m0 + fillN n1 (p + m0) (limN G g) : Nat)) none), (5, .dat (I G) none), (7, .dat (I g) none), (8, .ptr 403 0), (1, .dat (slAV intRow l) none), (0, .ptr 0 0)], [(403, ⟨[slAV intRow (mkO (rowN p m0)), slAV intRow (mkO (rowN (p + m0) (fillN n1 (p + m0) (limN G g))))], []⟩), (0, ⟨({ t with groups := mkO gs } : Tb).cells, if gs = [] then [] else [(104, 0)]⟩)], ownL gs 0 eR, 1000⟩ : S)) (fun _ => True) (fun _ => rfl) ?_ ?_
                · refine aw_loop' (fun i : Nat => (⟨[(11, .dat (I i) none), (10, .dat (I n1) none), (6, .dat (I (p + m0 + i : Nat)) none), (5, .dat (I G) none), (7, .dat (I g) none), (9, .dat (I 1) none), (8, .ptr 403 0), (1, .dat (slAV intRow l) none), (0, .ptr 0 0)], [(403, ⟨[slAV intRow (mkO (rowN p m0)), slAV intRow (mkO (rowN (p + m0) i))], if rowN (p + m0) i = [] then [] else [(1, 1)]⟩), (0, ⟨({ t with groups := mkO gs } : Tb).cells, if gs = [] then [] else [(104, 0)]⟩)], ownL (rowN (p + m0) i) 1 e ++ ownL gs 0 eR, 1000⟩ : S)) (fun i => fillN n1 (p + m0) (limN G g) - i) (fun i => i ≤ fillN n1 (p + m0) (limN G g)) ?_ 0 (by omega) ?_
                  · intro i hi A1 back1
                    have hfl : fillN n1 (p + m0) (limN G g) ≤ 8 := by simp only [fillN, limN]; omega
                    have hw3 := wrap_succ (k := i) (by omega)
                    have hf : fillN n1 (p + m0) (limN G g) = min n1 (limN G g - (p + m0)) := rfl
                    have hp1 : IntKind.i64.wrap (((p + m0 + i : Nat) : Int) + 1) = ((p + m0 + (i + 1) : Nat) : Int) := by rw [wrap_id (by omega) (by omega)]; omega
                    have hrl : (rowN (p + m0) i).length = i := by simp [rowN]
                    by_cases hl : rowN (p + m0) i = []
                    · try simp only [I, B, D, RW, ↓ KW, fillA, setCells, stTags, flat, Nat.reduceBEq, Nat.reduceAdd, Nat.reduceLeDiff, Int.reduceNe, Int.reduceBEq, Int.reduceEq, reduceCtorEq, Nat.reduceMul, Int.reduceLT, Int.reduceLE, Int.reduceToNat, hl, ownL, mkO, hlim, hgs, hrow0]
                      repeat' (first | (refine gd_split (fun h => ?_) (fun h => ?_) <;> try simp only [I, B, D, RW, ↓ KW, fillA, setCells, stTags, flat, Nat.reduceBEq, Nat.reduceAdd, Nat.reduceLeDiff, Int.reduceNe, Int.reduceBEq, Int.reduceEq, reduceCtorEq, Nat.reduceMul, Int.reduceLT, Int.reduceLE, Int.reduceToNat, slAV_none, slAV_some, hlim, hl, hgs, hp1, hrow0, h]) | (refine cd_split (fun h => ?_) (fun h => ?_) <;> try simp only [I, B, D, RW, ↓ KW, fillA, setCells, stTags, flat, Nat.reduceBEq, Nat.reduceAdd, Nat.reduceLeDiff, Int.reduceNe, Int.reduceBEq, Int.reduceEq, reduceCtorEq, Nat.reduceMul, Int.reduceLT, Int.reduceLE, Int.reduceToNat, slAV_none, slAV_some, hlim, hl, hgs, hp1, hrow0, h]) | (refine pk_split (fun h => ?_) (fun h => ?_) <;> try simp only [I, B, D, RW, ↓ KW, fillA, setCells, stTags, flat, Nat.reduceBEq, Nat.reduceAdd, Nat.reduceLeDiff, Int.reduceNe, Int.reduceBEq, Int.reduceEq, reduceCtorEq, Nat.reduceMul, Int.reduceLT, Int.reduceLE, Int.reduceToNat, slAV_none, slAV_some, hlim, hl, hgs, hp1, hrow0, h]))
                      · have h1 := of_decide_eq_true h
                        refine ⟨by decide, ?_⟩
                        refine ⟨by decide, ?_⟩
                        have h2 : (i : Int) < n1 := by rename_i h2; exact of_decide_eq_true h2
                        refine back1 (i + 1) _ (by omega) (by omega) (le_tok2 (by decide) ?_ ?_ ?_ ?_) <;> simp [intRow, ownSV, ownL, leSlots, lv_dat, lv_tok, lv_ptr, lv_rp, lv_undef, leBoxes, leTags, leLive, tokM, tokB, tokT, ren, liveInj, r_lk, r_lkN, r_lkB, r_lkN0, I, B, D, withV_some, hw3, rowN_succ, hl, mkO, slAV_none, slAV_some, hgs, hrow0]
                      · have h1 := of_decide_eq_false h
                        have : i = fillN n1 (p + m0) (limN G g) := by omega
                        rw [← this]
                        refine cut_at () trivial ?_
                        refine le_tok2 (by decide) ?_ ?_ ?_ ?_ <;> simp [intRow, ownSV, ownL, leSlots, lv_dat, lv_tok, lv_ptr, lv_rp, lv_undef, leBoxes, leTags, leLive, tokM, tokB, tokT, ren, liveInj, r_lk, r_lkN, r_lkB, r_lkN0, I, B, D, withV_some, hl, mkO, slAV_none, slAV_some, hgs, hrow0]
                      · have h1 := of_decide_eq_false h
                        have : i = fillN n1 (p + m0) (limN G g) := by omega
                        rw [← this]
                        refine cut_at () trivial ?_
                        refine le_tok2 (by decide) ?_ ?_ ?_ ?_ <;> simp [intRow, ownSV, ownL, leSlots, lv_dat, lv_tok, lv_ptr, lv_rp, lv_undef, leBoxes, leTags, leLive, tokM, tokB, tokT, ren, liveInj, r_lk, r_lkN, r_lkB, r_lkN0, I, B, D, withV_some, hl, mkO, slAV_none, slAV_some, hgs, hrow0]
                    · try simp only [I, B, D, RW, ↓ KW, fillA, setCells, stTags, flat, Nat.reduceBEq, Nat.reduceAdd, Nat.reduceLeDiff, Int.reduceNe, Int.reduceBEq, Int.reduceEq, reduceCtorEq, Nat.reduceMul, Int.reduceLT, Int.reduceLE, Int.reduceToNat, hl, ownL, mkO, hlim, hgs, hrow0]
                      repeat' (first | (refine gd_split (fun h => ?_) (fun h => ?_) <;> try simp only [I, B, D, RW, ↓ KW, fillA, setCells, stTags, flat, Nat.reduceBEq, Nat.reduceAdd, Nat.reduceLeDiff, Int.reduceNe, Int.reduceBEq, Int.reduceEq, reduceCtorEq, Nat.reduceMul, Int.reduceLT, Int.reduceLE, Int.reduceToNat, slAV_none, slAV_some, hlim, hl, hgs, hp1, hrow0, h]) | (refine cd_split (fun h => ?_) (fun h => ?_) <;> try simp only [I, B, D, RW, ↓ KW, fillA, setCells, stTags, flat, Nat.reduceBEq, Nat.reduceAdd, Nat.reduceLeDiff, Int.reduceNe, Int.reduceBEq, Int.reduceEq, reduceCtorEq, Nat.reduceMul, Int.reduceLT, Int.reduceLE, Int.reduceToNat, slAV_none, slAV_some, hlim, hl, hgs, hp1, hrow0, h]) | (refine pk_split (fun h => ?_) (fun h => ?_) <;> try simp only [I, B, D, RW, ↓ KW, fillA, setCells, stTags, flat, Nat.reduceBEq, Nat.reduceAdd, Nat.reduceLeDiff, Int.reduceNe, Int.reduceBEq, Int.reduceEq, reduceCtorEq, Nat.reduceMul, Int.reduceLT, Int.reduceLE, Int.reduceToNat, slAV_none, slAV_some, hlim, hl, hgs, hp1, hrow0, h]))
                      · have h1 := of_decide_eq_true h
                        refine ⟨by decide, by omega, by decide, ?_⟩
                        have h2 : (i : Int) < n1 := by rename_i h2; exact of_decide_eq_true h2
                        refine back1 (i + 1) _ (by omega) (by omega) (le_tok2 (by decide) ?_ ?_ ?_ ?_) <;> simp [intRow, ownSV, ownL, leSlots, lv_dat, lv_tok, lv_ptr, lv_rp, lv_undef, leBoxes, leTags, leLive, tokM, tokB, tokT, ren, liveInj, r_lk, r_lkN, r_lkB, r_lkN0, I, B, D, withV_some, hw3, rowN_succ, hl, mkO, slAV_none, slAV_some, hgs, hrow0]
                      · have h1 := of_decide_eq_false h
                        have : i = fillN n1 (p + m0) (limN G g) := by omega
                        rw [← this]
                        refine cut_at () trivial ?_
                        refine le_tok2 (by decide) ?_ ?_ ?_ ?_ <;> simp [intRow, ownSV, ownL, leSlots, lv_dat, lv_tok, lv_ptr, lv_rp, lv_undef, leBoxes, leTags, leLive, tokM, tokB, tokT, ren, liveInj, r_lk, r_lkN, r_lkB, r_lkN0, I, B, D, withV_some, hl, mkO, slAV_none, slAV_some, hgs, hrow0]
                      · have h1 := of_decide_eq_false h
                        have : i = fillN n1 (p + m0) (limN G g) := by omega
                        rw [← this]
                        refine cut_at () trivial ?_
                        refine le_tok2 (by decide) ?_ ?_ ?_ ?_ <;> simp [intRow, ownSV, ownL, leSlots, lv_dat, lv_tok, lv_ptr, lv_rp, lv_undef, leBoxes, leTags, leLive, tokM, tokB, tokT, ren, liveInj, r_lk, r_lkN, r_lkB, r_lkN0, I, B, D, withV_some, hl, mkO, slAV_none, slAV_some, hgs, hrow0]
                  · refine le_tok2 (by decide) ?_ ?_ ?_ ?_ <;> simp [intRow, ownSV, ownL, leSlots, lv_dat, lv_tok, lv_ptr, lv_rp, lv_undef, leBoxes, leTags, leLive, tokM, tokB, tokT, ren, liveInj, r_lk, r_lkN, r_lkB, r_lkN0, I, B, D, withV_some, rowN, mkO, slAV_none, slAV_some, hgs, hrow0, hcn]
                · intro _ _
                  try simp only [I, B, D, RW, ↓ KW, fillA, setCells, stTags, flat, Nat.reduceBEq, Nat.reduceAdd, Nat.reduceLeDiff, Int.reduceNe, Int.reduceBEq, Int.reduceEq, reduceCtorEq, Nat.reduceMul, Int.reduceLT, Int.reduceLE, Int.reduceToNat, hgs, mkO, hrow0]
                  refine aw_unroll ?_
                  try simp only [I, B, D, RW, ↓ KW, fillA, setCells, stTags, flat, Nat.reduceBEq, Nat.reduceAdd, Nat.reduceLeDiff, Int.reduceNe, Int.reduceBEq, Int.reduceEq, reduceCtorEq, Nat.reduceMul, Int.reduceLT, Int.reduceLE, Int.reduceToNat, hgs, wrap_11]
                  refine cut_at () trivial ?_
                  refine le_tok2 (by decide) ?_ ?_ ?_ ?_ <;> simp [intRow, ownSV, ownL, leSlots, lv_dat, lv_tok, lv_ptr, lv_rp, lv_undef, leBoxes, leTags, leLive, tokM, tokB, tokT, ren, liveInj, r_lk, r_lkN, r_lkB, r_lkN0, I, B, D, withV_some, hgs, mkO, slAV_none, slAV_some]
              · have hz : ¬ m0 = 0 := by simpa using hz
                have hcn : fr1 = (n1 : Int) := by rw [hcn0, if_neg (fun hh => hz hh.2)]; omega
                refine aw_cut (.exit 4) (fun _ : Unit => (⟨[(9, .dat (I 1) none), (6, .dat (I (p + m0 + fillN n1 (p + m0) (limN G g) : Nat)) none), (5, .dat (I G) none), (7, .dat (I g) none), (8, .ptr 403 0), (1, .dat (slAV intRow l) none), (0, .ptr 0 0)], [(403, ⟨[slAV intRow (mkO (rowN p m0)), slAV intRow (mkO (rowN (p + m0) (fillN n1 (p + m0) (limN G g))))], []⟩), (0, ⟨({ t with groups := mkO gs } : Tb).cells, if gs = [] then [] else [(104, 0)]⟩)], ownL gs 0 eR, 1000⟩ : S)) (fun _ => True) (fun _ => rfl) ?_ ?_
                · refine aw_loop' (fun i : Nat => (⟨[(11, .dat (I i) none), (10, .dat (I n1) none), (6, .dat (I (p + m0 + i : Nat)) none), (5, .dat (I G) none), (7, .dat (I g) none), (9, .dat (I 1) none), (8, .ptr 403 0), (1, .dat (slAV intRow l) none), (0, .ptr 0 0)], [(403, ⟨[slAV intRow (mkO (rowN p m0)), slAV intRow (mkO (rowN (p + m0) i))], if rowN (p + m0) i = [] then [] else [(1, 1)]⟩), (0, ⟨({ t with groups := mkO gs } : Tb).cells, if gs = [] then [] else [(104, 0)]⟩)], ownL (rowN (p + m0) i) 1 e ++ ownL gs 0 eR, 1000⟩ : S)) (fun i => fillN n1 (p + m0) (limN G g) - i) (fun i => i ≤ fillN n1 (p + m0) (limN G g)) ?_ 0 (by omega) ?_
                  · intro i hi A1 back1
                    have hfl : fillN n1 (p + m0) (limN G g) ≤ 8 := by simp only [fillN, limN]; omega
                    have hw3 := wrap_succ (k := i) (by omega)
                    have hf : fillN n1 (p + m0) (limN G g) = min n1 (limN G g - (p + m0)) := rfl
                    have hp1 : IntKind.i64.wrap (((p + m0 + i : Nat) : Int) + 1) = ((p + m0 + (i + 1) : Nat) : Int) := by rw [wrap_id (by omega) (by omega)]; omega
                    have hrl : (rowN (p + m0) i).length = i := by simp [rowN]
                    by_cases hl : rowN (p + m0) i = []
                    · try simp only [I, B, D, RW, ↓ KW, fillA, setCells, stTags, flat, Nat.reduceBEq, Nat.reduceAdd, Nat.reduceLeDiff, Int.reduceNe, Int.reduceBEq, Int.reduceEq, reduceCtorEq, Nat.reduceMul, Int.reduceLT, Int.reduceLE, Int.reduceToNat, hl, ownL, mkO, hlim, hgs, hrow0]
                      repeat' (first | (refine gd_split (fun h => ?_) (fun h => ?_) <;> try simp only [I, B, D, RW, ↓ KW, fillA, setCells, stTags, flat, Nat.reduceBEq, Nat.reduceAdd, Nat.reduceLeDiff, Int.reduceNe, Int.reduceBEq, Int.reduceEq, reduceCtorEq, Nat.reduceMul, Int.reduceLT, Int.reduceLE, Int.reduceToNat, slAV_none, slAV_some, hlim, hl, hgs, hp1, hrow0, h]) | (refine cd_split (fun h => ?_) (fun h => ?_) <;> try simp only [I, B, D, RW, ↓ KW, fillA, setCells, stTags, flat, Nat.reduceBEq, Nat.reduceAdd, Nat.reduceLeDiff, Int.reduceNe, Int.reduceBEq, Int.reduceEq, reduceCtorEq, Nat.reduceMul, Int.reduceLT, Int.reduceLE, Int.reduceToNat, slAV_none, slAV_some, hlim, hl, hgs, hp1, hrow0, h]) | (refine pk_split (fun h => ?_) (fun h => ?_) <;> try simp only [I, B, D, RW, ↓ KW, fillA, setCells, stTags, flat, Nat.reduceBEq, Nat.reduceAdd, Nat.reduceLeDiff, Int.reduceNe, Int.reduceBEq, Int.reduceEq, reduceCtorEq, Nat.reduceMul, Int.reduceLT, Int.reduceLE, Int.reduceToNat, slAV_none, slAV_some, hlim, hl, hgs, hp1, hrow0, h]))
                      · have h1 := of_decide_eq_true h
                        refine ⟨by decide, ?_⟩
                        refine ⟨by decide, ?_⟩
                        have h2 : (i : Int) < n1 := by rename_i h2; exact of_decide_eq_true h2
                        refine back1 (i + 1) _ (by omega) (by omega) (le_tok2 (by decide) ?_ ?_ ?_ ?_) <;> simp [intRow, ownSV, ownL, leSlots, lv_dat, lv_tok, lv_ptr, lv_rp, lv_undef, leBoxes, leTags, leLive, tokM, tokB, tokT, ren, liveInj, r_lk, r_lkN, r_lkB, r_lkN0, I, B, D, withV_some, hw3, rowN_succ, hl, mkO, slAV_none, slAV_some, hgs, hrow0]
                      · have h1 := of_decide_eq_false h
                        have : i = fillN n1 (p + m0) (limN G g) := by omega
                        rw [← this]
                        refine cut_at () trivial ?_
                        refine le_tok2 (by decide) ?_ ?_ ?_ ?_ <;> simp [intRow, ownSV, ownL, leSlots, lv_dat, lv_tok, lv_ptr, lv_rp, lv_undef, leBoxes, leTags, leLive, tokM, tokB, tokT, ren, liveInj, r_lk, r_lkN, r_lkB, r_lkN0, I, B, D, withV_some, hl, mkO, slAV_none, slAV_some, hgs, hrow0]
                      · have h1 := of_decide_eq_false h
                        have : i = fillN n1 (p + m0) (limN G g) := by omega
                        rw [← this]
                        refine cut_at () trivial ?_
                        refine le_tok2 (by decide) ?_ ?_ ?_ ?_ <;> simp [intRow, ownSV, ownL, leSlots, lv_dat, lv_tok, lv_ptr, lv_rp, lv_undef, leBoxes, leTags, leLive, tokM, tokB, tokT, ren, liveInj, r_lk, r_lkN, r_lkB, r_lkN0, I, B, D, withV_some, hl, mkO, slAV_none, slAV_some, hgs, hrow0]
                    · try simp only [I, B, D, RW, ↓ KW, fillA, setCells, stTags, flat, Nat.reduceBEq, Nat.reduceAdd, Nat.reduceLeDiff, Int.reduceNe, Int.reduceBEq, Int.reduceEq, reduceCtorEq, Nat.reduceMul, Int.reduceLT, Int.reduceLE, Int.reduceToNat, hl, ownL, mkO, hlim, hgs, hrow0]
                      repeat' (first | (refine gd_split (fun h => ?_) (fun h => ?_) <;> try simp only [I, B, D, RW, ↓ KW, fillA, setCells, stTags, flat, Nat.reduceBEq, Nat.reduceAdd, Nat.reduceLeDiff, Int.reduceNe, Int.reduceBEq, Int.reduceEq, reduceCtorEq, Nat.reduceMul, Int.reduceLT, Int.reduceLE, Int.reduceToNat, slAV_none, slAV_some, hlim, hl, hgs, hp1, hrow0, h]) | (refine cd_split (fun h => ?_) (fun h => ?_) <;> try simp only [I, B, D, RW, ↓ KW, fillA, setCells, stTags, flat, Nat.reduceBEq, Nat.reduceAdd, Nat.reduceLeDiff, Int.reduceNe, Int.reduceBEq, Int.reduceEq, reduceCtorEq, Nat.reduceMul, Int.reduceLT, Int.reduceLE, Int.reduceToNat, slAV_none, slAV_some, hlim, hl, hgs, hp1, hrow0, h]) | (refine pk_split (fun h => ?_) (fun h => ?_) <;> try simp only [I, B, D, RW, ↓ KW, fillA, setCells, stTags, flat, Nat.reduceBEq, Nat.reduceAdd, Nat.reduceLeDiff, Int.reduceNe, Int.reduceBEq, Int.reduceEq, reduceCtorEq, Nat.reduceMul, Int.reduceLT, Int.reduceLE, Int.reduceToNat, slAV_none, slAV_some, hlim, hl, hgs, hp1, hrow0, h]))
                      · have h1 := of_decide_eq_true h
                        refine ⟨by decide, by omega, by decide, ?_⟩
                        have h2 : (i : Int) < n1 := by rename_i h2; exact of_decide_eq_true h2
                        refine back1 (i + 1) _ (by omega) (by omega) (le_tok2 (by decide) ?_ ?_ ?_ ?_) <;> simp [intRow, ownSV, ownL, leSlots, lv_dat, lv_tok, lv_ptr, lv_rp, lv_undef, leBoxes, leTags, leLive, tokM, tokB, tokT, ren, liveInj, r_lk, r_lkN, r_lkB, r_lkN0, I, B, D, withV_some, hw3, rowN_succ, hl, mkO, slAV_none, slAV_some, hgs, hrow0]
                      · have h1 := of_decide_eq_false h
                        have : i = fillN n1 (p + m0) (limN G g) := by omega
                        rw [← this]
                        refine cut_at () trivial ?_
                        refine le_tok2 (by decide) ?_ ?_ ?_ ?_ <;> simp [intRow, ownSV, ownL, leSlots, lv_dat, lv_tok, lv_ptr, lv_rp, lv_undef, leBoxes, leTags, leLive, tokM, tokB, tokT, ren, liveInj, r_lk, r_lkN, r_lkB, r_lkN0, I, B, D, withV_some, hl, mkO, slAV_none, slAV_some, hgs, hrow0]
                      · have h1 := of_decide_eq_false h
                        have : i = fillN n1 (p + m0) (limN G g) := by omega
                        rw [← this]
                        refine cut_at () trivial ?_
                        refine le_tok2 (by decide) ?_ ?_ ?_ ?_ <;> simp [intRow, ownSV, ownL, leSlots, lv_dat, lv_tok, lv_ptr, lv_rp, lv_undef, leBoxes, leTags, leLive, tokM, tokB, tokT, ren, liveInj, r_lk, r_lkN, r_lkB, r_lkN0, I, B, D, withV_some, hl, mkO, slAV_none, slAV_some, hgs, hrow0]
                  · refine le_tok2 (by decide) ?_ ?_ ?_ ?_ <;> simp [intRow, ownSV, ownL, leSlots, lv_dat, lv_tok, lv_ptr, lv_rp, lv_undef, leBoxes, leTags, leLive, tokM, tokB, tokT, ren, liveInj, r_lk, r_lkN, r_lkB, r_lkN0, I, B, D, withV_some, rowN, mkO, slAV_none, slAV_some, hgs, hrow0, hcn]
                · intro _ _
                  try simp only [I, B, D, RW, ↓ KW, fillA, setCells, stTags, flat, Nat.reduceBEq, Nat.reduceAdd, Nat.reduceLeDiff, Int.reduceNe, Int.reduceBEq, Int.reduceEq, reduceCtorEq, Nat.reduceMul, Int.reduceLT, Int.reduceLE, Int.reduceToNat, hgs, mkO, hrow0]
                  refine aw_unroll ?_
                  try simp only [I, B, D, RW, ↓ KW, fillA, setCells, stTags, flat, Nat.reduceBEq, Nat.reduceAdd, Nat.reduceLeDiff, Int.reduceNe, Int.reduceBEq, Int.reduceEq, reduceCtorEq, Nat.reduceMul, Int.reduceLT, Int.reduceLE, Int.reduceToNat, hgs, wrap_11]
                  refine cut_at () trivial ?_
                  refine le_tok2 (by decide) ?_ ?_ ?_ ?_ <;> simp [intRow, ownSV, ownL, leSlots, lv_dat, lv_tok, lv_ptr, lv_rp, lv_undef, leBoxes, leTags, leLive, tokM, tokB, tokT, ren, liveInj, r_lk, r_lkN, r_lkB, r_lkN0, I, B, D, withV_some, hgs, mkO, slAV_none, slAV_some]
            · have hfr : ¬ fr1 = 0 := by simpa using h
              have hcn : fr1 = (n1 : Int) := by rw [hcn0, if_neg (fun hh => hfr (by omega))]; omega
              refine aw_cut (.exit 4) (fun _ : Unit => (⟨[(9, .dat (I 1) none), (6, .dat (I (p + m0 + fillN n1 (p + m0) (limN G g) : Nat)) none), (5, .dat (I G) none), (7, .dat (I g) none), (8, .ptr 403 0), (1, .dat (slAV intRow l) none), (0, .ptr 0 0)], [(403, ⟨[slAV intRow (mkO (rowN p m0)), slAV intRow (mkO (rowN (p + m0) (fillN n1 (p + m0) (limN G g))))], []⟩), (0, ⟨({ t with groups := mkO gs } : Tb).cells, if gs = [] then [] else [(104, 0)]⟩)], ownL gs 0 eR, 1000⟩ : S)) (fun _ => True) (fun _ => rfl) ?_ ?_
              · refine aw_loop' (fun i : Nat => (⟨[(11, .dat (I i) none), (10, .dat (I n1) none), (6, .dat (I (p + m0 + i : Nat)) none), (5, .dat (I G) none), (7, .dat (I g) none), (9, .dat (I 1) none), (8, .ptr 403 0), (1, .dat (slAV intRow l) none), (0, .ptr 0 0)], [(403, ⟨[slAV intRow (mkO (rowN p m0)), slAV intRow (mkO (rowN (p + m0) i))], if rowN (p + m0) i = [] then [] else [(1, 1)]⟩), (0, ⟨({ t with groups := mkO gs } : Tb).cells, if gs = [] then [] else [(104, 0)]⟩)], ownL (rowN (p + m0) i) 1 e ++ ownL gs 0 eR, 1000⟩ : S)) (fun i => fillN n1 (p + m0) (limN G g) - i) (fun i => i ≤ fillN n1 (p + m0) (limN G g)) ?_ 0 (by omega) ?_
                · intro i hi A1 back1
                  have hfl : fillN n1 (p + m0) (limN G g) ≤ 8 := by simp only [fillN, limN]; omega
                  have hw3 := wrap_succ (k := i) (by omega)
                  have hf : fillN n1 (p + m0) (limN G g) = min n1 (limN G g - (p + m0)) := rfl
                  have hp1 : IntKind.i64.wrap (((p + m0 + i : Nat) : Int) + 1) = ((p + m0 + (i + 1) : Nat) : Int) := by rw [wrap_id (by omega) (by omega)]; omega
                  have hrl : (rowN (p + m0) i).length = i := by simp [rowN]
                  by_cases hl : rowN (p + m0) i = []
                  · try simp only [I, B, D, RW, ↓ KW, fillA, setCells, stTags, flat, Nat.reduceBEq, Nat.reduceAdd, Nat.reduceLeDiff, Int.reduceNe, Int.reduceBEq, Int.reduceEq, reduceCtorEq, Nat.reduceMul, Int.reduceLT, Int.reduceLE, Int.reduceToNat, hl, ownL, mkO, hlim, hgs, hrow0]
                    repeat' (first | (refine gd_split (fun h => ?_) (fun h => ?_) <;> try simp only [I, B, D, RW, ↓ KW, fillA, setCells, stTags, flat, Nat.reduceBEq, Nat.reduceAdd, Nat.reduceLeDiff, Int.reduceNe, Int.reduceBEq, Int.reduceEq, reduceCtorEq, Nat.reduceMul, Int.reduceLT, Int.reduceLE, Int.reduceToNat, slAV_none, slAV_some, hlim, hl, hgs, hp1, hrow0, h]) | (refine cd_split (fun h => ?_) (fun h => ?_) <;> try simp only [I, B, D, RW, ↓ KW, fillA, setCells, stTags, flat, Nat.reduceBEq, Nat.reduceAdd, Nat.reduceLeDiff, Int.reduceNe, Int.reduceBEq, Int.reduceEq, reduceCtorEq, Nat.reduceMul, Int.reduceLT, Int.reduceLE, Int.reduceToNat, slAV_none, slAV_some, hlim, hl, hgs, hp1, hrow0, h]) | (refine pk_split (fun h => ?_) (fun h => ?_) <;> try simp only [I, B, D, RW, ↓ KW, fillA, setCells, stTags, flat, Nat.reduceBEq, Nat.reduceAdd, Nat.reduceLeDiff, Int.reduceNe, Int.reduceBEq, Int.reduceEq, reduceCtorEq, Nat.reduceMul, Int.reduceLT, Int.reduceLE, Int.reduceToNat, slAV_none, slAV_some, hlim, hl, hgs, hp1, hrow0, h]))
                    · have h1 := of_decide_eq_true h
                      refine ⟨by decide, ?_⟩
                      refine ⟨by decide, ?_⟩
                      have h2 : (i : Int) < n1 := by rename_i h2; exact of_decide_eq_true h2
                      refine back1 (i + 1) _ (by omega) (by omega) (le_tok2 (by decide) ?_ ?_ ?_ ?_) <;> simp [intRow, ownSV, ownL, leSlots, lv_dat, lv_tok, lv_ptr, lv_rp, lv_undef, leBoxes, leTags, leLive, tokM, tokB, tokT, ren, liveInj, r_lk, r_lkN, r_lkB, r_lkN0, I, B, D, withV_some, hw3, rowN_succ, hl, mkO, slAV_none, slAV_some, hgs, hrow0]
                    · have h1 := of_decide_eq_false h
                      have : i = fillN n1 (p + m0) (limN G g) := by omega
                      rw [← this]
                      refine cut_at () trivial ?_
                      refine le_tok2 (by decide) ?_ ?_ ?_ ?_ <;> simp [intRow, ownSV, ownL, leSlots, lv_dat, lv_tok, lv_ptr, lv_rp, lv_undef, leBoxes, leTags, leLive, tokM, tokB, tokT, ren, liveInj, r_lk, r_lkN, r_lkB, r_lkN0, I, B, D, withV_some, hl, mkO, slAV_none, slAV_some, hgs, hrow0]
                    · have h1 := of_decide_eq_false h
                      have : i = fillN n1 (p + m0) (limN G g) := by omega
                      rw [← this]
                      refine cut_at () trivial ?_
                      refine le_tok2 (by decide) ?_ ?_ ?_ ?_ <;> simp [intRow, ownSV, ownL, leSlots, lv_dat, lv_tok, lv_ptr, lv_rp, lv_undef, leBoxes, leTags, leLive, tokM, tokB, tokT, ren, liveInj, r_lk, r_lkN, r_lkB, r_lkN0, I, B, D, withV_some, hl, mkO, slAV_none, slAV_some, hgs, hrow0]
                  · try simp only [I, B, D, RW, ↓ KW, fillA, setCells, stTags, flat, Nat.reduceBEq, Nat.reduceAdd, Nat.reduceLeDiff, Int.reduceNe, Int.reduceBEq, Int.reduceEq, reduceCtorEq, Nat.reduceMul, Int.reduceLT, Int.reduceLE, Int.reduceToNat, hl, ownL, mkO, hlim, hgs, hrow0]
                    repeat' (first | (refine gd_split (fun h => ?_) (fun h => ?_) <;> try simp only [I, B, D, RW, ↓ KW, fillA, setCells, stTags, flat, Nat.reduceBEq, Nat.reduceAdd, Nat.reduceLeDiff, Int.reduceNe, Int.reduceBEq, Int.reduceEq, reduceCtorEq, Nat.reduceMul, Int.reduceLT, Int.reduceLE, Int.reduceToNat, slAV_none, slAV_some, hlim, hl, hgs, hp1, hrow0, h]) | (refine cd_split (fun h => ?_) (fun h => ?_) <;> try simp only [I, B, D, RW, ↓ KW, fillA, setCells, stTags, flat, Nat.reduceBEq, Nat.reduceAdd, Nat.reduceLeDiff, Int.reduceNe, Int.reduceBEq, Int.reduceEq, reduceCtorEq, Nat.reduceMul, Int.reduceLT, Int.reduceLE, Int.reduceToNat, slAV_none, slAV_some, hlim, hl, hgs, hp1, hrow0, h]) | (refine pk_split (fun h => ?_) (fun h => ?_) <;> try simp only [I, B, D, RW, ↓ KW, fillA, setCells, stTags, flat, Nat.reduceBEq, Nat.reduceAdd, Nat.reduceLeDiff, Int.reduceNe, Int.reduceBEq, Int.reduceEq, reduceCtorEq, Nat.reduceMul, Int.reduceLT, Int.reduceLE, Int.reduceToNat, slAV_none, slAV_some, hlim, hl, hgs, hp1, hrow0, h]))
                    · have h1 := of_decide_eq_true h
                      refine ⟨by decide, by omega, by decide, ?_⟩
                      have h2 : (i : Int) < n1 := by rename_i h2; exact of_decide_eq_true h2
                      refine back1 (i + 1) _ (by omega) (by omega) (le_tok2 (by decide) ?_ ?_ ?_ ?_) <;> simp [intRow, ownSV, ownL, leSlots, lv_dat, lv_tok, lv_ptr, lv_rp, lv_undef, leBoxes, leTags, leLive, tokM, tokB, tokT, ren, liveInj, r_lk, r_lkN, r_lkB, r_lkN0, I, B, D, withV_some, hw3, rowN_succ, hl, mkO, slAV_none, slAV_some, hgs, hrow0]
                    · have h1 := of_decide_eq_false h
                      have : i = fillN n1 (p + m0) (limN G g) := by omega
                      rw [← this]
                      refine cut_at () trivial ?_
                      refine le_tok2 (by decide) ?_ ?_ ?_ ?_ <;> simp [intRow, ownSV, ownL, leSlots, lv_dat, lv_tok, lv_ptr, lv_rp, lv_undef, leBoxes, leTags, leLive, tokM, tokB, tokT, ren, liveInj, r_lk, r_lkN, r_lkB, r_lkN0, I, B, D, withV_some, hl, mkO, slAV_none, slAV_some, hgs, hrow0]
                    · have h1 := of_decide_eq_false h
                      have : i = fillN n1 (p + m0) (limN G g) := by omega
                      rw [← this]
                      refine cut_at () trivial ?_
                      refine le_tok2 (by decide) ?_ ?_ ?_ ?_ <;> simp [intRow, ownSV, ownL, leSlots, lv_dat, lv_tok, lv_ptr, lv_rp, lv_undef, leBoxes, leTags, leLive, tokM, tokB, tokT, ren, liveInj, r_lk, r_lkN, r_lkB, r_lkN0, I, B, D, withV_some, hl, mkO, slAV_none, slAV_some, hgs, hrow0]
                · refine le_tok2 (by decide) ?_ ?_ ?_ ?_ <;> simp [intRow, ownSV, ownL, leSlots, lv_dat, lv_tok, lv_ptr, lv_rp, lv_undef, leBoxes, leTags, leLive, tokM, tokB, tokT, ren, liveInj, r_lk, r_lkN, r_lkB, r_lkN0, I, B, D, withV_some, rowN, mkO, slAV_none, slAV_some, hgs, hrow0, hcn]
              · intro _ _
                try simp only [I, B, D, RW, ↓ KW, fillA, setCells, stTags, flat, Nat.reduceBEq, Nat.reduceAdd, Nat.reduceLeDiff, Int.reduceNe, Int.reduceBEq, Int.reduceEq, reduceCtorEq, Nat.reduceMul, Int.reduceLT, Int.reduceLE, Int.reduceToNat, hgs, mkO, hrow0]
                refine aw_unroll ?_
                try simp only [I, B, D, RW, ↓ KW, fillA, setCells, stTags, flat, Nat.reduceBEq, Nat.reduceAdd, Nat.reduceLeDiff, Int.reduceNe, Int.reduceBEq, Int.reduceEq, reduceCtorEq, Nat.reduceMul, Int.reduceLT, Int.reduceLE, Int.reduceToNat, hgs, wrap_11]
                refine cut_at () trivial ?_
                refine le_tok2 (by decide) ?_ ?_ ?_ ?_ <;> simp [intRow, ownSV, ownL, leSlots, lv_dat, lv_tok, lv_ptr, lv_rp, lv_undef, leBoxes, leTags, leLive, tokM, tokB, tokT, ren, liveInj, r_lk, r_lkN, r_lkB, r_lkN0, I, B, D, withV_some, hgs, mkO, slAV_none, slAV_some]
        · intro _ _
          have hgc := Tb.groups_at' (t := { t with groups := mkO gs }) ht.phases
          have hln := Tb.len' (t := { t with groups := mkO gs }) ht.phases ht.conflict ht.flash
          have hset := Tb.set_groups (t := { t with groups := mkO gs }) ht.phases (some (gs ++ [⟨mkO (rowN p (fillN n0 p (limN G g))), mkO (rowN (p + fillN n0 p (limN G g)) (fillN (cnt l g 1 (fillN n0 p (limN G g))) (p + fillN n0 p (limN G g)) (limN G g)))⟩]))
          simp only [hgs, mkO, if_true, if_false] at hgc hln hset
          try simp only [I, B, D, RW, ↓ KW, fillA, setCells, stTags, flat, Nat.reduceBEq, Nat.reduceAdd, Nat.reduceLeDiff, Int.reduceNe, Int.reduceBEq, Int.reduceEq, reduceCtorEq, Nat.reduceMul, Int.reduceLT, Int.reduceLE, Int.reduceToNat, hgc, slAV_none, slAV_some, Gr.len, hgl, hgs, mkO]
          try refine ⟨by omega, ?_⟩
          try refine ⟨by simp [ownL, hgs, lkN], ?_⟩
          try refine ⟨by omega, ?_⟩
          simp [slAV_some, Gr.cells, hgs] at hset
          refine back (g + 1) _ (by omega) (by omega) (le_tok2 (by decide) ?_ ?_ ?_ ?_) <;> simp [intRow, ownSV, ownL, leSlots, lv_dat, lv_tok, lv_ptr, lv_rp, lv_undef, leBoxes, leTags, leLive, tokM, tokB, tokT, ren, liveInj, r_lk, r_lkN, r_lkB, r_lkN0, I, B, D, withV_some, hn2, hw, hgs, mkO, slAV_some, slAV_none, Gr.cells, hset]
          trace_state
      · have hgG : g = G := by have := of_decide_eq_false h; omega
        subst hgG
        first
          | (exfalso; rw [hgs] at hgl; simp at hgl; omega)
          | exact ⟨by rw [hR], by rw [hR]⟩
  · have : ({ t with groups := none } : Tb) = t := by cases t; simp_all
    refine le_tok2 (by decide) ?_ ?_ ?_ ?_ <;> simp [intRow, ownSV, ownL, leSlots, lv_dat, lv_tok, lv_ptr, lv_rp, lv_undef, leBoxes, leTags, leLive, tokM, tokB, tokT, ren, liveInj, r_lk, r_lkN, r_lkB, r_lkN0, I, B, D, withV_some, rowsTo, mkO, this]
end
end Go.Eng
namespace Go.Eng
set_option linter.unusedVariables false
set_option linter.unusedSimpArgs false
set_option linter.unnecessarySimpa false
open Go
set_option linter.unusedVariables false
set_option linter.unusedSimpArgs false
set_option maxRecDepth 10000
set_option maxHeartbeats 4000000
structure Tb.Ln (t : Tb) : Prop where
  phases : t.phases.length = 8
  conflict : t.conflict.length = 8
  flash : t.flash.length = 8
theorem Tb.Ok.ln {t : Tb} (h : t.Ok) : t.Ln := ⟨h.phases, h.conflict, h.flash⟩
section
variable {t : Tb} (h : t.Ln)
include h
theorem Tb.Ln.len : t.cells.length = 131 := by
  simp [Tb.cells, flatMap_len Ph.len, h.phases, h.conflict, h.flash]
theorem Tb.Ln.whole : partA t.cells 0 (some 131) = some (.agg t.cells) := by
  have hl := h.len
  rw [p_some _ _ _ (by omega), List.drop_zero, ← hl, List.take_length]
theorem Tb.Ln.at113 : t.cells[113]? = some (slAV Det.cells t.detectors) := by
  simp [Tb.cells, List.getElem?_append, flatMap_len Ph.len, h.phases, h.conflict, h.flash, List.getElem?_cons]
theorem Tb.Ln.at114 : t.cells[114]? = some (slAV Rl.cells t.rails) := by
  simp [Tb.cells, List.getElem?_append, flatMap_len Ph.len, h.phases, h.conflict, h.flash, List.getElem?_cons]
theorem Tb.Ln.at115 : t.cells[115]? = some (slAV Bs.cells t.buses) := by
  simp [Tb.cells, List.getElem?_append, flatMap_len Ph.len, h.phases, h.conflict, h.flash, List.getElem?_cons]
theorem Tb.Ln.at129 : t.cells[129]? = some (I t.window) := by
  simp [Tb.cells, List.getElem?_append, flatMap_len Ph.len, h.phases, h.conflict, h.flash, List.getElem?_cons]
theorem Tb.Ln.conflict_at {i : Nat} {c : Int} (hc : t.conflict[i]? = some c) : t.cells[105 + i]? = some (I c) := by
  have hi : i < 8 := by have := (List.getElem?_eq_some_iff.1 hc).1; rw [h.conflict] at this; exact this
  have e : (t.phases.flatMap Ph.cells).length = 104 := by rw [flatMap_len Ph.len, h.phases]
  unfold Tb.cells
  rw [List.getElem?_append_right (by omega), e, show 105 + i - 104 = i + 1 by omega, List.getElem?_cons_succ, List.getElem?_append_left (by simp [h.conflict, hi]), List.getElem?_map, hc]; rfl
def Tb.rest (t : Tb) : List AV := slAV Gr.cells t.groups :: (t.conflict.map I ++ (slAV Det.cells t.detectors :: slAV Rl.cells t.rails :: slAV Bs.cells t.buses ::
    I t.extend :: I t.budget :: I t.start :: I t.revert :: I t.least :: (t.flash.map I ++ [I t.window, I t.share])))
omit h in
theorem set_right {pre post ps : List AV} {off : Nat} (hle : pre.length ≤ off) : setCells (pre ++ post) off ps = pre ++ setCells post (off - pre.length) ps := by
  simp only [setCells, List.take_append, List.drop_append, List.append_assoc]
  rw [List.take_of_length_le hle, List.drop_of_length_le (by omega), show off + ps.length - pre.length = off - pre.length + ps.length by omega]
  rfl
omit h in
theorem set_left {pre post ps : List AV} {off : Nat} (hle : off + ps.length ≤ pre.length) : setCells (pre ++ post) off ps = setCells pre off ps ++ post := by
  simp only [setCells]
  rw [List.take_append_of_le_length (by omega), List.drop_append_of_le_length hle]
  simp
omit h in
theorem set_one {l : List Int} {i : Nat} {v : Int} (hi : i < l.length) : setCells (l.map I) i [I v] = (l.set i v).map I := by
  simp only [setCells, List.length_cons, List.length_nil]
  rw [List.set_eq_take_append_cons_drop, if_pos hi]
  simp [List.map_take, List.map_drop]
omit h in
theorem set_skip (c : AV) (cs ps : List AV) (k : Nat) : setCells (c :: cs) (k + 1) ps = c :: setCells cs k ps := by
  simp only [setCells, List.take_succ_cons, List.cons_append, show k + 1 + ps.length = (k + ps.length) + 1 by omega, List.drop_succ_cons]
theorem Tb.Ln.set_phase {i : Nat} (hi : i < 8) (q : Ph) : setCells t.cells (i * 13) q.cells = ({ t with phases := t.phases.set i q } : Tb).cells := by
  obtain ⟨p, hp⟩ : ∃ p, t.phases[i]? = some p := ⟨_, List.getElem?_eq_getElem (by rw [h.phases]; exact hi)⟩
  exact Tb.phase_set hp
theorem Tb.Ln.set_conflict {i : Nat} (hi : i < 8) (v : Int) : setCells t.cells (105 + i) [I v] = ({ t with conflict := t.conflict.set i v } : Tb).cells := by
  have e : (t.phases.flatMap Ph.cells).length = 104 := by rw [flatMap_len Ph.len, h.phases]
  unfold Tb.cells
  rw [set_right (by omega), e, show 105 + i - 104 = i + 1 by omega, set_skip, set_left (by simp [h.conflict]; omega), set_one (by rw [h.conflict]; exact hi)]
theorem Tb.Ln.set_flash {i : Nat} (hi : i < 8) (v : Int) : setCells t.cells (121 + i) [I v] = ({ t with flash := t.flash.set i v } : Tb).cells := by
  have e : (t.phases.flatMap Ph.cells).length = 104 := by rw [flatMap_len Ph.len, h.phases]
  unfold Tb.cells
  rw [set_right (by omega), e, show 121 + i - 104 = (i + 16) + 1 by omega, set_skip, set_right (by simp [h.conflict]), show i + 16 - (t.conflict.map I).length = i + 8 by simp [h.conflict]]
  simp only [set_skip]
  rw [set_left (by simp [h.flash]; omega), set_one (by rw [h.flash]; exact hi)]
theorem Tb.Ln.set_dets (d : Option (List Det)) : setCells t.cells 113 [slAV Det.cells d] = ({ t with detectors := d } : Tb).cells := by
  have e : (t.phases.flatMap Ph.cells).length = 104 := by rw [flatMap_len Ph.len, h.phases]
  have e2 : (t.conflict.map I).length = 8 := by simp [h.conflict]
  unfold Tb.cells
  rw [set_right (by omega), e, show 113 - 104 = 8 + 1 by omega, set_skip, set_right (by omega), e2]
  rfl
theorem Tb.Ln.set_rails (d : Option (List Rl)) : setCells t.cells 114 [slAV Rl.cells d] = ({ t with rails := d } : Tb).cells := by
  have e : (t.phases.flatMap Ph.cells).length = 104 := by rw [flatMap_len Ph.len, h.phases]
  have e2 : (t.conflict.map I).length = 8 := by simp [h.conflict]
  unfold Tb.cells
  rw [set_right (by omega), e, show 114 - 104 = 9 + 1 by omega, set_skip, set_right (by omega), e2]
  rfl
theorem Tb.Ln.set_buses (d : Option (List Bs)) : setCells t.cells 115 [slAV Bs.cells d] = ({ t with buses := d } : Tb).cells := by
  have e : (t.phases.flatMap Ph.cells).length = 104 := by rw [flatMap_len Ph.len, h.phases]
  have e2 : (t.conflict.map I).length = 8 := by simp [h.conflict]
  unfold Tb.cells
  rw [set_right (by omega), e, show 115 - 104 = 10 + 1 by omega, set_skip, set_right (by omega), e2]
  rfl
theorem Tb.Ln.set_nums (v : Int) : setCells t.cells 116 [I v] = ({ t with extend := v } : Tb).cells ∧ setCells t.cells 117 [I v] = ({ t with budget := v } : Tb).cells ∧ setCells t.cells 118 [I v] = ({ t with start := v } : Tb).cells ∧
    setCells t.cells 119 [I v] = ({ t with revert := v } : Tb).cells ∧ setCells t.cells 120 [I v] = ({ t with least := v } : Tb).cells := by
  have e : (t.phases.flatMap Ph.cells).length = 104 := by rw [flatMap_len Ph.len, h.phases]
  have e2 : (t.conflict.map I).length = 8 := by simp [h.conflict]
  unfold Tb.cells
  refine ⟨?_, ?_, ?_, ?_, ?_⟩
  · rw [set_right (by omega), e, show 116 - 104 = 11 + 1 by omega, set_skip, set_right (by omega), e2]; rfl
  · rw [set_right (by omega), e, show 117 - 104 = 12 + 1 by omega, set_skip, set_right (by omega), e2]; rfl
  · rw [set_right (by omega), e, show 118 - 104 = 13 + 1 by omega, set_skip, set_right (by omega), e2]; rfl
  · rw [set_right (by omega), e, show 119 - 104 = 14 + 1 by omega, set_skip, set_right (by omega), e2]; rfl
  · rw [set_right (by omega), e, show 120 - 104 = 15 + 1 by omega, set_skip, set_right (by omega), e2]; rfl
theorem Tb.Ln.set_last (v : Int) : setCells t.cells 129 [I v] = ({ t with window := v } : Tb).cells ∧ setCells t.cells 130 [I v] = ({ t with share := v } : Tb).cells := by
  have e : (t.phases.flatMap Ph.cells).length = 104 := by rw [flatMap_len Ph.len, h.phases]
  have e2 : (t.conflict.map I).length = 8 := by simp [h.conflict]
  have e3 : (t.flash.map I).length = 8 := by simp [h.flash]
  unfold Tb.cells
  refine ⟨?_, ?_⟩
  · rw [set_right (by omega), e, show 129 - 104 = 24 + 1 by omega, set_skip, set_right (by omega), e2]
    simp only [Nat.reduceSub, set_skip]
    rw [set_right (by omega), e3]; rfl
  · rw [set_right (by omega), e, show 130 - 104 = 25 + 1 by omega, set_skip, set_right (by omega), e2]
    simp only [Nat.reduceSub, set_skip]
    rw [set_right (by omega), e3]; rfl
end
end Go.Eng
namespace Go.Eng
set_option linter.unusedVariables false
set_option linter.unusedSimpArgs false
set_option linter.unnecessarySimpa false
open Go
set_option linter.unusedVariables false
set_option linter.unusedSimpArgs false
set_option maxRecDepth 10000
set_option maxHeartbeats 4000000
def Tb0 : Tb := ⟨List.replicate 8 default, none, List.replicate 8 0, none, none, none, 0, 0, 0, 0, 0, List.replicate 8 0, 0, 0⟩
theorem z131_is : z131_45020 = Tb0.cells := rfl
def phTo (l : Option (List Int)) : Nat → List Ph
  | 0 => List.replicate 8 default
  | k + 1 => (phTo l k).set k (phaseOf l (10 + 12 * k))
def flTo : Nat → List Int
  | 0 => List.replicate 8 0
  | k + 1 => (flTo k).set k 1
theorem phTo_len (l : Option (List Int)) : ∀ k, (phTo l k).length = 8
  | 0 => by simp [phTo]
  | k + 1 => by simp [phTo, phTo_len l k]
theorem flTo_len : ∀ k, (flTo k).length = 8
  | 0 => by simp [flTo]
  | k + 1 => by simp [flTo, flTo_len k]
def cAt (c : List Int) (i : Nat) : Int := c.getD i 0
def clashes (t : Tb) (l : Option (List Int)) (p q : Nat) : Bool := !besideR t p q && frm l (110 + 8 * p + q) 9 != 1
def confStep (t : Tb) (l : Option (List Int)) (p q : Nat) (c : List Int) : List Int :=
  if clashes t l p q then
    let c1 := c.set p (withR (cAt c p) q)
    c1.set q (withR (cAt c1 q) p)
  else c
def confRow (t : Tb) (l : Option (List Int)) (p : Nat) : Nat → List Int → List Int
  | 0, c => c
  | q + 1, c => confStep t l p q (confRow t l p q c)
def confTo (t : Tb) (l : Option (List Int)) : Nat → List Int
  | 0 => List.replicate 8 0
  | p + 1 => confRow t l p p (confTo t l p)
theorem confStep_len {t : Tb} {l : Option (List Int)} {p q : Nat} {c : List Int} : (confStep t l p q c).length = c.length := by
  unfold confStep; split <;> simp
theorem confRow_len {t : Tb} {l : Option (List Int)} {p : Nat} {c : List Int} : ∀ q, (confRow t l p q c).length = c.length
  | 0 => rfl
  | q + 1 => by rw [confRow, confStep_len, confRow_len q]
theorem confTo_len {t : Tb} {l : Option (List Int)} : ∀ p, (confTo t l p).length = 8
  | 0 => by simp [confTo]
  | p + 1 => by rw [confTo, confRow_len, confTo_len p]
def detTo (l : Option (List Int)) (n d : Int) (j : Nat) : List Det := (List.range j).map fun (k : Nat) => detectorOf l (180 + 8 * (d - k)) n
def railTo (t : Tb) (l : Option (List Int)) (n r : Int) (j : Nat) : List Rl := (List.range j).map fun (k : Nat) => railOf t l (260 + 16 * (r - k)) n
def busOf (l : Option (List Int)) (n i : Int) : Bs :=
  let x := bAnd .i64 (frm l (330 + 2 * i) 256) (w64 (w64 (1 * 2 ^ min (IntKind.u64.wrap n).toNat 64) - 1))
  ⟨if x > 1 then x else 1, w64 (1 + frm l (331 + 2 * i) 30)⟩
def busTo (l : Option (List Int)) (n b : Int) (j : Nat) : List Bs := (List.range j).map fun (k : Nat) => busOf l n (b - k)
def winTo (t : Tb) : Nat → Int
  | 0 => 0
  | k + 1 => if waitI t k > winTo t k then waitI t k else winTo t k
def rowsOf' (l : Option (List Int)) : List Gr × Nat := rowsTo l (groupsN l) (groupsN l)
def tabPre (l : Option (List Int)) : Tb :=
  let n := (rowsOf' l).2
  let t1 : Tb := { Tb0 with groups := some (rowsOf' l).1 }
  let q := frm l 174 (n + 1)
  { phases := phTo l n
    groups := some (rowsOf' l).1
    conflict := confTo t1 l n
    detectors := mkO (detTo l n (frm l 175 9) (frm l 175 9).toNat)
    rails := mkO (railTo t1 l n ((frm l 176 4).tmod 3) ((frm l 176 4).tmod 3).toNat)
    buses := mkO (busTo l n (frm l 177 3) (frm l 177 3).toNat)
    extend := frm l 178 12
    budget := frm l 179 40
    start := frm l 180 8
    revert := frm l 181 8
    least := frm l 182 12
    flash := if q < n then (flTo n).set q.toNat 2 else flTo n
    window := 0
    share := frm l 183 4 }
def tableOf (l : Option (List Int)) : Tb :=
  { tabPre l with window := if (railTo { Tb0 with groups := some (rowsOf' l).1 } l (rowsOf' l).2 ((frm l 176 4).tmod 3) ((frm l 176 4).tmod 3).toNat) = [] then 0 else winTo (tabPre l) (rowsOf' l).2 }
def Table.Spec (C : Con) (f : Nat) : Prop := ∀ l : Option (List Int), C.c f [slAV intRow l] (.agg (tableOf l).cells) none
def tabA (l : Option (List Int)) (k : Nat) : Tb := { Tb0 with groups := some (rowsOf' l).1, phases := phTo l k, flash := flTo k }
def tabB (l : Option (List Int)) (c : List Int) : Tb := { tabA l (rowsOf' l).2 with conflict := c }
def tabC (l : Option (List Int)) : Tb := { tabB l (confTo { Tb0 with groups := some (rowsOf' l).1 } l (rowsOf' l).2) with flash := (tabPre l).flash }
def tabD (l : Option (List Int)) (d : List Det) : Tb := { tabC l with detectors := mkO d }
def tabE (l : Option (List Int)) (r : List Rl) : Tb := { tabC l with detectors := (tabPre l).detectors, rails := mkO r }
def tabF (l : Option (List Int)) (b : List Bs) : Tb := { tabC l with detectors := (tabPre l).detectors, rails := (tabPre l).rails, buses := mkO b }
def tabW (l : Option (List Int)) (w : Int) : Tb := { tabPre l with window := w }
theorem rowN_len (p m : Nat) : (rowN p m).length = m := by simp [rowN]
theorem rowsTo_small (l : Option (List Int)) (G : Nat) : ∀ g, ∀ x ∈ (rowsTo l G g).1, (x.a.getD []).length ≤ 8 ∧ (x.b.getD []).length ≤ 8
  | 0, x, hx => by simp [rowsTo] at hx
  | g + 1, x, hx => by
    simp only [rowsTo, List.mem_append, List.mem_singleton] at hx
    rcases hx with hx | rfl
    · exact rowsTo_small l G g x hx
    · simp only [mkO_getD, rowN_len, fillN, limN]
      omega
theorem rowsOf_le (l : Option (List Int)) : (rowsOf' l).2 ≤ 8 := rowsTo_le _ _ _
theorem rowsTo_mono (l : Option (List Int)) (G : Nat) : ∀ g, 1 ≤ g → g ≤ G → G ≤ 3 → 1 ≤ (rowsTo l G g).2
  | 0, h, _, _ => by omega
  | 1, _, h1, h3 => by
    simp only [rowsTo, fillN, limN, cnt]
    split <;> split <;> simp_all <;> omega
  | g + 2, _, h1, h3 => by
    have := rowsTo_mono l G (g + 1) (by omega) (by omega) h3
    rw [rowsTo]
    simp only
    omega
theorem groupsN_le (l : Option (List Int)) : 1 ≤ groupsN l ∧ groupsN l ≤ 3 := by
  have := frm_range l 0 (n := 3) (by decide) (by decide)
  unfold groupsN; omega
theorem rowsOf_pos (l : Option (List Int)) : 1 ≤ (rowsOf' l).2 := rowsTo_mono l _ _ (groupsN_le l).1 (Nat.le_refl _) (groupsN_le l).2
theorem ok_of {l : Option (List Int)} {t : Tb} (hg : t.groups = some (rowsOf' l).1) (h1 : t.phases.length = 8) (h2 : t.conflict.length = 8) (h3 : t.flash.length = 8) (h4 : (t.detectors.getD []).length ≤ 1048576) (h5 : (t.rails.getD []).length ≤ 1048576) (h6 : (t.buses.getD []).length ≤ 1048576) : t.Ok := by
  refine ⟨h1, h2, h3, ?_, ?_, h4, h5, h6⟩
  · rw [hg]; simp only [Option.getD_some, rowsOf', rowsTo_len]; have := groupsN_le l; omega
  · rw [hg]; simp only [Option.getD_some]
    intro g hg'
    have := rowsTo_small _ _ _ g hg'
    omega
theorem detTo_next (l : Option (List Int)) (n d : Int) (j : Nat) : detTo l n d (j + 1) = detTo l n d j ++ [detectorOf l (180 + 8 * (d - j)) n] := by simp [detTo, List.range_succ]
theorem detTo_len (l : Option (List Int)) (n d : Int) (j : Nat) : (detTo l n d j).length = j := by simp [detTo]
theorem railTo_next (t : Tb) (l : Option (List Int)) (n d : Int) (j : Nat) : railTo t l n d (j + 1) = railTo t l n d j ++ [railOf t l (260 + 16 * (d - j)) n] := by simp [railTo, List.range_succ]
theorem railTo_len (t : Tb) (l : Option (List Int)) (n d : Int) (j : Nat) : (railTo t l n d j).length = j := by simp [railTo]
theorem busTo_next (l : Option (List Int)) (n d : Int) (j : Nat) : busTo l n d (j + 1) = busTo l n d j ++ [busOf l n (d - j)] := by simp [busTo, List.range_succ]
theorem busTo_len (l : Option (List Int)) (n d : Int) (j : Nat) : (busTo l n d j).length = j := by simp [busTo]
theorem Det.len (d : Det) : d.cells.length = 7 := rfl
theorem Bs.len (d : Bs) : d.cells.length = 2 := rfl
theorem tabPre_flash (l : Option (List Int)) : (tabPre l).flash.length = 8 := by
  unfold tabPre; simp only; split <;> simp [flTo_len]
theorem tabPre_dets (l : Option (List Int)) : ((tabPre l).detectors.getD []).length ≤ 1048576 := by
  have := frm_range l 175 (n := 9) (by decide) (by decide)
  simp only [tabPre, mkO_getD, detTo_len]; omega
theorem tabPre_rails (l : Option (List Int)) : ((tabPre l).rails.getD []).length ≤ 1048576 := by
  have h := Int.tmod_lt_of_pos (frm l 176 4) (b := 3) (by decide)
  simp only [tabPre, mkO_getD, railTo_len]; omega
theorem tabPre_buses (l : Option (List Int)) : ((tabPre l).buses.getD []).length ≤ 1048576 := by
  have := frm_range l 177 (n := 3) (by decide) (by decide)
  simp only [tabPre, mkO_getD, busTo_len]; omega
theorem tableOf_ok (l : Option (List Int)) : (tableOf l).Ok := ok_of rfl (phTo_len l _) (confTo_len _) (tabPre_flash l) (tabPre_dets l) (tabPre_rails l) (tabPre_buses l)
section
variable {P : Program} (hm : P.follows .mixedOrders = true) {f : Nat}
include hm
theorem Table.ok {fR fP fB fF fW fD eD fr eR eB fw : Nat} (hc : cFn P f = some (cc_law00_Table fR fP fB fF fW fD eD fr eR eB fw)) (hR : rows.Spec (Pure P) fR) (hP : phase.Spec (Pure P) fP) (hB : beside.Spec (Pure P) fB) (hF : from.Spec (Pure P) fF) (hW : refWith.Spec (Pure P) fW)
    (hD : detector.Spec (Pure P) fD) (hr : rail.Spec (Pure P) fr) (hw : wait.Spec (Pure P) fw) : Table.Spec (Pure P) f := by
  intro l
  refine pure_of hm hc (by show 1 ≤ 186; decide) (aw_flat (keep := [0,3,8,9,12,15,18]) (i := 0) ?_)
  try simp only [I, B, D, RW, ↓ KW, fillA, stTags, flat, Nat.reduceBEq, Nat.reduceAdd, Nat.reduceLeDiff, Int.reduceNe, Int.reduceBEq, Int.reduceEq, reduceCtorEq, Nat.reduceMul, Int.reduceLT, Int.reduceLE, Int.reduceToNat, cc_law00_Table, z131_is]
  have ok0 : Tb0.Ok := ⟨rfl, rfl, rfl, by simp [Tb0], by simp [Tb0], by simp [Tb0], by simp [Tb0], by simp [Tb0]⟩
  refine ⟨rfl, callp_is (hR Tb0 l ok0 rfl) ?_⟩
  have hN := rowsOf_le l
  have hN1 := rowsOf_pos l
  try simp only [I, B, D, RW, ↓ KW, fillA, stTags, flat, Nat.reduceBEq, Nat.reduceAdd, Nat.reduceLeDiff, Int.reduceNe, Int.reduceBEq, Int.reduceEq, reduceCtorEq, Nat.reduceMul, Int.reduceLT, Int.reduceLE, Int.reduceToNat]
  change aw _ _ _ (⟨[(5, _), (4, .dat (I ((rowsOf' l).2 : Nat)) none), (14, _), (13, _), (3, _), (2, _), (0, _)], [(5, ⟨(tabA l 0).cells, []⟩), _], _, _⟩ : S)
  generalize hNe : (rowsOf' l).2 = N at *
  refine aw_cut (.exit 0) (fun _ : Unit => (⟨[(4, .dat (I N) none), (3, .ptr 5 0), (0, .dat (slAV intRow l) none), (2, .ptr 4 0)], [(5, ⟨(tabA l N).cells, []⟩), (4, ⟨Tb0.cells, []⟩)], [], 400⟩ : S)) (fun _ => True) (fun _ => rfl) ?_ ?_
  · refine aw_loop' (fun k : Nat => (⟨[(5, .dat (I k) none), (4, .dat (I N) none), (3, .ptr 5 0), (0, .dat (slAV intRow l) none), (2, .ptr 4 0)], [(5, ⟨(tabA l k).cells, []⟩), (4, ⟨Tb0.cells, []⟩)], [], 400⟩ : S)) (fun k => N - k) (fun k => k ≤ N) ?_ 0 (by omega) ?_
    · intro k hk A back
      have hw3 := wrap_succ (k := k) (by omega)
      have hw2 : IntKind.i64.wrap (10 + IntKind.i64.wrap (12 * (k : Int))) = 10 + 12 * k := by rw [wrap_id (n := 12 * (k : Int)) (by omega) (by omega), wrap_id (by omega) (by omega)]
      have ln1 : (tabA l k).Ln := ⟨phTo_len l k, rfl, flTo_len k⟩
      have ln2 : ({ tabA l k with phases := (tabA l k).phases.set k (phaseOf l (10 + 12 * k)) } : Tb).Ln := ⟨by simp [phTo_len, tabA], rfl, flTo_len k⟩
      try simp only [I, B, D, RW, ↓ KW, fillA, stTags, flat, Nat.reduceBEq, Nat.reduceAdd, Nat.reduceLeDiff, Int.reduceNe, Int.reduceBEq, Int.reduceEq, reduceCtorEq, Nat.reduceMul, Int.reduceLT, Int.reduceLE, Int.reduceToNat]
      refine cd_split (fun h => ?_) (fun h => ?_) <;> try simp only [I, B, D, RW, ↓ KW, fillA, stTags, flat, Nat.reduceBEq, Nat.reduceAdd, Nat.reduceLeDiff, Int.reduceNe, Int.reduceBEq, Int.reduceEq, reduceCtorEq, Nat.reduceMul, Int.reduceLT, Int.reduceLE, Int.reduceToNat, h]
      · have hkN : k < N := by have := of_decide_eq_true h; omega
        have hlt : k < 8 := by omega
        have hs1 := ln1.set_phase hlt (phaseOf l (10 + 12 * k))
        have hs2 := ln2.set_flash hlt 1
        have hs3 : ({ ({ tabA l k with phases := (tabA l k).phases.set k (phaseOf l (10 + 12 * k)) } : Tb) with flash := ({ tabA l k with phases := (tabA l k).phases.set k (phaseOf l (10 + 12 * k)) } : Tb).flash.set k 1 } : Tb) = tabA l (k + 1) := rfl
        rw [hs3] at hs2
        have hl1 := ln1.len
        have hl2 := ln2.len
        generalize ({ tabA l k with phases := (tabA l k).phases.set k (phaseOf l (10 + 12 * k)) } : Tb) = T at *
        refine call_is (hP _ _) ?_
        try simp only [I, B, D, RW, ↓ KW, fillA, stTags, flat, Nat.reduceBEq, Nat.reduceAdd, Nat.reduceLeDiff, Int.reduceNe, Int.reduceBEq, Int.reduceEq, reduceCtorEq, Nat.reduceMul, Int.reduceLT, Int.reduceLE, Int.reduceToNat, hw2, hs1]
        exact ⟨by omega, Ph.len _, by omega, by omega, by omega, by refine back (k + 1) _ (by omega) (by omega) (le_tok2 (by decide) ?_ ?_ ?_ ?_) <;> simp [intRow, ownSV, ownL, leSlots, lv_dat, lv_tok, lv_ptr, lv_rp, lv_undef, leBoxes, leTags, leLive, tokM, tokB, tokT, ren, liveInj, r_lk, r_lkN, r_lkB, r_lkN0, I, B, D, withV_some, hs2, hw3]⟩
      · have : k = N := by have := of_decide_eq_false h; omega
        subst this
        refine cut_at () trivial ?_
        refine le_tok2 (by decide) ?_ ?_ ?_ ?_ <;> simp [intRow, ownSV, ownL, leSlots, lv_dat, lv_tok, lv_ptr, lv_rp, lv_undef, leBoxes, leTags, leLive, tokM, tokB, tokT, ren, liveInj, r_lk, r_lkN, r_lkB, r_lkN0, I, B, D, withV_some]
    · refine le_tok2 (by decide) ?_ ?_ ?_ ?_ <;> simp [intRow, ownSV, ownL, leSlots, lv_dat, lv_tok, lv_ptr, lv_rp, lv_undef, leBoxes, leTags, leLive, tokM, tokB, tokT, ren, liveInj, r_lk, r_lkN, r_lkB, r_lkN0, I, B, D, withV_some]
  · intro _ _
    try simp only [I, B, D, RW, ↓ KW, fillA, stTags, flat, Nat.reduceBEq, Nat.reduceAdd, Nat.reduceLeDiff, Int.reduceNe, Int.reduceBEq, Int.reduceEq, reduceCtorEq, Nat.reduceMul, Int.reduceLT, Int.reduceLE, Int.reduceToNat]
    generalize ht1 : ({ Tb0 with groups := some (rowsOf' l).1 } : Tb) = t1 at *
    have hA : tabA l N = tabB l (confTo t1 l 0) := by subst hNe; rfl
    refine aw_cut (.exit 2) (fun _ : Unit => (⟨[(4, .dat (I N) none), (3, .ptr 5 0), (0, .dat (slAV intRow l) none), (2, .ptr 4 0)], [(5, ⟨(tabB l (confTo t1 l N)).cells, []⟩), (4, ⟨Tb0.cells, []⟩)], [], 400⟩ : S)) (fun _ => True) (fun _ => rfl) ?_ ?_
    · refine aw_loop' (fun p : Nat => (⟨[(6, .dat (I p) none), (4, .dat (I N) none), (3, .ptr 5 0), (0, .dat (slAV intRow l) none), (2, .ptr 4 0)], [(5, ⟨(tabB l (confTo t1 l p)).cells, []⟩), (4, ⟨Tb0.cells, []⟩)], [], 400⟩ : S)) (fun p => N - p) (fun p => p ≤ N) ?_ 0 (by omega) ?_
      · intro p hp A back
        have hw3 := wrap_succ (k := p) (by omega)
        try simp only [I, B, D, RW, ↓ KW, fillA, stTags, flat, Nat.reduceBEq, Nat.reduceAdd, Nat.reduceLeDiff, Int.reduceNe, Int.reduceBEq, Int.reduceEq, reduceCtorEq, Nat.reduceMul, Int.reduceLT, Int.reduceLE, Int.reduceToNat]
        refine cd_split (fun h => ?_) (fun h => ?_) <;> try simp only [I, B, D, RW, ↓ KW, fillA, stTags, flat, Nat.reduceBEq, Nat.reduceAdd, Nat.reduceLeDiff, Int.reduceNe, Int.reduceBEq, Int.reduceEq, reduceCtorEq, Nat.reduceMul, Int.reduceLT, Int.reduceLE, Int.reduceToNat, h]
        · have hpN : p < N := by have := of_decide_eq_true h; omega
          have hlt : p < 8 := by omega
          have hcl : confTo t1 l (p + 1) = confRow t1 l p p (confTo t1 l p) := rfl
          have hcl8 := confTo_len (t := t1) (l := l) p
          generalize confTo t1 l p = c0 at *
          refine aw_loop' (fun q : Nat => (⟨[(7, .dat (I q) none), (6, .dat (I p) none), (4, .dat (I N) none), (3, .ptr 5 0), (0, .dat (slAV intRow l) none), (2, .ptr 4 0)], [(5, ⟨(tabB l (confRow t1 l p q c0)).cells, []⟩), (4, ⟨Tb0.cells, []⟩)], [], 400⟩ : S)) (fun q => p - q) (fun q => q ≤ p) ?_ 0 (by omega) ?_
          · intro q hq A2 back2
            have hw4 := wrap_succ (k := q) (by omega)
            have hst : confRow t1 l p (q + 1) c0 = confStep t1 l p q (confRow t1 l p q c0) := rfl
            have hc8 : (confRow t1 l p q c0).length = 8 := by rw [confRow_len, hcl8]
            generalize hce : confRow t1 l p q c0 = c at *
            have okB : (tabB l c).Ok := ok_of rfl (phTo_len l _) hc8 (flTo_len _) (by simp [tabB, tabA, Tb0]) (by simp [tabB, tabA, Tb0]) (by simp [tabB, tabA, Tb0])
            have hwh := okB.ln.whole
            have hln := okB.ln.len
            have hbs : besideR (tabB l c) p q = besideR t1 p q := by subst ht1; rfl
            have hix : IntKind.i64.wrap (IntKind.i64.wrap (110 + IntKind.i64.wrap (8 * (p : Int))) + q) = 110 + 8 * p + q := by
              rw [wrap_id (n := 8 * (p : Int)) (by omega) (by omega), wrap_id (n := 110 + 8 * (p : Int)) (by omega) (by omega), wrap_id (by omega) (by omega)]
            try simp only [I, B, D, RW, ↓ KW, fillA, stTags, flat, Nat.reduceBEq, Nat.reduceAdd, Nat.reduceLeDiff, Int.reduceNe, Int.reduceBEq, Int.reduceEq, reduceCtorEq, Nat.reduceMul, Int.reduceLT, Int.reduceLE, Int.reduceToNat]
            refine cd_split (fun h2 => ?_) (fun h2 => ?_) <;> try simp only [I, B, D, RW, ↓ KW, fillA, stTags, flat, Nat.reduceBEq, Nat.reduceAdd, Nat.reduceLeDiff, Int.reduceNe, Int.reduceBEq, Int.reduceEq, reduceCtorEq, Nat.reduceMul, Int.reduceLT, Int.reduceLE, Int.reduceToNat, hwh, h2]
            · have hq8 : q < p := by have := of_decide_eq_true h2; omega
              refine call_is (hB _ _ _ okB) ?_
              try simp only [I, B, D, RW, ↓ KW, fillA, stTags, flat, Nat.reduceBEq, Nat.reduceAdd, Nat.reduceLeDiff, Int.reduceNe, Int.reduceBEq, Int.reduceEq, reduceCtorEq, Nat.reduceMul, Int.reduceLT, Int.reduceLE, Int.reduceToNat, hbs]
              repeat' (first | (refine call_is (hF _ _ _ (by decide)) ?_; try simp only [I, B, D, RW, ↓ KW, fillA, stTags, flat, Nat.reduceBEq, Nat.reduceAdd, Nat.reduceLeDiff, Int.reduceNe, Int.reduceBEq, Int.reduceEq, reduceCtorEq, Nat.reduceMul, Int.reduceLT, Int.reduceLE, Int.reduceToNat, hix]) | (refine gd_split (fun h => ?_) (fun h => ?_) <;> try simp only [I, B, D, RW, ↓ KW, fillA, stTags, flat, Nat.reduceBEq, Nat.reduceAdd, Nat.reduceLeDiff, Int.reduceNe, Int.reduceBEq, Int.reduceEq, reduceCtorEq, Nat.reduceMul, Int.reduceLT, Int.reduceLE, Int.reduceToNat, hix, h]) | (refine cd_split (fun h => ?_) (fun h => ?_) <;> try simp only [I, B, D, RW, ↓ KW, fillA, stTags, flat, Nat.reduceBEq, Nat.reduceAdd, Nat.reduceLeDiff, Int.reduceNe, Int.reduceBEq, Int.reduceEq, reduceCtorEq, Nat.reduceMul, Int.reduceLT, Int.reduceLE, Int.reduceToNat, hix, h]) | (refine pk_split (fun h => ?_) (fun h => ?_) <;> try simp only [I, B, D, RW, ↓ KW, fillA, stTags, flat, Nat.reduceBEq, Nat.reduceAdd, Nat.reduceLeDiff, Int.reduceNe, Int.reduceBEq, Int.reduceEq, reduceCtorEq, Nat.reduceMul, Int.reduceLT, Int.reduceLE, Int.reduceToNat, hix, h]))
              · have hb : besideR t1 p q = false := by simp_all
                have hcc : clashes t1 l p q = true := by simp only [clashes, hb]; simpa using h
                have hcs : confStep t1 l p q c = (c.set p (withR (cAt c p) q)).set q (withR (cAt (c.set p (withR (cAt c p) q)) q) p) := by simp only [confStep, hcc, if_true]
                have g1 : c[p]? = some (cAt c p) := by simp [cAt, show p < c.length by omega]
                have g2 : (c.set p (withR (cAt c p) q))[q]? = some (cAt (c.set p (withR (cAt c p) q)) q) := by simp [cAt, show q < c.length by omega]
                have ln2 : (tabB l (c.set p (withR (cAt c p) q))).Ln := ⟨phTo_len l _, by simp [tabB, hc8], flTo_len _⟩
                have l1 := okB.ln.conflict_at (t := tabB l c) g1
                have l2 := ln2.conflict_at g2
                have hs1 : setCells (tabB l c).cells (105 + p) [I (withR (cAt c p) q)] = (tabB l (c.set p (withR (cAt c p) q))).cells := okB.ln.set_conflict hlt _
                have hs2 : setCells (tabB l (c.set p (withR (cAt c p) q))).cells (105 + q) [I (withR (cAt (c.set p (withR (cAt c p) q)) q) p)] = (tabB l (confStep t1 l p q c)).cells := by rw [hcs]; exact ln2.set_conflict (by omega) _
                have hln2 := ln2.len
                rw [← hst] at hs2
                simp only [I] at hs1 hs2
                generalize cAt (c.set p (withR (cAt c p) q)) q = v2 at *
                generalize cAt c p = v1 at *
                generalize c.set p (withR v1 q) = c2 at *
                refine ⟨by omega, ?_⟩
                try simp only [I, B, D, RW, ↓ KW, fillA, stTags, flat, Nat.reduceBEq, Nat.reduceAdd, Nat.reduceLeDiff, Int.reduceNe, Int.reduceBEq, Int.reduceEq, reduceCtorEq, Nat.reduceMul, Int.reduceLT, Int.reduceLE, Int.reduceToNat, l1]
                refine call_is (hW _ _) ?_
                try simp only [I, B, D, RW, ↓ KW, fillA, stTags, flat, Nat.reduceBEq, Nat.reduceAdd, Nat.reduceLeDiff, Int.reduceNe, Int.reduceBEq, Int.reduceEq, reduceCtorEq, Nat.reduceMul, Int.reduceLT, Int.reduceLE, Int.reduceToNat, hs1]
                refine ⟨by omega, by omega, by omega, ?_⟩
                try simp only [I, B, D, RW, ↓ KW, fillA, stTags, flat, Nat.reduceBEq, Nat.reduceAdd, Nat.reduceLeDiff, Int.reduceNe, Int.reduceBEq, Int.reduceEq, reduceCtorEq, Nat.reduceMul, Int.reduceLT, Int.reduceLE, Int.reduceToNat, l2, hs1]
                refine call_is (hW _ _) ?_
                try simp only [I, B, D, RW, ↓ KW, fillA, stTags, flat, Nat.reduceBEq, Nat.reduceAdd, Nat.reduceLeDiff, Int.reduceNe, Int.reduceBEq, Int.reduceEq, reduceCtorEq, Nat.reduceMul, Int.reduceLT, Int.reduceLE, Int.reduceToNat, hs1, hs2]
                exact ⟨by omega, by omega, by refine back2 (q + 1) _ (by omega) (by omega) (le_tok2 (by decide) ?_ ?_ ?_ ?_) <;> simp [intRow, ownSV, ownL, leSlots, lv_dat, lv_tok, lv_ptr, lv_rp, lv_undef, leBoxes, leTags, leLive, tokM, tokB, tokT, ren, liveInj, r_lk, r_lkN, r_lkB, r_lkN0, I, B, D, withV_some, hw4]⟩
              · have hcs : confStep t1 l p q c = c := by
                  have hcc : clashes t1 l p q = false := by simp only [clashes]; simp_all
                  simp [confStep, hcc]
                refine back2 (q + 1) _ (by omega) (by omega) (le_tok2 (by decide) ?_ ?_ ?_ ?_) <;> simp [intRow, ownSV, ownL, leSlots, lv_dat, lv_tok, lv_ptr, lv_rp, lv_undef, leBoxes, leTags, leLive, tokM, tokB, tokT, ren, liveInj, r_lk, r_lkN, r_lkB, r_lkN0, I, B, D, withV_some, hst, hcs, hw4]
              · have hcs : confStep t1 l p q c = c := by
                  have hcc : clashes t1 l p q = false := by simp only [clashes]; simp_all
                  simp [confStep, hcc]
                refine back2 (q + 1) _ (by omega) (by omega) (le_tok2 (by decide) ?_ ?_ ?_ ?_) <;> simp [intRow, ownSV, ownL, leSlots, lv_dat, lv_tok, lv_ptr, lv_rp, lv_undef, leBoxes, leTags, leLive, tokM, tokB, tokT, ren, liveInj, r_lk, r_lkN, r_lkB, r_lkN0, I, B, D, withV_some, hst, hcs, hw4]
            · have : q = p := by have := of_decide_eq_false h2; omega
              subst this
              refine back (q + 1) _ (by omega) (by omega) (le_tok2 (by decide) ?_ ?_ ?_ ?_) <;> simp [intRow, ownSV, ownL, leSlots, lv_dat, lv_tok, lv_ptr, lv_rp, lv_undef, leBoxes, leTags, leLive, tokM, tokB, tokT, ren, liveInj, r_lk, r_lkN, r_lkB, r_lkN0, I, B, D, withV_some, hcl, hce, hw3]
          · refine le_tok2 (by decide) ?_ ?_ ?_ ?_ <;> simp [intRow, ownSV, ownL, leSlots, lv_dat, lv_tok, lv_ptr, lv_rp, lv_undef, leBoxes, leTags, leLive, tokM, tokB, tokT, ren, liveInj, r_lk, r_lkN, r_lkB, r_lkN0, I, B, D, withV_some, confRow]
        · have : p = N := by have := of_decide_eq_false h; omega
          subst this
          refine cut_at () trivial ?_
          refine le_tok2 (by decide) ?_ ?_ ?_ ?_ <;> simp [intRow, ownSV, ownL, leSlots, lv_dat, lv_tok, lv_ptr, lv_rp, lv_undef, leBoxes, leTags, leLive, tokM, tokB, tokT, ren, liveInj, r_lk, r_lkN, r_lkB, r_lkN0, I, B, D, withV_some]
      · refine le_tok2 (by decide) ?_ ?_ ?_ ?_ <;> simp [intRow, ownSV, ownL, leSlots, lv_dat, lv_tok, lv_ptr, lv_rp, lv_undef, leBoxes, leTags, leLive, tokM, tokB, tokT, ren, liveInj, r_lk, r_lkN, r_lkB, r_lkN0, I, B, D, withV_some, hA]
    · intro _ _
      have hn1 : IntKind.i64.wrap ((N : Int) + 1) = N + 1 := wrap_succ (by omega)
      have hq := frm_range l 174 (n := (N : Int) + 1) (by omega) (by omega)
      have okB : (tabB l (confTo t1 l N)).Ok := ok_of rfl (phTo_len l _) (confTo_len _) (flTo_len _) (by simp [tabB, tabA, Tb0]) (by simp [tabB, tabA, Tb0]) (by simp [tabB, tabA, Tb0])
      have hln := okB.ln.len
      have hpre : (tabPre l).flash = if frm l 174 (N + 1) < N then (flTo N).set (frm l 174 (N + 1)).toNat 2 else flTo N := by subst hNe; rfl
      have hC : tabC l = { tabB l (confTo t1 l N) with flash := (tabPre l).flash } := by subst hNe; subst ht1; rfl
      have hfB : (tabB l (confTo t1 l N)).flash = flTo N := by subst hNe; rfl
      rw [r_join]
      refine aw_cut .normal (fun _ : Unit => (⟨[(4, .dat (I N) none), (3, .ptr 5 0), (0, .dat (slAV intRow l) none), (2, .ptr 4 0)], [(5, ⟨(tabC l).cells, []⟩), (4, ⟨Tb0.cells, []⟩)], [], 400⟩ : S)) (fun _ => True) (fun _ => rfl) ?_ ?_
      · try simp only [I, B, D, RW, ↓ KW, fillA, stTags, flat, Nat.reduceBEq, Nat.reduceAdd, Nat.reduceLeDiff, Int.reduceNe, Int.reduceBEq, Int.reduceEq, reduceCtorEq, Nat.reduceMul, Int.reduceLT, Int.reduceLE, Int.reduceToNat]
        refine call_is (hF _ _ _ (by omega)) ?_
        rw [hn1]
        generalize frm l 174 (N + 1) = q at *
        try simp only [I, B, D, RW, ↓ KW, fillA, stTags, flat, Nat.reduceBEq, Nat.reduceAdd, Nat.reduceLeDiff, Int.reduceNe, Int.reduceBEq, Int.reduceEq, reduceCtorEq, Nat.reduceMul, Int.reduceLT, Int.reduceLE, Int.reduceToNat]
        refine cd_split (fun h => ?_) (fun h => ?_) <;> try simp only [I, B, D, RW, ↓ KW, fillA, stTags, flat, Nat.reduceBEq, Nat.reduceAdd, Nat.reduceLeDiff, Int.reduceNe, Int.reduceBEq, Int.reduceEq, reduceCtorEq, Nat.reduceMul, Int.reduceLT, Int.reduceLE, Int.reduceToNat, h]
        · have hqN : q < N := of_decide_eq_true h
          rw [if_pos hqN] at hpre
          have hs1 := okB.ln.set_flash (i := q.toNat) (by omega) 2
          have e : ({ tabB l (confTo t1 l N) with flash := (tabB l (confTo t1 l N)).flash.set q.toNat 2 } : Tb) = tabC l := by rw [hC, hfB, hpre]
          rw [e] at hs1
          simp only [I] at hs1
          refine ⟨by omega, by omega, ?_⟩
          refine cut_at () trivial ?_
          refine le_tok2 (by decide) ?_ ?_ ?_ ?_ <;> simp [intRow, ownSV, ownL, leSlots, lv_dat, lv_tok, lv_ptr, lv_rp, lv_undef, leBoxes, leTags, leLive, tokM, tokB, tokT, ren, liveInj, r_lk, r_lkN, r_lkB, r_lkN0, I, B, D, withV_some, hs1]
        · have hqN : ¬ q < N := of_decide_eq_false h
          rw [if_neg hqN] at hpre
          have e : tabB l (confTo t1 l N) = tabC l := by rw [hC, hpre, ← hfB]
          refine cut_at () trivial ?_
          refine le_tok2 (by decide) ?_ ?_ ?_ ?_ <;> simp [intRow, ownSV, ownL, leSlots, lv_dat, lv_tok, lv_ptr, lv_rp, lv_undef, leBoxes, leTags, leLive, tokM, tokB, tokT, ren, liveInj, r_lk, r_lkN, r_lkB, r_lkN0, I, B, D, withV_some, e]
      · intro _ _
        have hd := frm_range l 175 (n := 9) (by decide) (by decide)
        have hD0 : tabC l = tabD l [] := rfl
        have hDe : tabD l (detTo l N (frm l 175 9) (frm l 175 9).toNat) = tabE l [] := by subst hNe; rfl
        try simp only [I, B, D, RW, ↓ KW, fillA, stTags, flat, Nat.reduceBEq, Nat.reduceAdd, Nat.reduceLeDiff, Int.reduceNe, Int.reduceBEq, Int.reduceEq, reduceCtorEq, Nat.reduceMul, Int.reduceLT, Int.reduceLE, Int.reduceToNat]
        refine call_is (hF _ _ _ (by decide)) ?_
        generalize frm l 175 9 = d at *
        try simp only [I, B, D, RW, ↓ KW, fillA, stTags, flat, Nat.reduceBEq, Nat.reduceAdd, Nat.reduceLeDiff, Int.reduceNe, Int.reduceBEq, Int.reduceEq, reduceCtorEq, Nat.reduceMul, Int.reduceLT, Int.reduceLE, Int.reduceToNat]
        refine aw_cut (.exit 6) (fun _ : Unit => (⟨[(4, .dat (I N) none), (3, .ptr 5 0), (0, .dat (slAV intRow l) none), (2, .ptr 4 0)], [(5, ⟨(tabD l (detTo l N d d.toNat)).cells, []⟩), (4, ⟨Tb0.cells, []⟩)], [], 400⟩ : S)) (fun _ => True) (fun _ => rfl) ?_ ?_
        · refine aw_loop' (fun j : Nat => (⟨[(9, .dat (I (d - j)) none), (4, .dat (I N) none), (3, .ptr 5 0), (0, .dat (slAV intRow l) none), (2, .ptr 4 0)], [(5, ⟨(tabD l (detTo l N d j)).cells, if detTo l N d j = [] then [] else [(113, 0)]⟩), (4, ⟨Tb0.cells, []⟩)], ownL (detTo l N d j) 0 eD, 400⟩ : S)) (fun j => d.toNat - j) (fun j => j ≤ d.toNat) ?_ 0 (by omega) ?_
          · intro j hj A back
            have hw3 : IntKind.i64.wrap (d - j - 1) = d - ((j + 1 : Nat) : Int) := by rw [wrap_id (by omega) (by omega)]; omega
            have hix : IntKind.i64.wrap (180 + IntKind.i64.wrap (8 * (d - (j : Int)))) = 180 + 8 * (d - j) := by rw [wrap_id (n := 8 * (d - (j : Int))) (by omega) (by omega), wrap_id (by omega) (by omega)]
            have hnext := detTo_next  l N d j
            have hlen : (detTo l N d j).length = j := detTo_len ..
            generalize hL : detTo l N d j = L at *
            generalize hx : detectorOf l (180 + 8 * (d - j)) N = x at *
            have okT : (tabD l L).Ok := ok_of rfl (phTo_len l _) (confTo_len _) (tabPre_flash l) (by simp [tabD, tabC, tabB, tabA, Tb0, mkO_getD, tabPre_dets]; try omega) (by simp [tabD, tabC, tabB, tabA, Tb0, mkO_getD, tabPre_rails]; try omega) (by simp [tabD, tabC, tabB, tabA, Tb0, mkO_getD]; try omega)
            have ln := okT.ln
            have hln := ln.len
            have hwh := ln.whole
            have hat := ln.at113
            have hset : setCells (tabD l L).cells 113 [slAV Det.cells (some (L ++ [x]))] = (tabD l (L ++ [x])).cells := by rw [ln.set_dets (some (L ++ [x]))]; simp [tabD, mkO]
            have hatr : (tabD l L).detectors = mkO L := rfl
            rw [hatr] at hat
            simp only [slAV_some, List.map_append, List.map_cons, List.map_nil] at hset
            cases L with
            | nil =>
              simp only [List.map_nil, List.nil_append, mkO, if_true, slAV_none] at hset hat hnext
              try simp only [I, B, D, RW, ↓ KW, fillA, stTags, flat, Nat.reduceBEq, Nat.reduceAdd, Nat.reduceLeDiff, Int.reduceNe, Int.reduceBEq, Int.reduceEq, reduceCtorEq, Nat.reduceMul, Int.reduceLT, Int.reduceLE, Int.reduceToNat, mkO, ownL]
              refine cd_split (fun h => ?_) (fun h => ?_) <;> try simp only [I, B, D, RW, ↓ KW, fillA, stTags, flat, Nat.reduceBEq, Nat.reduceAdd, Nat.reduceLeDiff, Int.reduceNe, Int.reduceBEq, Int.reduceEq, reduceCtorEq, Nat.reduceMul, Int.reduceLT, Int.reduceLE, Int.reduceToNat, hat, hwh, h]
              · have hj1 : (0 : Int) < d - j := of_decide_eq_true h
                refine call_is (hD _ _ _ (by omega)) ?_
                try simp only [I, B, D, RW, ↓ KW, fillA, stTags, flat, Nat.reduceBEq, Nat.reduceAdd, Nat.reduceLeDiff, Int.reduceNe, Int.reduceBEq, Int.reduceEq, reduceCtorEq, Nat.reduceMul, Int.reduceLT, Int.reduceLE, Int.reduceToNat, hix, hx, Det.len]
                try simp only [I, B, D, RW, ↓ KW, fillA, stTags, flat, Nat.reduceBEq, Nat.reduceAdd, Nat.reduceLeDiff, Int.reduceNe, Int.reduceBEq, Int.reduceEq, reduceCtorEq, Nat.reduceMul, Int.reduceLT, Int.reduceLE, Int.reduceToNat, hset]
                refine ⟨by omega, ?_⟩
                refine back (j + 1) _ (by omega) (by omega) (le_tok2 (by decide) ?_ ?_ ?_ ?_) <;> simp [intRow, ownSV, ownL, leSlots, lv_dat, lv_tok, lv_ptr, lv_rp, lv_undef, leBoxes, leTags, leLive, tokM, tokB, tokT, ren, liveInj, r_lk, r_lkN, r_lkB, r_lkN0, I, B, D, withV_some, hnext, hw3, mkO]
              · have hj1 : ¬ (0 : Int) < d - j := of_decide_eq_false h
                have : j = d.toNat := by omega
                rw [← this, hL]
                refine cut_at () trivial ?_
                refine le_tok2 (by decide) ?_ ?_ ?_ ?_ <;> simp [intRow, ownSV, ownL, leSlots, lv_dat, lv_tok, lv_ptr, lv_rp, lv_undef, leBoxes, leTags, leLive, tokM, tokB, tokT, ren, liveInj, r_lk, r_lkN, r_lkB, r_lkN0, I, B, D, withV_some, mkO]
            | cons y ys =>
              simp only [mkO, reduceCtorEq, if_false, slAV_some] at hset hat hnext
              try simp only [I, B, D, RW, ↓ KW, fillA, stTags, flat, Nat.reduceBEq, Nat.reduceAdd, Nat.reduceLeDiff, Int.reduceNe, Int.reduceBEq, Int.reduceEq, reduceCtorEq, Nat.reduceMul, Int.reduceLT, Int.reduceLE, Int.reduceToNat, mkO, ownL]
              refine cd_split (fun h => ?_) (fun h => ?_) <;> try simp only [I, B, D, RW, ↓ KW, fillA, stTags, flat, Nat.reduceBEq, Nat.reduceAdd, Nat.reduceLeDiff, Int.reduceNe, Int.reduceBEq, Int.reduceEq, reduceCtorEq, Nat.reduceMul, Int.reduceLT, Int.reduceLE, Int.reduceToNat, hat, hwh, h]
              · have hj1 : (0 : Int) < d - j := of_decide_eq_true h
                refine call_is (hD _ _ _ (by omega)) ?_
                try simp only [I, B, D, RW, ↓ KW, fillA, stTags, flat, Nat.reduceBEq, Nat.reduceAdd, Nat.reduceLeDiff, Int.reduceNe, Int.reduceBEq, Int.reduceEq, reduceCtorEq, Nat.reduceMul, Int.reduceLT, Int.reduceLE, Int.reduceToNat, hix, hx, Det.len]
                try simp only [I, B, D, RW, ↓ KW, fillA, stTags, flat, Nat.reduceBEq, Nat.reduceAdd, Nat.reduceLeDiff, Int.reduceNe, Int.reduceBEq, Int.reduceEq, reduceCtorEq, Nat.reduceMul, Int.reduceLT, Int.reduceLE, Int.reduceToNat, hset, Det.len]
                refine ⟨by simp at hlen ⊢; omega, by omega, ?_⟩
                refine back (j + 1) _ (by omega) (by omega) (le_tok2 (by decide) ?_ ?_ ?_ ?_) <;> simp [intRow, ownSV, ownL, leSlots, lv_dat, lv_tok, lv_ptr, lv_rp, lv_undef, leBoxes, leTags, leLive, tokM, tokB, tokT, ren, liveInj, r_lk, r_lkN, r_lkB, r_lkN0, I, B, D, withV_some, hnext, hw3, mkO]
              · have hj1 : ¬ (0 : Int) < d - j := of_decide_eq_false h
                have : j = d.toNat := by omega
                rw [← this, hL]
                refine cut_at () trivial ?_
                refine le_tok2 (by decide) ?_ ?_ ?_ ?_ <;> simp [intRow, ownSV, ownL, leSlots, lv_dat, lv_tok, lv_ptr, lv_rp, lv_undef, leBoxes, leTags, leLive, tokM, tokB, tokT, ren, liveInj, r_lk, r_lkN, r_lkB, r_lkN0, I, B, D, withV_some, mkO]
          · refine le_tok2 (by decide) ?_ ?_ ?_ ?_ <;> simp [intRow, ownSV, ownL, leSlots, lv_dat, lv_tok, lv_ptr, lv_rp, lv_undef, leBoxes, leTags, leLive, tokM, tokB, tokT, ren, liveInj, r_lk, r_lkN, r_lkB, r_lkN0, I, B, D, withV_some, hD0, detTo, mkO]
        · intro _ _
          have hr4 := frm_range l 176 (n := 4) (by decide) (by decide)
          have hr3 := Int.tmod_lt_of_pos (frm l 176 4) (b := 3) (by decide)
          have hr0 := Int.tmod_nonneg 3 hr4.1
          have hEe : tabE l (railTo t1 l N ((frm l 176 4).tmod 3) ((frm l 176 4).tmod 3).toNat) = tabF l [] := by subst hNe; subst ht1; rfl
          have hRl : (tabPre l).rails = mkO (railTo t1 l N ((frm l 176 4).tmod 3) ((frm l 176 4).tmod 3).toNat) := by subst hNe; subst ht1; rfl
          have hTab : tableOf l = tabW l (if railTo t1 l N ((frm l 176 4).tmod 3) ((frm l 176 4).tmod 3).toNat = [] then 0 else winTo (tabPre l) N) := by subst hNe; subst ht1; rfl
          try simp only [I, B, D, RW, ↓ KW, fillA, stTags, flat, Nat.reduceBEq, Nat.reduceAdd, Nat.reduceLeDiff, Int.reduceNe, Int.reduceBEq, Int.reduceEq, reduceCtorEq, Nat.reduceMul, Int.reduceLT, Int.reduceLE, Int.reduceToNat]
          refine call_is (hF _ _ _ (by decide)) ?_
          try simp only [I, B, D, RW, ↓ KW, fillA, stTags, flat, Nat.reduceBEq, Nat.reduceAdd, Nat.reduceLeDiff, Int.reduceNe, Int.reduceBEq, Int.reduceEq, reduceCtorEq, Nat.reduceMul, Int.reduceLT, Int.reduceLE, Int.reduceToNat]
          generalize (frm l 176 4).tmod 3 = r at *
          refine aw_cut (.exit 8) (fun _ : Unit => (⟨[(4, .dat (I N) none), (3, .ptr 5 0), (0, .dat (slAV intRow l) none), (2, .ptr 4 0)], [(5, ⟨(tabE l (railTo t1 l N r r.toNat)).cells, []⟩), (4, ⟨Tb0.cells, []⟩)], [], 400⟩ : S)) (fun _ => True) (fun _ => rfl) ?_ ?_
          · refine aw_loop' (fun j : Nat => (⟨[(10, .dat (I (r - j)) none), (4, .dat (I N) none), (3, .ptr 5 0), (0, .dat (slAV intRow l) none), (2, .ptr 4 0)], [(5, ⟨(tabE l (railTo t1 l N r j)).cells, if railTo t1 l N r j = [] then [] else [(114, 0)]⟩), (4, ⟨Tb0.cells, []⟩)], ownL (railTo t1 l N r j) 0 eR, 400⟩ : S)) (fun j => r.toNat - j) (fun j => j ≤ r.toNat) ?_ 0 (by omega) ?_
            · intro j hj A back
              have hw3 : IntKind.i64.wrap (r - j - 1) = r - ((j + 1 : Nat) : Int) := by rw [wrap_id (by omega) (by omega)]; omega
              have hix : IntKind.i64.wrap (260 + IntKind.i64.wrap (16 * (r - (j : Int)))) = 260 + 16 * (r - j) := by rw [wrap_id (n := 16 * (r - (j : Int))) (by omega) (by omega), wrap_id (by omega) (by omega)]
              have hro : ∀ L', railOf (tabE l L') l (260 + 16 * (r - j)) N = railOf t1 l (260 + 16 * (r - j)) N := fun _ => by subst ht1; rfl
              have hnext := railTo_next  t1 l N r j
              have hlen : (railTo t1 l N r j).length = j := railTo_len ..
              generalize hL : railTo t1 l N r j = L at *
              generalize hx : railOf t1 l (260 + 16 * (r - j)) N = x at *
              have okT : (tabE l L).Ok := ok_of rfl (phTo_len l _) (confTo_len _) (tabPre_flash l) (by simp [tabE, tabC, tabB, tabA, Tb0, mkO_getD, tabPre_dets]; try omega) (by simp [tabE, tabC, tabB, tabA, Tb0, mkO_getD, tabPre_rails]; try omega) (by simp [tabE, tabC, tabB, tabA, Tb0, mkO_getD]; try omega)
              have ln := okT.ln
              have hln := ln.len
              have hwh := ln.whole
              have hat := ln.at114
              have hset : setCells (tabE l L).cells 114 [slAV Rl.cells (some (L ++ [x]))] = (tabE l (L ++ [x])).cells := by rw [ln.set_rails (some (L ++ [x]))]; simp [tabE, mkO]
              have hatr : (tabE l L).rails = mkO L := rfl
              rw [hatr] at hat
              simp only [slAV_some, List.map_append, List.map_cons, List.map_nil] at hset
              cases L with
              | nil =>
                simp only [List.map_nil, List.nil_append, mkO, if_true, slAV_none] at hset hat hnext
                try simp only [I, B, D, RW, ↓ KW, fillA, stTags, flat, Nat.reduceBEq, Nat.reduceAdd, Nat.reduceLeDiff, Int.reduceNe, Int.reduceBEq, Int.reduceEq, reduceCtorEq, Nat.reduceMul, Int.reduceLT, Int.reduceLE, Int.reduceToNat, mkO, ownL]
                refine cd_split (fun h => ?_) (fun h => ?_) <;> try simp only [I, B, D, RW, ↓ KW, fillA, stTags, flat, Nat.reduceBEq, Nat.reduceAdd, Nat.reduceLeDiff, Int.reduceNe, Int.reduceBEq, Int.reduceEq, reduceCtorEq, Nat.reduceMul, Int.reduceLT, Int.reduceLE, Int.reduceToNat, hat, hwh, h]
                · have hj1 : (0 : Int) < r - j := of_decide_eq_true h
                  refine call_is (hr _ _ _ _ okT (by omega) (by omega)) ?_
                  try simp only [I, B, D, RW, ↓ KW, fillA, stTags, flat, Nat.reduceBEq, Nat.reduceAdd, Nat.reduceLeDiff, Int.reduceNe, Int.reduceBEq, Int.reduceEq, reduceCtorEq, Nat.reduceMul, Int.reduceLT, Int.reduceLE, Int.reduceToNat, hix, hro, hx, Rl.len]
                  try simp only [I, B, D, RW, ↓ KW, fillA, stTags, flat, Nat.reduceBEq, Nat.reduceAdd, Nat.reduceLeDiff, Int.reduceNe, Int.reduceBEq, Int.reduceEq, reduceCtorEq, Nat.reduceMul, Int.reduceLT, Int.reduceLE, Int.reduceToNat, hset]
                  refine ⟨by omega, ?_⟩
                  refine back (j + 1) _ (by omega) (by omega) (le_tok2 (by decide) ?_ ?_ ?_ ?_) <;> simp [intRow, ownSV, ownL, leSlots, lv_dat, lv_tok, lv_ptr, lv_rp, lv_undef, leBoxes, leTags, leLive, tokM, tokB, tokT, ren, liveInj, r_lk, r_lkN, r_lkB, r_lkN0, I, B, D, withV_some, hnext, hw3, mkO]
                · have hj1 : ¬ (0 : Int) < r - j := of_decide_eq_false h
                  have : j = r.toNat := by omega
                  rw [← this, hL]
                  refine cut_at () trivial ?_
                  refine le_tok2 (by decide) ?_ ?_ ?_ ?_ <;> simp [intRow, ownSV, ownL, leSlots, lv_dat, lv_tok, lv_ptr, lv_rp, lv_undef, leBoxes, leTags, leLive, tokM, tokB, tokT, ren, liveInj, r_lk, r_lkN, r_lkB, r_lkN0, I, B, D, withV_some, mkO]
              | cons y ys =>
                simp only [mkO, reduceCtorEq, if_false, slAV_some] at hset hat hnext
                try simp only [I, B, D, RW, ↓ KW, fillA, stTags, flat, Nat.reduceBEq, Nat.reduceAdd, Nat.reduceLeDiff, Int.reduceNe, Int.reduceBEq, Int.reduceEq, reduceCtorEq, Nat.reduceMul, Int.reduceLT, Int.reduceLE, Int.reduceToNat, mkO, ownL]
                refine cd_split (fun h => ?_) (fun h => ?_) <;> try simp only [I, B, D, RW, ↓ KW, fillA, stTags, flat, Nat.reduceBEq, Nat.reduceAdd, Nat.reduceLeDiff, Int.reduceNe, Int.reduceBEq, Int.reduceEq, reduceCtorEq, Nat.reduceMul, Int.reduceLT, Int.reduceLE, Int.reduceToNat, hat, hwh, h]
                · have hj1 : (0 : Int) < r - j := of_decide_eq_true h
                  refine call_is (hr _ _ _ _ okT (by omega) (by omega)) ?_
                  try simp only [I, B, D, RW, ↓ KW, fillA, stTags, flat, Nat.reduceBEq, Nat.reduceAdd, Nat.reduceLeDiff, Int.reduceNe, Int.reduceBEq, Int.reduceEq, reduceCtorEq, Nat.reduceMul, Int.reduceLT, Int.reduceLE, Int.reduceToNat, hix, hro, hx, Rl.len]
                  try simp only [I, B, D, RW, ↓ KW, fillA, stTags, flat, Nat.reduceBEq, Nat.reduceAdd, Nat.reduceLeDiff, Int.reduceNe, Int.reduceBEq, Int.reduceEq, reduceCtorEq, Nat.reduceMul, Int.reduceLT, Int.reduceLE, Int.reduceToNat, hset, Rl.len]
                  refine ⟨by simp at hlen ⊢; omega, by omega, ?_⟩
                  refine back (j + 1) _ (by omega) (by omega) (le_tok2 (by decide) ?_ ?_ ?_ ?_) <;> simp [intRow, ownSV, ownL, leSlots, lv_dat, lv_tok, lv_ptr, lv_rp, lv_undef, leBoxes, leTags, leLive, tokM, tokB, tokT, ren, liveInj, r_lk, r_lkN, r_lkB, r_lkN0, I, B, D, withV_some, hnext, hw3, mkO]
                · have hj1 : ¬ (0 : Int) < r - j := of_decide_eq_false h
                  have : j = r.toNat := by omega
                  rw [← this, hL]
                  refine cut_at () trivial ?_
                  refine le_tok2 (by decide) ?_ ?_ ?_ ?_ <;> simp [intRow, ownSV, ownL, leSlots, lv_dat, lv_tok, lv_ptr, lv_rp, lv_undef, leBoxes, leTags, leLive, tokM, tokB, tokT, ren, liveInj, r_lk, r_lkN, r_lkB, r_lkN0, I, B, D, withV_some, mkO]
            · refine le_tok2 (by decide) ?_ ?_ ?_ ?_ <;> simp [intRow, ownSV, ownL, leSlots, lv_dat, lv_tok, lv_ptr, lv_rp, lv_undef, leBoxes, leTags, leLive, tokM, tokB, tokT, ren, liveInj, r_lk, r_lkN, r_lkB, r_lkN0, I, B, D, withV_some, hDe, railTo, mkO]
          · intro _ _
            have hb3 := frm_range l 177 (n := 3) (by decide) (by decide)
            have hFe : tabF l (busTo l N (frm l 177 3) (frm l 177 3).toNat) = { tabPre l with extend := 0, budget := 0, start := 0, revert := 0, least := 0, share := 0 } := by subst hNe; rfl
            have hu : 0 ≤ IntKind.u64.wrap (N : Int) := by rw [IntKind.wrap]; simp [IntKind.signed]; omega
            try simp only [I, B, D, RW, ↓ KW, fillA, stTags, flat, Nat.reduceBEq, Nat.reduceAdd, Nat.reduceLeDiff, Int.reduceNe, Int.reduceBEq, Int.reduceEq, reduceCtorEq, Nat.reduceMul, Int.reduceLT, Int.reduceLE, Int.reduceToNat]
            refine call_is (hF _ _ _ (by decide)) ?_
            generalize frm l 177 3 = b at *
            try simp only [I, B, D, RW, ↓ KW, fillA, stTags, flat, Nat.reduceBEq, Nat.reduceAdd, Nat.reduceLeDiff, Int.reduceNe, Int.reduceBEq, Int.reduceEq, reduceCtorEq, Nat.reduceMul, Int.reduceLT, Int.reduceLE, Int.reduceToNat]
            refine aw_cut (.exit 10) (fun _ : Unit => (⟨[(4, .dat (I N) none), (3, .ptr 5 0), (0, .dat (slAV intRow l) none), (2, .ptr 4 0)], [(5, ⟨(tabF l (busTo l N b b.toNat)).cells, []⟩), (4, ⟨Tb0.cells, []⟩)], [], 400⟩ : S)) (fun _ => True) (fun _ => rfl) ?_ ?_
            · refine aw_loop' (fun j : Nat => (⟨[(11, .dat (I (b - j)) none), (4, .dat (I N) none), (3, .ptr 5 0), (0, .dat (slAV intRow l) none), (2, .ptr 4 0)], [(5, ⟨(tabF l (busTo l N b j)).cells, if busTo l N b j = [] then [] else [(115, 0)]⟩), (4, ⟨Tb0.cells, []⟩)], ownL (busTo l N b j) 0 eB, 400⟩ : S)) (fun j => b.toNat - j) (fun j => j ≤ b.toNat) ?_ 0 (by omega) ?_
              · intro j hj A back
                have hw3 : IntKind.i64.wrap (b - j - 1) = b - ((j + 1 : Nat) : Int) := by rw [wrap_id (by omega) (by omega)]; omega
                have hi1 : IntKind.i64.wrap (330 + IntKind.i64.wrap (2 * (b - (j : Int)))) = 330 + 2 * (b - j) := by rw [wrap_id (n := 2 * (b - (j : Int))) (by omega) (by omega), wrap_id (by omega) (by omega)]
                have hi2 : IntKind.i64.wrap (331 + IntKind.i64.wrap (2 * (b - (j : Int)))) = 331 + 2 * (b - j) := by rw [wrap_id (n := 2 * (b - (j : Int))) (by omega) (by omega), wrap_id (by omega) (by omega)]
                have hbx : (busOf l N (b - j)).cells = [AV.int .i64 (if bAnd .i64 (frm l (330 + 2 * (b - j)) 256) (IntKind.i64.wrap (IntKind.i64.wrap (1 * 2 ^ min (IntKind.u64.wrap (N : Int)).toNat IntKind.i64.bits) - 1)) > 1 then bAnd .i64 (frm l (330 + 2 * (b - j)) 256) (IntKind.i64.wrap (IntKind.i64.wrap (1 * 2 ^ min (IntKind.u64.wrap (N : Int)).toNat IntKind.i64.bits) - 1)) else 1), AV.int .i64 (IntKind.i64.wrap (1 + frm l (331 + 2 * (b - j)) 30))] := rfl
                have hnext := busTo_next  l N b j
                have hlen : (busTo l N b j).length = j := busTo_len ..
                generalize hL : busTo l N b j = L at *
                generalize hx : busOf l N (b - j) = x at *
                have okT : (tabF l L).Ok := ok_of rfl (phTo_len l _) (confTo_len _) (tabPre_flash l) (by simp [tabF, tabC, tabB, tabA, Tb0, mkO_getD, tabPre_dets]; try omega) (by simp [tabF, tabC, tabB, tabA, Tb0, mkO_getD, tabPre_rails]; try omega) (by simp [tabF, tabC, tabB, tabA, Tb0, mkO_getD]; try omega)
                have ln := okT.ln
                have hln := ln.len
                have hwh := ln.whole
                have hat := ln.at115
                have hset : setCells (tabF l L).cells 115 [slAV Bs.cells (some (L ++ [x]))] = (tabF l (L ++ [x])).cells := by rw [ln.set_buses (some (L ++ [x]))]; simp [tabF, mkO]
                have hatr : (tabF l L).buses = mkO L := rfl
                rw [hatr] at hat
                simp only [slAV_some, List.map_append, List.map_cons, List.map_nil] at hset
                cases L with
                | nil =>
                  simp only [List.map_nil, List.nil_append, mkO, if_true, slAV_none] at hset hat hnext
                  try simp only [I, B, D, RW, ↓ KW, fillA, stTags, flat, Nat.reduceBEq, Nat.reduceAdd, Nat.reduceLeDiff, Int.reduceNe, Int.reduceBEq, Int.reduceEq, reduceCtorEq, Nat.reduceMul, Int.reduceLT, Int.reduceLE, Int.reduceToNat, mkO, ownL]
                  refine cd_split (fun h => ?_) (fun h => ?_) <;> try simp only [I, B, D, RW, ↓ KW, fillA, stTags, flat, Nat.reduceBEq, Nat.reduceAdd, Nat.reduceLeDiff, Int.reduceNe, Int.reduceBEq, Int.reduceEq, reduceCtorEq, Nat.reduceMul, Int.reduceLT, Int.reduceLE, Int.reduceToNat, hat, hwh, h]
                  · have hj1 : (0 : Int) < b - j := of_decide_eq_true h
                    refine call_is (hF _ _ _ (by decide)) ?_
                    try simp only [I, B, D, RW, ↓ KW, fillA, stTags, flat, Nat.reduceBEq, Nat.reduceAdd, Nat.reduceLeDiff, Int.reduceNe, Int.reduceBEq, Int.reduceEq, reduceCtorEq, Nat.reduceMul, Int.reduceLT, Int.reduceLE, Int.reduceToNat, hi1]
                    refine ⟨hu, ?_⟩
                    refine call_is (hF _ _ _ (by decide)) ?_
                    try simp only [I, B, D, RW, ↓ KW, fillA, stTags, flat, Nat.reduceBEq, Nat.reduceAdd, Nat.reduceLeDiff, Int.reduceNe, Int.reduceBEq, Int.reduceEq, reduceCtorEq, Nat.reduceMul, Int.reduceLT, Int.reduceLE, Int.reduceToNat, hi2, hi1]
                    simp only [gt_iff_lt] at hbx ⊢
                    rw [hbx] at hset
                    try simp only [I, B, D, RW, ↓ KW, fillA, stTags, flat, Nat.reduceBEq, Nat.reduceAdd, Nat.reduceLeDiff, Int.reduceNe, Int.reduceBEq, Int.reduceEq, reduceCtorEq, Nat.reduceMul, Int.reduceLT, Int.reduceLE, Int.reduceToNat, hset]
                    refine ⟨by omega, ?_⟩
                    refine back (j + 1) _ (by omega) (by omega) (le_tok2 (by decide) ?_ ?_ ?_ ?_) <;> simp [intRow, ownSV, ownL, leSlots, lv_dat, lv_tok, lv_ptr, lv_rp, lv_undef, leBoxes, leTags, leLive, tokM, tokB, tokT, ren, liveInj, r_lk, r_lkN, r_lkB, r_lkN0, I, B, D, withV_some, hnext, hw3, mkO]
                  · have hj1 : ¬ (0 : Int) < b - j := of_decide_eq_false h
                    have : j = b.toNat := by omega
                    rw [← this, hL]
                    refine cut_at () trivial ?_
                    refine le_tok2 (by decide) ?_ ?_ ?_ ?_ <;> simp [intRow, ownSV, ownL, leSlots, lv_dat, lv_tok, lv_ptr, lv_rp, lv_undef, leBoxes, leTags, leLive, tokM, tokB, tokT, ren, liveInj, r_lk, r_lkN, r_lkB, r_lkN0, I, B, D, withV_some, mkO]
                | cons y ys =>
                  simp only [mkO, reduceCtorEq, if_false, slAV_some] at hset hat hnext
                  try simp only [I, B, D, RW, ↓ KW, fillA, stTags, flat, Nat.reduceBEq, Nat.reduceAdd, Nat.reduceLeDiff, Int.reduceNe, Int.reduceBEq, Int.reduceEq, reduceCtorEq, Nat.reduceMul, Int.reduceLT, Int.reduceLE, Int.reduceToNat, mkO, ownL]
                  refine cd_split (fun h => ?_) (fun h => ?_) <;> try simp only [I, B, D, RW, ↓ KW, fillA, stTags, flat, Nat.reduceBEq, Nat.reduceAdd, Nat.reduceLeDiff, Int.reduceNe, Int.reduceBEq, Int.reduceEq, reduceCtorEq, Nat.reduceMul, Int.reduceLT, Int.reduceLE, Int.reduceToNat, hat, hwh, h]
                  · have hj1 : (0 : Int) < b - j := of_decide_eq_true h
                    refine call_is (hF _ _ _ (by decide)) ?_
                    try simp only [I, B, D, RW, ↓ KW, fillA, stTags, flat, Nat.reduceBEq, Nat.reduceAdd, Nat.reduceLeDiff, Int.reduceNe, Int.reduceBEq, Int.reduceEq, reduceCtorEq, Nat.reduceMul, Int.reduceLT, Int.reduceLE, Int.reduceToNat, hi1]
                    refine ⟨hu, ?_⟩
                    refine call_is (hF _ _ _ (by decide)) ?_
                    try simp only [I, B, D, RW, ↓ KW, fillA, stTags, flat, Nat.reduceBEq, Nat.reduceAdd, Nat.reduceLeDiff, Int.reduceNe, Int.reduceBEq, Int.reduceEq, reduceCtorEq, Nat.reduceMul, Int.reduceLT, Int.reduceLE, Int.reduceToNat, hi2, hi1]
                    simp only [gt_iff_lt] at hbx ⊢
                    rw [hbx] at hset
                    try simp only [I, B, D, RW, ↓ KW, fillA, stTags, flat, Nat.reduceBEq, Nat.reduceAdd, Nat.reduceLeDiff, Int.reduceNe, Int.reduceBEq, Int.reduceEq, reduceCtorEq, Nat.reduceMul, Int.reduceLT, Int.reduceLE, Int.reduceToNat, hset, Bs.len]
                    refine ⟨by simp at hlen ⊢; omega, by omega, ?_⟩
                    refine back (j + 1) _ (by omega) (by omega) (le_tok2 (by decide) ?_ ?_ ?_ ?_) <;> simp [intRow, ownSV, ownL, leSlots, lv_dat, lv_tok, lv_ptr, lv_rp, lv_undef, leBoxes, leTags, leLive, tokM, tokB, tokT, ren, liveInj, r_lk, r_lkN, r_lkB, r_lkN0, I, B, D, withV_some, hnext, hw3, mkO]
                  · have hj1 : ¬ (0 : Int) < b - j := of_decide_eq_false h
                    have : j = b.toNat := by omega
                    rw [← this, hL]
                    refine cut_at () trivial ?_
                    refine le_tok2 (by decide) ?_ ?_ ?_ ?_ <;> simp [intRow, ownSV, ownL, leSlots, lv_dat, lv_tok, lv_ptr, lv_rp, lv_undef, leBoxes, leTags, leLive, tokM, tokB, tokT, ren, liveInj, r_lk, r_lkN, r_lkB, r_lkN0, I, B, D, withV_some, mkO]
              · refine le_tok2 (by decide) ?_ ?_ ?_ ?_ <;> simp [intRow, ownSV, ownL, leSlots, lv_dat, lv_tok, lv_ptr, lv_rp, lv_undef, leBoxes, leTags, leLive, tokM, tokB, tokT, ren, liveInj, r_lk, r_lkN, r_lkB, r_lkN0, I, B, D, withV_some, hEe, busTo, mkO]
            · intro _ _
              have n0 : ({ tabPre l with extend := 0, budget := 0, start := 0, revert := 0, least := 0, share := 0 } : Tb).Ln := ⟨phTo_len l _, confTo_len _, tabPre_flash l⟩
              have n1 : ({ tabPre l with budget := 0, start := 0, revert := 0, least := 0, share := 0 } : Tb).Ln := ⟨phTo_len l _, confTo_len _, tabPre_flash l⟩
              have n2 : ({ tabPre l with start := 0, revert := 0, least := 0, share := 0 } : Tb).Ln := ⟨phTo_len l _, confTo_len _, tabPre_flash l⟩
              have n3 : ({ tabPre l with revert := 0, least := 0, share := 0 } : Tb).Ln := ⟨phTo_len l _, confTo_len _, tabPre_flash l⟩
              have n4 : ({ tabPre l with least := 0, share := 0 } : Tb).Ln := ⟨phTo_len l _, confTo_len _, tabPre_flash l⟩
              have n5 : ({ tabPre l with share := 0 } : Tb).Ln := ⟨phTo_len l _, confTo_len _, tabPre_flash l⟩
              have s0 : setCells ({ tabPre l with extend := 0, budget := 0, start := 0, revert := 0, least := 0, share := 0 } : Tb).cells 116 [AV.int .i64 (frm l 178 12)] = ({ tabPre l with budget := 0, start := 0, revert := 0, least := 0, share := 0 } : Tb).cells := (n0.set_nums (frm l 178 12)).1
              have s1 : setCells ({ tabPre l with budget := 0, start := 0, revert := 0, least := 0, share := 0 } : Tb).cells 117 [AV.int .i64 (frm l 179 40)] = ({ tabPre l with start := 0, revert := 0, least := 0, share := 0 } : Tb).cells := (n1.set_nums (frm l 179 40)).2.1
              have s2 : setCells ({ tabPre l with start := 0, revert := 0, least := 0, share := 0 } : Tb).cells 118 [AV.int .i64 (frm l 180 8)] = ({ tabPre l with revert := 0, least := 0, share := 0 } : Tb).cells := (n2.set_nums (frm l 180 8)).2.2.1
              have s3 : setCells ({ tabPre l with revert := 0, least := 0, share := 0 } : Tb).cells 119 [AV.int .i64 (frm l 181 8)] = ({ tabPre l with least := 0, share := 0 } : Tb).cells := (n3.set_nums (frm l 181 8)).2.2.2.1
              have s4 : setCells ({ tabPre l with least := 0, share := 0 } : Tb).cells 120 [AV.int .i64 (frm l 182 12)] = ({ tabPre l with share := 0 } : Tb).cells := (n4.set_nums (frm l 182 12)).2.2.2.2
              have s5 : setCells ({ tabPre l with share := 0 } : Tb).cells 130 [AV.int .i64 (frm l 183 4)] = (tabPre l).cells := (n5.set_last (frm l 183 4)).2
              have k0 := n0.len
              have k1 := n1.len
              have k2 := n2.len
              have k3 := n3.len
              have k4 := n4.len
              have k5 := n5.len
              rw [hFe]
              generalize ({ tabPre l with extend := 0, budget := 0, start := 0, revert := 0, least := 0, share := 0 } : Tb) = T0 at *
              generalize ({ tabPre l with budget := 0, start := 0, revert := 0, least := 0, share := 0 } : Tb) = T1 at *
              generalize ({ tabPre l with start := 0, revert := 0, least := 0, share := 0 } : Tb) = T2 at *
              generalize ({ tabPre l with revert := 0, least := 0, share := 0 } : Tb) = T3 at *
              generalize ({ tabPre l with least := 0, share := 0 } : Tb) = T4 at *
              generalize ({ tabPre l with share := 0 } : Tb) = T5 at *
              have c0 : 117 ≤ T0.cells.length := by omega
              have c1 : 118 ≤ T1.cells.length := by omega
              have c2 : 119 ≤ T2.cells.length := by omega
              have c3 : 120 ≤ T3.cells.length := by omega
              have c4 : 121 ≤ T4.cells.length := by omega
              have c5 : 131 ≤ T5.cells.length := by omega
              try simp only [I, B, D, RW, ↓ KW, fillA, stTags, flat, Nat.reduceBEq, Nat.reduceAdd, Nat.reduceLeDiff, Int.reduceNe, Int.reduceBEq, Int.reduceEq, reduceCtorEq, Nat.reduceMul, Int.reduceLT, Int.reduceLE, Int.reduceToNat]
              refine call_is (hF _ _ _ (by decide)) ?_
              try simp only [I, B, D, RW, ↓ KW, fillA, stTags, flat, Nat.reduceBEq, Nat.reduceAdd, Nat.reduceLeDiff, Int.reduceNe, Int.reduceBEq, Int.reduceEq, reduceCtorEq, Nat.reduceMul, Int.reduceLT, Int.reduceLE, Int.reduceToNat, s0, s1, s2, s3, s4, s5, c0, c1, c2, c3, c4, c5]
              refine call_is (hF _ _ _ (by decide)) ?_
              try simp only [I, B, D, RW, ↓ KW, fillA, stTags, flat, Nat.reduceBEq, Nat.reduceAdd, Nat.reduceLeDiff, Int.reduceNe, Int.reduceBEq, Int.reduceEq, reduceCtorEq, Nat.reduceMul, Int.reduceLT, Int.reduceLE, Int.reduceToNat, s0, s1, s2, s3, s4, s5, c0, c1, c2, c3, c4, c5]
              refine call_is (hF _ _ _ (by decide)) ?_
              try simp only [I, B, D, RW, ↓ KW, fillA, stTags, flat, Nat.reduceBEq, Nat.reduceAdd, Nat.reduceLeDiff, Int.reduceNe, Int.reduceBEq, Int.reduceEq, reduceCtorEq, Nat.reduceMul, Int.reduceLT, Int.reduceLE, Int.reduceToNat, s0, s1, s2, s3, s4, s5, c0, c1, c2, c3, c4, c5]
              refine call_is (hF _ _ _ (by decide)) ?_
              try simp only [I, B, D, RW, ↓ KW, fillA, stTags, flat, Nat.reduceBEq, Nat.reduceAdd, Nat.reduceLeDiff, Int.reduceNe, Int.reduceBEq, Int.reduceEq, reduceCtorEq, Nat.reduceMul, Int.reduceLT, Int.reduceLE, Int.reduceToNat, s0, s1, s2, s3, s4, s5, c0, c1, c2, c3, c4, c5]
              refine call_is (hF _ _ _ (by decide)) ?_
              try simp only [I, B, D, RW, ↓ KW, fillA, stTags, flat, Nat.reduceBEq, Nat.reduceAdd, Nat.reduceLeDiff, Int.reduceNe, Int.reduceBEq, Int.reduceEq, reduceCtorEq, Nat.reduceMul, Int.reduceLT, Int.reduceLE, Int.reduceToNat, s0, s1, s2, s3, s4, s5, c0, c1, c2, c3, c4, c5]
              refine call_is (hF _ _ _ (by decide)) ?_
              try simp only [I, B, D, RW, ↓ KW, fillA, stTags, flat, Nat.reduceBEq, Nat.reduceAdd, Nat.reduceLeDiff, Int.reduceNe, Int.reduceBEq, Int.reduceEq, reduceCtorEq, Nat.reduceMul, Int.reduceLT, Int.reduceLE, Int.reduceToNat, s0, s1, s2, s3, s4, s5, c0, c1, c2, c3, c4, c5]
              have hT : tableOf l = tabW l (if railTo t1 l N r r.toNat = [] then 0 else winTo (tabPre l) N) := hTab
              have hW0 : tabPre l = tabW l (if railTo t1 l N r r.toNat = [] then 0 else winTo (tabPre l) 0) := by
                have : (if railTo t1 l N r r.toNat = [] then (0 : Int) else winTo (tabPre l) 0) = 0 := by split <;> rfl
                rw [this]; rfl
              replace hW0 := congrArg Tb.cells hW0
              generalize railTo t1 l N r r.toNat = R at *
              refine aw_cut (.exit 12) (fun _ : Unit => (⟨[(3, .ptr 5 0), (2, .ptr 4 0)], [(5, ⟨(tableOf l).cells, []⟩), (4, ⟨Tb0.cells, []⟩)], [], 400⟩ : S)) (fun _ => True) (fun _ => rfl) ?_ ?_
              · refine aw_loop' (fun k : Nat => (⟨[(12, .dat (I k) none), (4, .dat (I N) none), (3, .ptr 5 0), (2, .ptr 4 0)], [(5, ⟨(tabW l (if R = [] then 0 else winTo (tabPre l) k)).cells, []⟩), (4, ⟨Tb0.cells, []⟩)], [], 400⟩ : S)) (fun k => N - k) (fun k => k ≤ N ∧ (R = [] → k = 0)) ?_ 0 (by simp) ?_
                · intro k ⟨hk, hR0⟩ A back
                  have hw3 := wrap_succ (k := k) (by omega)
                  have hwt : ∀ w, waitI (tabW l w) k = waitI (tabPre l) k := fun _ => rfl
                  have hnx : winTo (tabPre l) (k + 1) = if waitI (tabPre l) k > winTo (tabPre l) k then waitI (tabPre l) k else winTo (tabPre l) k := rfl
                  generalize hwv : (if R = [] then (0 : Int) else winTo (tabPre l) k) = wv at *
                  have okW : (tabW l wv).Ok := ok_of rfl (phTo_len l _) (confTo_len _) (tabPre_flash l) (tabPre_dets l) (tabPre_rails l) (by have := frm_range l 177 (n := 3) (by decide) (by decide); simp only [tabW, tabPre, mkO_getD, busTo_len]; omega)
                  have ln := okW.ln
                  have hln := ln.len
                  have hwh := ln.whole
                  have hat := ln.at114
                  have hat2 := ln.at129
                  have hrr : (tabW l wv).rails = mkO R := hRl
                  have hww : (tabW l wv).window = wv := rfl
                  rw [hrr] at hat
                  rw [hww] at hat2
                  have hset : setCells (tabW l wv).cells 129 [AV.int .i64 (if waitI (tabPre l) k > wv then waitI (tabPre l) k else wv)] = (tabW l (if waitI (tabPre l) k > wv then waitI (tabPre l) k else wv)).cells := (ln.set_last _).1
                  have hmk := mkO_getD R
                  try simp only [I, B, D, RW, ↓ KW, fillA, stTags, flat, Nat.reduceBEq, Nat.reduceAdd, Nat.reduceLeDiff, Int.reduceNe, Int.reduceBEq, Int.reduceEq, reduceCtorEq, Nat.reduceMul, Int.reduceLT, Int.reduceLE, Int.reduceToNat]
                  repeat' (first | (refine gd_split (fun h => ?_) (fun h => ?_) <;> try simp only [I, B, D, RW, ↓ KW, fillA, stTags, flat, Nat.reduceBEq, Nat.reduceAdd, Nat.reduceLeDiff, Int.reduceNe, Int.reduceBEq, Int.reduceEq, reduceCtorEq, Nat.reduceMul, Int.reduceLT, Int.reduceLE, Int.reduceToNat, hat, hmk, h]) | (refine cd_split (fun h => ?_) (fun h => ?_) <;> try simp only [I, B, D, RW, ↓ KW, fillA, stTags, flat, Nat.reduceBEq, Nat.reduceAdd, Nat.reduceLeDiff, Int.reduceNe, Int.reduceBEq, Int.reduceEq, reduceCtorEq, Nat.reduceMul, Int.reduceLT, Int.reduceLE, Int.reduceToNat, hat, hmk, h]) | (refine pk_split (fun h => ?_) (fun h => ?_) <;> try simp only [I, B, D, RW, ↓ KW, fillA, stTags, flat, Nat.reduceBEq, Nat.reduceAdd, Nat.reduceLeDiff, Int.reduceNe, Int.reduceBEq, Int.reduceEq, reduceCtorEq, Nat.reduceMul, Int.reduceLT, Int.reduceLE, Int.reduceToNat, hat, hmk, h]))
                  · have hRl0 := of_decide_eq_true h
                    have hkN : (k : Int) < N := by rename_i h1; exact of_decide_eq_true h1
                    have hne : R ≠ [] := by intro e; rw [e] at hRl0; simp at hRl0
                    rw [if_neg hne] at hwv
                    subst hwv
                    rw [← hnx] at hset
                    try simp only [I, B, D, RW, ↓ KW, fillA, stTags, flat, Nat.reduceBEq, Nat.reduceAdd, Nat.reduceLeDiff, Int.reduceNe, Int.reduceBEq, Int.reduceEq, reduceCtorEq, Nat.reduceMul, Int.reduceLT, Int.reduceLE, Int.reduceToNat, hat2, hwh]
                    refine call_is (hw _ _ okW) ?_
                    try simp only [I, B, D, RW, ↓ KW, fillA, stTags, flat, Nat.reduceBEq, Nat.reduceAdd, Nat.reduceLeDiff, Int.reduceNe, Int.reduceBEq, Int.reduceEq, reduceCtorEq, Nat.reduceMul, Int.reduceLT, Int.reduceLE, Int.reduceToNat, hwt, ← hnx, hset, gt_iff_lt]
                    refine ⟨by omega, ?_⟩
                    refine back (k + 1) _ ⟨by omega, fun e => absurd e hne⟩ (by omega) ?_
                    refine le_tok2 (by decide) ?_ ?_ ?_ ?_ <;> simp [intRow, ownSV, ownL, leSlots, lv_dat, lv_tok, lv_ptr, lv_rp, lv_undef, leBoxes, leTags, leLive, tokM, tokB, tokT, ren, liveInj, r_lk, r_lkN, r_lkB, r_lkN0, I, B, D, withV_some, hne, hw3]
                  · have hRl0 := of_decide_eq_false h
                    have hR0' : R = [] := List.eq_nil_of_length_eq_zero (by omega)
                    rw [if_pos hR0'] at hwv hT
                    subst hwv
                    refine cut_at () trivial ?_
                    refine le_tok2 (by decide) ?_ ?_ ?_ ?_ <;> simp [intRow, ownSV, ownL, leSlots, lv_dat, lv_tok, lv_ptr, lv_rp, lv_undef, leBoxes, leTags, leLive, tokM, tokB, tokT, ren, liveInj, r_lk, r_lkN, r_lkB, r_lkN0, I, B, D, withV_some, hT]
                  · have hkN : k = N := by have := of_decide_eq_false h; omega
                    rw [← hkN, hwv] at hT
                    refine cut_at () trivial ?_
                    refine le_tok2 (by decide) ?_ ?_ ?_ ?_ <;> simp [intRow, ownSV, ownL, leSlots, lv_dat, lv_tok, lv_ptr, lv_rp, lv_undef, leBoxes, leTags, leLive, tokM, tokB, tokT, ren, liveInj, r_lk, r_lkN, r_lkB, r_lkN0, I, B, D, withV_some, hT]
                · refine le_tok2 (by decide) ?_ ?_ ?_ ?_ <;> simp [intRow, ownSV, ownL, leSlots, lv_dat, lv_tok, lv_ptr, lv_rp, lv_undef, leBoxes, leTags, leLive, tokM, tokB, tokT, ren, liveInj, r_lk, r_lkN, r_lkB, r_lkN0, I, B, D, withV_some, hW0]
              · intro _ _
                have okZ : (tableOf l).Ok := tableOf_ok l
                have hlz := okZ.ln.len
                have hwz := okZ.ln.whole
                have hl0 := ok0.ln.len
                have hsz : setCells Tb0.cells 0 (tableOf l).cells = (tableOf l).cells := set_all (by omega)
                try simp only [I, B, D, RW, ↓ KW, fillA, stTags, flat, Nat.reduceBEq, Nat.reduceAdd, Nat.reduceLeDiff, Int.reduceNe, Int.reduceBEq, Int.reduceEq, reduceCtorEq, Nat.reduceMul, Int.reduceLT, Int.reduceLE, Int.reduceToNat, hwz, hlz, hl0, hsz]
end
end Go.Eng
namespace Go.Eng
set_option linter.unusedVariables false
set_option linter.unusedSimpArgs false
set_option linter.unnecessarySimpa false
open Go
set_option linter.unusedVariables false
set_option linter.unusedSimpArgs false
set_option maxRecDepth 10000
set_option maxHeartbeats 4000000
def bv (s : Int) : BitVec 64 := BitVec.ofInt 64 s
def tb (s : Int) (i : Nat) : Bool := (bv s).getLsbD i
theorem wrap_mod (n : Int) : IntKind.i64.wrap n % 18446744073709551616 = n % 18446744073709551616 := by
  simp only [IntKind.wrap, IntKind.bits, IntKind.signed]
  simp
  split <;> omega
theorem bv_wrap (n : Int) : bv (IntKind.i64.wrap n) = bv n := by
  unfold bv
  apply BitVec.eq_of_toNat_eq
  have := wrap_mod n
  simp only [BitVec.toNat_ofInt]
  have e : ((2 ^ 64 : Nat) : Int) = 18446744073709551616 := by decide
  rw [e, this]
theorem bv_nat (b : BitVec 64) : bv (b.toNat : Int) = b := by
  unfold bv
  rw [BitVec.ofInt_natCast]; simp
theorem bv_or (x y : Int) : bv (bOr .i64 x y) = bv x ||| bv y := by
  simp only [bOr, bv_wrap]; exact bv_nat _
theorem wrap_zero {b : BitVec 64} : IntKind.i64.wrap (b.toNat : Int) = 0 ↔ b = 0 := by
  constructor
  · intro h
    have := wrap_mod (b.toNat : Int)
    rw [h] at this
    have h2 := b.isLt
    apply BitVec.eq_of_toNat_eq
    simp only [BitVec.toNat_zero, BitVec.ofNat_eq_ofNat] at *
    omega
  · rintro rfl; decide
theorem and_zero {x y : Int} : bAnd .i64 x y = 0 ↔ ∀ i, i < 64 → (tb x i && tb y i) = false := by
  rw [show bAnd .i64 x y = IntKind.i64.wrap ((bv x &&& bv y).toNat : Int) from rfl, wrap_zero]
  constructor
  · intro h i hi; have := congrArg (fun b => b.getLsbD i) h; simpa [tb] using this
  · intro h; apply BitVec.eq_of_getLsbD_eq; intro i hi; simpa [tb] using h i hi
theorem tb_or (x y : Int) (i : Nat) : tb (bOr .i64 x y) i = (tb x i || tb y i) := by simp [tb, bv_or]
theorem tb_zero (i : Nat) : tb 0 i = false := by simp [tb, bv]
theorem tb_pow {p : Nat} (hp : p < 8) (i : Nat) : tb (2 ^ p) i = decide (i = p) := by
  have e : bv (2 ^ p) = BitVec.twoPow 64 p := by
    have : p = 0 ∨ p = 1 ∨ p = 2 ∨ p = 3 ∨ p = 4 ∨ p = 5 ∨ p = 6 ∨ p = 7 := by omega
    rcases this with rfl | rfl | rfl | rfl | rfl | rfl | rfl | rfl <;> rfl
  simp only [tb, e, BitVec.getLsbD_twoPow]
  by_cases h : i = p <;> simp [h]
  · omega
  · omega
theorem tb_bit {p : Nat} (hp : p < 8) (i : Nat) : tb (bitI p) i = decide (i = p) := by
  have : bitI p = 2 ^ p := by simp [bitI]; omega
  rw [this, tb_pow hp]
theorem hasS_tb {s : Int} {p : Nat} (hp : p < 8) : hasS s p = tb s p := by
  have h : hasS s p = !(bAnd .i64 s (bitI p) == 0) := rfl
  rw [h]
  cases ht : tb s p with
  | true =>
    have : ¬ bAnd .i64 s (bitI p) = 0 := by
      rw [and_zero]; intro h; have := h p (by omega); rw [ht, tb_bit hp] at this; simp at this
    simp [this]
  | false =>
    have : bAnd .i64 s (bitI p) = 0 := by
      rw [and_zero]; intro i _
      by_cases hi : i = p
      · subst hi; rw [ht]; rfl
      · rw [tb_bit hp]; simp [hi]
    simp [this]
theorem tb_ofTo (l : List Int) : ∀ k, k ≤ 8 → ∀ i, tb (ofTo l k) i = (decide (i < k) && decide ((i : Int) ∈ l))
  | 0, _, i => by simp [ofTo, tb_zero]
  | k + 1, h, i => by
    have ih := tb_ofTo l k (by omega) i
    simp only [ofTo]
    split
    · rename_i hk
      rw [tb_or, ih, tb_pow (by omega)]
      by_cases e : i = k
      · subst e; simp [hk]
      · have : (i < k + 1) ↔ i < k := by omega
        simp [e, this]
    · rename_i hk
      rw [ih]
      by_cases e : i = k
      · subst e; simp [hk]
      · have : (i < k + 1) ↔ i < k := by omega
        simp [this]
theorem tb_of (l : List Int) (i : Nat) : tb (ofI l) i = (decide (i < 8) && decide ((i : Int) ∈ l)) := tb_ofTo l 8 (by omega) i
theorem tb_num (s : Int) {p : Nat} (hp : p < 64) : tb s p = decide (s.fdiv (2 ^ p) % 2 = 1) := by
  have e : (bv s).toNat = (s % 18446744073709551616).toNat := by
    simp only [bv, BitVec.toNat_ofInt]; rfl
  have h1 : tb s p = (bv s).toNat.testBit p := rfl
  rw [h1, e, Nat.testBit_eq_decide_div_mod_eq]
  congr 1
  have hf : s.fdiv (2 ^ p) = s / 2 ^ p := Int.fdiv_eq_ediv_of_nonneg _ (Int.le_of_lt (Int.pow_pos (by decide)))
  rw [hf, eq_iff_iff]
  have h0 : 0 ≤ s % 18446744073709551616 := Int.emod_nonneg _ (by decide)
  have hc : (((s % 18446744073709551616).toNat / 2 ^ p % 2 : Nat) : Int) = (s % 18446744073709551616) / 2 ^ p % 2 := by
    push_cast [Int.toNat_of_nonneg h0]; rfl
  have key : (s % 18446744073709551616) / 2 ^ p % 2 = s / 2 ^ p % 2 := by
    have hpw : (18446744073709551616 : Int) = 2 ^ p * (2 * 2 ^ (63 - p)) := by
      rw [show (2 : Int) ^ p * (2 * 2 ^ (63 - p)) = 2 ^ (p + (1 + (63 - p))) by rw [Int.pow_add, Int.pow_add]; rfl, show p + (1 + (63 - p)) = 64 by omega]; rfl
    have h2 : s = s % 18446744073709551616 + 2 ^ p * (2 * 2 ^ (63 - p) * (s / 18446744073709551616)) := by
      have := Int.emod_add_mul_ediv s 18446744073709551616
      rw [← Int.mul_assoc, ← Int.mul_assoc, Int.mul_assoc (2 ^ p), ← hpw]; omega
    conv => rhs; rw [h2]
    rw [Int.add_mul_ediv_left _ _ (Int.ne_of_gt (Int.pow_pos (by decide))), Int.mul_assoc, Int.add_mul_emod_self_left]
  rw [← key, ← hc]
  omega
theorem bAnd_one (x : Int) : bAnd .i64 x 1 = if tb x 0 then 1 else 0 := by
  have e : bAnd .i64 x 1 = IntKind.i64.wrap ((bv x &&& 1#64).toNat : Int) := rfl
  have e2 : bv x &&& 1#64 = if tb x 0 then 1#64 else 0#64 := by
    apply BitVec.eq_of_getLsbD_eq
    intro i hi
    simp only [BitVec.getLsbD_and, BitVec.getLsbD_one]
    by_cases h : i = 0
    · subst h; cases hx : tb x 0 <;> simp [tb] at hx ⊢ <;> simp [hx]
    · split <;> simp [h, BitVec.getLsbD_one]
  rw [e, e2]; split <;> decide
theorem hasR_tb {s : Int} {p : Nat} (hp : p < 8) : hasR s p = tb s p := by
  have h1 : tb (s.fdiv (2 ^ p)) 0 = tb s p := by
    rw [tb_num _ (by omega), tb_num _ (by omega)]
    simp
  simp only [hasR, Int.toNat_natCast, bAnd_one, h1]
  have : (p : Int) < 8 := by omega
  cases tb s p <;> simp [this]
theorem tb_onTo (t : Tb) (i : Nat) : tb (onI t) i = (decide (i < 8) && (phAt t i).on) := by
  rw [onI, tb_of]
  by_cases h : i < 8
  · have : ((i : Int) ∈ onTo t 8) ↔ (phAt t i).on = true := by
      simp only [onTo, List.mem_filter, List.mem_map, List.mem_range]
      exact ⟨fun h => h.2, fun h' => ⟨⟨i, h, rfl⟩, h'⟩⟩
    simp [h, this]
  · simp [h]
end Go.Eng
namespace Go.Eng
set_option linter.unusedVariables false
set_option linter.unusedSimpArgs false
set_option linter.unnecessarySimpa false
open Go
set_option linter.unusedVariables false
def cc_ref01_More (f_ref01_Cut : Nat) : CFn := ⟨6, [.tmp 2],
  .seq (.reg [
    ⟨(some 2), .mv (.k (.int .i64 0)), none⟩])
  (.seq (.reg [
    ⟨(some 3), .mv (.t 0), none⟩,
    ⟨(some 4), .call f_ref01_Cut [(.t 3), (.k (.int .i64 0)), (.k (.int .i64 9999))], none⟩,
    ⟨(some 5), .bin .add (.t 4) (.k (.int .i64 1)), none⟩,
    ⟨(some 2), .mv (.t 5), none⟩])
  (.ret))⟩
def cc_law00_Clash (f_ref01_Has : Nat) : CFn := ⟨21, [.tmp 6],
  .seq (.reg [
    ⟨(some 3), .box (.t 0), none⟩,
    ⟨(some 6), .mv (.k (.bool false)), none⟩])
  (.seq (.reg [
    ⟨(some 7), .mv (.t 1), none⟩,
    ⟨(some 8), .fa (.t 3) 105, none⟩,
    ⟨(some 9), .iaA (.t 8) (.t 7) 8 1, none⟩,
    ⟨(some 10), .ld (.t 9) none, none⟩,
    ⟨(some 11), .mv (.t 2), none⟩,
    ⟨(some 12), .call f_ref01_Has [(.t 10), (.t 11)], none⟩,
    ⟨(some 13), .mv (.t 12), none⟩,
    ⟨(some 14), .mv (.t 2), (some (13, false))⟩,
    ⟨(some 15), .fa (.t 3) 105, (some (13, false))⟩,
    ⟨(some 16), .iaA (.t 15) (.t 14) 8 1, (some (13, false))⟩,
    ⟨(some 17), .ld (.t 16) none, (some (13, false))⟩,
    ⟨(some 18), .mv (.t 1), (some (13, false))⟩,
    ⟨(some 19), .call f_ref01_Has [(.t 17), (.t 18)], (some (13, false))⟩,
    ⟨(some 20), .pick (.t 13) (.k (.bool true)) (.t 19), none⟩,
    ⟨(some 6), .mv (.t 20), none⟩])
  (.ret))⟩
end Go.Eng
namespace Go.Eng
set_option linter.unusedVariables false
set_option linter.unusedSimpArgs false
set_option linter.unnecessarySimpa false
open Go
set_option linter.unusedVariables false
set_option linter.unusedSimpArgs false
set_option maxRecDepth 10000
set_option maxHeartbeats 4000000
structure Sh where
  colour : List Int
  time : List Int
  foot : List Int
  ftime : List Int
  entry : Bool
  deriving Inhabited, DecidableEq
def Sh.cells (s : Sh) : List AV := s.colour.map I ++ (s.time.map I ++ (s.foot.map I ++ (s.ftime.map I ++ [B s.entry])))
structure Sh.Ok (s : Sh) : Prop where
  colour : s.colour.length = 8
  time : s.time.length = 8
  foot : s.foot.length = 8
  ftime : s.ftime.length = 8
def Sh.c (s : Sh) (p : Nat) : Int := s.colour.getD p 0
def Sh.t (s : Sh) (p : Nat) : Int := s.time.getD p 0
def Sh.f (s : Sh) (p : Nat) : Int := s.foot.getD p 0
theorem Sh.len {s : Sh} (h : s.Ok) : s.cells.length = 33 := by simp [Sh.cells, h.colour, h.time, h.foot, h.ftime]
theorem Sh.whole {s : Sh} (h : s.Ok) : partA s.cells 0 (some 33) = some (.agg s.cells) := by
  have := Sh.len h
  simp [partA, this]
  rw [← this, List.take_length]
structure StOk (t : Tb) (a b : Sh) : Prop where
  t : t.Ln
  a : a.Ok
  b : b.Ok
theorem Tb.Ln.ph_get {t : Tb} (h : t.Ln) {k : Nat} (hk : k < 8) : t.phases[k]? = some (phAt t k) := by
  have : k < t.phases.length := by rw [h.phases]; exact hk
  simp [phAt, this]
def conAt (t : Tb) (p : Nat) : Int := t.conflict.getD p 0
theorem Tb.Ln.con_at {t : Tb} (h : t.Ln) {p : Nat} (hp : p < 8) : t.cells[105 + p]? = some (I (conAt t p)) := by
  refine h.conflict_at ?_
  have : p < t.conflict.length := by rw [h.conflict]; exact hp
  simp [conAt, this]
def moreE (n : Int) : Int := IntKind.i64.wrap (cutI n 0 9999 + 1)
def refMore.Spec (C : Con) (f : Nat) : Prop := ∀ n : Int, C.c f [I n] (I (moreE n)) none
theorem e_neF (b : Bool) : (b != false) = b := by cases b <;> rfl
section
variable {P : Program} (hm : P.follows .mixedOrders = true) {f : Nat}
include hm
theorem refMore.ok {fC : Nat} (hc : cFn P f = some (cc_ref01_More fC)) (hC : Cut.Spec (Pure P) fC) : refMore.Spec (Pure P) f := by
  intro n
  refine pure_of hm hc (by show 1 ≤ 6; decide) (aw_flat (keep := []) (i := 0) ?_)
  try simp only [I, B, D, RW, ↓ KW, fillA, setCells, stTags, flat, Nat.reduceBEq, Nat.reduceAdd, Nat.reduceLeDiff, Int.reduceNe, Int.reduceBEq, Int.reduceEq, reduceCtorEq, Nat.reduceMul, Int.reduceLT, Int.reduceLE, Int.reduceToNat, cc_ref01_More]
  refine call_is (hC n 0 9999) ?_
  try simp only [I, B, D, RW, ↓ KW, fillA, setCells, stTags, flat, Nat.reduceBEq, Nat.reduceAdd, Nat.reduceLeDiff, Int.reduceNe, Int.reduceBEq, Int.reduceEq, reduceCtorEq, Nat.reduceMul, Int.reduceLT, Int.reduceLE, Int.reduceToNat]
  rfl
end
end Go.Eng
