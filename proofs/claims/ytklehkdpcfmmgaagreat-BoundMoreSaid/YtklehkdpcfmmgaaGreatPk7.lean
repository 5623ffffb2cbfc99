/- The engine and the library, part 7 of 7: what the proofs of this seat need of them. -/
import Derived.Test.YtklehkdpcfmmgaaGreatPk6
namespace Go.Eng
set_option linter.unusedVariables false
set_option linter.unusedSimpArgs false
set_option linter.unnecessarySimpa false
open Go
set_option linter.unusedVariables false
set_option linter.unusedSimpArgs false
set_option maxRecDepth 10000
set_option maxHeartbeats 4000000
def bnC (w e : Nat → Int) : List AV := (List.range 8).map (fun p => I (w p)) ++ (List.range 4).map (fun k => I (e k))
theorem bn_zero : bnC (fun _ => 0) (fun _ => 0) = z12_71526 := rfl
theorem bn_len (w e : Nat → Int) : (bnC w e).length = 12 := rfl
theorem bn_full (w e : Nat → Int) : setCells z12_71526 0 (bnC w e) = bnC w e := rfl
theorem bn_take (w e : Nat → Int) : (bnC w e).take 12 = bnC w e := rfl
theorem bn_whole (w e : Nat → Int) : partA (bnC w e) 0 (some 12) = some (.agg (bnC w e)) := rfl
theorem bn_w (w e : Nat → Int) {p : Nat} (hp : p < 8) : (bnC w e)[p]? = some (I (w p)) := by
  have : p = 0 ∨ p = 1 ∨ p = 2 ∨ p = 3 ∨ p = 4 ∨ p = 5 ∨ p = 6 ∨ p = 7 := by omega
  rcases this with rfl | rfl | rfl | rfl | rfl | rfl | rfl | rfl <;> rfl
theorem bn_e (w e : Nat → Int) {k : Nat} (hk : k < 4) : (bnC w e)[8 + k]? = some (I (e k)) := by
  have : k = 0 ∨ k = 1 ∨ k = 2 ∨ k = 3 := by omega
  rcases this with rfl | rfl | rfl | rfl <;> rfl
theorem bn_setw (w e : Nat → Int) {p : Nat} (hp : p < 8) (v : Int) : setCells (bnC w e) p [I v] = bnC (fun q => if q = p then v else w q) e := by
  have : p = 0 ∨ p = 1 ∨ p = 2 ∨ p = 3 ∨ p = 4 ∨ p = 5 ∨ p = 6 ∨ p = 7 := by omega
  rcases this with rfl | rfl | rfl | rfl | rfl | rfl | rfl | rfl <;> rfl
theorem bn_sete (w e : Nat → Int) {k : Nat} (hk : k < 4) (v : Int) : setCells (bnC w e) (8 + k) [I v] = bnC w (fun q => if q = k then v else e q) := by
  have : k = 0 ∨ k = 1 ∨ k = 2 ∨ k = 3 := by omega
  rcases this with rfl | rfl | rfl | rfl <;> rfl
theorem bn_ext {w w' e e' : Nat → Int} (h : ∀ p, p < 8 → w p = w' p) (h2 : ∀ k, k < 4 → e k = e' k) : bnC w e = bnC w' e' := by
  simp only [bnC]
  congr 1
  · exact List.map_congr_left fun p hp => by rw [h p (List.mem_range.1 hp)]
  · exact List.map_congr_left fun k hk => by rw [h2 k (List.mem_range.1 hk)]
def bigW (t : Tb) (p : Nat) : Bool := decide (2147483647 ≤ waitI t p)
def bigE (t : Tb) (k : Nat) : Bool := decide (2147483647 ≤ entryI t k)
def nRl (t : Tb) : Nat := (t.rails.getD []).length
def allE (t : Tb) : List AV × Int × Int := if (checkE t).1 ≠ 0 then (z12_71526, checkE t) else
  match (setN (onI t)).find? (bigW t) with
  | some p => (z12_71526, 14, p)
  | none => match (List.range (nRl t)).find? (bigE t) with
    | some k => (z12_71526, 14, k)
    | none => if 0 < nRl t ∧ t.window < mostI ((setN (onI t)).map fun (p : Nat) => waitI t p) then (z12_71526, 15, 0) else (bnC (fun p => waitI t p) (fun k => entryI t k), 0, 0)
def bBad.Spec (C : Con) (f : Nat) : Prop := ∀ c a : Int, C.c f [I c, I a] (.tup [.agg z12_71526, .agg (fltC (c, a))]) none
def bAll.Spec (C : Con) (f : Nat) : Prop := ∀ t : Tb, t.Ok → t.Fw → t.Rw → nRl t ≤ 4 → C.c f [.agg t.cells] (.tup [.agg (allE t).1, .agg (fltC (allE t).2)]) none
def wtF (t : Tb) (i : Nat) (q : Nat) : Int := if q ∈ (setN (onI t)).take i then waitI t q else 0
def wtM (t : Tb) (i : Nat) : Int := mostI (((setN (onI t)).take i).map fun (p : Nat) => waitI t p)
theorem wt_next {t : Tb} {i p : Nat} (h : (setN (onI t))[i]? = some p) (e : Nat → Int) : bnC (fun q => if q = p then waitI t p else wtF t i q) e = bnC (wtF t (i + 1)) e := by
  refine bn_ext (fun q hq => ?_) (fun _ _ => rfl)
  simp only [wtF, take_next h, List.mem_append, List.mem_singleton]
  by_cases h1 : q = p
  · subst h1; simp
  · simp [h1]
theorem wtM_next {t : Tb} {i p : Nat} (h : (setN (onI t))[i]? = some p) : wtM t (i + 1) = (if waitI t p > wtM t i then waitI t p else wtM t i) := by
  have e : (((setN (onI t)).take (i + 1)).map fun (p : Nat) => waitI t p) = ((setN (onI t)).take i).map (fun (p : Nat) => waitI t p) ++ [waitI t p] := by rw [take_next h]; simp
  simp only [wtM, e, mostI, List.foldl_append, List.foldl_cons, List.foldl_nil]
  rfl
theorem wait_off {t : Tb} {p : Nat} (h8 : p < 8) (h : tb (onI t) p = false) : waitI t p = 0 := by
  have e : freeI t p = 0 := by rw [freeI, hasR_tb h8, h]; simp
  have : waitI t p = freeI t p := if_pos (.inl e)
  rw [this, e]
theorem entry_off {t : Tb} {k : Nat} (h : nRl t ≤ k) : entryI t k = 0 := if_pos (.inr (by simp only [nRl] at h; omega))
theorem wt_done (t : Tb) (e : Nat → Int) : bnC (wtF t (setN (onI t)).length) e = bnC (fun p => waitI t p) e := by
  refine bn_ext (fun q hq => ?_) (fun _ _ => rfl)
  simp only [wtF, List.take_length]
  split
  · rfl
  · rename_i hn
    exact (wait_off hq (by cases h : tb (onI t) q with | false => rfl | true => exact absurd (setN_mem hq h) hn)).symm
def enF (t : Tb) (i : Nat) (q : Nat) : Int := if q < i then entryI t q else 0
theorem en_next (t : Tb) (i : Nat) (w : Nat → Int) : bnC w (fun q => if q = i then entryI t i else enF t i q) = bnC w (enF t (i + 1)) := by
  refine bn_ext (fun _ _ => rfl) (fun q hq => ?_)
  simp only [enF]
  by_cases h1 : q = i
  · subst h1; simp
  · have : (q < i + 1) = (q < i) := by simp; omega
    simp [h1, this]
theorem en_done (t : Tb) (w : Nat → Int) : bnC w (enF t (nRl t)) = bnC w (fun k => entryI t k) := by
  refine bn_ext (fun _ _ => rfl) (fun q hq => ?_)
  simp only [enF]
  split
  · rfl
  · exact (entry_off (by omega)).symm
theorem wt_zero (t : Tb) : bnC (wtF t 0) (fun _ => 0) = z12_71526 := by
  rw [← bn_zero]; exact bn_ext (fun _ _ => if_neg (by simp)) (fun _ _ => rfl)
theorem wtM_zero (t : Tb) : wtM t 0 = 0 := rfl
theorem en_zero (t : Tb) (w : Nat → Int) : bnC w (enF t 0) = bnC w (fun _ => 0) := bn_ext (fun _ _ => rfl) (fun _ _ => if_neg (by omega))
theorem find_none {α : Type} {l : List α} {p : α → Bool} (h : ∀ x ∈ l, p x = false) : l.find? p = none := by
  rw [List.find?_eq_none]; intro x hx; simp [h x hx]
theorem find_congr {α : Type} {p q : α → Bool} : ∀ {l : List α}, (∀ x ∈ l, p x = q x) → l.find? p = l.find? q
  | [], _ => rfl
  | x :: l, h => by
    rw [List.find?_cons, List.find?_cons, h x List.mem_cons_self, find_congr (l := l) fun y hy => h y (List.mem_cons_of_mem _ hy)]
theorem find_on (t : Tb) : (setN (onI t)).find? (bigW t) = (List.range 8).find? (bigW t) := by
  rw [setN, List.find?_filter]
  refine find_congr fun p hp => ?_
  cases h : tb (onI t) p with
  | true => simp
  | false =>
    have := wait_off (List.mem_range.1 hp) h
    simp [bigW, this]
def wrF (t : Tb) (i : Nat) (q : Nat) : Int := if q < i then waitI t q else 0
theorem wr_next (t : Tb) (i : Nat) (e : Nat → Int) : bnC (fun q => if q = i then waitI t i else wrF t i q) e = bnC (wrF t (i + 1)) e := by
  refine bn_ext (fun q hq => ?_) (fun _ _ => rfl)
  simp only [wrF]
  by_cases h1 : q = i
  · subst h1; simp
  · have : (q < i + 1) = (q < i) := by simp; omega
    simp [h1, this]
theorem wr_zero (t : Tb) : bnC (wrF t 0) (fun _ => 0) = z12_71526 := by
  rw [← bn_zero]; exact bn_ext (fun _ _ => if_neg (by omega)) (fun _ _ => rfl)
theorem wr_done (t : Tb) : bnC (wrF t 8) (fun _ => 0) = bnC (fun p => waitI t p) (fun _ => 0) := bn_ext (fun _ hq => if_pos hq) (fun _ _ => rfl)
theorem big_on {t : Tb} {p : Nat} (h8 : p < 8) (h : bigW t p = true) : (phAt t p).on = true := by
  have hon : hasR (onI t) p = (phAt t p).on := by rw [hasR_tb h8, tb_onTo]; simp [h8]
  cases ht : tb (onI t) p with
  | true => rw [← hon, hasR_tb h8, ht]
  | false => have := wait_off h8 ht; simp [bigW, this] at h
theorem most_on (t : Tb) : mostI ((setN (onI t)).map fun (p : Nat) => waitI t p) = mostI ((List.range 8).map fun (p : Nat) => waitI t p) := by
  have go : ∀ l : List Nat, (∀ p ∈ l, p < 8) → mostI ((l.filter fun p => tb (onI t) p).map fun (p : Nat) => waitI t p) = mostI (l.map fun (p : Nat) => waitI t p) := by
    intro l
    induction l with
    | nil => intro _; rfl
    | cons x l ih =>
      intro h
      have ih := ih fun p hp => h p (List.mem_cons_of_mem _ hp)
      have hn := mostI_nn (l.map fun (p : Nat) => waitI t p)
      rw [List.filter_cons]
      cases hx : tb (onI t) x with
      | true => simp only [if_true, List.map_cons, mostI_cons, ih]
      | false =>
        have := wait_off (h x List.mem_cons_self) hx
        simp only [Bool.false_eq_true, if_false, List.map_cons, mostI_cons, ih, this]; omega
  exact go _ fun p hp => List.mem_range.1 hp
section
variable {P : Program} (hm : P.follows .mixedOrders = true) {f : Nat}
include hm
theorem bBad.ok (hc : cFn P f = some cc_bound_bad) : bBad.Spec (Pure P) f := by
  intro c a
  have hz : setCells z12_71526 0 z12_71526 = z12_71526 := rfl
  have hzl : z12_71526.length = 12 := rfl
  have hzt : z12_71526.take 12 = z12_71526 := rfl
  refine pure_of hm hc (by show 2 ≤ 10; decide) (aw_flat (keep := []) (i := 0) ?_)
  try simp only [I, B, D, RY, ↓ KW, seval, cc_bound_bad, Z.H, hz, hzl, hzt]
  try simp only [I, B, D, RY, ↓ KW, seval, setCells, fltC, hzt]
theorem bAll.ok {fK fB fO fE fW fF fN : Nat} (hc : cFn P f = some (cc_bound_All fK fB fO fE fW fF fN)) (hK : check9.Spec (Pure P) fK) (hB : bBad.Spec (Pure P) fB) (hO : pOn.Spec (Pure P) fO) (hE : each27.Spec (Pure P) fE) (hW : bWait.Spec (Pure P) fW) (hF : satFull.Spec (Pure P) fF) (hN : entry.Spec (Pure P) fN) : bAll.Spec (Pure P) f := by
  intro t ht hfw hrw hr4
  have hw := ht.ln.whole
  have hl := ht.ln.len
  have hg := Tb.rails_at ht
  have h129 := ht.ln.at129
  have hz : setCells z12_71526 0 z12_71526 = z12_71526 := rfl
  have hzl : z12_71526.length = 12 := rfl
  have hzt : z12_71526.take 12 = z12_71526 := rfl
  have hs1 : ∀ a b : Int, setCells [AV.int .i64 a] 0 [AV.int .i64 b] = [AV.int .i64 b] := fun _ _ => rfl
  have hs2 : ∀ a b c d : Int, setCells [AV.int .i64 a, AV.int .i64 b] 0 [AV.int .i64 c, AV.int .i64 d] = [AV.int .i64 c, AV.int .i64 d] := fun _ _ _ _ => rfl
  have bz := bn_zero
  have c1 := hK t ht hfw
  rcases hck : checkE t with ⟨c, a⟩
  rw [hck] at c1
  refine pure_of hm hc (by show 1 ≤ 83; decide) (aw_flat (keep := []) (i := 0) ?_)
  try simp only [I, B, D, RY, ↓ KW, seval, cc_bound_All, Z.H, hw]
  refine call_is c1 ?_
  try simp only [I, B, D, RY, ↓ KW, seval, hw, hl, hz, hzl, hzt, hs1, hs2, hg, fltC]
  generalize hb : (c != 0) = b at *
  cases b
  rotate_left
  · have hx : allE t = (z12_71526, c, a) := by
      rw [allE, hck]; exact if_pos (by simpa using hb)
    try simp only [I, B, D, RY, ↓ KW, seval, hw, hl, hz, hzl, hzt, hs1, hs2, hg, fltC]
    refine call_is (hB _ _) ?_
    try simp only [I, B, D, RY, ↓ KW, seval, hw, hl, hz, hzl, hzt, hs1, hs2, hg, fltC]
    rw [hx]
  have hc0 : c = 0 := by simpa using hb
  have hx := show allE t = _ from if_neg (by rw [hck]; simp [hc0])
  try simp only [I, B, D, RY, ↓ KW, seval, hw, hl, hz, hzl, hzt, hs1, hs2, hg, fltC]
  refine call_is (hO t ht.ln) ?_
  try simp only [I, B, D, RY, ↓ KW, seval, hw, hl, hz, hzl, hzt, hs1, hs2, hg, fltC]
  obtain ⟨g, hgg, hi⟩ := hE (onI t)
  refine call_is hgg ?_
  try simp only [I, B, D, RY, ↓ KW, seval, hw, hl, hz, hzl, hzt, hs1, hs2, hg, fltC]
  refine aw_rfor' (fun i : Nat => (⟨[(23, .dat (.fn (.func g) [] [.ref [.int .i64 (onI t)]]) none), (1, .ptr 4 0), (5, .ptr 14 0), (2, .ptr 5 0), (3, .ptr 6 0), (6, .ptr 15 0)], [(15, ⟨[I (wtM t i)], []⟩), (14, ⟨bnC (wtF t i) (fun _ => 0), []⟩), (6, ⟨[I 0, I 0], []⟩), (5, ⟨z12_71526, []⟩), (4, ⟨t.cells, []⟩)], [], 400⟩ : S)) (fun i y => y = i ∧ ∀ q ∈ (setN (onI t)).take i, bigW t q = false) hi rfl (rows_len fun _ => rfl) (fun _ => rfl) ?_ ?_ 0 ⟨rfl, by simp⟩ ?_
  · rintro i0 x i hx' ⟨rfl, hno⟩ A back
    obtain ⟨q, hq, rfl⟩ := map_at hx'
    have hq : (setN (onI t))[i]? = some q := hq
    have h8 := setN_lt (List.mem_of_getElem? hq)
    have hy : 0 ≤ (q : Int) ∧ (q : Int) < 8 := by omega
    have hwn := wt_next hq (fun _ => 0)
    have hmn := wtM_next hq
    have b1 := bn_setw (wtF t i) (fun _ => 0) h8 (waitI t q)
    have b2 := bn_w (wtF t (i + 1)) (fun _ => 0) h8
    have b3 : wtF t (i + 1) q = waitI t q := if_pos (by rw [take_next hq]; simp)
    rw [hwn] at b1
    rw [b3] at b2
    try simp only [I, B, D, RY, ↓ KW, seval, hw, hl, hz, hzl, hzt, hs1, hs2, hg, fltC, hy, b1, b2, bn_len, bn_whole, bn_take, bn_full]
    refine call_is (hW t _ ht hrw) ?_
    try simp only [I, B, D, RY, ↓ KW, seval, hw, hl, hz, hzl, hzt, hs1, hs2, hg, fltC, hy, b1, b2, bn_len, bn_whole, bn_take, bn_full]
    refine ⟨by omega, ?_⟩
    refine call_is (hF _) ?_
    try simp only [I, B, D, RY, ↓ KW, seval, hw, hl, hz, hzl, hzt, hs1, hs2, hg, fltC, hy, b1, b2, bn_len, bn_whole, bn_take, bn_full]
    generalize hb2 : decide (2147483647 ≤ waitI t q) = b2 at *
    have hbw : bigW t q = b2 := hb2
    cases b2
    · try simp only [I, B, D, RY, ↓ KW, seval, hw, hl, hz, hzl, hzt, hs1, hs2, hg, fltC, hy, b1, b2, bn_len, bn_whole, bn_take, bn_full]
      refine back (i + 1) _ ⟨rfl, ?_⟩ ?_
      · rw [take_next hq]; intro z hz'
        rcases List.mem_append.1 hz' with h | h
        · exact hno z h
        · rw [List.mem_singleton.1 h]; exact hbw
      · refine le_tok2 (by decide) ?_ ?_ ?_ ?_ <;> simp [LX, I, B, D, hmn]
    · have : (setN (onI t)).find? (bigW t) = some q := find_at hq hbw hno
      simp only [this] at hx
      try simp only [I, B, D, RY, ↓ KW, seval, hw, hl, hz, hzl, hzt, hs1, hs2, hg, fltC, hy, b1, b2, bn_len, bn_whole, bn_take, bn_full]
      refine call_is (hB _ _) ?_
      try simp only [I, B, D, RY, ↓ KW, seval, hw, hl, hz, hzl, hzt, hs1, hs2, hg, fltC]
      rw [hx]
  · rintro i ⟨hyi, hno⟩
    have e : i = (setN (onI t)).length := by rw [hyi, List.length_map]; rfl
    rw [List.length_map] at hno
    replace hno : ∀ q ∈ setN (onI t), bigW t q = false := fun q hq => hno q (by
      show q ∈ (setN (onI t)).take (setN (onI t)).length
      rw [List.take_length]; exact hq)
    subst e
    have hnw : (setN (onI t)).find? (bigW t) = none := find_none hno
    have hd := wt_done t
    have hmd : wtM t (setN (onI t)).length = mostI ((setN (onI t)).map fun (p : Nat) => waitI t p) := by rw [wtM, List.take_length]
    rw [hmd, hd]
    simp only [hnw] at hx
    generalize mostI ((setN (onI t)).map fun (p : Nat) => waitI t p) = m at *
    try simp only [I, B, D, RY, ↓ KW, seval, hw, hl, hz, hzl, hzt, hs1, hs2, hg, fltC]
    refine aw_loop' (fun k : Nat => (⟨[(49, .dat (I k) none), (48, .dat (I (nRl t)) none), (1, .ptr 4 0), (5, .ptr 14 0), (2, .ptr 5 0), (3, .ptr 6 0), (6, .ptr 15 0)], [(15, ⟨[I m], []⟩), (14, ⟨bnC (fun p => waitI t p) (enF t k), []⟩), (6, ⟨[I 0, I 0], []⟩), (5, ⟨z12_71526, []⟩), (4, ⟨t.cells, []⟩)], [], 400⟩ : S)) (fun k => nRl t - k) (fun k => k ≤ nRl t ∧ ∀ q, q < k → bigE t q = false) ?_ 0 ⟨by omega, by omega⟩ ?_
    · rintro k ⟨hk, hno2⟩ A back
      have hwr := wrap_succ (k := k) (by omega)
      try simp only [I, B, D, RY, ↓ KW, seval]
      refine cd_split (fun h => ?_) (fun h => ?_) <;> try simp only [I, B, D, RY, ↓ KW, seval, h]
      · have hlt : k < nRl t := by have := of_decide_eq_true h; omega
        have hy : 0 ≤ (k : Int) ∧ (k : Int) < 4 := by omega
        have h4 : k < 4 := by omega
        have b1 := bn_sete (fun p => waitI t p) (enF t k) h4 (entryI t k)
        have b2 := bn_e (fun p => waitI t p) (enF t (k + 1)) h4
        have b3 : enF t (k + 1) k = entryI t k := if_pos (by omega)
        rw [en_next] at b1
        rw [b3] at b2
        try simp only [I, B, D, RY, ↓ KW, seval, hw, hl, hz, hzl, hzt, hs1, hs2, hg, fltC, hy, b1, b2, bn_len, bn_whole, bn_take, bn_full]
        refine call_is (hN t _ ht) ?_
        try simp only [I, B, D, RY, ↓ KW, seval, hw, hl, hz, hzl, hzt, hs1, hs2, hg, fltC, hy, b1, b2, bn_len, bn_whole, bn_take, bn_full]
        refine ⟨by omega, ?_⟩
        refine call_is (hF _) ?_
        try simp only [I, B, D, RY, ↓ KW, seval, hw, hl, hz, hzl, hzt, hs1, hs2, hg, fltC, hy, b1, b2, bn_len, bn_whole, bn_take, bn_full]
        generalize hb2 : decide (2147483647 ≤ entryI t k) = b2 at *
        have hbw : bigE t k = b2 := hb2
        cases b2
        · try simp only [I, B, D, RY, ↓ KW, seval, hw, hl, hz, hzl, hzt, hs1, hs2, hg, fltC, hy, b1, b2, bn_len, bn_whole, bn_take, bn_full]
          refine back (k + 1) _ ⟨by omega, fun q hq => ?_⟩ (by omega) ?_
          · by_cases hqk : q = k
            · rw [hqk]; exact hbw
            · exact hno2 q (by omega)
          · refine le_tok2 (by decide) ?_ ?_ ?_ ?_ <;> simp [LX, I, B, D, hwr]
        · have : (List.range (nRl t)).find? (bigE t) = some k := find_at (List.getElem?_range hlt) hbw (fun y hy => hno2 y (by rw [List.take_range] at hy; have := List.mem_range.1 hy; omega))
          simp only [this] at hx
          try simp only [I, B, D, RY, ↓ KW, seval, hw, hl, hz, hzl, hzt, hs1, hs2, hg, fltC, hy, b1, b2, bn_len, bn_whole, bn_take, bn_full]
          refine call_is (hB _ _) ?_
          try simp only [I, B, D, RY, ↓ KW, seval, hw, hl, hz, hzl, hzt, hs1, hs2, hg, fltC]
          rw [hx]
      · have : k = nRl t := by have := of_decide_eq_false h; omega
        subst this
        have hne : (List.range (nRl t)).find? (bigE t) = none := find_none fun x hx => hno2 x (List.mem_range.1 hx)
        simp only [hne] at hx
        have hen := en_done t (fun p => waitI t p)
        try simp only [I, B, D, RY, ↓ KW, seval, hw, hl, hz, hzl, hzt, hs1, hs2, hg, fltC, h129, bn_len, bn_whole, bn_take, bn_full, hen]
        cases hb3 : decide (0 < ((t.rails.getD []).length : Int))
        · have e : allE t = (bnC (fun p => waitI t p) (fun k => entryI t k), 0, 0) := by
            rw [hx]; exact if_neg (fun h => by have := of_decide_eq_false hb3; simp only [nRl] at h; omega)
          try simp only [I, B, D, RY, ↓ KW, seval, hw, hl, hz, hzl, hzt, hs1, hs2, hg, fltC, h129, bn_len, bn_whole, bn_take, bn_full, hen, hb3]
          rw [e]
        · try simp only [I, B, D, RY, ↓ KW, seval, hw, hl, hz, hzl, hzt, hs1, hs2, hg, fltC, h129, bn_len, bn_whole, bn_take, bn_full, hen, hb3]
          have h0 := of_decide_eq_true hb3
          cases hb4 : decide (t.window < m)
          · have e : allE t = (bnC (fun p => waitI t p) (fun k => entryI t k), 0, 0) := by
              rw [hx]; exact if_neg (fun h => by have := of_decide_eq_false hb4; omega)
            try simp only [I, B, D, RY, ↓ KW, seval, hw, hl, hz, hzl, hzt, hs1, hs2, hg, fltC, h129, bn_len, bn_whole, bn_take, bn_full, hen, hb4]
            rw [e]
          · have e : allE t = (z12_71526, 15, 0) := by
              rw [hx]; exact if_pos ⟨by simp only [nRl]; omega, of_decide_eq_true hb4⟩
            try simp only [I, B, D, RY, ↓ KW, seval, hw, hl, hz, hzl, hzt, hs1, hs2, hg, fltC, h129, bn_len, bn_whole, bn_take, bn_full, hen, hb4]
            refine call_is (hB _ _) ?_
            try simp only [I, B, D, RY, ↓ KW, seval, hw, hl, hz, hzl, hzt, hs1, hs2, hg, fltC]
            rw [e]
    · refine le_tok2 (by decide) ?_ ?_ ?_ ?_ <;> simp [LX, I, B, D, en_zero, nRl]
  · refine le_tok2 (by decide) ?_ ?_ ?_ ?_ <;> simp [LX, I, B, D, wt_zero, wtM_zero]
theorem rAll.ok {fK fW fE fM : Nat} (hc : cFn P f = some (cc_ref08_All fK fW fE fM)) (hK : kCheck.Spec (Pure P) fK) (hW : wait.Spec (Pure P) fW) (hN : entry.Spec (Pure P) fE) (hM : most.Spec (Pure P) fM) : bAll.Spec (Pure P) f := by
  intro t ht hfw hrw hr4
  have hw := ht.ln.whole
  have hl := ht.ln.len
  have hg := Tb.rails_at ht
  have h129 := ht.ln.at129
  have hz : setCells z12_71526 0 z12_71526 = z12_71526 := rfl
  have hzl : z12_71526.length = 12 := rfl
  have hzt : z12_71526.take 12 = z12_71526 := rfl
  have hs2 : ∀ a b c d : Int, setCells [AV.int .i64 a, AV.int .i64 b] 0 [AV.int .i64 c, AV.int .i64 d] = [AV.int .i64 c, AV.int .i64 d] := fun _ _ _ _ => rfl
  have bz := bn_zero
  have c1 := hK t ht hfw
  rcases hck : checkE t with ⟨c, a⟩
  rw [hck] at c1
  refine pure_of hm hc (by show 1 ≤ 77; decide) (aw_flat (keep := []) (i := 0) ?_)
  try simp only [I, B, D, RY, ↓ KW, seval, cc_ref08_All, Z.H, hw]
  refine call_is c1 ?_
  try simp only [I, B, D, RY, ↓ KW, seval, hw, hl, hz, hzl, hzt, hs2, hg, fltC]
  generalize hb : (c != 0) = b at *
  cases b
  rotate_left
  · have hx : allE t = (z12_71526, c, a) := by
      rw [allE, hck]; exact if_pos (by simpa using hb)
    try simp only [I, B, D, RY, ↓ KW, seval, hw, hl, hz, hzl, hzt, hs2, hg, fltC]
    refine dg_go rfl ?_
    try simp only [I, B, D, RY, ↓ KW, seval, hw, hl, hz, hzl, hzt, hs2, hg, fltC]
    rw [hx]
  have hc0 : c = 0 := by simpa using hb
  have hx := show allE t = _ from if_neg (by rw [hck]; simp [hc0])
  rw [find_on] at hx
  try simp only [I, B, D, RY, ↓ KW, seval, hw, hl, hz, hzl, hzt, hs2, hg, fltC]
  refine aw_loop' (fun i : Nat => (⟨[(6, .dat (I i) none), (1, .ptr 4 0), (5, .ptr 14 0), (2, .ptr 5 0), (3, .ptr 6 0)], [(14, ⟨bnC (wrF t i) (fun _ => 0), []⟩), (6, ⟨[I 0, I 0], []⟩), (5, ⟨z12_71526, []⟩), (4, ⟨t.cells, []⟩)], [], 400⟩ : S)) (fun i => 8 - i) (fun i => i ≤ 8 ∧ ∀ q, q < i → bigW t q = false) ?_ 0 ⟨by omega, by omega⟩ ?_
  rotate_left
  · refine le_tok2 (by decide) ?_ ?_ ?_ ?_ <;> simp [LX, I, B, D, wr_zero]
  rintro i ⟨hi, hno⟩ A back
  have hwr := wrap_succ (k := i) (by omega)
  try simp only [I, B, D, RY, ↓ KW, seval]
  cases h : decide ((i : Int) < 8)
  rotate_left
  · have h8 : i < 8 := by have := of_decide_eq_true h; omega
    have hy : 0 ≤ (i : Int) ∧ (i : Int) < 8 := by omega
    have b1 := bn_setw (wrF t i) (fun _ => 0) h8 (waitI t i)
    have b2 := bn_w (wrF t (i + 1)) (fun _ => 0) h8
    have b3 : wrF t (i + 1) i = waitI t i := if_pos (by omega)
    have g3 := (Tb.ph_int ht hy.1 (by omega)).1
    rw [Int.toNat_natCast] at g3
    rw [wr_next] at b1
    rw [b3] at b2
    try simp only [I, B, D, RY, ↓ KW, seval, hw, hl, hz, hzl, hzt, hs2, hg, fltC, hy, b1, b2, g3, bn_len, bn_whole, bn_take, bn_full, h]
    refine call_is (hW t _ ht) ?_
    try simp only [I, B, D, RY, ↓ KW, seval, hw, hl, hz, hzl, hzt, hs2, hg, fltC, hy, b1, b2, g3, bn_len, bn_whole, bn_take, bn_full, h]
    refine ⟨by omega, ?_⟩
    cases hb2 : decide (2147483647 ≤ waitI t i)
    · try simp only [I, B, D, RY, ↓ KW, seval, hw, hl, hz, hzl, hzt, hs2, hg, fltC, hy, b1, b2, g3, bn_len, bn_whole, bn_take, bn_full, h, hb2]
      refine back (i + 1) _ ⟨by omega, fun q hq => ?_⟩ (by omega) ?_
      · by_cases hqk : q = i
        · rw [hqk]; exact hb2
        · exact hno q (by omega)
      · refine le_tok2 (by decide) ?_ ?_ ?_ ?_ <;> simp [LX, I, B, D, hwr]
    · have hbw : bigW t i = true := hb2
      have hon : (phAt t i).on = true := big_on h8 hbw
      have : (List.range 8).find? (bigW t) = some i := find_at (List.getElem?_range h8) hbw (fun y hy => hno y (by rw [List.take_range] at hy; have := List.mem_range.1 hy; omega))
      simp only [this] at hx
      try simp only [I, B, D, RY, ↓ KW, seval, hw, hl, hz, hzl, hzt, hs2, hg, fltC, hy, b1, b2, g3, bn_len, bn_whole, bn_take, bn_full, h, hb2, hon]
      rw [hx]
  have e8 : i = 8 := by have := of_decide_eq_false h; omega
  subst e8
  have hnw : (List.range 8).find? (bigW t) = none := find_none fun x hx => hno x (List.mem_range.1 hx)
  simp only [hnw] at hx
  have hd := wr_done t
  try simp only [I, B, D, RY, ↓ KW, seval, hw, hl, hz, hzl, hzt, hs2, hg, fltC, hd]
  refine aw_loop' (fun k : Nat => (⟨[(7, .dat (I k) none), (1, .ptr 4 0), (5, .ptr 14 0), (2, .ptr 5 0), (3, .ptr 6 0)], [(14, ⟨bnC (fun p => waitI t p) (enF t k), []⟩), (6, ⟨[I 0, I 0], []⟩), (5, ⟨z12_71526, []⟩), (4, ⟨t.cells, []⟩)], [], 400⟩ : S)) (fun k => nRl t - k) (fun k => k ≤ nRl t ∧ ∀ q, q < k → bigE t q = false) ?_ 0 ⟨by omega, by omega⟩ ?_
  rotate_left
  · refine le_tok2 (by decide) ?_ ?_ ?_ ?_ <;> simp [LX, I, B, D, en_zero, nRl]
  rintro k ⟨hk, hno2⟩ A back
  have hwr := wrap_succ (k := k) (by omega)
  try simp only [I, B, D, RY, ↓ KW, seval, hw, hl, hz, hzl, hzt, hs2, hg, fltC]
  cases h : decide ((k : Int) < ((t.rails.getD []).length : Int))
  rotate_left
  · have hlt : k < nRl t := by have := of_decide_eq_true h; simp only [nRl]; omega
    have hy : 0 ≤ (k : Int) ∧ (k : Int) < 4 := by omega
    have h4 : k < 4 := by omega
    have b1 := bn_sete (fun p => waitI t p) (enF t k) h4 (entryI t k)
    have b2 := bn_e (fun p => waitI t p) (enF t (k + 1)) h4
    have b3 : enF t (k + 1) k = entryI t k := if_pos (by omega)
    rw [en_next] at b1
    rw [b3] at b2
    try simp only [I, B, D, RY, ↓ KW, seval, hw, hl, hz, hzl, hzt, hs2, hg, fltC, hy, b1, b2, bn_len, bn_whole, bn_take, bn_full, h]
    refine call_is (hN t _ ht) ?_
    try simp only [I, B, D, RY, ↓ KW, seval, hw, hl, hz, hzl, hzt, hs2, hg, fltC, hy, b1, b2, bn_len, bn_whole, bn_take, bn_full, h]
    refine ⟨by omega, ?_⟩
    cases hb2 : decide (2147483647 ≤ entryI t k)
    · try simp only [I, B, D, RY, ↓ KW, seval, hw, hl, hz, hzl, hzt, hs2, hg, fltC, hy, b1, b2, bn_len, bn_whole, bn_take, bn_full, h, hb2]
      refine back (k + 1) _ ⟨by omega, fun q hq => ?_⟩ (by omega) ?_
      · by_cases hqk : q = k
        · rw [hqk]; exact hb2
        · exact hno2 q (by omega)
      · refine le_tok2 (by decide) ?_ ?_ ?_ ?_ <;> simp [LX, I, B, D, hwr]
    · have hbw : bigE t k = true := hb2
      have : (List.range (nRl t)).find? (bigE t) = some k := find_at (List.getElem?_range hlt) hbw (fun y hy => hno2 y (by rw [List.take_range] at hy; have := List.mem_range.1 hy; omega))
      simp only [this] at hx
      try simp only [I, B, D, RY, ↓ KW, seval, hw, hl, hz, hzl, hzt, hs2, hg, fltC, hy, b1, b2, bn_len, bn_whole, bn_take, bn_full, h, hb2]
      rw [hx]
  have ek : k = nRl t := by have := of_decide_eq_false h; simp only [nRl] at *; omega
  subst ek
  have hne : (List.range (nRl t)).find? (bigE t) = none := find_none fun x hx => hno2 x (List.mem_range.1 hx)
  simp only [hne] at hx
  have hen := en_done t (fun p => waitI t p)
  have hch : chunkA 1 8 (bnC (fun p => waitI t p) (fun k => entryI t k)) = (((List.range 8).map fun (p : Nat) => waitI t p).map intRow) := rfl
  try simp only [I, B, D, RY, ↓ KW, seval, hw, hl, hz, hzl, hzt, hs2, hg, fltC, h129, bn_len, bn_whole, bn_take, bn_full, hen, hch, h]
  refine dg_go rfl ?_
  cases hb3 : decide (0 < ((t.rails.getD []).length : Int))
  · have e : allE t = (bnC (fun p => waitI t p) (fun k => entryI t k), 0, 0) := by
      rw [hx]; exact if_neg (fun h => by have := of_decide_eq_false hb3; simp only [nRl] at h; omega)
    try simp only [I, B, D, RY, ↓ KW, seval, hw, hl, hz, hzl, hzt, hs2, hg, fltC, h129, bn_len, bn_whole, bn_take, bn_full, hen, hch, h, hb3]
    rw [e]
  · have h0 := of_decide_eq_true hb3
    try simp only [I, B, D, RY, ↓ KW, seval, hw, hl, hz, hzl, hzt, hs2, hg, fltC, h129, bn_len, bn_whole, bn_take, bn_full, hen, hch, h, hb3]
    refine call_is (hM (some ((List.range 8).map fun (p : Nat) => waitI t p)) (by simp)) ?_
    try simp only [I, B, D, RY, ↓ KW, seval, hw, hl, hz, hzl, hzt, hs2, hg, fltC, h129, bn_len, bn_whole, bn_take, bn_full, hen, hch, h]
    rw [most_on] at hx
    rw [Option.getD_some]
    generalize mostI ((List.range 8).map fun (p : Nat) => waitI t p) = m at *
    cases hb4 : decide (t.window < m)
    · have e : allE t = (bnC (fun p => waitI t p) (fun k => entryI t k), 0, 0) := by
        rw [hx]; exact if_neg (fun h => by have := of_decide_eq_false hb4; omega)
      try simp only [I, B, D, RY, ↓ KW, seval, hw, hl, hz, hzl, hzt, hs2, hg, fltC, h129, bn_len, bn_whole, bn_take, bn_full, hen, hch, h, hb4]
      rw [e]
    · have e : allE t = (z12_71526, 15, 0) := by
        rw [hx]; exact if_pos ⟨by simp only [nRl]; omega, of_decide_eq_true hb4⟩
      try simp only [I, B, D, RY, ↓ KW, seval, hw, hl, hz, hzl, hzt, hs2, hg, fltC, h129, bn_len, bn_whole, bn_take, bn_full, hen, hch, h, hb4]
      rw [e]
end
end Go.Eng
namespace Go.Eng
set_option linter.unusedVariables false
set_option linter.unusedSimpArgs false
set_option linter.unnecessarySimpa false
open Go
set_option linter.unusedVariables false
set_option linter.unusedSimpArgs false
set_option maxRecDepth 10000
set_option maxHeartbeats 4000000
def ph09 : Ph := { (default : Ph) with on := true, min := 1, max := 1, top := 1, yellow := 10 }
def g9To (k : Nat) : Tb := { Tb0 with phases := (List.range 8).map (fun p => if p < k then (if p < 2 then ph09 else default) else default), conflict := (List.range 8).map (fun p => if p < k then (if p = 0 then 2 else if p = 1 then 1 else 0) else 0), flash := (List.range 8).map fun p => if p < k then 1 else 0 }
def g9 : Tb := { g9To 2 with groups := some [⟨some [0, 1], none⟩] }
theorem tb0_ok : Tb0.Ok := ⟨rfl, rfl, rfl, by simp [Tb0], by simp [Tb0], by simp [Tb0], by simp [Tb0], by simp [Tb0]⟩
theorem check_tb0 : checkE Tb0 = (8, 0) := by decide +kernel
theorem det_fw (l : Option (List Int)) (i n : Int) : (detectorOf l i n).Fw := by
  have r1 := frm_range l (w64 (i + 1)) (n := 4) (by decide) (by decide)
  have r2 := frm_range l (w64 (i + 2)) (n := 3) (by decide) (by decide)
  have r3 := frm_range l (w64 (i + 3)) (n := 4) (by decide) (by decide)
  have r4 := frm_range l (w64 (i + 4)) (n := 6) (by decide) (by decide)
  obtain ⟨a, ha⟩ : ∃ m : Nat, frm l (w64 (i + 1)) 4 = m := ⟨(frm l (w64 (i + 1)) 4).toNat, by omega⟩
  obtain ⟨b, hb⟩ : ∃ m : Nat, frm l (w64 (i + 2)) 3 = m := ⟨(frm l (w64 (i + 2)) 3).toNat, by omega⟩
  obtain ⟨c, hc⟩ : ∃ m : Nat, frm l (w64 (i + 3)) 4 = m := ⟨(frm l (w64 (i + 3)) 4).toNat, by omega⟩
  obtain ⟨d, hd⟩ : ∃ m : Nat, frm l (w64 (i + 4)) 6 = m := ⟨(frm l (w64 (i + 4)) 6).toNat, by omega⟩
  have k1 : ∀ a : Nat, a < 4 → detOn a < 2 ^ 64 := by decide
  have k2 : ∀ a : Nat, a < 4 → ∀ b : Nat, b < 3 → detOff a b < 2 ^ 64 := by decide +kernel
  have k3 : ∀ c : Nat, c < 6 → tenth c < 2 ^ 64 := by decide +kernel
  refine ⟨?_, ?_, ?_, ?_⟩
  · show detOn _ < _; rw [ha]; exact k1 a (by omega)
  · show detOff _ _ < _; rw [ha, hb]; exact k2 a (by omega) b (by omega)
  · show tenth _ < _; rw [hc]; exact k3 c (by omega)
  · show tenth _ < _; rw [hd]; exact k3 d (by omega)
theorem table_fw (l : Option (List Int)) : (tableOf l).Fw := by
  intro d hd
  have e : (tableOf l).detectors = mkO (detTo l (rowsOf' l).2 (frm l 175 9) (frm l 175 9).toNat) := rfl
  rw [e, mkO_getD, detTo, List.mem_map] at hd
  obtain ⟨k, _, rfl⟩ := hd
  exact det_fw _ _ _
end Go.Eng
namespace Go.Eng
set_option linter.unusedVariables false
set_option linter.unusedSimpArgs false
set_option linter.unnecessarySimpa false
open Go
set_option linter.unusedVariables false
set_option linter.unusedSimpArgs false
set_option maxRecDepth 10000
set_option maxHeartbeats 4000000
theorem w64_id {n : Int} (h1 : -9223372036854775808 ≤ n) (h2 : n ≤ 9223372036854775807) : w64 n = n := wrap_id h1 h2
structure PhGood (x : Ph) : Prop where
  min : 1 ≤ x.min ∧ x.min ≤ 12
  max : x.min ≤ x.max ∧ x.max ≤ 36
  top : x.max ≤ x.top ∧ x.top ≤ 50
  gap : 0 ≤ x.gap ∧ x.gap ≤ 8
  step : 1 ≤ x.step ∧ x.step ≤ 6
  yellow : 10 ≤ x.yellow ∧ x.yellow ≤ 13
  red : 0 ≤ x.red ∧ x.red ≤ 4
  walk : (x.walk = 0 ∧ x.blinks = 0) ∨ (1 ≤ x.walk ∧ x.walk ≤ 10 ∧ 1 ≤ x.blinks ∧ x.blinks ≤ 10)
  recall : 0 ≤ x.recall ∧ x.recall ≤ 3 ∧ (x.recall = 3 → x.walk ≠ 0)
  on : x.on = true
theorem ph_good (l : Option (List Int)) (i : Int) : PhGood (phaseOf l i) := by
  have r0 := frm_range l i (n := 12) (by decide) (by decide)
  have r1 := frm_range l (w64 (i + 1)) (n := 9) (by decide) (by decide)
  have r2 := frm_range l (w64 (i + 2)) (n := 6) (by decide) (by decide)
  have r3 := frm_range l (w64 (i + 3)) (n := 4) (by decide) (by decide)
  have r4 := frm_range l (w64 (i + 4)) (n := 5) (by decide) (by decide)
  have r5 := frm_range l (w64 (i + 5)) (n := 25) (by decide) (by decide)
  have r6 := frm_range l (w64 (i + 6)) (n := 15) (by decide) (by decide)
  have r8 := frm_range l (w64 (i + 8)) (n := 10) (by decide) (by decide)
  have r9 := frm_range l (w64 (i + 8)) (n := 97) (by decide) (by decide)
  have ra := frm_range l (w64 (i + 9)) (n := 7) (by decide) (by decide)
  have rt : 0 ≤ (frm l (w64 (i + 8)) 97).tdiv 10 ∧ (frm l (w64 (i + 8)) 97).tdiv 10 ≤ 9 := by
    rw [Int.tdiv_eq_ediv_of_nonneg r9.1]; omega
  have e0 := w64_id (n := 1 + frm l i 12) (by omega) (by omega)
  have e5 := w64_id (n := 1 + frm l i 12 + frm l (w64 (i + 5)) 25) (by omega) (by omega)
  have e6 := w64_id (n := 1 + frm l i 12 + frm l (w64 (i + 5)) 25 + frm l (w64 (i + 6)) 15) (by omega) (by omega)
  have e8 := w64_id (n := 1 + frm l (w64 (i + 8)) 10) (by omega) (by omega)
  have e9 := w64_id (n := (frm l (w64 (i + 8)) 97).tdiv 10) (by omega) (by omega)
  have ea := w64_id (n := 1 + (frm l (w64 (i + 8)) 97).tdiv 10) (by omega) (by omega)
  have e2 := w64_id (n := 1 + frm l (w64 (i + 2)) 6) (by omega) (by omega)
  have e3 := w64_id (n := 10 + frm l (w64 (i + 3)) 4) (by omega) (by omega)
  refine ⟨?_, ?_, ?_, ?_, ?_, ?_, ?_, ?_, ?_, rfl⟩ <;> simp only [phaseOf, e0, e5, e6, e8, e9, ea, e2, e3]
  · omega
  · omega
  · omega
  · omega
  · omega
  · omega
  · omega
  · split
    · right; omega
    · left; exact ⟨rfl, rfl⟩
  · split <;> split <;> omega
theorem phTo_at (l : Option (List Int)) : ∀ (k i : Nat), k ≤ 8 → i < 8 → (phTo l k).getD i default = if i < k then phaseOf l (10 + 12 * i) else default
  | 0, i, _, hi => by rw [phTo, List.getD_eq_getElem?_getD, List.getElem?_replicate, if_pos hi, if_neg (by omega)]; rfl
  | k + 1, i, hk, hi => by
    have ih := phTo_at l k i (by omega) hi
    rw [phTo, List.getD_eq_getElem?_getD, List.getElem?_set]
    by_cases e : k = i
    · subst e
      rw [if_pos rfl, if_pos (by rw [phTo_len]; omega), if_pos (by omega)]; rfl
    · rw [if_neg e, ← List.getD_eq_getElem?_getD, ih]
      by_cases h2 : i < k
      · rw [if_pos h2, if_pos (by omega)]
      · rw [if_neg h2, if_neg (by omega)]
def nT (l : Option (List Int)) : Nat := (rowsOf' l).2
theorem nT_range (l : Option (List Int)) : 1 ≤ nT l ∧ nT l ≤ 8 := ⟨rowsOf_pos l, rowsOf_le l⟩
theorem tph (l : Option (List Int)) {i : Nat} (hi : i < 8) : phAt (tableOf l) i = if i < nT l then phaseOf l (10 + 12 * i) else default := by
  rw [← phAt_D]
  exact phTo_at l (nT l) i (nT_range l).2 hi
theorem tph_on (l : Option (List Int)) {i : Nat} (hi : i < 8) : (phAt (tableOf l) i).on = decide (i < nT l) := by
  rw [tph l hi]; split
  · next h => simp [h, (ph_good l _).on]
  · next h => simp [h]; rfl
theorem tOn_tb (l : Option (List Int)) (i : Nat) : tb (onI (tableOf l)) i = decide (i < nT l) := by
  rw [onI_tb]
  by_cases h : i < 8
  · rw [tph_on l h]; simp [h]
  · have := (nT_range l).2
    have h2 : ¬ i < nT l := by omega
    simp [h, h2]
theorem rowsTo_lim (l : Option (List Int)) (G : Nat) (hG : G ≤ 8) : ∀ g, g ≤ G → 1 ≤ g → (rowsTo l G g).2 ≤ 8 - (G - g)
  | 0, _, h => by omega
  | g + 1, h, _ => by
    have ih : (rowsTo l G g).2 ≤ 8 - (G - 1 - g) := by
      rcases Nat.eq_zero_or_pos g with rfl | h1
      · simp [rowsTo]
      · have := rowsTo_lim l G hG g (by omega) h1; omega
    simp only [rowsTo, fillN, limN]
    omega
theorem rowsTo_new (l : Option (List Int)) (G : Nat) (hG : G ≤ 8) {g : Nat} (hg : g < G) : ∃ (gr : Gr) (m : Nat), 1 ≤ m ∧ (rowsTo l G (g + 1)).1 = (rowsTo l G g).1 ++ [gr] ∧ (rowsTo l G (g + 1)).2 = (rowsTo l G g).2 + m ∧ gr.a.getD [] ++ gr.b.getD [] = rowN (rowsTo l G g).2 m := by
  have hp : (rowsTo l G g).2 + 1 ≤ limN G g := by
    unfold limN
    rcases Nat.eq_zero_or_pos g with rfl | h1
    · simp [rowsTo]; omega
    · have := rowsTo_lim l G hG g (by omega) h1; omega
  refine ⟨_, fillN (cnt l g 0 0) (rowsTo l G g).2 (limN G g) + fillN (cnt l g 1 (fillN (cnt l g 0 0) (rowsTo l G g).2 (limN G g))) ((rowsTo l G g).2 + fillN (cnt l g 0 0) (rowsTo l G g).2 (limN G g)) (limN G g), ?_, rfl, ?_, ?_⟩
  · generalize hm0 : fillN (cnt l g 0 0) (rowsTo l G g).2 (limN G g) = m0
    rcases Nat.eq_zero_or_pos m0 with h0 | h0
    · have hc : 1 ≤ cnt l g 1 m0 := by
        simp only [cnt]
        by_cases hz : (frm l (1 + 2 * (g : Int) + ((1 : Nat) : Int)) 3).toNat = 0
        · rw [if_pos ⟨trivial, hz, h0⟩]; exact Nat.le_refl _
        · rw [if_neg (fun h => hz h.2.1)]; omega
      rw [h0] at hc ⊢
      simp only [fillN]; omega
    · omega
  · simp only [rowsTo]; omega
  · simp only [mkO_getD]
    generalize fillN (cnt l g 0 0) (rowsTo l G g).2 (limN G g) = m0
    generalize fillN (cnt l g 1 m0) ((rowsTo l G g).2 + m0) (limN G g) = m1
    simp only [rowN, List.range_add, List.map_append, List.map_map]
    congr 1
    apply List.map_congr_left
    intro j _
    simp only [Function.comp]; omega
def seenTo : Nat → Int
  | 0 => 0
  | p + 1 => withS (seenTo p) p
theorem seenTo_tb (i : Nat) : ∀ p, p ≤ 8 → tb (seenTo p) i = decide (i < p)
  | 0, _ => by simp [seenTo, tb_zero]
  | p + 1, h => by
    rw [seenTo, tb_with (by omega), seenTo_tb i p (by omega)]
    by_cases h1 : i < p
    · have : i < 8 := by omega
      have h3 : i < p + 1 := by omega
      simp [h1, this, h3]
    · by_cases h2 : i = p
      · subst h2; simp
      · have : ¬ i < p + 1 := by omega
        simp [h1, h2, this]
theorem seenTo_can : ∀ p, p ≤ 8 → Can (seenTo p)
  | 0, _ => by show Can 0; exact ⟨by decide, by decide⟩
  | p + 1, h => can_with (by omega)
theorem rowGo_rowN {on : Int} {n : Nat} (hn : n ≤ 8) (hon : ∀ i, i < n → tb on i = true) (p : Nat) : ∀ m, p + m ≤ n → rowGo on (seenTo p) (rowN p m) = some (seenTo (p + m))
  | 0, _ => rfl
  | m + 1, h => by
    have ih := rowGo_rowN hn hon p m (by omega)
    rw [rowN_succ, rowGo, List.foldlM_append]
    rw [rowGo] at ih
    rw [ih]
    have h1 : hasS on ((p + m : Nat) : Int) = true := by rw [hasS_tb (by omega), hon _ (by omega)]
    have h2 : hasS (seenTo (p + m)) ((p + m : Nat) : Int) = false := by rw [hasS_tb (by omega), seenTo_tb _ _ (by omega)]; simp
    simp only [Option.bind_eq_bind, Option.bind_some, List.foldlM_cons, List.foldlM_nil, h1, h2]
    rfl
theorem ring_rows {on : Int} {n : Nat} (hn : n ≤ 8) (hon : ∀ i, i < n → tb on i = true) (l : Option (List Int)) (G : Nat) (hG : G ≤ 8) (hle : (rowsTo l G G).2 ≤ n) (mono : ∀ g, g ≤ G → (rowsTo l G g).2 ≤ (rowsTo l G G).2) :
    ∀ (g : Nat) (R : List Gr), g ≤ G → ringL on ((rowsTo l G g).1 ++ R) 0 0 = ringL on R g (seenTo (rowsTo l G g).2)
  | 0, R, _ => rfl
  | g + 1, R, h => by
    obtain ⟨gr, m, h1, h2, h3, h4⟩ := rowsTo_new l G hG (g := g) (by omega)
    have ih := ring_rows hn hon l G hG hle mono g (gr :: R) (by omega)
    have hm := mono (g + 1) h
    rw [h2, List.append_assoc, List.singleton_append, ih, ringL]
    have hl : (gr.a.getD []).length + (gr.b.getD []).length = m := by
      have := congrArg List.length h4
      rw [List.length_append, rowN_len] at this; exact this
    rw [if_neg (by omega), h4, rowGo_rowN hn hon _ m (by omega), h3]
theorem rowsTo_up (l : Option (List Int)) (G : Nat) (hG : G ≤ 8) : ∀ k g, g + k ≤ G → (rowsTo l G g).2 ≤ (rowsTo l G (g + k)).2
  | 0, g, _ => Nat.le_refl _
  | k + 1, g, h => by
    obtain ⟨gr, m, h1, h2, h3, h4⟩ := rowsTo_new l G hG (g := g + k) (by omega)
    have := rowsTo_up l G hG k g (by omega)
    rw [show g + (k + 1) = g + k + 1 by omega, h3]; omega
theorem table_ring (l : Option (List Int)) : ringE (tableOf l) (onI (tableOf l)) = (0, 0) := by
  have hG := groupsN_le l
  have e : (tableOf l).groups.getD [] = (rowsTo l (groupsN l) (groupsN l)).1 := rfl
  have hlen : ((rowsTo l (groupsN l) (groupsN l)).1).length = groupsN l := rowsTo_len _ _ _
  rw [ringE, if_neg (by rw [e, hlen]; omega), e]
  have h := ring_rows (on := onI (tableOf l)) (n := nT l) (nT_range l).2 (fun i hi => by rw [tOn_tb]; simp [hi]) l (groupsN l) (by omega) (Nat.le_refl _)
    (fun g hg => by have := rowsTo_up l (groupsN l) (by omega) (groupsN l - g) g (by omega); rwa [show g + (groupsN l - g) = groupsN l by omega] at this) (groupsN l) [] (Nat.le_refl _)
  rw [List.append_nil] at h
  rw [h, ringL]
  have : seenTo (rowsTo l (groupsN l) (groupsN l)).2 = onI (tableOf l) := by
    refine can_ext (seenTo_can _ (rowsOf_le l)) (onI_can _) fun i hi => ?_
    rw [seenTo_tb i _ (rowsTo_le _ _ _), tOn_tb]; rfl
  rw [this]; simp
theorem beside_congr {t t' : Tb} (h : t.groups = t'.groups) (p q : Int) : besideR t p q = besideR t' p q := by
  simp only [besideR, whereR, spots, h]
def ConG (t : Tb) (c : List Int) : Prop := ∀ i j : Nat, i < 8 → j < 8 → tb (cAt c i) j = true → i ≠ j ∧ besideR t i j = false
theorem conG_step {t : Tb} {l : Option (List Int)} {p q : Nat} {c : List Int} (hc : c.length = 8) (hp : p < 8) (hq : q < p) (h : ConG t c) : ConG t (confStep t l p q c) := by
  unfold confStep
  split
  · rename_i hcl
    have hb : besideR t p q = false := by
      simp only [clashes, Bool.and_eq_true, Bool.not_eq_true'] at hcl; exact hcl.1
    have hb2 : besideR t q p = false := by rw [beside_sym]; exact hb
    intro i j hi hj
    have hpl : p < c.length := by omega
    have hql : q < (c.set p (withR (cAt c p) q)).length := by simp; omega
    have hqp : ¬ q = p := by omega
    simp only [cAt_set hql, cAt_set hpl, hqp, if_false]
    intro ht
    by_cases h1 : i = q
    · subst h1
      rw [if_pos rfl, tb_withR (by omega)] at ht
      simp only [Bool.and_eq_true, Bool.or_eq_true, decide_eq_true_eq] at ht
      rcases ht.2 with ht | rfl
      · exact h i j hi hj ht
      · exact ⟨by omega, hb2⟩
    · rw [if_neg h1] at ht
      by_cases h3 : i = p
      · subst h3
        rw [if_pos rfl, tb_withR (by omega)] at ht
        simp only [Bool.and_eq_true, Bool.or_eq_true, decide_eq_true_eq] at ht
        rcases ht.2 with ht | rfl
        · exact h i j hi hj ht
        · exact ⟨by omega, hb⟩
      · rw [if_neg h3] at ht
        exact h i j hi hj ht
  · exact h
theorem conG_row {t : Tb} {l : Option (List Int)} {p : Nat} {c : List Int} (hc : c.length = 8) (hp : p < 8) (h : ConG t c) : ∀ q, q ≤ p → ConG t (confRow t l p q c)
  | 0, _ => h
  | q + 1, hq => conG_step (by rw [confRow_len, hc]) hp (by omega) (conG_row hc hp h q (by omega))
theorem conG_to {t : Tb} {l : Option (List Int)} : ∀ p, p ≤ 8 → ConG t (confTo t l p)
  | 0, _ => by
    intro i j hi hj ht
    have : cAt (confTo t l 0) i = 0 := by
      simp only [cAt, confTo, List.getD_eq_getElem?_getD, List.getElem?_replicate]; split <;> rfl
    rw [this, tb_zero] at ht; cases ht
  | p + 1, hp => conG_row (confTo_len p) (by omega) (conG_to p (by omega)) p (Nat.le_refl p)
theorem table_con (l : Option (List Int)) {p q : Nat} (hp : p < 8) (hq : q < 8) (h : tb (conAt (tableOf l) p) q = true) : p ≠ q ∧ besideR (tableOf l) p q = false := by
  have := conG_to (t := { Tb0 with groups := some (rowsOf' l).1 }) (l := l) (rowsOf' l).2 (rowsOf_le l) p q hp hq h
  refine ⟨this.1, ?_⟩
  rw [← this.2]
  exact beside_congr rfl _ _
theorem conf_good (l : Option (List Int)) (on : Int) {p : Nat} (hp : p < 8) : confBad (tableOf l) on p = false := by
  have h0 : tb (conAt (tableOf l) p) p = false := by
    cases h : tb (conAt (tableOf l) p) p
    · rfl
    · exact absurd rfl (table_con l hp hp h).1
  rw [confBad, h0, Bool.false_or, List.any_eq_false]
  intro q hq
  have h8 := setN_lt hq
  rw [confQ, table_sym l hp h8]
  cases h : tb (conAt (tableOf l) q) p
  · simp
  · have h2 := h
    rw [← table_sym l hp h8] at h2
    rw [(table_con l hp h8 h2).2]; simp
end Go.Eng
namespace Go.Eng
set_option linter.unusedVariables false
set_option linter.unusedSimpArgs false
set_option linter.unnecessarySimpa false
open Go
set_option linter.unusedVariables false
set_option linter.unusedSimpArgs false
set_option maxRecDepth 10000
set_option maxHeartbeats 4000000
theorem sumI_range (l : List Int) : 0 ≤ sumI l ∧ sumI l ≤ 2147483647 := by
  rcases List.eq_nil_or_concat l with rfl | ⟨l', x, rfl⟩
  · exact ⟨by decide, by decide⟩
  · rw [sumI, List.concat_eq_append, List.foldl_append]; exact capI_range _
theorem freeI_range (t : Tb) (p : Int) : 0 ≤ freeI t p ∧ freeI t p ≤ 2147483647 := by
  unfold freeI
  split
  · exact sumI_range _
  · exact ⟨by decide, by decide⟩
theorem waitI_range (t : Tb) (p : Int) : 0 ≤ waitI t p ∧ waitI t p ≤ 2147483647 := by
  unfold waitI
  split
  · exact freeI_range _ _
  · exact sumI_range _
theorem winTo_range (t : Tb) : ∀ k, 0 ≤ winTo t k ∧ winTo t k ≤ 2147483647
  | 0 => ⟨by simp [winTo], by simp [winTo]⟩
  | k + 1 => by
    have := winTo_range t k
    have h2 := waitI_range t k
    rw [winTo]; split <;> omega
theorem rows_elems (l : Option (List Int)) (G : Nat) (hG : G ≤ 8) : ∀ g, g ≤ G → ∀ gr ∈ (rowsTo l G g).1, ∀ x ∈ gr.a.getD [] ++ gr.b.getD [], 0 ≤ x ∧ x < 8
  | 0, _, gr, h => by simp [rowsTo] at h
  | g + 1, hg, gr, h => by
    obtain ⟨gr', m, h1, h2, h3, h4⟩ := rowsTo_new l G hG (g := g) (by omega)
    rw [h2] at h
    rcases List.mem_append.1 h with h | h
    · exact rows_elems l G hG g (by omega) gr h
    · rw [List.mem_singleton] at h; subst h
      intro x hx
      rw [h4, rowN, List.mem_map] at hx
      obtain ⟨j, hj, rfl⟩ := hx
      have := rowsTo_le l G (g + 1)
      have := List.mem_range.1 hj
      omega
theorem flTo_at : ∀ (k i : Nat), k ≤ 8 → i < 8 → (flTo k).getD i 0 = if i < k then 1 else 0
  | 0, i, _, hi => by rw [flTo, List.getD_eq_getElem?_getD, List.getElem?_replicate, if_pos hi, if_neg (by omega)]; rfl
  | k + 1, i, hk, hi => by
    have ih := flTo_at k i (by omega) hi
    rw [flTo, List.getD_eq_getElem?_getD, List.getElem?_set]
    by_cases e : k = i
    · subst e
      rw [if_pos rfl, if_pos (by rw [flTo_len]; omega), if_pos (by omega)]; rfl
    · rw [if_neg e, ← List.getD_eq_getElem?_getD, ih]
      by_cases h2 : i < k
      · rw [if_pos h2, if_pos (by omega)]
      · rw [if_neg h2, if_neg (by omega)]
theorem tfl' (l : Option (List Int)) : ∃ q : Nat, ∀ p, p < 8 → flAt (tableOf l) p = if q < nT l ∧ p = q then 2 else if p < nT l then 1 else 0 := by
  have r := frm_range l 174 (n := ((rowsOf' l).2 : Int) + 1) (by omega) (by have := rowsOf_le l; omega)
  refine ⟨(frm l 174 (((rowsOf' l).2 : Int) + 1)).toNat, fun p hp => ?_⟩
  have hn := (nT_range l).2
  have e : (tableOf l).flash = if frm l 174 (((rowsOf' l).2 : Int) + 1) < ((rowsOf' l).2 : Int) then (flTo (rowsOf' l).2).set (frm l 174 (((rowsOf' l).2 : Int) + 1)).toNat 2 else flTo (rowsOf' l).2 := rfl
  have hnT : nT l = (rowsOf' l).2 := rfl
  rw [flAt, e, hnT]
  rw [hnT] at hn
  generalize (rowsOf' l).2 = n at *
  generalize frm l 174 ((n : Int) + 1) = q at *
  split
  · rename_i hq
    rw [List.getD_eq_getElem?_getD, List.getElem?_set]
    by_cases e2 : q.toNat = p
    · rw [if_pos e2, if_pos (by rw [flTo_len]; omega), if_pos ⟨by omega, e2.symm⟩]; rfl
    · have : ¬ (q.toNat < n ∧ p = q.toNat) := fun h => e2 h.2.symm
      rw [if_neg e2, ← List.getD_eq_getElem?_getD, flTo_at _ _ hn hp]
      simp only [this, if_false]
  · rename_i hq
    have : ¬ (q.toNat < n ∧ p = q.toNat) := by omega
    rw [flTo_at _ _ hn hp]
    simp only [this, if_false]
theorem con_can {t : Tb} {l : Option (List Int)} : ∀ p, ∀ x ∈ confTo t l p, Can x := by
  have step : ∀ (p q : Nat) (c : List Int), (∀ x ∈ c, Can x) → ∀ x ∈ confStep t l p q c, Can x := by
    intro p q c h x hx
    unfold confStep at hx
    split at hx
    · rcases List.mem_or_eq_of_mem_set hx with hx | rfl
      · rcases List.mem_or_eq_of_mem_set hx with hx | rfl
        · exact h x hx
        · exact can_withR _ _
      · exact can_withR _ _
    · exact h x hx
  have row : ∀ (p q : Nat) (c : List Int), (∀ x ∈ c, Can x) → ∀ x ∈ confRow t l p q c, Can x := by
    intro p q
    induction q with
    | zero => intro c h; exact h
    | succ q ih => intro c h; exact step p q _ (ih c h)
  intro p
  induction p with
  | zero =>
    intro x hx
    rw [confTo] at hx
    have := List.eq_of_mem_replicate hx
    subst this; exact ⟨by decide, by decide⟩
  | succ p ih => exact row p p _ ih
theorem can_wI {x : Int} (h : Can x) : wI 255 x = true := by
  simp only [wI, Bool.and_eq_true, decide_eq_true_eq]
  exact ⟨h.1, by have := h.2; omega⟩
theorem ph_may_good {x : Ph} (h : PhGood x) : mayPh x = true := by
  obtain ⟨a1, a2, a3, a4, a5, a6, a7, a8, a9, _⟩ := h
  simp only [mayPh, List.all_cons, List.all_nil, Bool.and_true, wI, Bool.and_eq_true, decide_eq_true_eq]
  omega
theorem ph_bad_good {x : Ph} (h : PhGood x) : phBad x = false := by
  obtain ⟨a1, a2, a3, a4, a5, a6, a7, a8, a9, _⟩ := h
  have hb : ∀ a b : Bool, (a != b) = false ↔ (a = true ↔ b = true) := by intro a b; cases a <;> cases b <;> simp
  simp only [phBad, Bool.or_eq_false_iff, Bool.and_eq_false_iff, decide_eq_false_iff_not, hb, beq_iff_eq, beq_eq_false_iff_ne, ne_eq]
  omega
structure DtGood (n : Nat) (d : Det) : Prop where
  phase : 0 ≤ d.phase ∧ d.phase < n
  may : lvl d.on = true ∧ lvl d.off = true ∧ secsOk d.delay = true ∧ secsOk d.extend = true
  most : 0 ≤ d.maxOn ∧ d.maxOn ≤ 80 ∧ 0 ≤ d.maxOff ∧ d.maxOff ≤ 360
  order : gtF d.off d.on = false
theorem dt_good (l : Option (List Int)) (i : Int) {n : Nat} (hn : 1 ≤ n) (h8 : n ≤ 8) : DtGood n (detectorOf l i n) := by
  have r0 := frm_range l i (n := (n : Int)) (by omega) (by omega)
  have r1 := frm_range l (w64 (i + 1)) (n := 4) (by decide) (by decide)
  have r2 := frm_range l (w64 (i + 2)) (n := 3) (by decide) (by decide)
  have r3 := frm_range l (w64 (i + 3)) (n := 4) (by decide) (by decide)
  have r4 := frm_range l (w64 (i + 4)) (n := 6) (by decide) (by decide)
  have r6 := frm_range l (w64 (i + 6)) (n := 60) (by decide) (by decide)
  have r7 := frm_range l (w64 (i + 7)) (n := 300) (by decide) (by decide)
  obtain ⟨a, ha⟩ : ∃ m : Nat, frm l (w64 (i + 1)) 4 = m := ⟨(frm l (w64 (i + 1)) 4).toNat, by omega⟩
  obtain ⟨b, hb⟩ : ∃ m : Nat, frm l (w64 (i + 2)) 3 = m := ⟨(frm l (w64 (i + 2)) 3).toNat, by omega⟩
  obtain ⟨c, hc⟩ : ∃ m : Nat, frm l (w64 (i + 3)) 4 = m := ⟨(frm l (w64 (i + 3)) 4).toNat, by omega⟩
  obtain ⟨d, hd⟩ : ∃ m : Nat, frm l (w64 (i + 4)) 6 = m := ⟨(frm l (w64 (i + 4)) 6).toNat, by omega⟩
  have k1 : ∀ a : Nat, a < 4 → lvl (detOn a) = true := by decide +kernel
  have k2 : ∀ a : Nat, a < 4 → ∀ b : Nat, b < 3 → lvl (detOff a b) = true ∧ gtF (detOff a b) (detOn a) = false := by decide +kernel
  have k3 : ∀ c : Nat, c < 6 → secsOk (tenth c) = true := by decide +kernel
  have e6 := w64_id (n := 20 + frm l (w64 (i + 6)) 60) (by omega) (by omega)
  have e7 := w64_id (n := 60 + frm l (w64 (i + 7)) 300) (by omega) (by omega)
  refine ⟨r0, ⟨?_, ?_, ?_, ?_⟩, ?_, ?_⟩
  · show lvl (detOn _) = true; rw [ha]; exact k1 a (by omega)
  · show lvl (detOff _ _) = true; rw [ha, hb]; exact (k2 a (by omega) b (by omega)).1
  · show secsOk (tenth _) = true; rw [hc]; exact k3 c (by omega)
  · show secsOk (tenth _) = true; rw [hd]; exact k3 d (by omega)
  · simp only [detectorOf, e6, e7]
    split <;> split <;> omega
  · show gtF (detOff _ _) (detOn _) = false; rw [ha, hb]; exact (k2 a (by omega) b (by omega)).2
theorem tDets (l : Option (List Int)) : ((tableOf l).detectors.getD []).length ≤ 8 ∧ ∀ d ∈ (tableOf l).detectors.getD [], DtGood (nT l) d := by
  have e : (tableOf l).detectors = mkO (detTo l (rowsOf' l).2 (frm l 175 9) (frm l 175 9).toNat) := rfl
  have r := frm_range l 175 (n := 9) (by decide) (by decide)
  rw [e, mkO_getD]
  refine ⟨by rw [detTo_len]; omega, fun d hd => ?_⟩
  rw [detTo, List.mem_map] at hd
  obtain ⟨k, _, rfl⟩ := hd
  exact dt_good _ _ (nT_range l).1 (nT_range l).2
theorem tb_one {p : Nat} (hp : p < 8) (i : Nat) : tb (ofI [(p : Int)]) i = decide (i = p) := by
  rw [tb_of]
  by_cases h : i = p
  · subst h; simp [hp]
  · have : ¬ (i : Int) = (p : Int) := by omega
    simp [h, this]
theorem tb_withT (t : Tb) {p q : Nat} (hp : p < 8) (hq : q < 8) (i : Nat) : tb (withT t p q) i = (decide (i = p) || (besideR t p q && decide (i = q))) := by
  unfold withT
  cases besideR t p q
  · rw [if_neg (by simp), tb_one hp]; simp
  · rw [if_pos rfl, tb_withR hq, tb_one hp]
    by_cases h8 : i < 8
    · simp [h8]
    · have h1 : ¬ i = p := by omega
      have h2 : ¬ i = q := by omega
      simp [h8, h1, h2]
theorem can_withT (t : Tb) (p q : Int) : Can (withT t p q) := by
  unfold withT; split
  · exact can_withR _ _
  · exact can_of' _
theorem mask_tb : ∀ n : Nat, n < 9 → 1 ≤ n → ∀ i : Nat, i < 64 → tb (w64 (w64 (1 * 2 ^ min (IntKind.u64.wrap (n : Int)).toNat 64) - 1)) i = decide (i < n) := by decide +kernel
def Tog (t : Tb) (n : Nat) (s : Int) : Prop := Can s ∧ (∀ i, i < 8 → tb s i = true → i < n) ∧ ∀ i j, i < 8 → j < 8 → tb s i = true → tb s j = true → i ≠ j → besideR t i j = true
theorem tog_with {t t' : Tb} (hg : t.groups = t'.groups) {n p q : Nat} (h8 : n ≤ 8) (hp : p < n) (hq : q < n) : Tog t n (withT t' p q) ∧ withT t' p q ≠ 0 := by
  have hb := beside_congr hg
  refine ⟨⟨can_withT _ _ _, fun i hi h => ?_, fun i j hi hj h1 h2 hne => ?_⟩, fun e => ?_⟩
  · rw [tb_withT t' (by omega) (by omega)] at h
    simp only [Bool.or_eq_true, Bool.and_eq_true, decide_eq_true_eq] at h
    omega
  · rw [tb_withT t' (by omega) (by omega)] at h1 h2
    simp only [Bool.or_eq_true, Bool.and_eq_true, decide_eq_true_eq] at h1 h2
    rw [hb]
    rcases h1 with rfl | ⟨hb1, rfl⟩
    · rcases h2 with rfl | ⟨hb2, rfl⟩
      · exact absurd rfl hne
      · exact hb2
    · rcases h2 with rfl | ⟨hb2, rfl⟩
      · rw [beside_sym]; exact hb1
      · exact absurd rfl hne
  · have := tb_withT t' (p := p) (q := q) (by omega) (by omega) p
    rw [e, tb_zero] at this; simp at this
theorem tog_zero (t : Tb) (n : Nat) : Tog t n 0 := ⟨⟨by decide, by decide⟩, (fun i _ h => by rw [tb_zero] at h; cases h), (fun i j _ _ h => by rw [tb_zero] at h; cases h)⟩
theorem tog_clash {l : Option (List Int)} {s : Int} (h : Tog (tableOf l) (nT l) s) : clashesE (tableOf l) s = false ∧ apartE (tableOf l) s = false := by
  constructor
  · rw [clashesE, List.any_eq_false]
    intro p hp
    rw [Bool.not_eq_true, List.any_eq_false]
    intro q hq
    have p8 := setN_lt hp
    have q8 := setN_lt hq
    by_cases e : p = q
    · subst e; simp
    · have hb := h.2.2 p q p8 q8 (setN_tb hp) (setN_tb hq) e
      have h1 : tb (conAt (tableOf l) p) q = false := by
        cases hc : tb (conAt (tableOf l) p) q
        · rfl
        · have := (table_con l p8 q8 hc).2; rw [hb] at this; cases this
      have h2 : tb (conAt (tableOf l) q) p = false := by rw [← table_sym l p8 q8]; exact h1
      rw [clT, h1, h2]; simp
  · rw [apartE, List.any_eq_false]
    intro p hp
    rw [Bool.not_eq_true, List.any_eq_false]
    intro q hq
    by_cases e : p = q
    · subst e; simp
    · rw [h.2.2 p q (setN_lt hp) (setN_lt hq) (setN_tb hp) (setN_tb hq) e]; simp
structure RlGood (t : Tb) (n : Nat) (r : Rl) : Prop where
  bars : Can r.bars ∧ ∀ i, i < 64 → tb r.bars i = true → i < n ∧ tb r.dwell i = false
  clear : Tog t n r.clear
  dwell : Tog t n r.dwell ∧ r.dwell ≠ 0
  exit : Tog t n r.exit ∧ r.exit ≠ 0
  hold : (1 ≤ r.hold ∧ r.hold ≤ 10 ∧ r.clear ≠ 0) ∨ (r.hold = 0 ∧ r.clear = 0)
  nums : 0 ≤ r.delay ∧ r.delay ≤ 3 ∧ 1 ≤ r.green ∧ r.green ≤ 6 ∧ 0 ≤ r.foot ∧ r.foot ≤ 5 ∧ 1 ≤ r.stay ∧ r.stay ≤ 15
  most : r.most = 0 ∨ (r.stay ≤ r.most ∧ r.most ≤ 44)
  limit : r.delay < r.limit ∧ r.limit ≤ 10004
theorem rl_good {t t' : Tb} (hg : t.groups = t'.groups) (l : Option (List Int)) (i : Int) {n : Nat} (hn : 1 ≤ n) (h8 : n ≤ 8) : RlGood t n (railOf t' l i n) := by
  have nat : ∀ j : Int, ∃ m : Nat, frm l j (n : Int) = m ∧ m < n := fun j => by
    have := frm_range l j (n := (n : Int)) (by omega) (by omega)
    exact ⟨(frm l j n).toNat, by omega, by omega⟩
  obtain ⟨a0, e0, k0⟩ := nat i
  obtain ⟨a1, e1, k1⟩ := nat (w64 (i + 1))
  obtain ⟨a2, e2, k2⟩ := nat (w64 (i + 2))
  obtain ⟨a3, e3, k3⟩ := nat (w64 (i + 3))
  obtain ⟨a5, e5, k5⟩ := nat (w64 (i + 5))
  have en : w64 ((n : Int) + 1) = (n : Int) + 1 := w64_id (by omega) (by omega)
  have r4 := frm_range l (w64 (i + 4)) (n := (n : Int) + 1) (by omega) (by omega)
  have r6 := frm_range l (w64 (i + 6)) (n := 10) (by decide) (by decide)
  have r7 := frm_range l (w64 (i + 7)) (n := 256) (by decide) (by decide)
  have r8 := frm_range l (w64 (i + 8)) (n := 4) (by decide) (by decide)
  have r9 := frm_range l (w64 (i + 9)) (n := 6) (by decide) (by decide)
  have ra := frm_range l (w64 (i + 10)) (n := 6) (by decide) (by decide)
  have rb := frm_range l (w64 (i + 11)) (n := 15) (by decide) (by decide)
  have rd := frm_range l (w64 (i + 13)) (n := 30) (by decide) (by decide)
  have re := frm_range l (w64 (i + 14)) (n := 3) (by decide) (by decide)
  have w6 := w64_id (n := 1 + frm l (w64 (i + 6)) 10) (by omega) (by omega)
  have w9 := w64_id (n := 1 + frm l (w64 (i + 9)) 6) (by omega) (by omega)
  have wb := w64_id (n := 1 + frm l (w64 (i + 11)) 15) (by omega) (by omega)
  have wd := w64_id (n := 1 + frm l (w64 (i + 11)) 15 + frm l (w64 (i + 13)) 30) (by omega) (by omega)
  have w8 := w64_id (n := frm l (w64 (i + 8)) 4 + 1) (by omega) (by omega)
  have hlim : ∃ v : Int, [10000, 400, 20].getD (frm l (w64 (i + 14)) 3).toNat 0 = v ∧ 20 ≤ v ∧ v ≤ 10000 := by
    have : (frm l (w64 (i + 14)) 3).toNat = 0 ∨ (frm l (w64 (i + 14)) 3).toNat = 1 ∨ (frm l (w64 (i + 14)) 3).toNat = 2 := by omega
    rcases this with h | h | h <;> rw [h]
    · exact ⟨10000, rfl, by decide, by decide⟩
    · exact ⟨400, rfl, by decide, by decide⟩
    · exact ⟨20, rfl, by decide, by decide⟩
  obtain ⟨v, hv, v1, v2⟩ := hlim
  have wl := w64_id (n := frm l (w64 (i + 8)) 4 + 1 + v) (by omega) (by omega)
  have td := tog_with hg h8 k0 k1
  have te := tog_with hg h8 k2 k3
  refine ⟨?_, ?_, ?_, ?_, ?_, ?_, ?_, ?_⟩ <;> simp only [railOf, e0, e1, e2, e3, e5, en, w6, w9, wb, wd, w8, hv, wl]
  · have hbits : ∀ j, j < 64 → tb (bAndNot .i64 (bAnd .i64 (frm l (w64 (i + 7)) 256) (w64 (w64 (1 * 2 ^ min (IntKind.u64.wrap (n : Int)).toNat 64) - 1))) (withT t' a0 a1)) j = true → j < n ∧ tb (withT t' a0 a1) j = false := by
      intro j hj h
      rw [tb_andNot _ _ _ hj, tb_and, mask_tb n (by omega) hn j hj] at h
      simp only [Bool.and_eq_true, Bool.not_eq_true', decide_eq_true_eq] at h
      exact ⟨h.1.2, h.2⟩
    refine ⟨?_, hbits⟩
    have e : bAndNot .i64 (bAnd .i64 (frm l (w64 (i + 7)) 256) (w64 (w64 (1 * 2 ^ min (IntKind.u64.wrap (n : Int)).toNat 64) - 1))) (withT t' a0 a1) = IntKind.i64.wrap ((bv (bAnd .i64 (frm l (w64 (i + 7)) 256) (w64 (w64 (1 * 2 ^ min (IntKind.u64.wrap (n : Int)).toNat 64) - 1))) &&& ~~~ bv (withT t' a0 a1)).toNat : Int) := rfl
    rw [e]
    refine can_bits fun j h1 h2 => ?_
    have h3 := tb_andNot (bAnd .i64 (frm l (w64 (i + 7)) 256) (w64 (w64 (1 * 2 ^ min (IntKind.u64.wrap (n : Int)).toNat 64) - 1))) (withT t' a0 a1) j h2
    have h4 := mask_tb n (by omega) hn j h2
    have h5 : ¬ j < n := by omega
    have h6 := tb_and (frm l (w64 (i + 7)) 256) (w64 (w64 (1 * 2 ^ min (IntKind.u64.wrap (n : Int)).toNat 64) - 1)) j
    rw [h4] at h6
    simp only [h5, decide_false, Bool.and_false] at h6
    simp only [tb] at h6
    rw [BitVec.getLsbD_and, h6]; rfl
  · split
    · rename_i hp
      obtain ⟨p, hpn⟩ : ∃ p : Nat, frm l (w64 (i + 4)) ((n : Int) + 1) = p := ⟨(frm l (w64 (i + 4)) ((n : Int) + 1)).toNat, by omega⟩
      rw [hpn] at hp ⊢
      exact (tog_with hg h8 (by omega) k5).1
    · exact tog_zero _ _
  · exact td
  · exact te
  · split
    · rename_i hp
      obtain ⟨p, hpn⟩ : ∃ p : Nat, frm l (w64 (i + 4)) ((n : Int) + 1) = p := ⟨(frm l (w64 (i + 4)) ((n : Int) + 1)).toNat, by omega⟩
      rw [hpn] at hp ⊢
      exact .inl ⟨by omega, by omega, (tog_with hg h8 (by omega) k5).2⟩
    · exact .inr ⟨rfl, rfl⟩
  · omega
  · split
    · right; omega
    · left; rfl
  · omega
theorem tRails (l : Option (List Int)) : ((tableOf l).rails.getD []).length ≤ 2 ∧ ∀ r ∈ (tableOf l).rails.getD [], RlGood (tableOf l) (nT l) r := by
  have e : (tableOf l).rails = mkO (railTo { Tb0 with groups := some (rowsOf' l).1 } l (rowsOf' l).2 ((frm l 176 4).tmod 3) ((frm l 176 4).tmod 3).toNat) := rfl
  have h := Int.tmod_lt_of_pos (frm l 176 4) (b := 3) (by decide)
  rw [e, mkO_getD]
  refine ⟨by rw [railTo_len]; omega, fun d hd => ?_⟩
  rw [railTo, List.mem_map] at hd
  obtain ⟨k, _, rfl⟩ := hd
  exact rl_good rfl _ _ (nT_range l).1 (nT_range l).2
theorem tBuses (l : Option (List Int)) : ((tableOf l).buses.getD []).length ≤ 2 ∧ ∀ b ∈ (tableOf l).buses.getD [], (Can b.set ∧ b.set ≠ 0 ∧ ∀ i, i < 64 → tb b.set i = true → i < nT l) ∧ 1 ≤ b.lock ∧ b.lock ≤ 30 := by
  have e : (tableOf l).buses = mkO (busTo l (rowsOf' l).2 (frm l 177 3) (frm l 177 3).toNat) := rfl
  have r := frm_range l 177 (n := 3) (by decide) (by decide)
  rw [e, mkO_getD]
  refine ⟨by rw [busTo_len]; omega, fun b hb => ?_⟩
  rw [busTo, List.mem_map] at hb
  obtain ⟨k, _, rfl⟩ := hb
  have hnT : nT l = (rowsOf' l).2 := rfl
  have hn := nT_range l
  rw [hnT] at hn ⊢
  generalize (rowsOf' l).2 = n at *
  generalize frm l 177 3 - (k : Int) = i
  have r1 := frm_range l (331 + 2 * i) (n := 30) (by decide) (by decide)
  have w1 := w64_id (n := 1 + frm l (331 + 2 * i) 30) (by omega) (by omega)
  have r0 := frm_range l (330 + 2 * i) (n := 256) (by decide) (by decide)
  generalize hx : bAnd .i64 (frm l (330 + 2 * i) 256) (w64 (w64 (1 * 2 ^ min (IntKind.u64.wrap (n : Int)).toNat 64) - 1)) = x
  have hbits : ∀ j, j < 64 → tb x j = true → j < n := by
    intro j hj h
    rw [← hx, tb_and, mask_tb n (by omega) hn.1 j hj] at h
    simp only [Bool.and_eq_true, decide_eq_true_eq] at h
    exact h.2
  have hcan : Can x := by
    have e : x = IntKind.i64.wrap ((bv (frm l (330 + 2 * i) 256) &&& bv (w64 (w64 (1 * 2 ^ min (IntKind.u64.wrap (n : Int)).toNat 64) - 1))).toNat : Int) := hx.symm
    rw [e]
    refine can_bits fun j h1 h2 => ?_
    have h4 := mask_tb n (by omega) hn.1 j h2
    have h5 : ¬ j < n := by omega
    simp only [h5, decide_false, tb] at h4
    rw [BitVec.getLsbD_and, h4, Bool.and_false]
  refine ⟨?_, ?_⟩
  · simp only [busOf, hx]
    split
    · exact ⟨hcan, by omega, hbits⟩
    · refine ⟨⟨by decide, by decide⟩, by decide, fun j hj h => ?_⟩
      have : ∀ j, j < 64 → tb 1 j = decide (j = 0) := by decide +kernel
      rw [this j hj] at h
      have := of_decide_eq_true h; omega
  · simp only [busOf, w1]; omega
theorem t_may (l : Option (List Int)) : mayT (tableOf l) = true := by
  have hln := (tableOf_ok l).ln
  have hG := groupsN_le l
  obtain ⟨d1, d2⟩ := tDets l
  obtain ⟨r1, r2⟩ := tRails l
  obtain ⟨b1, b2⟩ := tBuses l
  have hn := nT_range l
  have m1 : (tableOf l).phases.all mayPh = true := by
    rw [List.all_eq_true]
    intro x hx
    obtain ⟨i, hi⟩ := List.mem_iff_getElem?.1 hx
    have h8 : i < 8 := by have := (List.getElem?_eq_some_iff.1 hi).1; rw [hln.phases] at this; exact this
    have e := hln.ph_get h8
    rw [hi] at e
    have e := Option.some.inj e
    rw [e, tph l h8]
    split
    · exact ph_may_good (ph_good _ _)
    · decide
  have m2 : (decide ((((tableOf l).groups.getD []).length : Int) ≤ 4) && ((tableOf l).groups.getD []).all mayGr) = true := by
    have e : (tableOf l).groups.getD [] = (rowsTo l (groupsN l) (groupsN l)).1 := rfl
    have h1 : (((rowsTo l (groupsN l) (groupsN l)).1).length : Int) ≤ 4 := by rw [rowsTo_len]; omega
    rw [e, Bool.and_eq_true, decide_eq_true_eq]
    refine ⟨h1, List.all_eq_true.2 fun g hg => ?_⟩
    have hs := rowsTo_small l (groupsN l) (groupsN l) g hg
    have he := rows_elems l (groupsN l) (by omega) (groupsN l) (Nat.le_refl _) g hg
    have hw : ∀ x ∈ g.a.getD [] ++ g.b.getD [], wI 7 x = true := fun x hx => by
      have := he x hx
      simp only [wI, Bool.and_eq_true, decide_eq_true_eq]; omega
    simp only [mayGr, mayRow, Bool.and_eq_true, decide_eq_true_eq, List.all_eq_true, List.all_cons, List.all_nil, Bool.and_true]
    exact ⟨⟨by omega, fun x hx => hw x (List.mem_append_left _ hx)⟩, by omega, fun x hx => hw x (List.mem_append_right _ hx)⟩
  have m3 : (tableOf l).conflict.all (wI 255) = true := List.all_eq_true.2 fun x hx => can_wI (con_can _ x hx)
  have m4 : (decide ((((tableOf l).detectors.getD []).length : Int) ≤ 16) && ((tableOf l).detectors.getD []).all mayDet) = true := by
    rw [Bool.and_eq_true, decide_eq_true_eq]
    refine ⟨by omega, List.all_eq_true.2 fun d hd => ?_⟩
    obtain ⟨g1, ⟨g2, g3, g4, g5⟩, g6, _⟩ := d2 d hd
    simp only [mayDet, g2, g3, g4, g5, List.all_cons, List.all_nil, Bool.and_true, Bool.true_and, wI, Bool.and_eq_true, decide_eq_true_eq]
    omega
  have m5 : (decide ((((tableOf l).rails.getD []).length : Int) ≤ 4) && ((tableOf l).rails.getD []).all mayRl) = true := by
    rw [Bool.and_eq_true, decide_eq_true_eq]
    refine ⟨by omega, List.all_eq_true.2 fun d hd => ?_⟩
    obtain ⟨g1, g2, g3, g4, g5, g6, g7, g8⟩ := r2 d hd
    have k1 := can_wI g1.1
    have k2 := can_wI g2.1
    have k3 := can_wI g3.1.1
    have k4 := can_wI g4.1.1
    simp only [mayRl, k1, k2, k3, k4, List.all_cons, List.all_nil, Bool.and_true, Bool.true_and]
    simp only [wI, Bool.and_eq_true, decide_eq_true_eq]
    omega
  have m6 : (decide ((((tableOf l).buses.getD []).length : Int) ≤ 4) && ((tableOf l).buses.getD []).all mayBs) = true := by
    rw [Bool.and_eq_true, decide_eq_true_eq]
    refine ⟨by omega, List.all_eq_true.2 fun d hd => ?_⟩
    obtain ⟨⟨g1, _⟩, g2⟩ := b2 d hd
    have k1 := can_wI g1
    simp only [mayBs, k1, List.all_cons, List.all_nil, Bool.and_true, Bool.true_and]
    simp only [wI, Bool.and_eq_true, decide_eq_true_eq]
    omega
  have m7 : [(tableOf l).extend, (tableOf l).budget, (tableOf l).start, (tableOf l).revert, (tableOf l).least].all (wI 9999) = true := by
    have q1 := frm_range l 178 (n := 12) (by decide) (by decide)
    have q2 := frm_range l 179 (n := 40) (by decide) (by decide)
    have q3 := frm_range l 180 (n := 8) (by decide) (by decide)
    have q4 := frm_range l 181 (n := 8) (by decide) (by decide)
    have q5 := frm_range l 182 (n := 12) (by decide) (by decide)
    have f1 : (tableOf l).extend = frm l 178 12 := rfl
    have f2 : (tableOf l).budget = frm l 179 40 := rfl
    have f3 : (tableOf l).start = frm l 180 8 := rfl
    have f4 : (tableOf l).revert = frm l 181 8 := rfl
    have f5 : (tableOf l).least = frm l 182 12 := rfl
    rw [f1, f2, f3, f4, f5]
    simp only [List.all_cons, List.all_nil, Bool.and_true, wI, Bool.and_eq_true, decide_eq_true_eq]
    omega
  have m8 : (tableOf l).flash.all (wI 2) = true := by
    obtain ⟨q, hq⟩ := tfl' l
    rw [List.all_eq_true]
    intro x hx
    obtain ⟨i, hi⟩ := List.mem_iff_getElem?.1 hx
    have h8 : i < 8 := by have := (List.getElem?_eq_some_iff.1 hi).1; rw [hln.flash] at this; exact this
    have e : flAt (tableOf l) i = x := by rw [flAt, List.getD_eq_getElem?_getD, hi]; rfl
    rw [← e, hq i h8]
    split
    · decide
    · split <;> decide
  have m9 : [(tableOf l).window, (tableOf l).share].all (wI 2147483647) = true := by
    have q1 := frm_range l 183 (n := 4) (by decide) (by decide)
    have f1 : (tableOf l).share = frm l 183 4 := rfl
    have f2 : 0 ≤ (tableOf l).window ∧ (tableOf l).window ≤ 2147483647 := by
      have e : (tableOf l).window = if (railTo { Tb0 with groups := some (rowsOf' l).1 } l (rowsOf' l).2 ((frm l 176 4).tmod 3) ((frm l 176 4).tmod 3).toNat) = [] then 0 else winTo (tabPre l) (rowsOf' l).2 := rfl
      rw [e]; split
      · exact ⟨by decide, by decide⟩
      · exact winTo_range _ _
    rw [f1]
    simp only [List.all_cons, List.all_nil, Bool.and_true, wI, Bool.and_eq_true, decide_eq_true_eq]
    omega
  rw [mayT, m1, m2, m3, m4, m5, m6, m7, m8, m9]; rfl
theorem table_good (l : Option (List Int)) : checkE (tableOf l) = (0, 0) := by
  obtain ⟨d1, d2⟩ := tDets l
  obtain ⟨r1, r2⟩ := tRails l
  obtain ⟨b1, b2⟩ := tBuses l
  have hn := nT_range l
  have hon : ∀ p, p ∈ setN (onI (tableOf l)) → p < nT l := fun p hp => by
    have := setN_tb hp; rw [tOn_tb] at this; exact of_decide_eq_true this
  rw [checkE, if_pos (t_may l)]
  have f1 : (firstN 7 8 fun p => tb (onI (tableOf l)) p && phBad (phAt (tableOf l) p)) = (0, 0) := firstS_none (List.any_eq_false.2 fun p hp => by
    rw [tph l (setN_lt hp), if_pos (hon p hp), ph_bad_good (ph_good _ _)]; simp)
  have f2 := table_ring l
  have f3 : (firstN 9 8 fun p => tb (onI (tableOf l)) p && confBad (tableOf l) (onI (tableOf l)) p) = (0, 0) := firstS_none (List.any_eq_false.2 fun p hp => by
    rw [conf_good l _ (setN_lt hp)]; simp)
  have f4 : (firstN 10 ((tableOf l).detectors.getD []).length fun k => detBad (onI (tableOf l)) (dtAt (tableOf l) k)) = (0, 0) := first_none (fun k hk => by
    have hg := d2 _ (List.getElem_mem hk)
    have e : dtAt (tableOf l) k = ((tableOf l).detectors.getD [])[k] := by rw [dtAt, List.getD_eq_getElem?_getD, List.getElem?_eq_getElem hk]; rfl
    rw [e]
    generalize ((tableOf l).detectors.getD [])[k] = d at hg
    obtain ⟨m, hm⟩ : ∃ m : Nat, d.phase = m := ⟨d.phase.toNat, by have := hg.phase; omega⟩
    have := hg.phase
    rw [detBad, hg.order, hm, hasS_tb (by omega), tOn_tb]
    simp; omega) _
  have f5 : (firstN 11 ((tableOf l).rails.getD []).length fun k => railBad (tableOf l) (onI (tableOf l)) (rlN (tableOf l) k)) = (0, 0) := first_none (fun k hk => by
    have hg := r2 _ (List.getElem_mem hk)
    have e : rlN (tableOf l) k = ((tableOf l).rails.getD [])[k] := by rw [rlN, List.getD_eq_getElem?_getD, List.getElem?_eq_getElem hk]; rfl
    rw [e]
    generalize ((tableOf l).rails.getD [])[k] = r at hg
    obtain ⟨g1, g2, g3, g4, g5, g6, g7, g8⟩ := hg
    have c1 := tog_clash g2
    have c2 := tog_clash g3.1
    have c3 := tog_clash g4.1
    have hin : (bAndNot .i64 (bOr .i64 (bOr .i64 (bOr .i64 r.bars r.clear) r.dwell) r.exit) (onI (tableOf l)) != 0) = false := by
      rw [bne_eq_false_iff_eq, andNot_zero]
      intro i hi
      rw [tb_or, tb_or, tb_or, tOn_tb]
      by_cases h : i < nT l
      · simp [h]
      · have x1 : tb r.bars i = false := by
          cases hb : tb r.bars i
          · rfl
          · exact absurd (g1.2 i hi hb).1 h
        have x2 : ∀ s, Tog (tableOf l) (nT l) s → tb s i = false := fun s hs => by
          rcases Nat.lt_or_ge i 8 with h8 | h8
          · cases hb : tb s i
            · rfl
            · exact absurd (hs.2.1 i h8 hb) h
          · exact can_high hs.1 h8 hi
        rw [x1, x2 _ g2, x2 _ g3.1, x2 _ g4.1]; rfl
    have hdb : (bAnd .i64 r.dwell r.bars != 0) = false := by
      rw [bne_eq_false_iff_eq, and_zero]
      intro i hi
      cases hb : tb r.bars i
      · simp
      · rw [(g1.2 i hi hb).2]; rfl
    have e1 : (r.dwell == 0) = false := by simpa using g3.2
    have e2 : (r.exit == 0) = false := by simpa using g4.2
    rw [railBad, hin, hdb, c1.1, c2.1, c3.1, c3.2, e1, e2]
    have hb : ∀ a b : Bool, (a != b) = false ↔ (a = true ↔ b = true) := by intro a b; cases a <;> cases b <;> simp
    simp only [Bool.false_or, Bool.or_eq_false_iff, Bool.and_eq_false_iff, decide_eq_false_iff_not, hb, decide_eq_true_eq, bne_iff_ne, ne_eq]
    rcases g5 with g5 | g5
    · simp only [g5.2.2, not_false_eq_true, iff_true]; omega
    · simp only [g5.2, not_true_eq_false, iff_false]; omega) _
  have f6 : (firstN 12 ((tableOf l).buses.getD []).length fun k => busBad (onI (tableOf l)) (bsN (tableOf l) k)) = (0, 0) := first_none (fun k hk => by
    have hg := b2 _ (List.getElem_mem hk)
    have e : bsN (tableOf l) k = ((tableOf l).buses.getD [])[k] := by rw [bsN, List.getD_eq_getElem?_getD, List.getElem?_eq_getElem hk]; rfl
    rw [e]
    generalize ((tableOf l).buses.getD [])[k] = b at hg
    obtain ⟨⟨g1, g2, g3⟩, g4, g5⟩ := hg
    have hin : (bAndNot .i64 b.set (onI (tableOf l)) != 0) = false := by
      rw [bne_eq_false_iff_eq, andNot_zero]
      intro i hi
      rw [tOn_tb]
      cases hb : tb b.set i
      · simp
      · simp [g3 i hi hb]
    have e1 : (b.set == 0) = false := by simpa using g2
    rw [busBad, hin, e1]
    simp; omega) _
  have f7 : (firstN 13 8 fun p => tb (onI (tableOf l)) p && flBad (tableOf l) (onI (tableOf l)) p) = (0, 0) := firstS_none (List.any_eq_false.2 fun p hp => by
    obtain ⟨q, hq⟩ := tfl' l
    have h8 := setN_lt hp
    have hpn := hon p hp
    have e1 : (flAt (tableOf l) p == 0) = false := by
      rw [hq p h8]; split
      · rfl
      · first | rfl | (rw [if_pos hpn]; rfl)
    rw [flBad, e1, Bool.false_or, Bool.not_eq_true, List.any_eq_false]
    intro q' hq'
    have q8 := setN_lt hq'
    rw [flQ]
    intro h
    simp only [Bool.and_eq_true, bne_iff_ne, ne_eq, beq_iff_eq] at h
    have h1 := h.1.2
    have h2 := h.2
    rw [hq p h8] at h1
    rw [hq q' q8] at h2
    have hpq : p = q := by
      split at h1
      · rename_i hh; exact hh.2
      · first | omega | (split at h1 <;> omega)
    have hqq : q' = q := by
      split at h2
      · rename_i hh; exact hh.2
      · first | omega | (split at h2 <;> omega)
    exact h.1.1 (by omega))
  rw [rulesE, f1, f2, f3, f4, f5, f6, f7]
  rfl
end Go.Eng
namespace Go.Eng
set_option linter.unusedVariables false
set_option linter.unusedSimpArgs false
set_option linter.unnecessarySimpa false
open Go
set_option linter.unusedVariables false
set_option linter.unusedSimpArgs false
set_option maxRecDepth 10000
set_option maxHeartbeats 4000000
theorem capS_le {K : Int} : ∀ {l : List Int}, (∀ x ∈ l, capI x ≤ K) → capS l ≤ K * l.length
  | [], _ => by simp [capS]
  | x :: l, h => by
    have h1 := h x List.mem_cons_self
    have ih := capS_le (K := K) (l := l) fun y hy => h y (List.mem_cons_of_mem _ hy)
    simp only [capS, List.map_cons, List.sum_cons, List.length_cons] at *
    have e : K * (((l.length + 1 : Nat)) : Int) = K * (l.length : Int) + K := by
      rw [Int.natCast_add, Int.mul_add]; simp
    rw [e]; omega
theorem capS_ge {x : Int} : ∀ {l : List Int}, x ∈ l → capI x ≤ capS l
  | y :: l, h => by
    have h1 := capS_nn l
    have h2 := capI_range y
    rcases List.mem_cons.1 h with rfl | h
    · simp only [capS, List.map_cons, List.sum_cons] at *; omega
    · have := capS_ge h
      simp only [capS, List.map_cons, List.sum_cons] at *; omega
theorem capI_le {x K : Int} (h0 : 0 ≤ K) (h : x ≤ K) : capI x ≤ K := by rw [capI_eq]; omega
theorem mostI_le {K : Int} (h0 : 0 ≤ K) : ∀ {l : List Int}, (∀ x ∈ l, x ≤ K) → mostI l ≤ K
  | [], _ => by rw [mostI_nil]; exact h0
  | x :: l, h => by
    have h1 := h x List.mem_cons_self
    have ih := mostI_le h0 (l := l) fun y hy => h y (List.mem_cons_of_mem _ hy)
    rw [mostI_cons]; omega
theorem rowN_add (a b : Nat) : rowN 0 (a + b) = rowN 0 a ++ rowN a b := by
  simp only [rowN, List.range_add, List.map_append, List.map_map]
  congr 1
  apply List.map_congr_left
  intro j _
  simp only [Function.comp]; omega
theorem spots_all (l : Option (List Int)) (G : Nat) (hG : G ≤ 8) : ∀ g, g ≤ G → ∀ L : List Gr, (∀ (j : Nat) (gr : Gr), (rowsTo l G g).1[j]? = some gr → L[j]? = some gr) → (spotsTo L g).map Sp.p = rowN 0 (rowsTo l G g).2
  | 0, _, L, _ => by simp [spotsTo, rowsTo, rowN]
  | g + 1, hg, L, hL => by
    obtain ⟨gr, m, h1, h2, h3, h4⟩ := rowsTo_new l G hG (g := g) (by omega)
    have hlen := rowsTo_len l G g
    have hat : L[g]? = some gr := hL g gr (by rw [h2, List.getElem?_append_right (by omega), hlen]; simp)
    have ih := spots_all l G hG g (by omega) L fun j gr' hj => hL j gr' (by rw [h2, List.getElem?_append_left (List.getElem?_eq_some_iff.1 hj).1, hj])
    have hel := rows_elems l G hG (g + 1) hg gr (by rw [h2]; simp)
    rw [spotsTo_next hat, List.map_append, ih, grSpots_map hel, h4, h3, rowN_add]
theorem t_spots (l : Option (List Int)) : (spots (tableOf l)).map Sp.p = rowN 0 (nT l) := by
  have hG := groupsN_le l
  have e : (tableOf l).groups.getD [] = (rowsTo l (groupsN l) (groupsN l)).1 := rfl
  rw [spots, e, rowsTo_len]
  exact spots_all l _ (by omega) _ (Nat.le_refl _) _ fun _ _ h => h
theorem t_spots_len (l : Option (List Int)) : (spots (tableOf l)).length ≤ 8 := by
  have h := congrArg List.length (t_spots l)
  have := (nT_range l).2
  rw [List.length_map] at h
  rw [h, rowN, List.length_map, List.length_range]; exact this
theorem t_groups_len (l : Option (List Int)) : 1 ≤ ((tableOf l).groups.getD []).length ∧ ((tableOf l).groups.getD []).length ≤ 3 := by
  have hG := groupsN_le l
  have e : (tableOf l).groups.getD [] = (rowsTo l (groupsN l) (groupsN l)).1 := rfl
  rw [e, rowsTo_len]; exact hG
theorem t_rw (l : Option (List Int)) : (tableOf l).Rw := by
  have hG := groupsN_le l
  exact rows_elems l _ (by omega) _ (Nat.le_refl _)
theorem t_nums (l : Option (List Int)) : (0 ≤ (tableOf l).extend ∧ (tableOf l).extend ≤ 11) ∧ (0 ≤ (tableOf l).revert ∧ (tableOf l).revert ≤ 7) ∧ (0 ≤ (tableOf l).share ∧ (tableOf l).share ≤ 3) := by
  have r1 := frm_range l 178 (n := 12) (by decide) (by decide)
  have r2 := frm_range l 181 (n := 8) (by decide) (by decide)
  have r3 := frm_range l 183 (n := 4) (by decide) (by decide)
  have e1 : (tableOf l).extend = frm l 178 12 := rfl
  have e2 : (tableOf l).revert = frm l 181 8 := rfl
  have e3 : (tableOf l).share = frm l 183 4 := rfl
  omega
theorem t_hasR (l : Option (List Int)) {p : Int} (h : hasR (onI (tableOf l)) p = true) : 0 ≤ p ∧ p < nT l ∧ PhGood (phAt (tableOf l) p) := by
  have hr := hasR_range h
  obtain ⟨k, rfl⟩ : ∃ k : Nat, p = k := ⟨p.toNat, by omega⟩
  rw [hasR_tb (by omega), tOn_tb] at h
  have hk := of_decide_eq_true h
  refine ⟨hr.1, by omega, ?_⟩
  rw [tph l (by omega), if_pos hk]; exact ph_good _ _
theorem t_phs (l : Option (List Int)) {p : Nat} (hp : p ∈ setN (onI (tableOf l))) : PhGood (phAt (tableOf l) p) := by
  have h8 := setN_lt hp
  have := setN_tb hp; rw [tOn_tb] at this
  rw [tph l h8, if_pos (of_decide_eq_true this)]; exact ph_good _ _
theorem serve_small (l : Option (List Int)) (p : Int) : 0 ≤ serveI (tableOf l) p ∧ serveI (tableOf l) p ≤ 93 ∧ (hasR (onI (tableOf l)) p = true → 8 ≤ serveI (tableOf l) p) := by
  obtain ⟨n1, n2, n3⟩ := t_nums l
  cases h : hasR (onI (tableOf l)) p
  · have hx : serveI (tableOf l) p = 0 := if_neg (by rw [h]; decide)
    rw [hx]; refine ⟨by omega, by omega, fun h => by cases h⟩
  · obtain ⟨_, _, hg⟩ := t_hasR l h
    have hx : serveI (tableOf l) p = _ := if_pos h
    obtain ⟨g1, g2, g3, g4, g5, g6, g7, g8, g9, g10⟩ := hg
    generalize phAt (tableOf l) p = x at *
    generalize tableOf l = t at *
    rw [hx, sumI_eq]
    simp only [capS, List.map_cons, List.map_nil, List.sum_cons, List.sum_nil, mostI_cons, mostI_nil, sum2_eq, addI_eq, capI_eq]
    refine ⟨by omega, by omega, fun _ => by omega⟩
theorem pass_small (l : Option (List Int)) (g : Int) : 0 ≤ passI (tableOf l) g ∧ passI (tableOf l) g ≤ 752 := by
  refine ⟨(passI_range _ _).1, ?_⟩
  rw [passI]; split
  · omega
  · rw [sumI_eq, passTo, List.take_length]
    have hl := t_spots_len l
    have h1 : capS (((spots (tableOf l)).filter fun x => x.group == g).map fun x => serveI (tableOf l) x.p) ≤ 93 * ((((spots (tableOf l)).filter fun x => x.group == g).map fun x => serveI (tableOf l) x.p).length : Int) :=
      capS_le fun x hx => by
        obtain ⟨y, _, rfl⟩ := List.mem_map.1 hx
        exact capI_le (by omega) (serve_small l _).2.1
    have h2 : (((spots (tableOf l)).filter fun x => x.group == g).map fun x => serveI (tableOf l) x.p).length ≤ 8 := by
      rw [List.length_map]; exact Nat.le_trans (List.length_filter_le _ _) hl
    have c8 : capI 8 = 8 := rfl
    generalize ((spots (tableOf l)).filter fun x => x.group == g).map (fun x => serveI (tableOf l) x.p) = L at *
    simp only [capS, List.map_cons, List.sum_cons, c8] at *
    omega
theorem free_eq {t : Tb} {p : Int} (h1 : (whereR t p).2 = true) (h2 : hasR (onI t) p = true) : freeI t p = freL t p (t.groups.getD []).length := if_pos (by simp [h1, h2])
theorem free_small (l : Option (List Int)) (p : Int) : 0 ≤ freeI (tableOf l) p ∧ freeI (tableOf l) p ≤ 3008 := by
  have hg := t_groups_len l
  rw [freeI]; split
  · have h := capS_le (K := 752) (l := passI (tableOf l) (whereR (tableOf l) p).1.group :: (List.range ((tableOf l).groups.getD []).length).map fun (g : Nat) => passI (tableOf l) g) (fun x hx => by
      rcases List.mem_cons.1 hx with rfl | hx
      · exact capI_le (by omega) (pass_small l _).2
      · obtain ⟨g, _, rfl⟩ := List.mem_map.1 hx
        exact capI_le (by omega) (pass_small l _).2)
    have hn := capS_nn (passI (tableOf l) (whereR (tableOf l) p).1.group :: (List.range ((tableOf l).groups.getD []).length).map fun (g : Nat) => passI (tableOf l) g)
    rw [List.length_cons, List.length_map, List.length_range] at h
    rw [sumI_eq]; omega
  · omega
theorem clear_small (l : Option (List Int)) : 0 ≤ clearI (tableOf l) ∧ clearI (tableOf l) ≤ 17 := by
  rw [← grt_clr]
  refine ⟨mostI_nn _, mostI_le (by omega) fun x hx => ?_⟩
  obtain ⟨p, hp, rfl⟩ := List.mem_map.1 hx
  obtain ⟨g1, g2, g3, g4, g5, g6, g7, g8, g9, g10⟩ := t_phs l hp
  refine capI_le (by omega) ?_
  rw [clrE, addI_eq]; simp only [capI_eq]; omega
theorem rl_nums (l : Option (List Int)) {k : Int} (h0 : 0 ≤ k) (h1 : k < (nRl (tableOf l) : Int)) : RlGood (tableOf l) (nT l) (rlAt (tableOf l) k) := by
  have h := rlAt_get (t := tableOf l) h0 h1
  exact (tRails l).2 _ (List.mem_of_getElem? h)
theorem entry_small (l : Option (List Int)) (k : Int) : 0 ≤ entryI (tableOf l) k ∧ entryI (tableOf l) k ≤ 300 := by
  obtain ⟨n1, n2, n3⟩ := t_nums l
  by_cases h : k < 0 ∨ ((((tableOf l).rails.getD []).length : Int)) ≤ k
  · have : entryI (tableOf l) k = 0 := if_pos h
    omega
  · have hx : entryI (tableOf l) k = _ := if_neg h
    have hg := rl_nums l (k := k) (by omega) (by simp only [nRl]; omega)
    have hc := clear_small l
    have c60 : capI 60 = 60 := rfl
    obtain ⟨_, _, _, _, g5, g6, g7, _⟩ := hg
    generalize rlAt (tableOf l) k = x at *
    generalize clearI (tableOf l) = c at *
    generalize tableOf l = t at *
    rw [hx, sumI_eq]
    simp only [capS, List.map_cons, List.map_nil, List.sum_cons, List.sum_nil, capI_eq]
    omega
theorem over_small (l : Option (List Int)) : 0 ≤ overI (tableOf l) ∧ overI (tableOf l) ≤ 500 := by
  obtain ⟨n1, n2, n3⟩ := t_nums l
  rw [overI]; split
  · omega
  · have h1 : mostI (stayTo (tableOf l) ((tableOf l).rails.getD []).length) ≤ 315 := mostI_le (by omega) fun x hx => by
      obtain ⟨k, hk, rfl⟩ := List.mem_map.1 hx
      have he := entry_small l k
      have hg := rl_nums l (k := k) (by omega) (by have := List.mem_range.1 hk; simp only [nRl]; omega)
      obtain ⟨_, _, _, _, g5, g6, g7, _⟩ := hg
      rw [sum2_eq, addI_eq]; simp only [capI_eq]; omega
    have h2 : mostI (needOf (tableOf l) (listS (onI (tableOf l)))) ≤ 36 := by
      rw [← grt_ovr]
      refine mostI_le (by omega) fun x hx => ?_
      obtain ⟨p, hp, rfl⟩ := List.mem_map.1 hx
      obtain ⟨g1, g2, g3, g4, g5, g6, g7, g8, g9, g10⟩ := t_phs l hp
      refine capI_le (by omega) ?_
      rw [ovrE, mxI_eq, bftE, addI_eq]; simp only [capI_eq]; omega
    have h3 := clear_small l
    have h4 := mostI_nn (stayTo (tableOf l) ((tableOf l).rails.getD []).length)
    have h5 := mostI_nn (needOf (tableOf l) (listS (onI (tableOf l))))
    generalize mostI (stayTo (tableOf l) ((tableOf l).rails.getD []).length) = a at *
    generalize mostI (needOf (tableOf l) (listS (onI (tableOf l)))) = b at *
    generalize clearI (tableOf l) = c at *
    generalize tableOf l = t at *
    rw [sumI_eq]
    simp only [capS, List.map_cons, List.map_nil, List.sum_cons, List.sum_nil, capI_eq]
    omega
theorem wait_small (l : Option (List Int)) (p : Int) : freeI (tableOf l) p ≤ waitI (tableOf l) p ∧ waitI (tableOf l) p ≤ 20000 := by
  obtain ⟨n1, n2, n3⟩ := t_nums l
  have hf := free_small l p
  have ho := over_small l
  rw [waitI]; split
  · omega
  · generalize freeI (tableOf l) p = a at *
    generalize overI (tableOf l) = b at *
    generalize tableOf l = t at *
    have e1 : sumI [t.share, 1] = t.share + 1 := by rw [sum2_eq, addI_eq]; simp only [capI_eq]; omega
    have e2 : sumI [b, a, 2] = b + a + 2 := by rw [sumI_eq]; simp only [capS, List.map_cons, List.map_nil, List.sum_cons, List.sum_nil, capI_eq]; omega
    have h1 : (t.share + 1) * (b + a + 2) ≤ 4 * 3510 := Int.mul_le_mul (by omega) (by omega) (by omega) (by omega)
    have h2 : 1 * (b + a + 2) ≤ (t.share + 1) * (b + a + 2) := Int.mul_le_mul (by omega) (Int.le_refl _) (by omega) (by omega)
    have e3 : mulI (sumI [t.share, 1]) (sumI [b, a, 2]) = (t.share + 1) * (b + a + 2) := by
      rw [e1, e2, mulI_eq, cap_id (n := t.share + 1) (by omega), cap_id (n := b + a + 2) (by omega)]; omega
    rw [e3, sum2_eq, addI_eq]; simp only [capI_eq]; omega
end Go.Eng
namespace Go.Eng
set_option linter.unusedVariables false
set_option linter.unusedSimpArgs false
set_option linter.unnecessarySimpa false
open Go
set_option linter.unusedVariables false
set_option linter.unusedSimpArgs false
set_option maxRecDepth 10000
set_option maxHeartbeats 4000000
theorem where_ok (l : Option (List Int)) {p : Nat} (hp : p < nT l) : (whereR (tableOf l) p).2 = true := by
  have hm : (p : Int) ∈ (spots (tableOf l)).map Sp.p := by
    rw [t_spots, rowN, List.mem_map]; exact ⟨p, List.mem_range.2 hp, by simp⟩
  obtain ⟨x, hx, he⟩ := List.mem_map.1 hm
  rw [whereR]
  cases h : (spots (tableOf l)).find? (fun x => x.p == (p : Int)) with
  | some y => rfl
  | none =>
    rw [List.find?_eq_none] at h
    exact absurd (by simp [he]) (h x hx)
theorem where_mem {t : Tb} {p : Int} (h : (whereR t p).2 = true) : (whereR t p).1 ∈ spots t ∧ (whereR t p).1.p = p := by
  rw [whereR] at h ⊢
  cases hf : (spots t).find? (fun x => x.p == p) with
  | none => rw [hf] at h; cases h
  | some y => exact ⟨List.mem_of_find?_eq_some hf, by have := List.find?_some hf; simpa using this⟩
theorem spots_grp {t : Tb} {x : Sp} (h : x ∈ spots t) : 0 ≤ x.group ∧ x.group < ((t.groups.getD []).length : Int) := by
  simp only [spots, spotsTo, List.mem_flatMap] at h
  obtain ⟨⟨gr, g⟩, hm, hx⟩ := h
  have hg := grSpots_group hx
  have hlt := (List.mem_zipIdx hm).2.1
  rw [List.length_take] at hlt
  rw [hg]; omega
theorem pass_own (l : Option (List Int)) {p : Int} (h : (whereR (tableOf l) p).2 = true) : 8 + serveI (tableOf l) p ≤ passI (tableOf l) (whereR (tableOf l) p).1.group := by
  obtain ⟨h1, h2⟩ := where_mem h
  have hg := spots_grp h1
  have hs := serve_small l p
  rw [passI, if_neg (by omega), sumI_eq, passTo, List.take_length]
  have hge := capS_ge (x := serveI (tableOf l) p) (l := ((spots (tableOf l)).filter fun x => x.group == (whereR (tableOf l) p).1.group).map fun x => serveI (tableOf l) x.p)
    (List.mem_map.2 ⟨_, List.mem_filter.2 ⟨h1, by simp⟩, by rw [h2]⟩)
  have c8 : capI 8 = 8 := rfl
  rw [cap_id (by omega)] at hge
  generalize ((spots (tableOf l)).filter fun x => x.group == (whereR (tableOf l) p).1.group).map (fun x => serveI (tableOf l) x.p) = L at *
  simp only [capS, List.map_cons, List.sum_cons, c8] at *
  omega
def pasS (t : Tb) (n : Nat) : Int := ((List.range n).map fun (g : Nat) => passI t g).sum
theorem pasS_next (t : Tb) (n : Nat) : pasS t (n + 1) = pasS t n + passI t n := by simp [pasS, List.range_succ]
theorem pasS_range (l : Option (List Int)) : ∀ n, 0 ≤ pasS (tableOf l) n ∧ pasS (tableOf l) n ≤ 752 * n
  | 0 => by simp [pasS]
  | n + 1 => by
    have := pasS_range l n
    have := pass_small l n
    rw [pasS_next]; omega
theorem pasS_ge (l : Option (List Int)) {g : Nat} : ∀ n, g < n → passI (tableOf l) g ≤ pasS (tableOf l) n
  | n + 1, h => by
    have h1 := pasS_range l n
    have h2 := pass_small l n
    rw [pasS_next]
    by_cases e : g = n
    · subst e; omega
    · have := pasS_ge l (g := g) n (by omega); omega
theorem freL_sum (l : Option (List Int)) (p : Int) : ∀ n, n ≤ 8 → freL (tableOf l) p n = passI (tableOf l) (whereR (tableOf l) p).1.group + pasS (tableOf l) n
  | 0, _ => by rw [freL_zero]; simp [pasS]
  | n + 1, h => by
    have ih := freL_sum l p n (by omega)
    have h1 := pasS_range l n
    have h2 := pass_small l n
    have h3 := pass_small l (whereR (tableOf l) p).1.group
    rw [freL_next, ih, pasS_next, addI_eq]; simp only [capI_eq]; omega
theorem free_sum (l : Option (List Int)) {p : Nat} (hp : p < nT l) :
    freeI (tableOf l) p = pasS (tableOf l) ((tableOf l).groups.getD []).length + passI (tableOf l) (whereR (tableOf l) p).1.group ∧ 2 * serveI (tableOf l) p ≤ freeI (tableOf l) p ∧ 8 ≤ freeI (tableOf l) p := by
  have hw := where_ok l hp
  have h8 := (nT_range l).2
  have hh : hasR (onI (tableOf l)) p = true := by rw [hasR_tb (by omega), tOn_tb]; simp [hp]
  have hg := t_groups_len l
  have e : freeI (tableOf l) p = pasS (tableOf l) ((tableOf l).groups.getD []).length + passI (tableOf l) (whereR (tableOf l) p).1.group := by
    rw [free_eq hw hh, freL_sum l p _ (by omega)]; omega
  have h1 := pass_own l hw
  have h2 := spots_grp (where_mem hw).1
  have hs := serve_small l p
  obtain ⟨g, hge⟩ : ∃ g : Nat, (whereR (tableOf l) p).1.group = g := ⟨(whereR (tableOf l) p).1.group.toNat, by omega⟩
  have h3 : passI (tableOf l) (whereR (tableOf l) p).1.group ≤ pasS (tableOf l) ((tableOf l).groups.getD []).length := by
    rw [hge]; exact pasS_ge l (g := g) ((tableOf l).groups.getD []).length (by omega)
  refine ⟨e, ?_, ?_⟩ <;> omega
theorem setN_n (l : Option (List Int)) : setN (onI (tableOf l)) = List.range (nT l) := by
  have h8 := (nT_range l).2
  have e : setN (onI (tableOf l)) = (List.range 8).filter fun p => decide (p < nT l) := by
    rw [setN]; exact List.filter_congr fun p _ => tOn_tb l p
  rw [e]
  generalize nT l = n at *
  have : ∀ n : Nat, n < 9 → (List.range 8).filter (fun p => decide (p < n)) = List.range n := by decide
  exact this n (by omega)
theorem winTo_most (t : Tb) : ∀ n, winTo t n = mostI ((List.range n).map fun (p : Nat) => waitI t p)
  | 0 => rfl
  | n + 1 => by
    rw [winTo, winTo_most t n, List.range_succ, List.map_append]
    simp only [mostI, List.foldl_append, List.map_cons, List.map_nil, List.foldl_cons, List.foldl_nil]
    rfl
theorem win_eq (l : Option (List Int)) (h : 0 < nRl (tableOf l)) : (tableOf l).window = mostI ((setN (onI (tableOf l))).map fun (p : Nat) => waitI (tableOf l) p) := by
  have e : (tableOf l).rails.getD [] = (railTo { Tb0 with groups := some (rowsOf' l).1 } l (rowsOf' l).2 ((frm l 176 4).tmod 3) ((frm l 176 4).tmod 3).toNat) := mkO_getD _
  have hne : (railTo { Tb0 with groups := some (rowsOf' l).1 } l (rowsOf' l).2 ((frm l 176 4).tmod 3) ((frm l 176 4).tmod 3).toNat) ≠ [] := by
    intro h0; rw [nRl, e, h0] at h; simp at h
  have hw : (tableOf l).window = winTo (tabPre l) (rowsOf' l).2 := if_neg hne
  rw [hw, winTo_most, setN_n]
  rfl
theorem win_pos (l : Option (List Int)) (h : 0 < nRl (tableOf l)) : 8 ≤ (tableOf l).window ∧ (tableOf l).window ≤ 20000 := by
  have hn := (nT_range l).1
  have h0 := (free_sum l (p := 0) (by omega)).2.2
  have h1 := (wait_small l (0 : Nat)).1
  rw [win_eq l h, setN_n]
  refine ⟨?_, mostI_le (by omega) fun x hx => ?_⟩
  · obtain ⟨n, hn⟩ : ∃ n, nT l = n + 1 := ⟨nT l - 1, by omega⟩
    rw [hn, List.range_succ_eq_map, List.map_cons, mostI_cons]; omega
  · obtain ⟨p, _, rfl⟩ := List.mem_map.1 hx
    exact (wait_small l p).2
theorem find_big (l : Option (List Int)) : (setN (onI (tableOf l))).find? (bigW (tableOf l)) = none ∧ (List.range (nRl (tableOf l))).find? (bigE (tableOf l)) = none := by
  refine ⟨find_none fun p _ => ?_, find_none fun k _ => ?_⟩
  · have := (wait_small l p).2
    simp only [bigW, decide_eq_false_iff_not]; omega
  · have := (entry_small l k).2
    simp only [bigE, decide_eq_false_iff_not]; omega
theorem all_good (l : Option (List Int)) : allE (tableOf l) = (bnC (fun p => waitI (tableOf l) p) (fun k => entryI (tableOf l) k), 0, 0) := by
  obtain ⟨h1, h2⟩ := find_big l
  rw [allE, if_neg (by rw [table_good]; simp)]
  simp only [h1, h2]
  exact if_neg fun h => by have := win_eq l h.1; omega
theorem may_win {t : Tb} (h : mayT t = true) {w : Int} (h0 : wI 2147483647 w = true) : mayT { t with window := w } = true := by
  simp only [mayT, Bool.and_eq_true, List.all_cons, List.all_nil, and_true] at h ⊢
  simp only [h, h0, true_and, and_true]
theorem check_win (l : Option (List Int)) {w : Int} (h0 : wI 2147483647 w = true) : checkE { tableOf l with window := w } = (0, 0) := by
  have h := table_good l
  rw [checkE, if_pos (t_may l)] at h
  rw [checkE, if_pos (may_win (t_may l) h0)]
  exact h
theorem all_win (l : Option (List Int)) (h : 0 < nRl (tableOf l)) : allE { tableOf l with window := (tableOf l).window - 1 } = (z12_71526, 15, 0) := by
  obtain ⟨h1, h2⟩ := find_big l
  have hp := win_pos l h
  have he := win_eq l h
  have hw : wI 2147483647 ((tableOf l).window - 1) = true := by simp only [wI, Bool.and_eq_true, decide_eq_true_eq]; omega
  have hx : allE { tableOf l with window := (tableOf l).window - 1 } = _ := if_neg (by rw [check_win l hw]; simp)
  rw [hx]
  have h1' : (setN (onI { tableOf l with window := (tableOf l).window - 1 })).find? (bigW { tableOf l with window := (tableOf l).window - 1 }) = none := h1
  have h2' : (List.range (nRl { tableOf l with window := (tableOf l).window - 1 })).find? (bigE { tableOf l with window := (tableOf l).window - 1 }) = none := h2
  simp only [h1', h2']
  refine if_pos ⟨h, ?_⟩
  show (tableOf l).window - 1 < mostI ((setN (onI (tableOf l))).map fun (p : Nat) => waitI (tableOf l) p)
  omega
structure More (t u : Tb) : Prop where
  groups : u.groups = t.groups
  rails : u.rails = t.rails
  on : onI u = onI t
  share : u.share = t.share
  revert : u.revert = t.revert
  extend : u.extend = t.extend
  same : ∀ p, (phAt u p).min = (phAt t p).min ∧ (phAt u p).walk = (phAt t p).walk ∧ (phAt u p).blinks = (phAt t p).blinks ∧ (phAt u p).yellow = (phAt t p).yellow
  more : ∀ p, (phAt t p).top ≤ (phAt u p).top ∧ (phAt t p).red ≤ (phAt u p).red
theorem capI_mono {a b : Int} (h : a ≤ b) : capI a ≤ capI b := by simp only [capI_eq]; omega
theorem capS_mono {α : Type} {f g : α → Int} : ∀ {l : List α}, (∀ x ∈ l, f x ≤ g x) → capS (l.map f) ≤ capS (l.map g)
  | [], _ => Int.le_refl _
  | x :: l, h => by
    have h1 := capI_mono (h x List.mem_cons_self)
    have ih := capS_mono (l := l) fun y hy => h y (List.mem_cons_of_mem _ hy)
    simp only [capS, List.map_cons, List.sum_cons] at *; omega
theorem mostI_mono {α : Type} {f g : α → Int} : ∀ {l : List α}, (∀ x ∈ l, f x ≤ g x) → mostI (l.map f) ≤ mostI (l.map g)
  | [], _ => Int.le_refl _
  | x :: l, h => by
    have h1 := h x List.mem_cons_self
    have ih := mostI_mono (l := l) fun y hy => h y (List.mem_cons_of_mem _ hy)
    simp only [List.map_cons, mostI_cons]; omega
section
variable {t u : Tb} (h : More t u)
include h
theorem More.clear : clearI t ≤ clearI u := by
  rw [clearI, clearI, h.on]
  refine mostI_mono fun p _ => ?_
  have h1 := (h.same p).2.2.2
  have h2 := (h.more p).2
  rw [sum2_eq, sum2_eq, addI_eq, addI_eq, h1]; simp only [capI_eq]; omega
theorem More.serve (p : Int) : serveI t p ≤ serveI u p := by
  obtain ⟨h1, h2, h3, h4⟩ := h.same p
  obtain ⟨h5, h6⟩ := h.more p
  have h7 := h.extend
  have h8 := h.revert
  rw [serveI, serveI, h.on]
  split
  · rw [h1, h2, h3, h4, h7, h8, sum2_eq (phAt t p).walk (phAt t p).blinks, sumI_eq, sumI_eq]
    have hAB : mostI [capI (phAt t p).min, addI (phAt t p).walk (phAt t p).blinks, capI (phAt t p).top] ≤ mostI [capI (phAt t p).min, addI (phAt t p).walk (phAt t p).blinks, capI (phAt u p).top] := by
      have := capI_mono h5
      simp only [mostI_cons, mostI_nil]; omega
    have a1 := capI_mono hAB
    have a2 := capI_mono h6
    simp only [capS, List.map_cons, List.map_nil, List.sum_cons, List.sum_nil]
    omega
  · exact Int.le_refl _
theorem More.spots : Eng.spots u = Eng.spots t := by rw [Eng.spots, Eng.spots, h.groups]
theorem More.wher (p : Int) : whereR u p = whereR t p := by rw [whereR, whereR, h.spots]
theorem More.pass (g : Int) : passI t g ≤ passI u g := by
  rw [passI, passI, h.groups]
  split
  · exact Int.le_refl _
  · rw [sumI_eq, sumI_eq, passTo, passTo, h.spots]
    have := capS_mono (l := ((Eng.spots t).take (Eng.spots t).length).filter fun x => x.group == g) (f := fun x => serveI t x.p) (g := fun x => serveI u x.p) fun x _ => h.serve x.p
    simp only [capS, List.map_cons, List.sum_cons] at *; omega
theorem More.free (p : Int) : freeI t p ≤ freeI u p := by
  rw [freeI, freeI, h.wher, h.on, h.groups]
  split
  · rw [sumI_eq, sumI_eq]
    have h1 := capI_mono (h.pass (whereR t p).1.group)
    have := capS_mono (l := List.range (t.groups.getD []).length) (f := fun (g : Nat) => passI t g) (g := fun (g : Nat) => passI u g) fun g _ => h.pass g
    simp only [capS, List.map_cons, List.sum_cons] at *; omega
  · exact Int.le_refl _
theorem More.rl (k : Int) : rlAt u k = rlAt t k := by rw [rlAt, rlAt, h.rails]
theorem More.entry (k : Int) : entryI t k ≤ entryI u k := by
  have h1 := capI_mono h.clear
  have h2 := h.revert
  rw [entryI, entryI, h.rails]
  split
  · exact Int.le_refl _
  · rw [h.rl, h2, sumI_eq, sumI_eq]
    simp only [capS, List.map_cons, List.map_nil, List.sum_cons, List.sum_nil]
    omega
theorem More.over : overI t ≤ overI u := by
  have h1 := capI_mono h.clear
  have h2 := h.revert
  rw [overI, overI, h.rails, h2, h.on]
  split
  · exact Int.le_refl _
  · have e : needOf u (listS (onI t)) = needOf t (listS (onI t)) := by
      simp only [needOf]
      congr 1; funext p
      obtain ⟨h1, h2, h3, h4⟩ := h.same p
      rw [h1, h2, h3]
    have h3 : mostI (stayTo t (t.rails.getD []).length) ≤ mostI (stayTo u (t.rails.getD []).length) := by
      refine mostI_mono fun k _ => ?_
      have := capI_mono (h.entry k)
      rw [h.rl, sum2_eq, sum2_eq, addI_eq, addI_eq]; omega
    have h4 := capI_mono h3
    rw [e, sumI_eq, sumI_eq]
    simp only [capS, List.map_cons, List.map_nil, List.sum_cons, List.sum_nil]
    omega
theorem More.wait (p : Int) : waitI t p ≤ waitI u p := by
  have h1 := h.free p
  have h2 := h.over
  have h3 := h.share
  have hr := freeI_range t p
  by_cases h0 : freeI t p = 0
  · have e : waitI t p = freeI t p := if_pos (.inl h0)
    have := (waitI_range u p).1
    omega
  · rw [waitI, waitI, h.rails]
    by_cases hl : (t.rails.getD []).length = 0
    · rw [if_pos (.inr hl), if_pos (.inr hl)]; exact h1
    · rw [if_neg (by omega), if_neg (by omega), h3, sum2_eq (mulI _ _), sum2_eq (mulI _ _)]
      have a1 : sumI [overI t, freeI t p, 2] ≤ sumI [overI u, freeI u p, 2] := by
        have b1 := capI_mono h1
        have b2 := capI_mono h2
        rw [sumI_eq, sumI_eq]; simp only [capS, List.map_cons, List.map_nil, List.sum_cons, List.sum_nil]; omega
      have a2 : mulI (sumI [t.share, 1]) (sumI [overI t, freeI t p, 2]) ≤ mulI (sumI [t.share, 1]) (sumI [overI u, freeI u p, 2]) := by
        have b3 := Int.mul_le_mul_of_nonneg_left (capI_mono a1) (capI_range (sumI [t.share, 1])).1
        rw [mulI_eq, mulI_eq]; omega
      have a3 := capI_mono a2
      rw [addI_eq, addI_eq]; omega
end
end Go.Eng
namespace Go.Eng
set_option linter.unusedVariables false
set_option linter.unusedSimpArgs false
set_option linter.unnecessarySimpa false
open Go
set_option linter.unusedVariables false
set_option linter.unusedSimpArgs false
set_option maxRecDepth 10000
set_option maxHeartbeats 4000000
def ph10 : Ph := { (default : Ph) with on := true, min := 5, max := 20, top := 20, yellow := 10, red := 2 }
def t10 : Tb := { Tb0 with phases := ph10 :: List.replicate 7 default }
theorem t10_ok : t10.Ok := ⟨rfl, rfl, rfl, by simp [t10, Tb0], by simp [t10, Tb0], by simp [t10, Tb0], by simp [t10, Tb0], by simp [t10, Tb0]⟩
theorem serve_t10 : serveI t10 0 = 40 := by decide +kernel
theorem all_tb0 : allE Tb0 = (z12_71526, 8, 0) := by rw [allE, check_tb0]; rfl
def awake10.Spec (C : Con) (f : Nat) : Prop := C.c f [] (B true) none
theorem Tb.phase_cell {t : Tb} {i j : Nat} {p q : Ph} {x : AV} (h : t.phases[i]? = some p) (hj : j < 13) (hq : setCells p.cells j [x] = q.cells) : setCells t.cells (i * 13 + j) [x] = ({ t with phases := t.phases.set i q } : Tb).cells := by
  unfold Tb.cells
  simp only
  have hl : ((t.phases.take i).flatMap Ph.cells).length = i * 13 := by rw [flatMap_len Ph.len, take_len h]
  have hpl : p.cells.length = 13 := rfl
  rw [Eng.set_at h, List.flatMap_append, List.flatMap_cons]
  conv => lhs; rw [flatMap_at h]
  rw [List.append_assoc, List.append_assoc, List.append_assoc, List.append_assoc]
  rw [set_right (by omega), hl, Nat.add_sub_cancel_left, set_left (by rw [hpl]; simp; omega), hq]
theorem ok_win {t : Tb} (h : t.Ok) (w : Int) : ({ t with window := w } : Tb).Ok := ⟨h.phases, h.conflict, h.flash, h.groups, h.rows, h.dets, h.rails, h.buses⟩
theorem ok_share {t : Tb} (h : t.Ok) (w : Int) : ({ t with share := w } : Tb).Ok := ⟨h.phases, h.conflict, h.flash, h.groups, h.rows, h.dets, h.rails, h.buses⟩
theorem ok_phase {t : Tb} (h : t.Ok) (i : Nat) (q : Ph) : ({ t with phases := t.phases.set i q } : Tb).Ok := ⟨by rw [List.length_set]; exact h.phases, h.conflict, h.flash, h.groups, h.rows, h.dets, h.rails, h.buses⟩
theorem bn_eq (w e : Nat → Int) : cellsEq [.i, .i, .i, .i, .i, .i, .i, .i, .i, .i, .i, .i] (bnC w e) (bnC w e) = some true := by
  simp [bnC, List.range_succ, cellsEq, cellEq]
theorem all_bn (t : Tb) : ∃ w e, (allE t).1 = bnC w e := by
  rw [allE]
  split
  · exact ⟨_, _, bn_zero.symm⟩
  · split
    · exact ⟨_, _, bn_zero.symm⟩
    · split
      · exact ⟨_, _, bn_zero.symm⟩
      · split
        · exact ⟨_, _, bn_zero.symm⟩
        · exact ⟨_, _, rfl⟩
theorem fl_eq (a b : Int) : cellsEq [.i, .i] [AV.int .i64 a, AV.int .i64 b] [AV.int .i64 a, AV.int .i64 b] = some true := by simp [cellsEq, cellEq]
def bndGood.Spec (C : Con) (f : Nat) : Prop := ∀ (l : Option (List Int)) (share top p : Int), C.c f [slAV intRow l, I share, I top, I p] (B true) none
def bndSerial.Spec (C : Con) (f : Nat) : Prop := ∀ (l : Option (List Int)) (p q : Int), C.c f [slAV intRow l, I p, I q] (B true) none
def bndMore.Spec (C : Con) (f : Nat) : Prop := ∀ (l : Option (List Int)) (p top red : Int), C.c f [slAV intRow l, I p, I top, I red] (B true) none
theorem place_rng {v n : Int} (hn : 0 < n) (h2 : n < 100000) : 0 ≤ place v n ∧ place v n < n := by
  have h3 := Int.tmod_lt_of_pos v hn
  have h4 : -n < v.tmod n := by have := Int.lt_tmod_of_pos v hn; omega
  simp only [place]
  split
  · rw [w64_id (by omega) (by omega)]; omega
  · omega
theorem tph_nums (l : Option (List Int)) {k : Nat} (hk : k < 8) : 0 ≤ (phAt (tableOf l) k).top ∧ (phAt (tableOf l) k).top ≤ 50 ∧ 0 ≤ (phAt (tableOf l) k).red ∧ (phAt (tableOf l) k).red ≤ 4 := by
  rw [tph l hk]
  split
  · obtain ⟨g1, g2, g3, g4, g5, g6, g7, g8, g9, g10⟩ := ph_good l (10 + 12 * (k : Int)); omega
  · decide
section
variable {P : Program} (hm : P.follows .mixedOrders = true) {f : Nat}
include hm
theorem awake10.ok {fA fS : Nat} (hc : cFn P f = some (cc_law10_awake fA fS)) (hA : bAll.Spec (Pure P) fA) (hS : serve.Spec (Pure P) fS) : awake10.Spec (Pure P) f := by
  have c1 := hA Tb0 tb0_ok (by intro d hd; simp [Tb0] at hd) (by intro g hg; simp [Tb0] at hg) (by decide)
  have c2 := hS t10 0 t10_ok
  rw [all_tb0] at c1
  rw [serve_t10] at c2
  have h0 : Tb0.cells = z131_45020 := rfl
  have hs : setCells z131_45020 0 ph10.cells = t10.cells := rfl
  have hp : [AV.bool true, AV.int .i64 5, AV.int .i64 0, AV.int .i64 20, AV.int .i64 20, AV.int .i64 0, AV.int .i64 10, AV.int .i64 2, AV.int .i64 0, AV.int .i64 0, AV.int .i64 0, AV.bool false, AV.bool false] = ph10.cells := rfl
  have hpl : ph10.cells.length = 13 := rfl
  have hzl : z131_45020.length = 131 := rfl
  have hl : t10.cells.length = 131 := rfl
  have hw := t10_ok.ln.whole
  have hz : setCells z12_71526 0 z12_71526 = z12_71526 := rfl
  have hzl2 : z12_71526.length = 12 := rfl
  have hs2 : ∀ a b c d : Int, setCells [AV.int .i64 a, AV.int .i64 b] 0 [AV.int .i64 c, AV.int .i64 d] = [AV.int .i64 c, AV.int .i64 d] := fun _ _ _ _ => rfl
  rw [h0] at c1
  show (Pure P).c f [] (B true) none
  refine pure_of hm hc (by show 0 ≤ 20; decide) (aw_flat (keep := []) (i := 0) ?_)
  try simp only [I, B, D, RY, ↓ KW, seval, cc_law10_awake, Z.H, z13_14216, hs, hp, hpl, hzl, hl, hw, hz, hzl2, hs2, fltC]
  refine call_is c1 ?_
  try simp only [I, B, D, RY, ↓ KW, seval, hs, hp, hpl, hzl, hl, hw, hz, hzl2, hs2, fltC]
  refine call_is c2 ?_
  try simp only [I, B, D, RY, ↓ KW, seval, hs, hp, hpl, hzl, hl, hw, hz, hzl2, hs2, fltC, BNW]
theorem bndGood.ok {fT fA fR fP fW : Nat} (hc : cFn P f = some (cc_law10_BoundGood fT fA fR fP fW)) (hT : Table.Spec (Pure P) fT) (hA : bAll.Spec (Pure P) fA) (hR : bAll.Spec (Pure P) fR) (hP : Place.Spec (Pure P) fP) (hW : awake10.Spec (Pure P) fW) : bndGood.Spec (Pure P) f := by
  intro l share top p
  have ok := tableOf_ok l
  have fw := table_fw l
  have rw' := t_rw l
  have hr2 := (tRails l).1
  have nr : nRl (tableOf l) ≤ 4 := by simp only [nRl]; omega
  have c0 := hT l
  have c1 := hA _ ok fw rw' nr
  have c2 := hR _ ok fw rw' nr
  have w1 := win_pos l
  have hgood := all_good l
  have hwn := all_win l
  rw [hgood] at c1 c2
  have hwr : 0 ≤ (tableOf l).window ∧ (tableOf l).window ≤ 2147483647 := by
    show 0 ≤ (if _ then (0 : Int) else winTo (tabPre l) (rowsOf' l).2) ∧ (if _ then (0 : Int) else winTo (tabPre l) (rowsOf' l).2) ≤ 2147483647
    have := winTo_range (tabPre l) (rowsOf' l).2
    split <;> omega
  generalize tableOf l = t at *
  have c3 := hA _ (ok_win ok (t.window - 1)) fw rw' nr
  have hw := ok.ln.whole
  have hl := ok.ln.len
  have h114 := Tb.rails_at ok
  have h129 := ok.ln.at129
  have s129 := fun w => (ok.ln.set_last w).1
  have s130 := fun w => (ok.ln.set_last w).2
  have hz : setCells z131_45020 0 t.cells = t.cells := set_all (by rw [hl]; rfl)
  have hzl : z131_45020.length = 131 := rfl
  have z12 : setCells z12_71526 0 z12_71526 = z12_71526 := rfl
  have z12l : z12_71526.length = 12 := rfl
  have hs2 : ∀ a b c d : Int, setCells [AV.int .i64 a, AV.int .i64 b] 0 [AV.int .i64 c, AV.int .i64 d] = [AV.int .i64 c, AV.int .i64 d] := fun _ _ _ _ => rfl
  refine pure_of hm hc (by show 4 ≤ 101; decide) (aw_flat (keep := []) (i := 0) ?_)
  try simp only [I, B, D, RY, ↓ KW, seval, cc_law10_BoundGood, Z.H]
  refine call_is c0 ?_
  try simp only [I, B, D, RY, ↓ KW, seval, hw, hl, h114, h129, hz, hzl, z12, z12l, hs2, bn_full, bn_len, bn_whole, bn_take, fltC]
  refine call_is c1 ?_
  try simp only [I, B, D, RY, ↓ KW, seval, hw, hl, h114, h129, hz, hzl, z12, z12l, hs2, bn_full, bn_len, bn_whole, bn_take, fltC]
  refine call_is c2 ?_
  try simp only [I, B, D, RY, ↓ KW, seval, hw, hl, h114, h129, hz, hzl, z12, z12l, hs2, bn_full, bn_len, bn_whole, bn_take, fltC, bn_eq, BNW]
  have hwp : IntKind.i64.wrap (t.window - 1) = t.window - 1 := wrap_id (by omega) (by omega)
  obtain ⟨wu, eu, hu⟩ := all_bn { t with window := t.window - 1 }
  have e3 : allE { t with window := t.window - 1 } = (bnC wu eu, (allE { t with window := t.window - 1 }).2.1, (allE { t with window := t.window - 1 }).2.2) := by rw [← hu]
  have hF : 0 < nRl t → (allE { t with window := t.window - 1 }).2.1 = 15 := fun h => by rw [hwn h]
  rw [e3] at c3
  generalize (allE { t with window := t.window - 1 }).2.1 = F1 at *
  generalize (allE { t with window := t.window - 1 }).2.2 = F2 at *
  have hw2 := (ok_win ok (t.window - 1)).ln.whole
  have hl2 := (ok_win ok (t.window - 1)).ln.len
  have hz2 : setCells ({ t with window := t.window - 1 } : Tb).cells 0 t.cells = t.cells := set_all (by rw [hl, hl2])
  have s1 := s129 (t.window - 1)
  try simp only [I, B, D, RY, ↓ KW, seval, hw, hl, h114, h129, hz, hzl, z12, z12l, hs2, bn_full, bn_len, bn_whole, bn_take, fltC, s1, hwp, hw2, hl2, hz2]
  refine call_is c3 ?_
  try simp only [I, B, D, RY, ↓ KW, seval, hw, hl, h114, h129, hz, hzl, z12, z12l, hs2, bn_full, bn_len, bn_whole, bn_take, fltC, s1, hwp, hw2, hl2, hz2]
  have hb : (decide (0 < ((t.rails.getD []).length : Int)) && (F1 != 15)) = false := by
    cases h : decide (0 < ((t.rails.getD []).length : Int)) with
    | false => rfl
    | true => have := of_decide_eq_true h; rw [hF (by simp only [nRl]; omega)]; rfl
  obtain ⟨sh, hsh⟩ : ∃ sh, sh = bAnd .i64 share 2147483647 := ⟨_, rfl⟩
  have hk := place_range (v := p) (n := 8) (by decide) (by decide)
  obtain ⟨k, hpk⟩ : ∃ m : Nat, place p 8 = m := ⟨(place p 8).toNat, by omega⟩
  have hk8 : k < 8 := by omega
  have hx : 0 ≤ (k : Int) ∧ (k : Int) < 8 := by omega
  have pk := hP p 8 (by decide)
  rw [hpk] at pk
  have pt := hP top 10000 (by decide)
  generalize place top 10000 = w at *
  obtain ⟨tS, hS⟩ : ∃ tS : Tb, tS = { t with share := sh } := ⟨_, rfl⟩
  have okS : tS.Ok := by rw [hS]; exact ok_share ok sh
  have s2 : setCells t.cells 130 [AV.int .i64 sh] = tS.cells := by rw [hS]; exact s130 sh
  obtain ⟨tW, hW'⟩ : ∃ tW : Tb, tW = { tS with window := 2147483647 } := ⟨_, rfl⟩
  have okW : tW.Ok := by rw [hW']; exact ok_win okS _
  have s3 : setCells tS.cells 129 [AV.int .i64 2147483647] = tW.cells := by rw [hW']; exact (okS.ln.set_last _).1
  have hph := phAt_get okW hk8
  have h3 := (Tb.ph_all hph).2.2.2.1
  generalize phAt tW k = x at *
  obtain ⟨tP, hP'⟩ : ∃ tP : Tb, tP = { tW with phases := tW.phases.set k { x with top := if w > x.max then w else x.max } } := ⟨_, rfl⟩
  have okP : tP.Ok := by rw [hP']; exact ok_phase okW _ _
  have s4 : setCells tW.cells (k * 13 + 4) [AV.int .i64 (if w > x.max then w else x.max)] = tP.cells := by
    rw [hP']; exact Tb.phase_cell hph (by omega) rfl
  have fwP : tP.Fw := by rw [hP', hW', hS]; exact fw
  have rwP : tP.Rw := by rw [hP', hW', hS]; exact rw'
  have nrP : nRl tP ≤ 4 := by rw [hP', hW', hS]; exact nr
  have c4 := hA tP okP fwP rwP nrP
  have c5 := hR tP okP fwP rwP nrP
  obtain ⟨w5, e5, hu5⟩ := all_bn tP
  have e5' : allE tP = (bnC w5 e5, (allE tP).2.1, (allE tP).2.2) := by rw [← hu5]
  rw [e5'] at c4 c5
  generalize (allE tP).2.1 = G1 at *
  generalize (allE tP).2.2 = G2 at *
  have lS := okS.ln.len
  have lW := okW.ln.len
  have lP := okP.ln.len
  have wP := okP.ln.whole
  generalize hb1 : decide (0 < ((t.rails.getD []).length : Int)) = b1 at *
  generalize hb2 : (F1 != 15) = b2 at *
  have key : b1 = true → b2 = false := by cases b1 <;> cases b2 <;> simp at hb ⊢
  cases b1
  all_goals try (have hb3 := key rfl; subst hb3)
  all_goals
    try simp only [I, B, D, RY, ↓ KW, seval, hw, hl, h114, h129, hz, hzl, z12, z12l, hs2, bn_full, bn_len, bn_whole, bn_take, fltC, s1, hwp, hw2, hl2, hz2, hb2]
    try simp only [I, B, D, RY, ↓ KW, seval, hw, hl, h114, h129, hz, hzl, z12, z12l, hs2, bn_full, bn_len, bn_whole, bn_take, fltC, s1, hwp, hw2, hl2, hz2, ← hsh, s2, s3, s4, lS, lW, lP, wP, hx, h3, bn_eq, fl_eq, hb2]
    refine call_is pk ?_
    try simp only [I, B, D, RY, ↓ KW, seval, hw, hl, h114, h129, hz, hzl, z12, z12l, hs2, bn_full, bn_len, bn_whole, bn_take, fltC, s1, hwp, hw2, hl2, hz2, ← hsh, s2, s3, s4, lS, lW, lP, wP, hx, h3, bn_eq, fl_eq]
    refine call_is pt ?_
    try simp only [I, B, D, RY, ↓ KW, seval, hw, hl, h114, h129, hz, hzl, z12, z12l, hs2, bn_full, bn_len, bn_whole, bn_take, fltC, s1, hwp, hw2, hl2, hz2, ← hsh, s2, s3, s4, lS, lW, lP, wP, hx, h3, bn_eq, fl_eq]
    refine ⟨by omega, ?_⟩
    refine call_is c4 ?_
    try simp only [I, B, D, RY, ↓ KW, seval, hw, hl, h114, h129, hz, hzl, z12, z12l, hs2, bn_full, bn_len, bn_whole, bn_take, fltC, s1, hwp, hw2, hl2, hz2, ← hsh, s2, s3, s4, lS, lW, lP, wP, hx, h3, bn_eq, fl_eq]
    refine call_is c5 ?_
    try simp only [I, B, D, RY, ↓ KW, seval, hw, hl, h114, h129, hz, hzl, z12, z12l, hs2, bn_full, bn_len, bn_whole, bn_take, fltC, s1, hwp, hw2, hl2, hz2, ← hsh, s2, s3, s4, lS, lW, lP, wP, hx, h3, bn_eq, fl_eq, BNW]
    refine call_is hW ?_
    try simp only [I, B, D, RY, ↓ KW, seval]
theorem bndMore.ok {fT fP fW fE fO fS fA : Nat} (hc : cFn P f = some (cc_law10_BoundMore fT fP fW fE fO fS fA)) (hT : Table.Spec (Pure P) fT) (hP : Place.Spec (Pure P) fP) (hW : bWait.Spec (Pure P) fW) (hE : entry.Spec (Pure P) fE) (hO : over.Spec (Pure P) fO) (hS : bPass.Spec (Pure P) fS) (hA : awake10.Spec (Pure P) fA) : bndMore.Spec (Pure P) f := by
  intro l p top red
  have ok := tableOf_ok l
  have rw' := t_rw l
  have c0 := hT l
  have hk := place_range (v := p) (n := 8) (by decide) (by decide)
  obtain ⟨k, hpk⟩ : ∃ m : Nat, place p 8 = m := ⟨(place p 8).toNat, by omega⟩
  have hk8 : k < 8 := by omega
  have hx : 0 ≤ (k : Int) ∧ (k : Int) < 8 := by omega
  have pk := hP p 8 (by decide)
  rw [hpk] at pk
  have r1 : 0 ≤ place top 1000 ∧ place top 1000 < 1000 := place_rng (by decide) (by decide)
  have r2 := place_range (v := red) (n := 100) (by decide) (by decide)
  have p1 := hP top 1000 (by decide)
  have p2 := hP red 100 (by decide)
  generalize place top 1000 = d1 at *
  generalize place red 100 = d2 at *
  have hph := phAt_get ok hk8
  have hnum := tph_nums l hk8
  generalize tableOf l = t at *
  have g4 := (Tb.ph_all hph).2.2.2.2.1
  obtain ⟨x, hxx⟩ : ∃ x, x = phAt t k := ⟨_, rfl⟩
  rw [← hxx] at hph g4 hnum
  have v1 : IntKind.i64.wrap (x.top + d1) = x.top + d1 := wrap_id (by omega) (by omega)
  have v2 : IntKind.i64.wrap (x.red + d2) = x.red + d2 := wrap_id (by omega) (by omega)
  obtain ⟨q1, hq1⟩ : ∃ q1 : Ph, q1 = { x with top := x.top + d1 } := ⟨_, rfl⟩
  obtain ⟨t1, ht1⟩ : ∃ t1 : Tb, t1 = { t with phases := t.phases.set k q1 } := ⟨_, rfl⟩
  have ok1 : t1.Ok := by rw [ht1]; exact ok_phase ok _ _
  have s1 : setCells t.cells (k * 13 + 4) [AV.int .i64 (x.top + d1)] = t1.cells := by
    rw [ht1]; exact Tb.phase_cell hph (by omega) (by rw [hq1]; rfl)
  have hph1 : t1.phases[k]? = some q1 := by
    rw [ht1]; show (t.phases.set k q1)[k]? = _
    rw [List.getElem?_set, if_pos rfl, if_pos (by rw [ok.phases]; exact hk8)]
  have g7 := (Tb.ph_all hph1).2.2.2.2.2.2.2.1
  have e7 : q1.red = x.red := by rw [hq1]
  rw [e7] at g7
  obtain ⟨q2, hq2⟩ : ∃ q2 : Ph, q2 = { q1 with red := x.red + d2 } := ⟨_, rfl⟩
  obtain ⟨u, hu⟩ : ∃ u : Tb, u = { t1 with phases := t1.phases.set k q2 } := ⟨_, rfl⟩
  have oku : u.Ok := by rw [hu]; exact ok_phase ok1 _ _
  have s2 : setCells t1.cells (k * 13 + 7) [AV.int .i64 (x.red + d2)] = u.cells := by
    rw [hu]; exact Tb.phase_cell hph1 (by omega) (by rw [hq2]; rfl)
  have rwu : u.Rw := by rw [hu, ht1]; exact rw'
  have hmore : More t u := by
    have hat : ∀ y : Int, phAt u y = if y.toNat = k then q2 else phAt t y := by
      intro y
      rw [hu, ht1]
      simp only [phAt, List.getD_eq_getElem?_getD, List.getElem?_set, List.length_set, ok.phases]
      by_cases e : k = y.toNat
      · subst e; simp [hk8]
      · rw [if_neg e, if_neg e, if_neg (fun h => e h.symm)]
    have hxt : ∀ y : Int, y.toNat = k → phAt t y = x := by
      intro y hy
      rw [hxx]; simp only [phAt, hy, Int.toNat_natCast]
    refine ⟨by rw [hu, ht1], by rw [hu, ht1], ?_, by rw [hu, ht1], by rw [hu, ht1], by rw [hu, ht1], fun y => ?_, fun y => ?_⟩
    · have : ∀ y : Int, (phAt u y).on = (phAt t y).on := by
        intro y; rw [hat]; split
        · next h => rw [hxt y h, hq2, hq1]
        · rfl
      simp only [onI, onTo, this]
    · rw [hat]; split
      · next h => rw [hxt y h, hq2, hq1]; exact ⟨rfl, rfl, rfl, rfl⟩
      · exact ⟨rfl, rfl, rfl, rfl⟩
    · rw [hat]; split
      · next h => rw [hxt y h, hq2, hq1]; simp only; omega
      · exact ⟨Int.le_refl _, Int.le_refl _⟩
  have hw := ok.ln.whole
  have hl := ok.ln.len
  have hl1 := ok1.ln.len
  have hwu := oku.ln.whole
  have hlu := oku.ln.len
  have hz : setCells z131_45020 0 t.cells = t.cells := set_all (by rw [hl]; rfl)
  have hzl : z131_45020.length = 131 := rfl
  have m1 := hmore.over
  have m2 := hmore.pass 0
  have m3 := hmore.wait
  have m4 := hmore.entry
  refine pure_of hm hc (by show 4 ≤ 77; decide) (aw_flat (keep := []) (i := 0) ?_)
  try simp only [I, B, D, RY, ↓ KW, seval, cc_law10_BoundMore, Z.H]
  refine call_is c0 ?_
  try simp only [I, B, D, RY, ↓ KW, seval, hw, hl, hwu, hlu, hz, hzl, hx, g4, g7, v1, v2, s1, s2, hl1]
  refine call_is pk ?_
  try simp only [I, B, D, RY, ↓ KW, seval, hw, hl, hwu, hlu, hz, hzl, hx, g4, g7, v1, v2, s1, s2, hl1]
  refine call_is p1 ?_
  try simp only [I, B, D, RY, ↓ KW, seval, hw, hl, hwu, hlu, hz, hzl, hx, g4, g7, v1, v2, s1, s2, hl1]
  repeat refine And.intro (by omega) ?_
  refine call_is p2 ?_
  try simp only [I, B, D, RY, ↓ KW, seval, hw, hl, hwu, hlu, hz, hzl, hx, g4, g7, v1, v2, s1, s2, hl1]
  repeat refine And.intro (by omega) ?_
  refine aw_loop' (fun i : Nat => (⟨[(12, .dat (I i) none), (10, .ptr 10 0), (9, .ptr 7 0)], [(10, ⟨u.cells, []⟩), (7, ⟨t.cells, []⟩)], [], 400⟩ : S)) (fun i => 8 - i) (fun i => i ≤ 8) ?_ 0 (by omega) ?_
  · intro i hi A back
    have hwr := wrap_succ (k := i) (by omega)
    try simp only [I, B, D, RY, ↓ KW, seval]
    refine cd_split (fun h => ?_) (fun h => ?_) <;> try simp only [I, B, D, RY, ↓ KW, seval, h]
    · have h8 : i < 8 := by have := of_decide_eq_true h; omega
      have n1 : decide (waitI u i < waitI t i) = false := by have := m3 i; simp; omega
      have n2 : decide (entryI u i < entryI t i) = false := by have := m4 i; simp; omega
      try simp only [I, B, D, RY, ↓ KW, seval, hw, hl, hwu, hlu, hz, hzl, hx, g4, g7, v1, v2, s1, s2, hl1]
      refine call_is (hW u i oku rwu) ?_
      try simp only [I, B, D, RY, ↓ KW, seval, hw, hl, hwu, hlu, hz, hzl, hx, g4, g7, v1, v2, s1, s2, hl1]
      refine call_is (hW t i ok rw') ?_
      try simp only [I, B, D, RY, ↓ KW, seval, hw, hl, hwu, hlu, hz, hzl, hx, g4, g7, v1, v2, s1, s2, hl1, n1]
      refine call_is (hE u i oku) ?_
      try simp only [I, B, D, RY, ↓ KW, seval, hw, hl, hwu, hlu, hz, hzl, hx, g4, g7, v1, v2, s1, s2, hl1]
      refine call_is (hE t i ok) ?_
      try simp only [I, B, D, RY, ↓ KW, seval, hw, hl, hwu, hlu, hz, hzl, hx, g4, g7, v1, v2, s1, s2, hl1, n2]
      refine back (i + 1) _ (by omega) (by omega) (le_tok2 (by decide) ?_ ?_ ?_ ?_) <;> simp [LX, I, B, D, hwr]
    · have n3 : decide (overI t ≤ overI u) = true := by simp; omega
      have n4 : decide (passI t 0 ≤ passI u 0) = true := by simp; omega
      try simp only [I, B, D, RY, ↓ KW, seval, hw, hl, hwu, hlu, hz, hzl, hx, g4, g7, v1, v2, s1, s2, hl1]
      refine call_is (hO u oku) ?_
      try simp only [I, B, D, RY, ↓ KW, seval, hw, hl, hwu, hlu, hz, hzl, hx, g4, g7, v1, v2, s1, s2, hl1]
      refine call_is (hO t ok) ?_
      try simp only [I, B, D, RY, ↓ KW, seval, hw, hl, hwu, hlu, hz, hzl, hx, g4, g7, v1, v2, s1, s2, hl1, n3]
      refine call_is (hS u 0 oku rwu) ?_
      try simp only [I, B, D, RY, ↓ KW, seval, hw, hl, hwu, hlu, hz, hzl, hx, g4, g7, v1, v2, s1, s2, hl1]
      refine call_is (hS t 0 ok rw') ?_
      try simp only [I, B, D, RY, ↓ KW, seval, hw, hl, hwu, hlu, hz, hzl, hx, g4, g7, v1, v2, s1, s2, hl1, n4]
      refine call_is hA ?_
      try simp only [I, B, D, RY, ↓ KW, seval]
  · refine le_tok2 (by decide) ?_ ?_ ?_ ?_ <;> simp [LX, I, B, D]
theorem bndSerial.ok {fT fP fF fA fW fS fV fI : Nat} (hc : cFn P f = some (cc_law10_BoundSerial fT fP fF fA fW fS fV fI)) (hT : Table.Spec (Pure P) fT) (hP : Place.Spec (Pure P) fP) (hF : bFree.Spec (Pure P) fF) (hA : awake10.Spec (Pure P) fA) (hW : where.Spec (Pure P) fW) (hS : bPass.Spec (Pure P) fS) (hV : serve.Spec (Pure P) fV) (hI : bWait.Spec (Pure P) fI) : bndSerial.Spec (Pure P) f := by
  intro l p q
  have ok := tableOf_ok l
  have rw' := t_rw l
  have c0 := hT l
  have hk := place_range (v := p) (n := 8) (by decide) (by decide)
  obtain ⟨a, hpa⟩ : ∃ m : Nat, place p 8 = m := ⟨(place p 8).toNat, by omega⟩
  have ha8 : a < 8 := by omega
  have hx : 0 ≤ (a : Int) ∧ (a : Int) < 8 := by omega
  have pa := hP p 8 (by decide)
  rw [hpa] at pa
  have hk2 := place_range (v := q) (n := 8) (by decide) (by decide)
  obtain ⟨b, hpb⟩ : ∃ m : Nat, place q 8 = m := ⟨(place q 8).toNat, by omega⟩
  have hb8 : b < 8 := by omega
  have hy : 0 ≤ (b : Int) ∧ (b : Int) < 8 := by omega
  have pb := hP q 8 (by decide)
  rw [hpb] at pb
  have on1 := tph_on l ha8
  have on2 := tph_on l hb8
  have ga := (Tb.ph_all (phAt_get ok ha8)).1
  have gb := (Tb.ph_all (phAt_get ok hb8)).1
  rw [on1] at ga
  rw [on2] at gb
  have g104 := Tb.groups_at ok
  have f8 : freeI (tableOf l) 8 = 0 := if_neg (by
    have : hasR (onI (tableOf l)) 8 = false := by simp [hasR]
    rw [this]; simp)
  have sa := fun h => free_sum l (p := a) h
  have wok := fun (p : Nat) (h : p < nT l) => where_ok l h
  have hon := fun (p : Nat) (h8 : p < 8) (h : p < nT l) => (show hasR (onI (tableOf l)) p = true from by rw [hasR_tb h8, tOn_tb]; simp [h])
  have fs := free_small l a
  have vs := serve_small l a
  have ws := wait_small l a
  have ps := pasS_range l
  have qs := pass_small l
  have gl := t_groups_len l
  generalize tableOf l = t at *
  have hw := ok.ln.whole
  have hl := ok.ln.len
  have hz : setCells z131_45020 0 t.cells = t.cells := set_all (by rw [hl]; rfl)
  have hzl : z131_45020.length = 131 := rfl
  refine pure_of hm hc (by show 3 ≤ 118; decide) (aw_flat (keep := []) (i := 0) ?_)
  try simp only [I, B, D, RY, ↓ KW, seval, cc_law10_BoundSerial, Z.H]
  refine call_is c0 ?_
  try simp only [I, B, D, RY, ↓ KW, seval, hw, hl, hz, hzl, hx, hy, ga, gb]
  refine call_is pa ?_
  try simp only [I, B, D, RY, ↓ KW, seval, hw, hl, hz, hzl, hx, hy, ga, gb]
  refine call_is pb ?_
  try simp only [I, B, D, RY, ↓ KW, seval, hw, hl, hz, hzl, hx, hy, ga, gb]
  by_cases hon2 : a < nT l ∧ b < nT l
  · have d1 : decide (a < nT l) = true := by simp [hon2.1]
    have d2 : decide (b < nT l) = true := by simp [hon2.2]
    have wa := wok a hon2.1
    have wb := wok b hon2.2
    obtain ⟨e1, e2, e3⟩ := sa hon2.1
    have ha := hon a ha8 hon2.1
    have hb := hon b hb8 hon2.2
    have hsame : (whereR t a).1.group = (whereR t b).1.group → waitI t a = waitI t b := fun h => by
      have : freeI t a = freeI t b := by rw [freeI, freeI, wa, wb, ha, hb, h]
      rw [waitI, waitI, this]
    have psn := ps (t.groups.getD []).length
    have qsn := qs (whereR t a).1.group
    have n1 : IntKind.i64.wrap (pasS t (t.groups.getD []).length + passI t (whereR t a).1.group) = freeI t a := by rw [wrap_id (by omega) (by omega), e1]
    have n2 : IntKind.i64.wrap (2 * serveI t a) = 2 * serveI t a := wrap_id (by omega) (by omega)
    have n3 : decide (2 * serveI t a ≤ freeI t a) = true := by simp; omega
    have n4 : decide (freeI t a ≤ waitI t a) = true := by simp; omega
    have n5 : (freeI t a == freeI t a) = true := by simp
    have k1 := hF t a ok rw'
    have k2 := hV t a ok
    have k3 := hI t a ok rw'
    have k4 := hI t b ok rw'
    try simp only [I, B, D, RY, ↓ KW, seval, hw, hl, hz, hzl, hx, hy, ga, gb, d1, d2]
    refine call_is (hW t a ok) ?_
    try simp only [I, B, D, RY, ↓ KW, seval, hw, hl, hz, hzl, hx, hy, ga, gb, Sp.cells]
    refine call_is (hW t b ok) ?_
    try simp only [I, B, D, RY, ↓ KW, seval, hw, hl, hz, hzl, hx, hy, ga, gb, Sp.cells]
    refine aw_loop' (fun i : Nat => (⟨[(15, .dat (I i) none), (7, .ptr 7 0), (14, .dat (I (pasS t i)) none), (8, .dat (I a) none), (10, .ptr 35 0), (12, .ptr 44 0), (9, .dat (I b) none)], [(44, ⟨(whereR t b).1.cells, []⟩), (35, ⟨(whereR t a).1.cells, []⟩), (7, ⟨t.cells, []⟩)], [], 400⟩ : S)) (fun i => (t.groups.getD []).length - i) (fun i => i ≤ (t.groups.getD []).length) ?_ 0 (by omega) ?_
    · intro i hi A back
      have hwr := wrap_succ (k := i) (by omega)
      try simp only [I, B, D, RY, ↓ KW, seval, hw, hl, hz, hzl, hx, hy, ga, gb, g104]
      cases h : decide ((i : Int) < ((t.groups.getD []).length : Int))
      rotate_left
      · have hlt : i < (t.groups.getD []).length := by have := of_decide_eq_true h; omega
        have pi := ps i
        have qi := qs i
        have nx := pasS_next t i
        have nw : IntKind.i64.wrap (pasS t i + passI t i) = pasS t (i + 1) := by rw [wrap_id (by omega) (by omega), nx]
        try simp only [I, B, D, RY, ↓ KW, seval, hw, hl, hz, hzl, hx, hy, ga, gb, h]
        refine call_is (hS t i ok rw') ?_
        try simp only [I, B, D, RY, ↓ KW, seval, hw, hl, hz, hzl, hx, hy, ga, gb, nw]
        refine back (i + 1) _ (by omega) (by omega) (le_tok2 (by decide) ?_ ?_ ?_ ?_) <;> simp [LX, I, B, D, hwr]
      · have : i = (t.groups.getD []).length := by have := of_decide_eq_false h; omega
        subst this
        generalize hgr : ((whereR t a).1.group != (whereR t b).1.group) = ne at *
        try simp only [I, B, D, RY, ↓ KW, seval, hw, hl, hz, hzl, hx, hy, ga, gb, n1, n2, n3, n4, n5, hgr, Sp.cells, h]
        refine call_is k1 ?_
        try simp only [I, B, D, RY, ↓ KW, seval, hw, hl, hz, hzl, hx, hy, ga, gb, n1, n2, n3, n4, n5, hgr, Sp.cells, h]
        refine call_is (hS t _ ok rw') ?_
        try simp only [I, B, D, RY, ↓ KW, seval, hw, hl, hz, hzl, hx, hy, ga, gb, n1, n2, n3, n4, n5, hgr, Sp.cells, h]
        refine call_is k1 ?_
        try simp only [I, B, D, RY, ↓ KW, seval, hw, hl, hz, hzl, hx, hy, ga, gb, n1, n2, n3, n4, n5, hgr, Sp.cells, h]
        refine call_is k2 ?_
        try simp only [I, B, D, RY, ↓ KW, seval, hw, hl, hz, hzl, hx, hy, ga, gb, n1, n2, n3, n4, n5, hgr, Sp.cells, h]
        cases ne
        · have hw2 := hsame (by simpa using hgr)
          have n6 : (waitI t a == waitI t b) = true := by rw [hw2]; simp
          try simp only [I, B, D, RY, ↓ KW, seval, hw, hl, hz, hzl, hx, hy, ga, gb, n1, n2, n3, n4, n5, hgr, Sp.cells, h, n6]
          refine call_is k3 ?_
          try simp only [I, B, D, RY, ↓ KW, seval, hw, hl, hz, hzl, hx, hy, ga, gb, n1, n2, n3, n4, n5, hgr, Sp.cells, h, n6]
          refine call_is k4 ?_
          try simp only [I, B, D, RY, ↓ KW, seval, hw, hl, hz, hzl, hx, hy, ga, gb, n1, n2, n3, n4, n5, hgr, Sp.cells, h, n6]
          refine call_is k3 ?_
          try simp only [I, B, D, RY, ↓ KW, seval, hw, hl, hz, hzl, hx, hy, ga, gb, n1, n2, n3, n4, n5, hgr, Sp.cells, h, n6]
          refine call_is k1 ?_
          try simp only [I, B, D, RY, ↓ KW, seval, hw, hl, hz, hzl, hx, hy, ga, gb, n1, n2, n3, n4, n5, hgr, Sp.cells, h, n6]
          refine call_is hA ?_
          try simp only [I, B, D, RY, ↓ KW, seval]
        · try simp only [I, B, D, RY, ↓ KW, seval, hw, hl, hz, hzl, hx, hy, ga, gb, n1, n2, n3, n4, n5, hgr, Sp.cells, h]
          refine call_is k3 ?_
          try simp only [I, B, D, RY, ↓ KW, seval, hw, hl, hz, hzl, hx, hy, ga, gb, n1, n2, n3, n4, n5, hgr, Sp.cells, h]
          refine call_is k1 ?_
          try simp only [I, B, D, RY, ↓ KW, seval, hw, hl, hz, hzl, hx, hy, ga, gb, n1, n2, n3, n4, n5, hgr, Sp.cells, h]
          refine call_is hA ?_
          try simp only [I, B, D, RY, ↓ KW, seval]
    · refine le_tok2 (by decide) ?_ ?_ ?_ ?_ <;> simp [LX, I, B, D, Sp.cells, pasS, setCells]
  · have k0 := hF t 8 ok rw'
    rw [f8] at k0
    generalize hd1 : decide (a < nT l) = d1 at *
    generalize hd2 : decide (b < nT l) = d2 at *
    have hd : d1 = false ∨ d2 = false := by
      rcases Nat.lt_or_ge a (nT l) with h | h
      · right; rw [← hd2]; simp; omega
      · left; rw [← hd1]; simp; omega
    cases d1
    · try simp only [I, B, D, RY, ↓ KW, seval, hw, hl, hz, hzl, hx, hy, ga, gb]
      refine call_is k0 ?_
      try simp only [I, B, D, RY, ↓ KW, seval]
      refine call_is hA ?_
      try simp only [I, B, D, RY, ↓ KW, seval]
    · have : d2 = false := by simpa using hd
      subst this
      try simp only [I, B, D, RY, ↓ KW, seval, hw, hl, hz, hzl, hx, hy, ga, gb]
      refine call_is k0 ?_
      try simp only [I, B, D, RY, ↓ KW, seval]
      refine call_is hA ?_
      try simp only [I, B, D, RY, ↓ KW, seval]
end
end Go.Eng
namespace Go.Eng
set_option linter.unusedVariables false
set_option linter.unusedSimpArgs false
set_option linter.unnecessarySimpa false
open Go
set_option linter.unusedVariables false
set_option linter.unusedSimpArgs false
set_option maxRecDepth 10000
set_option maxHeartbeats 4000000
def Al {α β : Type} (R : α → β → Prop) : List α → List β → Prop
  | [], [] => True
  | a :: l, b :: m => R a b ∧ Al R l m
  | _, _ => False
theorem Al.len {α β : Type} {R : α → β → Prop} : ∀ {l : List α} {m : List β}, Al R l m → l.length = m.length
  | [], [], _ => rfl
  | a :: l, b :: m, h => by simp [Al.len h.2]
  | [], b :: m, h => h.elim
  | a :: l, [], h => h.elim
theorem Al.get {α β : Type} {R : α → β → Prop} : ∀ {l : List α} {m : List β}, Al R l m → ∀ (i : Nat) (a : α) (b : β), l[i]? = some a → m[i]? = some b → R a b
  | a :: l, b :: m, h, 0, x, y, hx, hy => by simp at hx hy; subst hx; subst hy; exact h.1
  | a :: l, b :: m, h, i + 1, x, y, hx, hy => Al.get h.2 i x y (by simpa using hx) (by simpa using hy)
  | [], _, _, i, _, _, hx, _ => by simp at hx
theorem Al.mk {α β : Type} {R : α → β → Prop} : ∀ {l : List α} {m : List β}, l.length = m.length → (∀ (i : Nat) (a : α) (b : β), l[i]? = some a → m[i]? = some b → R a b) → Al R l m
  | [], [], _, _ => trivial
  | a :: l, b :: m, h, f => ⟨f 0 a b rfl rfl, Al.mk (by simpa using h) fun i x y hx hy => f (i + 1) x y (by simpa using hx) (by simpa using hy)⟩
theorem Al.append {α β : Type} {R : α → β → Prop} : ∀ {l : List α} {m : List β} {l' : List α} {m' : List β}, Al R l m → Al R l' m' → Al R (l ++ l') (m ++ m')
  | [], [], _, _, _, h => h
  | a :: l, b :: m, _, _, h, h' => ⟨h.1, Al.append h.2 h'⟩
theorem Al.n {α β : Type} {R : α → β → Prop} : Al R ([] : List α) ([] : List β) := trivial
theorem Al.c {α β : Type} {R : α → β → Prop} {a : α} {b : β} {l : List α} {m : List β} (h : R a b) (t : Al R l m) : Al R (a :: l) (b :: m) := ⟨h, t⟩
theorem Al.nil_inv {α β : Type} {R : α → β → Prop} {m : List β} (h : Al R [] m) : m = [] := by
  cases m with
  | nil => rfl
  | cons b m => exact h.elim
theorem Al.cons_inv {α β : Type} {R : α → β → Prop} {a : α} {l : List α} {m : List β} (h : Al R (a :: l) m) : ∃ b m', m = b :: m' ∧ R a b ∧ Al R l m' := by
  cases m with
  | nil => exact h.elim
  | cons b m => exact ⟨b, m, rfl, h.1, h.2⟩
inductive Sc where
  | bool
  | int (k : IntKind)
  | flt (k : FloatKind)
  | str
inductive Ty where
  | sc (s : Sc)
  | sl (l : List Ty)
def tyParts (sz : TypeId → Nat) (F : TypeId → Option (List Ty)) : Nat → List (Nat × TypeId) → Option (List Ty)
  | _, [] => some []
  | o, f :: r => if f.1 = o then match F f.2 with
      | some l => if sz f.2 = l.length then match tyParts sz F (o + l.length) r with
        | some m => some (l ++ m)
        | none => none
        else none
      | none => none
    else none
def tyOf (P : Program) : Nat → TypeId → Option (List Ty)
  | 0, _ => none
  | n + 1, t => match P.underlying t with
    | some .bool => some [.sc .bool]
    | some (.int k) => some [.sc (.int k)]
    | some (.float k) => some [.sc (.flt k)]
    | some .string => some [.sc .str]
    | some (.slice e) => match tyOf P n e with
      | some l => if P.cellsOf e = l.length ∧ 0 < l.length then some [.sl l] else none
      | none => none
    | some (.struct fs) => match tyParts P.cellsOf (tyOf P n) 0 (fs.toList.map fun f => (f.offset, f.type)) with
      | some l => if P.cellsOf t = l.length then some l else none
      | none => none
    | some (.array k e) => match tyParts P.cellsOf (tyOf P n) 0 ((List.range k).map fun i => (i * P.cellsOf e, e)) with
      | some l => if P.cellsOf t = l.length then some l else none
      | none => none
    | _ => none
def ScV : Sc → AV → Prop
  | .bool, .bool _ => True
  | .int k, .int k' n => k' = k ∧ (Lit.int k n).wf = true
  | .flt k, .float k' b => k' = k ∧ (Lit.float k b).wf = true
  | .str, .str s => s.size ≤ maxLen
  | _, _ => False
mutual
def TyV : Ty → AV → Prop
  | .sc s, a => ScV s a
  | .sl _, .nils => True
  | .sl l, .sl xs => xs.length ≤ maxLen ∧ ∀ r ∈ xs, TysV l r
  | _, _ => False
def TysV : List Ty → List AV → Prop
  | [], [] => True
  | t :: l, a :: r => TyV t a ∧ TysV l r
  | _, _ => False
end
theorem tysV_al : ∀ {l : List Ty} {as : List AV}, TysV l as ↔ Al TyV l as
  | [], [] => by simp [TysV, Al]
  | t :: l, a :: r => by simp only [TysV, Al]; rw [tysV_al (l := l) (as := r)]
  | [], a :: r => by simp [TysV, Al]
  | t :: l, [] => by simp [TysV, Al]
def oldP (W : World) : Nat → Nat → Prop := fun b _ => b < W.heap.size
theorem cell_lt {W : World} {a : Addr} {v : Value} (h : W.cell? a = some v) : a.block < W.heap.size := by
  unfold World.cell? at h
  split at h
  · rename_i hh; exact heap_lt hh
  · cases h
theorem ScV.scalar {s : Sc} {a : AV} (h : ScV s a) : a.scalar = true := by cases s <;> cases a <;> first | exact h.elim | rfl
theorem TyV.scalar {s : Ty} {a : AV} (h : TyV s a) : a.scalar = true := by
  cases s with
  | sc s => exact ScV.scalar (by simpa [TyV] using h)
  | sl l => cases a <;> first | rfl | (simp [TyV] at h)
section
variable {H : Type} {enc : TypeId × Value → H} {P : Program} {W : World} {base : Nat}
open Go.ChangeShapes Go.WideShapes Go.ChangeAt Go.RowKit
theorem trod_float {sp : Nat → Bool} {held : Bool} {b0 fuel : Nat} {t : TypeId} {cs : List Value} {x : DataW H × List MemPlace} {k : FloatKind} (ht : P.underlying t = some (.float k)) (h : DataW.trod enc P W b0 sp held fuel t cs = some x) : ∃ n, cs = [.float k n] ∧ (Lit.float k n).wf = true := by
  cases fuel with
  | zero => simp [DataW.trod] at h
  | succ n =>
    unfold DataW.trod at h
    rw [ht] at h
    split at h <;> simp_all
theorem parts_open {sp : TypeId → Nat} {G : TypeId → Option (List Ty)} {Tr : TypeId → List Value → Prop}
    (each : ∀ t l cs, G t = some l → Tr t cs → ∃ as, Al TyV l as ∧ Al (DV W (oldP W)) as cs) : ∀ (ps : List (Nat × TypeId)) (o : Nat) (l : List Ty) (cs : List Value), tyParts sp G o ps = some l → cs.length = o + l.length →
      (∀ (i : Nat) (f : Nat × TypeId), ps[i]? = some f → Tr f.2 ((cs.drop f.1).take (sp f.2))) → ∃ as, Al TyV l as ∧ Al (DV W (oldP W)) as (cs.drop o)
  | [], o, l, cs, h, hl, _ => by
    simp only [tyParts, Option.some.injEq] at h
    subst h
    refine ⟨[], trivial, ?_⟩
    rw [List.drop_of_length_le (by simp at hl; omega)]; trivial
  | f :: ps, o, l, cs, h, hl, htr => by
    simp only [tyParts] at h
    split at h <;> try (cases h; done)
    rename_i ho
    split at h <;> try (cases h; done)
    rename_i l1 hl1
    split at h <;> try (cases h; done)
    rename_i hsz
    split at h <;> try (cases h; done)
    rename_i m hm
    cases h
    have h0 := htr 0 f rfl
    rw [ho, hsz] at h0
    obtain ⟨as1, ht1, hd1⟩ := each f.2 l1 _ hl1 h0
    obtain ⟨as2, ht2, hd2⟩ := parts_open each ps (o + l1.length) m cs hm (by rw [hl]; simp; omega) (fun i g hg => htr (i + 1) g (by simpa using hg))
    refine ⟨as1 ++ as2, ht1.append ht2, ?_⟩
    have := hd1.append hd2
    rw [← List.drop_drop, List.take_append_drop] at this
    exact this
omit H enc P W base in
theorem cell_spot' {w : World} {b o : Nat} {sp : Option Nat} {v : Value} (h : w.cell? ⟨b, o, sp⟩ = some v) : sp = none := by
  cases sp with
  | none => rfl
  | some x => unfold World.cell? at h; split at h <;> simp at h
theorem add_off {a : Addr} {n : Nat} (h : a.spot = none) : a.add n = ⟨a.block, a.off + n, none⟩ := by
  obtain ⟨b, o, s⟩ := a
  simp only at h; subst h
  unfold Addr.add; split
  · rename_i hh; subst hh; rfl
  · rfl
theorem ty_open : ∀ (n : Nat) (t : TypeId) (l : List Ty), tyOf P n t = some l → ∀ (cs : List Value) (x : DataW H × List MemPlace) (fuel : Nat),
    DataW.trod enc P W 0 (fun _ => true) true fuel t cs = some x → ∃ as, Al TyV l as ∧ Al (DV W (oldP W)) as cs
  | 0, t, l, h, cs, x, fuel, hx => by cases h
  | n + 1, t, l, h, cs, x, fuel, hx => by
    simp only [tyOf] at h
    split at h
    · rename_i ht; cases h
      obtain ⟨b, rfl, _⟩ := DataW.trod_bool ht hx
      exact ⟨[.bool b], ⟨by simp [TyV, ScV], trivial⟩, ⟨.bool b, trivial⟩⟩
    · rename_i k ht; cases h
      obtain ⟨m, rfl, _, hw⟩ := DataW.trod_int ht hx
      exact ⟨[.int k m], ⟨by simp only [TyV]; exact ⟨rfl, hw⟩, trivial⟩, ⟨.int k m, trivial⟩⟩
    · rename_i k ht; cases h
      obtain ⟨m, rfl, hw⟩ := trod_float ht hx
      exact ⟨[.float k m], ⟨by simp only [TyV]; exact ⟨rfl, hw⟩, trivial⟩, ⟨.float k m, trivial⟩⟩
    · rename_i ht; cases h
      obtain ⟨s, rfl, _, hw⟩ := DataW.trod_string ht hx
      exact ⟨[.str s], ⟨by simp only [TyV]; exact hw, trivial⟩, ⟨.str s, trivial⟩⟩
    · rename_i e ht
      split at h <;> try (cases h; done)
      rename_i le hle
      split at h <;> try (cases h; done)
      rename_i hsz
      cases h
      obtain ⟨hsz, hpos⟩ := hsz
      rcases DataW.trod_slice ht hx with ⟨rfl, _⟩ | ⟨a, len, cap, elems, rest, k, _, rfl, _, _, hlc, hmx, hlen, hel, hrest, _⟩
      · exact ⟨[.nils], ⟨by simp [TyV], trivial⟩, ⟨.nils, trivial⟩⟩
      have spotOf : ∀ (y : DataW H × List MemPlace), (W.cells? 0 (a.add (0 * P.cellsOf e)) (P.cellsOf e)).bind (DataW.trod enc P W 0 (fun _ => true) true k e) = some y → a.spot = none := by
        intro y hy
        rw [Option.bind_eq_some_iff] at hy
        obtain ⟨cs, hcs, _⟩ := hy
        obtain ⟨_, hcl, hcell⟩ := World.cells?_some hcs
        have h0 := hcell 0 (by omega)
        obtain ⟨v, hv⟩ : ∃ v, cs[0]? = some v := ⟨_, List.getElem?_eq_getElem (by omega)⟩
        rw [hv] at h0
        obtain ⟨b, o, sp⟩ := a
        simp only [Nat.zero_mul, Addr.add, if_true] at h0
        exact cell_spot' h0
      have hspot : cap = 0 ∨ a.spot = none := by
        rcases Nat.eq_zero_or_pos cap with h | h
        · exact .inl h
        right
        rcases Nat.eq_zero_or_pos len with h' | h'
        · obtain ⟨hr1, hr2⟩ := hrest rfl
          have := hr2 0 (by omega)
          obtain ⟨y, hy⟩ : ∃ y, rest[0]? = some y := ⟨_, List.getElem?_eq_getElem (by omega)⟩
          rw [hy, h', Nat.zero_add] at this
          exact spotOf y this
        · have := hel 0 h'
          obtain ⟨y, hy⟩ : ∃ y, elems[0]? = some y := ⟨_, List.getElem?_eq_getElem (by omega)⟩
          rw [hy] at this
          exact spotOf y this
      rcases hspot with rfl | hspot
      · have : len = 0 := by omega
        subst this
        exact ⟨[.sl []], ⟨by simp [TyV], trivial⟩, ⟨.sl0 a, trivial⟩⟩
      have each : ∀ i, i < len → ∃ as cs, Al TyV le as ∧ Al (DV W (oldP W)) as cs ∧ ∀ j, j < le.length → W.cell? ⟨a.block, a.off + i * le.length + j, none⟩ = cs[j]? := by
        intro i hi
        have he := hel i hi
        have : elems[i]? ≠ none := by simp; omega
        obtain ⟨y, hy⟩ := Option.ne_none_iff_exists'.1 this
        rw [hy, Option.bind_eq_some_iff] at he
        obtain ⟨cs, hcs, htr⟩ := he
        obtain ⟨_, hcl, hcell⟩ := World.cells?_some hcs
        obtain ⟨as, hta, hda⟩ := ty_open n e le hle cs y k htr
        refine ⟨as, cs, hta, hda, fun j hj => ?_⟩
        have := hcell j (by omega)
        rw [← this, add_off (a := a.add _) (by rw [add_off hspot]), add_off hspot, hsz]
      obtain ⟨rows, hrl, hrt, hr⟩ : ∃ rows : List (List AV), rows.length = len ∧ (∀ r ∈ rows, Al TyV le r) ∧ ∀ i r, rows[i]? = some r → ∃ cs, Al (DV W (oldP W)) r cs ∧ ∀ j, j < le.length → W.cell? ⟨a.block, a.off + i * le.length + j, none⟩ = cs[j]? := by
        refine ⟨(List.range len).map fun i => if h : i < len then (each i h).choose else [], by simp, ?_, ?_⟩
        · intro r hr
          obtain ⟨i, hi, rfl⟩ := List.mem_map.1 hr
          rw [List.mem_range] at hi
          rw [dif_pos hi]
          exact (each i hi).choose_spec.choose_spec.1
        · intro i r hr
          rw [List.getElem?_map, Option.map_eq_some_iff] at hr
          obtain ⟨k, hk, rfl⟩ := hr
          have hi := (List.getElem?_eq_some_iff.1 hk).1
          simp at hi
          rw [List.getElem?_range hi] at hk
          cases hk
          rw [dif_pos hi]
          exact ⟨_, (each i hi).choose_spec.choose_spec.2⟩
      obtain ⟨b, off, spot⟩ := a
      simp only at hspot hr
      subst hspot
      refine ⟨[.sl rows], ⟨by simp only [TyV]; exact ⟨by omega, fun r hr => tysV_al.2 (hrt r hr)⟩, trivial⟩, ?_, trivial⟩
      have hz : ∀ (i : Nat) (r : List AV), rows[i]? = some r → r.length = le.length := fun i r h => (hrt r (List.mem_of_getElem? h)).len.symm
      have at_ : ∀ (i j : Nat) (r : List AV) (x : AV), rows[i]? = some r → r[j]? = some x → ∃ v, W.cell? ⟨b, off + i * le.length + j, none⟩ = some v ∧ DV W (oldP W) x v := by
        intro i j r x h1 h2
        obtain ⟨cs, hd, hc⟩ := hr i r h1
        have hj : j < le.length := by have := (List.getElem?_eq_some_iff.1 h2).1; have := hz i r h1; omega
        obtain ⟨v, hv⟩ : ∃ v, cs[j]? = some v := ⟨_, List.getElem?_eq_getElem (by have := hd.len; have := hz i r h1; omega)⟩
        exact ⟨v, (hc j hj).trans hv, hd.get j x v h2 hv⟩
      have key := DV.sl (w := W) (π := oldP W) rows b off cap le.length (fun i j => (W.cell? ⟨b, off + i * le.length + j, none⟩).getD default) (by omega) hz
        (fun i j r x h1 h2 => by
          obtain ⟨t, ht⟩ : ∃ t, le[j]? = some t := ⟨_, List.getElem?_eq_getElem (by have := (List.getElem?_eq_some_iff.1 h2).1; have := hz i r h1; omega)⟩
          exact TyV.scalar ((hrt r (List.mem_of_getElem? h1)).get j t x ht h2))
        (fun i j r x h1 h2 => by obtain ⟨v, hv, _⟩ := at_ i j r x h1 h2; exact cell_lt hv)
        (fun i j r x h1 h2 => by obtain ⟨v, hv, _⟩ := at_ i j r x h1 h2; rw [hv]; rfl)
        (fun i j r x h1 h2 => by obtain ⟨v, hv, hd⟩ := at_ i j r x h1 h2; rw [hv]; exact hd)
      rw [hrl] at key
      exact key
    · rename_i fs ht
      split at h <;> try (cases h; done)
      rename_i l' hl'
      split at h <;> try (cases h; done)
      rename_i hsz
      cases h
      obtain ⟨xs, k, _, _, hcl, hxl, hf⟩ := DataW.trod_struct ht hx
      have := parts_open (W := W) (Tr := fun t cs => ∃ x fuel, DataW.trod enc P W 0 (fun _ => true) true fuel t cs = some x) (fun t l cs h1 ⟨x, fuel, h3⟩ => ty_open n t l h1 cs x fuel h3) _ 0 l cs hl' (by omega) (fun i f hif => by
        rw [List.getElem?_map, Option.map_eq_some_iff] at hif
        obtain ⟨f, hif, rfl⟩ := hif
        have h1 := hf i f (by simpa using hif)
        have : xs[i]? ≠ none := by
          have := (List.getElem?_eq_some_iff.1 hif).1
          simp at this ⊢; omega
        obtain ⟨y, hy⟩ := Option.ne_none_iff_exists'.1 this
        exact ⟨y, k, h1.trans hy⟩)
      simpa using this
    · rename_i q e ht
      split at h <;> try (cases h; done)
      rename_i l' hl'
      split at h <;> try (cases h; done)
      rename_i hsz
      cases h
      obtain ⟨xs, k, _, _, hcl, hxl, hf⟩ := DataW.trod_array ht hx
      have := parts_open (W := W) (Tr := fun t cs => ∃ x fuel, DataW.trod enc P W 0 (fun _ => true) true fuel t cs = some x) (fun t l cs h1 ⟨x, fuel, h3⟩ => ty_open n t l h1 cs x fuel h3) _ 0 l cs hl' (by omega) (fun i f hif => by
        rw [List.getElem?_map, Option.map_eq_some_iff] at hif
        obtain ⟨f, hif, rfl⟩ := hif
        have hi := (List.getElem?_eq_some_iff.1 hif).1
        simp at hi
        rw [List.getElem?_range hi] at hif
        cases hif
        have h1 := hf i hi
        have : xs[i]? ≠ none := by simp; omega
        obtain ⟨y, hy⟩ := Option.ne_none_iff_exists'.1 this
        exact ⟨y, k, h1.trans hy⟩)
      simpa using this
    · cases h
def isAgg (P : Program) (t : TypeId) : Bool := match P.underlying t with
  | some (.struct _) | some (.array _ _) => true
  | _ => false
theorem arg_open1 {n : Nat} {t : TypeId} {k : Ty} {v : Value} {d : DataW H} {p : List MemPlace} (hl : tyOf P n t = some [k]) (ha : isAgg P t = false) (hval : Value.okWide P W .any base t v)
    (h : DataW.Trod enc P W 0 (fun _ => true) true t v d p) : ∃ a, TyV k a ∧ DV W (oldP W) a v := by
  obtain ⟨fuel, hf⟩ := h
  obtain ⟨as, ht, hd⟩ := ty_open n t [k] hl _ _ _ hf
  obtain ⟨a, as', rfl, hk, ht'⟩ := ht.cons_inv
  cases ht'.nil_inv
  obtain ⟨u, us, e, hdu, _⟩ := hd.cons_inv
  have hne : ∀ cs, v ≠ .agg cs := by
    rintro cs rfl
    unfold isAgg at ha
    unfold Value.okWide at hval
    split at hval
    · rename_i e; rw [e] at ha; cases ha
    · rename_i e; rw [e] at ha; cases ha
    · unfold Cell.okWide at hval
      split at hval <;> simp_all [Cell.ok]
  refine ⟨a, hk, ?_⟩
  cases v <;> simp [Value.cells] at e
  case agg cs => exact absurd rfl (hne cs)
  all_goals (obtain ⟨rfl, rfl⟩ := e; exact hdu)
theorem tyv_int {k : IntKind} {a : AV} (h : TyV (.sc (.int k)) a) : ∃ n, a = .int k n ∧ (Lit.int k n).wf = true := by
  simp only [TyV] at h
  cases a <;> first | exact h.elim | (obtain ⟨rfl, hw⟩ := h; exact ⟨_, rfl, hw⟩)
theorem tyv_sl {α : Type} {f : α → List AV} {Q : α → Prop} {l : List Ty} (row : ∀ r, Al TyV l r → ∃ x, r = f x ∧ Q x) {a : AV} (h : TyV (.sl l) a) : ∃ xs : Option (List α), a = slAV f xs ∧ (xs.getD []).length ≤ maxLen ∧ ∀ x ∈ xs.getD [], Q x := by
  cases a <;> simp only [TyV] at h
  · exact ⟨none, rfl, by simp, by simp⟩
  rename_i xs
  have : ∀ (xs : List (List AV)), (∀ r ∈ xs, TysV l r) → ∃ m : List α, xs = m.map f ∧ ∀ x ∈ m, Q x := by
    intro xs
    induction xs with
    | nil => intro _; exact ⟨[], rfl, by simp⟩
    | cons r xs ih =>
      intro h
      obtain ⟨m, rfl, hm⟩ := ih (fun r hr => h r (List.mem_cons_of_mem _ hr))
      obtain ⟨x, rfl, hx⟩ := row _ (tysV_al.1 (h _ List.mem_cons_self))
      exact ⟨x :: m, rfl, by simpa using ⟨hx, hm⟩⟩
  obtain ⟨m, rfl, hm⟩ := this xs h.2
  exact ⟨some m, rfl, by simpa using h.1, hm⟩
theorem tyv_ints {k : IntKind} {a : AV} (h : TyV (.sl [.sc (.int k)]) a) : ∃ l : Option (List Int), a = slAV (fun n => [.int k n]) l ∧ (l.getD []).length ≤ maxLen ∧ ∀ n ∈ l.getD [], (Lit.int k n).wf = true :=
  tyv_sl (fun r hr => by
    obtain ⟨a, as, rfl, h1, h2⟩ := hr.cons_inv
    cases h2.nil_inv
    obtain ⟨n, rfl, hn⟩ := tyv_int h1
    exact ⟨n, rfl, hn⟩) h
theorem law_call {P : Program} {f : Nat} {args : List AV} {W : World} {vs : List Value} (h : (Pure P).c f args (.bool true) none) (hd : Al (DV W (oldP W)) args vs) :
    Calls P f vs.toArray W fun e w' => e = .returned (.bool true) ∧ Go.RowKit.Below W.heap.size W w' := by
  refine (h.2 W (oldP W) vs (fun _ _ h => h) ⟨hd.len, hd.get⟩).mono fun e w' ⟨v, π', he, hb, _, _, _, hdv, _⟩ => ?_
  cases hdv
  exact ⟨he, hb⟩
end
section
variable {H : Type} {enc : TypeId × Value → H} {P : Program} {W : World} {base : Nat}
open Go.ChangeShapes Go.WideShapes Go.ChangeAt Go.RowKit
def Came (enc : TypeId × Value → H) (P : Program) (W : World) (base : Nat) (t : TypeId) (v : Value) : Prop :=
  Value.okWide P W .any base t v ∧ ∃ d p, DataW.Trod enc P W 0 (fun _ => true) true t v d p
theorem args_open : ∀ {ts : List TypeId} {vs : List Value} {ds : List (DataW H)} {ps : List MemPlace}, DataW.TrodAll enc P W 0 (fun _ => true) true ts vs ds ps →
    (∀ (j : Nat) t v, ts[j]? = some t → vs[j]? = some v → Value.okWide P W .any base t v) → Al (Came enc P W base) ts vs
  | [], vs, ds, ps, h, _ => by obtain ⟨rfl, _, _⟩ := trodAll_nil h; trivial
  | t :: ts, vs, ds, ps, h, hv => by
    obtain ⟨v, vs', d, ds', p, q, rfl, rfl, rfl, h0, h1⟩ := trodAll_cons h
    exact ⟨⟨hv 0 t v rfl rfl, d, p, h0⟩, args_open h1 fun j t v h1 h2 => hv (j + 1) t v (by simpa using h1) (by simpa using h2)⟩
theorem args_close {W' : World} (hl : laidOutB P = true) : ∀ {ts : List TypeId} {vs : List Value} {ds : List (DataW H)} {ps : List MemPlace}, (ts.all fun t => P.readableRec t && decide (t < P.types.size)) = true →
    DataW.TrodAll enc P W 0 (fun _ => true) true ts vs ds ps → Below W.heap.size W W' → DataW.TrodAll enc P W' 0 (fun b => decide (b < W.heap.size)) true ts vs ds ps
  | [], vs, ds, ps, _, h, _ => by obtain ⟨rfl, rfl, rfl⟩ := trodAll_nil h; exact trodAll_mk0
  | t :: ts, vs, ds, ps, hr, h, hb => by
    have hlt := DataW.TrodAll.lt h
    obtain ⟨v, vs', d, ds', p, q, rfl, rfl, rfl, h0, h1⟩ := trodAll_cons h
    simp only [List.all_cons, Bool.and_eq_true, decide_eq_true_eq] at hr
    exact trodAll_cons_mk (Below.trod hl hr.1.1 hr.1.2 h0 hb fun x hx => hlt x (by simp [hx])) (args_close hl hr.2 h1 hb)
theorem came_one {n : Nat} {t : TypeId} {k : Ty} {v : Value} (hl : tyOf P n t = some [k]) (ha : isAgg P t = false) (h : Came enc P W base t v) : ∃ a, TyV k a ∧ DV W (oldP W) a v := by
  obtain ⟨h1, d, p, h2⟩ := h; exact arg_open1 hl ha h1 h2
theorem trodAll_lens {sp : Nat → Bool} {held : Bool} {b0 : Nat} : ∀ {ts : List TypeId} {vs : List Value} {ds : List (DataW H)} {ps : List MemPlace}, DataW.TrodAll enc P W b0 sp held ts vs ds ps → ds.length = ts.length
  | [], vs, ds, ps, h => by obtain ⟨_, rfl, _⟩ := trodAll_nil h; rfl
  | t :: ts, vs, ds, ps, h => by
    obtain ⟨v, vs', d, ds', p, q, rfl, rfl, rfl, h0, h1⟩ := trodAll_cons h
    simp [trodAll_lens h1]
end
theorem len_S {α : Type} {l : List α} {n : Nat} (h : l.length = n + 1) : ∃ a m, l = a :: m ∧ m.length = n := by
  cases l with
  | nil => cases h
  | cons a m => exact ⟨a, m, rfl, by simpa using h⟩
theorem len_1 {α : Type} {l : List α} (h : l.length = 1) : ∃ a, l = [a] := by obtain ⟨a, m, rfl, h2⟩ := len_S h; exact ⟨a, by rw [List.length_eq_zero_iff.1 h2]⟩
theorem len_2 {α : Type} {l : List α} (h : l.length = 2) : ∃ a b, l = [a, b] := by obtain ⟨a, m, rfl, h2⟩ := len_S h; obtain ⟨b, rfl⟩ := len_1 h2; exact ⟨a, b, rfl⟩
theorem len_3 {α : Type} {l : List α} (h : l.length = 3) : ∃ a b c, l = [a, b, c] := by obtain ⟨a, m, rfl, h2⟩ := len_S h; obtain ⟨b, c, rfl⟩ := len_2 h2; exact ⟨a, b, c, rfl⟩
theorem len_4 {α : Type} {l : List α} (h : l.length = 4) : ∃ a b c d, l = [a, b, c, d] := by obtain ⟨a, m, rfl, h2⟩ := len_S h; obtain ⟨b, c, d, rfl⟩ := len_3 h2; exact ⟨a, b, c, d, rfl⟩
end Go.Eng
