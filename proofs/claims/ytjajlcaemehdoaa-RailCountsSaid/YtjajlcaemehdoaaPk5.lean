/- The engine and the library, part 5 of 6: what the proofs of this seat need of them. -/
import Derived.Test.YtjajlcaemehdoaaPk4
namespace Go.Eng
set_option linter.unusedVariables false
set_option linter.unusedSimpArgs false
set_option linter.unnecessarySimpa false
open Go
set_option linter.unusedVariables false
set_option linter.unusedSimpArgs false
set_option maxRecDepth 10000
set_option maxHeartbeats 4000000
def mkTo (f : Nat → Bool) : Nat → Int
  | 0 => 0
  | k + 1 => if f k then withS (mkTo f k) k else mkTo f k
def mk8 (f : Nat → Bool) : Int := mkTo f 8
theorem mkTo_can (f : Nat → Bool) : ∀ k, k ≤ 8 → Can (mkTo f k)
  | 0, _ => by show Can 0; exact ⟨by decide, by decide⟩
  | k + 1, h => by
    simp only [mkTo]; split
    · exact can_with (by omega)
    · exact mkTo_can f k (by omega)
theorem mkTo_tb (f : Nat → Bool) (i : Nat) : ∀ k, k ≤ 8 → tb (mkTo f k) i = (decide (i < k) && f i)
  | 0, _ => by simp [mkTo, tb_zero]
  | k + 1, h => by
    have ih := mkTo_tb f i k (by omega)
    simp only [mkTo]
    split
    · rename_i hk
      rw [tb_with (by omega), ih]
      by_cases e : i = k
      · subst e; simp [hk]
      · have h1 : (i < k + 1) ↔ i < k := by omega
        have h2 : i < k → i < 8 := by omega
        by_cases h3 : i < k
        · simp [h1, h3, h2 h3, e]
        · simp [h1, h3, e]
    · rename_i hk
      rw [ih]
      by_cases e : i = k
      · subst e; simp at hk; simp [hk]
      · have h1 : (i < k + 1) ↔ i < k := by omega
        simp [h1]
theorem can_mk8 (f : Nat → Bool) : Can (mk8 f) := mkTo_can f 8 (by omega)
theorem tb_mk8 (f : Nat → Bool) (i : Nat) : tb (mk8 f) i = (decide (i < 8) && f i) := mkTo_tb f i 8 (by omega)
theorem mk8_eq {x : Int} (hx : Can x) {f : Nat → Bool} (h : ∀ i, i < 8 → tb x i = f i) : x = mk8 f :=
  can_ext hx (can_mk8 f) fun i hi => by rw [h i hi, tb_mk8]; simp [hi]
theorem can_and {x y : Int} (hy : Can y) : Can (bAnd .i64 x y) := by
  have e : bAnd .i64 x y = IntKind.i64.wrap ((bv x &&& bv y).toNat : Int) := rfl
  rw [e]
  refine can_bits fun i h8 h64 => ?_
  have a := can_high hy h8 h64
  simp only [tb] at a
  rw [BitVec.getLsbD_and, a, Bool.and_false]
theorem can_255 : Can 255 := ⟨by decide, by decide⟩
theorem can_0 : Can 0 := ⟨by decide, by decide⟩
def all8 (s : Int) (f : Nat → Bool) : Bool := (List.range 8).all fun p => !tb s p || f p
theorem all8_iff {s : Int} {f : Nat → Bool} : all8 s f = true ↔ ∀ p, p < 8 → tb s p = true → f p = true := by
  simp only [all8, List.all_eq_true, List.mem_range, Bool.or_eq_true, Bool.not_eq_true']
  constructor
  · intro h p hp ht; rcases h p hp with e | e
    · rw [ht] at e; cases e
    · exact e
  · intro h p hp
    cases ht : tb s p
    · exact .inl rfl
    · exact .inr (h p hp ht)
theorem mk8_all (s : Int) (f : Nat → Bool) : (mk8 (fun p => tb s p && f p) == bAnd .i64 s 255) = all8 s f := by
  rw [Bool.eq_iff_iff, all8_iff, beq_iff_eq]
  constructor
  · intro h p hp ht
    have := congrArg (fun x => tb x p) h
    simp only [tb_mk8, tb_and, tb_255, hp, ht, decide_true, Bool.true_and, Bool.and_true] at this
    exact this
  · intro h
    refine can_ext (can_mk8 _) (can_and can_255) fun i hi => ?_
    rw [tb_mk8, tb_and, tb_255]
    cases ht : tb s i
    · simp
    · simp [hi, h i hi ht]
def fold8 (is : Nat → Bool) (l : List Nat) : Int := l.foldl (fun n p => if is p then withS n p else n) 0
theorem fold8_spec (is : Nat → Bool) : ∀ (l : List Nat) (n : Int), (∀ p ∈ l, p < 8) → Can n → Can (l.foldl (fun n p => if is p then withS n p else n) n) ∧ ∀ i, i < 8 → tb (l.foldl (fun n p => if is p then withS n p else n) n) i = (tb n i || (decide (i ∈ l) && is i))
  | [], n, _, hc => ⟨hc, fun i hi => by simp⟩
  | q :: l, n, h, hc => by
    have hq : q < 8 := h q (by simp)
    rw [List.foldl_cons]
    have hc2 : Can (if is q then withS n q else n) := by split; exact can_with hq; exact hc
    obtain ⟨a, b⟩ := fold8_spec is l _ (fun p hp => h p (by simp [hp])) hc2
    refine ⟨a, fun i hi => ?_⟩
    rw [b i hi]
    by_cases e : i = q
    · subst e
      split
      · rename_i hk; rw [tb_with hq]; simp [hk]
      · rename_i hk; simp at hk; simp [hk]
    · have e2 : (i ∈ q :: l) ↔ i ∈ l := by simp [e]
      simp only [e2]
      split
      · rw [tb_with hq]; simp [hi, e]
      · rfl
theorem fold8_mk8 (is : Nat → Bool) (s : Int) : fold8 is (setN s) = mk8 fun p => tb s p && is p := by
  obtain ⟨a, b⟩ := fold8_spec is (setN s) 0 (fun p hp => setN_lt hp) can_0
  refine mk8_eq a fun i hi => ?_
  rw [b i hi, tb_zero, Bool.false_or]
  cases ht : tb s i
  · have : ¬ i ∈ setN s := fun h => by rw [setN_tb h] at ht; cases ht
    simp [this]
  · simp [setN_mem hi ht]
def heldAt (s : Pr) (k : Nat) : Int := s.held.getD k 0
def tr4 (t : Tb) : Option (List Rl) := t.rails.map (·.take 4)
def nR (t : Tb) : Nat := min (t.rails.getD []).length 4
theorem tr4_len (t : Tb) : ((tr4 t).getD []).length = nR t := by
  unfold tr4 nR; cases t.rails with
  | none => rfl
  | some l => simp [Nat.min_comm]
theorem tr4_get (t : Tb) {k : Nat} (hk : k < nR t) : ((tr4 t).getD [])[k]? = some (rlN t k) := by
  unfold nR at hk; unfold tr4 rlN
  cases h : t.rails with
  | none => rw [h] at hk; simp at hk
  | some l =>
    rw [h] at hk
    simp only [Option.getD_some] at hk
    simp only [Option.map_some, Option.getD_some]
    have h1 : k < l.length := by omega
    rw [List.getElem?_take, if_pos (by omega)]
    simp [h1]
theorem Pr.len {s : Pr} (h : s.held.length = 4) : s.cells.length = 8 := by simp [Pr.cells, h]
theorem Pr.whole {s : Pr} (h : s.held.length = 4) : partA s.cells 0 (some 8) = some (.agg s.cells) := by
  have := Pr.len h
  simp [partA, this]
  rw [← this, List.take_length]
theorem held_cases {s : Pr} (h : s.held.length = 4) : s.held = [heldAt s 0, heldAt s 1, heldAt s 2, heldAt s 3] := by
  match hs : s.held, h with
  | [a, b, c, d], _ => simp [heldAt, hs]
theorem Pr.held_at {s : Pr} (h : s.held.length = 4) {k : Nat} (hk : k < 4) : s.cells[3 + k]? = some (I (heldAt s k)) := by
  have e : k = 0 ∨ k = 1 ∨ k = 2 ∨ k = 3 := by omega
  rw [Pr.cells, held_cases h]
  rcases e with rfl | rfl | rfl | rfl <;> rfl
theorem Pr.spent_at {s : Pr} (h : s.held.length = 4) : s.cells[7]? = some (I s.spent) := by
  rw [Pr.cells, held_cases h]; rfl
def actTo (t : Tb) (lines : Int) : Nat → Int
  | 0 => 0
  | k + 1 => if tb lines k then bOr .i64 (actTo t lines k) (2 ^ k) else actTo t lines k
def held1 (s : Pr) (k : Nat) : Int := cutI (heldAt s k) 0 2147483646 + 1
def heldTo (t : Tb) (s : Pr) (lines : Int) (n : Nat) : List Int := (List.range 4).map fun k => if k < n && tb lines k then held1 s k else 0
def linesE (t : Tb) (s : Pr) (lines : Int) : Pr := { s with held := heldTo t s lines (nR t), spent := bAnd .i64 s.spent (actTo t lines (nR t)) }
theorem linesE_held (t : Tb) (s : Pr) (lines : Int) : (linesE t s lines).held.length = 4 := rfl
def askR (t : Tb) (s : Pr) (k : Nat) : Bool := decide (heldAt s k > (rlN t k).delay) && !tb s.spent k
def readyE (t : Tb) (s : Pr) : Int := match (List.range (nR t)).find? (askR t s) with
  | some k => k
  | none => -1
def stuckR (t : Tb) (s : Pr) (k : Nat) : Bool := decide (heldAt s k > (rlN t k).limit)
def stuckE (t : Tb) (s : Pr) : Bool := (List.range (nR t)).any (stuckR t s)
def pRails.Spec (C : Con) (f : Nat) : Prop := ∀ t : Tb, t.Ok → C.c f [.agg t.cells] (slAV Rl.cells (tr4 t)) none
def pLines.Spec (C : Con) (f : Nat) : Prop := ∀ (t : Tb) (s : Pr) (lines : Int), t.Ok → s.held.length = 4 → C.c f [.agg t.cells, .agg s.cells, I lines] (.agg (linesE t s lines).cells) none
def pReady.Spec (C : Con) (f : Nat) : Prop := ∀ (t : Tb) (s : Pr), t.Ok → s.held.length = 4 → C.c f [.agg t.cells, .agg s.cells] (I (readyE t s)) none
def pStuck.Spec (C : Con) (f : Nat) : Prop := ∀ (t : Tb) (s : Pr), t.Ok → s.held.length = 4 → C.c f [.agg t.cells, .agg s.cells] (B (stuckE t s)) none
def pMore.Spec (C : Con) (f : Nat) : Prop := ∀ n : Int, C.c f [I n] (I (moreE n)) none
theorem shr_bit {s : Int} {k : Nat} (hk : k < 4) : bAnd .i64 (s.fdiv (2 ^ k)) 1 = if tb s k then 1 else 0 := by
  have h1 : tb (s.fdiv (2 ^ k)) 0 = tb s k := by
    rw [tb_num _ (by omega), tb_num _ (by omega)]
    simp
  rw [bAnd_one, h1]
theorem w64_min {k : Nat} (hk : k < 4) : min ((k : Int)).toNat IntKind.i64.bits = k := by
  have : IntKind.i64.bits = 64 := rfl
  rw [this]; omega
theorem heldTo_next (t : Tb) (s : Pr) (lines : Int) {k : Nat} (hk : k < 4) : (heldTo t s lines (k + 1)).map I = setCells ((heldTo t s lines k).map I) k [I (if tb lines k then held1 s k else 0)] := by
  have e : k = 0 ∨ k = 1 ∨ k = 2 ∨ k = 3 := by omega
  rcases e with rfl | rfl | rfl | rfl <;> simp [heldTo, setCells, List.range_succ]
theorem heldTo_keep (t : Tb) (s : Pr) (lines : Int) {k : Nat} (h : tb lines k = false) : heldTo t s lines (k + 1) = heldTo t s lines k := by
  unfold heldTo
  apply List.map_congr_left
  intro i hi
  by_cases e : i = k
  · subst e; simp [h]
  · have : (i < k + 1) ↔ i < k := by omega
    simp [this]
section
variable {P : Program} (hm : P.follows .mixedOrders = true) {f : Nat}
include hm
theorem pMore.ok (hc : cFn P f = some cc_preempt_more) : pMore.Spec (Pure P) f := by
  intro n
  have h1 : (if 9999 < (if 0 > n then 0 else n) then 9999 else (if 0 > n then 0 else n)) = cutI n 0 9999 := by
    unfold cutI; split <;> split <;> (try split) <;> omega
  refine pure_of hm hc (by show 1 ≤ 7; decide) (aw_flat (keep := []) (i := 0) ?_)
  try simp only [I, B, D, RX, ↓ KW, seval, cc_preempt_more, Z.H]
  rw [h1]; rfl
theorem pRails.ok (hc : cFn P f = some cc_preempt_rails) : pRails.Spec (Pure P) f := by
  intro t ht
  have hl := Tb.len ht
  have hp := Tb.whole ht
  have hg := Tb.rails_at ht
  refine pure_of hm hc (by show 1 ≤ 10; decide) (aw_flat (keep := []) (i := 0) ?_)
  try simp only [I, B, D, RX, ↓ KW, seval, cc_preempt_rails, Z.H, hp, hl, hg]
  have hmn : (if (4 : Int) < ((t.rails.getD []).length : Int) then (4 : Int) else ((t.rails.getD []).length : Int)) = (nR t : Int) := by unfold nR; split <;> omega
  rw [hmn]
  refine ⟨⟨by omega, by unfold nR; omega⟩, fun r _ => rfl, ?_⟩
  unfold tr4 nR
  cases t.rails with
  | none => rfl
  | some l =>
    simp only [Option.getD_some, slAV, cutA, Option.map_some, AV.sl.injEq, Int.toNat_natCast, Int.toNat_zero, List.drop_zero, List.map_take]
    rcases Nat.lt_or_ge l.length 4 with h | h
    · rw [Nat.min_eq_left (by omega), List.take_of_length_le (by simp), List.take_of_length_le (by simp; omega)]
    · rw [Nat.min_eq_right h]
theorem pLines.ok {fR : Nat} (hc : cFn P f = some (cc_preempt_Lines fR)) (hR : pRails.Spec (Pure P) fR) : pLines.Spec (Pure P) f := by
  intro t s lines ht hs
  have hl := Tb.len ht
  have hp := Tb.whole ht
  have hsl := Pr.len hs
  have hn := tr4_len t
  have h1 := Pr.spent_at hs
  refine pure_of hm hc (by show 3 ≤ 43; decide) (aw_flat (keep := []) (i := 0) ?_)
  try simp only [I, B, D, RY, ↓ KW, seval, cc_preempt_Lines, Z.H, hp, hl, hsl]
  refine call_is (hR t ht) ?_
  try simp only [I, B, D, RY, ↓ KW, seval, hn]
  refine aw_loop' (fun k : Nat => (⟨[(13, .dat (I k) none), (12, .dat (I (nR t)) none), (2, .dat (I lines) none), (7, .dat (I (actTo t lines k)) none), (4, .ptr 5 0), (8, .ptr 8 0), (6, .ptr 6 0)], [(5, ⟨s.cells, []⟩), (8, ⟨(heldTo t s lines k).map I, []⟩), (6, ⟨[I 0, I 0, I 0, I 0, I 0, I 0, I 0, I 0], []⟩)], [], 400⟩ : S)) (fun k => nR t - k) (fun k => k ≤ nR t) ?_ 0 (by omega) ?_
  rotate_left
  · refine le_tok2 (by decide) ?_ ?_ ?_ ?_ <;> simp [LX, I, B, D, heldTo, actTo]
    rfl
  · intro k hk A back
    have hwr := wrap_succ (k := k) (by unfold nR at *; omega)
    try simp only [I, B, D, RY, ↓ KW, seval]
    refine cd_split (fun h => ?_) (fun h => ?_) <;> try simp only [I, B, D, RY, ↓ KW, seval, h]
    · have h8 : k < nR t := by have := of_decide_eq_true h; omega
      have h4 : k < 4 := by unfold nR at h8; omega
      have hy : 0 ≤ (k : Int) ∧ (k : Int) < 4 := by omega
      have hm : min k IntKind.i64.bits = k := by have := w64_min h4; simpa using this
      have hb := shr_bit (s := lines) h4
      have ha := Pr.held_at hs h4
      have hnx := heldTo_next t s lines h4
      have hac : actTo t lines (k + 1) = if tb lines k then bOr .i64 (actTo t lines k) (2 ^ k) else actTo t lines k := rfl
      have hpw : IntKind.i64.wrap (1 * 2 ^ k) = 2 ^ k := by
        have e : k = 0 ∨ k = 1 ∨ k = 2 ∨ k = 3 := by omega
        rcases e with rfl | rfl | rfl | rfl <;> rfl
      refine ⟨hy.1, ?_⟩
      cases ht : tb lines k
      · have hkp := heldTo_keep t s lines ht
        rw [ht] at hb hac
        try simp only [I, B, D, RY, ↓ KW, seval, hm, hb]
        refine back (k + 1) _ (by omega) (by omega) (le_tok2 (by decide) ?_ ?_ ?_ ?_) <;> simp [LX, I, B, D, hwr, hac, hkp]
      · rw [ht] at hb hac hnx
        have hcu : (if 2147483646 < (if 0 > heldAt s k then 0 else heldAt s k) then 2147483646 else (if 0 > heldAt s k then 0 else heldAt s k)) = cutI (heldAt s k) 0 2147483646 := by
          unfold cutI; split <;> split <;> (try split) <;> omega
        have hr : 0 ≤ cutI (heldAt s k) 0 2147483646 ∧ cutI (heldAt s k) 0 2147483646 ≤ 2147483646 := by unfold cutI; split <;> (try split) <;> omega
        have hw2 : IntKind.i64.wrap (cutI (heldAt s k) 0 2147483646 + 1) = held1 s k := by rw [wrap_id (by omega) (by omega)]; rfl
        try simp only [I, B, D, RY, ↓ KW, seval, hm, hb, hpw, hy, ha, hcu, hw2]
        refine ⟨by show k + 1 ≤ 4; omega, ?_⟩
        refine back (k + 1) _ (by omega) (by omega) (le_tok2 (by decide) ?_ ?_ ?_ ?_) <;> simp [LX, I, B, D, hwr, hac, hnx]
    · have hk' : k = nR t := by have := of_decide_eq_false h; omega
      subst hk'
      have q1 : partA ((heldTo t s lines (nR t)).map I) 0 (some 4) = some (.agg ((heldTo t s lines (nR t)).map I)) := rfl
      have q2 : ((heldTo t s lines (nR t)).map I).length = 4 := rfl
      have e1 : setCells s.cells 3 ((heldTo t s lines (nR t)).map I) = ({ s with held := heldTo t s lines (nR t) } : Pr).cells := by
        rw [Pr.cells, held_cases hs]; rfl
      have e2 : ∀ x, setCells ({ s with held := heldTo t s lines (nR t) } : Pr).cells 7 [I x] = ({ s with held := heldTo t s lines (nR t), spent := x } : Pr).cells := fun x => rfl
      have e3 : ({ s with held := heldTo t s lines (nR t) } : Pr).cells.length = 8 := rfl
      have e4 := Pr.whole (linesE_held t s lines)
      have e5 := Pr.len (linesE_held t s lines)
      have e6 : partA ({ s with held := heldTo t s lines (nR t), spent := bAnd .i64 s.spent (actTo t lines (nR t)) } : Pr).cells 0 (some 8) = some (.agg ({ s with held := heldTo t s lines (nR t), spent := bAnd .i64 s.spent (actTo t lines (nR t)) } : Pr).cells) := rfl
      have e7 : ({ s with held := heldTo t s lines (nR t), spent := bAnd .i64 s.spent (actTo t lines (nR t)) } : Pr).cells.length = 8 := rfl
      have e8 : setCells [I 0, I 0, I 0, I 0, I 0, I 0, I 0, I 0] 0 ({ s with held := heldTo t s lines (nR t), spent := bAnd .i64 s.spent (actTo t lines (nR t)) } : Pr).cells = ({ s with held := heldTo t s lines (nR t), spent := bAnd .i64 s.spent (actTo t lines (nR t)) } : Pr).cells := rfl
      try simp only [I, B, D, RY, ↓ KW, seval, q1, q2, h1, e1, e2, e3, e6, e7, e8, hsl]
      rfl
theorem pReady.ok {fR : Nat} (hc : cFn P f = some (cc_preempt_Ready fR)) (hR : pRails.Spec (Pure P) fR) : pReady.Spec (Pure P) f := by
  intro t s ht hs
  have hl := Tb.len ht
  have hp := Tb.whole ht
  have hsl := Pr.len hs
  have hn := tr4_len t
  have h7 := Pr.spent_at hs
  refine pure_of hm hc (by show 2 ≤ 32; decide) (aw_flat (keep := []) (i := 0) ?_)
  try simp only [I, B, D, RX, ↓ KW, seval, cc_preempt_Ready, Z.H, hp, hl, hsl]
  refine call_is (hR t ht) ?_
  try simp only [I, B, D, RX, ↓ KW, seval, hn]
  refine aw_loop' (fun k : Nat => (⟨[(10, .dat (I k) none), (9, .dat (I (nR t)) none), (8, .dat (slAV Rl.cells (tr4 t)) none), (3, .ptr 5 0)], [(5, ⟨s.cells, []⟩)], [], 400⟩ : S)) (fun k => nR t - k) (fun k => k ≤ nR t ∧ ∀ q, q < k → askR t s q = false) ?_ 0 ⟨by omega, by omega⟩ ?_
  rotate_left
  · refine le_tok2 (by decide) ?_ ?_ ?_ ?_ <;> simp [LX, I, B, D]
  · rintro k ⟨hk, hno⟩ A back
    have hwr := wrap_succ (k := k) (by unfold nR at *; omega)
    try simp only [I, B, D, RX, ↓ KW, seval]
    refine cd_split (fun h => ?_) (fun h => ?_) <;> try simp only [I, B, D, RX, ↓ KW, seval, h]
    · have h8 : k < nR t := by have := of_decide_eq_true h; omega
      have h4 : k < 4 := by unfold nR at h8; omega
      have hy : 0 ≤ (k : Int) ∧ (k : Int) < 4 := by omega
      have hm : min k IntKind.i64.bits = k := by have := w64_min h4; simpa using this
      have hb := shr_bit (s := s.spent) h4
      have ha := Pr.held_at hs h4
      have hg := tr4_get t h8
      have hx : askR t s k = (decide (heldAt s k > (rlN t k).delay) && !tb s.spent k) := rfl
      generalize hq : rlN t k = r at *
      have hrq : partA r.cells 0 (some 11) = some (.agg r.cells) := rfl
      have hr4 : r.cells[4]? = some (I r.delay) := rfl
      refine ⟨by omega, ?_⟩
      have hz : setCells z11_58867 0 r.cells = r.cells := rfl
      have hzl : z11_58867.length = 11 := rfl
      try simp only [I, B, D, RY, ↓ KW, seval, hm, hy, ha, hg, hrq, hr4, h7, hz, hzl, Rl.len]
      cases hd : decide (heldAt s k > r.delay)
      · have hx2 : askR t s k = false := by rw [hx, hd]; rfl
        try simp only [I, B, D, RY, ↓ KW, seval, hd]
        refine back (k + 1) _ ⟨by omega, fun q hq' => ?_⟩ (by omega) ?_
        · by_cases e : q = k
          · rw [e]; exact hx2
          · exact hno q (by omega)
        · refine le_tok2 (by decide) ?_ ?_ ?_ ?_ <;> simp [LX, I, B, D, hwr]
      · try simp only [I, B, D, RY, ↓ KW, seval, hd, hm, hy, h7]
        cases ht2 : tb s.spent k
        · have hx2 : askR t s k = true := by rw [hx, hd, ht2]; rfl
          rw [ht2] at hb
          have hf : (List.range (nR t)).find? (askR t s) = some k := find_at (List.getElem?_range h8) hx2 (fun y hy => hno y (by rw [List.take_range] at hy; have := List.mem_range.1 hy; omega))
          try simp only [I, B, D, RY, ↓ KW, seval, hb, hm]
          simp [readyE, hf]
        · have hx2 : askR t s k = false := by rw [hx, hd, ht2]; rfl
          rw [ht2] at hb
          try simp only [I, B, D, RY, ↓ KW, seval, hb, hm]
          refine back (k + 1) _ ⟨by omega, fun q hq' => ?_⟩ (by omega) ?_
          · by_cases e : q = k
            · rw [e]; exact hx2
            · exact hno q (by omega)
          · refine le_tok2 (by decide) ?_ ?_ ?_ ?_ <;> simp [LX, I, B, D, hwr]
    · have hk' : k = nR t := by have := of_decide_eq_false h; omega
      subst hk'
      have hf : (List.range (nR t)).find? (askR t s) = none := find_none fun x hx => hno x (List.mem_range.1 hx)
      simp [readyE, hf]
theorem pStuck.ok {fR : Nat} (hc : cFn P f = some (cc_preempt_Stuck fR)) (hR : pRails.Spec (Pure P) fR) : pStuck.Spec (Pure P) f := by
  intro t s ht hs
  have hl := Tb.len ht
  have hp := Tb.whole ht
  have hsl := Pr.len hs
  have hn := tr4_len t
  refine pure_of hm hc (by show 2 ≤ 23; decide) (aw_flat (keep := []) (i := 0) ?_)
  try simp only [I, B, D, RX, ↓ KW, seval, cc_preempt_Stuck, Z.H, hp, hl, hsl]
  refine call_is (hR t ht) ?_
  try simp only [I, B, D, RX, ↓ KW, seval, hn]
  refine aw_loop' (fun k : Nat => (⟨[(10, .dat (I k) none), (9, .dat (I (nR t)) none), (8, .dat (slAV Rl.cells (tr4 t)) none), (3, .ptr 5 0)], [(5, ⟨s.cells, []⟩)], [], 400⟩ : S)) (fun k => nR t - k) (fun k => k ≤ nR t ∧ ∀ q, q < k → stuckR t s q = false) ?_ 0 ⟨by omega, by omega⟩ ?_
  rotate_left
  · refine le_tok2 (by decide) ?_ ?_ ?_ ?_ <;> simp [LX, I, B, D]
  · rintro k ⟨hk, hno⟩ A back
    have hwr := wrap_succ (k := k) (by unfold nR at *; omega)
    try simp only [I, B, D, RX, ↓ KW, seval]
    refine cd_split (fun h => ?_) (fun h => ?_) <;> try simp only [I, B, D, RX, ↓ KW, seval, h]
    · have h8 : k < nR t := by have := of_decide_eq_true h; omega
      have h4 : k < 4 := by unfold nR at h8; omega
      have hy : 0 ≤ (k : Int) ∧ (k : Int) < 4 := by omega
      have ha := Pr.held_at hs h4
      have hg := tr4_get t h8
      have hx : stuckR t s k = decide (heldAt s k > (rlN t k).limit) := rfl
      generalize hq : rlN t k = r at *
      have hrq : partA r.cells 0 (some 11) = some (.agg r.cells) := rfl
      have hr4 : r.cells[10]? = some (I r.limit) := rfl
      refine ⟨by omega, ?_⟩
      have hz : setCells z11_58867 0 r.cells = r.cells := rfl
      have hzl : z11_58867.length = 11 := rfl
      try simp only [I, B, D, RY, ↓ KW, seval, hy, ha, hg, hrq, hr4, hz, hzl, Rl.len]
      cases hd : decide (heldAt s k > r.limit)
      · have hx2 : stuckR t s k = false := by rw [hx, hd]
        try simp only [I, B, D, RY, ↓ KW, seval, hd]
        refine back (k + 1) _ ⟨by omega, fun q hq' => ?_⟩ (by omega) ?_
        · by_cases e : q = k
          · rw [e]; exact hx2
          · exact hno q (by omega)
        · refine le_tok2 (by decide) ?_ ?_ ?_ ?_ <;> simp [LX, I, B, D, hwr]
      · have hx2 : stuckR t s k = true := by rw [hx, hd]
        try simp only [I, B, D, RY, ↓ KW, seval, hd]
        have hs2 : stuckE t s = true := List.any_eq_true.2 ⟨k, List.mem_range.2 h8, hx2⟩
        simp [hs2]
    · have hk' : k = nR t := by have := of_decide_eq_false h; omega
      subst hk'
      have hs2 : stuckE t s = false := by
        rw [stuckE, List.any_eq_false]; intro x hx; simp [hno x (List.mem_range.1 hx)]
      simp [hs2]
end
end Go.Eng
namespace Go.Eng
set_option linter.unusedVariables false
set_option linter.unusedSimpArgs false
set_option linter.unnecessarySimpa false
open Go
set_option linter.unusedVariables false
set_option linter.unusedSimpArgs false
set_option maxRecDepth 10000
set_option maxHeartbeats 4000000
structure Ac where
  start : Int
  fin : Int
  cut : Int
  free : Bool
  back : Bool
  deriving Inhabited, DecidableEq
def Ac.cells (a : Ac) : List AV := [I a.start, I a.fin, I a.cut, B a.free, B a.back]
theorem Ac.flat (a : Ac) : flatV (.agg a.cells) = true := rfl
theorem Rl.flat (r : Rl) : flatV (.agg r.cells) = true := rfl
theorem Pr.flat {s : Pr} (h : s.held.length = 4) : flatV (.agg s.cells) = true := by rw [Pr.cells, held_cases h]; rfl
def rnAt (l : List Rn) (k : Nat) : Rn := l.getD k default
def prwC (s : Pr) (l : List Rn) : List AV := s.cells ++ runsC l
def wayC (t : Tb) (s : Pr) (l : List Rn) : List AV := t.cells ++ prwC s l
structure WyOk (t : Tb) (s : Pr) (l : List Rn) : Prop where
  t : t.Ok
  s : s.held.length = 4
  l : l.length = 8
section
variable {t : Tb} {s : Pr} {l : List Rn} (h : WyOk t s l)
include h
theorem way_len : (wayC t s l).length = 235 := by simp [wayC, prwC, Tb.len h.t, Pr.len h.s, runsC_len h.l]
theorem way_d131 : (wayC t s l).drop 131 = prwC s l := by
  rw [wayC, List.drop_left' (Tb.len h.t)]
theorem way_d139 : (wayC t s l).drop 139 = runsC l := by
  have : (wayC t s l).drop 139 = ((wayC t s l).drop 131).drop 8 := by rw [List.drop_drop]
  rw [this, way_d131 h, prwC, List.drop_left' (Pr.len h.s)]
theorem way_t : partA (wayC t s l) 0 (some 131) = some (.agg t.cells) := part_mid (pre := []) rfl (Tb.len h.t)
theorem way_at {j : Nat} (hj : j < 131) : (wayC t s l)[j]? = t.cells[j]? := by rw [wayC, List.getElem?_append_left (by rw [Tb.len h.t]; exact hj)]
theorem way_p : (prwC s l)[0]? = some (I s.stage) ∧ ((prwC s l).drop 1)[0]? = some (I s.which) ∧ ((prwC s l).drop 2)[0]? = some (I s.time) ∧ ((prwC s l).drop 7)[0]? = some (I s.spent) := by
  rw [prwC, Pr.cells, held_cases h.s]; exact ⟨rfl, rfl, rfl, rfl⟩
theorem way_h {k : Nat} (hk : k < 4) : (((prwC s l).drop 3).drop k)[0]? = some (I (heldAt s k)) := by
  have e : k = 0 ∨ k = 1 ∨ k = 2 ∨ k = 3 := by omega
  rw [prwC, Pr.cells, held_cases h.s]
  rcases e with rfl | rfl | rfl | rfl <;> rfl
theorem way_run {k : Nat} (hk : k < 8) : partA ((runsC l).drop (k * 12)) 0 (some 12) = some (.agg (rnAt l k).cells) := by
  have hr := runs_at h.l hk
  have hl := runsC_len h.l
  simp only [partA] at hr ⊢
  rw [if_pos (by omega)] at hr
  rw [if_pos (by simp; omega), List.drop_zero]
  exact hr
theorem way_rev : ((wayC t s l).drop 119)[0]? = some (I t.revert) := by
  rw [List.getElem?_drop, way_at h (by omega)]
  exact Tb.tail_at h.t 3 (by omega)
theorem way_con {p : Nat} (hp : p < 8) : (((wayC t s l).drop 105).drop p)[0]? = some (I (conAt t p)) := by
  rw [List.drop_drop, List.getElem?_drop, way_at h (by omega)]
  exact h.t.ln.con_at hp
theorem way_min {p : Nat} (hp : p < 8) : (((wayC t s l).drop (p * 13)).drop 1)[0]? = some (I (phAt t p).min) := by
  rw [List.drop_drop, List.getElem?_drop, way_at h (by omega)]
  exact (Tb.ph_all (phAt_get h.t hp)).2.1
end
def wayRl (t : Tb) (s : Pr) : Rl := if 0 ≤ s.which ∧ s.which < (nR t : Int) then rlN t s.which.toNat else default
def tgt (r : Rl) : Int := if r.clear = 0 then r.dwell else r.clear
def redR (r : Rn) : Bool := r.colour != 1 && (r.colour != 2 && r.colour != 3)
def grnR (r : Rn) : Bool := r.colour == 1
def wlkR (r : Rn) : Bool := r.fst == 1
def overR (least state time : Int) : Bool := state != 1 && (state != 2 || decide (time ≥ least))
def redsW (l : List Rn) (s : Int) : Bool := all8 s fun p => redR (rnAt l p)
def grnsW (l : List Rn) (s : Int) : Bool := all8 s fun p => grnR (rnAt l p)
def thoW (s : Int) (f : Nat → Bool) : Int := mk8 fun p => tb s p && f p
def beginP (t : Tb) (l : List Rn) (p : Nat) : Bool := redR (rnAt l p) && decide ((rnAt l p).time ≥ t.revert) && redsW l (conAt t p)
def beginW (t : Tb) (l : List Rn) (s : Int) : Int := thoW s (beginP t l)
def endP (t : Tb) (s : Pr) (least : Int) (r : Rn) : Bool := grnR r && decide (r.time ≥ least) && overR (wayRl t s).foot r.fst r.ftime
def endsW (t : Tb) (s : Pr) (l : List Rn) (but least : Int) : Ac := ⟨0, thoW (bAndNot .i64 255 but) fun p => endP t s least (rnAt l p), thoW (bAndNot .i64 255 but) fun p => wlkR (rnAt l p), false, false⟩
def entryW (t : Tb) (s : Pr) (l : List Rn) : Ac := endsW t s l (tgt (wayRl t s)) (wayRl t s).green
def entersW (t : Tb) (s : Pr) (l : List Rn) : Int := if redsW l (bAndNot .i64 255 (tgt (wayRl t s))) then (if (wayRl t s).clear = 0 then 4 else 2) else 1
def clearsW (t : Tb) (s : Pr) : Int := if s.time ≥ (wayRl t s).hold then 3 else 2
def trackW (t : Tb) (s : Pr) (l : List Rn) : Ac := ⟨beginW t l (wayRl t s).clear, 0, 0, false, false⟩
def betweensW (t : Tb) (s : Pr) (l : List Rn) : Int := if redsW l (bAndNot .i64 255 (wayRl t s).dwell) then 4 else 3
def betP (t : Tb) (s : Pr) (r : Rn) : Bool := grnR r && overR (wayRl t s).foot r.fst r.ftime
def betweenW (t : Tb) (s : Pr) (l : List Rn) : Ac := { endsW t s l (wayRl t s).dwell 0 with fin := thoW (bAndNot .i64 255 (wayRl t s).dwell) fun p => betP t s (rnAt l p) }
def actvW (s : Pr) : Bool := decide (s.which ≥ 0) && decide (s.which < 4) && decide (heldAt s s.which.toNat > 0)
def longW (t : Tb) (s : Pr) : Bool := decide ((wayRl t s).most > 0) && decide (s.time ≥ (wayRl t s).most)
def spentW (t : Tb) (s : Pr) : Pr := if longW t s && actvW s then { s with spent := bOr .i64 s.spent (IntKind.i64.wrap (2 ^ s.which.toNat)) } else s
def dwellsW (t : Tb) (s : Pr) : Int × Pr :=
  if !longW t s && (actvW s || decide (s.time < (wayRl t s).stay)) then (4, s)
  else if readyE t (spentW t s) ≥ 0 then (1, { spentW t s with which := readyE t (spentW t s) }) else (5, spentW t s)
def dwellW (t : Tb) (s : Pr) (l : List Rn) : Ac := ⟨beginW t l (wayRl t s).dwell, 0, 0, false, false⟩
def leaveP (t : Tb) (r : Rn) : Bool := grnR r || redR r && decide (r.time ≥ t.revert)
def leavesW (t : Tb) (s : Pr) (l : List Rn) : Int := if redsW l (bAndNot .i64 255 (wayRl t s).exit) && all8 (wayRl t s).exit (fun p => leaveP t (rnAt l p)) then 0 else 5
def lvP (t : Tb) (p : Nat) (r : Rn) : Bool := grnR r && decide (r.time ≥ (phAt t p).min) && !(r.fst == 1 || r.fst == 2)
def leaveW (t : Tb) (s : Pr) (l : List Rn) : Ac := ⟨0, thoW (bAndNot .i64 255 (wayRl t s).exit) fun p => lvP t p (rnAt l p), 0, false, false⟩
def backW (t : Tb) (s : Pr) (l : List Rn) : Ac := ⟨thoW (wayRl t s).exit fun p => redR (rnAt l p), 0, 0, false, true⟩
def timeW (t : Tb) (s : Pr) (l : List Rn) (turned : Bool) : Int :=
  if turned || s.stage == 0 then 0
  else if (s.stage == 2 && !grnsW l (wayRl t s).clear) || (s.stage == 4 && !grnsW l (wayRl t s).dwell) then s.time
  else moreE s.time
def wRail.Spec (C : Con) (f : Nat) : Prop := ∀ (t : Tb) (s : Pr) (l : List Rn), WyOk t s l → C.c f [.ref (wayC t s l)] (.agg (wayRl t s).cells) none
def wTgt.Spec (C : Con) (f : Nat) : Prop := ∀ (t : Tb) (s : Pr) (l : List Rn), WyOk t s l → C.c f [.ref (wayC t s l)] (I (tgt (wayRl t s))) none
def wThose.Spec (C : Con) (f : Nat) : Prop := ∀ (t : Tb) (s : Pr) (l : List Rn) (x : Int) (g : Nat) (fs cs : List AV) (is : Nat → Bool), WyOk t s l → (∀ p : Nat, p < 8 → C.c g (fs ++ [I p, .agg (rnAt l p).cells] ++ cs) (B (is p)) none) → C.c f [.ref (wayC t s l), I x, .fn (.func g) fs cs] (I (thoW x is)) none
def wRed.Spec (C : Con) (f : Nat) : Prop := ∀ r : Rn, C.c f [.agg r.cells] (B (redR r)) none
def wIsRed.Spec (C : Con) (f : Nat) : Prop := ∀ (p : Int) (r : Rn), C.c f [I p, .agg r.cells] (B (redR r)) none
def wIsGreen.Spec (C : Con) (f : Nat) : Prop := ∀ (p : Int) (r : Rn), C.c f [I p, .agg r.cells] (B (grnR r)) none
def wIsWalk.Spec (C : Con) (f : Nat) : Prop := ∀ (p : Int) (r : Rn), C.c f [I p, .agg r.cells] (B (wlkR r)) none
def wReds.Spec (C : Con) (f : Nat) : Prop := ∀ (t : Tb) (s : Pr) (l : List Rn) (x : Int), WyOk t s l → C.c f [.ref (wayC t s l), I x] (B (redsW l x)) none
def wGreens.Spec (C : Con) (f : Nat) : Prop := ∀ (t : Tb) (s : Pr) (l : List Rn) (x : Int), WyOk t s l → C.c f [.ref (wayC t s l), I x] (B (grnsW l x)) none
def wOver.Spec (C : Con) (f : Nat) : Prop := ∀ (t : Tb) (s : Pr) (l : List Rn) (a b : Int), WyOk t s l → C.c f [.ref (wayC t s l), .agg [I a, I b]] (B (overR (wayRl t s).foot a b)) none
def wBegin1.Spec (C : Con) (f : Nat) : Prop := ∀ (t : Tb) (s : Pr) (l : List Rn) (p : Nat), WyOk t s l → p < 8 → C.c f [I p, .agg (rnAt l p).cells, .ref [.ref (wayC t s l)]] (B (beginP t l p)) none
def wBegins.Spec (C : Con) (f : Nat) : Prop := ∀ (t : Tb) (s : Pr) (l : List Rn) (x : Int), WyOk t s l → C.c f [.ref (wayC t s l), I x] (I (beginW t l x)) none
def wEnds1.Spec (C : Con) (f : Nat) : Prop := ∀ (t : Tb) (s : Pr) (l : List Rn) (p : Nat) (least : Int), WyOk t s l → p < 8 → C.c f [I p, .agg (rnAt l p).cells, .ref [I least], .ref [.ref (wayC t s l)]] (B (endP t s least (rnAt l p))) none
def wEnds.Spec (C : Con) (f : Nat) : Prop := ∀ (t : Tb) (s : Pr) (l : List Rn) (but least : Int), WyOk t s l → C.c f [.ref (wayC t s l), I but, I least] (.agg (endsW t s l but least).cells) none
def WI (F : Tb → Pr → List Rn → Int) (C : Con) (f : Nat) : Prop := ∀ (t : Tb) (s : Pr) (l : List Rn), WyOk t s l → C.c f [.ref (wayC t s l)] (I (F t s l)) none
def WA (F : Tb → Pr → List Rn → Ac) (C : Con) (f : Nat) : Prop := ∀ (t : Tb) (s : Pr) (l : List Rn), WyOk t s l → C.c f [.ref (wayC t s l)] (.agg (F t s l).cells) none
def wIdle.Spec (C : Con) (f : Nat) : Prop := WI (fun _ _ _ => 0) C f
def wFree.Spec (C : Con) (f : Nat) : Prop := WA (fun _ _ _ => ⟨0, 0, 0, true, false⟩) C f
def wEnters.Spec (C : Con) (f : Nat) : Prop := WI entersW C f
def wEntry.Spec (C : Con) (f : Nat) : Prop := WA entryW C f
def wClears.Spec (C : Con) (f : Nat) : Prop := WI (fun t s _ => clearsW t s) C f
def wTrack.Spec (C : Con) (f : Nat) : Prop := WA trackW C f
def wBetweens.Spec (C : Con) (f : Nat) : Prop := WI betweensW C f
def wBet1.Spec (C : Con) (f : Nat) : Prop := ∀ (t : Tb) (s : Pr) (l : List Rn) (p : Nat), WyOk t s l → p < 8 → C.c f [I p, .agg (rnAt l p).cells, .ref [.ref (wayC t s l)]] (B (betP t s (rnAt l p))) none
def wBetween.Spec (C : Con) (f : Nat) : Prop := WA betweenW C f
def wDwells.Spec (C : Con) (f : Nat) : Prop := ∀ (t : Tb) (s : Pr) (l : List Rn), WyOk t s l → C.p f [wayC t s l] [none] (I (dwellsW t s).1) none [wayC t (dwellsW t s).2 l]
def wDwell.Spec (C : Con) (f : Nat) : Prop := WA dwellW C f
def wLeaves1.Spec (C : Con) (f : Nat) : Prop := ∀ (t : Tb) (s : Pr) (l : List Rn) (p : Nat), WyOk t s l → p < 8 → C.c f [I p, .agg (rnAt l p).cells, .ref [.ref (wayC t s l)]] (B (leaveP t (rnAt l p))) none
def wLeaves.Spec (C : Con) (f : Nat) : Prop := WI leavesW C f
def wLeave1.Spec (C : Con) (f : Nat) : Prop := ∀ (t : Tb) (s : Pr) (l : List Rn) (p : Nat), WyOk t s l → p < 8 → C.c f [I p, .agg (rnAt l p).cells, .ref [.ref (wayC t s l)]] (B (lvP t p (rnAt l p))) none
def wLeave.Spec (C : Con) (f : Nat) : Prop := WA leaveW C f
def wBack.Spec (C : Con) (f : Nat) : Prop := WA backW C f
def wTime.Spec (C : Con) (f : Nat) : Prop := ∀ (t : Tb) (s : Pr) (l : List Rn) (turned : Bool), WyOk t s l → C.c f [.ref (wayC t s l), B turned] (I (timeW t s l turned)) none
section
variable {P : Program} (hm : P.follows .mixedOrders = true) {f : Nat}
include hm
theorem wRail.ok {fR : Nat} (hc : cFn P f = some (cc_preempt_way_rail fR)) (hR : pRails.Spec (Pure P) fR) : wRail.Spec (Pure P) f := by
  intro t s l h
  have ht := way_t h
  have hd := way_d131 h
  have hp := way_p h
  have hn := tr4_len t
  refine pure_of hm hc (by show 1 ≤ 34; decide) (aw_flat (keep := []) (i := 0) ?_)
  try simp only [I, B, D, RY, ↓ KW, seval, cc_preempt_way_rail, Z.H, ht, hd, hp, hn]
  refine call_is (hR t h.t) ?_
  try simp only [I, B, D, RY, ↓ KW, seval, ht, hd, hp, hn]
  by_cases h0 : 0 ≤ s.which ∧ s.which < (nR t : Int)
  · have hx : wayRl t s = rlN t s.which.toNat := if_pos h0
    have h1 : decide (s.which ≥ 0) = true := by simpa using h0.1
    have h1' : decide (0 ≤ s.which) = true := by simpa using h0.1
    have h2 : decide (s.which < (nR t : Int)) = true := by simpa using h0.2
    have hg := tr4_get t (k := s.which.toNat) (by omega)
    rw [← hx] at hg
    generalize wayRl t s = r at *
    have hq : partA r.cells 0 (some 11) = some (.agg r.cells) := rfl
    have hz : setCells z11_58867 0 r.cells = r.cells := rfl
    have hzl : z11_58867.length = 11 := rfl
    try simp only [I, B, D, RY, ↓ KW, seval, ht, hd, hp, hn, h1, h1', h2]
    refine ⟨⟨h0.1, h0.2⟩, ?_⟩
    try simp only [I, B, D, RY, ↓ KW, seval, ht, hd, hp, hn, hg, hq, hz, hzl, Rl.len]
  · have hx : wayRl t s = default := if_neg h0
    have hz : setCells z11_58867 0 z11_58867 = z11_58867 := rfl
    have hzl : z11_58867.length = 11 := rfl
    have hzp : partA z11_58867 0 (some 11) = some (.agg z11_58867) := rfl
    rw [hx]
    cases h1 : decide (0 ≤ s.which)
    · try simp only [I, B, D, RY, ↓ KW, seval, ht, hd, hp, hn, h1, hz, hzl, hzp]
      rfl
    · have h2 : decide (s.which < (nR t : Int)) = false := by have := of_decide_eq_true h1; simp; omega
      try simp only [I, B, D, RY, ↓ KW, seval, ht, hd, hp, hn, h1, h2, hz, hzl, hzp]
      rfl
theorem wRed.ok (hc : cFn P f = some cc_preempt_red) : wRed.Spec (Pure P) f := by
  intro r
  refine pure_of hm hc (by show 1 ≤ 16; decide) (aw_flat (keep := []) (i := 0) ?_)
  try simp only [I, B, D, RX, ↓ KW, seval, cc_preempt_red, Z.H, Rn.cells]
  repeat' (((first | refine gd_split ?_ ?_ | refine cd_split ?_ ?_ | refine pk_split ?_ ?_) <;> intro h) <;> try simp only [I, B, D, RX, ↓ KW, seval, Rn.cells, h])
  all_goals (try simp only [redR])
  all_goals (cases e1 : (r.colour != 1) <;> cases e2 : (r.colour != 2) <;> simp_all [B])
theorem wIsRed.ok {fR : Nat} (hc : cFn P f = some (cc_preempt_isRed fR)) (hR : wRed.Spec (Pure P) fR) : wIsRed.Spec (Pure P) f := by
  intro p r
  have hq : partA r.cells 0 (some 12) = some (.agg r.cells) := rfl
  refine pure_of hm hc (by show 2 ≤ 7; decide) (aw_flat (keep := []) (i := 0) ?_)
  try simp only [I, B, D, RX, ↓ KW, seval, cc_preempt_isRed, Z.H, hq]
  refine call_is (hR r) ?_
  try simp only [I, B, D, RX, ↓ KW, seval]
theorem wIsGreen.ok (hc : cFn P f = some cc_preempt_isGreen) : wIsGreen.Spec (Pure P) f := by
  intro p r
  refine pure_of hm hc (by show 2 ≤ 8; decide) (aw_flat (keep := []) (i := 0) ?_)
  try simp only [I, B, D, RX, ↓ KW, seval, cc_preempt_isGreen, Z.H, Rn.cells]
  rfl
theorem wIsWalk.ok (hc : cFn P f = some cc_preempt_isWalk) : wIsWalk.Spec (Pure P) f := by
  intro p r
  refine pure_of hm hc (by show 2 ≤ 9; decide) (aw_flat (keep := []) (i := 0) ?_)
  try simp only [I, B, D, RX, ↓ KW, seval, cc_preempt_isWalk, Z.H, Rn.cells]
  rfl
theorem wThose.ok {fE fW : Nat} (hc : cFn P f = some (cc_preempt_way_those fE fW)) (hE : each27.Spec (Pure P) fE) (hW : setWith.Spec (Pure P) fW) : wThose.Spec (Pure P) f := by
  intro t s l x g fs cs is h hg
  have hd := way_d139 h
  refine pure_of hm hc (by show 3 ≤ 25; decide) (aw_flat (keep := []) (i := 0) ?_)
  try simp only [I, B, D, RY, ↓ KW, seval, cc_preempt_way_those, Z.H]
  obtain ⟨k, hk, hi⟩ := hE x
  refine call_is hk ?_
  try simp only [I, B, D, RY, ↓ KW, seval]
  refine aw_rfor' (fun m : Int => (⟨[(10, .dat (.fn (.func k) [] [.ref [.int .i64 x]]) none), (7, .ptr 7 0), (5, .ptr 5 0), (3, .ptr 4 0)], [(7, ⟨[I m], []⟩), (5, ⟨[.fn (.func g) fs cs], []⟩), (4, ⟨[.ref (wayC t s l)], []⟩)], [], 400⟩ : S)) (fun i m => m = fold8 is ((setN x).take i)) hi rfl (rows_len fun _ => rfl) (fun _ => rfl) ?_ ?_ 0 rfl ?_
  · rintro i y m hx' hmm A back
    obtain ⟨q, hq, rfl⟩ := map_at hx'
    have hq : (setN x)[i]? = some q := hq
    have h8 := setN_lt (List.mem_of_getElem? hq)
    have hy : 0 ≤ (q : Int) ∧ (q : Int) < 8 := by omega
    have hr := way_run h h8
    have hn2 : fold8 is ((setN x).take (i + 1)) = if is q then withS (fold8 is ((setN x).take i)) q else fold8 is ((setN x).take i) := by
      rw [List.take_add_one, hq]; simp only [fold8, List.foldl_append, Option.toList_some, List.foldl_cons, List.foldl_nil]
    try simp only [I, B, D, RY, ↓ KW, seval, hy, hd, hr]
    refine call_is (hg q h8) ?_
    cases hiq : is q
    · try simp only [I, B, D, RY, ↓ KW, seval]
      refine back m _ (by rw [hn2, hiq, hmm]; rfl) ?_
      refine le_tok2 (by decide) ?_ ?_ ?_ ?_ <;> simp [LX, I, B, D]
    · try simp only [I, B, D, RY, ↓ KW, seval]
      refine call_is (hW _ _) ?_
      try simp only [I, B, D, RY, ↓ KW, seval]
      refine back (withS m q) _ (by rw [hn2, hiq, hmm]; rfl) ?_
      refine le_tok2 (by decide) ?_ ?_ ?_ ?_ <;> simp [LX, I, B, D, setCells]
  · rintro m hmm
    rw [List.take_of_length_le (by simp [setN])] at hmm
    rw [fold8_mk8] at hmm
    try simp only [I, B, D, RY, ↓ KW, seval]
    rw [hmm]; rfl
  · refine le_tok2 (by decide) ?_ ?_ ?_ ?_ <;> simp [LX, I, B, D, fold8, setCells]
theorem wReds.ok {fT fR : Nat} (hc : cFn P f = some (cc_preempt_way_reds fT fR)) (hT : wThose.Spec (Pure P) fT) (hR : wIsRed.Spec (Pure P) fR) : wReds.Spec (Pure P) f := by
  intro t s l x h
  refine pure_of hm hc (by show 2 ≤ 11; decide) (aw_flat (keep := []) (i := 0) ?_)
  try simp only [I, B, D, RX, ↓ KW, seval, cc_preempt_way_reds, Z.H]
  refine callp_is (ref_p (hT t s l x fR [] [] (fun p => redR (rnAt l p)) h (fun p hp => hR p _)) rfl (by decide)) ?_
  try simp only [I, B, D, RX, ↓ KW, seval]
  rw [thoW, mk8_all]; rfl
theorem wGreens.ok {fT fR : Nat} (hc : cFn P f = some (cc_preempt_way_greens fT fR)) (hT : wThose.Spec (Pure P) fT) (hR : wIsGreen.Spec (Pure P) fR) : wGreens.Spec (Pure P) f := by
  intro t s l x h
  refine pure_of hm hc (by show 2 ≤ 11; decide) (aw_flat (keep := []) (i := 0) ?_)
  try simp only [I, B, D, RX, ↓ KW, seval, cc_preempt_way_greens, Z.H]
  refine callp_is (ref_p (hT t s l x fR [] [] (fun p => grnR (rnAt l p)) h (fun p hp => hR p _)) rfl (by decide)) ?_
  try simp only [I, B, D, RX, ↓ KW, seval]
  rw [thoW, mk8_all]; rfl
theorem wTgt.ok {fR : Nat} (hc : cFn P f = some (cc_preempt_way_target fR)) (hR : wRail.Spec (Pure P) fR) : wTgt.Spec (Pure P) f := by
  intro t s l h
  refine pure_of hm hc (by show 1 ≤ 13; decide) (aw_flat (keep := []) (i := 0) ?_)
  try simp only [I, B, D, RY, ↓ KW, seval, cc_preempt_way_target, Z.H]
  have hz : ∀ r : Rl, setCells z11_58867 0 r.cells = r.cells := fun _ => rfl
  have hzl : z11_58867.length = 11 := rfl
  have h1 : ∀ r : Rl, r.cells[1]? = some (I r.clear) ∧ r.cells[2]? = some (I r.dwell) := fun _ => ⟨rfl, rfl⟩
  refine callp_is (ref_p (hR t s l h) rfl (by decide)) ?_
  try simp only [I, B, D, RY, ↓ KW, seval, hz, hzl, Rl.len, h1]
  cases hb : ((wayRl t s).clear != 0)
  · try simp only [I, B, D, RY, ↓ KW, seval, hb, h1]
    have : (wayRl t s).clear = 0 := by simpa using hb
    simp [tgt, this]
  · try simp only [I, B, D, RY, ↓ KW, seval, hb, h1]
    have : (wayRl t s).clear ≠ 0 := by simpa using hb
    simp [tgt, this]
theorem wOver.ok {fR : Nat} (hc : cFn P f = some (cc_preempt_way_over fR)) (hR : wRail.Spec (Pure P) fR) : wOver.Spec (Pure P) f := by
  intro t s l a b h
  have h6 : ∀ r : Rl, r.cells[6]? = some (I r.foot) := fun _ => rfl
  refine pure_of hm hc (by show 2 ≤ 21; decide) (aw_flat (keep := []) (i := 0) ?_)
  try simp only [I, B, D, RX, ↓ KW, seval, cc_preempt_way_over, Z.H]
  refine dg_ro [11] (by rfl) ?_
  cases h1 : (a != 1)
  · try simp only [I, B, D, RX, ↓ KW, seval, h1]
    simp [overR, h1]
  · try simp only [I, B, D, RX, ↓ KW, seval, h1]
    cases h2 : (a != 2)
    · try simp only [I, B, D, RX, ↓ KW, seval, h2]
      refine callr_is (ref_p (hR t s l h) rfl (by decide)) ?_
      try simp only [I, B, D, RX, ↓ KW, seval, h6]
      simp [overR, h1, h2]
    · try simp only [I, B, D, RX, ↓ KW, seval, h2]
      simp [overR, h1, h2]
theorem wBegin1.ok {fR fS : Nat} (hc : cFn P f = some (cc_preempt_way_begins_1 fR fS)) (hR : wRed.Spec (Pure P) fR) (hS : wReds.Spec (Pure P) fS) : wBegin1.Spec (Pure P) f := by
  intro t s l p h hp
  have hv := way_rev h
  have hcn := way_con h hp
  have hy : 0 ≤ (p : Int) ∧ (p : Int) < 8 := by omega
  have hq : partA (rnAt l p).cells 0 (some 12) = some (.agg (rnAt l p).cells) := rfl
  have hq1 : (rnAt l p).cells[1]? = some (I (rnAt l p).time) := rfl
  have hb : beginP t l p = (redR (rnAt l p) && decide ((rnAt l p).time ≥ t.revert) && redsW l (conAt t p)) := rfl
  refine pure_of hm hc (by show 3 ≤ 29; decide) (aw_flat (keep := []) (i := 0) ?_)
  try simp only [I, B, D, RX, ↓ KW, seval, cc_preempt_way_begins_1, Z.H]
  refine dg_ro [21] (by rfl) ?_
  try simp only [I, B, D, RX, ↓ KW, seval, hq]
  refine call_is (hR _) ?_
  try simp only [I, B, D, RX, ↓ KW, seval, hq, hq1, hv]
  cases h1 : redR (rnAt l p)
  · try simp only [I, B, D, RX, ↓ KW, seval, h1]
    simp [hb, h1]
  · try simp only [I, B, D, RX, ↓ KW, seval, h1, hq1, hv]
    cases h2 : decide ((rnAt l p).time ≥ t.revert)
    · try simp only [I, B, D, RX, ↓ KW, seval, h2]
      simp [hb, h1, h2]
    · try simp only [I, B, D, RX, ↓ KW, seval, h2, hcn, hy]
      refine callr_is (ref_p (hS t s l (conAt t p) h) rfl (by decide)) ?_
      try simp only [I, B, D, RX, ↓ KW, seval]
      simp [hb, h1, h2]
theorem wBegins.ok {fB fT : Nat} (hc : cFn P f = some (cc_preempt_way_begins fB fT)) (hB : wBegin1.Spec (Pure P) fB) (hT : wThose.Spec (Pure P) fT) : wBegins.Spec (Pure P) f := by
  intro t s l x h
  refine pure_of hm hc (by show 2 ≤ 9; decide) (aw_flat (keep := []) (i := 0) ?_)
  try simp only [I, B, D, RX, ↓ KW, seval, cc_preempt_way_begins, Z.H]
  refine ⟨rfl, ?_⟩
  refine callp_is (ref_p (hT t s l x fB [] [.ref [.ref (wayC t s l)]] (beginP t l) h (fun p hp => hB t s l p h hp)) rfl (by decide)) ?_
  try simp only [I, B, D, RX, ↓ KW, seval]
  rfl
theorem wEnds1.ok {fO : Nat} (hc : cFn P f = some (cc_preempt_way_ends_1 fO)) (hO : wOver.Spec (Pure P) fO) : wEnds1.Spec (Pure P) f := by
  intro t s l p least h hp
  generalize rnAt l p = r
  have hq0 : r.cells[0]? = some (I r.colour) := rfl
  have hq1 : r.cells[1]? = some (I r.time) := rfl
  have hq2 : partA r.cells 2 (some 2) = some (.agg [I r.fst, I r.ftime]) := rfl
  have hb : endP t s least r = (grnR r && decide (r.time ≥ least) && overR (wayRl t s).foot r.fst r.ftime) := rfl
  have hg : (r.colour == 1) = grnR r := rfl
  refine pure_of hm hc (by show 4 ≤ 22; decide) (aw_flat (keep := []) (i := 0) ?_)
  try simp only [I, B, D, RX, ↓ KW, seval, cc_preempt_way_ends_1, Z.H, hq0, hq1, hq2]
  rw [hg]
  cases h1 : grnR r
  · try simp only [I, B, D, RX, ↓ KW, seval, h1]
    simp [hb, h1]
  · try simp only [I, B, D, RX, ↓ KW, seval, h1, hq1]
    cases h2 : decide (r.time ≥ least)
    · try simp only [I, B, D, RX, ↓ KW, seval, h2]
      simp [hb, h1, h2]
    · try simp only [I, B, D, RX, ↓ KW, seval, h2, hq2]
      refine callp_is (ref_p (hO t s l r.fst r.ftime h) rfl (by decide)) ?_
      try simp only [I, B, D, RX, ↓ KW, seval]
      simp [hb, h1, h2]
theorem wBet1.ok {fO : Nat} (hc : cFn P f = some (cc_preempt_way_between_1 fO)) (hO : wOver.Spec (Pure P) fO) : wBet1.Spec (Pure P) f := by
  intro t s l p h hp
  generalize rnAt l p = r
  have hq0 : r.cells[0]? = some (I r.colour) := rfl
  have hq2 : partA r.cells 2 (some 2) = some (.agg [I r.fst, I r.ftime]) := rfl
  have hb : betP t s r = (grnR r && overR (wayRl t s).foot r.fst r.ftime) := rfl
  have hg : (r.colour == 1) = grnR r := rfl
  refine pure_of hm hc (by show 3 ≤ 15; decide) (aw_flat (keep := []) (i := 0) ?_)
  try simp only [I, B, D, RX, ↓ KW, seval, cc_preempt_way_between_1, Z.H, hq0, hq2]
  rw [hg]
  cases h1 : grnR r
  · try simp only [I, B, D, RX, ↓ KW, seval, h1]
    simp [hb, h1]
  · try simp only [I, B, D, RX, ↓ KW, seval, h1, hq2]
    refine callp_is (ref_p (hO t s l r.fst r.ftime h) rfl (by decide)) ?_
    try simp only [I, B, D, RX, ↓ KW, seval]
    simp [hb, h1]
theorem wLeaves1.ok {fR : Nat} (hc : cFn P f = some (cc_preempt_way_leaves_1 fR)) (hR : wRed.Spec (Pure P) fR) : wLeaves1.Spec (Pure P) f := by
  intro t s l p h hp
  have hv := way_rev h
  generalize rnAt l p = r
  have hq : partA r.cells 0 (some 12) = some (.agg r.cells) := rfl
  have hq0 : r.cells[0]? = some (I r.colour) := rfl
  have hq1 : r.cells[1]? = some (I r.time) := rfl
  have hb : leaveP t r = (grnR r || redR r && decide (r.time ≥ t.revert)) := rfl
  have hg : (r.colour == 1) = grnR r := rfl
  refine pure_of hm hc (by show 3 ≤ 23; decide) (aw_flat (keep := []) (i := 0) ?_)
  try simp only [I, B, D, RX, ↓ KW, seval, cc_preempt_way_leaves_1, Z.H, hq0, hq1]
  rw [hg]
  cases h1 : grnR r
  · try simp only [I, B, D, RX, ↓ KW, seval, h1, hq]
    refine call_is (hR r) ?_
    try simp only [I, B, D, RX, ↓ KW, seval]
    cases h2 : redR r
    · try simp only [I, B, D, RX, ↓ KW, seval, h2]
      simp [hb, h1, h2]
    · try simp only [I, B, D, RX, ↓ KW, seval, h2, hq1, hv]
      simp [hb, h1, h2]
  · try simp only [I, B, D, RX, ↓ KW, seval, h1]
    simp [hb, h1]
theorem wLeave1.ok (hc : cFn P f = some cc_preempt_way_leave_1) : wLeave1.Spec (Pure P) f := by
  intro t s l p h hp
  have hmn := way_min h hp
  have hy : 0 ≤ (p : Int) ∧ (p : Int) < 8 := by omega
  generalize rnAt l p = r
  have hq0 : r.cells[0]? = some (I r.colour) := rfl
  have hq1 : r.cells[1]? = some (I r.time) := rfl
  have hq2 : r.cells[2]? = some (I r.fst) := rfl
  have hb : lvP t p r = (grnR r && decide (r.time ≥ (phAt t p).min) && !(r.fst == 1 || r.fst == 2)) := rfl
  have hg : (r.colour == 1) = grnR r := rfl
  refine pure_of hm hc (by show 3 ≤ 37; decide) (aw_flat (keep := []) (i := 0) ?_)
  try simp only [I, B, D, RX, ↓ KW, seval, cc_preempt_way_leave_1, Z.H, hq0, hq1, hq2, hmn, hy, hg]
  cases h3 : (r.fst == 1) <;> cases h4 : (r.fst == 2) <;> cases h1 : grnR r <;> cases h2 : decide (r.time ≥ (phAt t p).min) <;>
  (try simp only [I, B, D, RX, ↓ KW, seval, h1, h2, h3, h4, hq0, hq1, hq2, hmn, hy, hg]; (try (try simp only [I, B, D, RX, ↓ KW, seval, h1, h2, h3, h4, hq0, hq1, hq2, hmn, hy, hg])); simp [hb, h1, h2, h3, h4])
theorem wEnds.ok {f1 fT fW : Nat} (hc : cFn P f = some (cc_preempt_way_ends f1 fT fW)) (h1 : wEnds1.Spec (Pure P) f1) (hT : wThose.Spec (Pure P) fT) (hW : wIsWalk.Spec (Pure P) fW) : wEnds.Spec (Pure P) f := by
  intro t s l but least h
  refine pure_of hm hc (by show 3 ≤ 17; decide) (aw_flat (keep := []) (i := 0) ?_)
  try simp only [I, B, D, RX, ↓ KW, seval, cc_preempt_way_ends, Z.H]
  refine dg_frz [5, 4] [4, 8] rfl rfl rfl ?_
  try simp only [I, B, D, RX, ↓ KW, seval]
  refine ⟨rfl, ?_⟩
  refine callr_is (ref_p (hT t s l _ f1 [] [.ref [I least], .ref [.ref (wayC t s l)]] (fun p => endP t s least (rnAt l p)) h (fun p hp => h1 t s l p least h hp)) rfl (by decide)) ?_
  try simp only [I, B, D, RX, ↓ KW, seval]
  refine callr_is (ref_p (hT t s l _ fW [] [] (fun p => wlkR (rnAt l p)) h (fun p hp => hW p _)) rfl (by decide)) ?_
  try simp only [I, B, D, RX, ↓ KW, seval]
  rfl
theorem wIdle.ok (hc : cFn P f = some cc_preempt_way_idle) : wIdle.Spec (Pure P) f := by
  intro t s l h
  refine pure_of hm hc (by show 1 ≤ 3; decide) (aw_flat (keep := []) (i := 0) ?_)
  try simp only [I, B, D, RX, ↓ KW, seval, cc_preempt_way_idle, Z.H]
theorem wFree.ok (hc : cFn P f = some cc_preempt_way_free) : wFree.Spec (Pure P) f := by
  intro t s l h
  refine pure_of hm hc (by show 1 ≤ 4; decide) (aw_flat (keep := []) (i := 0) ?_)
  try simp only [I, B, D, RX, ↓ KW, seval, cc_preempt_way_free, Z.H]
  rfl
theorem wEntry.ok {fT fR fE : Nat} (hc : cFn P f = some (cc_preempt_way_entry fT fR fE)) (hT : wTgt.Spec (Pure P) fT) (hR : wRail.Spec (Pure P) fR) (hE : wEnds.Spec (Pure P) fE) : wEntry.Spec (Pure P) f := by
  intro t s l h
  have h5 : ∀ r : Rl, r.cells[5]? = some (I r.green) := fun _ => rfl
  refine pure_of hm hc (by show 1 ≤ 10; decide) (aw_flat (keep := []) (i := 0) ?_)
  try simp only [I, B, D, RX, ↓ KW, seval, cc_preempt_way_entry, Z.H]
  refine callp_is (ref_p (hT t s l h) rfl (by decide)) ?_
  try simp only [I, B, D, RX, ↓ KW, seval]
  refine callp_is (ref_p (hR t s l h) rfl (by decide)) ?_
  try simp only [I, B, D, RX, ↓ KW, seval, h5]
  refine callp_is (ref_p (hE t s l _ _ h) rfl (by decide)) ?_
  try simp only [I, B, D, RX, ↓ KW, seval]
  exact ⟨rfl, rfl⟩
theorem wEnters.ok {fT fS fR : Nat} (hc : cFn P f = some (cc_preempt_way_enters fT fS fR)) (hT : wTgt.Spec (Pure P) fT) (hS : wReds.Spec (Pure P) fS) (hR : wRail.Spec (Pure P) fR) : wEnters.Spec (Pure P) f := by
  intro t s l h
  have h5 : ∀ r : Rl, r.cells[1]? = some (I r.clear) := fun _ => rfl
  refine pure_of hm hc (by show 1 ≤ 15; decide) (aw_flat (keep := []) (i := 0) ?_)
  try simp only [I, B, D, RX, ↓ KW, seval, cc_preempt_way_enters, Z.H]
  refine callp_is (ref_p (hT t s l h) rfl (by decide)) ?_
  try simp only [I, B, D, RX, ↓ KW, seval]
  refine callp_is (ref_p (hS t s l _ h) rfl (by decide)) ?_
  try simp only [I, B, D, RX, ↓ KW, seval]
  cases h1 : redsW l (bAndNot .i64 255 (tgt (wayRl t s)))
  · try simp only [I, B, D, RX, ↓ KW, seval]
    simp [entersW, h1]
  · try simp only [I, B, D, RX, ↓ KW, seval]
    refine callp_is (ref_p (hR t s l h) rfl (by decide)) ?_
    try simp only [I, B, D, RX, ↓ KW, seval, h5]
    cases h2 : ((wayRl t s).clear != 0)
    · try simp only [I, B, D, RX, ↓ KW, seval, h2]
      have : (wayRl t s).clear = 0 := by simpa using h2
      simp [entersW, h1, this]
    · try simp only [I, B, D, RX, ↓ KW, seval, h2]
      have : (wayRl t s).clear ≠ 0 := by simpa using h2
      simp [entersW, h1, this]
theorem wClears.ok {fR : Nat} (hc : cFn P f = some (cc_preempt_way_clears fR)) (hR : wRail.Spec (Pure P) fR) : wClears.Spec (Pure P) f := by
  intro t s l h
  have hd := way_d131 h
  have hp := way_p h
  have h5 : ∀ r : Rl, r.cells[7]? = some (I r.hold) := fun _ => rfl
  refine pure_of hm hc (by show 1 ≤ 12; decide) (aw_flat (keep := []) (i := 0) ?_)
  try simp only [I, B, D, RX, ↓ KW, seval, cc_preempt_way_clears, Z.H, hd, hp]
  refine dg_ro [6] rfl ?_
  try simp only [I, B, D, RX, ↓ KW, seval, hd, hp]
  refine callr_is (ref_p (hR t s l h) rfl (by decide)) ?_
  try simp only [I, B, D, RX, ↓ KW, seval, h5]
  cases h2 : decide (s.time ≥ (wayRl t s).hold)
  · try simp only [I, B, D, RX, ↓ KW, seval, h2]
    have := of_decide_eq_false h2
    show I 2 = I (clearsW t s); rw [clearsW, if_neg this]
  · try simp only [I, B, D, RX, ↓ KW, seval, h2]
    have := of_decide_eq_true h2
    show I 3 = I (clearsW t s); rw [clearsW, if_pos this]
theorem wTrack.ok {fR fB : Nat} (hc : cFn P f = some (cc_preempt_way_track fR fB)) (hR : wRail.Spec (Pure P) fR) (hB : wBegins.Spec (Pure P) fB) : wTrack.Spec (Pure P) f := by
  intro t s l h
  have h5 : ∀ r : Rl, r.cells[1]? = some (I r.clear) := fun _ => rfl
  refine pure_of hm hc (by show 1 ≤ 9; decide) (aw_flat (keep := []) (i := 0) ?_)
  try simp only [I, B, D, RX, ↓ KW, seval, cc_preempt_way_track, Z.H]
  refine callp_is (ref_p (hR t s l h) rfl (by decide)) ?_
  try simp only [I, B, D, RX, ↓ KW, seval, h5]
  refine callp_is (ref_p (hB t s l _ h) rfl (by decide)) ?_
  try simp only [I, B, D, RX, ↓ KW, seval]
  rfl
theorem wDwell.ok {fR fB : Nat} (hc : cFn P f = some (cc_preempt_way_dwell fR fB)) (hR : wRail.Spec (Pure P) fR) (hB : wBegins.Spec (Pure P) fB) : wDwell.Spec (Pure P) f := by
  intro t s l h
  have h5 : ∀ r : Rl, r.cells[2]? = some (I r.dwell) := fun _ => rfl
  refine pure_of hm hc (by show 1 ≤ 9; decide) (aw_flat (keep := []) (i := 0) ?_)
  try simp only [I, B, D, RX, ↓ KW, seval, cc_preempt_way_dwell, Z.H]
  refine callp_is (ref_p (hR t s l h) rfl (by decide)) ?_
  try simp only [I, B, D, RX, ↓ KW, seval, h5]
  refine callp_is (ref_p (hB t s l _ h) rfl (by decide)) ?_
  try simp only [I, B, D, RX, ↓ KW, seval]
  rfl
theorem wBetweens.ok {fR fS : Nat} (hc : cFn P f = some (cc_preempt_way_betweens fR fS)) (hR : wRail.Spec (Pure P) fR) (hS : wReds.Spec (Pure P) fS) : wBetweens.Spec (Pure P) f := by
  intro t s l h
  have h5 : ∀ r : Rl, r.cells[2]? = some (I r.dwell) := fun _ => rfl
  refine pure_of hm hc (by show 1 ≤ 9; decide) (aw_flat (keep := []) (i := 0) ?_)
  try simp only [I, B, D, RX, ↓ KW, seval, cc_preempt_way_betweens, Z.H]
  refine callp_is (ref_p (hR t s l h) rfl (by decide)) ?_
  try simp only [I, B, D, RX, ↓ KW, seval, h5]
  refine callp_is (ref_p (hS t s l _ h) rfl (by decide)) ?_
  try simp only [I, B, D, RX, ↓ KW, seval]
  cases h1 : redsW l (bAndNot .i64 255 (wayRl t s).dwell)
  · try simp only [I, B, D, RX, ↓ KW, seval]
    simp [betweensW, h1]
  · try simp only [I, B, D, RX, ↓ KW, seval]
    simp [betweensW, h1]
theorem wBetween.ok {fR fE f1 fT : Nat} (hc : cFn P f = some (cc_preempt_way_between fR fE f1 fT)) (hR : wRail.Spec (Pure P) fR) (hE : wEnds.Spec (Pure P) fE) (h1 : wBet1.Spec (Pure P) f1) (hT : wThose.Spec (Pure P) fT) : wBetween.Spec (Pure P) f := by
  intro t s l h
  have h5 : ∀ r : Rl, r.cells[2]? = some (I r.dwell) := fun _ => rfl
  refine pure_of hm hc (by show 1 ≤ 18; decide) (aw_flat (keep := []) (i := 0) ?_)
  try simp only [I, B, D, RX, ↓ KW, seval, cc_preempt_way_between, Z.H]
  refine dg_ro [2, 4] rfl ?_
  try simp only [I, B, D, RX, ↓ KW, seval]
  refine callr_is (ref_p (hR t s l h) rfl (by decide)) ?_
  try simp only [I, B, D, RX, ↓ KW, seval, h5]
  refine callr_is (ref_p (hE t s l _ _ h) rfl (by decide)) ?_
  try simp only [I, B, D, RX, ↓ KW, seval, endsW, Ac.cells]
  refine dg_frz [4] [2, 6] rfl rfl rfl ?_
  try simp only [I, B, D, RX, ↓ KW, seval]
  refine callr_is (ref_p (hR t s l h) rfl (by decide)) ?_
  try simp only [I, B, D, RX, ↓ KW, seval, h5]
  refine ⟨rfl, ?_⟩
  refine callr_is (ref_p (hT t s l _ f1 [] [.ref [.ref (wayC t s l)]] (fun p => betP t s (rnAt l p)) h (fun p hp => h1 t s l p h hp)) rfl (by decide)) ?_
  try simp only [I, B, D, RX, ↓ KW, seval]
  rfl
theorem wLeaves.ok {fR f1 fT fS : Nat} (hc : cFn P f = some (cc_preempt_way_leaves fR f1 fT fS)) (hR : wRail.Spec (Pure P) fR) (h1 : wLeaves1.Spec (Pure P) f1) (hT : wThose.Spec (Pure P) fT) (hS : wReds.Spec (Pure P) fS) : wLeaves.Spec (Pure P) f := by
  intro t s l h
  have h5 : ∀ r : Rl, r.cells[3]? = some (I r.exit) := fun _ => rfl
  refine pure_of hm hc (by show 1 ≤ 22; decide) (aw_flat (keep := []) (i := 0) ?_)
  try simp only [I, B, D, RX, ↓ KW, seval, cc_preempt_way_leaves, Z.H]
  refine callp_is (ref_p (hR t s l h) rfl (by decide)) ?_
  try simp only [I, B, D, RX, ↓ KW, seval, h5]
  refine ⟨rfl, ?_⟩
  refine callp_is (ref_p (hT t s l _ f1 [] [.ref [.ref (wayC t s l)]] (fun p => leaveP t (rnAt l p)) h (fun p hp => h1 t s l p h hp)) rfl (by decide)) ?_
  try simp only [I, B, D, RX, ↓ KW, seval]
  refine callp_is (ref_p (hS t s l _ h) rfl (by decide)) ?_
  try simp only [I, B, D, RX, ↓ KW, seval]
  have hk : (thoW (wayRl t s).exit (fun p => leaveP t (rnAt l p)) == bAnd .i64 (wayRl t s).exit 255) = all8 (wayRl t s).exit (fun p => leaveP t (rnAt l p)) := by rw [thoW, mk8_all]
  cases h2 : redsW l (bAndNot .i64 255 (wayRl t s).exit)
  · try simp only [I, B, D, RX, ↓ KW, seval]
    simp [leavesW, h2]
  · try simp only [I, B, D, RX, ↓ KW, seval, hk]
    cases h3 : all8 (wayRl t s).exit (fun p => leaveP t (rnAt l p))
    · try simp only [I, B, D, RX, ↓ KW, seval]
      simp [leavesW, h2, h3]
    · try simp only [I, B, D, RX, ↓ KW, seval]
      simp [leavesW, h2, h3]
theorem wLeave.ok {fR f1 fT : Nat} (hc : cFn P f = some (cc_preempt_way_leave fR f1 fT)) (hR : wRail.Spec (Pure P) fR) (h1 : wLeave1.Spec (Pure P) f1) (hT : wThose.Spec (Pure P) fT) : wLeave.Spec (Pure P) f := by
  intro t s l h
  have h5 : ∀ r : Rl, r.cells[3]? = some (I r.exit) := fun _ => rfl
  refine pure_of hm hc (by show 1 ≤ 11; decide) (aw_flat (keep := []) (i := 0) ?_)
  try simp only [I, B, D, RX, ↓ KW, seval, cc_preempt_way_leave, Z.H]
  refine dg_frz [4] [2, 6] rfl rfl rfl ?_
  try simp only [I, B, D, RX, ↓ KW, seval]
  refine callr_is (ref_p (hR t s l h) rfl (by decide)) ?_
  try simp only [I, B, D, RX, ↓ KW, seval, h5]
  refine ⟨rfl, ?_⟩
  refine callr_is (ref_p (hT t s l _ f1 [] [.ref [.ref (wayC t s l)]] (fun p => lvP t p (rnAt l p)) h (fun p hp => h1 t s l p h hp)) rfl (by decide)) ?_
  try simp only [I, B, D, RX, ↓ KW, seval]
  rfl
theorem wBack.ok {fR fT fD : Nat} (hc : cFn P f = some (cc_preempt_way_back fR fT fD)) (hR : wRail.Spec (Pure P) fR) (hT : wThose.Spec (Pure P) fT) (hD : wIsRed.Spec (Pure P) fD) : wBack.Spec (Pure P) f := by
  intro t s l h
  have h5 : ∀ r : Rl, r.cells[3]? = some (I r.exit) := fun _ => rfl
  refine pure_of hm hc (by show 1 ≤ 9; decide) (aw_flat (keep := []) (i := 0) ?_)
  try simp only [I, B, D, RX, ↓ KW, seval, cc_preempt_way_back, Z.H]
  refine callp_is (ref_p (hR t s l h) rfl (by decide)) ?_
  try simp only [I, B, D, RX, ↓ KW, seval, h5]
  refine callp_is (ref_p (hT t s l _ fD [] [] (fun p => redR (rnAt l p)) h (fun p hp => hD p _)) rfl (by decide)) ?_
  try simp only [I, B, D, RX, ↓ KW, seval]
  rfl
theorem wTime.ok {fR fG fM : Nat} (hc : cFn P f = some (cc_preempt_way_time fR fG fM)) (hR : wRail.Spec (Pure P) fR) (hG : wGreens.Spec (Pure P) fG) (hM : pMore.Spec (Pure P) fM) : wTime.Spec (Pure P) f := by
  intro t s l turned h
  have hd := way_d131 h
  have hp := way_p h
  have h5 : ∀ r : Rl, r.cells[1]? = some (I r.clear) ∧ r.cells[2]? = some (I r.dwell) := fun _ => ⟨rfl, rfl⟩
  refine pure_of hm hc (by show 2 ≤ 53; decide) (aw_flat (keep := []) (i := 0) ?_)
  try simp only [I, B, D, RX, ↓ KW, seval, cc_preempt_way_time, Z.H, hd, hp, h5]
  cases h1 : turned
  · try simp only [I, B, D, RX, ↓ KW, seval, hd, hp, h5]
    cases h2 : (s.stage == 0)
    · try simp only [I, B, D, RX, ↓ KW, seval, hd, hp, h5, h2]
      cases h3 : (s.stage == 2)
      · try simp only [I, B, D, RX, ↓ KW, seval, hd, hp, h5, h3]
        cases h4 : (s.stage == 4)
        · try simp only [I, B, D, RX, ↓ KW, seval, hd, hp, h5, h4]
          refine call_is (hM _) ?_
          try simp only [I, B, D, RX, ↓ KW, seval, hd, hp, h5]
          simp [timeW, h2, h3, h4]
        · try simp only [I, B, D, RX, ↓ KW, seval, hd, hp, h5, h4]
          refine callp_is (ref_p (hR t s l h) rfl (by decide)) ?_
          try simp only [I, B, D, RX, ↓ KW, seval, hd, hp, h5]
          refine callp_is (ref_p (hG t s l _ h) rfl (by decide)) ?_
          try simp only [I, B, D, RX, ↓ KW, seval, hd, hp, h5]
          cases h6 : grnsW l (wayRl t s).dwell
          · try simp only [I, B, D, RX, ↓ KW, seval, hd, hp, h5]
            simp [timeW, h2, h3, h4, h6]
          · try simp only [I, B, D, RX, ↓ KW, seval, hd, hp, h5]
            refine call_is (hM _) ?_
            try simp only [I, B, D, RX, ↓ KW, seval, hd, hp, h5]
            simp [timeW, h2, h3, h4, h6]
      · try simp only [I, B, D, RX, ↓ KW, seval, hd, hp, h5, h3]
        have h4 : (s.stage == 4) = false := by have : s.stage = 2 := by simpa using h3
                                               rw [this]; rfl
        refine callp_is (ref_p (hR t s l h) rfl (by decide)) ?_
        try simp only [I, B, D, RX, ↓ KW, seval, hd, hp, h5]
        refine callp_is (ref_p (hG t s l _ h) rfl (by decide)) ?_
        try simp only [I, B, D, RX, ↓ KW, seval, hd, hp, h5]
        cases h6 : grnsW l (wayRl t s).clear
        · try simp only [I, B, D, RX, ↓ KW, seval, hd, hp, h5, h4]
          simp [timeW, h2, h3, h4, h6]
        · try simp only [I, B, D, RX, ↓ KW, seval, hd, hp, h5, h4]
          refine call_is (hM _) ?_
          try simp only [I, B, D, RX, ↓ KW, seval, hd, hp, h5]
          simp [timeW, h2, h3, h4, h6]
    · try simp only [I, B, D, RX, ↓ KW, seval, hd, hp, h5, h2]
      simp [timeW, h2]
  · try simp only [I, B, D, RX, ↓ KW, seval, hd, hp, h5]
    simp [timeW]
end
end Go.Eng
namespace Go.Eng
set_option linter.unusedVariables false
set_option linter.unusedSimpArgs false
set_option linter.unnecessarySimpa false
open Go
set_option linter.unusedVariables false
set_option linter.unusedSimpArgs false
set_option maxRecDepth 10000
set_option maxHeartbeats 4000000
def stgE (s : Pr) : Pr := if s.stage < 0 ∨ 6 ≤ s.stage then { s with stage := 0 } else s
def preL (t : Tb) (s : Pr) (lines : Int) : Pr := stgE (linesE t s lines)
def takesE (t : Tb) (s : Pr) : Bool := decide (readyE t s ≥ 0) && (s.stage == 0 || (s.stage == 5 || decide (readyE t s < s.which)))
def turnsE (t : Tb) (s : Pr) (l : List Rn) : Int × Pr :=
  if s.stage = 0 then (0, s) else if s.stage = 1 then (entersW t s l, s) else if s.stage = 2 then (clearsW t s, s)
  else if s.stage = 3 then (betweensW t s l, s) else if s.stage = 4 then dwellsW t s else (leavesW t s l, s)
def doesE (t : Tb) (s : Pr) (l : List Rn) (to : Int) : Ac :=
  if to = 0 then ⟨0, 0, 0, true, false⟩ else if to = 1 then entryW t s l else if to = 2 then trackW t s l
  else if to = 3 then betweenW t s l else if to = 4 then dwellW t s l else leaveW t s l
def goesE (t : Tb) (s : Pr) (l : List Rn) (to : Int) (was : Int) : Pr := { s with stage := to, time := timeW t { s with stage := to } l (to != was) }
def stepP (t : Tb) (s : Pr) (l : List Rn) : Pr × Ac :=
  if takesE t s then ({ s with stage := 1, which := readyE t s, time := 0 }, entryW t { s with stage := 1, which := readyE t s, time := 0 } l)
  else if s.stage = 5 ∧ (turnsE t s l).1 = 0 then ({ (turnsE t s l).2 with stage := 0, which := 0, time := 0 }, backW t (turnsE t s l).2 l)
  else (goesE t (turnsE t s l).2 l (turnsE t s l).1 s.stage, doesE t (goesE t (turnsE t s l).2 l (turnsE t s l).1 s.stage) l (turnsE t s l).1)
def railE (t : Tb) (s : Pr) (lines : Int) (l : List Rn) : Pr × Ac := stepP t (preL t s lines) l
def pStep.Spec (C : Con) (f : Nat) : Prop := ∀ (t : Tb) (s : Pr) (lines : Int) (l : List Rn), WyOk t s l → C.c f [.agg t.cells, .agg s.cells, I lines, .agg (runsC l)] (.tup [.agg (railE t s lines l).1.cells, .agg (railE t s lines l).2.cells]) none
def wStages.Spec (C : Con) (f : Nat) : Prop := ∃ n : List AV, n.length = 12 ∧ flatV (.agg n) = false ∧ C.c f [] (.agg n) none ∧
  (∀ k : Nat, k < 6 → ∃ g, n[k * 2]? = some (.fn (.func g) [] []) ∧ ∀ t s l, WyOk t s l → s.stage = k → C.p g [wayC t s l] [none] (I (turnsE t s l).1) none [wayC t (turnsE t s l).2 l]) ∧
  (∀ k : Nat, k < 6 → ∃ g, n[k * 2 + 1]? = some (.fn (.func g) [] []) ∧ ∀ t s l, WyOk t s l → C.c g [.ref (wayC t s l)] (.agg (doesE t s l k).cells) none)
theorem spentW_ok {t : Tb} {s : Pr} (h : s.held.length = 4) : (spentW t s).held.length = 4 := by unfold spentW; split <;> exact h
theorem dwellsW_ok {t : Tb} {s : Pr} (h : s.held.length = 4) : (dwellsW t s).2.held.length = 4 := by
  unfold dwellsW; split
  · exact h
  · split <;> exact spentW_ok h
theorem turns_ok {t : Tb} {s : Pr} {l : List Rn} (h : s.held.length = 4) : (turnsE t s l).2.held.length = 4 := by
  unfold turnsE
  repeat' split
  all_goals first | exact h | exact dwellsW_ok h
theorem turns_rng (t : Tb) (s : Pr) (l : List Rn) : 0 ≤ (turnsE t s l).1 ∧ (turnsE t s l).1 < 6 := by
  simp only [turnsE, entersW, clearsW, betweensW, dwellsW, leavesW]
  repeat' split
  all_goals (simp only []; omega)
section
variable {t : Tb} {s : Pr} {l : List Rn} (h : WyOk t s l)
include h
theorem way_q : (wayC t s l)[131]? = some (I s.stage) ∧ (wayC t s l)[132]? = some (I s.which) ∧ (wayC t s l)[133]? = some (I s.time) ∧ (wayC t s l)[138]? = some (I s.spent) ∧ partA (wayC t s l) 131 (some 8) = some (.agg s.cells) := by
  have e : ∀ j, (wayC t s l)[131 + j]? = (prwC s l)[j]? := fun j => by
    rw [← way_d131 h, List.getElem?_drop]
  obtain ⟨p0, p1, p2, p7⟩ := way_p h
  rw [List.getElem?_drop] at p1 p2 p7
  refine ⟨(e 0).trans p0, (e 1).trans p1, (e 2).trans p2, (e 7).trans p7, ?_⟩
  exact part_mid (Tb.len h.t) (Pr.len h.s)
theorem way_hq {k : Nat} (hk : k < 4) : (wayC t s l)[134 + k]? = some (I (heldAt s k)) := by
  have := way_h h hk
  rw [← way_d131 h, List.drop_drop, List.drop_drop, List.getElem?_drop, show 131 + (3 + k) + 0 = 134 + k by omega] at this
  exact this
theorem way_set {j : Nat} {ps : List AV} (hj : j + ps.length ≤ 8) : setCells (wayC t s l) (131 + j) ps = t.cells ++ (setCells s.cells j ps ++ runsC l) := by
  have e1 := Tb.len h.t
  have e2 := Pr.len h.s
  rw [wayC, set_right (by omega), e1, Nat.add_sub_cancel_left, prwC, set_left (by omega)]
theorem way_s0 (x : Int) : setCells (wayC t s l) 131 [I x] = wayC t { s with stage := x } l := way_set h (j := 0) (ps := [I x]) (by simp)
theorem way_s1 (x : Int) : setCells (wayC t s l) 132 [I x] = wayC t { s with which := x } l := way_set h (j := 1) (ps := [I x]) (by simp)
theorem way_s2 (x : Int) : setCells (wayC t s l) 133 [I x] = wayC t { s with time := x } l := way_set h (j := 2) (ps := [I x]) (by simp)
theorem way_s7 (x : Int) : setCells (wayC t s l) 138 [I x] = wayC t { s with spent := x } l := by
  rw [show (138 : Nat) = 131 + 7 from rfl, way_set h (by simp)]
  have e : setCells s.cells 7 [I x] = ({ s with spent := x } : Pr).cells := by rw [Pr.cells, Pr.cells, held_cases h.s]; rfl
  rw [e]; rfl
theorem wy_of {u : Pr} (hu : u.held.length = 4) : WyOk t u l := ⟨h.t, hu, h.l⟩
end
theorem way_fill {t : Tb} {s : Pr} {l : List Rn} (h : WyOk t s l) {z : List AV} (hz : z.length = 235) :
    List.take 139 (List.take 131 (t.cells ++ List.drop 131 z) ++ s.cells ++ List.drop 139 (t.cells ++ List.drop 131 z)) ++ runsC l ++ List.drop 235 (List.take 131 (t.cells ++ List.drop 131 z) ++ s.cells ++ List.drop 139 (t.cells ++ List.drop 131 z)) = wayC t s l := by
  have e1 := Tb.len h.t
  have e2 := Pr.len h.s
  have e3 := runsC_len h.l
  have a1 : List.take 131 (t.cells ++ List.drop 131 z) = t.cells := by rw [List.take_left' e1]
  have a2 : List.take 139 (t.cells ++ s.cells ++ List.drop 139 (t.cells ++ List.drop 131 z)) = t.cells ++ s.cells := by rw [List.take_left' (by simp; omega)]
  rw [a1, a2, List.drop_of_length_le (by simp; omega), List.append_nil, List.append_assoc]; rfl
section
variable {P : Program} (hm : P.follows .mixedOrders = true) {f : Nat}
include hm
theorem wStages.ok {a0 b0 a1 b1 a2 b2 a3 b3 a4 b4 a5 b5 : Nat} (hc : cFn P f = some (cc_preempt_stages a0 b0 a1 b1 a2 b2 a3 b3 a4 b4 a5 b5))
    (h0 : wIdle.Spec (Pure P) a0) (k0 : wFree.Spec (Pure P) b0) (h1 : wEnters.Spec (Pure P) a1) (k1 : wEntry.Spec (Pure P) b1) (h2 : wClears.Spec (Pure P) a2) (k2 : wTrack.Spec (Pure P) b2)
    (h3 : wBetweens.Spec (Pure P) a3) (k3 : wBetween.Spec (Pure P) b3) (h4 : wDwells.Spec (Pure P) a4) (k4 : wDwell.Spec (Pure P) b4) (h5 : wLeaves.Spec (Pure P) a5) (k5 : wLeave.Spec (Pure P) b5) : wStages.Spec (Pure P) f := by
  refine ⟨[a0, b0, a1, b1, a2, b2, a3, b3, a4, b4, a5, b5].map fun k => .fn (.func k) [] [], rfl, rfl, ?_, ?_, ?_⟩
  · refine pure_of hm hc (by show 0 ≤ 8; decide) (aw_flat (keep := []) (i := 0) ?_)
    try simp only [I, B, D, RX, ↓ KW, seval, cc_preempt_stages, Z.H]
    exact ⟨rfl, by decide, rfl⟩
  · intro k hk
    have e : k = 0 ∨ k = 1 ∨ k = 2 ∨ k = 3 ∨ k = 4 ∨ k = 5 := by omega
    have cv : ∀ {g : Nat} {F : Tb → Pr → List Rn → Int} {t s l}, WI F (Pure P) g → WyOk t s l → (turnsE t s l) = (F t s l, s) → (Pure P).p g [wayC t s l] [none] (I (turnsE t s l).1) none [wayC t (turnsE t s l).2 l] := fun {g F t s l} hg h he => by
      rw [he]; exact ref_p (args := [none]) (hg t s l h) rfl (by simp)
    rcases e with rfl | rfl | rfl | rfl | rfl | rfl
    · exact ⟨a0, rfl, fun t s l h hs => cv h0 h (by simp [turnsE, hs])⟩
    · exact ⟨a1, rfl, fun t s l h hs => cv h1 h (by simp [turnsE, hs])⟩
    · exact ⟨a2, rfl, fun t s l h hs => cv h2 h (by simp [turnsE, hs])⟩
    · exact ⟨a3, rfl, fun t s l h hs => cv h3 h (by simp [turnsE, hs])⟩
    · refine ⟨a4, rfl, fun t s l h hs => ?_⟩
      have : turnsE t s l = dwellsW t s := by simp [turnsE, hs]
      rw [this]; exact h4 t s l h
    · exact ⟨a5, rfl, fun t s l h hs => cv h5 h (by simp [turnsE, hs])⟩
  · intro k hk
    have e : k = 0 ∨ k = 1 ∨ k = 2 ∨ k = 3 ∨ k = 4 ∨ k = 5 := by omega
    rcases e with rfl | rfl | rfl | rfl | rfl | rfl
    · exact ⟨b0, rfl, k0⟩
    · exact ⟨b1, rfl, k1⟩
    · exact ⟨b2, rfl, k2⟩
    · exact ⟨b3, rfl, k3⟩
    · exact ⟨b4, rfl, k4⟩
    · exact ⟨b5, rfl, k5⟩
theorem wDwells.ok {fR fY : Nat} (hc : cFn P f = some (cc_preempt_way_dwells fR fY)) (hR : wRail.Spec (Pure P) fR) (hY : pReady.Spec (Pure P) fY) : wDwells.Spec (Pure P) f := by
  intro t s l h
  have hq := way_q h
  have hlen := way_len h
  have ht := way_t h
  have hz : ∀ r : Rl, setCells z11_58867 0 r.cells = r.cells := fun _ => rfl
  have hzl : z11_58867.length = 11 := rfl
  have hr9 : ∀ r : Rl, r.cells[9]? = some (I r.most) ∧ r.cells[8]? = some (I r.stay) := fun _ => ⟨rfl, rfl⟩
  refine pureB_of hm hc (by show 1 ≤ 100; decide) rfl (by simp) (aw_flat (keep := []) (i := 0) ?_)
  try simp only [I, B, D, RY, ↓ KW, seval, cc_preempt_way_dwells, Z.H, hq, hlen, ht, hz, hzl, hr9, Rl.len]
  refine dg_ro [1] rfl ?_
  try simp only [I, B, D, RY, ↓ KW, seval, hq, hlen, ht, hz, hzl, hr9, Rl.len]
  refine ⟨rfl, callr_is (ref_p (hR t s l h) rfl (Nat.le_of_ble_eq_true rfl)) ?_⟩
  try simp only [I, B, D, RY, ↓ KW, seval, hq, hlen, ht, hz, hzl, hr9, Rl.len]
  have hz8 : ∀ u : Pr, u.held.length = 4 → partA (wayC t u l) 131 (some 8) = some (.agg u.cells) ∧ partA (wayC t u l) 0 (some 131) = some (.agg t.cells) ∧ (wayC t u l).length = 235 := fun u hu => ⟨(way_q (wy_of h hu)).2.2.2.2, way_t (wy_of h hu), way_len (wy_of h hu)⟩
  have hsp := spentW_ok (t := t) h.s
  have hY1 := hY t (spentW t s) h.t hsp
  obtain ⟨z1, z2, z3⟩ := hz8 _ hsp
  have z4 := way_s1 (wy_of h hsp)
  have fin : ∀ {v : Bool}, actvW s = v → (!longW t s && (v || decide (s.time < (wayRl t s).stay))) = true → dwellsW t s = (4, s) := fun {v} e1 e2 => by
    rw [dwellsW, e1, if_pos e2]
  have fin2 : ∀ {v : Bool}, actvW s = v → (!longW t s && (v || decide (s.time < (wayRl t s).stay))) = false → dwellsW t s = if readyE t (spentW t s) ≥ 0 then (1, { spentW t s with which := readyE t (spentW t s) }) else (5, spentW t s) := fun {v} e1 e2 => by
    rw [dwellsW, e1, if_neg (by rw [e2]; decide)]
  have hl : longW t s = (decide ((wayRl t s).most > 0) && decide (s.time ≥ (wayRl t s).most)) := rfl
  have tail1 : ∀ {v : Bool}, actvW s = v → longW t s = false ∨ v = false → spentW t s = s := fun {v} e1 e2 => by
    rw [spentW, e1]; rcases e2 with e | e <;> rw [e] <;> simp
  have pw : 0 ≤ s.which ∧ s.which < 4 → min s.which.toNat IntKind.i64.bits = s.which.toNat ∧ (decide (s.which < 0) = false) := fun hx => by
    have : IntKind.i64.bits = 64 := rfl
    exact ⟨by omega, by simp; omega⟩
  have hx4 : actvW s = true → 0 ≤ s.which ∧ s.which < 4 := fun e => by
    simp only [actvW, Bool.and_eq_true, decide_eq_true_eq] at e; exact ⟨e.1.1, e.1.2⟩
  obtain ⟨v, hv⟩ : ∃ v, actvW s = v := ⟨_, rfl⟩
  have h4 : v = (decide (s.which ≥ 0) && decide (s.which < 4) && decide (heldAt s s.which.toNat > 0)) := by rw [← hv]; rfl
  cases hA1 : decide (s.which ≥ 0)
  rotate_left
  cases hA2 : decide (s.which < 4)
  rotate_left
  have hx : 0 ≤ s.which ∧ s.which < 4 := ⟨of_decide_eq_true hA1, of_decide_eq_true hA2⟩
  have hh := way_hq h (k := s.which.toNat) (by omega)
  try simp only [I, B, D, RY, ↓ KW, seval, hA1, hA2, hx, hh, hq, hlen, ht, hz, hzl, hr9, Rl.len]
  cases hA3 : decide (heldAt s s.which.toNat > 0)
  all_goals
    first | rw [hA1, hA2, hA3] at h4 | rw [hA1, hA2] at h4 | rw [hA1] at h4
    simp only [Bool.and_self, Bool.and_false, Bool.false_and, Bool.true_and] at h4
    subst h4
    try try simp only [I, B, D, RY, ↓ KW, seval, hA3, hq, hlen, ht, hz, hzl, hr9, Rl.len]
    try try simp only [I, B, D, RY, ↓ KW, seval, hA1, hA2, hq, hlen, ht, hz, hzl, hr9, Rl.len]
    try try simp only [I, B, D, RY, ↓ KW, seval, hA1, hq, hlen, ht, hz, hzl, hr9, Rl.len]
    cases h5 : decide ((wayRl t s).most > 0) <;> cases h6 : decide (s.time ≥ (wayRl t s).most) <;> cases h7 : decide (s.time < (wayRl t s).stay)
    all_goals
      rw [h5, h6] at hl
      simp only [Bool.and_self, Bool.and_false, Bool.false_and, Bool.true_and] at hl
      try simp only [I, B, D, RY, ↓ KW, seval, h5, hq, hlen, ht, hz, hzl, hr9, Rl.len]
      try try simp only [I, B, D, RY, ↓ KW, seval, h6, hq, hlen, ht, hz, hzl, hr9, Rl.len]
      try try simp only [I, B, D, RY, ↓ KW, seval, h7, hq, hlen, ht, hz, hzl, hr9, Rl.len]
      first
        | (have e := fin hv (by rw [hl, h7]; rfl); rw [e]; exact ⟨rfl, rfl⟩)
        | skip
  all_goals first
    | (have e := fin2 hv (by rw [hl, h7]; rfl)
       have es := tail1 hv (by rw [hl]; first | exact .inl rfl | exact .inr rfl)
       rw [es] at hY1 e z4
       refine call_is hY1 ?_
       try simp only [I, B, D, RY, ↓ KW, seval, hq, hlen, ht, hz, hzl, hr9, Rl.len]
       generalize readyE t s = k at *
       cases h8 : decide (k ≥ 0)
       · rw [if_neg (of_decide_eq_false h8)] at e
         try simp only [I, B, D, RY, ↓ KW, seval, h8, hq, hlen, ht, hz, hzl, hr9, Rl.len]
         rw [e]; exact ⟨rfl, rfl⟩
       · rw [if_pos (of_decide_eq_true h8)] at e
         try simp only [I, B, D, RY, ↓ KW, seval, h8, z4, hq, hlen, ht, hz, hzl, hr9, Rl.len]
         first | (refine ⟨by omega, ?_⟩; rw [e]; exact ⟨rfl, rfl⟩) | (rw [e]; exact ⟨rfl, rfl⟩))
    | (have e := fin2 hv (by rw [hl, h7]; rfl)
       have es : spentW t s = { s with spent := bOr .i64 s.spent (IntKind.i64.wrap (2 ^ s.which.toNat)) } := by rw [spentW, hl, hv]; rfl
       obtain ⟨p1, p2⟩ := pw (hx4 hv)
       have p3 : (1 : Int) * 2 ^ s.which.toNat = 2 ^ s.which.toNat := Int.one_mul _
       have s7 := way_s7 h (bOr .i64 s.spent (IntKind.i64.wrap (2 ^ s.which.toNat)))
       rw [← es] at s7
       refine ⟨(hx4 hv).1, ?_⟩
       try simp only [I, B, D, RY, ↓ KW, seval, p1, p3, s7, z1, z2, z3, hq, hlen, ht, hz, hzl, hr9, Rl.len]
       refine call_is hY1 ?_
       try simp only [I, B, D, RY, ↓ KW, seval, p1, p3, s7, z1, z2, z3, hq, hlen, ht, hz, hzl, hr9, Rl.len]
       generalize readyE t (spentW t s) = k at *
       cases h8 : decide (k ≥ 0)
       · rw [if_neg (of_decide_eq_false h8)] at e
         try simp only [I, B, D, RY, ↓ KW, seval, p1, p3, s7, z1, z2, z3, h8, hq, hlen, ht, hz, hzl, hr9, Rl.len]
         rw [e]; exact ⟨rfl, rfl⟩
       · rw [if_pos (of_decide_eq_true h8)] at e
         try simp only [I, B, D, RY, ↓ KW, seval, p1, p3, s7, z1, z2, z3, h8, z4, hq, hlen, ht, hz, hzl, hr9, Rl.len]
         first | (refine ⟨by omega, ?_⟩; rw [e]; exact ⟨rfl, rfl⟩) | (rw [e]; exact ⟨rfl, rfl⟩))
end
end Go.Eng
namespace Go.Eng
set_option linter.unusedVariables false
set_option linter.unusedSimpArgs false
set_option linter.unnecessarySimpa false
open Go
set_option linter.unusedVariables false
set_option linter.unusedSimpArgs false
set_option maxRecDepth 10000
set_option maxHeartbeats 4000000
section
variable {P : Program} (hm : P.follows .mixedOrders = true) {f : Nat}
include hm
theorem pStep.ok {fL fS fR fE fB fT : Nat} (hc : cFn P f = some (cc_preempt_Step fL fS fR fE fB fT)) (hL : pLines.Spec (Pure P) fL) (hS : wStages.Spec (Pure P) fS) (hR : pReady.Spec (Pure P) fR) (hE : wEntry.Spec (Pure P) fE) (hB : wBack.Spec (Pure P) fB) (hT : wTime.Spec (Pure P) fT) : pStep.Spec (Pure P) f := by
  intro t s lines l h
  have e1 := Tb.len h.t
  have e2 := Pr.len h.s
  have e3 := runsC_len h.l
  have e4 := Tb.whole h.t
  have e5 := Pr.whole h.s
  have e6 := runs_whole h.l
  have hL0 := hL t s lines h.t h.s
  have hre : railE t s lines l = stepP t (stgE (linesE t s lines)) l := rfl
  have hs0 : WyOk t (linesE t s lines) l := wy_of h (linesE_held t s lines)
  generalize linesE t s lines = u at *
  have f1 := Pr.len hs0.s
  have f2 := Pr.whole hs0.s
  have ffill := way_fill hs0 (z := z235_36812) rfl
  have f0 : List.take 0 z235_36812 = [] := rfl
  have fz : z235_36812.length = 235 := rfl
  obtain ⟨n, hn, _, hSc, hTu, hDo⟩ := hS
  have hn2 : setCells z12_29848 0 n = n := set_all (by rw [hn]; rfl)
  have hzl : z12_29848.length = 12 := rfl
  have q0 := fun (v : Pr) (hv : v.held.length = 4) => way_q (wy_of h hv)
  have q1 := fun (v : Pr) (hv : v.held.length = 4) => way_t (wy_of h hv)
  have q2 := fun (v : Pr) (hv : v.held.length = 4) => way_len (wy_of h hv)
  have q3 := fun (v : Pr) (hv : v.held.length = 4) => way_s0 (wy_of h hv)
  have q4 := fun (v : Pr) (hv : v.held.length = 4) => way_s1 (wy_of h hv)
  have q5 := fun (v : Pr) (hv : v.held.length = 4) => way_s2 (wy_of h hv)
  have k8 : ∀ v : Pr, v.held.length = 4 → setCells [I 0, I 0, I 0, I 0, I 0, I 0, I 0, I 0] 0 v.cells = v.cells := fun v hv => set_all (by rw [Pr.len hv]; rfl)
  have kA : ∀ a : Ac, a.cells.length = 5 ∧ setCells [I 0, I 0, I 0, B false, B false] 0 a.cells = a.cells ∧ partA a.cells 0 (some 5) = some (.agg a.cells) := fun a => ⟨rfl, rfl, rfl⟩
  refine pure_of hm hc (by show 4 ≤ 147; decide) (aw_flat (keep := []) (i := 0) ?_)
  try simp only [I, B, D, RY, ↓ KW, seval, cc_preempt_Step, Z.H, e1, e2, e3, e4, e5, e6, f1, f2, ffill, f0, fz, hn, hn2, hzl, kA, List.nil_append]
  refine call_is hL0 ?_
  try simp only [I, B, D, RY, ↓ KW, seval, e1, e2, e3, e4, e5, e6, f1, f2, ffill, f0, fz, hn, hn2, hzl, kA, List.nil_append]
  refine call_is hSc ?_
  try simp only [I, B, D, RY, ↓ KW, seval, e1, e2, e3, e4, e5, e6, f1, f2, ffill, f0, fz, hn, hn2, hzl, kA, List.nil_append]
  have u0 := q0 u hs0.s
  have u1 := q1 u hs0.s
  have u2 := q2 u hs0.s
  obtain ⟨v, hv⟩ : ∃ v, stgE u = v := ⟨_, rfl⟩
  have hv4 : v.held.length = 4 := by rw [← hv, stgE]; split <;> exact hs0.s
  have hvr : 0 ≤ v.stage ∧ v.stage < 6 := by rw [← hv, stgE]; split <;> first | (show (0 : Int) ≤ 0 ∧ (0 : Int) < 6; exact ⟨by decide, by decide⟩) | omega
  rw [hv] at hre
  obtain ⟨k, hk⟩ : ∃ k : Nat, v.stage = k := ⟨v.stage.toNat, by omega⟩
  have hk6 : k < 6 := by omega
  have hT0 : takesE t v = (decide (readyE t v ≥ 0) && ((k : Int) == 0 || ((k : Int) == 5 || decide (readyE t v < v.which)))) := by rw [takesE, hk]
  have v0 := q0 v hv4
  rw [hk] at v0
  have v1 := q1 v hv4
  have v2 := q2 v hv4
  have v3 := Pr.len hv4
  have v4 := Pr.whole hv4
  have qs : (u.stage < 0 ∨ 6 ≤ u.stage → setCells (wayC t u l) 131 [I 0] = wayC t v l) ∧ (¬ (u.stage < 0 ∨ 6 ≤ u.stage) → wayC t u l = wayC t v l) :=
    ⟨fun e => by rw [q3 u hs0.s 0, ← hv, stgE, if_pos e], fun e => by rw [← hv, stgE, if_neg e]⟩
  cases hA : decide (u.stage < 0)
  cases hB2 : decide (u.stage ≥ 6)
  · have e : v = u := by rw [← hv, stgE, if_neg (by have := of_decide_eq_false hA; have := of_decide_eq_false hB2; omega)]
    subst e
    have qs : True := trivial
    rw [hk] at hA hB2
    try simp only [I, B, D, RY, ↓ KW, seval, hA, hB2, v0, v1, v2, v3, v4, e1, e2, e3, e4, e5, e6, f1, f2, ffill, f0, fz, hn, hn2, hzl, kA, List.nil_append]
    refine call_is (hR t v h.t hv4) ?_
    try simp only [I, B, D, RY, ↓ KW, seval, qs, e1, e2, e3, e4, e5, e6, f1, f2, ffill, f0, fz, hn, hn2, hzl, kA, List.nil_append, v0, v1, v2, v3, v4]
    cases c1 : decide (readyE t v ≥ 0)
    · have hT1 : takesE t v = false := by rw [hT0, c1]; rfl
      have c2 : True := trivial
      have c3 : True := trivial
      have c4 : True := trivial
      obtain ⟨g, hg, htu⟩ := hTu k (by omega)
      have htu' := htu t v l (wy_of h hv4) hk
      have ho := turns_ok (t := t) (l := l) hv4
      have hr := turns_rng t v l
      have hst2 : stepP t v l = if v.stage = 5 ∧ (turnsE t v l).1 = 0 then ({ (turnsE t v l).2 with stage := 0, which := 0, time := 0 }, backW t (turnsE t v l).2 l)
        else (goesE t (turnsE t v l).2 l (turnsE t v l).1 v.stage, doesE t (goesE t (turnsE t v l).2 l (turnsE t v l).1 v.stage) l (turnsE t v l).1) := if_neg (by rw [hT1]; decide)
      rw [hst2] at hre
      generalize (turnsE t v l).2 = w at *
      obtain ⟨j, hj⟩ : ∃ j : Nat, (turnsE t v l).1 = j := ⟨(turnsE t v l).1.toNat, by omega⟩
      rw [hj] at htu' hre hr
      have hj6 : j < 6 := by omega
      have hy : 0 ≤ (k : Int) ∧ (k : Int) < 6 := by omega
      have hy2 : 0 ≤ (j : Int) ∧ (j : Int) < 6 := by omega
      have w0 := q0 w ho
      have w1 := q1 w ho
      have w2 := q2 w ho
      try simp only [I, B, D, RY, ↓ KW, seval, qs, c1, c2, c3, c4, hy, hg, e1, e2, e3, e4, e5, e6, f1, f2, ffill, f0, fz, hn, hn2, hzl, kA, List.nil_append, v0, v1, v2, v3, v4]
      refine ⟨rfl, callp_is htu' ?_⟩
      try simp only [I, B, D, RY, ↓ KW, seval, qs, e1, e2, e3, e4, e5, e6, f1, f2, ffill, f0, fz, hn, hn2, hzl, kA, List.nil_append, v0, v1, v2, v3, v4, w0, w1, w2]
      cases d1 : ((k : Int) == 5)
      rotate_left
      cases d2 : ((j : Int) == 0)
      rotate_left
      · have s1 := q3 w ho 0
        have s2 := q4 { w with stage := 0 } ho 0
        have s3 := q5 { w with stage := 0, which := 0 } ho 0
        obtain ⟨y, hyy⟩ : ∃ y : Pr, y = { w with stage := 0, which := 0, time := 0 } := ⟨_, rfl⟩
        have hy4 : y.held.length = 4 := by rw [hyy]; exact ho
        rw [← hyy] at s3 hre
        have hxx : v.stage = 5 ∧ (j : Int) = 0 := ⟨by rw [hk]; simpa using d1, by simpa using d2⟩
        rw [if_pos hxx] at hre
        have y0 := q0 y hy4
        have y1 := q1 y hy4
        have y2 := q2 y hy4
        have y3 := Pr.len hy4
        have y4 := Pr.whole hy4
        have y5 := k8 y hy4
        have l1 := q2 { w with stage := 0 } ho
        have l2 := q2 { w with stage := 0, which := 0 } ho
        try simp only [I, B, D, RY, ↓ KW, seval, qs, d1, d2, e1, e2, e3, e4, e5, e6, f1, f2, ffill, f0, fz, hn, hn2, hzl, kA, List.nil_append, v0, v1, v2, v3, v4, w0, w1, w2]
        refine ⟨rfl, callp_is (ref_p (hB t w l (wy_of h ho)) rfl (Nat.le_of_ble_eq_true rfl)) ?_⟩
        try simp only [I, B, D, RY, ↓ KW, seval, qs, e1, e2, e3, e4, e5, e6, f1, f2, ffill, f0, fz, hn, hn2, hzl, kA, List.nil_append, v0, v1, v2, v3, v4, w0, w1, w2, s1, s2, s3, y0, y1, y2, y3, y4, y5, l1, l2]
        refine dg_go rfl ?_
        try simp only [I, B, D, RY, ↓ KW, seval, qs, e1, e2, e3, e4, e5, e6, f1, f2, ffill, f0, fz, hn, hn2, hzl, kA, List.nil_append, v0, v1, v2, v3, v4, w0, w1, w2, s1, s2, s3, y0, y1, y2, y3, y4, y5, l1, l2]
        rw [hre]
      all_goals
        have hxx : ¬ (v.stage = 5 ∧ (j : Int) = 0) := by
          rintro ⟨a, b⟩
          rw [hk] at a
          simp_all
        rw [if_neg hxx] at hre
        obtain ⟨g2, hg2, hdo⟩ := hDo j hj6
        have s1 := q3 w ho j
        obtain ⟨y, hyy⟩ : ∃ y : Pr, y = goesE t w l j v.stage := ⟨_, rfl⟩
        have hy4 : y.held.length = 4 := by rw [hyy]; exact ho
        have s2 : ∀ x, x = timeW t { w with stage := (j : Int) } l ((j : Int) != (k : Int)) → setCells (wayC t { w with stage := (j : Int) } l) 133 [I x] = wayC t y l := fun x hx => by
          rw [q5 { w with stage := (j : Int) } ho x, hx, hyy, goesE, hk]
        have s2' := s2 _ rfl
        rw [← hyy] at hre
        have y0 := q0 y hy4
        have y1 := q1 y hy4
        have y2 := q2 y hy4
        have y3 := Pr.len hy4
        have y4 := Pr.whole hy4
        have y5 := k8 y hy4
        have l1 := q2 { w with stage := (j : Int) } ho
        have ht3 := hT t { w with stage := (j : Int) } l ((j : Int) != (k : Int)) (wy_of h ho)
        try try simp only [I, B, D, RY, ↓ KW, seval, d1, e1, e2, e3, e4, e5, e6, f1, f2, ffill, f0, fz, hn, hn2, hzl, kA, List.nil_append, v0, v1, v2, v3, v4, w0, w1, w2, s1, s2', y0, y1, y2, y3, y4, y5, l1, hy2, hg2, qs]
        try try simp only [I, B, D, RY, ↓ KW, seval, d2, e1, e2, e3, e4, e5, e6, f1, f2, ffill, f0, fz, hn, hn2, hzl, kA, List.nil_append, v0, v1, v2, v3, v4, w0, w1, w2, s1, s2', y0, y1, y2, y3, y4, y5, l1, hy2, hg2, qs]
        refine ⟨rfl, callp_is (ref_p ht3 rfl (Nat.le_of_ble_eq_true rfl)) ?_⟩
        try simp only [I, B, D, RY, ↓ KW, seval, qs, e1, e2, e3, e4, e5, e6, f1, f2, ffill, f0, fz, hn, hn2, hzl, kA, List.nil_append, v0, v1, v2, v3, v4, w0, w1, w2, s1, s2', y0, y1, y2, y3, y4, y5, l1, hy2, hg2]
        refine dg_ro [9] rfl ?_
        try simp only [I, B, D, RY, ↓ KW, seval, qs, e1, e2, e3, e4, e5, e6, f1, f2, ffill, f0, fz, hn, hn2, hzl, kA, List.nil_append, v0, v1, v2, v3, v4, w0, w1, w2, s1, s2', y0, y1, y2, y3, y4, y5, l1, hy2, hg2]
        refine ⟨rfl, callr_is (ref_p (hdo t y l (wy_of h hy4)) rfl (Nat.le_of_ble_eq_true rfl)) ?_⟩
        try simp only [I, B, D, RY, ↓ KW, seval, qs, e1, e2, e3, e4, e5, e6, f1, f2, ffill, f0, fz, hn, hn2, hzl, kA, List.nil_append, v0, v1, v2, v3, v4, w0, w1, w2, s1, s2', y0, y1, y2, y3, y4, y5, l1, hy2, hg2]
        rw [hre]
    · cases c2 : ((k : Int) == 0)
      rotate_left
      · have hT1 : takesE t v = true := by rw [hT0, c1, c2]; rfl
        have c3 : True := trivial
        have c4 : True := trivial
        have s1 := q3 v hv4 1
        have s2 := q4 { v with stage := 1 } hv4 (readyE t v)
        have s3 := q5 { v with stage := 1, which := readyE t v } hv4 0
        have ht1 : stepP t v l = ({ v with stage := 1, which := readyE t v, time := 0 }, entryW t { v with stage := 1, which := readyE t v, time := 0 } l) := if_pos hT1
        obtain ⟨y, hy⟩ : ∃ y : Pr, y = { v with stage := 1, which := readyE t v, time := 0 } := ⟨_, rfl⟩
        have hy4 : y.held.length = 4 := by rw [hy]; exact hv4
        rw [← hy] at ht1 s3
        have y0 := q0 y hy4
        have y1 := q1 y hy4
        have y2 := q2 y hy4
        have y3 := Pr.len hy4
        have y4 := Pr.whole hy4
        have y5 := k8 y hy4
        have l1 := q2 { v with stage := 1 } hv4
        have l2 := q2 { v with stage := 1, which := readyE t v } hv4
        try simp only [I, B, D, RY, ↓ KW, seval, qs, c1, c2, c3, c4, e1, e2, e3, e4, e5, e6, f1, f2, ffill, f0, fz, hn, hn2, hzl, kA, List.nil_append, v0, v1, v2, v3, v4, s1, s2, s3, y0, y1, y2, y3, y4, y5, l1, l2]
        refine dg_ro [5] rfl ?_
        try simp only [I, B, D, RY, ↓ KW, seval, qs, e1, e2, e3, e4, e5, e6, f1, f2, ffill, f0, fz, hn, hn2, hzl, kA, List.nil_append, v0, v1, v2, v3, v4, s1, s2, s3, y0, y1, y2, y3, y4, y5, l1, l2]
        refine ⟨rfl, callr_is (ref_p (hE t y l (wy_of h hy4)) rfl (Nat.le_of_ble_eq_true rfl)) ?_⟩
        try simp only [I, B, D, RY, ↓ KW, seval, qs, e1, e2, e3, e4, e5, e6, f1, f2, ffill, f0, fz, hn, hn2, hzl, kA, List.nil_append, v0, v1, v2, v3, v4, s1, s2, s3, y0, y1, y2, y3, y4, y5, l1, l2]
        rw [hre, ht1]
      · cases c3 : ((k : Int) == 5)
        rotate_left
        · have hT1 : takesE t v = true := by rw [hT0, c1, c2, c3]; rfl
          have c4 : True := trivial
          have s1 := q3 v hv4 1
          have s2 := q4 { v with stage := 1 } hv4 (readyE t v)
          have s3 := q5 { v with stage := 1, which := readyE t v } hv4 0
          have ht1 : stepP t v l = ({ v with stage := 1, which := readyE t v, time := 0 }, entryW t { v with stage := 1, which := readyE t v, time := 0 } l) := if_pos hT1
          obtain ⟨y, hy⟩ : ∃ y : Pr, y = { v with stage := 1, which := readyE t v, time := 0 } := ⟨_, rfl⟩
          have hy4 : y.held.length = 4 := by rw [hy]; exact hv4
          rw [← hy] at ht1 s3
          have y0 := q0 y hy4
          have y1 := q1 y hy4
          have y2 := q2 y hy4
          have y3 := Pr.len hy4
          have y4 := Pr.whole hy4
          have y5 := k8 y hy4
          have l1 := q2 { v with stage := 1 } hv4
          have l2 := q2 { v with stage := 1, which := readyE t v } hv4
          try simp only [I, B, D, RY, ↓ KW, seval, qs, c1, c2, c3, c4, e1, e2, e3, e4, e5, e6, f1, f2, ffill, f0, fz, hn, hn2, hzl, kA, List.nil_append, v0, v1, v2, v3, v4, s1, s2, s3, y0, y1, y2, y3, y4, y5, l1, l2]
          refine dg_ro [5] rfl ?_
          try simp only [I, B, D, RY, ↓ KW, seval, qs, e1, e2, e3, e4, e5, e6, f1, f2, ffill, f0, fz, hn, hn2, hzl, kA, List.nil_append, v0, v1, v2, v3, v4, s1, s2, s3, y0, y1, y2, y3, y4, y5, l1, l2]
          refine ⟨rfl, callr_is (ref_p (hE t y l (wy_of h hy4)) rfl (Nat.le_of_ble_eq_true rfl)) ?_⟩
          try simp only [I, B, D, RY, ↓ KW, seval, qs, e1, e2, e3, e4, e5, e6, f1, f2, ffill, f0, fz, hn, hn2, hzl, kA, List.nil_append, v0, v1, v2, v3, v4, s1, s2, s3, y0, y1, y2, y3, y4, y5, l1, l2]
          rw [hre, ht1]
        · cases c4 : decide (readyE t v < v.which)
          rotate_left
          · have hT1 : takesE t v = true := by rw [hT0, c1, c2, c3, c4]; rfl
            have s1 := q3 v hv4 1
            have s2 := q4 { v with stage := 1 } hv4 (readyE t v)
            have s3 := q5 { v with stage := 1, which := readyE t v } hv4 0
            have ht1 : stepP t v l = ({ v with stage := 1, which := readyE t v, time := 0 }, entryW t { v with stage := 1, which := readyE t v, time := 0 } l) := if_pos hT1
            obtain ⟨y, hy⟩ : ∃ y : Pr, y = { v with stage := 1, which := readyE t v, time := 0 } := ⟨_, rfl⟩
            have hy4 : y.held.length = 4 := by rw [hy]; exact hv4
            rw [← hy] at ht1 s3
            have y0 := q0 y hy4
            have y1 := q1 y hy4
            have y2 := q2 y hy4
            have y3 := Pr.len hy4
            have y4 := Pr.whole hy4
            have y5 := k8 y hy4
            have l1 := q2 { v with stage := 1 } hv4
            have l2 := q2 { v with stage := 1, which := readyE t v } hv4
            try simp only [I, B, D, RY, ↓ KW, seval, qs, c1, c2, c3, c4, e1, e2, e3, e4, e5, e6, f1, f2, ffill, f0, fz, hn, hn2, hzl, kA, List.nil_append, v0, v1, v2, v3, v4, s1, s2, s3, y0, y1, y2, y3, y4, y5, l1, l2]
            refine dg_ro [5] rfl ?_
            try simp only [I, B, D, RY, ↓ KW, seval, qs, e1, e2, e3, e4, e5, e6, f1, f2, ffill, f0, fz, hn, hn2, hzl, kA, List.nil_append, v0, v1, v2, v3, v4, s1, s2, s3, y0, y1, y2, y3, y4, y5, l1, l2]
            refine ⟨rfl, callr_is (ref_p (hE t y l (wy_of h hy4)) rfl (Nat.le_of_ble_eq_true rfl)) ?_⟩
            try simp only [I, B, D, RY, ↓ KW, seval, qs, e1, e2, e3, e4, e5, e6, f1, f2, ffill, f0, fz, hn, hn2, hzl, kA, List.nil_append, v0, v1, v2, v3, v4, s1, s2, s3, y0, y1, y2, y3, y4, y5, l1, l2]
            rw [hre, ht1]
          · have hT1 : takesE t v = false := by rw [hT0, c1, c2, c3, c4]; rfl
            obtain ⟨g, hg, htu⟩ := hTu k (by omega)
            have htu' := htu t v l (wy_of h hv4) hk
            have ho := turns_ok (t := t) (l := l) hv4
            have hr := turns_rng t v l
            have hst2 : stepP t v l = if v.stage = 5 ∧ (turnsE t v l).1 = 0 then ({ (turnsE t v l).2 with stage := 0, which := 0, time := 0 }, backW t (turnsE t v l).2 l)
              else (goesE t (turnsE t v l).2 l (turnsE t v l).1 v.stage, doesE t (goesE t (turnsE t v l).2 l (turnsE t v l).1 v.stage) l (turnsE t v l).1) := if_neg (by rw [hT1]; decide)
            rw [hst2] at hre
            generalize (turnsE t v l).2 = w at *
            obtain ⟨j, hj⟩ : ∃ j : Nat, (turnsE t v l).1 = j := ⟨(turnsE t v l).1.toNat, by omega⟩
            rw [hj] at htu' hre hr
            have hj6 : j < 6 := by omega
            have hy : 0 ≤ (k : Int) ∧ (k : Int) < 6 := by omega
            have hy2 : 0 ≤ (j : Int) ∧ (j : Int) < 6 := by omega
            have w0 := q0 w ho
            have w1 := q1 w ho
            have w2 := q2 w ho
            try simp only [I, B, D, RY, ↓ KW, seval, qs, c1, c2, c3, c4, hy, hg, e1, e2, e3, e4, e5, e6, f1, f2, ffill, f0, fz, hn, hn2, hzl, kA, List.nil_append, v0, v1, v2, v3, v4]
            refine ⟨rfl, callp_is htu' ?_⟩
            try simp only [I, B, D, RY, ↓ KW, seval, qs, e1, e2, e3, e4, e5, e6, f1, f2, ffill, f0, fz, hn, hn2, hzl, kA, List.nil_append, v0, v1, v2, v3, v4, w0, w1, w2]
            have d1 := c3
            have d2 : True := trivial
            all_goals
              have hxx : ¬ (v.stage = 5 ∧ (j : Int) = 0) := by
                rintro ⟨a, b⟩
                rw [hk] at a
                simp_all
              rw [if_neg hxx] at hre
              obtain ⟨g2, hg2, hdo⟩ := hDo j hj6
              have s1 := q3 w ho j
              obtain ⟨y, hyy⟩ : ∃ y : Pr, y = goesE t w l j v.stage := ⟨_, rfl⟩
              have hy4 : y.held.length = 4 := by rw [hyy]; exact ho
              have s2 : ∀ x, x = timeW t { w with stage := (j : Int) } l ((j : Int) != (k : Int)) → setCells (wayC t { w with stage := (j : Int) } l) 133 [I x] = wayC t y l := fun x hx => by
                rw [q5 { w with stage := (j : Int) } ho x, hx, hyy, goesE, hk]
              have s2' := s2 _ rfl
              rw [← hyy] at hre
              have y0 := q0 y hy4
              have y1 := q1 y hy4
              have y2 := q2 y hy4
              have y3 := Pr.len hy4
              have y4 := Pr.whole hy4
              have y5 := k8 y hy4
              have l1 := q2 { w with stage := (j : Int) } ho
              have ht3 := hT t { w with stage := (j : Int) } l ((j : Int) != (k : Int)) (wy_of h ho)
              try try simp only [I, B, D, RY, ↓ KW, seval, d1, e1, e2, e3, e4, e5, e6, f1, f2, ffill, f0, fz, hn, hn2, hzl, kA, List.nil_append, v0, v1, v2, v3, v4, w0, w1, w2, s1, s2', y0, y1, y2, y3, y4, y5, l1, hy2, hg2, qs]
              try try simp only [I, B, D, RY, ↓ KW, seval, d2, e1, e2, e3, e4, e5, e6, f1, f2, ffill, f0, fz, hn, hn2, hzl, kA, List.nil_append, v0, v1, v2, v3, v4, w0, w1, w2, s1, s2', y0, y1, y2, y3, y4, y5, l1, hy2, hg2, qs]
              refine ⟨rfl, callp_is (ref_p ht3 rfl (Nat.le_of_ble_eq_true rfl)) ?_⟩
              try simp only [I, B, D, RY, ↓ KW, seval, qs, e1, e2, e3, e4, e5, e6, f1, f2, ffill, f0, fz, hn, hn2, hzl, kA, List.nil_append, v0, v1, v2, v3, v4, w0, w1, w2, s1, s2', y0, y1, y2, y3, y4, y5, l1, hy2, hg2]
              refine dg_ro [9] rfl ?_
              try simp only [I, B, D, RY, ↓ KW, seval, qs, e1, e2, e3, e4, e5, e6, f1, f2, ffill, f0, fz, hn, hn2, hzl, kA, List.nil_append, v0, v1, v2, v3, v4, w0, w1, w2, s1, s2', y0, y1, y2, y3, y4, y5, l1, hy2, hg2]
              refine ⟨rfl, callr_is (ref_p (hdo t y l (wy_of h hy4)) rfl (Nat.le_of_ble_eq_true rfl)) ?_⟩
              try simp only [I, B, D, RY, ↓ KW, seval, qs, e1, e2, e3, e4, e5, e6, f1, f2, ffill, f0, fz, hn, hn2, hzl, kA, List.nil_append, v0, v1, v2, v3, v4, w0, w1, w2, s1, s2', y0, y1, y2, y3, y4, y5, l1, hy2, hg2]
              rw [hre]
  · have qs := qs.1 (.inr (by have := of_decide_eq_true hB2; omega))
    try simp only [I, B, D, RY, ↓ KW, seval, hA, hB2, u0, u1, u2, qs, e1, e2, e3, e4, e5, e6, f1, f2, ffill, f0, fz, hn, hn2, hzl, kA, List.nil_append, v0, v1, v2, v3, v4]
    refine call_is (hR t v h.t hv4) ?_
    try simp only [I, B, D, RY, ↓ KW, seval, qs, e1, e2, e3, e4, e5, e6, f1, f2, ffill, f0, fz, hn, hn2, hzl, kA, List.nil_append, v0, v1, v2, v3, v4]
    cases c1 : decide (readyE t v ≥ 0)
    · have hT1 : takesE t v = false := by rw [hT0, c1]; rfl
      have c2 : True := trivial
      have c3 : True := trivial
      have c4 : True := trivial
      obtain ⟨g, hg, htu⟩ := hTu k (by omega)
      have htu' := htu t v l (wy_of h hv4) hk
      have ho := turns_ok (t := t) (l := l) hv4
      have hr := turns_rng t v l
      have hst2 : stepP t v l = if v.stage = 5 ∧ (turnsE t v l).1 = 0 then ({ (turnsE t v l).2 with stage := 0, which := 0, time := 0 }, backW t (turnsE t v l).2 l)
        else (goesE t (turnsE t v l).2 l (turnsE t v l).1 v.stage, doesE t (goesE t (turnsE t v l).2 l (turnsE t v l).1 v.stage) l (turnsE t v l).1) := if_neg (by rw [hT1]; decide)
      rw [hst2] at hre
      generalize (turnsE t v l).2 = w at *
      obtain ⟨j, hj⟩ : ∃ j : Nat, (turnsE t v l).1 = j := ⟨(turnsE t v l).1.toNat, by omega⟩
      rw [hj] at htu' hre hr
      have hj6 : j < 6 := by omega
      have hy : 0 ≤ (k : Int) ∧ (k : Int) < 6 := by omega
      have hy2 : 0 ≤ (j : Int) ∧ (j : Int) < 6 := by omega
      have w0 := q0 w ho
      have w1 := q1 w ho
      have w2 := q2 w ho
      try simp only [I, B, D, RY, ↓ KW, seval, qs, c1, c2, c3, c4, hy, hg, e1, e2, e3, e4, e5, e6, f1, f2, ffill, f0, fz, hn, hn2, hzl, kA, List.nil_append, v0, v1, v2, v3, v4]
      refine ⟨rfl, callp_is htu' ?_⟩
      try simp only [I, B, D, RY, ↓ KW, seval, qs, e1, e2, e3, e4, e5, e6, f1, f2, ffill, f0, fz, hn, hn2, hzl, kA, List.nil_append, v0, v1, v2, v3, v4, w0, w1, w2]
      cases d1 : ((k : Int) == 5)
      rotate_left
      cases d2 : ((j : Int) == 0)
      rotate_left
      · have s1 := q3 w ho 0
        have s2 := q4 { w with stage := 0 } ho 0
        have s3 := q5 { w with stage := 0, which := 0 } ho 0
        obtain ⟨y, hyy⟩ : ∃ y : Pr, y = { w with stage := 0, which := 0, time := 0 } := ⟨_, rfl⟩
        have hy4 : y.held.length = 4 := by rw [hyy]; exact ho
        rw [← hyy] at s3 hre
        have hxx : v.stage = 5 ∧ (j : Int) = 0 := ⟨by rw [hk]; simpa using d1, by simpa using d2⟩
        rw [if_pos hxx] at hre
        have y0 := q0 y hy4
        have y1 := q1 y hy4
        have y2 := q2 y hy4
        have y3 := Pr.len hy4
        have y4 := Pr.whole hy4
        have y5 := k8 y hy4
        have l1 := q2 { w with stage := 0 } ho
        have l2 := q2 { w with stage := 0, which := 0 } ho
        try simp only [I, B, D, RY, ↓ KW, seval, qs, d1, d2, e1, e2, e3, e4, e5, e6, f1, f2, ffill, f0, fz, hn, hn2, hzl, kA, List.nil_append, v0, v1, v2, v3, v4, w0, w1, w2]
        refine ⟨rfl, callp_is (ref_p (hB t w l (wy_of h ho)) rfl (Nat.le_of_ble_eq_true rfl)) ?_⟩
        try simp only [I, B, D, RY, ↓ KW, seval, qs, e1, e2, e3, e4, e5, e6, f1, f2, ffill, f0, fz, hn, hn2, hzl, kA, List.nil_append, v0, v1, v2, v3, v4, w0, w1, w2, s1, s2, s3, y0, y1, y2, y3, y4, y5, l1, l2]
        refine dg_go rfl ?_
        try simp only [I, B, D, RY, ↓ KW, seval, qs, e1, e2, e3, e4, e5, e6, f1, f2, ffill, f0, fz, hn, hn2, hzl, kA, List.nil_append, v0, v1, v2, v3, v4, w0, w1, w2, s1, s2, s3, y0, y1, y2, y3, y4, y5, l1, l2]
        rw [hre]
      all_goals
        have hxx : ¬ (v.stage = 5 ∧ (j : Int) = 0) := by
          rintro ⟨a, b⟩
          rw [hk] at a
          simp_all
        rw [if_neg hxx] at hre
        obtain ⟨g2, hg2, hdo⟩ := hDo j hj6
        have s1 := q3 w ho j
        obtain ⟨y, hyy⟩ : ∃ y : Pr, y = goesE t w l j v.stage := ⟨_, rfl⟩
        have hy4 : y.held.length = 4 := by rw [hyy]; exact ho
        have s2 : ∀ x, x = timeW t { w with stage := (j : Int) } l ((j : Int) != (k : Int)) → setCells (wayC t { w with stage := (j : Int) } l) 133 [I x] = wayC t y l := fun x hx => by
          rw [q5 { w with stage := (j : Int) } ho x, hx, hyy, goesE, hk]
        have s2' := s2 _ rfl
        rw [← hyy] at hre
        have y0 := q0 y hy4
        have y1 := q1 y hy4
        have y2 := q2 y hy4
        have y3 := Pr.len hy4
        have y4 := Pr.whole hy4
        have y5 := k8 y hy4
        have l1 := q2 { w with stage := (j : Int) } ho
        have ht3 := hT t { w with stage := (j : Int) } l ((j : Int) != (k : Int)) (wy_of h ho)
        try try simp only [I, B, D, RY, ↓ KW, seval, d1, e1, e2, e3, e4, e5, e6, f1, f2, ffill, f0, fz, hn, hn2, hzl, kA, List.nil_append, v0, v1, v2, v3, v4, w0, w1, w2, s1, s2', y0, y1, y2, y3, y4, y5, l1, hy2, hg2, qs]
        try try simp only [I, B, D, RY, ↓ KW, seval, d2, e1, e2, e3, e4, e5, e6, f1, f2, ffill, f0, fz, hn, hn2, hzl, kA, List.nil_append, v0, v1, v2, v3, v4, w0, w1, w2, s1, s2', y0, y1, y2, y3, y4, y5, l1, hy2, hg2, qs]
        refine ⟨rfl, callp_is (ref_p ht3 rfl (Nat.le_of_ble_eq_true rfl)) ?_⟩
        try simp only [I, B, D, RY, ↓ KW, seval, qs, e1, e2, e3, e4, e5, e6, f1, f2, ffill, f0, fz, hn, hn2, hzl, kA, List.nil_append, v0, v1, v2, v3, v4, w0, w1, w2, s1, s2', y0, y1, y2, y3, y4, y5, l1, hy2, hg2]
        refine dg_ro [9] rfl ?_
        try simp only [I, B, D, RY, ↓ KW, seval, qs, e1, e2, e3, e4, e5, e6, f1, f2, ffill, f0, fz, hn, hn2, hzl, kA, List.nil_append, v0, v1, v2, v3, v4, w0, w1, w2, s1, s2', y0, y1, y2, y3, y4, y5, l1, hy2, hg2]
        refine ⟨rfl, callr_is (ref_p (hdo t y l (wy_of h hy4)) rfl (Nat.le_of_ble_eq_true rfl)) ?_⟩
        try simp only [I, B, D, RY, ↓ KW, seval, qs, e1, e2, e3, e4, e5, e6, f1, f2, ffill, f0, fz, hn, hn2, hzl, kA, List.nil_append, v0, v1, v2, v3, v4, w0, w1, w2, s1, s2', y0, y1, y2, y3, y4, y5, l1, hy2, hg2]
        rw [hre]
    · cases c2 : ((k : Int) == 0)
      rotate_left
      · have hT1 : takesE t v = true := by rw [hT0, c1, c2]; rfl
        have c3 : True := trivial
        have c4 : True := trivial
        have s1 := q3 v hv4 1
        have s2 := q4 { v with stage := 1 } hv4 (readyE t v)
        have s3 := q5 { v with stage := 1, which := readyE t v } hv4 0
        have ht1 : stepP t v l = ({ v with stage := 1, which := readyE t v, time := 0 }, entryW t { v with stage := 1, which := readyE t v, time := 0 } l) := if_pos hT1
        obtain ⟨y, hy⟩ : ∃ y : Pr, y = { v with stage := 1, which := readyE t v, time := 0 } := ⟨_, rfl⟩
        have hy4 : y.held.length = 4 := by rw [hy]; exact hv4
        rw [← hy] at ht1 s3
        have y0 := q0 y hy4
        have y1 := q1 y hy4
        have y2 := q2 y hy4
        have y3 := Pr.len hy4
        have y4 := Pr.whole hy4
        have y5 := k8 y hy4
        have l1 := q2 { v with stage := 1 } hv4
        have l2 := q2 { v with stage := 1, which := readyE t v } hv4
        try simp only [I, B, D, RY, ↓ KW, seval, qs, c1, c2, c3, c4, e1, e2, e3, e4, e5, e6, f1, f2, ffill, f0, fz, hn, hn2, hzl, kA, List.nil_append, v0, v1, v2, v3, v4, s1, s2, s3, y0, y1, y2, y3, y4, y5, l1, l2]
        refine dg_ro [5] rfl ?_
        try simp only [I, B, D, RY, ↓ KW, seval, qs, e1, e2, e3, e4, e5, e6, f1, f2, ffill, f0, fz, hn, hn2, hzl, kA, List.nil_append, v0, v1, v2, v3, v4, s1, s2, s3, y0, y1, y2, y3, y4, y5, l1, l2]
        refine ⟨rfl, callr_is (ref_p (hE t y l (wy_of h hy4)) rfl (Nat.le_of_ble_eq_true rfl)) ?_⟩
        try simp only [I, B, D, RY, ↓ KW, seval, qs, e1, e2, e3, e4, e5, e6, f1, f2, ffill, f0, fz, hn, hn2, hzl, kA, List.nil_append, v0, v1, v2, v3, v4, s1, s2, s3, y0, y1, y2, y3, y4, y5, l1, l2]
        rw [hre, ht1]
      · cases c3 : ((k : Int) == 5)
        rotate_left
        · have hT1 : takesE t v = true := by rw [hT0, c1, c2, c3]; rfl
          have c4 : True := trivial
          have s1 := q3 v hv4 1
          have s2 := q4 { v with stage := 1 } hv4 (readyE t v)
          have s3 := q5 { v with stage := 1, which := readyE t v } hv4 0
          have ht1 : stepP t v l = ({ v with stage := 1, which := readyE t v, time := 0 }, entryW t { v with stage := 1, which := readyE t v, time := 0 } l) := if_pos hT1
          obtain ⟨y, hy⟩ : ∃ y : Pr, y = { v with stage := 1, which := readyE t v, time := 0 } := ⟨_, rfl⟩
          have hy4 : y.held.length = 4 := by rw [hy]; exact hv4
          rw [← hy] at ht1 s3
          have y0 := q0 y hy4
          have y1 := q1 y hy4
          have y2 := q2 y hy4
          have y3 := Pr.len hy4
          have y4 := Pr.whole hy4
          have y5 := k8 y hy4
          have l1 := q2 { v with stage := 1 } hv4
          have l2 := q2 { v with stage := 1, which := readyE t v } hv4
          try simp only [I, B, D, RY, ↓ KW, seval, qs, c1, c2, c3, c4, e1, e2, e3, e4, e5, e6, f1, f2, ffill, f0, fz, hn, hn2, hzl, kA, List.nil_append, v0, v1, v2, v3, v4, s1, s2, s3, y0, y1, y2, y3, y4, y5, l1, l2]
          refine dg_ro [5] rfl ?_
          try simp only [I, B, D, RY, ↓ KW, seval, qs, e1, e2, e3, e4, e5, e6, f1, f2, ffill, f0, fz, hn, hn2, hzl, kA, List.nil_append, v0, v1, v2, v3, v4, s1, s2, s3, y0, y1, y2, y3, y4, y5, l1, l2]
          refine ⟨rfl, callr_is (ref_p (hE t y l (wy_of h hy4)) rfl (Nat.le_of_ble_eq_true rfl)) ?_⟩
          try simp only [I, B, D, RY, ↓ KW, seval, qs, e1, e2, e3, e4, e5, e6, f1, f2, ffill, f0, fz, hn, hn2, hzl, kA, List.nil_append, v0, v1, v2, v3, v4, s1, s2, s3, y0, y1, y2, y3, y4, y5, l1, l2]
          rw [hre, ht1]
        · cases c4 : decide (readyE t v < v.which)
          rotate_left
          · have hT1 : takesE t v = true := by rw [hT0, c1, c2, c3, c4]; rfl
            have s1 := q3 v hv4 1
            have s2 := q4 { v with stage := 1 } hv4 (readyE t v)
            have s3 := q5 { v with stage := 1, which := readyE t v } hv4 0
            have ht1 : stepP t v l = ({ v with stage := 1, which := readyE t v, time := 0 }, entryW t { v with stage := 1, which := readyE t v, time := 0 } l) := if_pos hT1
            obtain ⟨y, hy⟩ : ∃ y : Pr, y = { v with stage := 1, which := readyE t v, time := 0 } := ⟨_, rfl⟩
            have hy4 : y.held.length = 4 := by rw [hy]; exact hv4
            rw [← hy] at ht1 s3
            have y0 := q0 y hy4
            have y1 := q1 y hy4
            have y2 := q2 y hy4
            have y3 := Pr.len hy4
            have y4 := Pr.whole hy4
            have y5 := k8 y hy4
            have l1 := q2 { v with stage := 1 } hv4
            have l2 := q2 { v with stage := 1, which := readyE t v } hv4
            try simp only [I, B, D, RY, ↓ KW, seval, qs, c1, c2, c3, c4, e1, e2, e3, e4, e5, e6, f1, f2, ffill, f0, fz, hn, hn2, hzl, kA, List.nil_append, v0, v1, v2, v3, v4, s1, s2, s3, y0, y1, y2, y3, y4, y5, l1, l2]
            refine dg_ro [5] rfl ?_
            try simp only [I, B, D, RY, ↓ KW, seval, qs, e1, e2, e3, e4, e5, e6, f1, f2, ffill, f0, fz, hn, hn2, hzl, kA, List.nil_append, v0, v1, v2, v3, v4, s1, s2, s3, y0, y1, y2, y3, y4, y5, l1, l2]
            refine ⟨rfl, callr_is (ref_p (hE t y l (wy_of h hy4)) rfl (Nat.le_of_ble_eq_true rfl)) ?_⟩
            try simp only [I, B, D, RY, ↓ KW, seval, qs, e1, e2, e3, e4, e5, e6, f1, f2, ffill, f0, fz, hn, hn2, hzl, kA, List.nil_append, v0, v1, v2, v3, v4, s1, s2, s3, y0, y1, y2, y3, y4, y5, l1, l2]
            rw [hre, ht1]
          · have hT1 : takesE t v = false := by rw [hT0, c1, c2, c3, c4]; rfl
            obtain ⟨g, hg, htu⟩ := hTu k (by omega)
            have htu' := htu t v l (wy_of h hv4) hk
            have ho := turns_ok (t := t) (l := l) hv4
            have hr := turns_rng t v l
            have hst2 : stepP t v l = if v.stage = 5 ∧ (turnsE t v l).1 = 0 then ({ (turnsE t v l).2 with stage := 0, which := 0, time := 0 }, backW t (turnsE t v l).2 l)
              else (goesE t (turnsE t v l).2 l (turnsE t v l).1 v.stage, doesE t (goesE t (turnsE t v l).2 l (turnsE t v l).1 v.stage) l (turnsE t v l).1) := if_neg (by rw [hT1]; decide)
            rw [hst2] at hre
            generalize (turnsE t v l).2 = w at *
            obtain ⟨j, hj⟩ : ∃ j : Nat, (turnsE t v l).1 = j := ⟨(turnsE t v l).1.toNat, by omega⟩
            rw [hj] at htu' hre hr
            have hj6 : j < 6 := by omega
            have hy : 0 ≤ (k : Int) ∧ (k : Int) < 6 := by omega
            have hy2 : 0 ≤ (j : Int) ∧ (j : Int) < 6 := by omega
            have w0 := q0 w ho
            have w1 := q1 w ho
            have w2 := q2 w ho
            try simp only [I, B, D, RY, ↓ KW, seval, qs, c1, c2, c3, c4, hy, hg, e1, e2, e3, e4, e5, e6, f1, f2, ffill, f0, fz, hn, hn2, hzl, kA, List.nil_append, v0, v1, v2, v3, v4]
            refine ⟨rfl, callp_is htu' ?_⟩
            try simp only [I, B, D, RY, ↓ KW, seval, qs, e1, e2, e3, e4, e5, e6, f1, f2, ffill, f0, fz, hn, hn2, hzl, kA, List.nil_append, v0, v1, v2, v3, v4, w0, w1, w2]
            have d1 := c3
            have d2 : True := trivial
            all_goals
              have hxx : ¬ (v.stage = 5 ∧ (j : Int) = 0) := by
                rintro ⟨a, b⟩
                rw [hk] at a
                simp_all
              rw [if_neg hxx] at hre
              obtain ⟨g2, hg2, hdo⟩ := hDo j hj6
              have s1 := q3 w ho j
              obtain ⟨y, hyy⟩ : ∃ y : Pr, y = goesE t w l j v.stage := ⟨_, rfl⟩
              have hy4 : y.held.length = 4 := by rw [hyy]; exact ho
              have s2 : ∀ x, x = timeW t { w with stage := (j : Int) } l ((j : Int) != (k : Int)) → setCells (wayC t { w with stage := (j : Int) } l) 133 [I x] = wayC t y l := fun x hx => by
                rw [q5 { w with stage := (j : Int) } ho x, hx, hyy, goesE, hk]
              have s2' := s2 _ rfl
              rw [← hyy] at hre
              have y0 := q0 y hy4
              have y1 := q1 y hy4
              have y2 := q2 y hy4
              have y3 := Pr.len hy4
              have y4 := Pr.whole hy4
              have y5 := k8 y hy4
              have l1 := q2 { w with stage := (j : Int) } ho
              have ht3 := hT t { w with stage := (j : Int) } l ((j : Int) != (k : Int)) (wy_of h ho)
              try try simp only [I, B, D, RY, ↓ KW, seval, d1, e1, e2, e3, e4, e5, e6, f1, f2, ffill, f0, fz, hn, hn2, hzl, kA, List.nil_append, v0, v1, v2, v3, v4, w0, w1, w2, s1, s2', y0, y1, y2, y3, y4, y5, l1, hy2, hg2, qs]
              try try simp only [I, B, D, RY, ↓ KW, seval, d2, e1, e2, e3, e4, e5, e6, f1, f2, ffill, f0, fz, hn, hn2, hzl, kA, List.nil_append, v0, v1, v2, v3, v4, w0, w1, w2, s1, s2', y0, y1, y2, y3, y4, y5, l1, hy2, hg2, qs]
              refine ⟨rfl, callp_is (ref_p ht3 rfl (Nat.le_of_ble_eq_true rfl)) ?_⟩
              try simp only [I, B, D, RY, ↓ KW, seval, qs, e1, e2, e3, e4, e5, e6, f1, f2, ffill, f0, fz, hn, hn2, hzl, kA, List.nil_append, v0, v1, v2, v3, v4, w0, w1, w2, s1, s2', y0, y1, y2, y3, y4, y5, l1, hy2, hg2]
              refine dg_ro [9] rfl ?_
              try simp only [I, B, D, RY, ↓ KW, seval, qs, e1, e2, e3, e4, e5, e6, f1, f2, ffill, f0, fz, hn, hn2, hzl, kA, List.nil_append, v0, v1, v2, v3, v4, w0, w1, w2, s1, s2', y0, y1, y2, y3, y4, y5, l1, hy2, hg2]
              refine ⟨rfl, callr_is (ref_p (hdo t y l (wy_of h hy4)) rfl (Nat.le_of_ble_eq_true rfl)) ?_⟩
              try simp only [I, B, D, RY, ↓ KW, seval, qs, e1, e2, e3, e4, e5, e6, f1, f2, ffill, f0, fz, hn, hn2, hzl, kA, List.nil_append, v0, v1, v2, v3, v4, w0, w1, w2, s1, s2', y0, y1, y2, y3, y4, y5, l1, hy2, hg2]
              rw [hre]
  · have qs := qs.1 (.inl (of_decide_eq_true hA))
    try simp only [I, B, D, RY, ↓ KW, seval, hA, u0, u1, u2, qs, e1, e2, e3, e4, e5, e6, f1, f2, ffill, f0, fz, hn, hn2, hzl, kA, List.nil_append, v0, v1, v2, v3, v4]
    refine call_is (hR t v h.t hv4) ?_
    try simp only [I, B, D, RY, ↓ KW, seval, qs, e1, e2, e3, e4, e5, e6, f1, f2, ffill, f0, fz, hn, hn2, hzl, kA, List.nil_append, v0, v1, v2, v3, v4]
    cases c1 : decide (readyE t v ≥ 0)
    · have hT1 : takesE t v = false := by rw [hT0, c1]; rfl
      have c2 : True := trivial
      have c3 : True := trivial
      have c4 : True := trivial
      obtain ⟨g, hg, htu⟩ := hTu k (by omega)
      have htu' := htu t v l (wy_of h hv4) hk
      have ho := turns_ok (t := t) (l := l) hv4
      have hr := turns_rng t v l
      have hst2 : stepP t v l = if v.stage = 5 ∧ (turnsE t v l).1 = 0 then ({ (turnsE t v l).2 with stage := 0, which := 0, time := 0 }, backW t (turnsE t v l).2 l)
        else (goesE t (turnsE t v l).2 l (turnsE t v l).1 v.stage, doesE t (goesE t (turnsE t v l).2 l (turnsE t v l).1 v.stage) l (turnsE t v l).1) := if_neg (by rw [hT1]; decide)
      rw [hst2] at hre
      generalize (turnsE t v l).2 = w at *
      obtain ⟨j, hj⟩ : ∃ j : Nat, (turnsE t v l).1 = j := ⟨(turnsE t v l).1.toNat, by omega⟩
      rw [hj] at htu' hre hr
      have hj6 : j < 6 := by omega
      have hy : 0 ≤ (k : Int) ∧ (k : Int) < 6 := by omega
      have hy2 : 0 ≤ (j : Int) ∧ (j : Int) < 6 := by omega
      have w0 := q0 w ho
      have w1 := q1 w ho
      have w2 := q2 w ho
      try simp only [I, B, D, RY, ↓ KW, seval, qs, c1, c2, c3, c4, hy, hg, e1, e2, e3, e4, e5, e6, f1, f2, ffill, f0, fz, hn, hn2, hzl, kA, List.nil_append, v0, v1, v2, v3, v4]
      refine ⟨rfl, callp_is htu' ?_⟩
      try simp only [I, B, D, RY, ↓ KW, seval, qs, e1, e2, e3, e4, e5, e6, f1, f2, ffill, f0, fz, hn, hn2, hzl, kA, List.nil_append, v0, v1, v2, v3, v4, w0, w1, w2]
      cases d1 : ((k : Int) == 5)
      rotate_left
      cases d2 : ((j : Int) == 0)
      rotate_left
      · have s1 := q3 w ho 0
        have s2 := q4 { w with stage := 0 } ho 0
        have s3 := q5 { w with stage := 0, which := 0 } ho 0
        obtain ⟨y, hyy⟩ : ∃ y : Pr, y = { w with stage := 0, which := 0, time := 0 } := ⟨_, rfl⟩
        have hy4 : y.held.length = 4 := by rw [hyy]; exact ho
        rw [← hyy] at s3 hre
        have hxx : v.stage = 5 ∧ (j : Int) = 0 := ⟨by rw [hk]; simpa using d1, by simpa using d2⟩
        rw [if_pos hxx] at hre
        have y0 := q0 y hy4
        have y1 := q1 y hy4
        have y2 := q2 y hy4
        have y3 := Pr.len hy4
        have y4 := Pr.whole hy4
        have y5 := k8 y hy4
        have l1 := q2 { w with stage := 0 } ho
        have l2 := q2 { w with stage := 0, which := 0 } ho
        try simp only [I, B, D, RY, ↓ KW, seval, qs, d1, d2, e1, e2, e3, e4, e5, e6, f1, f2, ffill, f0, fz, hn, hn2, hzl, kA, List.nil_append, v0, v1, v2, v3, v4, w0, w1, w2]
        refine ⟨rfl, callp_is (ref_p (hB t w l (wy_of h ho)) rfl (Nat.le_of_ble_eq_true rfl)) ?_⟩
        try simp only [I, B, D, RY, ↓ KW, seval, qs, e1, e2, e3, e4, e5, e6, f1, f2, ffill, f0, fz, hn, hn2, hzl, kA, List.nil_append, v0, v1, v2, v3, v4, w0, w1, w2, s1, s2, s3, y0, y1, y2, y3, y4, y5, l1, l2]
        refine dg_go rfl ?_
        try simp only [I, B, D, RY, ↓ KW, seval, qs, e1, e2, e3, e4, e5, e6, f1, f2, ffill, f0, fz, hn, hn2, hzl, kA, List.nil_append, v0, v1, v2, v3, v4, w0, w1, w2, s1, s2, s3, y0, y1, y2, y3, y4, y5, l1, l2]
        rw [hre]
      all_goals
        have hxx : ¬ (v.stage = 5 ∧ (j : Int) = 0) := by
          rintro ⟨a, b⟩
          rw [hk] at a
          simp_all
        rw [if_neg hxx] at hre
        obtain ⟨g2, hg2, hdo⟩ := hDo j hj6
        have s1 := q3 w ho j
        obtain ⟨y, hyy⟩ : ∃ y : Pr, y = goesE t w l j v.stage := ⟨_, rfl⟩
        have hy4 : y.held.length = 4 := by rw [hyy]; exact ho
        have s2 : ∀ x, x = timeW t { w with stage := (j : Int) } l ((j : Int) != (k : Int)) → setCells (wayC t { w with stage := (j : Int) } l) 133 [I x] = wayC t y l := fun x hx => by
          rw [q5 { w with stage := (j : Int) } ho x, hx, hyy, goesE, hk]
        have s2' := s2 _ rfl
        rw [← hyy] at hre
        have y0 := q0 y hy4
        have y1 := q1 y hy4
        have y2 := q2 y hy4
        have y3 := Pr.len hy4
        have y4 := Pr.whole hy4
        have y5 := k8 y hy4
        have l1 := q2 { w with stage := (j : Int) } ho
        have ht3 := hT t { w with stage := (j : Int) } l ((j : Int) != (k : Int)) (wy_of h ho)
        try try simp only [I, B, D, RY, ↓ KW, seval, d1, e1, e2, e3, e4, e5, e6, f1, f2, ffill, f0, fz, hn, hn2, hzl, kA, List.nil_append, v0, v1, v2, v3, v4, w0, w1, w2, s1, s2', y0, y1, y2, y3, y4, y5, l1, hy2, hg2, qs]
        try try simp only [I, B, D, RY, ↓ KW, seval, d2, e1, e2, e3, e4, e5, e6, f1, f2, ffill, f0, fz, hn, hn2, hzl, kA, List.nil_append, v0, v1, v2, v3, v4, w0, w1, w2, s1, s2', y0, y1, y2, y3, y4, y5, l1, hy2, hg2, qs]
        refine ⟨rfl, callp_is (ref_p ht3 rfl (Nat.le_of_ble_eq_true rfl)) ?_⟩
        try simp only [I, B, D, RY, ↓ KW, seval, qs, e1, e2, e3, e4, e5, e6, f1, f2, ffill, f0, fz, hn, hn2, hzl, kA, List.nil_append, v0, v1, v2, v3, v4, w0, w1, w2, s1, s2', y0, y1, y2, y3, y4, y5, l1, hy2, hg2]
        refine dg_ro [9] rfl ?_
        try simp only [I, B, D, RY, ↓ KW, seval, qs, e1, e2, e3, e4, e5, e6, f1, f2, ffill, f0, fz, hn, hn2, hzl, kA, List.nil_append, v0, v1, v2, v3, v4, w0, w1, w2, s1, s2', y0, y1, y2, y3, y4, y5, l1, hy2, hg2]
        refine ⟨rfl, callr_is (ref_p (hdo t y l (wy_of h hy4)) rfl (Nat.le_of_ble_eq_true rfl)) ?_⟩
        try simp only [I, B, D, RY, ↓ KW, seval, qs, e1, e2, e3, e4, e5, e6, f1, f2, ffill, f0, fz, hn, hn2, hzl, kA, List.nil_append, v0, v1, v2, v3, v4, w0, w1, w2, s1, s2', y0, y1, y2, y3, y4, y5, l1, hy2, hg2]
        rw [hre]
    · cases c2 : ((k : Int) == 0)
      rotate_left
      · have hT1 : takesE t v = true := by rw [hT0, c1, c2]; rfl
        have c3 : True := trivial
        have c4 : True := trivial
        have s1 := q3 v hv4 1
        have s2 := q4 { v with stage := 1 } hv4 (readyE t v)
        have s3 := q5 { v with stage := 1, which := readyE t v } hv4 0
        have ht1 : stepP t v l = ({ v with stage := 1, which := readyE t v, time := 0 }, entryW t { v with stage := 1, which := readyE t v, time := 0 } l) := if_pos hT1
        obtain ⟨y, hy⟩ : ∃ y : Pr, y = { v with stage := 1, which := readyE t v, time := 0 } := ⟨_, rfl⟩
        have hy4 : y.held.length = 4 := by rw [hy]; exact hv4
        rw [← hy] at ht1 s3
        have y0 := q0 y hy4
        have y1 := q1 y hy4
        have y2 := q2 y hy4
        have y3 := Pr.len hy4
        have y4 := Pr.whole hy4
        have y5 := k8 y hy4
        have l1 := q2 { v with stage := 1 } hv4
        have l2 := q2 { v with stage := 1, which := readyE t v } hv4
        try simp only [I, B, D, RY, ↓ KW, seval, qs, c1, c2, c3, c4, e1, e2, e3, e4, e5, e6, f1, f2, ffill, f0, fz, hn, hn2, hzl, kA, List.nil_append, v0, v1, v2, v3, v4, s1, s2, s3, y0, y1, y2, y3, y4, y5, l1, l2]
        refine dg_ro [5] rfl ?_
        try simp only [I, B, D, RY, ↓ KW, seval, qs, e1, e2, e3, e4, e5, e6, f1, f2, ffill, f0, fz, hn, hn2, hzl, kA, List.nil_append, v0, v1, v2, v3, v4, s1, s2, s3, y0, y1, y2, y3, y4, y5, l1, l2]
        refine ⟨rfl, callr_is (ref_p (hE t y l (wy_of h hy4)) rfl (Nat.le_of_ble_eq_true rfl)) ?_⟩
        try simp only [I, B, D, RY, ↓ KW, seval, qs, e1, e2, e3, e4, e5, e6, f1, f2, ffill, f0, fz, hn, hn2, hzl, kA, List.nil_append, v0, v1, v2, v3, v4, s1, s2, s3, y0, y1, y2, y3, y4, y5, l1, l2]
        rw [hre, ht1]
      · cases c3 : ((k : Int) == 5)
        rotate_left
        · have hT1 : takesE t v = true := by rw [hT0, c1, c2, c3]; rfl
          have c4 : True := trivial
          have s1 := q3 v hv4 1
          have s2 := q4 { v with stage := 1 } hv4 (readyE t v)
          have s3 := q5 { v with stage := 1, which := readyE t v } hv4 0
          have ht1 : stepP t v l = ({ v with stage := 1, which := readyE t v, time := 0 }, entryW t { v with stage := 1, which := readyE t v, time := 0 } l) := if_pos hT1
          obtain ⟨y, hy⟩ : ∃ y : Pr, y = { v with stage := 1, which := readyE t v, time := 0 } := ⟨_, rfl⟩
          have hy4 : y.held.length = 4 := by rw [hy]; exact hv4
          rw [← hy] at ht1 s3
          have y0 := q0 y hy4
          have y1 := q1 y hy4
          have y2 := q2 y hy4
          have y3 := Pr.len hy4
          have y4 := Pr.whole hy4
          have y5 := k8 y hy4
          have l1 := q2 { v with stage := 1 } hv4
          have l2 := q2 { v with stage := 1, which := readyE t v } hv4
          try simp only [I, B, D, RY, ↓ KW, seval, qs, c1, c2, c3, c4, e1, e2, e3, e4, e5, e6, f1, f2, ffill, f0, fz, hn, hn2, hzl, kA, List.nil_append, v0, v1, v2, v3, v4, s1, s2, s3, y0, y1, y2, y3, y4, y5, l1, l2]
          refine dg_ro [5] rfl ?_
          try simp only [I, B, D, RY, ↓ KW, seval, qs, e1, e2, e3, e4, e5, e6, f1, f2, ffill, f0, fz, hn, hn2, hzl, kA, List.nil_append, v0, v1, v2, v3, v4, s1, s2, s3, y0, y1, y2, y3, y4, y5, l1, l2]
          refine ⟨rfl, callr_is (ref_p (hE t y l (wy_of h hy4)) rfl (Nat.le_of_ble_eq_true rfl)) ?_⟩
          try simp only [I, B, D, RY, ↓ KW, seval, qs, e1, e2, e3, e4, e5, e6, f1, f2, ffill, f0, fz, hn, hn2, hzl, kA, List.nil_append, v0, v1, v2, v3, v4, s1, s2, s3, y0, y1, y2, y3, y4, y5, l1, l2]
          rw [hre, ht1]
        · cases c4 : decide (readyE t v < v.which)
          rotate_left
          · have hT1 : takesE t v = true := by rw [hT0, c1, c2, c3, c4]; rfl
            have s1 := q3 v hv4 1
            have s2 := q4 { v with stage := 1 } hv4 (readyE t v)
            have s3 := q5 { v with stage := 1, which := readyE t v } hv4 0
            have ht1 : stepP t v l = ({ v with stage := 1, which := readyE t v, time := 0 }, entryW t { v with stage := 1, which := readyE t v, time := 0 } l) := if_pos hT1
            obtain ⟨y, hy⟩ : ∃ y : Pr, y = { v with stage := 1, which := readyE t v, time := 0 } := ⟨_, rfl⟩
            have hy4 : y.held.length = 4 := by rw [hy]; exact hv4
            rw [← hy] at ht1 s3
            have y0 := q0 y hy4
            have y1 := q1 y hy4
            have y2 := q2 y hy4
            have y3 := Pr.len hy4
            have y4 := Pr.whole hy4
            have y5 := k8 y hy4
            have l1 := q2 { v with stage := 1 } hv4
            have l2 := q2 { v with stage := 1, which := readyE t v } hv4
            try simp only [I, B, D, RY, ↓ KW, seval, qs, c1, c2, c3, c4, e1, e2, e3, e4, e5, e6, f1, f2, ffill, f0, fz, hn, hn2, hzl, kA, List.nil_append, v0, v1, v2, v3, v4, s1, s2, s3, y0, y1, y2, y3, y4, y5, l1, l2]
            refine dg_ro [5] rfl ?_
            try simp only [I, B, D, RY, ↓ KW, seval, qs, e1, e2, e3, e4, e5, e6, f1, f2, ffill, f0, fz, hn, hn2, hzl, kA, List.nil_append, v0, v1, v2, v3, v4, s1, s2, s3, y0, y1, y2, y3, y4, y5, l1, l2]
            refine ⟨rfl, callr_is (ref_p (hE t y l (wy_of h hy4)) rfl (Nat.le_of_ble_eq_true rfl)) ?_⟩
            try simp only [I, B, D, RY, ↓ KW, seval, qs, e1, e2, e3, e4, e5, e6, f1, f2, ffill, f0, fz, hn, hn2, hzl, kA, List.nil_append, v0, v1, v2, v3, v4, s1, s2, s3, y0, y1, y2, y3, y4, y5, l1, l2]
            rw [hre, ht1]
          · have hT1 : takesE t v = false := by rw [hT0, c1, c2, c3, c4]; rfl
            obtain ⟨g, hg, htu⟩ := hTu k (by omega)
            have htu' := htu t v l (wy_of h hv4) hk
            have ho := turns_ok (t := t) (l := l) hv4
            have hr := turns_rng t v l
            have hst2 : stepP t v l = if v.stage = 5 ∧ (turnsE t v l).1 = 0 then ({ (turnsE t v l).2 with stage := 0, which := 0, time := 0 }, backW t (turnsE t v l).2 l)
              else (goesE t (turnsE t v l).2 l (turnsE t v l).1 v.stage, doesE t (goesE t (turnsE t v l).2 l (turnsE t v l).1 v.stage) l (turnsE t v l).1) := if_neg (by rw [hT1]; decide)
            rw [hst2] at hre
            generalize (turnsE t v l).2 = w at *
            obtain ⟨j, hj⟩ : ∃ j : Nat, (turnsE t v l).1 = j := ⟨(turnsE t v l).1.toNat, by omega⟩
            rw [hj] at htu' hre hr
            have hj6 : j < 6 := by omega
            have hy : 0 ≤ (k : Int) ∧ (k : Int) < 6 := by omega
            have hy2 : 0 ≤ (j : Int) ∧ (j : Int) < 6 := by omega
            have w0 := q0 w ho
            have w1 := q1 w ho
            have w2 := q2 w ho
            try simp only [I, B, D, RY, ↓ KW, seval, qs, c1, c2, c3, c4, hy, hg, e1, e2, e3, e4, e5, e6, f1, f2, ffill, f0, fz, hn, hn2, hzl, kA, List.nil_append, v0, v1, v2, v3, v4]
            refine ⟨rfl, callp_is htu' ?_⟩
            try simp only [I, B, D, RY, ↓ KW, seval, qs, e1, e2, e3, e4, e5, e6, f1, f2, ffill, f0, fz, hn, hn2, hzl, kA, List.nil_append, v0, v1, v2, v3, v4, w0, w1, w2]
            have d1 := c3
            have d2 : True := trivial
            all_goals
              have hxx : ¬ (v.stage = 5 ∧ (j : Int) = 0) := by
                rintro ⟨a, b⟩
                rw [hk] at a
                simp_all
              rw [if_neg hxx] at hre
              obtain ⟨g2, hg2, hdo⟩ := hDo j hj6
              have s1 := q3 w ho j
              obtain ⟨y, hyy⟩ : ∃ y : Pr, y = goesE t w l j v.stage := ⟨_, rfl⟩
              have hy4 : y.held.length = 4 := by rw [hyy]; exact ho
              have s2 : ∀ x, x = timeW t { w with stage := (j : Int) } l ((j : Int) != (k : Int)) → setCells (wayC t { w with stage := (j : Int) } l) 133 [I x] = wayC t y l := fun x hx => by
                rw [q5 { w with stage := (j : Int) } ho x, hx, hyy, goesE, hk]
              have s2' := s2 _ rfl
              rw [← hyy] at hre
              have y0 := q0 y hy4
              have y1 := q1 y hy4
              have y2 := q2 y hy4
              have y3 := Pr.len hy4
              have y4 := Pr.whole hy4
              have y5 := k8 y hy4
              have l1 := q2 { w with stage := (j : Int) } ho
              have ht3 := hT t { w with stage := (j : Int) } l ((j : Int) != (k : Int)) (wy_of h ho)
              try try simp only [I, B, D, RY, ↓ KW, seval, d1, e1, e2, e3, e4, e5, e6, f1, f2, ffill, f0, fz, hn, hn2, hzl, kA, List.nil_append, v0, v1, v2, v3, v4, w0, w1, w2, s1, s2', y0, y1, y2, y3, y4, y5, l1, hy2, hg2, qs]
              try try simp only [I, B, D, RY, ↓ KW, seval, d2, e1, e2, e3, e4, e5, e6, f1, f2, ffill, f0, fz, hn, hn2, hzl, kA, List.nil_append, v0, v1, v2, v3, v4, w0, w1, w2, s1, s2', y0, y1, y2, y3, y4, y5, l1, hy2, hg2, qs]
              refine ⟨rfl, callp_is (ref_p ht3 rfl (Nat.le_of_ble_eq_true rfl)) ?_⟩
              try simp only [I, B, D, RY, ↓ KW, seval, qs, e1, e2, e3, e4, e5, e6, f1, f2, ffill, f0, fz, hn, hn2, hzl, kA, List.nil_append, v0, v1, v2, v3, v4, w0, w1, w2, s1, s2', y0, y1, y2, y3, y4, y5, l1, hy2, hg2]
              refine dg_ro [9] rfl ?_
              try simp only [I, B, D, RY, ↓ KW, seval, qs, e1, e2, e3, e4, e5, e6, f1, f2, ffill, f0, fz, hn, hn2, hzl, kA, List.nil_append, v0, v1, v2, v3, v4, w0, w1, w2, s1, s2', y0, y1, y2, y3, y4, y5, l1, hy2, hg2]
              refine ⟨rfl, callr_is (ref_p (hdo t y l (wy_of h hy4)) rfl (Nat.le_of_ble_eq_true rfl)) ?_⟩
              try simp only [I, B, D, RY, ↓ KW, seval, qs, e1, e2, e3, e4, e5, e6, f1, f2, ffill, f0, fz, hn, hn2, hzl, kA, List.nil_append, v0, v1, v2, v3, v4, w0, w1, w2, s1, s2', y0, y1, y2, y3, y4, y5, l1, hy2, hg2]
              rw [hre]
end
end Go.Eng
namespace Go.Eng
set_option linter.unusedVariables false
set_option linter.unusedSimpArgs false
set_option linter.unnecessarySimpa false
open Go
set_option linter.unusedVariables false
set_option linter.unusedSimpArgs false
set_option maxRecDepth 10000
set_option maxHeartbeats 4000000
def one21 : Tb := { g9 with rails := some [⟨2, 0, 1, 2, 0, 1, 0, 0, 1, 0, 9⟩] }
theorem one21_ok : one21.Ok := ⟨rfl, rfl, rfl, by simp [one21, g9], by simp [one21, g9], by simp [one21, g9, g9To, Tb0], by simp [one21], by simp [one21, g9, g9To, Tb0]⟩
def pr0 : Pr := ⟨0, 0, 0, [0, 0, 0, 0], 0⟩
def rns0 : List Rn := List.replicate 8 default
def preE (t : Tb) (s : Pr) : Pr :=
  if (if nRl t = 0 then 0 else place s.stage 6) = 0 then { s with stage := 0, which := 0, time := 0 } else { s with stage := place s.stage 6, which := place s.which (nRl t) }
def mayB (a b : Int) : Bool :=
  if a = 0 then b == 0 else if a = 1 then b == 1 || (b == 2 || b == 4) else if a = 2 then b == 2 || b == 3 else if a = 3 then b == 3 || b == 4 else if a = 4 then b == 4 || b == 5 else b == 5 || b == 0
def redTo (l : List Rn) : Nat → Int
  | 0 => 0
  | k + 1 => if redR (rnAt l k) then withR (redTo l k) k else redTo l k
theorem redTo_mk (l : List Rn) : ∀ k, k ≤ 8 → redTo l k = mkTo (fun p => redR (rnAt l p)) k
  | 0, _ => rfl
  | k + 1, h => by
    simp only [redTo, mkTo, redTo_mk l k (by omega)]
    split
    · rw [withR_S (by omega)]
    · rfl
def redI (l : List Rn) : Int := mk8 fun p => redR (rnAt l p)
def grnI (l : List Rn) : Int := mk8 fun p => grnR (rnAt l p)
theorem green_mk (l : List Rn) : ∀ k, k ≤ 8 → greenTo l k = mkTo (fun p => grnR (rnAt l p)) k
  | 0, _ => rfl
  | k + 1, h => by
    have e : (grnR (rnAt l k) = true) ↔ (l.getD k default).colour = 1 := by simp [grnR, rnAt]
    simp only [greenTo, mkTo, green_mk l k (by omega), e]
    split
    · rw [withR_S (by omega)]
    · rfl
def lPre.Spec (C : Con) (f : Nat) : Prop := ∀ (t : Tb) (s : Pr), t.Ok → s.held.length = 4 → C.c f [.agg t.cells, .agg s.cells] (.agg (preE t s).cells) none
def lMay.Spec (C : Con) (f : Nat) : Prop := ∀ a b : Int, C.c f [I a, I b] (B (mayB a b)) none
def lOne.Spec (C : Con) (f : Nat) : Prop := C.c f [] (.agg one21.cells) none
def awake21.Spec (C : Con) (f : Nat) : Prop := C.c f [] (B true) none
def red19.Spec (C : Con) (f : Nat) : Prop := ∀ r : Rn, C.c f [.agg r.cells] (B (redR r)) none
def reds19.Spec (C : Con) (f : Nat) : Prop := ∀ l : List Rn, l.length = 8 → C.c f [.agg (runsC l)] (I (redI l)) none
theorem ex21_1 : railE one21 pr0 0 rns0 = (⟨0, 0, 0, [0, 0, 0, 0], 0⟩, ⟨0, 0, 0, true, false⟩) := by decide +kernel
theorem ex21_2 : railE one21 ⟨0, 0, 0, [0, 0, 0, 0], 0⟩ 1 rns0 = (⟨1, 0, 0, [1, 0, 0, 0], 0⟩, ⟨0, 0, 0, false, false⟩) := by decide +kernel
theorem ex21_3 : railE one21 ⟨1, 0, 0, [1, 0, 0, 0], 0⟩ 1 rns0 = (⟨4, 0, 0, [2, 0, 0, 0], 0⟩, ⟨1, 0, 0, false, false⟩) := by decide +kernel
theorem ex21_4 : readyE one21 ⟨4, 0, 0, [2, 0, 0, 0], 0⟩ = 0 := by decide +kernel
section
variable {P : Program} (hm : P.follows .mixedOrders = true) {f : Nat}
include hm
theorem lMay.ok (hc : cFn P f = some cc_law21_may) : lMay.Spec (Pure P) f := by
  intro a b
  refine pure_of hm hc (by show 2 ≤ 52; decide) (aw_flat (keep := []) (i := 0) ?_)
  try simp only [I, B, D, RX, ↓ KW, seval, cc_law21_may, Z.H]
  repeat' (((first | refine gd_split ?_ ?_ | refine cd_split ?_ ?_ | refine pk_split ?_ ?_) <;> intro h) <;> try simp only [I, B, D, RX, ↓ KW, seval, h])
  all_goals first | (simp_all [mayB, B]; done) | (simp_all [mayB, B]; grind)
theorem red19.ok (hc : cFn P f = some cc_ref19_red) : red19.Spec (Pure P) f := by
  intro r
  refine pure_of hm hc (by show 1 ≤ 16; decide) (aw_flat (keep := []) (i := 0) ?_)
  try simp only [I, B, D, RX, ↓ KW, seval, cc_ref19_red, Z.H, Rn.cells]
  repeat' (((first | refine gd_split ?_ ?_ | refine cd_split ?_ ?_ | refine pk_split ?_ ?_) <;> intro h) <;> try simp only [I, B, D, RX, ↓ KW, seval, Rn.cells, h])
  all_goals (try simp only [redR])
  all_goals (cases e1 : (r.colour != 1) <;> cases e2 : (r.colour != 2) <;> simp_all [B])
theorem reds19.ok {fR fW : Nat} (hc : cFn P f = some (cc_ref19_Reds fR fW)) (hR : red19.Spec (Pure P) fR) (hW : refWith.Spec (Pure P) fW) : reds19.Spec (Pure P) f := by
  intro l hl
  refine pure_of hm hc (by show 1 ≤ 17; decide) (aw_flat (keep := []) (i := 0) ?_)
  try simp only [I, B, D, RX, ↓ KW, seval, cc_ref19_Reds, Z.H]
  refine aw_loop' (fun k : Nat => (⟨[(4, .dat (I k) none), (1, .ptr 4 0), (3, .dat (I (redTo l k)) none)], [(4, ⟨runsC l, []⟩)], [], 400⟩ : S)) (fun k => 8 - k) (fun k => k ≤ 8) ?_ 0 (by omega) ?_
  · intro k hk A back
    have hw := wrap_succ (k := k) (by omega)
    try simp only [I, B, D, RX, ↓ KW, seval]
    refine cd_split (fun h => ?_) (fun h => ?_) <;> try simp only [I, B, D, RX, ↓ KW, seval, h]
    · have h8 : k < 8 := by have := of_decide_eq_true h; omega
      have hat := runs_at hl h8
      have hn : redTo l (k + 1) = if redR (rnAt l k) then withR (redTo l k) k else redTo l k := rfl
      have hat : partA (runsC l) (k * 12) (some 12) = some (.agg (rnAt l k).cells) := hat
      generalize rnAt l k = r at *
      refine ⟨by omega, ?_⟩
      try simp only [I, B, D, RX, ↓ KW, seval, hat]
      refine call_is (hR r) ?_
      try simp only [I, B, D, RX, ↓ KW, seval]
      cases h2 : redR r
      · try simp only [I, B, D, RX, ↓ KW, seval]
        refine back (k + 1) _ (by omega) (by omega) (le_tok2 (by decide) ?_ ?_ ?_ ?_) <;> simp [LX, I, B, D, hw, hn, h2]
      · try simp only [I, B, D, RX, ↓ KW, seval]
        refine call_is (hW _ _) ?_
        try simp only [I, B, D, RX, ↓ KW, seval]
        refine back (k + 1) _ (by omega) (by omega) (le_tok2 (by decide) ?_ ?_ ?_ ?_) <;> simp [LX, I, B, D, hw, hn, h2]
    · have : k = 8 := by have := of_decide_eq_false h; omega
      subst this
      have hf := redTo_mk l 8 (by omega)
      try simp only [I, B, D, RX, ↓ KW, seval]
      rw [hf]; rfl
  · refine le_tok2 (by decide) ?_ ?_ ?_ ?_ <;> simp [LX, I, B, D, redTo]
theorem lPre.ok {fP : Nat} (hc : cFn P f = some (cc_law00_Pre fP)) (hP : Place.Spec (Pure P) fP) : lPre.Spec (Pure P) f := by
  intro t s ht hs
  have e1 := Tb.len ht
  have e2 := Pr.len hs
  have e3 := Pr.whole hs
  have e4 := Tb.rails_at ht
  have c0 : s.cells[0]? = some (I s.stage) ∧ s.cells[1]? = some (I s.which) := ⟨rfl, rfl⟩
  have z8 : ∀ v : Pr, v.held.length = 4 → setCells [I 0, I 0, I 0, I 0, I 0, I 0, I 0, I 0] 0 v.cells = v.cells := fun v hv => set_all (by rw [Pr.len hv]; rfl)
  have z8' := z8 s hs
  have s0 : ∀ x, setCells s.cells 0 [I x] = ({ s with stage := x } : Pr).cells := fun x => rfl
  have hn : ((t.rails.getD []).length : Int) = (nRl t : Int) := rfl
  have pl6 := hP s.stage 6 (by decide)
  refine pure_of hm hc (by show 2 ≤ 30; decide) (aw_flat (keep := []) (i := 0) ?_)
  try simp only [I, B, D, RY, ↓ KW, seval, cc_law00_Pre, Z.H, e1, e2, e3, e4, c0, z8', s0, hn]
  refine call_is pl6 ?_
  try simp only [I, B, D, RY, ↓ KW, seval, e1, e2, e3, e4, c0, z8', s0, hn]
  obtain ⟨x, hx⟩ : ∃ x, place s.stage 6 = x := ⟨_, rfl⟩
  obtain ⟨u, hu⟩ : ∃ u : Pr, u = { s with stage := x } := ⟨_, rfl⟩
  have hul : u.held.length = 4 := by rw [hu]; exact hs
  have u1 : ∀ y, setCells ({ s with stage := x } : Pr).cells 0 [I y] = ({ s with stage := y } : Pr).cells := fun y => rfl
  have u2 : ({ s with stage := x } : Pr).cells[0]? = some (I x) ∧ ({ s with stage := x } : Pr).cells.length = 8 := ⟨rfl, by rw [Pr.len (s := { s with stage := x }) hs]⟩
  have u3 : ({ s with stage := 0 } : Pr).cells[0]? = some (I 0) ∧ ({ s with stage := 0 } : Pr).cells.length = 8 := ⟨rfl, by rw [Pr.len (s := { s with stage := 0 }) hs]⟩
  have v1 : ∀ y z, setCells ({ s with stage := y } : Pr).cells 1 [I z] = ({ s with stage := y, which := z } : Pr).cells := fun y z => rfl
  have v2 : ∀ y z x, setCells ({ s with stage := y, which := z } : Pr).cells 2 [I x] = ({ s with stage := y, which := z, time := x } : Pr).cells := fun y z x => rfl
  have v3 : ∀ y z, ({ s with stage := y, which := z } : Pr).cells.length = 8 := fun y z => by rw [Pr.len (s := { s with stage := y, which := z }) hs]
  have v4 : ∀ y z x, ({ s with stage := y, which := z, time := x } : Pr).cells.length = 8 := fun y z x => by rw [Pr.len (s := { s with stage := y, which := z, time := x }) hs]
  have v5 : ∀ y z x, partA ({ s with stage := y, which := z, time := x } : Pr).cells 0 (some 8) = some (.agg ({ s with stage := y, which := z, time := x } : Pr).cells) := fun y z x => Pr.whole (s := { s with stage := y, which := z, time := x }) hs
  have v6 : ∀ y z, partA ({ s with stage := y, which := z } : Pr).cells 0 (some 8) = some (.agg ({ s with stage := y, which := z } : Pr).cells) := fun y z => Pr.whole (s := { s with stage := y, which := z }) hs
  have w1 := fun y z x => z8 { s with stage := y, which := z, time := x } hs
  have w2 := fun y z => z8 { s with stage := y, which := z } hs
  cases h1 : ((nRl t : Int) == 0)
  · have hn0 : nRl t ≠ 0 := by intro e; rw [e] at h1; simp at h1
    cases h2 : (x == 0)
    · have hq : preE t s = { s with stage := x, which := place s.which (nRl t) } := by
        rw [preE, if_neg hn0, hx, if_neg (beq_eq_false_iff_ne.1 h2)]
      have pl := hP s.which (nRl t) (by omega)
      try simp only [I, B, D, RY, ↓ KW, seval, h1, h2, e1, e2, e3, e4, c0, z8', s0, hn, hx, u1, u2, u3, v1, v2, v3, v4, v5, v6, w1, w2]
      refine call_is pl ?_
      try simp only [I, B, D, RY, ↓ KW, seval, e1, e2, e3, e4, c0, z8', s0, hn, hx, u1, u2, u3, v1, v2, v3, v4, v5, v6, w1, w2]
      rw [hq]
    · have hq : preE t s = { s with stage := 0, which := 0, time := 0 } := by
        have : x = 0 := by simpa using h2
        rw [preE, if_neg hn0, hx, if_pos this]
      have hx0 : x = 0 := by simpa using h2
      try simp only [I, B, D, RY, ↓ KW, seval, h1, h2, e1, e2, e3, e4, c0, z8', s0, hn, hx, u1, u2, u3, v1, v2, v3, v4, v5, v6, w1, w2]
      rw [hq, hx0]
      try (intro _; rfl)
  · have hn0 : nRl t = 0 := by have := eq_of_beq h1; omega
    have hq : preE t s = { s with stage := 0, which := 0, time := 0 } := by
      rw [preE, if_pos hn0, if_pos rfl]
    try simp only [I, B, D, RY, ↓ KW, seval, h1, e1, e2, e3, e4, c0, z8', s0, hn, hx, u1, u2, u3, v1, v2, v3, v4, v5, v6, w1, w2]
    try rw [hq]
theorem lOne.ok {e1 e2 e3 : Nat} (hc : cFn P f = some (cc_law21_one e1 e2 e3)) : lOne.Spec (Pure P) f := by
  have h0 : (g9To 0).cells = z131_45020 := rfl
  have hl := (g9To_ln 2).len
  have hl2 := one21_ok.ln.len
  have hl3 := g9_ok.ln.len
  have hw := one21_ok.ln.whole
  have hz : setCells z131_45020 0 one21.cells = one21.cells := set_all (by rw [hl2]; rfl)
  have hzl : z131_45020.length = 131 := rfl
  have hg : setCells (g9To 2).cells 104 [AV.sl [[AV.sl [[AV.int IntKind.i64 0], [AV.int IntKind.i64 1]], AV.nils]]] = g9.cells := rfl
  have hg2 : ∀ r : Rl, setCells g9.cells 114 [AV.sl [r.cells]] = ({ g9 with rails := some [r] } : Tb).cells := fun r => rfl
  have hg3 : setCells g9.cells 114 [AV.sl [[AV.int .i64 2, AV.int .i64 0, AV.int .i64 1, AV.int .i64 2, AV.int .i64 0, AV.int .i64 1, AV.int .i64 0, AV.int .i64 0, AV.int .i64 1, AV.int .i64 0, AV.int .i64 9]]] = one21.cells := rfl
  show (Pure P).c f [] (.agg one21.cells) none
  refine pure_of hm hc (by show 0 ≤ 28; decide) (aw_flat (keep := []) (i := 0) ?_)
  try simp only [I, B, D, RY, ↓ KW, seval, cc_law21_one, Z.H]
  refine aw_loop' (fun k : Nat => (⟨[(2, .dat (I k) none), (1, .ptr 5 0), (0, .ptr 4 0)], [(5, ⟨(g9To k).cells, []⟩), (4, ⟨z131_45020, []⟩)], [], 400⟩ : S)) (fun k => 2 - k) (fun k => k ≤ 2) ?_ 0 (by omega) ?_
  · intro k hk A back
    have hwr := wrap_succ (k := k) (by omega)
    try simp only [I, B, D, RY, ↓ KW, seval]
    refine cd_split (fun h2 => ?_) (fun h2 => ?_) <;> try simp only [I, B, D, RY, ↓ KW, seval, h2]
    · have h3 : k < 2 := by have := of_decide_eq_true h2; omega
      have h01 : k = 0 ∨ k = 1 := by omega
      rcases h01 with rfl | rfl
      · try simp only [I, B, D, RY, ↓ KW, seval, z13_14216]
        repeat refine And.intro (by first | omega | decide +kernel | decide) ?_
        refine back 1 _ (by omega) (by omega) ?_
        refine le_tok2 (by decide) ?_ ?_ ?_ ?_ <;> simp [LX, I, B, D, hwr]
        all_goals rfl
      · try simp only [I, B, D, RY, ↓ KW, seval, z13_14216]
        repeat refine And.intro (by first | omega | decide +kernel | decide) ?_
        refine back 2 _ (by omega) (by omega) ?_
        refine le_tok2 (by decide) ?_ ?_ ?_ ?_ <;> simp [LX, I, B, D, hwr]
        all_goals rfl
    · have : k = 2 := by have := of_decide_eq_false h2; omega
      subst this
      try simp only [I, B, D, RY, ↓ KW, seval, z11_58867, hw, hz, hl, hl2, hl3, hzl, hg, hg3]
  · refine le_tok2 (by decide) ?_ ?_ ?_ ?_ <;> simp [LX, I, B, D, h0]
theorem awake21.ok {fO fS fR : Nat} (hc : cFn P f = some (cc_law21_awake fO fS fR)) (hO : lOne.Spec (Pure P) fO) (hS : pStep.Spec (Pure P) fS) (hR : pReady.Spec (Pure P) fR) : awake21.Spec (Pure P) f := by
  have wk : ∀ s : Pr, s.held.length = 4 → WyOk one21 s rns0 := fun s h => ⟨one21_ok, h, rfl⟩
  have c1 := hS one21 pr0 0 rns0 (wk _ rfl)
  have c2 := hS one21 ⟨0, 0, 0, [0, 0, 0, 0], 0⟩ 1 rns0 (wk _ rfl)
  have c3 := hS one21 ⟨1, 0, 0, [1, 0, 0, 0], 0⟩ 1 rns0 (wk _ rfl)
  have c4 := hR one21 ⟨4, 0, 0, [2, 0, 0, 0], 0⟩ one21_ok rfl
  rw [ex21_1] at c1
  rw [ex21_2] at c2
  rw [ex21_3] at c3
  rw [ex21_4] at c4
  have hl := one21_ok.ln.len
  have hw := one21_ok.ln.whole
  have hz : setCells z131_45020 0 one21.cells = one21.cells := set_all (by rw [hl]; rfl)
  have hzl : z131_45020.length = 131 := rfl
  have hr : runsC rns0 = z96_20145 := rfl
  have hr2 : partA z96_20145 0 (some 96) = some (.agg z96_20145) := rfl
  rw [hr] at c1 c2 c3
  simp only [pr0, Pr.cells, Ac.cells, List.map_cons, List.map_nil, List.cons_append, List.nil_append, I, B] at c1 c2 c3 c4
  show (Pure P).c f [] (B true) none
  have hs8 : ∀ a b c d e f g h : AV, setCells [AV.int .i64 0, AV.int .i64 0, AV.int .i64 0, AV.int .i64 0, AV.int .i64 0, AV.int .i64 0, AV.int .i64 0, AV.int .i64 0] 0 [a, b, c, d, e, f, g, h] = [a, b, c, d, e, f, g, h] := fun _ _ _ _ _ _ _ _ => rfl
  have hs5 : ∀ a b c d e : AV, setCells [AV.int .i64 0, AV.int .i64 0, AV.int .i64 0, AV.bool false, AV.bool false] 0 [a, b, c, d, e] = [a, b, c, d, e] := fun _ _ _ _ _ => rfl
  refine pure_of hm hc (by show 0 ≤ 59; decide) (aw_flat (keep := []) (i := 0) ?_)
  try simp only [I, B, D, RY, ↓ KW, seval, cc_law21_awake, Z.H, hl, hw, hz, hzl, hr2]
  refine call_is hO ?_
  try simp only [I, B, D, RY, ↓ KW, seval, hl, hw, hz, hzl, hr2]
  refine call_is c1 ?_
  try simp only [I, B, D, RY, ↓ KW, seval, hl, hw, hz, hzl, hr2, hs8, hs5]
  refine call_is c2 ?_
  try simp only [I, B, D, RY, ↓ KW, seval, hl, hw, hz, hzl, hr2, hs8, hs5]
  refine call_is c3 ?_
  try simp only [I, B, D, RY, ↓ KW, seval, hl, hw, hz, hzl, hr2, hs8, hs5]
  refine call_is c4 ?_
  try simp only [I, B, D, RY, ↓ KW, seval, hl, hw, hz, hzl, hr2, hs8, hs5]
end
end Go.Eng
namespace Go.Eng
set_option linter.unusedVariables false
set_option linter.unusedSimpArgs false
set_option linter.unnecessarySimpa false
open Go
set_option linter.unusedVariables false
set_option linter.unusedSimpArgs false
set_option maxRecDepth 10000
set_option maxHeartbeats 4000000
theorem does_flags (t : Tb) (s : Pr) (l : List Rn) {to : Int} (h : 0 ≤ to ∧ to < 6) : (doesE t s l to).free = (to == 0) ∧ (doesE t s l to).back = false := by
  have e : to = 0 ∨ to = 1 ∨ to = 2 ∨ to = 3 ∨ to = 4 ∨ to = 5 := by omega
  rcases e with rfl | rfl | rfl | rfl | rfl | rfl <;> exact ⟨rfl, rfl⟩
theorem time_turned (t : Tb) (s : Pr) (l : List Rn) : timeW t s l true = 0 := by simp [timeW]
theorem takes_spec {t : Tb} {s : Pr} (h : takesE t s = true) : 0 ≤ readyE t s ∧ (s.stage = 0 ∨ s.stage = 5 ∨ readyE t s < s.which) := by
  simp only [takesE, Bool.and_eq_true, Bool.or_eq_true, decide_eq_true_eq, beq_iff_eq] at h
  exact h
theorem rail_law (t : Tb) (x : Pr) (lines : Int) (l : List Rn) (hx : 0 ≤ x.stage ∧ x.stage < 6) :
    (railE t x lines l).2.free = ((railE t x lines l).1.stage == 0 && !(railE t x lines l).2.back) ∧
    (railE t x lines l).2.back = (x.stage == 5 && (railE t x lines l).1.stage == 0) ∧
    ((railE t x lines l).1.stage = 1 → (x.stage ≠ 1 ∨ (railE t x lines l).1.which ≠ x.which) → readyE t (railE t x lines l).1 = (railE t x lines l).1.which ∧ (railE t x lines l).1.time = 0 ∧ (x.stage = 0 ∨ x.stage = 5 ∨ x.stage = 4 ∨ (railE t x lines l).1.which < x.which)) ∧
    (¬ ((railE t x lines l).1.stage = 1 ∧ (x.stage ≠ 1 ∨ (railE t x lines l).1.which ≠ x.which)) → mayB x.stage (railE t x lines l).1.stage = true ∧ ((railE t x lines l).1.which = x.which ∨ (railE t x lines l).1.stage = 0) ∧ ((railE t x lines l).1.stage = x.stage ∨ (railE t x lines l).1.time = 0)) := by
  have hu : stgE (linesE t x lines) = linesE t x lines := if_neg (by show ¬ (x.stage < 0 ∨ 6 ≤ x.stage); omega)
  have e1 : (linesE t x lines).stage = x.stage := rfl
  have e2 : (linesE t x lines).which = x.which := rfl
  have hr : railE t x lines l = stepP t (linesE t x lines) l := by rw [railE, preL, hu]
  rw [hr]
  generalize linesE t x lines = u at *
  rw [← e1, ← e2]
  rw [← e1] at hx
  clear e1 e2 hr hu
  unfold stepP
  split
  · rename_i h
    obtain ⟨h1, h2⟩ := takes_spec h
    have hr1 : readyE t { u with stage := 1, which := readyE t u, time := 0 } = readyE t u := rfl
    refine ⟨rfl, ?_, fun _ _ => ⟨hr1, rfl, ?_⟩, fun hn => ?_⟩
    · show false = (_ && (1 : Int) == 0)
      rw [show ((1 : Int) == 0) = false from rfl, Bool.and_false]
    · show u.stage = 0 ∨ u.stage = 5 ∨ u.stage = 4 ∨ readyE t u < u.which
      omega
    · exfalso
      apply hn
      refine ⟨rfl, ?_⟩
      show u.stage ≠ 1 ∨ readyE t u ≠ u.which
      omega
  · split
    · rename_i h
      obtain ⟨h1, h2⟩ := h
      refine ⟨rfl, ?_, fun h => ?_, fun _ => ⟨?_, .inr rfl, .inr rfl⟩⟩
      · rw [h1]; rfl
      · exact absurd h (by show ¬ (0 : Int) = 1; decide)
      · rw [h1]; rfl
    · rename_i hn5
      have hrng := turns_rng t u l
      have hfl := does_flags t (goesE t (turnsE t u l).2 l (turnsE t u l).1 u.stage) l hrng
      have hst : (goesE t (turnsE t u l).2 l (turnsE t u l).1 u.stage).stage = (turnsE t u l).1 := rfl
      have hwh : (goesE t (turnsE t u l).2 l (turnsE t u l).1 u.stage).which = (turnsE t u l).2.which := rfl
      have htm : (turnsE t u l).1 ≠ u.stage → (goesE t (turnsE t u l).2 l (turnsE t u l).1 u.stage).time = 0 := fun h => by
        have : ((turnsE t u l).1 != u.stage) = true := by simpa using h
        show timeW t _ l ((turnsE t u l).1 != u.stage) = 0
        rw [this, time_turned]
      have hry : readyE t (goesE t (turnsE t u l).2 l (turnsE t u l).1 u.stage) = readyE t (turnsE t u l).2 := rfl
      simp only [hst, hwh, hry, hfl.1, hfl.2]
      -- what a stage turns to
      have hk : (turnsE t u l).2 = u ∧ mayB u.stage (turnsE t u l).1 = true ∧ ((turnsE t u l).1 = 1 → u.stage = 1) ∨ (u.stage = 4 ∧ (turnsE t u l).1 = 1 ∧ readyE t (turnsE t u l).2 = (turnsE t u l).2.which) ∨ (u.stage = 4 ∧ ((turnsE t u l).1 = 4 ∨ (turnsE t u l).1 = 5) ∧ (turnsE t u l).2.which = u.which) := by
        have e : u.stage = 0 ∨ u.stage = 1 ∨ u.stage = 2 ∨ u.stage = 3 ∨ u.stage = 4 ∨ u.stage = 5 := by omega
        rcases e with e | e | e | e | e | e
        · have : turnsE t u l = (0, u) := by simp [turnsE, e]
          rw [this, e]; exact .inl ⟨rfl, rfl, fun h => absurd (show (0 : Int) = 1 from h) (by decide)⟩
        · have : turnsE t u l = (entersW t u l, u) := by simp [turnsE, e]
          rw [this, e]; refine .inl ⟨rfl, ?_, fun _ => rfl⟩
          show mayB 1 (entersW t u l) = true
          unfold entersW; repeat' split
          all_goals rfl
        · have : turnsE t u l = (clearsW t u, u) := by simp [turnsE, e]
          rw [this, e]; refine .inl ⟨rfl, ?_, fun h => ?_⟩
          · show mayB 2 (clearsW t u) = true
            unfold clearsW; split <;> rfl
          · exfalso; revert h; show clearsW t u = 1 → False
            unfold clearsW; split <;> omega
        · have : turnsE t u l = (betweensW t u l, u) := by simp [turnsE, e]
          rw [this, e]; refine .inl ⟨rfl, ?_, fun h => ?_⟩
          · show mayB 3 (betweensW t u l) = true
            unfold betweensW; split <;> rfl
          · exfalso; revert h; show betweensW t u l = 1 → False
            unfold betweensW; split <;> omega
        · have : turnsE t u l = dwellsW t u := by simp [turnsE, e]
          rw [this, dwellsW]
          have hsw : (spentW t u).which = u.which := by unfold spentW; split <;> rfl
          split
          · exact .inr (.inr ⟨e, .inl rfl, rfl⟩)
          · split
            · exact .inr (.inl ⟨e, rfl, rfl⟩)
            · exact .inr (.inr ⟨e, .inr rfl, hsw⟩)
        · have : turnsE t u l = (leavesW t u l, u) := by simp [turnsE, e]
          rw [this, e]; refine .inl ⟨rfl, ?_, fun h => ?_⟩
          · show mayB 5 (leavesW t u l) = true
            unfold leavesW; split <;> rfl
          · exfalso; revert h; show leavesW t u l = 1 → False
            unfold leavesW; split <;> omega
      generalize hto : (turnsE t u l).1 = to at *
      generalize hw : (turnsE t u l).2 = w at *
      generalize hgo : (goesE t w l to u.stage).time = gt at *
      refine ⟨by simp, ?_, ?_, ?_⟩
      · symm; rw [Bool.eq_false_iff]; intro hh
        simp only [Bool.and_eq_true, beq_iff_eq] at hh
        exact hn5 hh
      · intro h1 h2
        rcases hk with ⟨rfl, _, h3⟩ | ⟨h3, h4, h5⟩ | ⟨h3, h4, h5⟩
        · exfalso; have := h3 h1; omega
        · exact ⟨h5, htm (by omega), by omega⟩
        · omega
      · intro hno
        rcases hk with ⟨rfl, h2, h3⟩ | ⟨h3, h4, h5⟩ | ⟨h3, h4, h5⟩
        · refine ⟨h2, .inl rfl, ?_⟩
          by_cases e : to = w.stage
          · exact .inl e
          · exact .inr (htm e)
        · exfalso; apply hno; exact ⟨h4, .inl (by omega)⟩
        · refine ⟨?_, .inl h5, ?_⟩
          · rw [h3]; rcases h4 with e | e <;> rw [e] <;> rfl
          · by_cases e : to = u.stage
            · exact .inl e
            · exact .inr (htm e)
theorem preE_ok {t : Tb} {s : Pr} (h : s.held.length = 4) : (preE t s).held.length = 4 := by
  by_cases e : (if nRl t = 0 then 0 else place s.stage 6) = 0
  · rw [preE, if_pos e]; exact h
  · rw [preE, if_neg e]; exact h
theorem preE_rng {t : Tb} {s : Pr} : 0 ≤ (preE t s).stage ∧ (preE t s).stage < 6 := by
  by_cases e : (if nRl t = 0 then 0 else place s.stage 6) = 0
  · rw [preE, if_pos e]; exact ⟨Int.le_refl 0, show (0 : Int) < 6 by decide⟩
  · rw [preE, if_neg e]; exact place_range (v := s.stage) (n := 6) (by decide) (by decide)
def railStages.Spec (C : Con) (f : Nat) : Prop := ∀ (l : Option (List Int)) (s : Pr) (lines : Int) (rs : List Rn), s.held.length = 4 → rs.length = 8 → C.c f [slAV intRow l, .agg s.cells, I lines, .agg (runsC rs)] (B true) none
section
variable {P : Program} (hm : P.follows .mixedOrders = true) {f : Nat}
include hm
theorem railStages.ok {fT fP fS fR fA fM : Nat} (hc : cFn P f = some (cc_law21_RailStages fT fP fS fR fA fM)) (hT : Table.Spec (Pure P) fT) (hP : lPre.Spec (Pure P) fP) (hS : pStep.Spec (Pure P) fS) (hR : pReady.Spec (Pure P) fR) (hA : awake21.Spec (Pure P) fA) (hM : lMay.Spec (Pure P) fM) : railStages.Spec (Pure P) f := by
  intro l s lines rs hs hrs
  have ok := tableOf_ok l
  have c0 := hT l
  generalize tableOf l = t at *
  have hx := preE_ok (t := t) hs
  have hxr := preE_rng (t := t) (s := s)
  have c1 := hP t s ok hs
  generalize preE t s = x at *
  have c2 := hS t x lines rs ⟨ok, hx, hrs⟩
  have hlaw := rail_law t x lines rs hxr
  have hal : (railE t x lines rs).1.held.length = 4 := by
    rw [railE, stepP]
    have h0 : (preL t x lines).held.length = 4 := by rw [preL, stgE]; split <;> rfl
    split
    · exact h0
    · split
      · exact turns_ok h0
      · exact turns_ok h0
  generalize (railE t x lines rs).1 = a at *
  generalize (railE t x lines rs).2 = act at *
  have c3 := hR t a ok hal
  have c4 := hM x.stage a.stage
  obtain ⟨l1, l2, l3, l4⟩ := hlaw
  have hw := ok.ln.whole
  have hl := ok.ln.len
  have hz : setCells z131_45020 0 t.cells = t.cells := set_all (by rw [hl]; rfl)
  have hzl : z131_45020.length = 131 := rfl
  have k8 : ∀ v : Pr, v.held.length = 4 → setCells [I 0, I 0, I 0, I 0, I 0, I 0, I 0, I 0] 0 v.cells = v.cells := fun v hv => set_all (by rw [Pr.len hv]; rfl)
  have kx := k8 x hx
  have ka := k8 a hal
  have x1 := Pr.len hx
  have x2 := Pr.whole hx
  have a1 := Pr.len hal
  have a2 := Pr.whole hal
  have s1 := Pr.len hs
  have s2 := Pr.whole hs
  have r1 := runsC_len hrs
  have r2 := runs_whole hrs
  have x3 : x.cells[0]? = some (I x.stage) ∧ x.cells[1]? = some (I x.which) := ⟨rfl, rfl⟩
  have a3 : a.cells[0]? = some (I a.stage) ∧ a.cells[1]? = some (I a.which) ∧ a.cells[2]? = some (I a.time) := ⟨rfl, rfl, rfl⟩
  have kA : act.cells.length = 5 ∧ setCells [I 0, I 0, I 0, B false, B false] 0 act.cells = act.cells ∧ act.cells[3]? = some (B act.free) ∧ act.cells[4]? = some (B act.back) := ⟨rfl, rfl, rfl, rfl⟩
  refine pure_of hm hc (by show 4 ≤ 137; decide) (aw_flat (keep := []) (i := 0) ?_)
  try simp only [I, B, D, RY, ↓ KW, seval, cc_law21_RailStages, Z.H, hw, hl, hz, hzl, kx, ka, x1, x2, x3, a1, a2, a3, s1, s2, r1, r2, kA]
  refine call_is c0 ?_
  try simp only [I, B, D, RY, ↓ KW, seval, hw, hl, hz, hzl, kx, ka, x1, x2, x3, a1, a2, a3, s1, s2, r1, r2, kA]
  refine call_is c1 ?_
  try simp only [I, B, D, RY, ↓ KW, seval, hw, hl, hz, hzl, kx, ka, x1, x2, x3, a1, a2, a3, s1, s2, r1, r2, kA]
  refine call_is c2 ?_
  try simp only [I, B, D, RY, ↓ KW, seval, hw, hl, hz, hzl, kx, ka, x1, x2, x3, a1, a2, a3, s1, s2, r1, r2, kA]
  have q0 : (true != true) = false ∧ (false != false) = false := ⟨rfl, rfl⟩
  cases d1 : (a.stage == 0) <;> cases d2 : (x.stage == 5)
  all_goals
    rw [d1, d2] at l2
    simp only [Bool.and_self, Bool.and_false, Bool.false_and, Bool.true_and, Bool.and_true] at l2
    rw [d1, l2] at l1
    simp only [Bool.and_self, Bool.and_false, Bool.false_and, Bool.true_and, Bool.and_true, Bool.not_true, Bool.not_false] at l1
    try simp only [I, B, D, RY, ↓ KW, seval, d1, d2, l1, l2, q0, hw, hl, hz, hzl, kx, ka, x1, x2, x3, a1, a2, a3, s1, s2, r1, r2, kA]
    try try simp only [I, B, D, RY, ↓ KW, seval, d1, d2, l1, l2, q0, hw, hl, hz, hzl, kx, ka, x1, x2, x3, a1, a2, a3, s1, s2, r1, r2, kA]
    cases d3 : (a.stage == 1)
    · have h4 := l4 (by rintro ⟨e, _⟩; rw [e] at d3; simp at d3)
      try simp only [I, B, D, RY, ↓ KW, seval, d3, hw, hl, hz, hzl, kx, ka, x1, x2, x3, a1, a2, a3, s1, s2, r1, r2, kA]
      refine call_is c4 ?_
      obtain ⟨h5, h6, h7⟩ := h4
      rw [h5]
      try simp only [I, B, D, RY, ↓ KW, seval, hw, hl, hz, hzl, kx, ka, x1, x2, x3, a1, a2, a3, s1, s2, r1, r2, kA]
      cases d6 : (a.which == x.which)
      · have d7 : (a.stage == 0) = true := by
          rcases h6 with e | e
          · rw [e] at d6; simp at d6
          · rw [e]; rfl
        try simp only [I, B, D, RY, ↓ KW, seval, d6, d7, hw, hl, hz, hzl, kx, ka, x1, x2, x3, a1, a2, a3, s1, s2, r1, r2, kA]
        cases d8 : (a.stage == x.stage)
        · have d9 : (a.time == 0) = true := by
            rcases h7 with e | e
            · rw [e] at d8; simp at d8
            · rw [e]; rfl
          try simp only [I, B, D, RY, ↓ KW, seval, d8, d9, hw, hl, hz, hzl, kx, ka, x1, x2, x3, a1, a2, a3, s1, s2, r1, r2, kA]
          refine call_is hA ?_
          try simp only [I, B, D, RY, ↓ KW, seval, hw, hl, hz, hzl, kx, ka, x1, x2, x3, a1, a2, a3, s1, s2, r1, r2, kA]
        · try simp only [I, B, D, RY, ↓ KW, seval, d8, hw, hl, hz, hzl, kx, ka, x1, x2, x3, a1, a2, a3, s1, s2, r1, r2, kA]
          refine call_is hA ?_
          try simp only [I, B, D, RY, ↓ KW, seval, hw, hl, hz, hzl, kx, ka, x1, x2, x3, a1, a2, a3, s1, s2, r1, r2, kA]
      · try simp only [I, B, D, RY, ↓ KW, seval, d6, hw, hl, hz, hzl, kx, ka, x1, x2, x3, a1, a2, a3, s1, s2, r1, r2, kA]
        cases d8 : (a.stage == x.stage)
        · have d9 : (a.time == 0) = true := by
            rcases h7 with e | e
            · rw [e] at d8; simp at d8
            · rw [e]; rfl
          try simp only [I, B, D, RY, ↓ KW, seval, d8, d9, hw, hl, hz, hzl, kx, ka, x1, x2, x3, a1, a2, a3, s1, s2, r1, r2, kA]
          refine call_is hA ?_
          try simp only [I, B, D, RY, ↓ KW, seval, hw, hl, hz, hzl, kx, ka, x1, x2, x3, a1, a2, a3, s1, s2, r1, r2, kA]
        · try simp only [I, B, D, RY, ↓ KW, seval, d8, hw, hl, hz, hzl, kx, ka, x1, x2, x3, a1, a2, a3, s1, s2, r1, r2, kA]
          refine call_is hA ?_
          try simp only [I, B, D, RY, ↓ KW, seval, hw, hl, hz, hzl, kx, ka, x1, x2, x3, a1, a2, a3, s1, s2, r1, r2, kA]
    · try simp only [I, B, D, RY, ↓ KW, seval, d3, hw, hl, hz, hzl, kx, ka, x1, x2, x3, a1, a2, a3, s1, s2, r1, r2, kA]
      cases d4 : (x.stage != 1)
      · try simp only [I, B, D, RY, ↓ KW, seval, d4, hw, hl, hz, hzl, kx, ka, x1, x2, x3, a1, a2, a3, s1, s2, r1, r2, kA]
        cases d5 : (a.which != x.which)
        · have h4 := l4 (by rintro ⟨_, e⟩; simp at d4 d5; omega)
          try simp only [I, B, D, RY, ↓ KW, seval, d5, hw, hl, hz, hzl, kx, ka, x1, x2, x3, a1, a2, a3, s1, s2, r1, r2, kA]
          refine call_is c4 ?_
          obtain ⟨h5, h6, h7⟩ := h4
          rw [h5]
          try simp only [I, B, D, RY, ↓ KW, seval, hw, hl, hz, hzl, kx, ka, x1, x2, x3, a1, a2, a3, s1, s2, r1, r2, kA]
          cases d6 : (a.which == x.which)
          · have d7 : (a.stage == 0) = true := by
              rcases h6 with e | e
              · rw [e] at d6; simp at d6
              · rw [e]; rfl
            try simp only [I, B, D, RY, ↓ KW, seval, d6, d7, hw, hl, hz, hzl, kx, ka, x1, x2, x3, a1, a2, a3, s1, s2, r1, r2, kA]
            cases d8 : (a.stage == x.stage)
            · have d9 : (a.time == 0) = true := by
                rcases h7 with e | e
                · rw [e] at d8; simp at d8
                · rw [e]; rfl
              try simp only [I, B, D, RY, ↓ KW, seval, d8, d9, hw, hl, hz, hzl, kx, ka, x1, x2, x3, a1, a2, a3, s1, s2, r1, r2, kA]
              refine call_is hA ?_
              try simp only [I, B, D, RY, ↓ KW, seval, hw, hl, hz, hzl, kx, ka, x1, x2, x3, a1, a2, a3, s1, s2, r1, r2, kA]
            · try simp only [I, B, D, RY, ↓ KW, seval, d8, hw, hl, hz, hzl, kx, ka, x1, x2, x3, a1, a2, a3, s1, s2, r1, r2, kA]
              refine call_is hA ?_
              try simp only [I, B, D, RY, ↓ KW, seval, hw, hl, hz, hzl, kx, ka, x1, x2, x3, a1, a2, a3, s1, s2, r1, r2, kA]
          · try simp only [I, B, D, RY, ↓ KW, seval, d6, hw, hl, hz, hzl, kx, ka, x1, x2, x3, a1, a2, a3, s1, s2, r1, r2, kA]
            cases d8 : (a.stage == x.stage)
            · have d9 : (a.time == 0) = true := by
                rcases h7 with e | e
                · rw [e] at d8; simp at d8
                · rw [e]; rfl
              try simp only [I, B, D, RY, ↓ KW, seval, d8, d9, hw, hl, hz, hzl, kx, ka, x1, x2, x3, a1, a2, a3, s1, s2, r1, r2, kA]
              refine call_is hA ?_
              try simp only [I, B, D, RY, ↓ KW, seval, hw, hl, hz, hzl, kx, ka, x1, x2, x3, a1, a2, a3, s1, s2, r1, r2, kA]
            · try simp only [I, B, D, RY, ↓ KW, seval, d8, hw, hl, hz, hzl, kx, ka, x1, x2, x3, a1, a2, a3, s1, s2, r1, r2, kA]
              refine call_is hA ?_
              try simp only [I, B, D, RY, ↓ KW, seval, hw, hl, hz, hzl, kx, ka, x1, x2, x3, a1, a2, a3, s1, s2, r1, r2, kA]
        · try simp only [I, B, D, RY, ↓ KW, seval, d5, hw, hl, hz, hzl, kx, ka, x1, x2, x3, a1, a2, a3, s1, s2, r1, r2, kA]
          have h5 := l3 (by simpa using d3) (.inr (by simpa using d5))
          obtain ⟨h6, h7, h8⟩ := h5
          have h9 : (readyE t a == a.which) = true := by rw [h6]; simp
          have h10 : (a.time == 0) = true := by rw [h7]; rfl
          refine call_is c3 ?_
          try simp only [I, B, D, RY, ↓ KW, seval, hw, hl, hz, hzl, kx, ka, x1, x2, x3, a1, a2, a3, s1, s2, r1, r2, kA]
          cases g1 : (x.stage == 0)
          · cases g2 : (x.stage == 5)
            · cases g3 : (x.stage == 4)
              · have g4 : decide (a.which < x.which) = true := by
                  simp only [decide_eq_true_eq]
                  have := beq_eq_false_iff_ne.1 g1; have := beq_eq_false_iff_ne.1 g2; have := beq_eq_false_iff_ne.1 g3
                  omega
                try simp only [I, B, D, RY, ↓ KW, seval, g1, g2, g3, g4, h9, h10, hw, hl, hz, hzl, kx, ka, x1, x2, x3, a1, a2, a3, s1, s2, r1, r2, kA]
                refine call_is hA ?_
                try simp only [I, B, D, RY, ↓ KW, seval, hw, hl, hz, hzl, kx, ka, x1, x2, x3, a1, a2, a3, s1, s2, r1, r2, kA]
              · try simp only [I, B, D, RY, ↓ KW, seval, g1, g2, g3, h9, h10, hw, hl, hz, hzl, kx, ka, x1, x2, x3, a1, a2, a3, s1, s2, r1, r2, kA]
                refine call_is hA ?_
                try simp only [I, B, D, RY, ↓ KW, seval, hw, hl, hz, hzl, kx, ka, x1, x2, x3, a1, a2, a3, s1, s2, r1, r2, kA]
            · try simp only [I, B, D, RY, ↓ KW, seval, g1, g2, h9, h10, hw, hl, hz, hzl, kx, ka, x1, x2, x3, a1, a2, a3, s1, s2, r1, r2, kA]
              refine call_is hA ?_
              try simp only [I, B, D, RY, ↓ KW, seval, hw, hl, hz, hzl, kx, ka, x1, x2, x3, a1, a2, a3, s1, s2, r1, r2, kA]
          · try simp only [I, B, D, RY, ↓ KW, seval, g1, h9, h10, hw, hl, hz, hzl, kx, ka, x1, x2, x3, a1, a2, a3, s1, s2, r1, r2, kA]
            refine call_is hA ?_
            try simp only [I, B, D, RY, ↓ KW, seval, hw, hl, hz, hzl, kx, ka, x1, x2, x3, a1, a2, a3, s1, s2, r1, r2, kA]
      · try simp only [I, B, D, RY, ↓ KW, seval, d4, hw, hl, hz, hzl, kx, ka, x1, x2, x3, a1, a2, a3, s1, s2, r1, r2, kA]
        have h5 := l3 (by simpa using d3) (.inl (by simpa using d4))
        obtain ⟨h6, h7, h8⟩ := h5
        have h9 : (readyE t a == a.which) = true := by rw [h6]; simp
        have h10 : (a.time == 0) = true := by rw [h7]; rfl
        refine call_is c3 ?_
        try simp only [I, B, D, RY, ↓ KW, seval, hw, hl, hz, hzl, kx, ka, x1, x2, x3, a1, a2, a3, s1, s2, r1, r2, kA]
        cases g1 : (x.stage == 0)
        · cases g2 : (x.stage == 5)
          · cases g3 : (x.stage == 4)
            · have g4 : decide (a.which < x.which) = true := by
                simp only [decide_eq_true_eq]
                have := beq_eq_false_iff_ne.1 g1; have := beq_eq_false_iff_ne.1 g2; have := beq_eq_false_iff_ne.1 g3
                omega
              try simp only [I, B, D, RY, ↓ KW, seval, g1, g2, g3, g4, h9, h10, hw, hl, hz, hzl, kx, ka, x1, x2, x3, a1, a2, a3, s1, s2, r1, r2, kA]
              refine call_is hA ?_
              try simp only [I, B, D, RY, ↓ KW, seval, hw, hl, hz, hzl, kx, ka, x1, x2, x3, a1, a2, a3, s1, s2, r1, r2, kA]
            · try simp only [I, B, D, RY, ↓ KW, seval, g1, g2, g3, h9, h10, hw, hl, hz, hzl, kx, ka, x1, x2, x3, a1, a2, a3, s1, s2, r1, r2, kA]
              refine call_is hA ?_
              try simp only [I, B, D, RY, ↓ KW, seval, hw, hl, hz, hzl, kx, ka, x1, x2, x3, a1, a2, a3, s1, s2, r1, r2, kA]
          · try simp only [I, B, D, RY, ↓ KW, seval, g1, g2, h9, h10, hw, hl, hz, hzl, kx, ka, x1, x2, x3, a1, a2, a3, s1, s2, r1, r2, kA]
            refine call_is hA ?_
            try simp only [I, B, D, RY, ↓ KW, seval, hw, hl, hz, hzl, kx, ka, x1, x2, x3, a1, a2, a3, s1, s2, r1, r2, kA]
        · try simp only [I, B, D, RY, ↓ KW, seval, g1, h9, h10, hw, hl, hz, hzl, kx, ka, x1, x2, x3, a1, a2, a3, s1, s2, r1, r2, kA]
          refine call_is hA ?_
          try simp only [I, B, D, RY, ↓ KW, seval, hw, hl, hz, hzl, kx, ka, x1, x2, x3, a1, a2, a3, s1, s2, r1, r2, kA]
end
end Go.Eng
namespace Go.Eng
set_option linter.unusedVariables false
set_option linter.unusedSimpArgs false
set_option linter.unnecessarySimpa false
open Go
set_option linter.unusedVariables false
set_option linter.unusedSimpArgs false
set_option maxRecDepth 10000
set_option maxHeartbeats 4000000
def cntTo (h : Nat → Int) (lines : Int) (N r : Nat) : List Int := (List.range 4).map fun k => if r ≤ k && k < N then (if tb lines k then h k + 1 else 0) else h k
def rdyL (t : Tb) (h : Nat → Int) (r m : Nat) : Int := match (List.range' r m).find? (fun k => decide (h k > (rlN t k).delay)) with
  | some k => k
  | none => -1
def stkL (t : Tb) (h : Nat → Int) (r m : Nat) : Bool := (List.range' r m).any fun k => decide (h k > (rlN t k).limit)
theorem rdyL_step (t : Tb) (h : Nat → Int) (r m : Nat) : rdyL t h r (m + 1) = if decide (h r > (rlN t r).delay) = true then (r : Int) else rdyL t h (r + 1) m := by
  simp only [rdyL, List.range'_succ, List.find?_cons]
  cases decide (h r > (rlN t r).delay) <;> rfl
theorem stkL_step (t : Tb) (h : Nat → Int) (r m : Nat) : stkL t h r (m + 1) = (decide (h r > (rlN t r).limit) || stkL t h (r + 1) m) := by
  simp only [stkL, List.range'_succ, List.any_cons]
def nextC (h : Nat → Int) (lines : Int) (N k : Nat) : Int := if k < N && tb lines k then h k + 1 else 0
theorem cntTo_all {h : Nat → Int} {lines : Int} {N : Nat} (h0 : ∀ k, N ≤ k → h k = 0) : cntTo h lines N 0 = (List.range 4).map (nextC h lines N) := by
  apply List.map_congr_left
  intro k _
  unfold nextC
  by_cases hk : k < N
  · simp [hk]
  · simp [hk, h0 k (by omega)]
theorem cntTo_none (h : Nat → Int) (lines : Int) (N : Nat) : cntTo h lines N N = (List.range 4).map h := by
  apply List.map_congr_left
  intro k _
  have : ¬ (N ≤ k ∧ k < N) := by omega
  by_cases h1 : N ≤ k <;> by_cases h2 : k < N <;> simp [h1, h2]
  omega
theorem cntTo_at {h : Nat → Int} {lines : Int} {N r k : Nat} (hk : k < 4) (hr : k < r) : (cntTo h lines N r)[k]? = some (h k) := by
  simp only [cntTo, List.getElem?_map, List.getElem?_range hk, Option.map_some]
  have : ¬ (r ≤ k) := by omega
  simp [this]
theorem cntTo_set {h : Nat → Int} {lines : Int} {N r : Nat} (hr : r < 4) (hN : r < N) (x : Int) (hx : x = if tb lines r then h r + 1 else 0) : setCells ((cntTo h lines N (r + 1)).map I) r [I x] = (cntTo h lines N r).map I := by
  subst hx
  have e : r = 0 ∨ r = 1 ∨ r = 2 ∨ r = 3 := by omega
  rcases e with rfl | rfl | rfl | rfl <;> simp [cntTo, setCells, List.range_succ, hN] <;> simp_all <;> (try omega)
def railCounts.Spec (C : Con) (f : Nat) : Prop := ∀ (l lines : Option (List Int)), C.c f [slAV intRow l, slAV intRow lines] (B true) none
def prC (h : Nat → Int) : Pr := ⟨0, 0, 0, (List.range 4).map h, 0⟩
theorem prC_held (h : Nat → Int) : (prC h).held.length = 4 := by simp [prC]
theorem prC_at (h : Nat → Int) {k : Nat} (hk : k < 4) : heldAt (prC h) k = h k := by
  have e : k = 0 ∨ k = 1 ∨ k = 2 ∨ k = 3 := by omega
  rcases e with rfl | rfl | rfl | rfl <;> rfl
theorem and_0 (x : Int) : bAnd .i64 0 x = 0 := by rw [and_zero]; intro i _; rw [tb_zero]; rfl
theorem lines_prC {t : Tb} {h : Nat → Int} {v : Int} (hh : ∀ k, 0 ≤ h k ∧ h k ≤ 200) : linesE t (prC h) v = prC (nextC h v (nR t)) := by
  have e : heldTo t (prC h) v (nR t) = (List.range 4).map (nextC h v (nR t)) := by
    apply List.map_congr_left
    intro k hk
    have h4 : k < 4 := List.mem_range.1 hk
    have := hh k
    have hc : held1 (prC h) k = h k + 1 := by
      rw [held1, prC_at h h4]; unfold cutI; split
      · omega
      · split
        · omega
        · rfl
    rw [hc]; rfl
  show (⟨0, 0, 0, heldTo t (prC h) v (nR t), bAnd .i64 0 (actTo t v (nR t))⟩ : Pr) = prC _
  rw [e, and_0]; rfl
theorem ready_prC {t : Tb} {h : Nat → Int} : readyE t (prC h) = rdyL t h 0 (nR t) := by
  have h4 : nR t ≤ 4 := by unfold nR; omega
  have e : (List.range (nR t)).find? (askR t (prC h)) = (List.range (nR t)).find? (fun k => decide (h k > (rlN t k).delay)) := by
    have : ∀ l : List Nat, (∀ k ∈ l, k < 4) → l.find? (askR t (prC h)) = l.find? (fun k => decide (h k > (rlN t k).delay)) := by
      intro l
      induction l with
      | nil => intro _; rfl
      | cons k l ih =>
        intro hl
        have hk := prC_at h (hl k (by simp))
        have : askR t (prC h) k = decide (h k > (rlN t k).delay) := by
          rw [askR, hk, show (prC h).spent = 0 from rfl, tb_zero]; simp
        rw [List.find?_cons, List.find?_cons, this, ih fun x hx => hl x (by simp [hx])]
    exact this _ fun k hk => by have := List.mem_range.1 hk; omega
  rw [readyE, e, rdyL, List.range_eq_range']
  all_goals rfl
theorem stuck_prC {t : Tb} {h : Nat → Int} : stuckE t (prC h) = stkL t h 0 (nR t) := by
  have h4 : nR t ≤ 4 := by unfold nR; omega
  rw [stuckE, stkL, ← List.range_eq_range']
  rw [Bool.eq_iff_iff, List.any_eq_true, List.any_eq_true]
  constructor
  · rintro ⟨k, hk, hs⟩
    exact ⟨k, hk, by rw [stuckR, prC_at h (by have := List.mem_range.1 hk; omega)] at hs; exact hs⟩
  · rintro ⟨k, hk, hs⟩
    exact ⟨k, hk, by rw [stuckR, prC_at h (by have := List.mem_range.1 hk; omega)]; exact hs⟩
theorem eq4 (h : Nat → Int) : cellsEq [.i, .i, .i, .i] (((List.range 4).map h).map I) (((List.range 4).map h).map I) = some true := by
  simp [List.range_succ, cellsEq, cellEq]
section
variable {P : Program} (hm : P.follows .mixedOrders = true) {f : Nat}
include hm
theorem railCounts.ok {fT fA fL fR fS : Nat} (hc : cFn P f = some (cc_law21_RailCounts fT fA fL fR fS)) (hT : Table.Spec (Pure P) fT) (hA : awake21.Spec (Pure P) fA) (hL : pLines.Spec (Pure P) fL) (hR : pReady.Spec (Pure P) fR) (hS : pStuck.Spec (Pure P) fS) : railCounts.Spec (Pure P) f := by
  intro l lines
  have ok := tableOf_ok l
  have c0 := hT l
  have hr2 := (tRails l).1
  generalize tableOf l = t at *
  obtain ⟨N, hN⟩ : ∃ N, N = (t.rails.getD []).length := ⟨_, rfl⟩
  have hN4 : N ≤ 4 := by omega
  have hnR : nR t = N := by unfold nR; omega
  have hw := ok.ln.whole
  have hl := ok.ln.len
  have hg := Tb.rails_at ok
  have hz : setCells z131_45020 0 t.cells = t.cells := set_all (by rw [hl]; rfl)
  have hzl : z131_45020.length = 131 := rfl
  have hNn : ((t.rails.getD []).length : Int) = (N : Int) := by rw [hN]
  have hwN : IntKind.i64.wrap ((N : Int) - 1) = (N : Int) - 1 := wrap_id (by omega) (by omega)
  refine pure_of hm hc (by show 2 ≤ 103; decide) (aw_flat (keep := []) (i := 0) ?_)
  try simp only [I, B, D, RY, ↓ KW, seval, cc_law21_RailCounts, Z.H, hw, hl, hg, hz, hzl, hNn, hwN]
  refine call_is c0 ?_
  try simp only [I, B, D, RY, ↓ KW, seval, hw, hl, hg, hz, hzl, hNn, hwN]
  cases hlen : decide (((lines.getD []).length : Int) > 200)
  rotate_left
  · try simp only [I, B, D, RY, ↓ KW, seval, hlen]
    refine call_is hA ?_
    try simp only [I, B, D, RY, ↓ KW, seval]
  have hle : (lines.getD []).length ≤ 200 := by have := of_decide_eq_false hlen; omega
  try simp only [I, B, D, RY, ↓ KW, seval, hlen, hw, hl, hg, hz, hzl, hNn, hwN]
  refine aw_loop' (fun y : Nat × (Nat → Int) => (⟨[(8, .dat (I (y.1 : Nat)) none), (1, .dat (slAV intRow lines) none), (5, .ptr 7 0), (6, .ptr 12 0), (7, .ptr 13 0)], [(7, ⟨t.cells, []⟩), (12, ⟨(prC y.2).cells, []⟩), (13, ⟨((List.range 4).map y.2).map I, []⟩)], [], 400⟩ : S)) (fun y => (lines.getD []).length - y.1) (fun y => y.1 ≤ (lines.getD []).length ∧ (∀ k, 0 ≤ y.2 k ∧ y.2 k ≤ y.1) ∧ ∀ k, N ≤ k → y.2 k = 0) ?_ (0, fun _ => 0) ⟨by simp, by simp, by simp⟩ ?_
  rotate_left
  · refine le_tok2 (by decide) ?_ ?_ ?_ ?_ <;> simp [LX, I, B, D, prC, Pr.cells, List.range_succ]
  rintro ⟨i, h⟩ ⟨hi, hh, hz0⟩ A back
  simp only at hi hh hz0
  have hwr := wrap_succ (k := i) (by omega)
  have p1 := Pr.len (prC_held h)
  have p2 := Pr.whole (prC_held h)
  try simp only [I, B, D, RY, ↓ KW, seval, hw, hl, hg, hz, hzl, hNn, hwN]
  cases hlt : decide ((i : Int) < ((lines.getD []).length : Int))
  · try simp only [I, B, D, RY, ↓ KW, seval, hlt]
    refine call_is hA ?_
    try simp only [I, B, D, RY, ↓ KW, seval]
  have hi2 : i < (lines.getD []).length := by have := of_decide_eq_true hlt; omega
  obtain ⟨v, hv⟩ : ∃ x, (lines.getD [])[i]? = some x := ⟨_, List.getElem?_eq_getElem hi2⟩
  have hl1 := lines_prC (t := t) (h := h) (v := v) fun k => by have := hh k; omega
  rw [hnR] at hl1
  have c1 := hL t (prC h) v ok (prC_held h)
  rw [hl1] at c1
  obtain ⟨h', hh'⟩ : ∃ g, g = nextC h v N := ⟨_, rfl⟩
  rw [← hh'] at c1
  have q1 := Pr.len (prC_held h')
  have q2 := Pr.whole (prC_held h')
  have q3 : setCells (prC h).cells 0 (prC h').cells = (prC h').cells := set_all (by rw [p1, q1])
  have c2 := hR t (prC h') ok (prC_held h')
  have c3 := hS t (prC h') ok (prC_held h')
  rw [ready_prC, hnR] at c2
  rw [stuck_prC, hnR] at c3
  have q4 : partA (prC h').cells 3 (some 4) = some (.agg (((List.range 4).map h').map I)) := rfl
  have q5 : (prC h').cells[7]? = some (I 0) := rfl
  have q6 := eq4 h'
  have q7 : partA (((List.range 4).map h').map I) 0 (some 4) = some (.agg (((List.range 4).map h').map I)) := rfl
  try simp only [I, B, D, RY, ↓ KW, seval, hlt, hw, hl, hg, hz, hzl, hNn, hwN, p1, p2, q1, q2, q3, q4, q5, q6, q7, hv, intRow]
  refine ⟨by omega, ?_⟩
  try simp only [I, B, D, RY, ↓ KW, seval, hw, hl, hg, hz, hzl, hNn, hwN, p1, p2, q1, q2, q3, q4, q5, q6, q7, hv, intRow]
  refine call_is c1 ?_
  try simp only [I, B, D, RY, ↓ KW, seval, hw, hl, hg, hz, hzl, hNn, hwN, p1, p2, q1, q2, q3, q4, q5, q6, q7]
  have hcn := cntTo_none h v N
  refine aw_loop' (fun r : Nat => (⟨[(11, .dat (I (r - 1)) none), (7, .ptr 13 0), (1, .dat (slAV intRow lines) none), (8, .dat (I i) none), (5, .ptr 7 0), (10, .dat (B (stkL t h' r (N - r))) none), (6, .ptr 12 0), (9, .dat (I (rdyL t h' r (N - r))) none)], [(13, ⟨(cntTo h v N r).map I, []⟩), (12, ⟨(prC h').cells, []⟩), (7, ⟨t.cells, []⟩)], [], 400⟩ : S)) (fun r => r) (fun r => r ≤ N) ?_ N (Nat.le_refl _) ?_
  rotate_left
  · have e1 : stkL t h' N 0 = false := rfl
    have e2 : rdyL t h' N 0 = -1 := rfl
    refine le_tok2 (by decide) ?_ ?_ ?_ ?_ <;> simp [LX, I, B, D, hcn, e1, e2]
  intro r hr A2 back2
  rcases Nat.eq_zero_or_pos r with hr0 | hr0
  · subst hr0
    have hca := cntTo_all (lines := v) hz0
    rw [← hh'] at hca
    have e0 : decide ((((0 : Nat) : Int) - 1) ≥ 0) = false := by decide
    try simp only [I, B, D, RY, ↓ KW, seval]
    rw [hca]
    generalize rdyL t h' 0 N = rd at *
    generalize stkL t h' 0 N = st at *
    have f1 : (rd != rd) = false := by simp
    have f2 : (st != st) = false := by simp
    try simp only [I, B, D, RY, ↓ KW, seval, hw, hl, hg, hz, hzl, hNn, hwN, p1, p2, q1, q2, q3, q4, q5, q6, q7, f1, f2, BNW]
    refine call_is c2 ?_
    try simp only [I, B, D, RY, ↓ KW, seval, hw, hl, hg, hz, hzl, hNn, hwN, p1, p2, q1, q2, q3, q4, q5, q6, q7, f1, f2, BNW]
    refine call_is c3 ?_
    try simp only [I, B, D, RY, ↓ KW, seval, hw, hl, hg, hz, hzl, hNn, hwN, p1, p2, q1, q2, q3, q4, q5, q6, q7, f1, f2, BNW]
    refine back (i + 1, h') _ ⟨by simp only; omega, fun k => ?_, fun k hk => ?_⟩ (by simp only; omega) ?_
    · have := hh k
      simp only [hh', nextC]
      split <;> omega
    · simp only [hh', nextC]
      have : ¬ k < N := by omega
      simp [this]
    · refine le_tok2 (by decide) ?_ ?_ ?_ ?_ <;> simp [LX, I, B, D, hwr]
  · obtain ⟨j, rfl⟩ : ∃ j, r = j + 1 := ⟨r - 1, by omega⟩
    have hj : (((j + 1 : Nat) : Int) - 1) = (j : Int) := by omega
    have h4 : j < 4 := by omega
    have hy : 0 ≤ (j : Int) ∧ (j : Int) < 4 := by omega
    have hjm : min j IntKind.i64.bits = j := by have := w64_min h4; simpa using this
    have hju : IntKind.u64.wrap (j : Int) = (j : Int) := by
      have e : j = 0 ∨ j = 1 ∨ j = 2 ∨ j = 3 := by omega
      rcases e with rfl | rfl | rfl | rfl <;> rfl
    have hb := shr_bit (s := v) h4
    have ha := cntTo_at (h := h) (lines := v) (N := N) h4 (Nat.lt_succ_self j)
    have hbd := hh j
    have hw1 : IntKind.i64.wrap (h j + 1) = h j + 1 := wrap_id (by omega) (by omega)
    have hw2 : IntKind.i64.wrap ((j : Int) - 1) = (j : Int) - 1 := wrap_id (by omega) (by omega)
    have hset := fun x hx => cntTo_set (h := h) (lines := v) (N := N) (r := j) h4 (by omega) x hx
    have hln : ∀ r, ((cntTo h v N r).map I).length = 4 := fun r => rfl
    have hrl : (t.rails.getD [])[j]? = some (rlN t j) := by
      have : j < (t.rails.getD []).length := by omega
      simp [rlN, this]
    have hjN : (j : Int) < (N : Int) := by omega
    have hn1 : N - j = (N - (j + 1)) + 1 := by omega
    have hrs := rdyL_step t h' j (N - (j + 1))
    have hss := stkL_step t h' j (N - (j + 1))
    rw [← hn1] at hrs hss
    have hd0 : decide ((j : Int) ≥ 0) = true := by simp
    have hcell : ∀ r : Rl, r.cells[4]? = some (I r.delay) ∧ (r.cells.drop 4)[0]? = some (I r.delay) ∧ (r.cells.drop 10)[0]? = some (I r.limit) := fun _ => ⟨rfl, rfl, rfl⟩
    have hx0 : ∀ x, setCells (setCells ((cntTo h v N (j + 1)).map I) j [I x]) j [I 0] = setCells ((cntTo h v N (j + 1)).map I) j [I 0] := by
      intro x
      have e : j = 0 ∨ j = 1 ∨ j = 2 ∨ j = 3 := by omega
      rcases e with rfl | rfl | rfl | rfl <;> rfl
    have hsl : ∀ x, (setCells ((cntTo h v N (j + 1)).map I) j [I x]).length = 4 := by
      intro x
      have e : j = 0 ∨ j = 1 ∨ j = 2 ∨ j = 3 := by omega
      rcases e with rfl | rfl | rfl | rfl <;> rfl
    have hat : (cntTo h v N j)[j]? = some (h' j) := by
      have : h' j = if tb v j then h j + 1 else 0 := by rw [hh', nextC]; simp [show j < N by omega]
      rw [this]
      simp [cntTo, List.getElem?_map, List.getElem?_range h4, show j < N by omega]
    have hh'j : h' j = if tb v j then h j + 1 else 0 := by rw [hh', nextC]; simp [show j < N by omega]
    try simp only [I, B, D, RY, ↓ KW, seval, hj, hd0]
    refine ⟨hy, ?_⟩
    try simp only [I, B, D, RY, ↓ KW, seval, hw, hl, hg, hz, hzl, hNn, hwN, p1, p2, q1, q2, q3, q4, q5, q6, q7, hj, hy, hjm, hju, ha, hw1, hw2, hln, hrl, hcell, hsl, hx0, hjN]
    refine ⟨by omega, by omega, ?_⟩
    try simp only [I, B, D, RY, ↓ KW, seval, hw, hl, hg, hz, hzl, hNn, hwN, p1, p2, q1, q2, q3, q4, q5, q6, q7, hj, hy, hjm, hju, ha, hw1, hw2, hln, hrl, hcell, hsl, hx0, hjN, hv, intRow]
    cases hbit : tb v j
    · rw [hbit] at hb hh'j
      have hs0 := hset 0 (by rw [hbit]; rfl)
      have hd2 : h' j = 0 := hh'j
      try simp only [I, B, D, RY, ↓ KW, seval, hw, hl, hg, hz, hzl, hNn, hwN, p1, p2, q1, q2, q3, q4, q5, q6, q7, hj, hy, hjm, hju, ha, hw1, hw2, hln, hrl, hcell, hsl, hx0, hjN, hv, intRow, hb, hs0, hat]
      refine ⟨by omega, rfl, ?_⟩
      simp only [gt_iff_lt] at hrs hss
      cases hdl : decide ((rlN t j).delay < h' j) <;> cases hst : stkL t h' (j + 1) (N - (j + 1)) <;> cases hlm : decide ((rlN t j).limit < h' j)
      all_goals
        rw [hdl] at hrs
        rw [hlm, hst] at hss
        simp only [Bool.false_eq_true, if_false, if_true, Bool.or_self, Bool.or_true, Bool.or_false, Bool.true_or, Bool.false_or] at hrs hss
        try simp only [I, B, D, RY, ↓ KW, seval, hw, hl, hg, hz, hzl, hNn, hwN, p1, p2, q1, q2, q3, q4, q5, q6, q7, hj, hy, hjm, hju, ha, hw1, hw2, hln, hrl, hcell, hsl, hx0, hjN, hdl, hst, hlm, hat, hs0]
        repeat refine And.intro (by first | omega | rfl) ?_
        try simp only [I, B, D, RY, ↓ KW, seval, hw, hl, hg, hz, hzl, hNn, hwN, p1, p2, q1, q2, q3, q4, q5, q6, q7, hj, hy, hjm, hju, ha, hw1, hw2, hln, hrl, hcell, hsl, hx0, hjN, hdl, hst, hlm, hat, hs0]
        repeat refine And.intro (by first | omega | rfl) ?_
        try simp only [I, B, D, RY, ↓ KW, seval, hw, hl, hg, hz, hzl, hNn, hwN, p1, p2, q1, q2, q3, q4, q5, q6, q7, hj, hy, hjm, hju, ha, hw1, hw2, hln, hrl, hcell, hsl, hx0, hjN, hdl, hst, hlm, hat, hs0]
        refine back2 j _ (by omega) (by omega) ?_
        refine le_tok2 (by decide) ?_ ?_ ?_ ?_ <;> simp [LX, I, B, D, hrs, hss, hw2, hs0, hst, hx0]
    · rw [hbit] at hb hh'j
      have hs0 := hset (h j + 1) (by rw [hbit]; rfl)
      have hd2 : h' j = h j + 1 := hh'j
      try simp only [I, B, D, RY, ↓ KW, seval, hw, hl, hg, hz, hzl, hNn, hwN, p1, p2, q1, q2, q3, q4, q5, q6, q7, hj, hy, hjm, hju, ha, hw1, hw2, hln, hrl, hcell, hsl, hx0, hjN, hv, intRow, hb, hs0, hat]
      refine ⟨rfl, ?_⟩
      simp only [gt_iff_lt] at hrs hss
      cases hdl : decide ((rlN t j).delay < h' j) <;> cases hst : stkL t h' (j + 1) (N - (j + 1)) <;> cases hlm : decide ((rlN t j).limit < h' j)
      all_goals
        rw [hdl] at hrs
        rw [hlm, hst] at hss
        simp only [Bool.false_eq_true, if_false, if_true, Bool.or_self, Bool.or_true, Bool.or_false, Bool.true_or, Bool.false_or] at hrs hss
        try simp only [I, B, D, RY, ↓ KW, seval, hw, hl, hg, hz, hzl, hNn, hwN, p1, p2, q1, q2, q3, q4, q5, q6, q7, hj, hy, hjm, hju, ha, hw1, hw2, hln, hrl, hcell, hsl, hx0, hjN, hdl, hst, hlm, hat, hs0]
        repeat refine And.intro (by first | omega | rfl) ?_
        try simp only [I, B, D, RY, ↓ KW, seval, hw, hl, hg, hz, hzl, hNn, hwN, p1, p2, q1, q2, q3, q4, q5, q6, q7, hj, hy, hjm, hju, ha, hw1, hw2, hln, hrl, hcell, hsl, hx0, hjN, hdl, hst, hlm, hat, hs0]
        repeat refine And.intro (by first | omega | rfl) ?_
        try simp only [I, B, D, RY, ↓ KW, seval, hw, hl, hg, hz, hzl, hNn, hwN, p1, p2, q1, q2, q3, q4, q5, q6, q7, hj, hy, hjm, hju, ha, hw1, hw2, hln, hrl, hcell, hsl, hx0, hjN, hdl, hst, hlm, hat, hs0]
        refine back2 j _ (by omega) (by omega) ?_
        refine le_tok2 (by decide) ?_ ?_ ?_ ?_ <;> simp [LX, I, B, D, hrs, hss, hw2, hs0, hst, hx0]
end
end Go.Eng
