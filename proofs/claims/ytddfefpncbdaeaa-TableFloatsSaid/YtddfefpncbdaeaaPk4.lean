/- The engine and the library, part 4 of 4: what the proofs of this seat need of them. -/
import Derived.Test.YtddfefpncbdaeaaPk3
namespace Go.Eng
set_option linter.unusedVariables false
set_option linter.unusedSimpArgs false
set_option linter.unnecessarySimpa false
open Go
set_option linter.unusedVariables false
set_option linter.unusedSimpArgs false
set_option maxRecDepth 10000
set_option maxHeartbeats 4000000
def wI (m n : Int) : Bool := decide (n ≥ 0) && decide (n ≤ m)
def IdxS {α : Type} (row : α → List AV) (v : α → AV) (C : Con) (f : Nat) : Prop := ∀ (l : Option (List α)) (g : Nat) (fs cs : List AV) (is : α → Bool), (l.getD []).length ≤ 1000000 →
  (∀ x ∈ l.getD [], C.c g (fs ++ [v x] ++ cs) (B (is x)) none) → ∃ n : Int, decide (n ≥ 0) = (l.getD []).any is ∧ C.c f [slAV row l, .fn (.func g) fs cs] (I n) none
def ConS {α : Type} (row : α → List AV) (v : α → AV) (C : Con) (f : Nat) : Prop := ∀ (l : Option (List α)) (g : Nat) (fs cs : List AV) (is : α → Bool), (l.getD []).length ≤ 1000000 →
  (∀ x ∈ l.getD [], C.c g (fs ++ [v x] ++ cs) (B (is x)) none) → C.c f [slAV row l, .fn (.func g) fs cs] (B ((l.getD []).any is)) none
def Ev1S {α : Type} (v : α → AV) (C : Con) (f : Nat) : Prop := ∀ (x : α) (g : Nat) (fs cs : List AV) (r : Bool), C.c g (fs ++ [v x] ++ cs) (B r) none → C.c f [v x, .ref [.fn (.func g) fs cs]] (B (!r)) none
def EvS {α : Type} (row : α → List AV) (v : α → AV) (C : Con) (f : Nat) : Prop := ∀ (l : Option (List α)) (most : Int) (g : Nat) (fs cs : List AV) (is : α → Bool), most ≤ 1000000 →
  (∀ x ∈ l.getD [], C.c g (fs ++ [v x] ++ cs) (B (is x)) none) → C.c f [slAV row l, I most, .fn (.func g) fs cs] (B (decide (((l.getD []).length : Int) ≤ most) && (l.getD []).all is)) none
theorem any_not {α : Type} (l : List α) (is : α → Bool) : (!l.any fun x => !is x) = l.all is := by
  induction l with
  | nil => rfl
  | cons a l ih => simp only [List.any_cons, List.all_cons, ← ih]; cases is a <;> simp
def idxI.Spec (C : Con) (f : Nat) : Prop := IdxS intRow (fun n => I n) C f
def conI.Spec (C : Con) (f : Nat) : Prop := ConS intRow (fun n => I n) C f
def ev1I.Spec (C : Con) (f : Nat) : Prop := Ev1S (α := Int) (fun n => I n) C f
def evI.Spec (C : Con) (f : Nat) : Prop := EvS intRow (fun n => I n) C f
def idxP.Spec (C : Con) (f : Nat) : Prop := IdxS Ph.cells (fun p => .agg p.cells) C f
def conP.Spec (C : Con) (f : Nat) : Prop := ConS Ph.cells (fun p => .agg p.cells) C f
def ev1P.Spec (C : Con) (f : Nat) : Prop := Ev1S (α := Ph) (fun p => .agg p.cells) C f
def evP.Spec (C : Con) (f : Nat) : Prop := EvS Ph.cells (fun p => .agg p.cells) C f
def idxG.Spec (C : Con) (f : Nat) : Prop := IdxS Gr.cells (fun g => .agg g.cells) C f
def conG.Spec (C : Con) (f : Nat) : Prop := ConS Gr.cells (fun g => .agg g.cells) C f
def ev1G.Spec (C : Con) (f : Nat) : Prop := Ev1S (α := Gr) (fun g => .agg g.cells) C f
def evG.Spec (C : Con) (f : Nat) : Prop := EvS Gr.cells (fun g => .agg g.cells) C f
def idxD.Spec (C : Con) (f : Nat) : Prop := IdxS Det.cells (fun d => .agg d.cells) C f
def conD.Spec (C : Con) (f : Nat) : Prop := ConS Det.cells (fun d => .agg d.cells) C f
def ev1D.Spec (C : Con) (f : Nat) : Prop := Ev1S (α := Det) (fun d => .agg d.cells) C f
def evD.Spec (C : Con) (f : Nat) : Prop := EvS Det.cells (fun d => .agg d.cells) C f
def idxR.Spec (C : Con) (f : Nat) : Prop := IdxS Rl.cells (fun r => .agg r.cells) C f
def conR.Spec (C : Con) (f : Nat) : Prop := ConS Rl.cells (fun r => .agg r.cells) C f
def ev1R.Spec (C : Con) (f : Nat) : Prop := Ev1S (α := Rl) (fun r => .agg r.cells) C f
def evR.Spec (C : Con) (f : Nat) : Prop := EvS Rl.cells (fun r => .agg r.cells) C f
def idxU.Spec (C : Con) (f : Nat) : Prop := IdxS Bs.cells (fun b => .agg b.cells) C f
def conU.Spec (C : Con) (f : Nat) : Prop := ConS Bs.cells (fun b => .agg b.cells) C f
def ev1U.Spec (C : Con) (f : Nat) : Prop := Ev1S (α := Bs) (fun b => .agg b.cells) C f
def evU.Spec (C : Con) (f : Nat) : Prop := EvS Bs.cells (fun b => .agg b.cells) C f
theorem first_of {α : Type} {l : List α} {is : α → Bool} (h : l.any is = true) : ∃ n, n < l.length ∧ (∃ x, l[n]? = some x ∧ is x = true) ∧ (l.take n).any is = false := by
  induction l with
  | nil => cases h
  | cons a l ih =>
    cases ha : is a with
    | true => exact ⟨0, by simp, ⟨a, rfl, ha⟩, rfl⟩
    | false =>
      rw [List.any_cons, ha, Bool.false_or] at h
      obtain ⟨n, h1, ⟨x, h2, h3⟩, h4⟩ := ih h
      exact ⟨n + 1, by simpa using h1, ⟨x, by simpa using h2, h3⟩, by simp [ha, h4]⟩
section
variable {P : Program} (hm : P.follows .mixedOrders = true) {f : Nat}
include hm
theorem idxI.ok (hc : cFn P f = some cc_slices_IndexFunc_int_int) : idxI.Spec (Pure P) f := by
  intro l g fs cs is hl hg
  cases hany : (l.getD []).any is with
  | false =>
    refine ⟨-1, rfl, ?_⟩
    refine pure_of hm hc (by show 2 ≤ 19; decide) (aw_flat (keep := []) (i := 0) ?_)
    try simp only [I, B, D, RW, ↓ KW, fillA, setCells, stTags, flat, Nat.reduceBEq, Nat.reduceAdd, Nat.reduceLeDiff, Int.reduceNe, Int.reduceBEq, Int.reduceEq, reduceCtorEq, Nat.reduceMul, Int.reduceLT, Int.reduceLE, Int.reduceToNat, cc_slices_IndexFunc_int_int, a_len]
    refine aw_loop' (fun k : Nat => (⟨[(8, .dat (I k) none), (7, .dat (I ((l.getD []).length : Nat)) none), (1, .dat (.fn (.func g) fs cs) none), (0, .dat (slAV intRow l) none)], [], [], 400⟩ : S)) (fun k => (l.getD []).length - k) (fun k => k ≤ (l.getD []).length) ?_ 0 (by omega) ?_
    · intro k hk A back
      have hwr := wrap_succ (k := k) (by omega)
      try simp only [I, B, D, RW, ↓ KW, fillA, setCells, stTags, flat, Nat.reduceBEq, Nat.reduceAdd, Nat.reduceLeDiff, Int.reduceNe, Int.reduceBEq, Int.reduceEq, reduceCtorEq, Nat.reduceMul, Int.reduceLT, Int.reduceLE, Int.reduceToNat]
      refine cd_split (fun h2 => ?_) (fun h2 => ?_) <;> try simp only [I, B, D, RW, ↓ KW, fillA, setCells, stTags, flat, Nat.reduceBEq, Nat.reduceAdd, Nat.reduceLeDiff, Int.reduceNe, Int.reduceBEq, Int.reduceEq, reduceCtorEq, Nat.reduceMul, Int.reduceLT, Int.reduceLE, Int.reduceToNat, h2]
      · have h8 : k < (l.getD []).length := by have := of_decide_eq_true h2; omega
        obtain ⟨x, hx⟩ : ∃ x, (l.getD [])[k]? = some x := ⟨_, List.getElem?_eq_getElem h8⟩
        have hno : is x = false := List.any_eq_false.1 hany x (List.mem_of_getElem? hx) |> Bool.eq_false_iff.2
        have hgx := hg x (List.mem_of_getElem? hx)
        rw [hno] at hgx
        try simp only [I, B, D, RW, ↓ KW, fillA, setCells, stTags, flat, Nat.reduceBEq, Nat.reduceAdd, Nat.reduceLeDiff, Int.reduceNe, Int.reduceBEq, Int.reduceEq, reduceCtorEq, Nat.reduceMul, Int.reduceLT, Int.reduceLE, Int.reduceToNat, a_rows, hx, intRow]
        refine ⟨by omega, ?_⟩
        refine call_is hgx ?_
        try simp only [I, B, D, RW, ↓ KW, fillA, setCells, stTags, flat, Nat.reduceBEq, Nat.reduceAdd, Nat.reduceLeDiff, Int.reduceNe, Int.reduceBEq, Int.reduceEq, reduceCtorEq, Nat.reduceMul, Int.reduceLT, Int.reduceLE, Int.reduceToNat]
        refine back (k + 1) _ (by omega) (by omega) ?_
        refine le_tok2 (by decide) ?_ ?_ ?_ ?_ <;> simp [intRow, ownSV, ownL, leSlots, lv_dat, lv_tok, lv_ptr, lv_rp, lv_undef, leBoxes, leTags, leLive, tokM, tokB, tokT, ren, liveInj, r_lk, r_lkN, r_lkB, r_lkN0, I, B, D, withV_some, hwr]
    · refine le_tok2 (by decide) ?_ ?_ ?_ ?_ <;> simp [intRow, ownSV, ownL, leSlots, lv_dat, lv_tok, lv_ptr, lv_rp, lv_undef, leBoxes, leTags, leLive, tokM, tokB, tokT, ren, liveInj, r_lk, r_lkN, r_lkB, r_lkN0, I, B, D, withV_some]
  | true =>
    obtain ⟨n, hn, hxn⟩ : ∃ n, n < (l.getD []).length ∧ (∃ x, (l.getD [])[n]? = some x ∧ is x = true) ∧ ((l.getD []).take n).any is = false := first_of hany
    obtain ⟨⟨xn, hxn, hisn⟩, hpre⟩ := hxn
    refine ⟨n, by simp, ?_⟩
    refine pure_of hm hc (by show 2 ≤ 19; decide) (aw_flat (keep := []) (i := 0) ?_)
    try simp only [I, B, D, RW, ↓ KW, fillA, setCells, stTags, flat, Nat.reduceBEq, Nat.reduceAdd, Nat.reduceLeDiff, Int.reduceNe, Int.reduceBEq, Int.reduceEq, reduceCtorEq, Nat.reduceMul, Int.reduceLT, Int.reduceLE, Int.reduceToNat, cc_slices_IndexFunc_int_int, a_len]
    refine aw_loop' (fun k : Nat => (⟨[(8, .dat (I k) none), (7, .dat (I ((l.getD []).length : Nat)) none), (1, .dat (.fn (.func g) fs cs) none), (0, .dat (slAV intRow l) none)], [], [], 400⟩ : S)) (fun k => n - k) (fun k => k ≤ n) ?_ 0 (by omega) ?_
    · intro k hk A back
      have hwr := wrap_succ (k := k) (by omega)
      have h8 : k < (l.getD []).length := by omega
      have h2 : decide ((k : Int) < ((l.getD []).length : Nat)) = true := by simp; omega
      obtain ⟨x, hx⟩ : ∃ x, (l.getD [])[k]? = some x := ⟨_, List.getElem?_eq_getElem h8⟩
      have hgx := hg x (List.mem_of_getElem? hx)
      try simp only [I, B, D, RW, ↓ KW, fillA, setCells, stTags, flat, Nat.reduceBEq, Nat.reduceAdd, Nat.reduceLeDiff, Int.reduceNe, Int.reduceBEq, Int.reduceEq, reduceCtorEq, Nat.reduceMul, Int.reduceLT, Int.reduceLE, Int.reduceToNat, h2, a_rows, hx, intRow]
      refine ⟨by omega, ?_⟩
      by_cases e : k = n
      · subst e
        have : x = xn := by rw [hx] at hxn; exact Option.some.inj hxn
        subst this
        rw [hisn] at hgx
        refine call_is hgx ?_
        try simp only [I, B, D, RW, ↓ KW, fillA, setCells, stTags, flat, Nat.reduceBEq, Nat.reduceAdd, Nat.reduceLeDiff, Int.reduceNe, Int.reduceBEq, Int.reduceEq, reduceCtorEq, Nat.reduceMul, Int.reduceLT, Int.reduceLE, Int.reduceToNat]
      · have hno : is x = false := by
          refine Bool.eq_false_iff.2 (List.any_eq_false.1 hpre x ?_)
          refine List.mem_of_getElem? (i := k) ?_
          rw [List.getElem?_take, if_pos (by omega)]; exact hx
        rw [hno] at hgx
        refine call_is hgx ?_
        try simp only [I, B, D, RW, ↓ KW, fillA, setCells, stTags, flat, Nat.reduceBEq, Nat.reduceAdd, Nat.reduceLeDiff, Int.reduceNe, Int.reduceBEq, Int.reduceEq, reduceCtorEq, Nat.reduceMul, Int.reduceLT, Int.reduceLE, Int.reduceToNat]
        refine back (k + 1) _ (by omega) (by omega) ?_
        refine le_tok2 (by decide) ?_ ?_ ?_ ?_ <;> simp [intRow, ownSV, ownL, leSlots, lv_dat, lv_tok, lv_ptr, lv_rp, lv_undef, leBoxes, leTags, leLive, tokM, tokB, tokT, ren, liveInj, r_lk, r_lkN, r_lkB, r_lkN0, I, B, D, withV_some, hwr]
    · refine le_tok2 (by decide) ?_ ?_ ?_ ?_ <;> simp [intRow, ownSV, ownL, leSlots, lv_dat, lv_tok, lv_ptr, lv_rp, lv_undef, leBoxes, leTags, leLive, tokM, tokB, tokT, ren, liveInj, r_lk, r_lkN, r_lkB, r_lkN0, I, B, D, withV_some]
theorem conI.ok {fI : Nat} (hc : cFn P f = some (cc_slices_ContainsFunc_int_int fI)) (hI : idxI.Spec (Pure P) fI) : conI.Spec (Pure P) f := by
  intro l g fs cs is hl hg
  obtain ⟨n, hn, hcall⟩ := hI l g fs cs is hl hg
  refine pure_of hm hc (by show 2 ≤ 9; decide) (aw_flat (keep := []) (i := 0) ?_)
  try simp only [I, B, D, RW, ↓ KW, fillA, setCells, stTags, flat, Nat.reduceBEq, Nat.reduceAdd, Nat.reduceLeDiff, Int.reduceNe, Int.reduceBEq, Int.reduceEq, reduceCtorEq, Nat.reduceMul, Int.reduceLT, Int.reduceLE, Int.reduceToNat, cc_slices_ContainsFunc_int_int]
  refine call_is hcall ?_
  try simp only [I, B, D, RW, ↓ KW, fillA, setCells, stTags, flat, Nat.reduceBEq, Nat.reduceAdd, Nat.reduceLeDiff, Int.reduceNe, Int.reduceBEq, Int.reduceEq, reduceCtorEq, Nat.reduceMul, Int.reduceLT, Int.reduceLE, Int.reduceToNat, hn]
theorem ev1I.ok (hc : cFn P f = some cc_table_every_int_1) : ev1I.Spec (Pure P) f := by
  intro x g fs cs r hg
  refine pure_of hm hc (by show 2 ≤ 8; decide) (aw_flat (keep := []) (i := 0) ?_)
  try simp only [I, B, D, RW, ↓ KW, fillA, setCells, stTags, flat, Nat.reduceBEq, Nat.reduceAdd, Nat.reduceLeDiff, Int.reduceNe, Int.reduceBEq, Int.reduceEq, reduceCtorEq, Nat.reduceMul, Int.reduceLT, Int.reduceLE, Int.reduceToNat, cc_table_every_int_1]
  refine call_is hg ?_
  try simp only [I, B, D, RW, ↓ KW, fillA, setCells, stTags, flat, Nat.reduceBEq, Nat.reduceAdd, Nat.reduceLeDiff, Int.reduceNe, Int.reduceBEq, Int.reduceEq, reduceCtorEq, Nat.reduceMul, Int.reduceLT, Int.reduceLE, Int.reduceToNat]
theorem evI.ok {f1 fC : Nat} (hc : cFn P f = some (cc_table_every_int f1 fC)) (h1 : ev1I.Spec (Pure P) f1) (hC : conI.Spec (Pure P) fC) : evI.Spec (Pure P) f := by
  intro l most g fs cs is hm' hg
  refine pure_of hm hc (by show 3 ≤ 17; decide) (aw_flat (keep := []) (i := 0) ?_)
  try simp only [I, B, D, RW, ↓ KW, fillA, setCells, stTags, flat, Nat.reduceBEq, Nat.reduceAdd, Nat.reduceLeDiff, Int.reduceNe, Int.reduceBEq, Int.reduceEq, reduceCtorEq, Nat.reduceMul, Int.reduceLT, Int.reduceLE, Int.reduceToNat, cc_table_every_int, a_len]
  cases hl : decide (((l.getD []).length : Int) ≤ most)
  · try simp only [I, B, D, RW, ↓ KW, fillA, setCells, stTags, flat, Nat.reduceBEq, Nat.reduceAdd, Nat.reduceLeDiff, Int.reduceNe, Int.reduceBEq, Int.reduceEq, reduceCtorEq, Nat.reduceMul, Int.reduceLT, Int.reduceLE, Int.reduceToNat, hl]
    rfl
  · have := of_decide_eq_true hl
    try simp only [I, B, D, RW, ↓ KW, fillA, setCells, stTags, flat, Nat.reduceBEq, Nat.reduceAdd, Nat.reduceLeDiff, Int.reduceNe, Int.reduceBEq, Int.reduceEq, reduceCtorEq, Nat.reduceMul, Int.reduceLT, Int.reduceLE, Int.reduceToNat, hl]
    refine ⟨rfl, ?_⟩
    refine call_is (hC l f1 [] [.ref [.fn (.func g) fs cs]] (fun x => !is x) (by omega) (fun x hx => h1 x g fs cs (is x) (hg x hx))) ?_
    try simp only [I, B, D, RW, ↓ KW, fillA, setCells, stTags, flat, Nat.reduceBEq, Nat.reduceAdd, Nat.reduceLeDiff, Int.reduceNe, Int.reduceBEq, Int.reduceEq, reduceCtorEq, Nat.reduceMul, Int.reduceLT, Int.reduceLE, Int.reduceToNat]
    rw [any_not]; rfl
theorem idxP.ok (hc : cFn P f = some cc_slices_IndexFunc_api_Phase_api_Phase) : idxP.Spec (Pure P) f := by
  intro l g fs cs is hl hg
  have hpart : ∀ x : Ph, partA (Ph.cells x) 0 (some 13) = some (.agg (Ph.cells x)) := fun x => rfl
  have hlen : ∀ x : Ph, (Ph.cells x).length = 13 := fun x => rfl
  cases hany : (l.getD []).any is with
  | false =>
    refine ⟨-1, rfl, ?_⟩
    refine pure_of hm hc (by show 2 ≤ 19; decide) (aw_flat (keep := []) (i := 0) ?_)
    try simp only [I, B, D, RW, ↓ KW, fillA, setCells, stTags, flat, Nat.reduceBEq, Nat.reduceAdd, Nat.reduceLeDiff, Int.reduceNe, Int.reduceBEq, Int.reduceEq, reduceCtorEq, Nat.reduceMul, Int.reduceLT, Int.reduceLE, Int.reduceToNat, cc_slices_IndexFunc_api_Phase_api_Phase, a_len]
    refine aw_loop' (fun k : Nat => (⟨[(8, .dat (I k) none), (7, .dat (I ((l.getD []).length : Nat)) none), (1, .dat (.fn (.func g) fs cs) none), (0, .dat (slAV Ph.cells l) none)], [], [], 400⟩ : S)) (fun k => (l.getD []).length - k) (fun k => k ≤ (l.getD []).length) ?_ 0 (by omega) ?_
    · intro k hk A back
      have hwr := wrap_succ (k := k) (by omega)
      try simp only [I, B, D, RW, ↓ KW, fillA, setCells, stTags, flat, Nat.reduceBEq, Nat.reduceAdd, Nat.reduceLeDiff, Int.reduceNe, Int.reduceBEq, Int.reduceEq, reduceCtorEq, Nat.reduceMul, Int.reduceLT, Int.reduceLE, Int.reduceToNat]
      refine cd_split (fun h2 => ?_) (fun h2 => ?_) <;> try simp only [I, B, D, RW, ↓ KW, fillA, setCells, stTags, flat, Nat.reduceBEq, Nat.reduceAdd, Nat.reduceLeDiff, Int.reduceNe, Int.reduceBEq, Int.reduceEq, reduceCtorEq, Nat.reduceMul, Int.reduceLT, Int.reduceLE, Int.reduceToNat, h2]
      · have h8 : k < (l.getD []).length := by have := of_decide_eq_true h2; omega
        obtain ⟨x, hx⟩ : ∃ x, (l.getD [])[k]? = some x := ⟨_, List.getElem?_eq_getElem h8⟩
        have hno : is x = false := List.any_eq_false.1 hany x (List.mem_of_getElem? hx) |> Bool.eq_false_iff.2
        have hgx := hg x (List.mem_of_getElem? hx)
        rw [hno] at hgx
        try simp only [I, B, D, RW, ↓ KW, fillA, setCells, stTags, flat, Nat.reduceBEq, Nat.reduceAdd, Nat.reduceLeDiff, Int.reduceNe, Int.reduceBEq, Int.reduceEq, reduceCtorEq, Nat.reduceMul, Int.reduceLT, Int.reduceLE, Int.reduceToNat, a_rows, hx, hpart, hlen]
        refine ⟨by omega, ?_⟩
        refine call_is hgx ?_
        try simp only [I, B, D, RW, ↓ KW, fillA, setCells, stTags, flat, Nat.reduceBEq, Nat.reduceAdd, Nat.reduceLeDiff, Int.reduceNe, Int.reduceBEq, Int.reduceEq, reduceCtorEq, Nat.reduceMul, Int.reduceLT, Int.reduceLE, Int.reduceToNat]
        refine back (k + 1) _ (by omega) (by omega) ?_
        refine le_tok2 (by decide) ?_ ?_ ?_ ?_ <;> simp [intRow, ownSV, ownL, leSlots, lv_dat, lv_tok, lv_ptr, lv_rp, lv_undef, leBoxes, leTags, leLive, tokM, tokB, tokT, ren, liveInj, r_lk, r_lkN, r_lkB, r_lkN0, I, B, D, withV_some, hwr]
    · refine le_tok2 (by decide) ?_ ?_ ?_ ?_ <;> simp [intRow, ownSV, ownL, leSlots, lv_dat, lv_tok, lv_ptr, lv_rp, lv_undef, leBoxes, leTags, leLive, tokM, tokB, tokT, ren, liveInj, r_lk, r_lkN, r_lkB, r_lkN0, I, B, D, withV_some]
  | true =>
    obtain ⟨n, hn, hxn⟩ : ∃ n, n < (l.getD []).length ∧ (∃ x, (l.getD [])[n]? = some x ∧ is x = true) ∧ ((l.getD []).take n).any is = false := first_of hany
    obtain ⟨⟨xn, hxn, hisn⟩, hpre⟩ := hxn
    refine ⟨n, by simp, ?_⟩
    refine pure_of hm hc (by show 2 ≤ 19; decide) (aw_flat (keep := []) (i := 0) ?_)
    try simp only [I, B, D, RW, ↓ KW, fillA, setCells, stTags, flat, Nat.reduceBEq, Nat.reduceAdd, Nat.reduceLeDiff, Int.reduceNe, Int.reduceBEq, Int.reduceEq, reduceCtorEq, Nat.reduceMul, Int.reduceLT, Int.reduceLE, Int.reduceToNat, cc_slices_IndexFunc_api_Phase_api_Phase, a_len]
    refine aw_loop' (fun k : Nat => (⟨[(8, .dat (I k) none), (7, .dat (I ((l.getD []).length : Nat)) none), (1, .dat (.fn (.func g) fs cs) none), (0, .dat (slAV Ph.cells l) none)], [], [], 400⟩ : S)) (fun k => n - k) (fun k => k ≤ n) ?_ 0 (by omega) ?_
    · intro k hk A back
      have hwr := wrap_succ (k := k) (by omega)
      have h8 : k < (l.getD []).length := by omega
      have h2 : decide ((k : Int) < ((l.getD []).length : Nat)) = true := by simp; omega
      obtain ⟨x, hx⟩ : ∃ x, (l.getD [])[k]? = some x := ⟨_, List.getElem?_eq_getElem h8⟩
      have hgx := hg x (List.mem_of_getElem? hx)
      try simp only [I, B, D, RW, ↓ KW, fillA, setCells, stTags, flat, Nat.reduceBEq, Nat.reduceAdd, Nat.reduceLeDiff, Int.reduceNe, Int.reduceBEq, Int.reduceEq, reduceCtorEq, Nat.reduceMul, Int.reduceLT, Int.reduceLE, Int.reduceToNat, h2, a_rows, hx, hpart, hlen]
      refine ⟨by omega, ?_⟩
      by_cases e : k = n
      · subst e
        have : x = xn := by rw [hx] at hxn; exact Option.some.inj hxn
        subst this
        rw [hisn] at hgx
        refine call_is hgx ?_
        try simp only [I, B, D, RW, ↓ KW, fillA, setCells, stTags, flat, Nat.reduceBEq, Nat.reduceAdd, Nat.reduceLeDiff, Int.reduceNe, Int.reduceBEq, Int.reduceEq, reduceCtorEq, Nat.reduceMul, Int.reduceLT, Int.reduceLE, Int.reduceToNat]
      · have hno : is x = false := by
          refine Bool.eq_false_iff.2 (List.any_eq_false.1 hpre x ?_)
          refine List.mem_of_getElem? (i := k) ?_
          rw [List.getElem?_take, if_pos (by omega)]; exact hx
        rw [hno] at hgx
        refine call_is hgx ?_
        try simp only [I, B, D, RW, ↓ KW, fillA, setCells, stTags, flat, Nat.reduceBEq, Nat.reduceAdd, Nat.reduceLeDiff, Int.reduceNe, Int.reduceBEq, Int.reduceEq, reduceCtorEq, Nat.reduceMul, Int.reduceLT, Int.reduceLE, Int.reduceToNat]
        refine back (k + 1) _ (by omega) (by omega) ?_
        refine le_tok2 (by decide) ?_ ?_ ?_ ?_ <;> simp [intRow, ownSV, ownL, leSlots, lv_dat, lv_tok, lv_ptr, lv_rp, lv_undef, leBoxes, leTags, leLive, tokM, tokB, tokT, ren, liveInj, r_lk, r_lkN, r_lkB, r_lkN0, I, B, D, withV_some, hwr]
    · refine le_tok2 (by decide) ?_ ?_ ?_ ?_ <;> simp [intRow, ownSV, ownL, leSlots, lv_dat, lv_tok, lv_ptr, lv_rp, lv_undef, leBoxes, leTags, leLive, tokM, tokB, tokT, ren, liveInj, r_lk, r_lkN, r_lkB, r_lkN0, I, B, D, withV_some]
theorem conP.ok {fI : Nat} (hc : cFn P f = some (cc_slices_ContainsFunc_api_Phase_api_Phase fI)) (hI : idxP.Spec (Pure P) fI) : conP.Spec (Pure P) f := by
  intro l g fs cs is hl hg
  obtain ⟨n, hn, hcall⟩ := hI l g fs cs is hl hg
  refine pure_of hm hc (by show 2 ≤ 9; decide) (aw_flat (keep := []) (i := 0) ?_)
  try simp only [I, B, D, RW, ↓ KW, fillA, setCells, stTags, flat, Nat.reduceBEq, Nat.reduceAdd, Nat.reduceLeDiff, Int.reduceNe, Int.reduceBEq, Int.reduceEq, reduceCtorEq, Nat.reduceMul, Int.reduceLT, Int.reduceLE, Int.reduceToNat, cc_slices_ContainsFunc_api_Phase_api_Phase]
  refine call_is hcall ?_
  try simp only [I, B, D, RW, ↓ KW, fillA, setCells, stTags, flat, Nat.reduceBEq, Nat.reduceAdd, Nat.reduceLeDiff, Int.reduceNe, Int.reduceBEq, Int.reduceEq, reduceCtorEq, Nat.reduceMul, Int.reduceLT, Int.reduceLE, Int.reduceToNat, hn]
theorem ev1P.ok (hc : cFn P f = some cc_table_every_api_Phase_1) : ev1P.Spec (Pure P) f := by
  intro x g fs cs r hg
  have hpart : ∀ x : Ph, partA (Ph.cells x) 0 (some 13) = some (.agg (Ph.cells x)) := fun x => rfl
  have hlen : ∀ x : Ph, (Ph.cells x).length = 13 := fun x => rfl
  refine pure_of hm hc (by show 2 ≤ 8; decide) (aw_flat (keep := []) (i := 0) ?_)
  try simp only [I, B, D, RW, ↓ KW, fillA, setCells, stTags, flat, Nat.reduceBEq, Nat.reduceAdd, Nat.reduceLeDiff, Int.reduceNe, Int.reduceBEq, Int.reduceEq, reduceCtorEq, Nat.reduceMul, Int.reduceLT, Int.reduceLE, Int.reduceToNat, cc_table_every_api_Phase_1, hpart, hlen]
  refine call_is hg ?_
  try simp only [I, B, D, RW, ↓ KW, fillA, setCells, stTags, flat, Nat.reduceBEq, Nat.reduceAdd, Nat.reduceLeDiff, Int.reduceNe, Int.reduceBEq, Int.reduceEq, reduceCtorEq, Nat.reduceMul, Int.reduceLT, Int.reduceLE, Int.reduceToNat]
theorem evP.ok {f1 fC : Nat} (hc : cFn P f = some (cc_table_every_api_Phase f1 fC)) (h1 : ev1P.Spec (Pure P) f1) (hC : conP.Spec (Pure P) fC) : evP.Spec (Pure P) f := by
  intro l most g fs cs is hm' hg
  refine pure_of hm hc (by show 3 ≤ 17; decide) (aw_flat (keep := []) (i := 0) ?_)
  try simp only [I, B, D, RW, ↓ KW, fillA, setCells, stTags, flat, Nat.reduceBEq, Nat.reduceAdd, Nat.reduceLeDiff, Int.reduceNe, Int.reduceBEq, Int.reduceEq, reduceCtorEq, Nat.reduceMul, Int.reduceLT, Int.reduceLE, Int.reduceToNat, cc_table_every_api_Phase, a_len]
  cases hl : decide (((l.getD []).length : Int) ≤ most)
  · try simp only [I, B, D, RW, ↓ KW, fillA, setCells, stTags, flat, Nat.reduceBEq, Nat.reduceAdd, Nat.reduceLeDiff, Int.reduceNe, Int.reduceBEq, Int.reduceEq, reduceCtorEq, Nat.reduceMul, Int.reduceLT, Int.reduceLE, Int.reduceToNat, hl]
    rfl
  · have := of_decide_eq_true hl
    try simp only [I, B, D, RW, ↓ KW, fillA, setCells, stTags, flat, Nat.reduceBEq, Nat.reduceAdd, Nat.reduceLeDiff, Int.reduceNe, Int.reduceBEq, Int.reduceEq, reduceCtorEq, Nat.reduceMul, Int.reduceLT, Int.reduceLE, Int.reduceToNat, hl]
    refine ⟨rfl, ?_⟩
    refine call_is (hC l f1 [] [.ref [.fn (.func g) fs cs]] (fun x => !is x) (by omega) (fun x hx => h1 x g fs cs (is x) (hg x hx))) ?_
    try simp only [I, B, D, RW, ↓ KW, fillA, setCells, stTags, flat, Nat.reduceBEq, Nat.reduceAdd, Nat.reduceLeDiff, Int.reduceNe, Int.reduceBEq, Int.reduceEq, reduceCtorEq, Nat.reduceMul, Int.reduceLT, Int.reduceLE, Int.reduceToNat]
    rw [any_not]; rfl
theorem idxG.ok (hc : cFn P f = some cc_slices_IndexFunc_2_int_2_int) : idxG.Spec (Pure P) f := by
  intro l g fs cs is hl hg
  have hpart : ∀ x : Gr, partA (Gr.cells x) 0 (some 2) = some (.agg (Gr.cells x)) := fun x => rfl
  have hlen : ∀ x : Gr, (Gr.cells x).length = 2 := fun x => rfl
  cases hany : (l.getD []).any is with
  | false =>
    refine ⟨-1, rfl, ?_⟩
    refine pure_of hm hc (by show 2 ≤ 19; decide) (aw_flat (keep := []) (i := 0) ?_)
    try simp only [I, B, D, RW, ↓ KW, fillA, setCells, stTags, flat, Nat.reduceBEq, Nat.reduceAdd, Nat.reduceLeDiff, Int.reduceNe, Int.reduceBEq, Int.reduceEq, reduceCtorEq, Nat.reduceMul, Int.reduceLT, Int.reduceLE, Int.reduceToNat, cc_slices_IndexFunc_2_int_2_int, a_len]
    refine aw_loop' (fun k : Nat => (⟨[(8, .dat (I k) none), (7, .dat (I ((l.getD []).length : Nat)) none), (1, .dat (.fn (.func g) fs cs) none), (0, .dat (slAV Gr.cells l) none)], [], [], 400⟩ : S)) (fun k => (l.getD []).length - k) (fun k => k ≤ (l.getD []).length) ?_ 0 (by omega) ?_
    · intro k hk A back
      have hwr := wrap_succ (k := k) (by omega)
      try simp only [I, B, D, RW, ↓ KW, fillA, setCells, stTags, flat, Nat.reduceBEq, Nat.reduceAdd, Nat.reduceLeDiff, Int.reduceNe, Int.reduceBEq, Int.reduceEq, reduceCtorEq, Nat.reduceMul, Int.reduceLT, Int.reduceLE, Int.reduceToNat]
      refine cd_split (fun h2 => ?_) (fun h2 => ?_) <;> try simp only [I, B, D, RW, ↓ KW, fillA, setCells, stTags, flat, Nat.reduceBEq, Nat.reduceAdd, Nat.reduceLeDiff, Int.reduceNe, Int.reduceBEq, Int.reduceEq, reduceCtorEq, Nat.reduceMul, Int.reduceLT, Int.reduceLE, Int.reduceToNat, h2]
      · have h8 : k < (l.getD []).length := by have := of_decide_eq_true h2; omega
        obtain ⟨x, hx⟩ : ∃ x, (l.getD [])[k]? = some x := ⟨_, List.getElem?_eq_getElem h8⟩
        have hno : is x = false := List.any_eq_false.1 hany x (List.mem_of_getElem? hx) |> Bool.eq_false_iff.2
        have hgx := hg x (List.mem_of_getElem? hx)
        rw [hno] at hgx
        try simp only [I, B, D, RW, ↓ KW, fillA, setCells, stTags, flat, Nat.reduceBEq, Nat.reduceAdd, Nat.reduceLeDiff, Int.reduceNe, Int.reduceBEq, Int.reduceEq, reduceCtorEq, Nat.reduceMul, Int.reduceLT, Int.reduceLE, Int.reduceToNat, a_rows, hx, hpart, hlen]
        refine ⟨by omega, ?_⟩
        refine call_is hgx ?_
        try simp only [I, B, D, RW, ↓ KW, fillA, setCells, stTags, flat, Nat.reduceBEq, Nat.reduceAdd, Nat.reduceLeDiff, Int.reduceNe, Int.reduceBEq, Int.reduceEq, reduceCtorEq, Nat.reduceMul, Int.reduceLT, Int.reduceLE, Int.reduceToNat]
        refine back (k + 1) _ (by omega) (by omega) ?_
        refine le_tok2 (by decide) ?_ ?_ ?_ ?_ <;> simp [intRow, ownSV, ownL, leSlots, lv_dat, lv_tok, lv_ptr, lv_rp, lv_undef, leBoxes, leTags, leLive, tokM, tokB, tokT, ren, liveInj, r_lk, r_lkN, r_lkB, r_lkN0, I, B, D, withV_some, hwr]
    · refine le_tok2 (by decide) ?_ ?_ ?_ ?_ <;> simp [intRow, ownSV, ownL, leSlots, lv_dat, lv_tok, lv_ptr, lv_rp, lv_undef, leBoxes, leTags, leLive, tokM, tokB, tokT, ren, liveInj, r_lk, r_lkN, r_lkB, r_lkN0, I, B, D, withV_some]
  | true =>
    obtain ⟨n, hn, hxn⟩ : ∃ n, n < (l.getD []).length ∧ (∃ x, (l.getD [])[n]? = some x ∧ is x = true) ∧ ((l.getD []).take n).any is = false := first_of hany
    obtain ⟨⟨xn, hxn, hisn⟩, hpre⟩ := hxn
    refine ⟨n, by simp, ?_⟩
    refine pure_of hm hc (by show 2 ≤ 19; decide) (aw_flat (keep := []) (i := 0) ?_)
    try simp only [I, B, D, RW, ↓ KW, fillA, setCells, stTags, flat, Nat.reduceBEq, Nat.reduceAdd, Nat.reduceLeDiff, Int.reduceNe, Int.reduceBEq, Int.reduceEq, reduceCtorEq, Nat.reduceMul, Int.reduceLT, Int.reduceLE, Int.reduceToNat, cc_slices_IndexFunc_2_int_2_int, a_len]
    refine aw_loop' (fun k : Nat => (⟨[(8, .dat (I k) none), (7, .dat (I ((l.getD []).length : Nat)) none), (1, .dat (.fn (.func g) fs cs) none), (0, .dat (slAV Gr.cells l) none)], [], [], 400⟩ : S)) (fun k => n - k) (fun k => k ≤ n) ?_ 0 (by omega) ?_
    · intro k hk A back
      have hwr := wrap_succ (k := k) (by omega)
      have h8 : k < (l.getD []).length := by omega
      have h2 : decide ((k : Int) < ((l.getD []).length : Nat)) = true := by simp; omega
      obtain ⟨x, hx⟩ : ∃ x, (l.getD [])[k]? = some x := ⟨_, List.getElem?_eq_getElem h8⟩
      have hgx := hg x (List.mem_of_getElem? hx)
      try simp only [I, B, D, RW, ↓ KW, fillA, setCells, stTags, flat, Nat.reduceBEq, Nat.reduceAdd, Nat.reduceLeDiff, Int.reduceNe, Int.reduceBEq, Int.reduceEq, reduceCtorEq, Nat.reduceMul, Int.reduceLT, Int.reduceLE, Int.reduceToNat, h2, a_rows, hx, hpart, hlen]
      refine ⟨by omega, ?_⟩
      by_cases e : k = n
      · subst e
        have : x = xn := by rw [hx] at hxn; exact Option.some.inj hxn
        subst this
        rw [hisn] at hgx
        refine call_is hgx ?_
        try simp only [I, B, D, RW, ↓ KW, fillA, setCells, stTags, flat, Nat.reduceBEq, Nat.reduceAdd, Nat.reduceLeDiff, Int.reduceNe, Int.reduceBEq, Int.reduceEq, reduceCtorEq, Nat.reduceMul, Int.reduceLT, Int.reduceLE, Int.reduceToNat]
      · have hno : is x = false := by
          refine Bool.eq_false_iff.2 (List.any_eq_false.1 hpre x ?_)
          refine List.mem_of_getElem? (i := k) ?_
          rw [List.getElem?_take, if_pos (by omega)]; exact hx
        rw [hno] at hgx
        refine call_is hgx ?_
        try simp only [I, B, D, RW, ↓ KW, fillA, setCells, stTags, flat, Nat.reduceBEq, Nat.reduceAdd, Nat.reduceLeDiff, Int.reduceNe, Int.reduceBEq, Int.reduceEq, reduceCtorEq, Nat.reduceMul, Int.reduceLT, Int.reduceLE, Int.reduceToNat]
        refine back (k + 1) _ (by omega) (by omega) ?_
        refine le_tok2 (by decide) ?_ ?_ ?_ ?_ <;> simp [intRow, ownSV, ownL, leSlots, lv_dat, lv_tok, lv_ptr, lv_rp, lv_undef, leBoxes, leTags, leLive, tokM, tokB, tokT, ren, liveInj, r_lk, r_lkN, r_lkB, r_lkN0, I, B, D, withV_some, hwr]
    · refine le_tok2 (by decide) ?_ ?_ ?_ ?_ <;> simp [intRow, ownSV, ownL, leSlots, lv_dat, lv_tok, lv_ptr, lv_rp, lv_undef, leBoxes, leTags, leLive, tokM, tokB, tokT, ren, liveInj, r_lk, r_lkN, r_lkB, r_lkN0, I, B, D, withV_some]
theorem conG.ok {fI : Nat} (hc : cFn P f = some (cc_slices_ContainsFunc_2_int_2_int fI)) (hI : idxG.Spec (Pure P) fI) : conG.Spec (Pure P) f := by
  intro l g fs cs is hl hg
  obtain ⟨n, hn, hcall⟩ := hI l g fs cs is hl hg
  refine pure_of hm hc (by show 2 ≤ 9; decide) (aw_flat (keep := []) (i := 0) ?_)
  try simp only [I, B, D, RW, ↓ KW, fillA, setCells, stTags, flat, Nat.reduceBEq, Nat.reduceAdd, Nat.reduceLeDiff, Int.reduceNe, Int.reduceBEq, Int.reduceEq, reduceCtorEq, Nat.reduceMul, Int.reduceLT, Int.reduceLE, Int.reduceToNat, cc_slices_ContainsFunc_2_int_2_int]
  refine call_is hcall ?_
  try simp only [I, B, D, RW, ↓ KW, fillA, setCells, stTags, flat, Nat.reduceBEq, Nat.reduceAdd, Nat.reduceLeDiff, Int.reduceNe, Int.reduceBEq, Int.reduceEq, reduceCtorEq, Nat.reduceMul, Int.reduceLT, Int.reduceLE, Int.reduceToNat, hn]
theorem ev1G.ok (hc : cFn P f = some cc_table_every_2_int_1) : ev1G.Spec (Pure P) f := by
  intro x g fs cs r hg
  have hpart : ∀ x : Gr, partA (Gr.cells x) 0 (some 2) = some (.agg (Gr.cells x)) := fun x => rfl
  have hlen : ∀ x : Gr, (Gr.cells x).length = 2 := fun x => rfl
  refine pure_of hm hc (by show 2 ≤ 8; decide) (aw_flat (keep := []) (i := 0) ?_)
  try simp only [I, B, D, RW, ↓ KW, fillA, setCells, stTags, flat, Nat.reduceBEq, Nat.reduceAdd, Nat.reduceLeDiff, Int.reduceNe, Int.reduceBEq, Int.reduceEq, reduceCtorEq, Nat.reduceMul, Int.reduceLT, Int.reduceLE, Int.reduceToNat, cc_table_every_2_int_1, hpart, hlen]
  refine call_is hg ?_
  try simp only [I, B, D, RW, ↓ KW, fillA, setCells, stTags, flat, Nat.reduceBEq, Nat.reduceAdd, Nat.reduceLeDiff, Int.reduceNe, Int.reduceBEq, Int.reduceEq, reduceCtorEq, Nat.reduceMul, Int.reduceLT, Int.reduceLE, Int.reduceToNat]
theorem evG.ok {f1 fC : Nat} (hc : cFn P f = some (cc_table_every_2_int f1 fC)) (h1 : ev1G.Spec (Pure P) f1) (hC : conG.Spec (Pure P) fC) : evG.Spec (Pure P) f := by
  intro l most g fs cs is hm' hg
  refine pure_of hm hc (by show 3 ≤ 17; decide) (aw_flat (keep := []) (i := 0) ?_)
  try simp only [I, B, D, RW, ↓ KW, fillA, setCells, stTags, flat, Nat.reduceBEq, Nat.reduceAdd, Nat.reduceLeDiff, Int.reduceNe, Int.reduceBEq, Int.reduceEq, reduceCtorEq, Nat.reduceMul, Int.reduceLT, Int.reduceLE, Int.reduceToNat, cc_table_every_2_int, a_len]
  cases hl : decide (((l.getD []).length : Int) ≤ most)
  · try simp only [I, B, D, RW, ↓ KW, fillA, setCells, stTags, flat, Nat.reduceBEq, Nat.reduceAdd, Nat.reduceLeDiff, Int.reduceNe, Int.reduceBEq, Int.reduceEq, reduceCtorEq, Nat.reduceMul, Int.reduceLT, Int.reduceLE, Int.reduceToNat, hl]
    rfl
  · have := of_decide_eq_true hl
    try simp only [I, B, D, RW, ↓ KW, fillA, setCells, stTags, flat, Nat.reduceBEq, Nat.reduceAdd, Nat.reduceLeDiff, Int.reduceNe, Int.reduceBEq, Int.reduceEq, reduceCtorEq, Nat.reduceMul, Int.reduceLT, Int.reduceLE, Int.reduceToNat, hl]
    refine ⟨rfl, ?_⟩
    refine call_is (hC l f1 [] [.ref [.fn (.func g) fs cs]] (fun x => !is x) (by omega) (fun x hx => h1 x g fs cs (is x) (hg x hx))) ?_
    try simp only [I, B, D, RW, ↓ KW, fillA, setCells, stTags, flat, Nat.reduceBEq, Nat.reduceAdd, Nat.reduceLeDiff, Int.reduceNe, Int.reduceBEq, Int.reduceEq, reduceCtorEq, Nat.reduceMul, Int.reduceLT, Int.reduceLE, Int.reduceToNat]
    rw [any_not]; rfl
theorem idxD.ok (hc : cFn P f = some cc_slices_IndexFunc_api_Detector_api_Detector) : idxD.Spec (Pure P) f := by
  intro l g fs cs is hl hg
  have hpart : ∀ x : Det, partA (Det.cells x) 0 (some 7) = some (.agg (Det.cells x)) := fun x => rfl
  have hlen : ∀ x : Det, (Det.cells x).length = 7 := fun x => rfl
  cases hany : (l.getD []).any is with
  | false =>
    refine ⟨-1, rfl, ?_⟩
    refine pure_of hm hc (by show 2 ≤ 19; decide) (aw_flat (keep := []) (i := 0) ?_)
    try simp only [I, B, D, RW, ↓ KW, fillA, setCells, stTags, flat, Nat.reduceBEq, Nat.reduceAdd, Nat.reduceLeDiff, Int.reduceNe, Int.reduceBEq, Int.reduceEq, reduceCtorEq, Nat.reduceMul, Int.reduceLT, Int.reduceLE, Int.reduceToNat, cc_slices_IndexFunc_api_Detector_api_Detector, a_len]
    refine aw_loop' (fun k : Nat => (⟨[(8, .dat (I k) none), (7, .dat (I ((l.getD []).length : Nat)) none), (1, .dat (.fn (.func g) fs cs) none), (0, .dat (slAV Det.cells l) none)], [], [], 400⟩ : S)) (fun k => (l.getD []).length - k) (fun k => k ≤ (l.getD []).length) ?_ 0 (by omega) ?_
    · intro k hk A back
      have hwr := wrap_succ (k := k) (by omega)
      try simp only [I, B, D, RW, ↓ KW, fillA, setCells, stTags, flat, Nat.reduceBEq, Nat.reduceAdd, Nat.reduceLeDiff, Int.reduceNe, Int.reduceBEq, Int.reduceEq, reduceCtorEq, Nat.reduceMul, Int.reduceLT, Int.reduceLE, Int.reduceToNat]
      refine cd_split (fun h2 => ?_) (fun h2 => ?_) <;> try simp only [I, B, D, RW, ↓ KW, fillA, setCells, stTags, flat, Nat.reduceBEq, Nat.reduceAdd, Nat.reduceLeDiff, Int.reduceNe, Int.reduceBEq, Int.reduceEq, reduceCtorEq, Nat.reduceMul, Int.reduceLT, Int.reduceLE, Int.reduceToNat, h2]
      · have h8 : k < (l.getD []).length := by have := of_decide_eq_true h2; omega
        obtain ⟨x, hx⟩ : ∃ x, (l.getD [])[k]? = some x := ⟨_, List.getElem?_eq_getElem h8⟩
        have hno : is x = false := List.any_eq_false.1 hany x (List.mem_of_getElem? hx) |> Bool.eq_false_iff.2
        have hgx := hg x (List.mem_of_getElem? hx)
        rw [hno] at hgx
        try simp only [I, B, D, RW, ↓ KW, fillA, setCells, stTags, flat, Nat.reduceBEq, Nat.reduceAdd, Nat.reduceLeDiff, Int.reduceNe, Int.reduceBEq, Int.reduceEq, reduceCtorEq, Nat.reduceMul, Int.reduceLT, Int.reduceLE, Int.reduceToNat, a_rows, hx, hpart, hlen]
        refine ⟨by omega, ?_⟩
        refine call_is hgx ?_
        try simp only [I, B, D, RW, ↓ KW, fillA, setCells, stTags, flat, Nat.reduceBEq, Nat.reduceAdd, Nat.reduceLeDiff, Int.reduceNe, Int.reduceBEq, Int.reduceEq, reduceCtorEq, Nat.reduceMul, Int.reduceLT, Int.reduceLE, Int.reduceToNat]
        refine back (k + 1) _ (by omega) (by omega) ?_
        refine le_tok2 (by decide) ?_ ?_ ?_ ?_ <;> simp [intRow, ownSV, ownL, leSlots, lv_dat, lv_tok, lv_ptr, lv_rp, lv_undef, leBoxes, leTags, leLive, tokM, tokB, tokT, ren, liveInj, r_lk, r_lkN, r_lkB, r_lkN0, I, B, D, withV_some, hwr]
    · refine le_tok2 (by decide) ?_ ?_ ?_ ?_ <;> simp [intRow, ownSV, ownL, leSlots, lv_dat, lv_tok, lv_ptr, lv_rp, lv_undef, leBoxes, leTags, leLive, tokM, tokB, tokT, ren, liveInj, r_lk, r_lkN, r_lkB, r_lkN0, I, B, D, withV_some]
  | true =>
    obtain ⟨n, hn, hxn⟩ : ∃ n, n < (l.getD []).length ∧ (∃ x, (l.getD [])[n]? = some x ∧ is x = true) ∧ ((l.getD []).take n).any is = false := first_of hany
    obtain ⟨⟨xn, hxn, hisn⟩, hpre⟩ := hxn
    refine ⟨n, by simp, ?_⟩
    refine pure_of hm hc (by show 2 ≤ 19; decide) (aw_flat (keep := []) (i := 0) ?_)
    try simp only [I, B, D, RW, ↓ KW, fillA, setCells, stTags, flat, Nat.reduceBEq, Nat.reduceAdd, Nat.reduceLeDiff, Int.reduceNe, Int.reduceBEq, Int.reduceEq, reduceCtorEq, Nat.reduceMul, Int.reduceLT, Int.reduceLE, Int.reduceToNat, cc_slices_IndexFunc_api_Detector_api_Detector, a_len]
    refine aw_loop' (fun k : Nat => (⟨[(8, .dat (I k) none), (7, .dat (I ((l.getD []).length : Nat)) none), (1, .dat (.fn (.func g) fs cs) none), (0, .dat (slAV Det.cells l) none)], [], [], 400⟩ : S)) (fun k => n - k) (fun k => k ≤ n) ?_ 0 (by omega) ?_
    · intro k hk A back
      have hwr := wrap_succ (k := k) (by omega)
      have h8 : k < (l.getD []).length := by omega
      have h2 : decide ((k : Int) < ((l.getD []).length : Nat)) = true := by simp; omega
      obtain ⟨x, hx⟩ : ∃ x, (l.getD [])[k]? = some x := ⟨_, List.getElem?_eq_getElem h8⟩
      have hgx := hg x (List.mem_of_getElem? hx)
      try simp only [I, B, D, RW, ↓ KW, fillA, setCells, stTags, flat, Nat.reduceBEq, Nat.reduceAdd, Nat.reduceLeDiff, Int.reduceNe, Int.reduceBEq, Int.reduceEq, reduceCtorEq, Nat.reduceMul, Int.reduceLT, Int.reduceLE, Int.reduceToNat, h2, a_rows, hx, hpart, hlen]
      refine ⟨by omega, ?_⟩
      by_cases e : k = n
      · subst e
        have : x = xn := by rw [hx] at hxn; exact Option.some.inj hxn
        subst this
        rw [hisn] at hgx
        refine call_is hgx ?_
        try simp only [I, B, D, RW, ↓ KW, fillA, setCells, stTags, flat, Nat.reduceBEq, Nat.reduceAdd, Nat.reduceLeDiff, Int.reduceNe, Int.reduceBEq, Int.reduceEq, reduceCtorEq, Nat.reduceMul, Int.reduceLT, Int.reduceLE, Int.reduceToNat]
      · have hno : is x = false := by
          refine Bool.eq_false_iff.2 (List.any_eq_false.1 hpre x ?_)
          refine List.mem_of_getElem? (i := k) ?_
          rw [List.getElem?_take, if_pos (by omega)]; exact hx
        rw [hno] at hgx
        refine call_is hgx ?_
        try simp only [I, B, D, RW, ↓ KW, fillA, setCells, stTags, flat, Nat.reduceBEq, Nat.reduceAdd, Nat.reduceLeDiff, Int.reduceNe, Int.reduceBEq, Int.reduceEq, reduceCtorEq, Nat.reduceMul, Int.reduceLT, Int.reduceLE, Int.reduceToNat]
        refine back (k + 1) _ (by omega) (by omega) ?_
        refine le_tok2 (by decide) ?_ ?_ ?_ ?_ <;> simp [intRow, ownSV, ownL, leSlots, lv_dat, lv_tok, lv_ptr, lv_rp, lv_undef, leBoxes, leTags, leLive, tokM, tokB, tokT, ren, liveInj, r_lk, r_lkN, r_lkB, r_lkN0, I, B, D, withV_some, hwr]
    · refine le_tok2 (by decide) ?_ ?_ ?_ ?_ <;> simp [intRow, ownSV, ownL, leSlots, lv_dat, lv_tok, lv_ptr, lv_rp, lv_undef, leBoxes, leTags, leLive, tokM, tokB, tokT, ren, liveInj, r_lk, r_lkN, r_lkB, r_lkN0, I, B, D, withV_some]
theorem conD.ok {fI : Nat} (hc : cFn P f = some (cc_slices_ContainsFunc_api_Detector_api_Detector fI)) (hI : idxD.Spec (Pure P) fI) : conD.Spec (Pure P) f := by
  intro l g fs cs is hl hg
  obtain ⟨n, hn, hcall⟩ := hI l g fs cs is hl hg
  refine pure_of hm hc (by show 2 ≤ 9; decide) (aw_flat (keep := []) (i := 0) ?_)
  try simp only [I, B, D, RW, ↓ KW, fillA, setCells, stTags, flat, Nat.reduceBEq, Nat.reduceAdd, Nat.reduceLeDiff, Int.reduceNe, Int.reduceBEq, Int.reduceEq, reduceCtorEq, Nat.reduceMul, Int.reduceLT, Int.reduceLE, Int.reduceToNat, cc_slices_ContainsFunc_api_Detector_api_Detector]
  refine call_is hcall ?_
  try simp only [I, B, D, RW, ↓ KW, fillA, setCells, stTags, flat, Nat.reduceBEq, Nat.reduceAdd, Nat.reduceLeDiff, Int.reduceNe, Int.reduceBEq, Int.reduceEq, reduceCtorEq, Nat.reduceMul, Int.reduceLT, Int.reduceLE, Int.reduceToNat, hn]
theorem ev1D.ok (hc : cFn P f = some cc_table_every_api_Detector_1) : ev1D.Spec (Pure P) f := by
  intro x g fs cs r hg
  have hpart : ∀ x : Det, partA (Det.cells x) 0 (some 7) = some (.agg (Det.cells x)) := fun x => rfl
  have hlen : ∀ x : Det, (Det.cells x).length = 7 := fun x => rfl
  refine pure_of hm hc (by show 2 ≤ 8; decide) (aw_flat (keep := []) (i := 0) ?_)
  try simp only [I, B, D, RW, ↓ KW, fillA, setCells, stTags, flat, Nat.reduceBEq, Nat.reduceAdd, Nat.reduceLeDiff, Int.reduceNe, Int.reduceBEq, Int.reduceEq, reduceCtorEq, Nat.reduceMul, Int.reduceLT, Int.reduceLE, Int.reduceToNat, cc_table_every_api_Detector_1, hpart, hlen]
  refine call_is hg ?_
  try simp only [I, B, D, RW, ↓ KW, fillA, setCells, stTags, flat, Nat.reduceBEq, Nat.reduceAdd, Nat.reduceLeDiff, Int.reduceNe, Int.reduceBEq, Int.reduceEq, reduceCtorEq, Nat.reduceMul, Int.reduceLT, Int.reduceLE, Int.reduceToNat]
theorem evD.ok {f1 fC : Nat} (hc : cFn P f = some (cc_table_every_api_Detector f1 fC)) (h1 : ev1D.Spec (Pure P) f1) (hC : conD.Spec (Pure P) fC) : evD.Spec (Pure P) f := by
  intro l most g fs cs is hm' hg
  refine pure_of hm hc (by show 3 ≤ 17; decide) (aw_flat (keep := []) (i := 0) ?_)
  try simp only [I, B, D, RW, ↓ KW, fillA, setCells, stTags, flat, Nat.reduceBEq, Nat.reduceAdd, Nat.reduceLeDiff, Int.reduceNe, Int.reduceBEq, Int.reduceEq, reduceCtorEq, Nat.reduceMul, Int.reduceLT, Int.reduceLE, Int.reduceToNat, cc_table_every_api_Detector, a_len]
  cases hl : decide (((l.getD []).length : Int) ≤ most)
  · try simp only [I, B, D, RW, ↓ KW, fillA, setCells, stTags, flat, Nat.reduceBEq, Nat.reduceAdd, Nat.reduceLeDiff, Int.reduceNe, Int.reduceBEq, Int.reduceEq, reduceCtorEq, Nat.reduceMul, Int.reduceLT, Int.reduceLE, Int.reduceToNat, hl]
    rfl
  · have := of_decide_eq_true hl
    try simp only [I, B, D, RW, ↓ KW, fillA, setCells, stTags, flat, Nat.reduceBEq, Nat.reduceAdd, Nat.reduceLeDiff, Int.reduceNe, Int.reduceBEq, Int.reduceEq, reduceCtorEq, Nat.reduceMul, Int.reduceLT, Int.reduceLE, Int.reduceToNat, hl]
    refine ⟨rfl, ?_⟩
    refine call_is (hC l f1 [] [.ref [.fn (.func g) fs cs]] (fun x => !is x) (by omega) (fun x hx => h1 x g fs cs (is x) (hg x hx))) ?_
    try simp only [I, B, D, RW, ↓ KW, fillA, setCells, stTags, flat, Nat.reduceBEq, Nat.reduceAdd, Nat.reduceLeDiff, Int.reduceNe, Int.reduceBEq, Int.reduceEq, reduceCtorEq, Nat.reduceMul, Int.reduceLT, Int.reduceLE, Int.reduceToNat]
    rw [any_not]; rfl
theorem idxR.ok (hc : cFn P f = some cc_slices_IndexFunc_api_Rail_api_Rail) : idxR.Spec (Pure P) f := by
  intro l g fs cs is hl hg
  have hpart : ∀ x : Rl, partA (Rl.cells x) 0 (some 11) = some (.agg (Rl.cells x)) := fun x => rfl
  have hlen : ∀ x : Rl, (Rl.cells x).length = 11 := fun x => rfl
  cases hany : (l.getD []).any is with
  | false =>
    refine ⟨-1, rfl, ?_⟩
    refine pure_of hm hc (by show 2 ≤ 19; decide) (aw_flat (keep := []) (i := 0) ?_)
    try simp only [I, B, D, RW, ↓ KW, fillA, setCells, stTags, flat, Nat.reduceBEq, Nat.reduceAdd, Nat.reduceLeDiff, Int.reduceNe, Int.reduceBEq, Int.reduceEq, reduceCtorEq, Nat.reduceMul, Int.reduceLT, Int.reduceLE, Int.reduceToNat, cc_slices_IndexFunc_api_Rail_api_Rail, a_len]
    refine aw_loop' (fun k : Nat => (⟨[(8, .dat (I k) none), (7, .dat (I ((l.getD []).length : Nat)) none), (1, .dat (.fn (.func g) fs cs) none), (0, .dat (slAV Rl.cells l) none)], [], [], 400⟩ : S)) (fun k => (l.getD []).length - k) (fun k => k ≤ (l.getD []).length) ?_ 0 (by omega) ?_
    · intro k hk A back
      have hwr := wrap_succ (k := k) (by omega)
      try simp only [I, B, D, RW, ↓ KW, fillA, setCells, stTags, flat, Nat.reduceBEq, Nat.reduceAdd, Nat.reduceLeDiff, Int.reduceNe, Int.reduceBEq, Int.reduceEq, reduceCtorEq, Nat.reduceMul, Int.reduceLT, Int.reduceLE, Int.reduceToNat]
      refine cd_split (fun h2 => ?_) (fun h2 => ?_) <;> try simp only [I, B, D, RW, ↓ KW, fillA, setCells, stTags, flat, Nat.reduceBEq, Nat.reduceAdd, Nat.reduceLeDiff, Int.reduceNe, Int.reduceBEq, Int.reduceEq, reduceCtorEq, Nat.reduceMul, Int.reduceLT, Int.reduceLE, Int.reduceToNat, h2]
      · have h8 : k < (l.getD []).length := by have := of_decide_eq_true h2; omega
        obtain ⟨x, hx⟩ : ∃ x, (l.getD [])[k]? = some x := ⟨_, List.getElem?_eq_getElem h8⟩
        have hno : is x = false := List.any_eq_false.1 hany x (List.mem_of_getElem? hx) |> Bool.eq_false_iff.2
        have hgx := hg x (List.mem_of_getElem? hx)
        rw [hno] at hgx
        try simp only [I, B, D, RW, ↓ KW, fillA, setCells, stTags, flat, Nat.reduceBEq, Nat.reduceAdd, Nat.reduceLeDiff, Int.reduceNe, Int.reduceBEq, Int.reduceEq, reduceCtorEq, Nat.reduceMul, Int.reduceLT, Int.reduceLE, Int.reduceToNat, a_rows, hx, hpart, hlen]
        refine ⟨by omega, ?_⟩
        refine call_is hgx ?_
        try simp only [I, B, D, RW, ↓ KW, fillA, setCells, stTags, flat, Nat.reduceBEq, Nat.reduceAdd, Nat.reduceLeDiff, Int.reduceNe, Int.reduceBEq, Int.reduceEq, reduceCtorEq, Nat.reduceMul, Int.reduceLT, Int.reduceLE, Int.reduceToNat]
        refine back (k + 1) _ (by omega) (by omega) ?_
        refine le_tok2 (by decide) ?_ ?_ ?_ ?_ <;> simp [intRow, ownSV, ownL, leSlots, lv_dat, lv_tok, lv_ptr, lv_rp, lv_undef, leBoxes, leTags, leLive, tokM, tokB, tokT, ren, liveInj, r_lk, r_lkN, r_lkB, r_lkN0, I, B, D, withV_some, hwr]
    · refine le_tok2 (by decide) ?_ ?_ ?_ ?_ <;> simp [intRow, ownSV, ownL, leSlots, lv_dat, lv_tok, lv_ptr, lv_rp, lv_undef, leBoxes, leTags, leLive, tokM, tokB, tokT, ren, liveInj, r_lk, r_lkN, r_lkB, r_lkN0, I, B, D, withV_some]
  | true =>
    obtain ⟨n, hn, hxn⟩ : ∃ n, n < (l.getD []).length ∧ (∃ x, (l.getD [])[n]? = some x ∧ is x = true) ∧ ((l.getD []).take n).any is = false := first_of hany
    obtain ⟨⟨xn, hxn, hisn⟩, hpre⟩ := hxn
    refine ⟨n, by simp, ?_⟩
    refine pure_of hm hc (by show 2 ≤ 19; decide) (aw_flat (keep := []) (i := 0) ?_)
    try simp only [I, B, D, RW, ↓ KW, fillA, setCells, stTags, flat, Nat.reduceBEq, Nat.reduceAdd, Nat.reduceLeDiff, Int.reduceNe, Int.reduceBEq, Int.reduceEq, reduceCtorEq, Nat.reduceMul, Int.reduceLT, Int.reduceLE, Int.reduceToNat, cc_slices_IndexFunc_api_Rail_api_Rail, a_len]
    refine aw_loop' (fun k : Nat => (⟨[(8, .dat (I k) none), (7, .dat (I ((l.getD []).length : Nat)) none), (1, .dat (.fn (.func g) fs cs) none), (0, .dat (slAV Rl.cells l) none)], [], [], 400⟩ : S)) (fun k => n - k) (fun k => k ≤ n) ?_ 0 (by omega) ?_
    · intro k hk A back
      have hwr := wrap_succ (k := k) (by omega)
      have h8 : k < (l.getD []).length := by omega
      have h2 : decide ((k : Int) < ((l.getD []).length : Nat)) = true := by simp; omega
      obtain ⟨x, hx⟩ : ∃ x, (l.getD [])[k]? = some x := ⟨_, List.getElem?_eq_getElem h8⟩
      have hgx := hg x (List.mem_of_getElem? hx)
      try simp only [I, B, D, RW, ↓ KW, fillA, setCells, stTags, flat, Nat.reduceBEq, Nat.reduceAdd, Nat.reduceLeDiff, Int.reduceNe, Int.reduceBEq, Int.reduceEq, reduceCtorEq, Nat.reduceMul, Int.reduceLT, Int.reduceLE, Int.reduceToNat, h2, a_rows, hx, hpart, hlen]
      refine ⟨by omega, ?_⟩
      by_cases e : k = n
      · subst e
        have : x = xn := by rw [hx] at hxn; exact Option.some.inj hxn
        subst this
        rw [hisn] at hgx
        refine call_is hgx ?_
        try simp only [I, B, D, RW, ↓ KW, fillA, setCells, stTags, flat, Nat.reduceBEq, Nat.reduceAdd, Nat.reduceLeDiff, Int.reduceNe, Int.reduceBEq, Int.reduceEq, reduceCtorEq, Nat.reduceMul, Int.reduceLT, Int.reduceLE, Int.reduceToNat]
      · have hno : is x = false := by
          refine Bool.eq_false_iff.2 (List.any_eq_false.1 hpre x ?_)
          refine List.mem_of_getElem? (i := k) ?_
          rw [List.getElem?_take, if_pos (by omega)]; exact hx
        rw [hno] at hgx
        refine call_is hgx ?_
        try simp only [I, B, D, RW, ↓ KW, fillA, setCells, stTags, flat, Nat.reduceBEq, Nat.reduceAdd, Nat.reduceLeDiff, Int.reduceNe, Int.reduceBEq, Int.reduceEq, reduceCtorEq, Nat.reduceMul, Int.reduceLT, Int.reduceLE, Int.reduceToNat]
        refine back (k + 1) _ (by omega) (by omega) ?_
        refine le_tok2 (by decide) ?_ ?_ ?_ ?_ <;> simp [intRow, ownSV, ownL, leSlots, lv_dat, lv_tok, lv_ptr, lv_rp, lv_undef, leBoxes, leTags, leLive, tokM, tokB, tokT, ren, liveInj, r_lk, r_lkN, r_lkB, r_lkN0, I, B, D, withV_some, hwr]
    · refine le_tok2 (by decide) ?_ ?_ ?_ ?_ <;> simp [intRow, ownSV, ownL, leSlots, lv_dat, lv_tok, lv_ptr, lv_rp, lv_undef, leBoxes, leTags, leLive, tokM, tokB, tokT, ren, liveInj, r_lk, r_lkN, r_lkB, r_lkN0, I, B, D, withV_some]
theorem conR.ok {fI : Nat} (hc : cFn P f = some (cc_slices_ContainsFunc_api_Rail_api_Rail fI)) (hI : idxR.Spec (Pure P) fI) : conR.Spec (Pure P) f := by
  intro l g fs cs is hl hg
  obtain ⟨n, hn, hcall⟩ := hI l g fs cs is hl hg
  refine pure_of hm hc (by show 2 ≤ 9; decide) (aw_flat (keep := []) (i := 0) ?_)
  try simp only [I, B, D, RW, ↓ KW, fillA, setCells, stTags, flat, Nat.reduceBEq, Nat.reduceAdd, Nat.reduceLeDiff, Int.reduceNe, Int.reduceBEq, Int.reduceEq, reduceCtorEq, Nat.reduceMul, Int.reduceLT, Int.reduceLE, Int.reduceToNat, cc_slices_ContainsFunc_api_Rail_api_Rail]
  refine call_is hcall ?_
  try simp only [I, B, D, RW, ↓ KW, fillA, setCells, stTags, flat, Nat.reduceBEq, Nat.reduceAdd, Nat.reduceLeDiff, Int.reduceNe, Int.reduceBEq, Int.reduceEq, reduceCtorEq, Nat.reduceMul, Int.reduceLT, Int.reduceLE, Int.reduceToNat, hn]
theorem ev1R.ok (hc : cFn P f = some cc_table_every_api_Rail_1) : ev1R.Spec (Pure P) f := by
  intro x g fs cs r hg
  have hpart : ∀ x : Rl, partA (Rl.cells x) 0 (some 11) = some (.agg (Rl.cells x)) := fun x => rfl
  have hlen : ∀ x : Rl, (Rl.cells x).length = 11 := fun x => rfl
  refine pure_of hm hc (by show 2 ≤ 8; decide) (aw_flat (keep := []) (i := 0) ?_)
  try simp only [I, B, D, RW, ↓ KW, fillA, setCells, stTags, flat, Nat.reduceBEq, Nat.reduceAdd, Nat.reduceLeDiff, Int.reduceNe, Int.reduceBEq, Int.reduceEq, reduceCtorEq, Nat.reduceMul, Int.reduceLT, Int.reduceLE, Int.reduceToNat, cc_table_every_api_Rail_1, hpart, hlen]
  refine call_is hg ?_
  try simp only [I, B, D, RW, ↓ KW, fillA, setCells, stTags, flat, Nat.reduceBEq, Nat.reduceAdd, Nat.reduceLeDiff, Int.reduceNe, Int.reduceBEq, Int.reduceEq, reduceCtorEq, Nat.reduceMul, Int.reduceLT, Int.reduceLE, Int.reduceToNat]
theorem evR.ok {f1 fC : Nat} (hc : cFn P f = some (cc_table_every_api_Rail f1 fC)) (h1 : ev1R.Spec (Pure P) f1) (hC : conR.Spec (Pure P) fC) : evR.Spec (Pure P) f := by
  intro l most g fs cs is hm' hg
  refine pure_of hm hc (by show 3 ≤ 17; decide) (aw_flat (keep := []) (i := 0) ?_)
  try simp only [I, B, D, RW, ↓ KW, fillA, setCells, stTags, flat, Nat.reduceBEq, Nat.reduceAdd, Nat.reduceLeDiff, Int.reduceNe, Int.reduceBEq, Int.reduceEq, reduceCtorEq, Nat.reduceMul, Int.reduceLT, Int.reduceLE, Int.reduceToNat, cc_table_every_api_Rail, a_len]
  cases hl : decide (((l.getD []).length : Int) ≤ most)
  · try simp only [I, B, D, RW, ↓ KW, fillA, setCells, stTags, flat, Nat.reduceBEq, Nat.reduceAdd, Nat.reduceLeDiff, Int.reduceNe, Int.reduceBEq, Int.reduceEq, reduceCtorEq, Nat.reduceMul, Int.reduceLT, Int.reduceLE, Int.reduceToNat, hl]
    rfl
  · have := of_decide_eq_true hl
    try simp only [I, B, D, RW, ↓ KW, fillA, setCells, stTags, flat, Nat.reduceBEq, Nat.reduceAdd, Nat.reduceLeDiff, Int.reduceNe, Int.reduceBEq, Int.reduceEq, reduceCtorEq, Nat.reduceMul, Int.reduceLT, Int.reduceLE, Int.reduceToNat, hl]
    refine ⟨rfl, ?_⟩
    refine call_is (hC l f1 [] [.ref [.fn (.func g) fs cs]] (fun x => !is x) (by omega) (fun x hx => h1 x g fs cs (is x) (hg x hx))) ?_
    try simp only [I, B, D, RW, ↓ KW, fillA, setCells, stTags, flat, Nat.reduceBEq, Nat.reduceAdd, Nat.reduceLeDiff, Int.reduceNe, Int.reduceBEq, Int.reduceEq, reduceCtorEq, Nat.reduceMul, Int.reduceLT, Int.reduceLE, Int.reduceToNat]
    rw [any_not]; rfl
theorem idxU.ok (hc : cFn P f = some cc_slices_IndexFunc_api_Bus_api_Bus) : idxU.Spec (Pure P) f := by
  intro l g fs cs is hl hg
  have hpart : ∀ x : Bs, partA (Bs.cells x) 0 (some 2) = some (.agg (Bs.cells x)) := fun x => rfl
  have hlen : ∀ x : Bs, (Bs.cells x).length = 2 := fun x => rfl
  cases hany : (l.getD []).any is with
  | false =>
    refine ⟨-1, rfl, ?_⟩
    refine pure_of hm hc (by show 2 ≤ 19; decide) (aw_flat (keep := []) (i := 0) ?_)
    try simp only [I, B, D, RW, ↓ KW, fillA, setCells, stTags, flat, Nat.reduceBEq, Nat.reduceAdd, Nat.reduceLeDiff, Int.reduceNe, Int.reduceBEq, Int.reduceEq, reduceCtorEq, Nat.reduceMul, Int.reduceLT, Int.reduceLE, Int.reduceToNat, cc_slices_IndexFunc_api_Bus_api_Bus, a_len]
    refine aw_loop' (fun k : Nat => (⟨[(8, .dat (I k) none), (7, .dat (I ((l.getD []).length : Nat)) none), (1, .dat (.fn (.func g) fs cs) none), (0, .dat (slAV Bs.cells l) none)], [], [], 400⟩ : S)) (fun k => (l.getD []).length - k) (fun k => k ≤ (l.getD []).length) ?_ 0 (by omega) ?_
    · intro k hk A back
      have hwr := wrap_succ (k := k) (by omega)
      try simp only [I, B, D, RW, ↓ KW, fillA, setCells, stTags, flat, Nat.reduceBEq, Nat.reduceAdd, Nat.reduceLeDiff, Int.reduceNe, Int.reduceBEq, Int.reduceEq, reduceCtorEq, Nat.reduceMul, Int.reduceLT, Int.reduceLE, Int.reduceToNat]
      refine cd_split (fun h2 => ?_) (fun h2 => ?_) <;> try simp only [I, B, D, RW, ↓ KW, fillA, setCells, stTags, flat, Nat.reduceBEq, Nat.reduceAdd, Nat.reduceLeDiff, Int.reduceNe, Int.reduceBEq, Int.reduceEq, reduceCtorEq, Nat.reduceMul, Int.reduceLT, Int.reduceLE, Int.reduceToNat, h2]
      · have h8 : k < (l.getD []).length := by have := of_decide_eq_true h2; omega
        obtain ⟨x, hx⟩ : ∃ x, (l.getD [])[k]? = some x := ⟨_, List.getElem?_eq_getElem h8⟩
        have hno : is x = false := List.any_eq_false.1 hany x (List.mem_of_getElem? hx) |> Bool.eq_false_iff.2
        have hgx := hg x (List.mem_of_getElem? hx)
        rw [hno] at hgx
        try simp only [I, B, D, RW, ↓ KW, fillA, setCells, stTags, flat, Nat.reduceBEq, Nat.reduceAdd, Nat.reduceLeDiff, Int.reduceNe, Int.reduceBEq, Int.reduceEq, reduceCtorEq, Nat.reduceMul, Int.reduceLT, Int.reduceLE, Int.reduceToNat, a_rows, hx, hpart, hlen]
        refine ⟨by omega, ?_⟩
        refine call_is hgx ?_
        try simp only [I, B, D, RW, ↓ KW, fillA, setCells, stTags, flat, Nat.reduceBEq, Nat.reduceAdd, Nat.reduceLeDiff, Int.reduceNe, Int.reduceBEq, Int.reduceEq, reduceCtorEq, Nat.reduceMul, Int.reduceLT, Int.reduceLE, Int.reduceToNat]
        refine back (k + 1) _ (by omega) (by omega) ?_
        refine le_tok2 (by decide) ?_ ?_ ?_ ?_ <;> simp [intRow, ownSV, ownL, leSlots, lv_dat, lv_tok, lv_ptr, lv_rp, lv_undef, leBoxes, leTags, leLive, tokM, tokB, tokT, ren, liveInj, r_lk, r_lkN, r_lkB, r_lkN0, I, B, D, withV_some, hwr]
    · refine le_tok2 (by decide) ?_ ?_ ?_ ?_ <;> simp [intRow, ownSV, ownL, leSlots, lv_dat, lv_tok, lv_ptr, lv_rp, lv_undef, leBoxes, leTags, leLive, tokM, tokB, tokT, ren, liveInj, r_lk, r_lkN, r_lkB, r_lkN0, I, B, D, withV_some]
  | true =>
    obtain ⟨n, hn, hxn⟩ : ∃ n, n < (l.getD []).length ∧ (∃ x, (l.getD [])[n]? = some x ∧ is x = true) ∧ ((l.getD []).take n).any is = false := first_of hany
    obtain ⟨⟨xn, hxn, hisn⟩, hpre⟩ := hxn
    refine ⟨n, by simp, ?_⟩
    refine pure_of hm hc (by show 2 ≤ 19; decide) (aw_flat (keep := []) (i := 0) ?_)
    try simp only [I, B, D, RW, ↓ KW, fillA, setCells, stTags, flat, Nat.reduceBEq, Nat.reduceAdd, Nat.reduceLeDiff, Int.reduceNe, Int.reduceBEq, Int.reduceEq, reduceCtorEq, Nat.reduceMul, Int.reduceLT, Int.reduceLE, Int.reduceToNat, cc_slices_IndexFunc_api_Bus_api_Bus, a_len]
    refine aw_loop' (fun k : Nat => (⟨[(8, .dat (I k) none), (7, .dat (I ((l.getD []).length : Nat)) none), (1, .dat (.fn (.func g) fs cs) none), (0, .dat (slAV Bs.cells l) none)], [], [], 400⟩ : S)) (fun k => n - k) (fun k => k ≤ n) ?_ 0 (by omega) ?_
    · intro k hk A back
      have hwr := wrap_succ (k := k) (by omega)
      have h8 : k < (l.getD []).length := by omega
      have h2 : decide ((k : Int) < ((l.getD []).length : Nat)) = true := by simp; omega
      obtain ⟨x, hx⟩ : ∃ x, (l.getD [])[k]? = some x := ⟨_, List.getElem?_eq_getElem h8⟩
      have hgx := hg x (List.mem_of_getElem? hx)
      try simp only [I, B, D, RW, ↓ KW, fillA, setCells, stTags, flat, Nat.reduceBEq, Nat.reduceAdd, Nat.reduceLeDiff, Int.reduceNe, Int.reduceBEq, Int.reduceEq, reduceCtorEq, Nat.reduceMul, Int.reduceLT, Int.reduceLE, Int.reduceToNat, h2, a_rows, hx, hpart, hlen]
      refine ⟨by omega, ?_⟩
      by_cases e : k = n
      · subst e
        have : x = xn := by rw [hx] at hxn; exact Option.some.inj hxn
        subst this
        rw [hisn] at hgx
        refine call_is hgx ?_
        try simp only [I, B, D, RW, ↓ KW, fillA, setCells, stTags, flat, Nat.reduceBEq, Nat.reduceAdd, Nat.reduceLeDiff, Int.reduceNe, Int.reduceBEq, Int.reduceEq, reduceCtorEq, Nat.reduceMul, Int.reduceLT, Int.reduceLE, Int.reduceToNat]
      · have hno : is x = false := by
          refine Bool.eq_false_iff.2 (List.any_eq_false.1 hpre x ?_)
          refine List.mem_of_getElem? (i := k) ?_
          rw [List.getElem?_take, if_pos (by omega)]; exact hx
        rw [hno] at hgx
        refine call_is hgx ?_
        try simp only [I, B, D, RW, ↓ KW, fillA, setCells, stTags, flat, Nat.reduceBEq, Nat.reduceAdd, Nat.reduceLeDiff, Int.reduceNe, Int.reduceBEq, Int.reduceEq, reduceCtorEq, Nat.reduceMul, Int.reduceLT, Int.reduceLE, Int.reduceToNat]
        refine back (k + 1) _ (by omega) (by omega) ?_
        refine le_tok2 (by decide) ?_ ?_ ?_ ?_ <;> simp [intRow, ownSV, ownL, leSlots, lv_dat, lv_tok, lv_ptr, lv_rp, lv_undef, leBoxes, leTags, leLive, tokM, tokB, tokT, ren, liveInj, r_lk, r_lkN, r_lkB, r_lkN0, I, B, D, withV_some, hwr]
    · refine le_tok2 (by decide) ?_ ?_ ?_ ?_ <;> simp [intRow, ownSV, ownL, leSlots, lv_dat, lv_tok, lv_ptr, lv_rp, lv_undef, leBoxes, leTags, leLive, tokM, tokB, tokT, ren, liveInj, r_lk, r_lkN, r_lkB, r_lkN0, I, B, D, withV_some]
theorem conU.ok {fI : Nat} (hc : cFn P f = some (cc_slices_ContainsFunc_api_Bus_api_Bus fI)) (hI : idxU.Spec (Pure P) fI) : conU.Spec (Pure P) f := by
  intro l g fs cs is hl hg
  obtain ⟨n, hn, hcall⟩ := hI l g fs cs is hl hg
  refine pure_of hm hc (by show 2 ≤ 9; decide) (aw_flat (keep := []) (i := 0) ?_)
  try simp only [I, B, D, RW, ↓ KW, fillA, setCells, stTags, flat, Nat.reduceBEq, Nat.reduceAdd, Nat.reduceLeDiff, Int.reduceNe, Int.reduceBEq, Int.reduceEq, reduceCtorEq, Nat.reduceMul, Int.reduceLT, Int.reduceLE, Int.reduceToNat, cc_slices_ContainsFunc_api_Bus_api_Bus]
  refine call_is hcall ?_
  try simp only [I, B, D, RW, ↓ KW, fillA, setCells, stTags, flat, Nat.reduceBEq, Nat.reduceAdd, Nat.reduceLeDiff, Int.reduceNe, Int.reduceBEq, Int.reduceEq, reduceCtorEq, Nat.reduceMul, Int.reduceLT, Int.reduceLE, Int.reduceToNat, hn]
theorem ev1U.ok (hc : cFn P f = some cc_table_every_api_Bus_1) : ev1U.Spec (Pure P) f := by
  intro x g fs cs r hg
  have hpart : ∀ x : Bs, partA (Bs.cells x) 0 (some 2) = some (.agg (Bs.cells x)) := fun x => rfl
  have hlen : ∀ x : Bs, (Bs.cells x).length = 2 := fun x => rfl
  refine pure_of hm hc (by show 2 ≤ 8; decide) (aw_flat (keep := []) (i := 0) ?_)
  try simp only [I, B, D, RW, ↓ KW, fillA, setCells, stTags, flat, Nat.reduceBEq, Nat.reduceAdd, Nat.reduceLeDiff, Int.reduceNe, Int.reduceBEq, Int.reduceEq, reduceCtorEq, Nat.reduceMul, Int.reduceLT, Int.reduceLE, Int.reduceToNat, cc_table_every_api_Bus_1, hpart, hlen]
  refine call_is hg ?_
  try simp only [I, B, D, RW, ↓ KW, fillA, setCells, stTags, flat, Nat.reduceBEq, Nat.reduceAdd, Nat.reduceLeDiff, Int.reduceNe, Int.reduceBEq, Int.reduceEq, reduceCtorEq, Nat.reduceMul, Int.reduceLT, Int.reduceLE, Int.reduceToNat]
theorem evU.ok {f1 fC : Nat} (hc : cFn P f = some (cc_table_every_api_Bus f1 fC)) (h1 : ev1U.Spec (Pure P) f1) (hC : conU.Spec (Pure P) fC) : evU.Spec (Pure P) f := by
  intro l most g fs cs is hm' hg
  refine pure_of hm hc (by show 3 ≤ 17; decide) (aw_flat (keep := []) (i := 0) ?_)
  try simp only [I, B, D, RW, ↓ KW, fillA, setCells, stTags, flat, Nat.reduceBEq, Nat.reduceAdd, Nat.reduceLeDiff, Int.reduceNe, Int.reduceBEq, Int.reduceEq, reduceCtorEq, Nat.reduceMul, Int.reduceLT, Int.reduceLE, Int.reduceToNat, cc_table_every_api_Bus, a_len]
  cases hl : decide (((l.getD []).length : Int) ≤ most)
  · try simp only [I, B, D, RW, ↓ KW, fillA, setCells, stTags, flat, Nat.reduceBEq, Nat.reduceAdd, Nat.reduceLeDiff, Int.reduceNe, Int.reduceBEq, Int.reduceEq, reduceCtorEq, Nat.reduceMul, Int.reduceLT, Int.reduceLE, Int.reduceToNat, hl]
    rfl
  · have := of_decide_eq_true hl
    try simp only [I, B, D, RW, ↓ KW, fillA, setCells, stTags, flat, Nat.reduceBEq, Nat.reduceAdd, Nat.reduceLeDiff, Int.reduceNe, Int.reduceBEq, Int.reduceEq, reduceCtorEq, Nat.reduceMul, Int.reduceLT, Int.reduceLE, Int.reduceToNat, hl]
    refine ⟨rfl, ?_⟩
    refine call_is (hC l f1 [] [.ref [.fn (.func g) fs cs]] (fun x => !is x) (by omega) (fun x hx => h1 x g fs cs (is x) (hg x hx))) ?_
    try simp only [I, B, D, RW, ↓ KW, fillA, setCells, stTags, flat, Nat.reduceBEq, Nat.reduceAdd, Nat.reduceLeDiff, Int.reduceNe, Int.reduceBEq, Int.reduceEq, reduceCtorEq, Nat.reduceMul, Int.reduceLT, Int.reduceLE, Int.reduceToNat]
    rw [any_not]; rfl
end
end Go.Eng
namespace Go.Eng
set_option linter.unusedVariables false
set_option linter.unusedSimpArgs false
set_option linter.unnecessarySimpa false
open Go
set_option linter.unusedVariables false
set_option linter.unusedSimpArgs false
set_option maxRecDepth 10000
set_option maxHeartbeats 4000000
theorem chunk_flat {α : Type} {g : α → List AV} {z : Nat} (hg : ∀ x, (g x).length = z) : ∀ (l : List α) (rest : List AV), chunkA z l.length (l.flatMap g ++ rest) = l.map g
  | [], rest => rfl
  | x :: l, rest => by
    simp only [List.length_cons, chunkA, List.flatMap_cons, List.append_assoc, List.map_cons]
    rw [List.take_left' (hg x), List.drop_left' (hg x), chunk_flat hg l rest]
theorem chunk_ints (l : List Int) (rest : List AV) : chunkA 1 l.length (l.map I ++ rest) = l.map intRow := by
  have e : l.map I = l.flatMap intRow := by
    induction l with
    | nil => rfl
    | cons a l ih => rw [List.map_cons, List.flatMap_cons, ih]; rfl
  rw [e]
  exact chunk_flat (g := intRow) (z := 1) (fun _ => rfl) l rest
section
variable {t : Tb} (h : t.Ln)
include h
theorem tb_chP : chunkA 13 8 t.cells = t.phases.map Ph.cells := by
  have := chunk_flat (g := Ph.cells) (z := 13) Ph.len t.phases
  rw [h.phases] at this
  exact this _
theorem tb_drop105 : t.cells.drop 105 = t.conflict.map I ++ (slAV Det.cells t.detectors :: slAV Rl.cells t.rails :: slAV Bs.cells t.buses ::
    I t.extend :: I t.budget :: I t.start :: I t.revert :: I t.least :: (t.flash.map I ++ [I t.window, I t.share])) := by
  have e : (t.phases.flatMap Ph.cells).length = 104 := by rw [flatMap_len Ph.len, h.phases]
  have e2 : t.cells.drop 105 = (t.cells.drop 104).drop 1 := by rw [List.drop_drop]
  rw [e2, Tb.cells, List.drop_left' e]; rfl
theorem tb_chC : chunkA 1 8 (t.cells.drop 105) = t.conflict.map intRow := by
  have := chunk_ints t.conflict
  rw [h.conflict] at this
  rw [tb_drop105 h]; exact this _
theorem tb_chF : chunkA 1 8 (t.cells.drop 121) = t.flash.map intRow := by
  have := chunk_ints t.flash
  rw [h.flash] at this
  have e : t.cells.drop 121 = (t.cells.drop 105).drop 16 := by rw [List.drop_drop]
  have e2 : ∀ l : List AV, l.drop 16 = (l.drop 8).drop 8 := fun l => by rw [List.drop_drop]
  rw [e, tb_drop105 h, e2, List.drop_left' (by simp [h.conflict])]; exact this _
theorem tb_104 : t.cells[104]? = some (slAV Gr.cells t.groups) := by
  simp [Tb.cells, List.getElem?_append, flatMap_len Ph.len, h.phases, h.conflict, h.flash, List.getElem?_cons]
theorem tb_nums : t.cells[116]? = some (I t.extend) ∧ t.cells[117]? = some (I t.budget) ∧ t.cells[118]? = some (I t.start) ∧ t.cells[119]? = some (I t.revert) ∧ t.cells[120]? = some (I t.least) ∧ t.cells[129]? = some (I t.window) ∧ t.cells[130]? = some (I t.share) := by
  refine ⟨?_, ?_, ?_, ?_, ?_, ?_, ?_⟩ <;> simp [Tb.cells, List.getElem?_append, flatMap_len Ph.len, h.phases, h.conflict, h.flash, List.getElem?_cons]
end
theorem gt_drop {cs : List AV} {j : Nat} {v : AV} (h : cs[j]? = some v) : (cs.drop j)[0]? = some v := by rw [List.getElem?_drop]; exact h
def mayPh (p : Ph) : Bool := [p.min, p.gap, p.max, p.top, p.step, p.yellow, p.red, p.walk, p.blinks].all (wI 9999) && [p.recall].all (wI 3)
def mayRow (l : Option (List Int)) : Bool := decide (((l.getD []).length : Int) ≤ 8) && (l.getD []).all fun p => [p].all (wI 7)
def mayGr (g : Gr) : Bool := mayRow g.a && mayRow g.b
def lvl (x : Nat) : Bool := gtF x 0 && leF x 4696837146684686336
def sgnB (x : Nat) : Bool := decide (IntKind.i64.wrap (x : Int) < 0)
def secsOk (x : Nat) : Bool := inR x && !sgnB x
def mayDet (d : Det) : Bool := (((([d.phase].all (wI 7) && lvl d.on) && lvl d.off) && secsOk d.delay) && secsOk d.extend) && [d.maxOn, d.maxOff].all (wI 9999)
def mayRl (r : Rl) : Bool := ([r.bars, r.clear, r.dwell, r.exit].all (wI 255) && [r.delay, r.green, r.foot, r.hold, r.stay, r.most].all (wI 9999)) && [r.limit].all (wI 2147483647)
def mayBs (b : Bs) : Bool := [b.set].all (wI 255) && [b.lock].all (wI 9999)
def mayT (t : Tb) : Bool :=
  (((((((t.phases.all mayPh && (decide (((t.groups.getD []).length : Int) ≤ 4) && (t.groups.getD []).all mayGr)) && t.conflict.all (wI 255)) &&
    (decide (((t.detectors.getD []).length : Int) ≤ 16) && (t.detectors.getD []).all mayDet)) && (decide (((t.rails.getD []).length : Int) ≤ 4) && (t.rails.getD []).all mayRl)) &&
    (decide (((t.buses.getD []).length : Int) ≤ 4) && (t.buses.getD []).all mayBs)) && [t.extend, t.budget, t.start, t.revert, t.least].all (wI 9999)) && t.flash.all (wI 2)) && [t.window, t.share].all (wI 2147483647)
def Det.Fw (d : Det) : Prop := d.on < 2 ^ 64 ∧ d.off < 2 ^ 64 ∧ d.delay < 2 ^ 64 ∧ d.extend < 2 ^ 64
def Tb.Fw (t : Tb) : Prop := ∀ d ∈ t.detectors.getD [], d.Fw
def with1.Spec (C : Con) (f : Nat) : Prop := ∀ m n : Int, C.c f [I n, .ref [I m]] (B (wI m n)) none
def within.Spec (C : Con) (f : Nat) : Prop := ∀ (m : Int) (l : Option (List Int)), (l.getD []).length ≤ 1000000 → C.c f [I m, slAV intRow l] (B ((l.getD []).all (wI m))) none
def tTimes.Spec (C : Con) (f : Nat) : Prop := ∀ l : Option (List Int), (l.getD []).length ≤ 1000000 → C.c f [slAV intRow l] (B ((l.getD []).all (wI 9999))) none
def tPhase.Spec (C : Con) (f : Nat) : Prop := ∀ p : Ph, C.c f [.agg p.cells] (B (mayPh p)) none
def tG11.Spec (C : Con) (f : Nat) : Prop := ∀ p : Int, C.c f [I p] (B ([p].all (wI 7))) none
def tG1.Spec (C : Con) (f : Nat) : Prop := ∀ l : Option (List Int), C.c f [slAV intRow l] (B (mayRow l)) none
def tGroup.Spec (C : Con) (f : Nat) : Prop := ∀ g : Gr, C.c f [.agg g.cells] (B (mayGr g)) none
def sgn.Spec (C : Con) (f : Nat) : Prop := ∀ x : Nat, C.c f [Fl x] (B (sgnB x)) none
def tSecs.Spec (C : Con) (f : Nat) : Prop := ∀ x : Nat, x < 2 ^ 64 → C.c f [Fl x] (B (secsOk x)) none
def tDet1.Spec (C : Con) (f : Nat) : Prop := ∀ x : Nat, C.c f [Fl x] (B (lvl x)) none
def tDet.Spec (C : Con) (f : Nat) : Prop := ∀ d : Det, d.Fw → C.c f [.agg d.cells] (B (mayDet d)) none
def tRail.Spec (C : Con) (f : Nat) : Prop := ∀ r : Rl, C.c f [.agg r.cells] (B (mayRl r)) none
def tBus.Spec (C : Con) (f : Nat) : Prop := ∀ b : Bs, C.c f [.agg b.cells] (B (mayBs b)) none
def tMay.Spec (C : Con) (f : Nat) : Prop := ∀ t : Tb, t.Ln → t.Fw → C.c f [.agg t.cells] (B (mayT t)) none
section
variable {P : Program} (hm : P.follows .mixedOrders = true) {f : Nat}
include hm
theorem with1.ok (hc : cFn P f = some cc_table_within_1) : with1.Spec (Pure P) f := by
  intro m n
  rw [wI]
  refine pure_of hm hc (by show 2 ≤ 11; decide) (aw_flat (keep := []) (i := 0) ?_)
  try simp only [I, B, D, RW, ↓ KW, fillA, setCells, stTags, flat, Nat.reduceBEq, Nat.reduceAdd, Nat.reduceLeDiff, Int.reduceNe, Int.reduceBEq, Int.reduceEq, reduceCtorEq, Nat.reduceMul, Int.reduceLT, Int.reduceLE, Int.reduceToNat, cc_table_within_1]
  cases h : decide (n ≥ 0)
  · try simp only [I, B, D, RW, ↓ KW, fillA, setCells, stTags, flat, Nat.reduceBEq, Nat.reduceAdd, Nat.reduceLeDiff, Int.reduceNe, Int.reduceBEq, Int.reduceEq, reduceCtorEq, Nat.reduceMul, Int.reduceLT, Int.reduceLE, Int.reduceToNat, h]
    rfl
  · try simp only [I, B, D, RW, ↓ KW, fillA, setCells, stTags, flat, Nat.reduceBEq, Nat.reduceAdd, Nat.reduceLeDiff, Int.reduceNe, Int.reduceBEq, Int.reduceEq, reduceCtorEq, Nat.reduceMul, Int.reduceLT, Int.reduceLE, Int.reduceToNat, h]
    rfl
theorem within.ok {f1 fE : Nat} (hc : cFn P f = some (cc_table_within f1 fE)) (h1 : with1.Spec (Pure P) f1) (hE : evI.Spec (Pure P) fE) : within.Spec (Pure P) f := by
  intro m l hl
  have h2 : decide (((l.getD []).length : Int) ≤ ((l.getD []).length : Nat)) = true := by simp
  have he := hE l ((l.getD []).length : Nat) f1 [] [.ref [I m]] (wI m) (by omega) (fun x _ => h1 m x)
  rw [h2, Bool.true_and] at he
  refine pure_of hm hc (by show 2 ≤ 10; decide) (aw_flat (keep := []) (i := 0) ?_)
  try simp only [I, B, D, RW, ↓ KW, fillA, setCells, stTags, flat, Nat.reduceBEq, Nat.reduceAdd, Nat.reduceLeDiff, Int.reduceNe, Int.reduceBEq, Int.reduceEq, reduceCtorEq, Nat.reduceMul, Int.reduceLT, Int.reduceLE, Int.reduceToNat, cc_table_within, a_len]
  refine ⟨rfl, ?_⟩
  refine call_is he ?_
  try simp only [I, B, D, RW, ↓ KW, fillA, setCells, stTags, flat, Nat.reduceBEq, Nat.reduceAdd, Nat.reduceLeDiff, Int.reduceNe, Int.reduceBEq, Int.reduceEq, reduceCtorEq, Nat.reduceMul, Int.reduceLT, Int.reduceLE, Int.reduceToNat]
theorem tTimes.ok {fW : Nat} (hc : cFn P f = some (cc_table_times fW)) (hW : within.Spec (Pure P) fW) : tTimes.Spec (Pure P) f := by
  intro l hl
  refine pure_of hm hc (by show 1 ≤ 5; decide) (aw_flat (keep := []) (i := 0) ?_)
  try simp only [I, B, D, RW, ↓ KW, fillA, setCells, stTags, flat, Nat.reduceBEq, Nat.reduceAdd, Nat.reduceLeDiff, Int.reduceNe, Int.reduceBEq, Int.reduceEq, reduceCtorEq, Nat.reduceMul, Int.reduceLT, Int.reduceLE, Int.reduceToNat, cc_table_times]
  refine call_is (hW 9999 l hl) ?_
  try simp only [I, B, D, RW, ↓ KW, fillA, setCells, stTags, flat, Nat.reduceBEq, Nat.reduceAdd, Nat.reduceLeDiff, Int.reduceNe, Int.reduceBEq, Int.reduceEq, reduceCtorEq, Nat.reduceMul, Int.reduceLT, Int.reduceLE, Int.reduceToNat]
theorem tPhase.ok {e fT fW : Nat} (hc : cFn P f = some (cc_table_phase e fT fW)) (hT : tTimes.Spec (Pure P) fT) (hW : within.Spec (Pure P) fW) : tPhase.Spec (Pure P) f := by
  intro p
  have ht := hT (some [p.min, p.gap, p.max, p.top, p.step, p.yellow, p.red, p.walk, p.blinks]) (by simp)
  have hw := hW 3 (some [p.recall]) (by simp)
  simp only [Option.getD_some] at ht hw
  generalize hb1 : [p.min, p.gap, p.max, p.top, p.step, p.yellow, p.red, p.walk, p.blinks].all (wI 9999) = b1 at ht
  generalize hb2 : [p.recall].all (wI 3) = b2 at hw
  rw [mayPh, hb1, hb2]
  clear hb1 hb2
  refine pure_of hm hc (by show 1 ≤ 29; decide) (aw_flat (keep := []) (i := 0) ?_)
  try simp only [I, B, D, RW, ↓ KW, fillA, setCells, stTags, flat, Nat.reduceBEq, Nat.reduceAdd, Nat.reduceLeDiff, Int.reduceNe, Int.reduceBEq, Int.reduceEq, reduceCtorEq, Nat.reduceMul, Int.reduceLT, Int.reduceLE, Int.reduceToNat, cc_table_phase, Ph.cells]
  refine call_is ht ?_
  cases b1
  · try simp only [I, B, D, RW, ↓ KW, fillA, setCells, stTags, flat, Nat.reduceBEq, Nat.reduceAdd, Nat.reduceLeDiff, Int.reduceNe, Int.reduceBEq, Int.reduceEq, reduceCtorEq, Nat.reduceMul, Int.reduceLT, Int.reduceLE, Int.reduceToNat]
    rfl
  · try simp only [I, B, D, RW, ↓ KW, fillA, setCells, stTags, flat, Nat.reduceBEq, Nat.reduceAdd, Nat.reduceLeDiff, Int.reduceNe, Int.reduceBEq, Int.reduceEq, reduceCtorEq, Nat.reduceMul, Int.reduceLT, Int.reduceLE, Int.reduceToNat]
    refine call_is hw ?_
    try simp only [I, B, D, RW, ↓ KW, fillA, setCells, stTags, flat, Nat.reduceBEq, Nat.reduceAdd, Nat.reduceLeDiff, Int.reduceNe, Int.reduceBEq, Int.reduceEq, reduceCtorEq, Nat.reduceMul, Int.reduceLT, Int.reduceLE, Int.reduceToNat]
    rfl
theorem tG11.ok {e fW : Nat} (hc : cFn P f = some (cc_table_group_1_1 e fW)) (hW : within.Spec (Pure P) fW) : tG11.Spec (Pure P) f := by
  intro p
  refine pure_of hm hc (by show 1 ≤ 6; decide) (aw_flat (keep := []) (i := 0) ?_)
  try simp only [I, B, D, RW, ↓ KW, fillA, setCells, stTags, flat, Nat.reduceBEq, Nat.reduceAdd, Nat.reduceLeDiff, Int.reduceNe, Int.reduceBEq, Int.reduceEq, reduceCtorEq, Nat.reduceMul, Int.reduceLT, Int.reduceLE, Int.reduceToNat, cc_table_group_1_1]
  refine call_is (hW 7 (some [p]) (by simp)) ?_
  try simp only [I, B, D, RW, ↓ KW, fillA, setCells, stTags, flat, Nat.reduceBEq, Nat.reduceAdd, Nat.reduceLeDiff, Int.reduceNe, Int.reduceBEq, Int.reduceEq, reduceCtorEq, Nat.reduceMul, Int.reduceLT, Int.reduceLE, Int.reduceToNat]
  rfl
theorem tG1.ok {fE f1 : Nat} (hc : cFn P f = some (cc_table_group_1 fE f1)) (hE : evI.Spec (Pure P) fE) (h1 : tG11.Spec (Pure P) f1) : tG1.Spec (Pure P) f := by
  intro l
  refine pure_of hm hc (by show 1 ≤ 5; decide) (aw_flat (keep := []) (i := 0) ?_)
  try simp only [I, B, D, RW, ↓ KW, fillA, setCells, stTags, flat, Nat.reduceBEq, Nat.reduceAdd, Nat.reduceLeDiff, Int.reduceNe, Int.reduceBEq, Int.reduceEq, reduceCtorEq, Nat.reduceMul, Int.reduceLT, Int.reduceLE, Int.reduceToNat, cc_table_group_1]
  refine call_is (hE l 8 f1 [] [] (fun p => [p].all (wI 7)) (by omega) (fun p _ => h1 p)) ?_
  try simp only [I, B, D, RW, ↓ KW, fillA, setCells, stTags, flat, Nat.reduceBEq, Nat.reduceAdd, Nat.reduceLeDiff, Int.reduceNe, Int.reduceBEq, Int.reduceEq, reduceCtorEq, Nat.reduceMul, Int.reduceLT, Int.reduceLE, Int.reduceToNat]
  rfl
theorem tGroup.ok {f1 : Nat} (hc : cFn P f = some (cc_table_group f1)) (h1 : tG1.Spec (Pure P) f1) : tGroup.Spec (Pure P) f := by
  intro g
  have ha := h1 g.a
  have hb := h1 g.b
  rw [mayGr]
  generalize mayRow g.a = b1 at *
  generalize mayRow g.b = b2 at *
  refine pure_of hm hc (by show 1 ≤ 14; decide) (aw_flat (keep := []) (i := 0) ?_)
  try simp only [I, B, D, RW, ↓ KW, fillA, setCells, stTags, flat, Nat.reduceBEq, Nat.reduceAdd, Nat.reduceLeDiff, Int.reduceNe, Int.reduceBEq, Int.reduceEq, reduceCtorEq, Nat.reduceMul, Int.reduceLT, Int.reduceLE, Int.reduceToNat, cc_table_group, Gr.cells]
  refine ⟨by omega, ?_⟩
  refine call_is ha ?_
  cases b1
  · try simp only [I, B, D, RW, ↓ KW, fillA, setCells, stTags, flat, Nat.reduceBEq, Nat.reduceAdd, Nat.reduceLeDiff, Int.reduceNe, Int.reduceBEq, Int.reduceEq, reduceCtorEq, Nat.reduceMul, Int.reduceLT, Int.reduceLE, Int.reduceToNat]
    rfl
  · try simp only [I, B, D, RW, ↓ KW, fillA, setCells, stTags, flat, Nat.reduceBEq, Nat.reduceAdd, Nat.reduceLeDiff, Int.reduceNe, Int.reduceBEq, Int.reduceEq, reduceCtorEq, Nat.reduceMul, Int.reduceLT, Int.reduceLE, Int.reduceToNat]
    refine ⟨by omega, ?_⟩
    refine call_is hb ?_
    try simp only [I, B, D, RW, ↓ KW, fillA, setCells, stTags, flat, Nat.reduceBEq, Nat.reduceAdd, Nat.reduceLeDiff, Int.reduceNe, Int.reduceBEq, Int.reduceEq, reduceCtorEq, Nat.reduceMul, Int.reduceLT, Int.reduceLE, Int.reduceToNat]
    rfl
theorem sgn.ok (hc : cFn P f = some cc_math_Signbit) : sgn.Spec (Pure P) f := by
  intro x
  refine pure_of hm hc (by show 1 ≤ 7; decide) (aw_flat (keep := []) (i := 0) ?_)
  try simp only [I, B, D, RW, ↓ KW, fillA, setCells, stTags, flat, Nat.reduceBEq, Nat.reduceAdd, Nat.reduceLeDiff, Int.reduceNe, Int.reduceBEq, Int.reduceEq, reduceCtorEq, Nat.reduceMul, Int.reduceLT, Int.reduceLE, Int.reduceToNat, cc_math_Signbit]
  rfl
theorem tSecs.ok {fT fS : Nat} (hc : cFn P f = some (cc_table_seconds fT fS)) (hT : sTicks.Spec (Pure P) fT) (hS : sgn.Spec (Pure P) fS) : tSecs.Spec (Pure P) f := by
  intro x hx
  have ht := hT x hx
  rw [tkAV] at ht
  rw [secsOk]
  have hs := hS x
  generalize inR x = b1 at *
  generalize sgnB x = b2 at *
  refine pure_of hm hc (by show 1 ≤ 16; decide) (aw_flat (keep := []) (i := 0) ?_)
  try simp only [I, B, D, RW, ↓ KW, fillA, setCells, stTags, flat, Nat.reduceBEq, Nat.reduceAdd, Nat.reduceLeDiff, Int.reduceNe, Int.reduceBEq, Int.reduceEq, reduceCtorEq, Nat.reduceMul, Int.reduceLT, Int.reduceLE, Int.reduceToNat, cc_table_seconds]
  refine call_is ht ?_
  cases b1
  · try simp only [I, B, D, RW, ↓ KW, fillA, setCells, stTags, flat, Nat.reduceBEq, Nat.reduceAdd, Nat.reduceLeDiff, Int.reduceNe, Int.reduceBEq, Int.reduceEq, reduceCtorEq, Nat.reduceMul, Int.reduceLT, Int.reduceLE, Int.reduceToNat]
    rfl
  · try simp only [I, B, D, RW, ↓ KW, fillA, setCells, stTags, flat, Nat.reduceBEq, Nat.reduceAdd, Nat.reduceLeDiff, Int.reduceNe, Int.reduceBEq, Int.reduceEq, reduceCtorEq, Nat.reduceMul, Int.reduceLT, Int.reduceLE, Int.reduceToNat]
    refine call_is hs ?_
    try simp only [I, B, D, RW, ↓ KW, fillA, setCells, stTags, flat, Nat.reduceBEq, Nat.reduceAdd, Nat.reduceLeDiff, Int.reduceNe, Int.reduceBEq, Int.reduceEq, reduceCtorEq, Nat.reduceMul, Int.reduceLT, Int.reduceLE, Int.reduceToNat]
    rfl
theorem tDet1.ok (hc : cFn P f = some cc_table_detector_1) : tDet1.Spec (Pure P) f := by
  intro x
  refine pure_of hm hc (by show 1 ≤ 9; decide) (aw_flat (keep := []) (i := 0) ?_)
  try simp only [I, B, D, RW, ↓ KW, fillA, setCells, stTags, flat, Nat.reduceBEq, Nat.reduceAdd, Nat.reduceLeDiff, Int.reduceNe, Int.reduceBEq, Int.reduceEq, reduceCtorEq, Nat.reduceMul, Int.reduceLT, Int.reduceLE, Int.reduceToNat, cc_table_detector_1, FLW]
  rw [lvl]
  generalize gtF x 0 = b1 at *
  cases b1
  · try simp only [I, B, D, RW, ↓ KW, fillA, setCells, stTags, flat, Nat.reduceBEq, Nat.reduceAdd, Nat.reduceLeDiff, Int.reduceNe, Int.reduceBEq, Int.reduceEq, reduceCtorEq, Nat.reduceMul, Int.reduceLT, Int.reduceLE, Int.reduceToNat]
    rfl
  · try simp only [I, B, D, RW, ↓ KW, fillA, setCells, stTags, flat, Nat.reduceBEq, Nat.reduceAdd, Nat.reduceLeDiff, Int.reduceNe, Int.reduceBEq, Int.reduceEq, reduceCtorEq, Nat.reduceMul, Int.reduceLT, Int.reduceLE, Int.reduceToNat, FLW]
    rfl
theorem tDet.ok {f1 e fW fS fT : Nat} (hc : cFn P f = some (cc_table_detector f1 e fW fS fT)) (h1 : tDet1.Spec (Pure P) f1) (hW : within.Spec (Pure P) fW) (hS : tSecs.Spec (Pure P) fS) (hT : tTimes.Spec (Pure P) fT) : tDet.Spec (Pure P) f := by
  intro d hd
  have c1 := hW 7 (some [d.phase]) (by simp)
  have c2 := h1 d.on
  have c3 := h1 d.off
  have c4 := hS d.delay hd.2.2.1
  have c5 := hS d.extend hd.2.2.2
  have c6 := hT (some [d.maxOn, d.maxOff]) (by simp)
  simp only [Option.getD_some] at c1 c6
  rw [mayDet]
  generalize [d.phase].all (wI 7) = b1 at *
  generalize lvl d.on = b2 at *
  generalize lvl d.off = b3 at *
  generalize secsOk d.delay = b4 at *
  generalize secsOk d.extend = b5 at *
  generalize [d.maxOn, d.maxOff].all (wI 9999) = b6 at *
  refine pure_of hm hc (by show 1 ≤ 38; decide) (aw_flat (keep := []) (i := 0) ?_)
  try simp only [I, B, D, RW, ↓ KW, fillA, setCells, stTags, flat, Nat.reduceBEq, Nat.reduceAdd, Nat.reduceLeDiff, Int.reduceNe, Int.reduceBEq, Int.reduceEq, reduceCtorEq, Nat.reduceMul, Int.reduceLT, Int.reduceLE, Int.reduceToNat, cc_table_detector, Det.cells]
  refine call_is c1 ?_
  cases b1
  · try simp only [I, B, D, RW, ↓ KW, fillA, setCells, stTags, flat, Nat.reduceBEq, Nat.reduceAdd, Nat.reduceLeDiff, Int.reduceNe, Int.reduceBEq, Int.reduceEq, reduceCtorEq, Nat.reduceMul, Int.reduceLT, Int.reduceLE, Int.reduceToNat]
    rfl
  try simp only [I, B, D, RW, ↓ KW, fillA, setCells, stTags, flat, Nat.reduceBEq, Nat.reduceAdd, Nat.reduceLeDiff, Int.reduceNe, Int.reduceBEq, Int.reduceEq, reduceCtorEq, Nat.reduceMul, Int.reduceLT, Int.reduceLE, Int.reduceToNat]
  refine call_is c2 ?_
  cases b2
  · try simp only [I, B, D, RW, ↓ KW, fillA, setCells, stTags, flat, Nat.reduceBEq, Nat.reduceAdd, Nat.reduceLeDiff, Int.reduceNe, Int.reduceBEq, Int.reduceEq, reduceCtorEq, Nat.reduceMul, Int.reduceLT, Int.reduceLE, Int.reduceToNat]
    rfl
  try simp only [I, B, D, RW, ↓ KW, fillA, setCells, stTags, flat, Nat.reduceBEq, Nat.reduceAdd, Nat.reduceLeDiff, Int.reduceNe, Int.reduceBEq, Int.reduceEq, reduceCtorEq, Nat.reduceMul, Int.reduceLT, Int.reduceLE, Int.reduceToNat]
  refine call_is c3 ?_
  cases b3
  · try simp only [I, B, D, RW, ↓ KW, fillA, setCells, stTags, flat, Nat.reduceBEq, Nat.reduceAdd, Nat.reduceLeDiff, Int.reduceNe, Int.reduceBEq, Int.reduceEq, reduceCtorEq, Nat.reduceMul, Int.reduceLT, Int.reduceLE, Int.reduceToNat]
    rfl
  try simp only [I, B, D, RW, ↓ KW, fillA, setCells, stTags, flat, Nat.reduceBEq, Nat.reduceAdd, Nat.reduceLeDiff, Int.reduceNe, Int.reduceBEq, Int.reduceEq, reduceCtorEq, Nat.reduceMul, Int.reduceLT, Int.reduceLE, Int.reduceToNat]
  refine call_is c4 ?_
  cases b4
  · try simp only [I, B, D, RW, ↓ KW, fillA, setCells, stTags, flat, Nat.reduceBEq, Nat.reduceAdd, Nat.reduceLeDiff, Int.reduceNe, Int.reduceBEq, Int.reduceEq, reduceCtorEq, Nat.reduceMul, Int.reduceLT, Int.reduceLE, Int.reduceToNat]
    rfl
  try simp only [I, B, D, RW, ↓ KW, fillA, setCells, stTags, flat, Nat.reduceBEq, Nat.reduceAdd, Nat.reduceLeDiff, Int.reduceNe, Int.reduceBEq, Int.reduceEq, reduceCtorEq, Nat.reduceMul, Int.reduceLT, Int.reduceLE, Int.reduceToNat]
  refine call_is c5 ?_
  cases b5
  · try simp only [I, B, D, RW, ↓ KW, fillA, setCells, stTags, flat, Nat.reduceBEq, Nat.reduceAdd, Nat.reduceLeDiff, Int.reduceNe, Int.reduceBEq, Int.reduceEq, reduceCtorEq, Nat.reduceMul, Int.reduceLT, Int.reduceLE, Int.reduceToNat]
    rfl
  try simp only [I, B, D, RW, ↓ KW, fillA, setCells, stTags, flat, Nat.reduceBEq, Nat.reduceAdd, Nat.reduceLeDiff, Int.reduceNe, Int.reduceBEq, Int.reduceEq, reduceCtorEq, Nat.reduceMul, Int.reduceLT, Int.reduceLE, Int.reduceToNat]
  refine call_is c6 ?_
  try simp only [I, B, D, RW, ↓ KW, fillA, setCells, stTags, flat, Nat.reduceBEq, Nat.reduceAdd, Nat.reduceLeDiff, Int.reduceNe, Int.reduceBEq, Int.reduceEq, reduceCtorEq, Nat.reduceMul, Int.reduceLT, Int.reduceLE, Int.reduceToNat]
  rfl
theorem tRail.ok {e fW fT : Nat} (hc : cFn P f = some (cc_table_rail e fW fT)) (hW : within.Spec (Pure P) fW) (hT : tTimes.Spec (Pure P) fT) : tRail.Spec (Pure P) f := by
  intro r
  have c1 := hW 255 (some [r.bars, r.clear, r.dwell, r.exit]) (by simp)
  have c2 := hT (some [r.delay, r.green, r.foot, r.hold, r.stay, r.most]) (by simp)
  have c3 := hW 2147483647 (some [r.limit]) (by simp)
  simp only [Option.getD_some] at c1 c2 c3
  rw [mayRl]
  generalize [r.bars, r.clear, r.dwell, r.exit].all (wI 255) = b1 at *
  generalize [r.delay, r.green, r.foot, r.hold, r.stay, r.most].all (wI 9999) = b2 at *
  generalize [r.limit].all (wI 2147483647) = b3 at *
  refine pure_of hm hc (by show 1 ≤ 35; decide) (aw_flat (keep := []) (i := 0) ?_)
  try simp only [I, B, D, RW, ↓ KW, fillA, setCells, stTags, flat, Nat.reduceBEq, Nat.reduceAdd, Nat.reduceLeDiff, Int.reduceNe, Int.reduceBEq, Int.reduceEq, reduceCtorEq, Nat.reduceMul, Int.reduceLT, Int.reduceLE, Int.reduceToNat, cc_table_rail, Rl.cells]
  refine call_is c1 ?_
  cases b1
  · try simp only [I, B, D, RW, ↓ KW, fillA, setCells, stTags, flat, Nat.reduceBEq, Nat.reduceAdd, Nat.reduceLeDiff, Int.reduceNe, Int.reduceBEq, Int.reduceEq, reduceCtorEq, Nat.reduceMul, Int.reduceLT, Int.reduceLE, Int.reduceToNat]
    rfl
  try simp only [I, B, D, RW, ↓ KW, fillA, setCells, stTags, flat, Nat.reduceBEq, Nat.reduceAdd, Nat.reduceLeDiff, Int.reduceNe, Int.reduceBEq, Int.reduceEq, reduceCtorEq, Nat.reduceMul, Int.reduceLT, Int.reduceLE, Int.reduceToNat]
  refine call_is c2 ?_
  cases b2
  · try simp only [I, B, D, RW, ↓ KW, fillA, setCells, stTags, flat, Nat.reduceBEq, Nat.reduceAdd, Nat.reduceLeDiff, Int.reduceNe, Int.reduceBEq, Int.reduceEq, reduceCtorEq, Nat.reduceMul, Int.reduceLT, Int.reduceLE, Int.reduceToNat]
    rfl
  try simp only [I, B, D, RW, ↓ KW, fillA, setCells, stTags, flat, Nat.reduceBEq, Nat.reduceAdd, Nat.reduceLeDiff, Int.reduceNe, Int.reduceBEq, Int.reduceEq, reduceCtorEq, Nat.reduceMul, Int.reduceLT, Int.reduceLE, Int.reduceToNat]
  refine call_is c3 ?_
  try simp only [I, B, D, RW, ↓ KW, fillA, setCells, stTags, flat, Nat.reduceBEq, Nat.reduceAdd, Nat.reduceLeDiff, Int.reduceNe, Int.reduceBEq, Int.reduceEq, reduceCtorEq, Nat.reduceMul, Int.reduceLT, Int.reduceLE, Int.reduceToNat]
  rfl
theorem tBus.ok {e fW fT : Nat} (hc : cFn P f = some (cc_table_bus e fW fT)) (hW : within.Spec (Pure P) fW) (hT : tTimes.Spec (Pure P) fT) : tBus.Spec (Pure P) f := by
  intro b
  have c1 := hW 255 (some [b.set]) (by simp)
  have c2 := hT (some [b.lock]) (by simp)
  simp only [Option.getD_some] at c1 c2
  rw [mayBs]
  generalize [b.set].all (wI 255) = b1 at *
  generalize [b.lock].all (wI 9999) = b2 at *
  refine pure_of hm hc (by show 1 ≤ 13; decide) (aw_flat (keep := []) (i := 0) ?_)
  try simp only [I, B, D, RW, ↓ KW, fillA, setCells, stTags, flat, Nat.reduceBEq, Nat.reduceAdd, Nat.reduceLeDiff, Int.reduceNe, Int.reduceBEq, Int.reduceEq, reduceCtorEq, Nat.reduceMul, Int.reduceLT, Int.reduceLE, Int.reduceToNat, cc_table_bus, Bs.cells]
  refine call_is c1 ?_
  cases b1
  · try simp only [I, B, D, RW, ↓ KW, fillA, setCells, stTags, flat, Nat.reduceBEq, Nat.reduceAdd, Nat.reduceLeDiff, Int.reduceNe, Int.reduceBEq, Int.reduceEq, reduceCtorEq, Nat.reduceMul, Int.reduceLT, Int.reduceLE, Int.reduceToNat]
    rfl
  try simp only [I, B, D, RW, ↓ KW, fillA, setCells, stTags, flat, Nat.reduceBEq, Nat.reduceAdd, Nat.reduceLeDiff, Int.reduceNe, Int.reduceBEq, Int.reduceEq, reduceCtorEq, Nat.reduceMul, Int.reduceLT, Int.reduceLE, Int.reduceToNat]
  refine call_is c2 ?_
  try simp only [I, B, D, RW, ↓ KW, fillA, setCells, stTags, flat, Nat.reduceBEq, Nat.reduceAdd, Nat.reduceLeDiff, Int.reduceNe, Int.reduceBEq, Int.reduceEq, reduceCtorEq, Nat.reduceMul, Int.reduceLT, Int.reduceLE, Int.reduceToNat]
  rfl
theorem tMay.ok {fEP fP fEG fG fW fED fD fER fR fEB fB e fT : Nat} (hc : cFn P f = some (cc_table_May fEP fP fEG fG fW fED fD fER fR fEB fB e fT)) (hEP : evP.Spec (Pure P) fEP) (hP : tPhase.Spec (Pure P) fP) (hEG : evG.Spec (Pure P) fEG) (hG : tGroup.Spec (Pure P) fG)
    (hW : within.Spec (Pure P) fW) (hED : evD.Spec (Pure P) fED) (hD : tDet.Spec (Pure P) fD) (hER : evR.Spec (Pure P) fER) (hR : tRail.Spec (Pure P) fR) (hEB : evU.Spec (Pure P) fEB) (hB : tBus.Spec (Pure P) fB) (hT : tTimes.Spec (Pure P) fT) : tMay.Spec (Pure P) f := by
  intro t h hfw
  have c1 := hEP (some t.phases) 8 fP [] [] mayPh (by decide) (fun p _ => hP p)
  have c2 := hEG t.groups 4 fG [] [] mayGr (by decide) (fun g _ => hG g)
  have c3 := hW 255 (some t.conflict) (by simp [h.conflict])
  have c4 := hED t.detectors 16 fD [] [] mayDet (by decide) (fun d hd => hD d (hfw d hd))
  have c5 := hER t.rails 4 fR [] [] mayRl (by decide) (fun g _ => hR g)
  have c6 := hEB t.buses 4 fB [] [] mayBs (by decide) (fun g _ => hB g)
  have c7 := hT (some [t.extend, t.budget, t.start, t.revert, t.least]) (by simp)
  have c8 := hW 2 (some t.flash) (by simp [h.flash])
  have c9 := hW 2147483647 (some [t.window, t.share]) (by simp)
  simp only [Option.getD_some] at c1 c2 c3 c4 c5 c6 c7 c8 c9
  have h8 : decide ((t.phases.length : Int) ≤ 8) = true := by simp [h.phases]
  rw [h8, Bool.true_and] at c1
  rw [mayT]
  generalize t.phases.all mayPh = b1 at *
  generalize (decide (((t.groups.getD []).length : Int) ≤ 4) && (t.groups.getD []).all mayGr) = b2 at *
  generalize t.conflict.all (wI 255) = b3 at *
  generalize (decide (((t.detectors.getD []).length : Int) ≤ 16) && (t.detectors.getD []).all mayDet) = b4 at *
  generalize (decide (((t.rails.getD []).length : Int) ≤ 4) && (t.rails.getD []).all mayRl) = b5 at *
  generalize (decide (((t.buses.getD []).length : Int) ≤ 4) && (t.buses.getD []).all mayBs) = b6 at *
  generalize [t.extend, t.budget, t.start, t.revert, t.least].all (wI 9999) = b7 at *
  generalize t.flash.all (wI 2) = b8 at *
  generalize [t.window, t.share].all (wI 2147483647) = b9 at *
  have hw := h.whole
  have hl := h.len
  have k1 := tb_chP h
  have k2 := tb_chC h
  have k3 := tb_chF h
  have g1 := gt_drop (tb_104 h)
  have g2 := gt_drop h.at113
  have g3 := gt_drop h.at114
  have g4 := gt_drop h.at115
  obtain ⟨n1, n2, n3, n4, n5, n6, n7⟩ := tb_nums h
  have m1 := gt_drop n1
  have m2 := gt_drop n2
  have m3 := gt_drop n3
  have m4 := gt_drop n4
  have m5 := gt_drop n5
  have m6 := gt_drop n6
  have m7 := gt_drop n7
  refine pure_of hm hc (by show 1 ≤ 58; decide) (aw_flat (keep := []) (i := 0) ?_)
  try simp only [I, B, D, RW, ↓ KW, fillA, setCells, stTags, flat, Nat.reduceBEq, Nat.reduceAdd, Nat.reduceLeDiff, Int.reduceNe, Int.reduceBEq, Int.reduceEq, reduceCtorEq, Nat.reduceMul, Int.reduceLT, Int.reduceLE, Int.reduceToNat, cc_table_May, hl, k1, k2, k3, g1, g2, g3, g4, m1, m2, m3, m4, m5, m6, m7, List.drop_zero, List.length_drop]
  refine call_is c1 ?_
  cases b1
  · try simp only [I, B, D, RW, ↓ KW, fillA, setCells, stTags, flat, Nat.reduceBEq, Nat.reduceAdd, Nat.reduceLeDiff, Int.reduceNe, Int.reduceBEq, Int.reduceEq, reduceCtorEq, Nat.reduceMul, Int.reduceLT, Int.reduceLE, Int.reduceToNat, hl, k1, k2, k3, g1, g2, g3, g4, m1, m2, m3, m4, m5, m6, m7, List.drop_zero, List.length_drop]
    rfl
  try simp only [I, B, D, RW, ↓ KW, fillA, setCells, stTags, flat, Nat.reduceBEq, Nat.reduceAdd, Nat.reduceLeDiff, Int.reduceNe, Int.reduceBEq, Int.reduceEq, reduceCtorEq, Nat.reduceMul, Int.reduceLT, Int.reduceLE, Int.reduceToNat, hl, k1, k2, k3, g1, g2, g3, g4, m1, m2, m3, m4, m5, m6, m7, List.drop_zero, List.length_drop]
  refine call_is c2 ?_
  cases b2
  · try simp only [I, B, D, RW, ↓ KW, fillA, setCells, stTags, flat, Nat.reduceBEq, Nat.reduceAdd, Nat.reduceLeDiff, Int.reduceNe, Int.reduceBEq, Int.reduceEq, reduceCtorEq, Nat.reduceMul, Int.reduceLT, Int.reduceLE, Int.reduceToNat, hl, k1, k2, k3, g1, g2, g3, g4, m1, m2, m3, m4, m5, m6, m7, List.drop_zero, List.length_drop]
    rfl
  try simp only [I, B, D, RW, ↓ KW, fillA, setCells, stTags, flat, Nat.reduceBEq, Nat.reduceAdd, Nat.reduceLeDiff, Int.reduceNe, Int.reduceBEq, Int.reduceEq, reduceCtorEq, Nat.reduceMul, Int.reduceLT, Int.reduceLE, Int.reduceToNat, hl, k1, k2, k3, g1, g2, g3, g4, m1, m2, m3, m4, m5, m6, m7, List.drop_zero, List.length_drop]
  refine ⟨by omega, ?_⟩
  refine call_is c3 ?_
  cases b3
  · try simp only [I, B, D, RW, ↓ KW, fillA, setCells, stTags, flat, Nat.reduceBEq, Nat.reduceAdd, Nat.reduceLeDiff, Int.reduceNe, Int.reduceBEq, Int.reduceEq, reduceCtorEq, Nat.reduceMul, Int.reduceLT, Int.reduceLE, Int.reduceToNat, hl, k1, k2, k3, g1, g2, g3, g4, m1, m2, m3, m4, m5, m6, m7, List.drop_zero, List.length_drop]
    rfl
  try simp only [I, B, D, RW, ↓ KW, fillA, setCells, stTags, flat, Nat.reduceBEq, Nat.reduceAdd, Nat.reduceLeDiff, Int.reduceNe, Int.reduceBEq, Int.reduceEq, reduceCtorEq, Nat.reduceMul, Int.reduceLT, Int.reduceLE, Int.reduceToNat, hl, k1, k2, k3, g1, g2, g3, g4, m1, m2, m3, m4, m5, m6, m7, List.drop_zero, List.length_drop]
  refine call_is c4 ?_
  cases b4
  · try simp only [I, B, D, RW, ↓ KW, fillA, setCells, stTags, flat, Nat.reduceBEq, Nat.reduceAdd, Nat.reduceLeDiff, Int.reduceNe, Int.reduceBEq, Int.reduceEq, reduceCtorEq, Nat.reduceMul, Int.reduceLT, Int.reduceLE, Int.reduceToNat, hl, k1, k2, k3, g1, g2, g3, g4, m1, m2, m3, m4, m5, m6, m7, List.drop_zero, List.length_drop]
    rfl
  try simp only [I, B, D, RW, ↓ KW, fillA, setCells, stTags, flat, Nat.reduceBEq, Nat.reduceAdd, Nat.reduceLeDiff, Int.reduceNe, Int.reduceBEq, Int.reduceEq, reduceCtorEq, Nat.reduceMul, Int.reduceLT, Int.reduceLE, Int.reduceToNat, hl, k1, k2, k3, g1, g2, g3, g4, m1, m2, m3, m4, m5, m6, m7, List.drop_zero, List.length_drop]
  refine call_is c5 ?_
  cases b5
  · try simp only [I, B, D, RW, ↓ KW, fillA, setCells, stTags, flat, Nat.reduceBEq, Nat.reduceAdd, Nat.reduceLeDiff, Int.reduceNe, Int.reduceBEq, Int.reduceEq, reduceCtorEq, Nat.reduceMul, Int.reduceLT, Int.reduceLE, Int.reduceToNat, hl, k1, k2, k3, g1, g2, g3, g4, m1, m2, m3, m4, m5, m6, m7, List.drop_zero, List.length_drop]
    rfl
  try simp only [I, B, D, RW, ↓ KW, fillA, setCells, stTags, flat, Nat.reduceBEq, Nat.reduceAdd, Nat.reduceLeDiff, Int.reduceNe, Int.reduceBEq, Int.reduceEq, reduceCtorEq, Nat.reduceMul, Int.reduceLT, Int.reduceLE, Int.reduceToNat, hl, k1, k2, k3, g1, g2, g3, g4, m1, m2, m3, m4, m5, m6, m7, List.drop_zero, List.length_drop]
  refine call_is c6 ?_
  cases b6
  · try simp only [I, B, D, RW, ↓ KW, fillA, setCells, stTags, flat, Nat.reduceBEq, Nat.reduceAdd, Nat.reduceLeDiff, Int.reduceNe, Int.reduceBEq, Int.reduceEq, reduceCtorEq, Nat.reduceMul, Int.reduceLT, Int.reduceLE, Int.reduceToNat, hl, k1, k2, k3, g1, g2, g3, g4, m1, m2, m3, m4, m5, m6, m7, List.drop_zero, List.length_drop]
    rfl
  try simp only [I, B, D, RW, ↓ KW, fillA, setCells, stTags, flat, Nat.reduceBEq, Nat.reduceAdd, Nat.reduceLeDiff, Int.reduceNe, Int.reduceBEq, Int.reduceEq, reduceCtorEq, Nat.reduceMul, Int.reduceLT, Int.reduceLE, Int.reduceToNat, hl, k1, k2, k3, g1, g2, g3, g4, m1, m2, m3, m4, m5, m6, m7, List.drop_zero, List.length_drop]
  refine call_is c7 ?_
  cases b7
  · try simp only [I, B, D, RW, ↓ KW, fillA, setCells, stTags, flat, Nat.reduceBEq, Nat.reduceAdd, Nat.reduceLeDiff, Int.reduceNe, Int.reduceBEq, Int.reduceEq, reduceCtorEq, Nat.reduceMul, Int.reduceLT, Int.reduceLE, Int.reduceToNat, hl, k1, k2, k3, g1, g2, g3, g4, m1, m2, m3, m4, m5, m6, m7, List.drop_zero, List.length_drop]
    rfl
  try simp only [I, B, D, RW, ↓ KW, fillA, setCells, stTags, flat, Nat.reduceBEq, Nat.reduceAdd, Nat.reduceLeDiff, Int.reduceNe, Int.reduceBEq, Int.reduceEq, reduceCtorEq, Nat.reduceMul, Int.reduceLT, Int.reduceLE, Int.reduceToNat, hl, k1, k2, k3, g1, g2, g3, g4, m1, m2, m3, m4, m5, m6, m7, List.drop_zero, List.length_drop]
  refine ⟨by omega, ?_⟩
  refine call_is c8 ?_
  cases b8
  · try simp only [I, B, D, RW, ↓ KW, fillA, setCells, stTags, flat, Nat.reduceBEq, Nat.reduceAdd, Nat.reduceLeDiff, Int.reduceNe, Int.reduceBEq, Int.reduceEq, reduceCtorEq, Nat.reduceMul, Int.reduceLT, Int.reduceLE, Int.reduceToNat, hl, k1, k2, k3, g1, g2, g3, g4, m1, m2, m3, m4, m5, m6, m7, List.drop_zero, List.length_drop]
    rfl
  try simp only [I, B, D, RW, ↓ KW, fillA, setCells, stTags, flat, Nat.reduceBEq, Nat.reduceAdd, Nat.reduceLeDiff, Int.reduceNe, Int.reduceBEq, Int.reduceEq, reduceCtorEq, Nat.reduceMul, Int.reduceLT, Int.reduceLE, Int.reduceToNat, hl, k1, k2, k3, g1, g2, g3, g4, m1, m2, m3, m4, m5, m6, m7, List.drop_zero, List.length_drop]
  refine call_is c9 ?_
  try simp only [I, B, D, RW, ↓ KW, fillA, setCells, stTags, flat, Nat.reduceBEq, Nat.reduceAdd, Nat.reduceLeDiff, Int.reduceNe, Int.reduceBEq, Int.reduceEq, reduceCtorEq, Nat.reduceMul, Int.reduceLT, Int.reduceLE, Int.reduceToNat]
  rfl
end
end Go.Eng
namespace Go.Eng
set_option linter.unusedVariables false
set_option linter.unusedSimpArgs false
set_option linter.unnecessarySimpa false
open Go
set_option linter.unusedVariables false
set_option linter.unusedSimpArgs false
set_option maxRecDepth 10000
set_option maxHeartbeats 4000000
theorem all_take {α : Type} {l : List α} {is : α → Bool} {k : Nat} {x : α} (hx : l[k]? = some x) : (l.take (k + 1)).all is = ((l.take k).all is && is x) := by
  rw [List.take_add_one, hx, List.all_append]; simp
theorem all_no {α : Type} {l : List α} {is : α → Bool} {k : Nat} {x : α} (hx : l[k]? = some x) (h : is x = false) : l.all is = false := by
  rw [List.all_eq_false]; exact ⟨x, List.mem_of_getElem? hx, by rw [h]; simp⟩
end Go.Eng
namespace Go.Eng
set_option linter.unusedVariables false
set_option linter.unusedSimpArgs false
set_option linter.unnecessarySimpa false
open Go
set_option linter.unusedVariables false
set_option linter.unusedSimpArgs false
set_option maxRecDepth 10000
set_option maxHeartbeats 4000000
structure Rd where
  lock : List Int
  was : Int
  spent : Int
  deriving Inhabited, DecidableEq
def Rd.cells (s : Rd) : List AV := s.lock.map I ++ [I s.was, I s.spent]
structure Rn where
  colour : Int
  time : Int
  fst : Int
  ftime : Int
  left : Int
  press : Int
  extra : Int
  done : Bool
  maxed : Bool
  limit : Int
  up : Int
  down : Int
  deriving Inhabited, DecidableEq
def Rn.cells (r : Rn) : List AV := [I r.colour, I r.time, I r.fst, I r.ftime, I r.left, I r.press, I r.extra, B r.done, B r.maxed, I r.limit, I r.up, I r.down]
theorem Rn.len (r : Rn) : r.cells.length = 12 := rfl
def runsC (l : List Rn) : List AV := l.flatMap Rn.cells
theorem runsC_len {l : List Rn} (h : l.length = 8) : (runsC l).length = 96 := by rw [runsC, flatMap_len Rn.len, h]
def lockAt (s : Rd) (k : Nat) : Int := s.lock.getD k 0
def nBus (t : Tb) : Nat := min (t.buses.getD []).length 4
theorem Rd.len {s : Rd} (h : s.lock.length = 4) : s.cells.length = 6 := by simp [Rd.cells, h]
theorem Rd.whole {s : Rd} (h : s.lock.length = 4) : partA s.cells 0 (some 6) = some (.agg s.cells) := by
  have := Rd.len h
  simp [partA, this]
  rw [← this, List.take_length]
end Go.Eng
namespace Go.Eng
set_option linter.unusedVariables false
set_option linter.unusedSimpArgs false
set_option linter.unnecessarySimpa false
open Go
set_option linter.unusedVariables false
set_option linter.unusedSimpArgs false
set_option maxRecDepth 10000
set_option maxHeartbeats 4000000
def Sh.setT (s : Sh) (k : Nat) (x : Int) : Sh := { s with time := s.time.set k x }
section
variable {s : Sh} (h : s.Ok) {k : Nat} (hk : k < 8) (x : Int)
include h
theorem Sh.okT : (s.setT k x).Ok := ⟨h.colour, by simp [Sh.setT, h.time], h.foot, h.ftime⟩
include hk
end
structure Rng where
  group : Int
  a0 : Int
  a1 : Int
  cross : Bool
  deriving Inhabited, DecidableEq
def Rng.cells (r : Rng) : List AV := [I r.group, I r.a0, I r.a1, B r.cross]
structure Pr where
  stage : Int
  which : Int
  time : Int
  held : List Int
  spent : Int
  deriving Inhabited, DecidableEq
def Pr.cells (p : Pr) : List AV := I p.stage :: I p.which :: I p.time :: (p.held.map I ++ [I p.spent])
structure Ch where
  on : Bool
  bad : Int
  won : Int
  woff : Int
  held : Int
  tail : Int
  out : Bool
  deriving Inhabited, DecidableEq
def Ch.cells (c : Ch) : List AV := [B c.on, I c.bad, I c.won, I c.woff, I c.held, I c.tail, B c.out]
structure Stt where
  runs : List Rn
  rings : Rng
  ride : Rd
  pre : Pr
  calls : Cs
  chans : Option (List Ch)
  deriving Inhabited, DecidableEq
def Stt.cells (s : Stt) : List AV := runsC s.runs ++ (s.rings.cells ++ (s.ride.cells ++ (s.pre.cells ++ (s.calls.cells ++ [slAV Ch.cells s.chans]))))
structure Stt.Ok (s : Stt) : Prop where
  runs : s.runs.length = 8
  lock : s.ride.lock.length = 4
  held : s.pre.held.length = 4
section
variable {s : Stt} (h : s.Ok)
include h
theorem Stt.len : s.cells.length = 117 := by
  simp [Stt.cells, runsC_len h.runs, Rng.cells, Rd.cells, Pr.cells, Cs.cells, h.lock, h.held]
theorem Stt.whole : partA s.cells 0 (some 117) = some (.agg s.cells) := by
  have := Stt.len h
  simp [partA, this]
  rw [← this, List.take_length]
end
end Go.Eng
namespace Go.Eng
set_option linter.unusedVariables false
set_option linter.unusedSimpArgs false
set_option linter.unnecessarySimpa false
open Go
set_option linter.unusedVariables false
set_option linter.unusedSimpArgs false
set_option maxRecDepth 10000
set_option maxHeartbeats 4000000
structure DInv (t : Tb) (s : Rd) : Prop where
  len : s.lock.length = 4
  spent : s.spent = 0
  lo : ∀ k, 0 ≤ lockAt s k ∧ lockAt s k ≤ 30
  off : ∀ k, nBus t ≤ k → lockAt s k = 0
  was : ∀ k, tb s.was k = true → k < nBus t
end Go.Eng
namespace Go.Eng
set_option linter.unusedVariables false
set_option linter.unusedSimpArgs false
set_option linter.unnecessarySimpa false
open Go
set_option linter.unusedVariables false
set_option linter.unusedSimpArgs false
set_option maxRecDepth 10000
set_option maxHeartbeats 4000000
theorem ceq_ints : ∀ (l l' : List Int) (n : Nat) (ks : List CK) (as bs : List AV), l.length = n → l'.length = n → cellsEq (List.replicate n .i ++ ks) (l.map I ++ as) (l'.map I ++ bs) = (cellsEq ks as bs).map fun r => decide (l = l') && r
  | [], [], n, ks, as, bs, h, h' => by subst h; cases h : cellsEq ks as bs <;> simp [h]
  | [], y :: l', n, ks, as, bs, h, h' => by simp at h h'; omega
  | x :: l, [], n, ks, as, bs, h, h' => by simp at h h'; omega
  | x :: l, y :: l', 0, ks, as, bs, h, h' => by simp at h
  | x :: l, y :: l', n + 1, ks, as, bs, h, h' => by
    have ih := ceq_ints l l' n ks as bs (by simpa using h) (by simpa using h')
    simp only [List.replicate_succ, List.cons_append, List.map_cons, cellsEq, cellEq, if_true, ih]
    cases cellsEq ks as bs with
    | none => rfl
    | some r =>
      simp only [Option.map_some, Option.some.injEq, List.cons.injEq]
      by_cases h1 : x = y <;> by_cases h2 : l = l' <;> simp [h1, h2]
end Go.Eng
namespace Go.Eng
set_option linter.unusedVariables false
set_option linter.unusedSimpArgs false
set_option linter.unnecessarySimpa false
open Go
set_option linter.unusedVariables false
set_option linter.unusedSimpArgs false
set_option maxRecDepth 10000
set_option maxHeartbeats 4000000
def Tb.nm (t : Tb) : Tb := { t with groups := some ((t.groups.getD []).map fun g => ⟨some (g.a.getD []), some (g.b.getD [])⟩), detectors := some (t.detectors.getD []), rails := some (t.rails.getD []), buses := some (t.buses.getD []) }
def EqS {α : Type} (row : α → List AV) (eq : α → α → Bool) (C : Con) (f : Nat) : Prop := ∀ l m : Option (List α), (l.getD []).length ≤ 2000000 → C.c f [slAV row l, slAV row m] (B (decide ((l.getD []).length = (m.getD []).length) && ((l.getD []).zip (m.getD [])).all fun p => eq p.1 p.2)) none
def EfS {α : Type} (row : α → List AV) (v : α → AV) (C : Con) (f : Nat) : Prop := ∀ (l m : Option (List α)) (g : Nat) (eq : α → α → Bool), (l.getD []).length ≤ 2000000 → (∀ x ∈ l.getD [], ∀ y ∈ m.getD [], C.c g [v x, v y] (B (eq x y)) none) →
  C.c f [slAV row l, slAV row m, .fn (.func g) [] []] (B (decide ((l.getD []).length = (m.getD []).length) && ((l.getD []).zip (m.getD [])).all fun p => eq p.1 p.2)) none
def eqInt (x y : Int) : Bool := x == y
def eqRl (x y : Rl) : Bool := decide (x = y)
def eqBs (x y : Bs) : Bool := decide (x = y)
theorem zip_same {α : Type} {eq : α → α → Bool} (he : ∀ x y, eq x y = true ↔ x = y) : ∀ l m : List α, (decide (l.length = m.length) && (l.zip m).all fun p => eq p.1 p.2) = true ↔ l = m
  | [], [] => by simp
  | [], _ :: _ => by simp
  | _ :: _, [] => by simp
  | x :: l, y :: m => by
    have ih := zip_same he l m
    simp only [List.length_cons, List.zip_cons_cons, List.all_cons, Bool.and_eq_true, decide_eq_true_eq, Nat.add_right_cancel_iff] at ih ⊢
    rw [he]
    constructor
    · rintro ⟨h1, h2, h3⟩; rw [h2, ih.1 ⟨h1, h3⟩]
    · intro h; cases h; exact ⟨rfl, rfl, (ih.2 rfl).2⟩
theorem rl_cells (x y : Rl) : cellsEq [.i, .i, .i, .i, .i, .i, .i, .i, .i, .i, .i] x.cells y.cells = some (eqRl x y) := by
  cases x; cases y
  simp only [Rl.cells, cellsEq, cellEq, I, if_true, eqRl, Rl.mk.injEq, Option.some.injEq, Bool.and_true]
  rw [Bool.eq_iff_iff]; simp
theorem bs_cells (x y : Bs) : cellsEq [.i, .i] x.cells y.cells = some (eqBs x y) := by
  cases x; cases y
  simp only [Bs.cells, cellsEq, cellEq, I, if_true, eqBs, Bs.mk.injEq, Option.some.injEq, Bool.and_true]
  rw [Bool.eq_iff_iff]; simp
theorem ceq_app : ∀ {ks : List CK} {as bs : List AV} {b : Bool} (_ : cellsEq ks as bs = some b) (ks' : List CK) (as' bs' : List AV), cellsEq (ks ++ ks') (as ++ as') (bs ++ bs') = (cellsEq ks' as' bs').map (b && ·)
  | [], [], [], b, h, ks', as', bs' => by
    cases h
    show cellsEq ks' as' bs' = _
    cases cellsEq ks' as' bs' <;> simp
  | k :: ks, x :: as, y :: bs, b, h, ks', as', bs' => by
    simp only [cellsEq, List.cons_append] at h ⊢
    cases hc : cellEq k x y with
    | none => rw [hc] at h; cases h
    | some c =>
      rw [hc] at h
      cases hd : cellsEq ks as bs with
      | none => rw [hd] at h; cases h
      | some d =>
        rw [hd] at h
        cases h
        rw [ceq_app hd ks' as' bs']
        cases cellsEq ks' as' bs' <;> simp [Bool.and_assoc]
  | [], [], _ :: _, _, h, _, _, _ => by simp [cellsEq] at h
  | [], _ :: _, _, _, h, _, _, _ => by simp [cellsEq] at h
  | _ :: _, [], _, _, h, _, _, _ => by simp [cellsEq] at h
  | _ :: _, _ :: _, [], _, h, _, _, _ => by simp [cellsEq] at h
def phK : List CK := [.b, .i, .i, .i, .i, .i, .i, .i, .i, .i, .i, .b, .b]
theorem ph_cells (x y : Ph) : cellsEq phK x.cells y.cells = some (decide (x = y)) := by
  cases x; cases y
  simp only [phK, Ph.cells, cellsEq, cellEq, I, B, if_true, Ph.mk.injEq, Option.some.injEq, Bool.and_true]
  rw [Bool.eq_iff_iff]; simp
def phKs : Nat → List CK
  | 0 => []
  | n + 1 => phK ++ phKs n
theorem phs_cells : ∀ (n : Nat) (l m : List Ph), l.length = n → m.length = n → cellsEq (phKs n) (l.flatMap Ph.cells) (m.flatMap Ph.cells) = some (decide (l = m))
  | 0, l, m, h1, h2 => by rw [List.length_eq_zero_iff] at h1 h2; subst h1 h2; rfl
  | n + 1, x :: l, y :: m, h1, h2 => by
    have ih := phs_cells n l m (by simpa using h1) (by simpa using h2)
    rw [phKs, List.flatMap_cons, List.flatMap_cons, ceq_app (ph_cells x y), ih]
    simp only [Option.map_some, List.cons.injEq, Bool.decide_and]
  | n + 1, [], _, h1, _ => by simp at h1
  | n + 1, _ :: _, [], _, h2 => by simp at h2
def alikeD (x y : Det) : Bool := (((((x.phase == y.phase && ((x.on : Int) == (y.on : Int))) && ((x.off : Int) == (y.off : Int))) && ((x.delay : Int) == (y.delay : Int))) && ((x.extend : Int) == (y.extend : Int))) && x.maxOn == y.maxOn) && x.maxOff == y.maxOff
theorem alikeD_iff (x y : Det) : alikeD x y = true ↔ x = y := by
  cases x; cases y
  simp only [alikeD, Bool.and_eq_true, beq_iff_eq, Det.mk.injEq, Int.natCast_inj, and_assoc]
def eqLs (x y : Option (List Int)) : Bool := decide ((x.getD []).length = (y.getD []).length) && ((x.getD []).zip (y.getD [])).all fun p => eqInt p.1 p.2
theorem eqLs_iff (x y : Option (List Int)) : eqLs x y = true ↔ x.getD [] = y.getD [] := zip_same (fun x y => by simp [eqInt]) _ _
def eqGr (x y : Gr) : Bool := eqLs x.a y.a && eqLs x.b y.b
def nmG (g : Gr) : Gr := ⟨some (g.a.getD []), some (g.b.getD [])⟩
theorem eqGr_iff (x y : Gr) : eqGr x y = true ↔ nmG x = nmG y := by
  simp only [eqGr, Bool.and_eq_true, eqLs_iff, nmG, Gr.mk.injEq, Option.some.injEq]
theorem zip_map {α β : Type} [DecidableEq β] {eq : α → α → Bool} (g : α → β) (he : ∀ x y, eq x y = true ↔ g x = g y) : ∀ l m : List α, (decide (l.length = m.length) && (l.zip m).all fun p => eq p.1 p.2) = true ↔ l.map g = m.map g
  | [], [] => by simp
  | [], _ :: _ => by simp
  | _ :: _, [] => by simp
  | x :: l, y :: m => by
    have ih := zip_map g he l m
    simp only [List.length_cons, List.zip_cons_cons, List.all_cons, Bool.and_eq_true, decide_eq_true_eq, Nat.add_right_cancel_iff, List.map_cons, List.cons.injEq] at ih ⊢
    rw [he]
    constructor
    · rintro ⟨h1, h2, h3⟩; exact ⟨h2, ih.1 ⟨h1, h3⟩⟩
    · rintro ⟨h1, h2⟩; exact ⟨(ih.2 h2).1, h1, (ih.2 h2).2⟩
theorem sameL_bool {α β : Type} [DecidableEq β] {eq : α → α → Bool} (g : α → β) (he : ∀ x y, eq x y = true ↔ g x = g y) (l m : List α) : (decide (l.length = m.length) && (l.zip m).all fun p => eq p.1 p.2) = decide (l.map g = m.map g) := by
  rw [Bool.eq_iff_iff, zip_map g he, decide_eq_true_iff]
def sameT (t u : Tb) : Bool := decide (t.nm = u.nm)
theorem sameT_is (t u : Tb) : sameT t u =
    (((((((((((((decide (t.phases = u.phases) && decide ((t.groups.getD []).map nmG = (u.groups.getD []).map nmG)) && decide (t.conflict = u.conflict)) && decide ((t.detectors.getD []).map id = (u.detectors.getD []).map id)) && decide ((t.rails.getD []).map id = (u.rails.getD []).map id)) && decide ((t.buses.getD []).map id = (u.buses.getD []).map id)) &&
      t.extend == u.extend) && t.budget == u.budget) && t.start == u.start) && t.revert == u.revert) && t.least == u.least) && decide (t.flash = u.flash)) && t.window == u.window) && t.share == u.share) := by
  rw [Bool.eq_iff_iff]
  cases t; cases u
  simp only [sameT, Tb.nm, decide_eq_true_eq, Bool.and_eq_true, beq_iff_eq, Tb.mk.injEq, Option.some.injEq, List.map_id]
  constructor
  · rintro ⟨a1, a2, a3, a4, a5, a6, a7, a8, a9, a10, a11, a12, a13, a14⟩
    exact ⟨⟨⟨⟨⟨⟨⟨⟨⟨⟨⟨⟨⟨a1, a2⟩, a3⟩, a4⟩, a5⟩, a6⟩, a7⟩, a8⟩, a9⟩, a10⟩, a11⟩, a12⟩, a13⟩, a14⟩
  · rintro ⟨⟨⟨⟨⟨⟨⟨⟨⟨⟨⟨⟨⟨a1, a2⟩, a3⟩, a4⟩, a5⟩, a6⟩, a7⟩, a8⟩, a9⟩, a10⟩, a11⟩, a12⟩, a13⟩, a14⟩
    exact ⟨a1, a2, a3, a4, a5, a6, a7, a8, a9, a10, a11, a12, a13, a14⟩
def eqLI.Spec (C : Con) (f : Nat) : Prop := EqS intRow eqInt C f
def eqLR.Spec (C : Con) (f : Nat) : Prop := EqS Rl.cells eqRl C f
def eqLU.Spec (C : Con) (f : Nat) : Prop := EqS Bs.cells eqBs C f
def efG.Spec (C : Con) (f : Nat) : Prop := EfS Gr.cells (fun g => .agg g.cells) C f
def efD.Spec (C : Con) (f : Nat) : Prop := EfS Det.cells (fun g => .agg g.cells) C f
def tBits.Spec (C : Con) (f : Nat) : Prop := ∀ x y : Nat, C.c f [Fl x, Fl y] (B ((x : Int) == (y : Int))) none
def tAlike.Spec (C : Con) (f : Nat) : Prop := ∀ x y : Det, C.c f [.agg x.cells, .agg y.cells] (B (alikeD x y)) none
def tRows.Spec (C : Con) (f : Nat) : Prop := ∀ x y : Gr, (x.a.getD []).length ≤ 2000000 → (x.b.getD []).length ≤ 2000000 → C.c f [.agg x.cells, .agg y.cells] (B (eqGr x y)) none
def tSame.Spec (C : Con) (f : Nat) : Prop := ∀ t u : Tb, t.Ok → u.Ln → C.c f [.agg t.cells, .agg u.cells] (B (sameT t u)) none
theorem zip_at {α : Type} {l m : List α} {k : Nat} {x y : α} (hx : l[k]? = some x) (hy : m[k]? = some y) : (l.zip m)[k]? = some (x, y) := by
  rw [List.getElem?_zip_eq_some]; exact ⟨hx, hy⟩
section
variable {t : Tb} (h : t.Ln)
include h
theorem tb_phs : partA t.cells 0 (some 104) = some (.agg (t.phases.flatMap Ph.cells)) := by
  have e : (t.phases.flatMap Ph.cells).length = 104 := by rw [flatMap_len Ph.len, h.phases]
  have l := h.len
  simp only [partA]
  rw [if_pos (by omega), List.drop_zero, Tb.cells, List.take_left' e]
theorem tb_con : partA t.cells 105 (some 8) = some (.agg (t.conflict.map I)) := by
  have l := h.len
  simp only [partA]
  rw [if_pos (by omega), tb_drop105 h, List.take_left' (by simp [h.conflict])]
theorem tb_fl : partA t.cells 121 (some 8) = some (.agg (t.flash.map I)) := by
  have l := h.len
  have e : t.cells.drop 121 = (t.cells.drop 105).drop 16 := by rw [List.drop_drop]
  have e2 : ∀ l : List AV, l.drop 16 = (l.drop 8).drop 8 := fun l => by rw [List.drop_drop]
  simp only [partA]
  rw [if_pos (by omega), e, tb_drop105 h, e2, List.drop_left' (by simp [h.conflict])]
  simp only [List.drop_succ_cons, List.drop_zero]
  rw [List.take_left' (by simp [h.flash])]
end
section
variable {P : Program} (hm : P.follows .mixedOrders = true) {f : Nat}
include hm
theorem eqLI.ok (hc : cFn P f = some cc_slices_Equal_int_int) : eqLI.Spec (Pure P) f := by
  intro l m hl
  obtain ⟨eq, heq⟩ : ∃ eq, eq = eqInt := ⟨_, rfl⟩
  rw [← heq]
  refine pure_of hm hc (by show 2 ≤ 26; decide) (aw_flat (keep := []) (i := 0) ?_)
  try simp only [I, B, D, RW, ↓ KW, fillA, setCells, stTags, flat, Nat.reduceBEq, Nat.reduceAdd, Nat.reduceLeDiff, Int.reduceNe, Int.reduceBEq, Int.reduceEq, reduceCtorEq, Nat.reduceMul, Int.reduceLT, Int.reduceLE, Int.reduceToNat, cc_slices_Equal_int_int, a_len]
  cases h1 : ((((l.getD []).length : Nat) : Int) != (((m.getD []).length : Nat) : Int))
  rotate_left
  · have : decide ((l.getD []).length = (m.getD []).length) = false := by simp at h1 ⊢; omega
    try simp only [I, B, D, RW, ↓ KW, fillA, setCells, stTags, flat, Nat.reduceBEq, Nat.reduceAdd, Nat.reduceLeDiff, Int.reduceNe, Int.reduceBEq, Int.reduceEq, reduceCtorEq, Nat.reduceMul, Int.reduceLT, Int.reduceLE, Int.reduceToNat, h1]
    rw [this]; rfl
  have hlen : (l.getD []).length = (m.getD []).length := by simp at h1; omega
  have hd : decide ((l.getD []).length = (m.getD []).length) = true := by simp [hlen]
  rw [hd, Bool.true_and]
  try simp only [I, B, D, RW, ↓ KW, fillA, setCells, stTags, flat, Nat.reduceBEq, Nat.reduceAdd, Nat.reduceLeDiff, Int.reduceNe, Int.reduceBEq, Int.reduceEq, reduceCtorEq, Nat.reduceMul, Int.reduceLT, Int.reduceLE, Int.reduceToNat, h1, a_len]
  refine aw_loop' (fun k : Nat => (⟨[(13, .dat (I k) none), (12, .dat (I ((l.getD []).length : Nat)) none), (0, .dat (slAV intRow l) none), (1, .dat (slAV intRow m) none)], [], [], 400⟩ : S)) (fun k => (l.getD []).length - k) (fun k => k ≤ (l.getD []).length ∧ (((l.getD []).zip (m.getD [])).take k).all (fun p => eq p.1 p.2) = true) ?_ 0 (by simp) ?_
  rotate_left
  · refine le_tok2 (by decide) ?_ ?_ ?_ ?_ <;> simp [intRow, ownSV, ownL, leSlots, lv_dat, lv_tok, lv_ptr, lv_rp, lv_undef, leBoxes, leTags, leLive, tokM, tokB, tokT, ren, liveInj, r_lk, r_lkN, r_lkB, r_lkN0, I, B, D, withV_some]
  rintro k ⟨hk, hall⟩ A back
  have hwr := wrap_succ (k := k) (by omega)
  try simp only [I, B, D, RW, ↓ KW, fillA, setCells, stTags, flat, Nat.reduceBEq, Nat.reduceAdd, Nat.reduceLeDiff, Int.reduceNe, Int.reduceBEq, Int.reduceEq, reduceCtorEq, Nat.reduceMul, Int.reduceLT, Int.reduceLE, Int.reduceToNat]
  cases h2 : decide ((k : Int) < (((l.getD []).length : Nat) : Int))
  · have e : k = (l.getD []).length := by have := of_decide_eq_false h2; omega
    subst e
    rw [List.take_of_length_le (by rw [List.length_zip]; omega)] at hall
    try simp only [I, B, D, RW, ↓ KW, fillA, setCells, stTags, flat, Nat.reduceBEq, Nat.reduceAdd, Nat.reduceLeDiff, Int.reduceNe, Int.reduceBEq, Int.reduceEq, reduceCtorEq, Nat.reduceMul, Int.reduceLT, Int.reduceLE, Int.reduceToNat, h2]
    rw [hall]
  · have h8 : k < (l.getD []).length := by have := of_decide_eq_true h2; omega
    obtain ⟨x, hx⟩ : ∃ x, (l.getD [])[k]? = some x := ⟨_, List.getElem?_eq_getElem h8⟩
    obtain ⟨y, hy⟩ : ∃ y, (m.getD [])[k]? = some y := ⟨_, List.getElem?_eq_getElem (by omega)⟩
    have hz := zip_at hx hy
    have hyes := all_take (is := fun p : _ × _ => eq p.1 p.2) hz
    rw [hall, Bool.true_and] at hyes
    have hno := fun h => all_no (is := fun p : _ × _ => eq p.1 p.2) hz h
    simp only at hyes hno
    have hc0 : (x != y) = !eq x y := by rw [heq]; rfl
    try simp only [I, B, D, RW, ↓ KW, fillA, setCells, stTags, flat, Nat.reduceBEq, Nat.reduceAdd, Nat.reduceLeDiff, Int.reduceNe, Int.reduceBEq, Int.reduceEq, reduceCtorEq, Nat.reduceMul, Int.reduceLT, Int.reduceLE, Int.reduceToNat, h2, a_rows, hx, hy, intRow]
    refine ⟨by omega, by omega, ?_⟩
    cases h3 : eq x y
    · rw [h3] at hc0
      try simp only [I, B, D, RW, ↓ KW, fillA, setCells, stTags, flat, Nat.reduceBEq, Nat.reduceAdd, Nat.reduceLeDiff, Int.reduceNe, Int.reduceBEq, Int.reduceEq, reduceCtorEq, Nat.reduceMul, Int.reduceLT, Int.reduceLE, Int.reduceToNat, hc0, Bool.not_false]
      rw [hno h3]
    · rw [h3] at hc0
      try simp only [I, B, D, RW, ↓ KW, fillA, setCells, stTags, flat, Nat.reduceBEq, Nat.reduceAdd, Nat.reduceLeDiff, Int.reduceNe, Int.reduceBEq, Int.reduceEq, reduceCtorEq, Nat.reduceMul, Int.reduceLT, Int.reduceLE, Int.reduceToNat, hc0, Bool.not_true]
      refine back (k + 1) _ ⟨by omega, by rw [hyes, h3]⟩ (by omega) ?_
      refine le_tok2 (by decide) ?_ ?_ ?_ ?_ <;> simp [intRow, ownSV, ownL, leSlots, lv_dat, lv_tok, lv_ptr, lv_rp, lv_undef, leBoxes, leTags, leLive, tokM, tokB, tokT, ren, liveInj, r_lk, r_lkN, r_lkB, r_lkN0, I, B, D, withV_some, hwr]
theorem eqLR.ok (hc : cFn P f = some cc_slices_Equal_api_Rail_api_Rail) : eqLR.Spec (Pure P) f := by
  intro l m hl
  obtain ⟨eq, heq⟩ : ∃ eq, eq = eqRl := ⟨_, rfl⟩
  rw [← heq]
  refine pure_of hm hc (by show 2 ≤ 26; decide) (aw_flat (keep := []) (i := 0) ?_)
  try simp only [I, B, D, RW, ↓ KW, fillA, setCells, stTags, flat, Nat.reduceBEq, Nat.reduceAdd, Nat.reduceLeDiff, Int.reduceNe, Int.reduceBEq, Int.reduceEq, reduceCtorEq, Nat.reduceMul, Int.reduceLT, Int.reduceLE, Int.reduceToNat, cc_slices_Equal_api_Rail_api_Rail, a_len]
  cases h1 : ((((l.getD []).length : Nat) : Int) != (((m.getD []).length : Nat) : Int))
  rotate_left
  · have : decide ((l.getD []).length = (m.getD []).length) = false := by simp at h1 ⊢; omega
    try simp only [I, B, D, RW, ↓ KW, fillA, setCells, stTags, flat, Nat.reduceBEq, Nat.reduceAdd, Nat.reduceLeDiff, Int.reduceNe, Int.reduceBEq, Int.reduceEq, reduceCtorEq, Nat.reduceMul, Int.reduceLT, Int.reduceLE, Int.reduceToNat, h1]
    rw [this]; rfl
  have hlen : (l.getD []).length = (m.getD []).length := by simp at h1; omega
  have hd : decide ((l.getD []).length = (m.getD []).length) = true := by simp [hlen]
  rw [hd, Bool.true_and]
  try simp only [I, B, D, RW, ↓ KW, fillA, setCells, stTags, flat, Nat.reduceBEq, Nat.reduceAdd, Nat.reduceLeDiff, Int.reduceNe, Int.reduceBEq, Int.reduceEq, reduceCtorEq, Nat.reduceMul, Int.reduceLT, Int.reduceLE, Int.reduceToNat, h1, a_len]
  refine aw_loop' (fun k : Nat => (⟨[(13, .dat (I k) none), (12, .dat (I ((l.getD []).length : Nat)) none), (0, .dat (slAV Rl.cells l) none), (1, .dat (slAV Rl.cells m) none)], [], [], 400⟩ : S)) (fun k => (l.getD []).length - k) (fun k => k ≤ (l.getD []).length ∧ (((l.getD []).zip (m.getD [])).take k).all (fun p => eq p.1 p.2) = true) ?_ 0 (by simp) ?_
  rotate_left
  · refine le_tok2 (by decide) ?_ ?_ ?_ ?_ <;> simp [intRow, ownSV, ownL, leSlots, lv_dat, lv_tok, lv_ptr, lv_rp, lv_undef, leBoxes, leTags, leLive, tokM, tokB, tokT, ren, liveInj, r_lk, r_lkN, r_lkB, r_lkN0, I, B, D, withV_some]
  rintro k ⟨hk, hall⟩ A back
  have hwr := wrap_succ (k := k) (by omega)
  try simp only [I, B, D, RW, ↓ KW, fillA, setCells, stTags, flat, Nat.reduceBEq, Nat.reduceAdd, Nat.reduceLeDiff, Int.reduceNe, Int.reduceBEq, Int.reduceEq, reduceCtorEq, Nat.reduceMul, Int.reduceLT, Int.reduceLE, Int.reduceToNat]
  cases h2 : decide ((k : Int) < (((l.getD []).length : Nat) : Int))
  · have e : k = (l.getD []).length := by have := of_decide_eq_false h2; omega
    subst e
    rw [List.take_of_length_le (by rw [List.length_zip]; omega)] at hall
    try simp only [I, B, D, RW, ↓ KW, fillA, setCells, stTags, flat, Nat.reduceBEq, Nat.reduceAdd, Nat.reduceLeDiff, Int.reduceNe, Int.reduceBEq, Int.reduceEq, reduceCtorEq, Nat.reduceMul, Int.reduceLT, Int.reduceLE, Int.reduceToNat, h2]
    rw [hall]
  · have h8 : k < (l.getD []).length := by have := of_decide_eq_true h2; omega
    obtain ⟨x, hx⟩ : ∃ x, (l.getD [])[k]? = some x := ⟨_, List.getElem?_eq_getElem h8⟩
    obtain ⟨y, hy⟩ : ∃ y, (m.getD [])[k]? = some y := ⟨_, List.getElem?_eq_getElem (by omega)⟩
    have hz := zip_at hx hy
    have hyes := all_take (is := fun p : _ × _ => eq p.1 p.2) hz
    rw [hall, Bool.true_and] at hyes
    have hno := fun h => all_no (is := fun p : _ × _ => eq p.1 p.2) hz h
    simp only at hyes hno
    have hpart : ∀ x, partA (Rl.cells x) 0 (some 11) = some (.agg (Rl.cells x)) := fun x => rfl
    have hdl : ∀ x, (Rl.cells x).length = 11 := fun x => rfl
    have hce : cellsEq [.i, .i, .i, .i, .i, .i, .i, .i, .i, .i, .i] (Rl.cells x) (Rl.cells y) = some (eq x y) := by rw [heq]; exact rl_cells x y
    try simp only [I, B, D, RW, ↓ KW, fillA, setCells, stTags, flat, Nat.reduceBEq, Nat.reduceAdd, Nat.reduceLeDiff, Int.reduceNe, Int.reduceBEq, Int.reduceEq, reduceCtorEq, Nat.reduceMul, Int.reduceLT, Int.reduceLE, Int.reduceToNat, h2, a_rows, hx, hy, hpart, hdl, hce]
    refine ⟨by omega, by omega, ?_⟩
    have hb1 : (true != true) = false := rfl
    have hb2 : (false != true) = true := rfl
    cases h3 : eq x y
    · try simp only [I, B, D, RW, ↓ KW, fillA, setCells, stTags, flat, Nat.reduceBEq, Nat.reduceAdd, Nat.reduceLeDiff, Int.reduceNe, Int.reduceBEq, Int.reduceEq, reduceCtorEq, Nat.reduceMul, Int.reduceLT, Int.reduceLE, Int.reduceToNat, hce, h3, hb1, hb2]
      rw [hno h3]
    · try simp only [I, B, D, RW, ↓ KW, fillA, setCells, stTags, flat, Nat.reduceBEq, Nat.reduceAdd, Nat.reduceLeDiff, Int.reduceNe, Int.reduceBEq, Int.reduceEq, reduceCtorEq, Nat.reduceMul, Int.reduceLT, Int.reduceLE, Int.reduceToNat, hce, h3, hb1, hb2]
      refine back (k + 1) _ ⟨by omega, by rw [hyes, h3]⟩ (by omega) ?_
      refine le_tok2 (by decide) ?_ ?_ ?_ ?_ <;> simp [intRow, ownSV, ownL, leSlots, lv_dat, lv_tok, lv_ptr, lv_rp, lv_undef, leBoxes, leTags, leLive, tokM, tokB, tokT, ren, liveInj, r_lk, r_lkN, r_lkB, r_lkN0, I, B, D, withV_some, hwr]
theorem eqLU.ok (hc : cFn P f = some cc_slices_Equal_api_Bus_api_Bus) : eqLU.Spec (Pure P) f := by
  intro l m hl
  obtain ⟨eq, heq⟩ : ∃ eq, eq = eqBs := ⟨_, rfl⟩
  rw [← heq]
  refine pure_of hm hc (by show 2 ≤ 26; decide) (aw_flat (keep := []) (i := 0) ?_)
  try simp only [I, B, D, RW, ↓ KW, fillA, setCells, stTags, flat, Nat.reduceBEq, Nat.reduceAdd, Nat.reduceLeDiff, Int.reduceNe, Int.reduceBEq, Int.reduceEq, reduceCtorEq, Nat.reduceMul, Int.reduceLT, Int.reduceLE, Int.reduceToNat, cc_slices_Equal_api_Bus_api_Bus, a_len]
  cases h1 : ((((l.getD []).length : Nat) : Int) != (((m.getD []).length : Nat) : Int))
  rotate_left
  · have : decide ((l.getD []).length = (m.getD []).length) = false := by simp at h1 ⊢; omega
    try simp only [I, B, D, RW, ↓ KW, fillA, setCells, stTags, flat, Nat.reduceBEq, Nat.reduceAdd, Nat.reduceLeDiff, Int.reduceNe, Int.reduceBEq, Int.reduceEq, reduceCtorEq, Nat.reduceMul, Int.reduceLT, Int.reduceLE, Int.reduceToNat, h1]
    rw [this]; rfl
  have hlen : (l.getD []).length = (m.getD []).length := by simp at h1; omega
  have hd : decide ((l.getD []).length = (m.getD []).length) = true := by simp [hlen]
  rw [hd, Bool.true_and]
  try simp only [I, B, D, RW, ↓ KW, fillA, setCells, stTags, flat, Nat.reduceBEq, Nat.reduceAdd, Nat.reduceLeDiff, Int.reduceNe, Int.reduceBEq, Int.reduceEq, reduceCtorEq, Nat.reduceMul, Int.reduceLT, Int.reduceLE, Int.reduceToNat, h1, a_len]
  refine aw_loop' (fun k : Nat => (⟨[(13, .dat (I k) none), (12, .dat (I ((l.getD []).length : Nat)) none), (0, .dat (slAV Bs.cells l) none), (1, .dat (slAV Bs.cells m) none)], [], [], 400⟩ : S)) (fun k => (l.getD []).length - k) (fun k => k ≤ (l.getD []).length ∧ (((l.getD []).zip (m.getD [])).take k).all (fun p => eq p.1 p.2) = true) ?_ 0 (by simp) ?_
  rotate_left
  · refine le_tok2 (by decide) ?_ ?_ ?_ ?_ <;> simp [intRow, ownSV, ownL, leSlots, lv_dat, lv_tok, lv_ptr, lv_rp, lv_undef, leBoxes, leTags, leLive, tokM, tokB, tokT, ren, liveInj, r_lk, r_lkN, r_lkB, r_lkN0, I, B, D, withV_some]
  rintro k ⟨hk, hall⟩ A back
  have hwr := wrap_succ (k := k) (by omega)
  try simp only [I, B, D, RW, ↓ KW, fillA, setCells, stTags, flat, Nat.reduceBEq, Nat.reduceAdd, Nat.reduceLeDiff, Int.reduceNe, Int.reduceBEq, Int.reduceEq, reduceCtorEq, Nat.reduceMul, Int.reduceLT, Int.reduceLE, Int.reduceToNat]
  cases h2 : decide ((k : Int) < (((l.getD []).length : Nat) : Int))
  · have e : k = (l.getD []).length := by have := of_decide_eq_false h2; omega
    subst e
    rw [List.take_of_length_le (by rw [List.length_zip]; omega)] at hall
    try simp only [I, B, D, RW, ↓ KW, fillA, setCells, stTags, flat, Nat.reduceBEq, Nat.reduceAdd, Nat.reduceLeDiff, Int.reduceNe, Int.reduceBEq, Int.reduceEq, reduceCtorEq, Nat.reduceMul, Int.reduceLT, Int.reduceLE, Int.reduceToNat, h2]
    rw [hall]
  · have h8 : k < (l.getD []).length := by have := of_decide_eq_true h2; omega
    obtain ⟨x, hx⟩ : ∃ x, (l.getD [])[k]? = some x := ⟨_, List.getElem?_eq_getElem h8⟩
    obtain ⟨y, hy⟩ : ∃ y, (m.getD [])[k]? = some y := ⟨_, List.getElem?_eq_getElem (by omega)⟩
    have hz := zip_at hx hy
    have hyes := all_take (is := fun p : _ × _ => eq p.1 p.2) hz
    rw [hall, Bool.true_and] at hyes
    have hno := fun h => all_no (is := fun p : _ × _ => eq p.1 p.2) hz h
    simp only at hyes hno
    have hpart : ∀ x, partA (Bs.cells x) 0 (some 2) = some (.agg (Bs.cells x)) := fun x => rfl
    have hdl : ∀ x, (Bs.cells x).length = 2 := fun x => rfl
    have hce : cellsEq [.i, .i] (Bs.cells x) (Bs.cells y) = some (eq x y) := by rw [heq]; exact bs_cells x y
    try simp only [I, B, D, RW, ↓ KW, fillA, setCells, stTags, flat, Nat.reduceBEq, Nat.reduceAdd, Nat.reduceLeDiff, Int.reduceNe, Int.reduceBEq, Int.reduceEq, reduceCtorEq, Nat.reduceMul, Int.reduceLT, Int.reduceLE, Int.reduceToNat, h2, a_rows, hx, hy, hpart, hdl, hce]
    refine ⟨by omega, by omega, ?_⟩
    have hb1 : (true != true) = false := rfl
    have hb2 : (false != true) = true := rfl
    cases h3 : eq x y
    · try simp only [I, B, D, RW, ↓ KW, fillA, setCells, stTags, flat, Nat.reduceBEq, Nat.reduceAdd, Nat.reduceLeDiff, Int.reduceNe, Int.reduceBEq, Int.reduceEq, reduceCtorEq, Nat.reduceMul, Int.reduceLT, Int.reduceLE, Int.reduceToNat, hce, h3, hb1, hb2]
      rw [hno h3]
    · try simp only [I, B, D, RW, ↓ KW, fillA, setCells, stTags, flat, Nat.reduceBEq, Nat.reduceAdd, Nat.reduceLeDiff, Int.reduceNe, Int.reduceBEq, Int.reduceEq, reduceCtorEq, Nat.reduceMul, Int.reduceLT, Int.reduceLE, Int.reduceToNat, hce, h3, hb1, hb2]
      refine back (k + 1) _ ⟨by omega, by rw [hyes, h3]⟩ (by omega) ?_
      refine le_tok2 (by decide) ?_ ?_ ?_ ?_ <;> simp [intRow, ownSV, ownL, leSlots, lv_dat, lv_tok, lv_ptr, lv_rp, lv_undef, leBoxes, leTags, leLive, tokM, tokB, tokT, ren, liveInj, r_lk, r_lkN, r_lkB, r_lkN0, I, B, D, withV_some, hwr]
theorem efG.ok (hc : cFn P f = some cc_slices_EqualFunc_2_int_2_int_2_int_2_int) : efG.Spec (Pure P) f := by
  intro l m g eq hl hg
  refine pure_of hm hc (by show 3 ≤ 32; decide) (aw_flat (keep := []) (i := 0) ?_)
  try simp only [I, B, D, RW, ↓ KW, fillA, stTags, flat, Nat.reduceBEq, Nat.reduceAdd, Nat.reduceLeDiff, Int.reduceNe, Int.reduceBEq, Int.reduceEq, reduceCtorEq, Nat.reduceMul, Int.reduceLT, Int.reduceLE, Int.reduceToNat, cc_slices_EqualFunc_2_int_2_int_2_int_2_int, a_len]
  cases h1 : ((((l.getD []).length : Nat) : Int) != (((m.getD []).length : Nat) : Int))
  rotate_left
  · have : decide ((l.getD []).length = (m.getD []).length) = false := by simp at h1 ⊢; omega
    try simp only [I, B, D, RW, ↓ KW, fillA, stTags, flat, Nat.reduceBEq, Nat.reduceAdd, Nat.reduceLeDiff, Int.reduceNe, Int.reduceBEq, Int.reduceEq, reduceCtorEq, Nat.reduceMul, Int.reduceLT, Int.reduceLE, Int.reduceToNat, h1]
    rw [this]; rfl
  have hlen : (l.getD []).length = (m.getD []).length := by simp at h1; omega
  have hd : decide ((l.getD []).length = (m.getD []).length) = true := by simp [hlen]
  rw [hd, Bool.true_and]
  try simp only [I, B, D, RW, ↓ KW, fillA, stTags, flat, Nat.reduceBEq, Nat.reduceAdd, Nat.reduceLeDiff, Int.reduceNe, Int.reduceBEq, Int.reduceEq, reduceCtorEq, Nat.reduceMul, Int.reduceLT, Int.reduceLE, Int.reduceToNat, h1, a_len]
  refine aw_loop' (fun k : Nat => (⟨[(17, .dat (I k) none), (16, .dat (I ((l.getD []).length : Nat)) none), (15, .dat (slAV Gr.cells l) none), (1, .dat (slAV Gr.cells m) none), (2, .dat (.fn (.func g) [] []) none)], [], [], 400⟩ : S)) (fun k => (l.getD []).length - k) (fun k => k ≤ (l.getD []).length ∧ (((l.getD []).zip (m.getD [])).take k).all (fun p => eq p.1 p.2) = true) ?_ 0 (by simp) ?_
  rotate_left
  · refine le_tok2 (by decide) ?_ ?_ ?_ ?_ <;> simp [intRow, ownSV, ownL, leSlots, lv_dat, lv_tok, lv_ptr, lv_rp, lv_undef, leBoxes, leTags, leLive, tokM, tokB, tokT, ren, liveInj, r_lk, r_lkN, r_lkB, r_lkN0, I, B, D, withV_some]
  rintro k ⟨hk, hall⟩ A back
  have hwr := wrap_succ (k := k) (by omega)
  try simp only [I, B, D, RW, ↓ KW, fillA, stTags, flat, Nat.reduceBEq, Nat.reduceAdd, Nat.reduceLeDiff, Int.reduceNe, Int.reduceBEq, Int.reduceEq, reduceCtorEq, Nat.reduceMul, Int.reduceLT, Int.reduceLE, Int.reduceToNat]
  cases h2 : decide ((k : Int) < (((l.getD []).length : Nat) : Int))
  · have e : k = (l.getD []).length := by have := of_decide_eq_false h2; omega
    subst e
    rw [List.take_of_length_le (by rw [List.length_zip]; omega)] at hall
    try simp only [I, B, D, RW, ↓ KW, fillA, stTags, flat, Nat.reduceBEq, Nat.reduceAdd, Nat.reduceLeDiff, Int.reduceNe, Int.reduceBEq, Int.reduceEq, reduceCtorEq, Nat.reduceMul, Int.reduceLT, Int.reduceLE, Int.reduceToNat, h2]
    rw [hall]
  · have h8 : k < (l.getD []).length := by have := of_decide_eq_true h2; omega
    obtain ⟨x, hx⟩ : ∃ x, (l.getD [])[k]? = some x := ⟨_, List.getElem?_eq_getElem h8⟩
    obtain ⟨y, hy⟩ : ∃ y, (m.getD [])[k]? = some y := ⟨_, List.getElem?_eq_getElem (by omega)⟩
    have hz := zip_at hx hy
    have hyes := all_take (is := fun p : _ × _ => eq p.1 p.2) hz
    rw [hall, Bool.true_and] at hyes
    have hno := fun h => all_no (is := fun p : _ × _ => eq p.1 p.2) hz h
    simp only at hyes hno
    have hpart : ∀ x, partA (Gr.cells x) 0 (some 2) = some (.agg (Gr.cells x)) := fun x => rfl
    have hdl : ∀ x, (Gr.cells x).length = 2 := fun x => rfl
    have hfx := hg x (List.mem_of_getElem? hx) y (List.mem_of_getElem? hy)
    have hsx : ∀ (c : List AV) x, c.length = 2 → setCells c 0 (Gr.cells x) = Gr.cells x := fun c x h => set_all (by rw [h, hdl])
    try simp only [I, B, D, RW, ↓ KW, fillA, stTags, flat, Nat.reduceBEq, Nat.reduceAdd, Nat.reduceLeDiff, Int.reduceNe, Int.reduceBEq, Int.reduceEq, reduceCtorEq, Nat.reduceMul, Int.reduceLT, Int.reduceLE, Int.reduceToNat, h2, a_rows, hx, hy, hpart, hdl]
    refine ⟨by omega, by omega, ?_⟩
    try simp only [I, B, D, RW, ↓ KW, fillA, stTags, flat, Nat.reduceBEq, Nat.reduceAdd, Nat.reduceLeDiff, Int.reduceNe, Int.reduceBEq, Int.reduceEq, reduceCtorEq, Nat.reduceMul, Int.reduceLT, Int.reduceLE, Int.reduceToNat, a_rows, hx, hy, hpart, hdl, hsx]
    refine call_is hfx ?_
    cases h3 : eq x y
    · try simp only [I, B, D, RW, ↓ KW, fillA, stTags, flat, Nat.reduceBEq, Nat.reduceAdd, Nat.reduceLeDiff, Int.reduceNe, Int.reduceBEq, Int.reduceEq, reduceCtorEq, Nat.reduceMul, Int.reduceLT, Int.reduceLE, Int.reduceToNat]
      rw [hno h3]
    · try simp only [I, B, D, RW, ↓ KW, fillA, stTags, flat, Nat.reduceBEq, Nat.reduceAdd, Nat.reduceLeDiff, Int.reduceNe, Int.reduceBEq, Int.reduceEq, reduceCtorEq, Nat.reduceMul, Int.reduceLT, Int.reduceLE, Int.reduceToNat]
      refine back (k + 1) _ ⟨by omega, by rw [hyes, h3]⟩ (by omega) ?_
      refine le_tok2 (by decide) ?_ ?_ ?_ ?_ <;> simp [intRow, ownSV, ownL, leSlots, lv_dat, lv_tok, lv_ptr, lv_rp, lv_undef, leBoxes, leTags, leLive, tokM, tokB, tokT, ren, liveInj, r_lk, r_lkN, r_lkB, r_lkN0, I, B, D, withV_some, hwr]
theorem efD.ok (hc : cFn P f = some cc_slices_EqualFunc_api_Detector_api_Detector_api_Detector_api_Detector) : efD.Spec (Pure P) f := by
  intro l m g eq hl hg
  refine pure_of hm hc (by show 3 ≤ 32; decide) (aw_flat (keep := []) (i := 0) ?_)
  try simp only [I, B, D, RW, ↓ KW, fillA, stTags, flat, Nat.reduceBEq, Nat.reduceAdd, Nat.reduceLeDiff, Int.reduceNe, Int.reduceBEq, Int.reduceEq, reduceCtorEq, Nat.reduceMul, Int.reduceLT, Int.reduceLE, Int.reduceToNat, cc_slices_EqualFunc_api_Detector_api_Detector_api_Detector_api_Detector, a_len]
  cases h1 : ((((l.getD []).length : Nat) : Int) != (((m.getD []).length : Nat) : Int))
  rotate_left
  · have : decide ((l.getD []).length = (m.getD []).length) = false := by simp at h1 ⊢; omega
    try simp only [I, B, D, RW, ↓ KW, fillA, stTags, flat, Nat.reduceBEq, Nat.reduceAdd, Nat.reduceLeDiff, Int.reduceNe, Int.reduceBEq, Int.reduceEq, reduceCtorEq, Nat.reduceMul, Int.reduceLT, Int.reduceLE, Int.reduceToNat, h1]
    rw [this]; rfl
  have hlen : (l.getD []).length = (m.getD []).length := by simp at h1; omega
  have hd : decide ((l.getD []).length = (m.getD []).length) = true := by simp [hlen]
  rw [hd, Bool.true_and]
  try simp only [I, B, D, RW, ↓ KW, fillA, stTags, flat, Nat.reduceBEq, Nat.reduceAdd, Nat.reduceLeDiff, Int.reduceNe, Int.reduceBEq, Int.reduceEq, reduceCtorEq, Nat.reduceMul, Int.reduceLT, Int.reduceLE, Int.reduceToNat, h1, a_len]
  refine aw_loop' (fun k : Nat => (⟨[(17, .dat (I k) none), (16, .dat (I ((l.getD []).length : Nat)) none), (15, .dat (slAV Det.cells l) none), (1, .dat (slAV Det.cells m) none), (2, .dat (.fn (.func g) [] []) none)], [], [], 400⟩ : S)) (fun k => (l.getD []).length - k) (fun k => k ≤ (l.getD []).length ∧ (((l.getD []).zip (m.getD [])).take k).all (fun p => eq p.1 p.2) = true) ?_ 0 (by simp) ?_
  rotate_left
  · refine le_tok2 (by decide) ?_ ?_ ?_ ?_ <;> simp [intRow, ownSV, ownL, leSlots, lv_dat, lv_tok, lv_ptr, lv_rp, lv_undef, leBoxes, leTags, leLive, tokM, tokB, tokT, ren, liveInj, r_lk, r_lkN, r_lkB, r_lkN0, I, B, D, withV_some]
  rintro k ⟨hk, hall⟩ A back
  have hwr := wrap_succ (k := k) (by omega)
  try simp only [I, B, D, RW, ↓ KW, fillA, stTags, flat, Nat.reduceBEq, Nat.reduceAdd, Nat.reduceLeDiff, Int.reduceNe, Int.reduceBEq, Int.reduceEq, reduceCtorEq, Nat.reduceMul, Int.reduceLT, Int.reduceLE, Int.reduceToNat]
  cases h2 : decide ((k : Int) < (((l.getD []).length : Nat) : Int))
  · have e : k = (l.getD []).length := by have := of_decide_eq_false h2; omega
    subst e
    rw [List.take_of_length_le (by rw [List.length_zip]; omega)] at hall
    try simp only [I, B, D, RW, ↓ KW, fillA, stTags, flat, Nat.reduceBEq, Nat.reduceAdd, Nat.reduceLeDiff, Int.reduceNe, Int.reduceBEq, Int.reduceEq, reduceCtorEq, Nat.reduceMul, Int.reduceLT, Int.reduceLE, Int.reduceToNat, h2]
    rw [hall]
  · have h8 : k < (l.getD []).length := by have := of_decide_eq_true h2; omega
    obtain ⟨x, hx⟩ : ∃ x, (l.getD [])[k]? = some x := ⟨_, List.getElem?_eq_getElem h8⟩
    obtain ⟨y, hy⟩ : ∃ y, (m.getD [])[k]? = some y := ⟨_, List.getElem?_eq_getElem (by omega)⟩
    have hz := zip_at hx hy
    have hyes := all_take (is := fun p : _ × _ => eq p.1 p.2) hz
    rw [hall, Bool.true_and] at hyes
    have hno := fun h => all_no (is := fun p : _ × _ => eq p.1 p.2) hz h
    simp only at hyes hno
    have hpart : ∀ x, partA (Det.cells x) 0 (some 7) = some (.agg (Det.cells x)) := fun x => rfl
    have hdl : ∀ x, (Det.cells x).length = 7 := fun x => rfl
    have hfx := hg x (List.mem_of_getElem? hx) y (List.mem_of_getElem? hy)
    have hsx : ∀ (c : List AV) x, c.length = 7 → setCells c 0 (Det.cells x) = Det.cells x := fun c x h => set_all (by rw [h, hdl])
    try simp only [I, B, D, RW, ↓ KW, fillA, stTags, flat, Nat.reduceBEq, Nat.reduceAdd, Nat.reduceLeDiff, Int.reduceNe, Int.reduceBEq, Int.reduceEq, reduceCtorEq, Nat.reduceMul, Int.reduceLT, Int.reduceLE, Int.reduceToNat, h2, a_rows, hx, hy, hpart, hdl]
    refine ⟨by omega, by omega, ?_⟩
    try simp only [I, B, D, RW, ↓ KW, fillA, stTags, flat, Nat.reduceBEq, Nat.reduceAdd, Nat.reduceLeDiff, Int.reduceNe, Int.reduceBEq, Int.reduceEq, reduceCtorEq, Nat.reduceMul, Int.reduceLT, Int.reduceLE, Int.reduceToNat, a_rows, hx, hy, hpart, hdl, hsx]
    refine call_is hfx ?_
    cases h3 : eq x y
    · try simp only [I, B, D, RW, ↓ KW, fillA, stTags, flat, Nat.reduceBEq, Nat.reduceAdd, Nat.reduceLeDiff, Int.reduceNe, Int.reduceBEq, Int.reduceEq, reduceCtorEq, Nat.reduceMul, Int.reduceLT, Int.reduceLE, Int.reduceToNat]
      rw [hno h3]
    · try simp only [I, B, D, RW, ↓ KW, fillA, stTags, flat, Nat.reduceBEq, Nat.reduceAdd, Nat.reduceLeDiff, Int.reduceNe, Int.reduceBEq, Int.reduceEq, reduceCtorEq, Nat.reduceMul, Int.reduceLT, Int.reduceLE, Int.reduceToNat]
      refine back (k + 1) _ ⟨by omega, by rw [hyes, h3]⟩ (by omega) ?_
      refine le_tok2 (by decide) ?_ ?_ ?_ ?_ <;> simp [intRow, ownSV, ownL, leSlots, lv_dat, lv_tok, lv_ptr, lv_rp, lv_undef, leBoxes, leTags, leLive, tokM, tokB, tokT, ren, liveInj, r_lk, r_lkN, r_lkB, r_lkN0, I, B, D, withV_some, hwr]
theorem tBits.ok (hc : cFn P f = some cc_table_bits) : tBits.Spec (Pure P) f := by
  intro x y
  refine pure_of hm hc (by show 2 ≤ 10; decide) (aw_flat (keep := []) (i := 0) ?_)
  try simp only [I, B, D, RW, ↓ KW, fillA, setCells, stTags, flat, Nat.reduceBEq, Nat.reduceAdd, Nat.reduceLeDiff, Int.reduceNe, Int.reduceBEq, Int.reduceEq, reduceCtorEq, Nat.reduceMul, Int.reduceLT, Int.reduceLE, Int.reduceToNat, cc_table_bits]
theorem tAlike.ok {fB : Nat} (hc : cFn P f = some (cc_table_alike fB)) (hB : tBits.Spec (Pure P) fB) : tAlike.Spec (Pure P) f := by
  intro x y
  have c2 := hB x.on y.on
  have c3 := hB x.off y.off
  have c4 := hB x.delay y.delay
  have c5 := hB x.extend y.extend
  rw [alikeD]
  refine pure_of hm hc (by show 2 ≤ 52; decide) (aw_flat (keep := []) (i := 0) ?_)
  try simp only [I, B, D, RW, ↓ KW, fillA, setCells, stTags, flat, Nat.reduceBEq, Nat.reduceAdd, Nat.reduceLeDiff, Int.reduceNe, Int.reduceBEq, Int.reduceEq, reduceCtorEq, Nat.reduceMul, Int.reduceLT, Int.reduceLE, Int.reduceToNat, cc_table_alike, Det.cells]
  generalize ((x.on : Int) == (y.on : Int)) = b2 at *
  generalize ((x.off : Int) == (y.off : Int)) = b3 at *
  generalize ((x.delay : Int) == (y.delay : Int)) = b4 at *
  generalize ((x.extend : Int) == (y.extend : Int)) = b5 at *
  cases h1 : (x.phase == y.phase)
  · try simp only [I, B, D, RW, ↓ KW, fillA, setCells, stTags, flat, Nat.reduceBEq, Nat.reduceAdd, Nat.reduceLeDiff, Int.reduceNe, Int.reduceBEq, Int.reduceEq, reduceCtorEq, Nat.reduceMul, Int.reduceLT, Int.reduceLE, Int.reduceToNat, h1]
    rfl
  try simp only [I, B, D, RW, ↓ KW, fillA, setCells, stTags, flat, Nat.reduceBEq, Nat.reduceAdd, Nat.reduceLeDiff, Int.reduceNe, Int.reduceBEq, Int.reduceEq, reduceCtorEq, Nat.reduceMul, Int.reduceLT, Int.reduceLE, Int.reduceToNat, h1]
  refine call_is c2 ?_
  cases b2
  · try simp only [I, B, D, RW, ↓ KW, fillA, setCells, stTags, flat, Nat.reduceBEq, Nat.reduceAdd, Nat.reduceLeDiff, Int.reduceNe, Int.reduceBEq, Int.reduceEq, reduceCtorEq, Nat.reduceMul, Int.reduceLT, Int.reduceLE, Int.reduceToNat]
    rfl
  try simp only [I, B, D, RW, ↓ KW, fillA, setCells, stTags, flat, Nat.reduceBEq, Nat.reduceAdd, Nat.reduceLeDiff, Int.reduceNe, Int.reduceBEq, Int.reduceEq, reduceCtorEq, Nat.reduceMul, Int.reduceLT, Int.reduceLE, Int.reduceToNat]
  refine call_is c3 ?_
  cases b3
  · try simp only [I, B, D, RW, ↓ KW, fillA, setCells, stTags, flat, Nat.reduceBEq, Nat.reduceAdd, Nat.reduceLeDiff, Int.reduceNe, Int.reduceBEq, Int.reduceEq, reduceCtorEq, Nat.reduceMul, Int.reduceLT, Int.reduceLE, Int.reduceToNat]
    rfl
  try simp only [I, B, D, RW, ↓ KW, fillA, setCells, stTags, flat, Nat.reduceBEq, Nat.reduceAdd, Nat.reduceLeDiff, Int.reduceNe, Int.reduceBEq, Int.reduceEq, reduceCtorEq, Nat.reduceMul, Int.reduceLT, Int.reduceLE, Int.reduceToNat]
  refine call_is c4 ?_
  cases b4
  · try simp only [I, B, D, RW, ↓ KW, fillA, setCells, stTags, flat, Nat.reduceBEq, Nat.reduceAdd, Nat.reduceLeDiff, Int.reduceNe, Int.reduceBEq, Int.reduceEq, reduceCtorEq, Nat.reduceMul, Int.reduceLT, Int.reduceLE, Int.reduceToNat]
    rfl
  try simp only [I, B, D, RW, ↓ KW, fillA, setCells, stTags, flat, Nat.reduceBEq, Nat.reduceAdd, Nat.reduceLeDiff, Int.reduceNe, Int.reduceBEq, Int.reduceEq, reduceCtorEq, Nat.reduceMul, Int.reduceLT, Int.reduceLE, Int.reduceToNat]
  refine call_is c5 ?_
  cases b5
  · try simp only [I, B, D, RW, ↓ KW, fillA, setCells, stTags, flat, Nat.reduceBEq, Nat.reduceAdd, Nat.reduceLeDiff, Int.reduceNe, Int.reduceBEq, Int.reduceEq, reduceCtorEq, Nat.reduceMul, Int.reduceLT, Int.reduceLE, Int.reduceToNat]
    rfl
  try simp only [I, B, D, RW, ↓ KW, fillA, setCells, stTags, flat, Nat.reduceBEq, Nat.reduceAdd, Nat.reduceLeDiff, Int.reduceNe, Int.reduceBEq, Int.reduceEq, reduceCtorEq, Nat.reduceMul, Int.reduceLT, Int.reduceLE, Int.reduceToNat]
  cases h6 : (x.maxOn == y.maxOn)
  · try simp only [I, B, D, RW, ↓ KW, fillA, setCells, stTags, flat, Nat.reduceBEq, Nat.reduceAdd, Nat.reduceLeDiff, Int.reduceNe, Int.reduceBEq, Int.reduceEq, reduceCtorEq, Nat.reduceMul, Int.reduceLT, Int.reduceLE, Int.reduceToNat, h6]
    rfl
  try simp only [I, B, D, RW, ↓ KW, fillA, setCells, stTags, flat, Nat.reduceBEq, Nat.reduceAdd, Nat.reduceLeDiff, Int.reduceNe, Int.reduceBEq, Int.reduceEq, reduceCtorEq, Nat.reduceMul, Int.reduceLT, Int.reduceLE, Int.reduceToNat, h6]
  rfl
theorem tRows.ok {fE : Nat} (hc : cFn P f = some (cc_table_Same_1 fE)) (hE : eqLI.Spec (Pure P) fE) : tRows.Spec (Pure P) f := by
  intro x y h1 h2
  have c1 := hE x.a y.a h1
  have c2 := hE x.b y.b h2
  change (Pure P).c fE _ (B (eqLs x.a y.a)) none at c1
  change (Pure P).c fE _ (B (eqLs x.b y.b)) none at c2
  rw [eqGr]
  generalize eqLs x.a y.a = b1 at *
  generalize eqLs x.b y.b = b2 at *
  refine pure_of hm hc (by show 2 ≤ 17; decide) (aw_flat (keep := []) (i := 0) ?_)
  try simp only [I, B, D, RW, ↓ KW, fillA, setCells, stTags, flat, Nat.reduceBEq, Nat.reduceAdd, Nat.reduceLeDiff, Int.reduceNe, Int.reduceBEq, Int.reduceEq, reduceCtorEq, Nat.reduceMul, Int.reduceLT, Int.reduceLE, Int.reduceToNat, cc_table_Same_1, Gr.cells]
  refine ⟨by omega, by omega, ?_⟩
  refine call_is c1 ?_
  cases b1
  · try simp only [I, B, D, RW, ↓ KW, fillA, setCells, stTags, flat, Nat.reduceBEq, Nat.reduceAdd, Nat.reduceLeDiff, Int.reduceNe, Int.reduceBEq, Int.reduceEq, reduceCtorEq, Nat.reduceMul, Int.reduceLT, Int.reduceLE, Int.reduceToNat]
    rfl
  try simp only [I, B, D, RW, ↓ KW, fillA, setCells, stTags, flat, Nat.reduceBEq, Nat.reduceAdd, Nat.reduceLeDiff, Int.reduceNe, Int.reduceBEq, Int.reduceEq, reduceCtorEq, Nat.reduceMul, Int.reduceLT, Int.reduceLE, Int.reduceToNat]
  refine ⟨by omega, by omega, ?_⟩
  refine call_is c2 ?_
  try simp only [I, B, D, RW, ↓ KW, fillA, setCells, stTags, flat, Nat.reduceBEq, Nat.reduceAdd, Nat.reduceLeDiff, Int.reduceNe, Int.reduceBEq, Int.reduceEq, reduceCtorEq, Nat.reduceMul, Int.reduceLT, Int.reduceLE, Int.reduceToNat]
  rfl
theorem tSame.ok {f1 fG fD fA fR fU : Nat} (hc : cFn P f = some (cc_table_Same f1 fG fD fA fR fU)) (h1 : tRows.Spec (Pure P) f1) (hG : efG.Spec (Pure P) fG) (hD : efD.Spec (Pure P) fD) (hA : tAlike.Spec (Pure P) fA) (hR : eqLR.Spec (Pure P) fR) (hU : eqLU.Spec (Pure P) fU) : tSame.Spec (Pure P) f := by
  intro t u ht hu
  have h := ht.ln
  have c1 := hG t.groups u.groups f1 eqGr (by have := ht.groups; omega) (fun x hx y _ => h1 x y (by have := (ht.rows x hx).1; omega) (by have := (ht.rows x hx).2; omega))
  rw [sameL_bool nmG eqGr_iff] at c1
  have c2 := hD t.detectors u.detectors fA alikeD (by have := ht.dets; omega) (fun x _ y _ => hA x y)
  rw [sameL_bool id (fun x y => alikeD_iff x y)] at c2
  have c3 := hR t.rails u.rails (by have := ht.rails; omega)
  rw [sameL_bool id (fun x y => by simp [eqRl])] at c3
  have c4 := hU t.buses u.buses (by have := ht.buses; omega)
  rw [sameL_bool id (fun x y => by simp [eqBs])] at c4
  have q1 := phs_cells 8 t.phases u.phases h.phases hu.phases
  have q2 := ceq_ints t.conflict u.conflict 8 [] [] [] h.conflict hu.conflict
  have q3 := ceq_ints t.flash u.flash 8 [] [] [] h.flash hu.flash
  simp only [List.append_nil, cellsEq, Option.map_some, Bool.and_true] at q2 q3
  change cellsEq [.b, .i, .i, .i, .i, .i, .i, .i, .i, .i, .i, .b, .b, .b, .i, .i, .i, .i, .i, .i, .i, .i, .i, .i, .b, .b, .b, .i, .i, .i, .i, .i, .i, .i, .i, .i, .i, .b, .b, .b, .i, .i, .i, .i, .i, .i, .i, .i, .i, .i, .b, .b, .b, .i, .i, .i, .i, .i, .i, .i, .i, .i, .i, .b, .b, .b, .i, .i, .i, .i, .i, .i, .i, .i, .i, .i, .b, .b, .b, .i, .i, .i, .i, .i, .i, .i, .i, .i, .i, .b, .b, .b, .i, .i, .i, .i, .i, .i, .i, .i, .i, .i, .b, .b] _ _ = _ at q1
  change cellsEq [.i, .i, .i, .i, .i, .i, .i, .i] _ _ = _ at q2
  change cellsEq [.i, .i, .i, .i, .i, .i, .i, .i] _ _ = _ at q3
  rw [sameT_is]
  generalize decide (t.phases = u.phases) = b1 at *
  generalize decide ((t.groups.getD []).map nmG = (u.groups.getD []).map nmG) = b2 at *
  generalize decide (t.conflict = u.conflict) = b3 at *
  generalize decide ((t.detectors.getD []).map id = (u.detectors.getD []).map id) = b4 at *
  generalize decide ((t.rails.getD []).map id = (u.rails.getD []).map id) = b5 at *
  generalize decide ((t.buses.getD []).map id = (u.buses.getD []).map id) = b6 at *
  generalize decide (t.flash = u.flash) = b12 at *
  have l1 := h.len
  have l2 := hu.len
  have p1 := tb_phs h
  have p2 := tb_phs hu
  have p3 := tb_con h
  have p4 := tb_con hu
  have p5 := tb_fl h
  have p6 := tb_fl hu
  have g1 := tb_104 h
  have g2 := tb_104 hu
  have g3 := h.at113
  have g4 := hu.at113
  have g5 := h.at114
  have g6 := hu.at114
  have g7 := h.at115
  have g8 := hu.at115
  obtain ⟨n1, n2, n3, n4, n5, n6, n7⟩ := tb_nums h
  obtain ⟨m1, m2, m3, m4, m5, m6, m7⟩ := tb_nums hu
  have hbx : ∀ b : Bool, (b != false) = b := by intro b; cases b <;> rfl
  refine pure_of hm hc (by show 2 ≤ 103; decide) (aw_flat (keep := []) (i := 0) ?_)
  try simp only [I, B, D, RW, ↓ KW, fillA, setCells, stTags, flat, Nat.reduceBEq, Nat.reduceAdd, Nat.reduceLeDiff, Int.reduceNe, Int.reduceBEq, Int.reduceEq, reduceCtorEq, Nat.reduceMul, Int.reduceLT, Int.reduceLE, Int.reduceToNat, cc_table_Same, l1, l2, q1, q2, q3, p1, p2, p3, p4, p5, p6, g1, g2, g3, g4, g5, g6, g7, g8, n1, n2, n3, n4, n5, n6, n7, m1, m2, m3, m4, m5, m6, m7, hbx]
  cases b1
  · try simp only [I, B, D, RW, ↓ KW, fillA, setCells, stTags, flat, Nat.reduceBEq, Nat.reduceAdd, Nat.reduceLeDiff, Int.reduceNe, Int.reduceBEq, Int.reduceEq, reduceCtorEq, Nat.reduceMul, Int.reduceLT, Int.reduceLE, Int.reduceToNat, l1, l2, q1, q2, q3, p1, p2, p3, p4, p5, p6, g1, g2, g3, g4, g5, g6, g7, g8, n1, n2, n3, n4, n5, n6, n7, m1, m2, m3, m4, m5, m6, m7, hbx]
    rfl
  try simp only [I, B, D, RW, ↓ KW, fillA, setCells, stTags, flat, Nat.reduceBEq, Nat.reduceAdd, Nat.reduceLeDiff, Int.reduceNe, Int.reduceBEq, Int.reduceEq, reduceCtorEq, Nat.reduceMul, Int.reduceLT, Int.reduceLE, Int.reduceToNat, l1, l2, q1, q2, q3, p1, p2, p3, p4, p5, p6, g1, g2, g3, g4, g5, g6, g7, g8, n1, n2, n3, n4, n5, n6, n7, m1, m2, m3, m4, m5, m6, m7, hbx]
  refine call_is c1 ?_
  cases b2
  · try simp only [I, B, D, RW, ↓ KW, fillA, setCells, stTags, flat, Nat.reduceBEq, Nat.reduceAdd, Nat.reduceLeDiff, Int.reduceNe, Int.reduceBEq, Int.reduceEq, reduceCtorEq, Nat.reduceMul, Int.reduceLT, Int.reduceLE, Int.reduceToNat, l1, l2, q1, q2, q3, p1, p2, p3, p4, p5, p6, g1, g2, g3, g4, g5, g6, g7, g8, n1, n2, n3, n4, n5, n6, n7, m1, m2, m3, m4, m5, m6, m7, hbx]
    rfl
  try simp only [I, B, D, RW, ↓ KW, fillA, setCells, stTags, flat, Nat.reduceBEq, Nat.reduceAdd, Nat.reduceLeDiff, Int.reduceNe, Int.reduceBEq, Int.reduceEq, reduceCtorEq, Nat.reduceMul, Int.reduceLT, Int.reduceLE, Int.reduceToNat, l1, l2, q1, q2, q3, p1, p2, p3, p4, p5, p6, g1, g2, g3, g4, g5, g6, g7, g8, n1, n2, n3, n4, n5, n6, n7, m1, m2, m3, m4, m5, m6, m7, hbx]
  cases b3
  · try simp only [I, B, D, RW, ↓ KW, fillA, setCells, stTags, flat, Nat.reduceBEq, Nat.reduceAdd, Nat.reduceLeDiff, Int.reduceNe, Int.reduceBEq, Int.reduceEq, reduceCtorEq, Nat.reduceMul, Int.reduceLT, Int.reduceLE, Int.reduceToNat, l1, l2, q1, q2, q3, p1, p2, p3, p4, p5, p6, g1, g2, g3, g4, g5, g6, g7, g8, n1, n2, n3, n4, n5, n6, n7, m1, m2, m3, m4, m5, m6, m7, hbx]
    rfl
  try simp only [I, B, D, RW, ↓ KW, fillA, setCells, stTags, flat, Nat.reduceBEq, Nat.reduceAdd, Nat.reduceLeDiff, Int.reduceNe, Int.reduceBEq, Int.reduceEq, reduceCtorEq, Nat.reduceMul, Int.reduceLT, Int.reduceLE, Int.reduceToNat, l1, l2, q1, q2, q3, p1, p2, p3, p4, p5, p6, g1, g2, g3, g4, g5, g6, g7, g8, n1, n2, n3, n4, n5, n6, n7, m1, m2, m3, m4, m5, m6, m7, hbx]
  refine call_is c2 ?_
  cases b4
  · try simp only [I, B, D, RW, ↓ KW, fillA, setCells, stTags, flat, Nat.reduceBEq, Nat.reduceAdd, Nat.reduceLeDiff, Int.reduceNe, Int.reduceBEq, Int.reduceEq, reduceCtorEq, Nat.reduceMul, Int.reduceLT, Int.reduceLE, Int.reduceToNat, l1, l2, q1, q2, q3, p1, p2, p3, p4, p5, p6, g1, g2, g3, g4, g5, g6, g7, g8, n1, n2, n3, n4, n5, n6, n7, m1, m2, m3, m4, m5, m6, m7, hbx]
    rfl
  try simp only [I, B, D, RW, ↓ KW, fillA, setCells, stTags, flat, Nat.reduceBEq, Nat.reduceAdd, Nat.reduceLeDiff, Int.reduceNe, Int.reduceBEq, Int.reduceEq, reduceCtorEq, Nat.reduceMul, Int.reduceLT, Int.reduceLE, Int.reduceToNat, l1, l2, q1, q2, q3, p1, p2, p3, p4, p5, p6, g1, g2, g3, g4, g5, g6, g7, g8, n1, n2, n3, n4, n5, n6, n7, m1, m2, m3, m4, m5, m6, m7, hbx]
  refine call_is c3 ?_
  cases b5
  · try simp only [I, B, D, RW, ↓ KW, fillA, setCells, stTags, flat, Nat.reduceBEq, Nat.reduceAdd, Nat.reduceLeDiff, Int.reduceNe, Int.reduceBEq, Int.reduceEq, reduceCtorEq, Nat.reduceMul, Int.reduceLT, Int.reduceLE, Int.reduceToNat, l1, l2, q1, q2, q3, p1, p2, p3, p4, p5, p6, g1, g2, g3, g4, g5, g6, g7, g8, n1, n2, n3, n4, n5, n6, n7, m1, m2, m3, m4, m5, m6, m7, hbx]
    rfl
  try simp only [I, B, D, RW, ↓ KW, fillA, setCells, stTags, flat, Nat.reduceBEq, Nat.reduceAdd, Nat.reduceLeDiff, Int.reduceNe, Int.reduceBEq, Int.reduceEq, reduceCtorEq, Nat.reduceMul, Int.reduceLT, Int.reduceLE, Int.reduceToNat, l1, l2, q1, q2, q3, p1, p2, p3, p4, p5, p6, g1, g2, g3, g4, g5, g6, g7, g8, n1, n2, n3, n4, n5, n6, n7, m1, m2, m3, m4, m5, m6, m7, hbx]
  refine call_is c4 ?_
  cases b6
  · try simp only [I, B, D, RW, ↓ KW, fillA, setCells, stTags, flat, Nat.reduceBEq, Nat.reduceAdd, Nat.reduceLeDiff, Int.reduceNe, Int.reduceBEq, Int.reduceEq, reduceCtorEq, Nat.reduceMul, Int.reduceLT, Int.reduceLE, Int.reduceToNat, l1, l2, q1, q2, q3, p1, p2, p3, p4, p5, p6, g1, g2, g3, g4, g5, g6, g7, g8, n1, n2, n3, n4, n5, n6, n7, m1, m2, m3, m4, m5, m6, m7, hbx]
    rfl
  try simp only [I, B, D, RW, ↓ KW, fillA, setCells, stTags, flat, Nat.reduceBEq, Nat.reduceAdd, Nat.reduceLeDiff, Int.reduceNe, Int.reduceBEq, Int.reduceEq, reduceCtorEq, Nat.reduceMul, Int.reduceLT, Int.reduceLE, Int.reduceToNat, l1, l2, q1, q2, q3, p1, p2, p3, p4, p5, p6, g1, g2, g3, g4, g5, g6, g7, g8, n1, n2, n3, n4, n5, n6, n7, m1, m2, m3, m4, m5, m6, m7, hbx]
  cases k0 : (t.extend == u.extend)
  · try simp only [I, B, D, RW, ↓ KW, fillA, setCells, stTags, flat, Nat.reduceBEq, Nat.reduceAdd, Nat.reduceLeDiff, Int.reduceNe, Int.reduceBEq, Int.reduceEq, reduceCtorEq, Nat.reduceMul, Int.reduceLT, Int.reduceLE, Int.reduceToNat, l1, l2, q1, q2, q3, p1, p2, p3, p4, p5, p6, g1, g2, g3, g4, g5, g6, g7, g8, n1, n2, n3, n4, n5, n6, n7, m1, m2, m3, m4, m5, m6, m7, hbx, k0]
    rfl
  try simp only [I, B, D, RW, ↓ KW, fillA, setCells, stTags, flat, Nat.reduceBEq, Nat.reduceAdd, Nat.reduceLeDiff, Int.reduceNe, Int.reduceBEq, Int.reduceEq, reduceCtorEq, Nat.reduceMul, Int.reduceLT, Int.reduceLE, Int.reduceToNat, l1, l2, q1, q2, q3, p1, p2, p3, p4, p5, p6, g1, g2, g3, g4, g5, g6, g7, g8, n1, n2, n3, n4, n5, n6, n7, m1, m2, m3, m4, m5, m6, m7, hbx, k0]
  cases k1 : (t.budget == u.budget)
  · try simp only [I, B, D, RW, ↓ KW, fillA, setCells, stTags, flat, Nat.reduceBEq, Nat.reduceAdd, Nat.reduceLeDiff, Int.reduceNe, Int.reduceBEq, Int.reduceEq, reduceCtorEq, Nat.reduceMul, Int.reduceLT, Int.reduceLE, Int.reduceToNat, l1, l2, q1, q2, q3, p1, p2, p3, p4, p5, p6, g1, g2, g3, g4, g5, g6, g7, g8, n1, n2, n3, n4, n5, n6, n7, m1, m2, m3, m4, m5, m6, m7, hbx, k1]
    rfl
  try simp only [I, B, D, RW, ↓ KW, fillA, setCells, stTags, flat, Nat.reduceBEq, Nat.reduceAdd, Nat.reduceLeDiff, Int.reduceNe, Int.reduceBEq, Int.reduceEq, reduceCtorEq, Nat.reduceMul, Int.reduceLT, Int.reduceLE, Int.reduceToNat, l1, l2, q1, q2, q3, p1, p2, p3, p4, p5, p6, g1, g2, g3, g4, g5, g6, g7, g8, n1, n2, n3, n4, n5, n6, n7, m1, m2, m3, m4, m5, m6, m7, hbx, k1]
  cases k2 : (t.start == u.start)
  · try simp only [I, B, D, RW, ↓ KW, fillA, setCells, stTags, flat, Nat.reduceBEq, Nat.reduceAdd, Nat.reduceLeDiff, Int.reduceNe, Int.reduceBEq, Int.reduceEq, reduceCtorEq, Nat.reduceMul, Int.reduceLT, Int.reduceLE, Int.reduceToNat, l1, l2, q1, q2, q3, p1, p2, p3, p4, p5, p6, g1, g2, g3, g4, g5, g6, g7, g8, n1, n2, n3, n4, n5, n6, n7, m1, m2, m3, m4, m5, m6, m7, hbx, k2]
    rfl
  try simp only [I, B, D, RW, ↓ KW, fillA, setCells, stTags, flat, Nat.reduceBEq, Nat.reduceAdd, Nat.reduceLeDiff, Int.reduceNe, Int.reduceBEq, Int.reduceEq, reduceCtorEq, Nat.reduceMul, Int.reduceLT, Int.reduceLE, Int.reduceToNat, l1, l2, q1, q2, q3, p1, p2, p3, p4, p5, p6, g1, g2, g3, g4, g5, g6, g7, g8, n1, n2, n3, n4, n5, n6, n7, m1, m2, m3, m4, m5, m6, m7, hbx, k2]
  cases k3 : (t.revert == u.revert)
  · try simp only [I, B, D, RW, ↓ KW, fillA, setCells, stTags, flat, Nat.reduceBEq, Nat.reduceAdd, Nat.reduceLeDiff, Int.reduceNe, Int.reduceBEq, Int.reduceEq, reduceCtorEq, Nat.reduceMul, Int.reduceLT, Int.reduceLE, Int.reduceToNat, l1, l2, q1, q2, q3, p1, p2, p3, p4, p5, p6, g1, g2, g3, g4, g5, g6, g7, g8, n1, n2, n3, n4, n5, n6, n7, m1, m2, m3, m4, m5, m6, m7, hbx, k3]
    rfl
  try simp only [I, B, D, RW, ↓ KW, fillA, setCells, stTags, flat, Nat.reduceBEq, Nat.reduceAdd, Nat.reduceLeDiff, Int.reduceNe, Int.reduceBEq, Int.reduceEq, reduceCtorEq, Nat.reduceMul, Int.reduceLT, Int.reduceLE, Int.reduceToNat, l1, l2, q1, q2, q3, p1, p2, p3, p4, p5, p6, g1, g2, g3, g4, g5, g6, g7, g8, n1, n2, n3, n4, n5, n6, n7, m1, m2, m3, m4, m5, m6, m7, hbx, k3]
  cases k4 : (t.least == u.least)
  · try simp only [I, B, D, RW, ↓ KW, fillA, setCells, stTags, flat, Nat.reduceBEq, Nat.reduceAdd, Nat.reduceLeDiff, Int.reduceNe, Int.reduceBEq, Int.reduceEq, reduceCtorEq, Nat.reduceMul, Int.reduceLT, Int.reduceLE, Int.reduceToNat, l1, l2, q1, q2, q3, p1, p2, p3, p4, p5, p6, g1, g2, g3, g4, g5, g6, g7, g8, n1, n2, n3, n4, n5, n6, n7, m1, m2, m3, m4, m5, m6, m7, hbx, k4]
    rfl
  try simp only [I, B, D, RW, ↓ KW, fillA, setCells, stTags, flat, Nat.reduceBEq, Nat.reduceAdd, Nat.reduceLeDiff, Int.reduceNe, Int.reduceBEq, Int.reduceEq, reduceCtorEq, Nat.reduceMul, Int.reduceLT, Int.reduceLE, Int.reduceToNat, l1, l2, q1, q2, q3, p1, p2, p3, p4, p5, p6, g1, g2, g3, g4, g5, g6, g7, g8, n1, n2, n3, n4, n5, n6, n7, m1, m2, m3, m4, m5, m6, m7, hbx, k4]
  cases b12
  · try simp only [I, B, D, RW, ↓ KW, fillA, setCells, stTags, flat, Nat.reduceBEq, Nat.reduceAdd, Nat.reduceLeDiff, Int.reduceNe, Int.reduceBEq, Int.reduceEq, reduceCtorEq, Nat.reduceMul, Int.reduceLT, Int.reduceLE, Int.reduceToNat, l1, l2, q1, q2, q3, p1, p2, p3, p4, p5, p6, g1, g2, g3, g4, g5, g6, g7, g8, n1, n2, n3, n4, n5, n6, n7, m1, m2, m3, m4, m5, m6, m7, hbx]
    rfl
  try simp only [I, B, D, RW, ↓ KW, fillA, setCells, stTags, flat, Nat.reduceBEq, Nat.reduceAdd, Nat.reduceLeDiff, Int.reduceNe, Int.reduceBEq, Int.reduceEq, reduceCtorEq, Nat.reduceMul, Int.reduceLT, Int.reduceLE, Int.reduceToNat, l1, l2, q1, q2, q3, p1, p2, p3, p4, p5, p6, g1, g2, g3, g4, g5, g6, g7, g8, n1, n2, n3, n4, n5, n6, n7, m1, m2, m3, m4, m5, m6, m7, hbx]
  cases k6 : (t.window == u.window)
  · try simp only [I, B, D, RW, ↓ KW, fillA, setCells, stTags, flat, Nat.reduceBEq, Nat.reduceAdd, Nat.reduceLeDiff, Int.reduceNe, Int.reduceBEq, Int.reduceEq, reduceCtorEq, Nat.reduceMul, Int.reduceLT, Int.reduceLE, Int.reduceToNat, l1, l2, q1, q2, q3, p1, p2, p3, p4, p5, p6, g1, g2, g3, g4, g5, g6, g7, g8, n1, n2, n3, n4, n5, n6, n7, m1, m2, m3, m4, m5, m6, m7, hbx, k6]
    rfl
  try simp only [I, B, D, RW, ↓ KW, fillA, setCells, stTags, flat, Nat.reduceBEq, Nat.reduceAdd, Nat.reduceLeDiff, Int.reduceNe, Int.reduceBEq, Int.reduceEq, reduceCtorEq, Nat.reduceMul, Int.reduceLT, Int.reduceLE, Int.reduceToNat, l1, l2, q1, q2, q3, p1, p2, p3, p4, p5, p6, g1, g2, g3, g4, g5, g6, g7, g8, n1, n2, n3, n4, n5, n6, n7, m1, m2, m3, m4, m5, m6, m7, hbx, k6]
  rfl
end
end Go.Eng
namespace Go.Eng
set_option linter.unusedVariables false
set_option linter.unusedSimpArgs false
set_option linter.unnecessarySimpa false
open Go
set_option linter.unusedVariables false
set_option linter.unusedSimpArgs false
set_option maxRecDepth 10000
set_option maxHeartbeats 4000000
abbrev w1F : Nat := 4607182418800017408
def lvTab (a : Nat) : Tb := { Tb0 with detectors := some [⟨0, a, w1F, 0, 0, 0, 0⟩] }
def seTab (a : Nat) : Tb := { Tb0 with detectors := some [⟨0, w1F, w1F, 0, a, 0, 0⟩] }
theorem lvTab_ok (a : Nat) : (lvTab a).Ok := ⟨rfl, rfl, rfl, by simp [lvTab, Tb0], by simp [lvTab, Tb0], by simp [lvTab], by simp [lvTab, Tb0], by simp [lvTab, Tb0]⟩
theorem seTab_ok (a : Nat) : (seTab a).Ok := ⟨rfl, rfl, rfl, by simp [seTab, Tb0], by simp [seTab, Tb0], by simp [seTab], by simp [seTab, Tb0], by simp [seTab, Tb0]⟩
theorem w1_lvl : lvl w1F = true := by decide +kernel
theorem zero_secs : secsOk 0 = true := by decide +kernel
theorem wI_00 : wI 7 0 = true ∧ wI 9999 0 = true := by decide
theorem tb0_ph : Tb0.phases.all mayPh = true := by decide +kernel
theorem tb0_con : Tb0.conflict.all (wI 255) = true := by decide +kernel
theorem tb0_fl : Tb0.flash.all (wI 2) = true := by decide +kernel
theorem tb0_num : ([Tb0.extend, Tb0.budget, Tb0.start, Tb0.revert, Tb0.least].all (wI 9999)) = true ∧ [Tb0.window, Tb0.share].all (wI 2147483647) = true := by decide +kernel
theorem may_one (d : Det) : mayT { Tb0 with detectors := some [d] } = mayDet d := by
  simp only [mayT, tb0_ph, tb0_con, tb0_fl, tb0_num.1, tb0_num.2, Tb0, Option.getD_some, Option.getD_none, List.length_nil, List.all_nil, List.all_cons, List.length_cons]
  have h1 : decide (((0 : Nat) : Int) ≤ 4) = true := by decide
  have h2 : decide (((0 + 1 : Nat) : Int) ≤ 16) = true := by decide
  have h3 := tb0_ph
  have h4 := tb0_con
  have h5 := tb0_fl
  have h6 := tb0_num
  simp only [Tb0] at h3 h4 h5 h6
  simp only [h1, h2, h3, h4, h5, h6.1, h6.2, Bool.and_true, Bool.true_and]
  have h7 := h6.1
  have h8 := h6.2
  simp only [List.all_cons, List.all_nil, Bool.and_true] at h7 h8
  simp only [h7, h8, Bool.and_true]
  cases mayDet d <;> rfl
theorem may_lv (a : Nat) : mayT (lvTab a) = lvl a := by
  rw [lvTab, may_one, mayDet]
  simp only [List.all_cons, List.all_nil, wI_00.1, wI_00.2, w1_lvl, zero_secs, Bool.and_true, Bool.true_and]
theorem may_se (a : Nat) : mayT (seTab a) = secsOk a := by
  rw [seTab, may_one, mayDet]
  simp only [List.all_cons, List.all_nil, wI_00.1, wI_00.2, w1_lvl, zero_secs, Bool.and_true, Bool.true_and]
theorem same_self (t : Tb) : sameT t t = true := by simp [sameT]
theorem same_se (a b : Nat) : sameT (seTab a) (seTab b) = ((a : Int) == (b : Int)) := by
  rw [Bool.eq_iff_iff]
  simp only [sameT, seTab, Tb.nm, decide_eq_true_eq, beq_iff_eq, Tb.mk.injEq, Option.getD_some, Option.some.injEq, List.cons.injEq, Det.mk.injEq, true_and, and_true, Int.natCast_inj]
theorem set_same {cs : List AV} {j : Nat} {v : AV} (h : cs[j]? = some v) : setCells cs j [v] = cs := by
  obtain ⟨hj, e⟩ := List.getElem?_eq_some_iff.1 h
  subst e
  rw [setCells]
  conv => rhs; rw [← List.take_append_drop j cs]
  rw [List.append_assoc]
  congr 1
  rw [List.drop_eq_getElem_cons hj]; rfl
def clG.Spec (C : Con) (f : Nat) : Prop := C.c f [.nils] .nils none
def clD.Spec (C : Con) (f : Nat) : Prop := C.c f [.nils] .nils none
def clR.Spec (C : Con) (f : Nat) : Prop := C.c f [.nils] .nils none
def clU.Spec (C : Con) (f : Nat) : Prop := C.c f [.nils] .nils none
def tClone0.Spec (C : Con) (f : Nat) : Prop := ∀ t : Tb, t.Ln → t.groups = none → t.detectors = none → t.rails = none → t.buses = none → C.c f [.agg t.cells] (.agg t.cells) none
def awake06.Spec (C : Con) (f : Nat) : Prop := C.c f [] (B true) none
def tabFloats.Spec (C : Con) (f : Nat) : Prop := ∀ a b : Nat, a < 2 ^ 64 → b < 2 ^ 64 → C.c f [Fl a, Fl b] (B true) none
section
variable {P : Program} (hm : P.follows .mixedOrders = true) {f : Nat}
include hm
theorem clG.ok {e : Nat} (hc : cFn P f = some (cc_slices_Clone_2_int_2_int e)) : clG.Spec (Pure P) f := by
  show (Pure P).c f [.nils] .nils none
  refine pure_of hm hc (by show 1 ≤ 8; decide) (aw_flat (keep := []) (i := 0) ?_)
  try simp only [I, B, D, RW, ↓ KW, fillA, setCells, stTags, flat, Nat.reduceBEq, Nat.reduceAdd, Nat.reduceLeDiff, Int.reduceNe, Int.reduceBEq, Int.reduceEq, reduceCtorEq, Nat.reduceMul, Int.reduceLT, Int.reduceLE, Int.reduceToNat, cc_slices_Clone_2_int_2_int]
theorem clD.ok {e : Nat} (hc : cFn P f = some (cc_slices_Clone_api_Detector_api_Detector e)) : clD.Spec (Pure P) f := by
  show (Pure P).c f [.nils] .nils none
  refine pure_of hm hc (by show 1 ≤ 8; decide) (aw_flat (keep := []) (i := 0) ?_)
  try simp only [I, B, D, RW, ↓ KW, fillA, setCells, stTags, flat, Nat.reduceBEq, Nat.reduceAdd, Nat.reduceLeDiff, Int.reduceNe, Int.reduceBEq, Int.reduceEq, reduceCtorEq, Nat.reduceMul, Int.reduceLT, Int.reduceLE, Int.reduceToNat, cc_slices_Clone_api_Detector_api_Detector]
theorem clR.ok {e : Nat} (hc : cFn P f = some (cc_slices_Clone_api_Rail_api_Rail e)) : clR.Spec (Pure P) f := by
  show (Pure P).c f [.nils] .nils none
  refine pure_of hm hc (by show 1 ≤ 8; decide) (aw_flat (keep := []) (i := 0) ?_)
  try simp only [I, B, D, RW, ↓ KW, fillA, setCells, stTags, flat, Nat.reduceBEq, Nat.reduceAdd, Nat.reduceLeDiff, Int.reduceNe, Int.reduceBEq, Int.reduceEq, reduceCtorEq, Nat.reduceMul, Int.reduceLT, Int.reduceLE, Int.reduceToNat, cc_slices_Clone_api_Rail_api_Rail]
theorem clU.ok {e : Nat} (hc : cFn P f = some (cc_slices_Clone_api_Bus_api_Bus e)) : clU.Spec (Pure P) f := by
  show (Pure P).c f [.nils] .nils none
  refine pure_of hm hc (by show 1 ≤ 8; decide) (aw_flat (keep := []) (i := 0) ?_)
  try simp only [I, B, D, RW, ↓ KW, fillA, setCells, stTags, flat, Nat.reduceBEq, Nat.reduceAdd, Nat.reduceLeDiff, Int.reduceNe, Int.reduceBEq, Int.reduceEq, reduceCtorEq, Nat.reduceMul, Int.reduceLT, Int.reduceLE, Int.reduceToNat, cc_slices_Clone_api_Bus_api_Bus]
theorem tClone0.ok {fG fI fD fR fU : Nat} (hc : cFn P f = some (cc_table_Clone fG fI fD fR fU)) (hG : clG.Spec (Pure P) fG) (hD : clD.Spec (Pure P) fD) (hR : clR.Spec (Pure P) fR) (hU : clU.Spec (Pure P) fU) : tClone0.Spec (Pure P) f := by
  intro t h e1 e2 e3 e4
  have g1 := tb_104 h
  have g2 := h.at113
  have g3 := h.at114
  have g4 := h.at115
  have hl := h.len
  have hw := h.whole
  have hzl : z131_45020.length = 131 := rfl
  have hz : setCells z131_45020 0 t.cells = t.cells := set_all (by rw [hl]; rfl)
  rw [e1] at g1; rw [e2] at g2; rw [e3] at g3; rw [e4] at g4
  simp only [slAV] at g1 g2 g3 g4
  have s1 := set_same g1
  have s2 := set_same g2
  have s3 := set_same g3
  have s4 := set_same g4
  refine pure_of hm hc (by show 1 ≤ 42; decide) (aw_flat (keep := []) (i := 0) ?_)
  try simp only [I, B, D, RW, ↓ KW, fillA, stTags, flat, Nat.reduceBEq, Nat.reduceAdd, Nat.reduceLeDiff, Int.reduceNe, Int.reduceBEq, Int.reduceEq, reduceCtorEq, Nat.reduceMul, Int.reduceLT, Int.reduceLE, Int.reduceToNat, cc_table_Clone, g1, g2, g3, g4, hl, hw, hzl, hz, s1, s2, s3, s4]
  refine call_is hG ?_
  try simp only [I, B, D, RW, ↓ KW, fillA, stTags, flat, Nat.reduceBEq, Nat.reduceAdd, Nat.reduceLeDiff, Int.reduceNe, Int.reduceBEq, Int.reduceEq, reduceCtorEq, Nat.reduceMul, Int.reduceLT, Int.reduceLE, Int.reduceToNat, g1, g2, g3, g4, hl, hw, hzl, hz, s1, s2, s3, s4]
  refine aw_loop' (fun k : Unit => (⟨[(12, .dat (I 0) none), (11, .dat (I 0) none), (10, .dat (.nils) none), (1, .ptr 4 0), (2, .ptr 5 0)], [(4, ⟨t.cells, []⟩), (5, ⟨z131_45020, []⟩)], [], 400⟩ : S)) (fun k => 0) (fun k => True) ?_ () trivial ?_
  rotate_left
  · refine le_tok2 (by decide) ?_ ?_ ?_ ?_ <;> simp [intRow, ownSV, ownL, leSlots, lv_dat, lv_tok, lv_ptr, lv_rp, lv_undef, leBoxes, leTags, leLive, tokM, tokB, tokT, ren, liveInj, r_lk, r_lkN, r_lkB, r_lkN0, I, B, D, withV_some]
  rintro ⟨⟩ _ A back
  have hc0 : decide ((0 : Int) < 0) = false := rfl
  try simp only [I, B, D, RW, ↓ KW, fillA, stTags, flat, Nat.reduceBEq, Nat.reduceAdd, Nat.reduceLeDiff, Int.reduceNe, Int.reduceBEq, Int.reduceEq, reduceCtorEq, Nat.reduceMul, Int.reduceLT, Int.reduceLE, Int.reduceToNat, g1, g2, g3, g4, hl, hw, hzl, hz, s1, s2, s3, s4, hc0]
  refine call_is hD ?_
  try simp only [I, B, D, RW, ↓ KW, fillA, stTags, flat, Nat.reduceBEq, Nat.reduceAdd, Nat.reduceLeDiff, Int.reduceNe, Int.reduceBEq, Int.reduceEq, reduceCtorEq, Nat.reduceMul, Int.reduceLT, Int.reduceLE, Int.reduceToNat, g1, g2, g3, g4, hl, hw, hzl, hz, s1, s2, s3, s4]
  refine call_is hR ?_
  try simp only [I, B, D, RW, ↓ KW, fillA, stTags, flat, Nat.reduceBEq, Nat.reduceAdd, Nat.reduceLeDiff, Int.reduceNe, Int.reduceBEq, Int.reduceEq, reduceCtorEq, Nat.reduceMul, Int.reduceLT, Int.reduceLE, Int.reduceToNat, g1, g2, g3, g4, hl, hw, hzl, hz, s1, s2, s3, s4]
  refine call_is hU ?_
  try simp only [I, B, D, RW, ↓ KW, fillA, stTags, flat, Nat.reduceBEq, Nat.reduceAdd, Nat.reduceLeDiff, Int.reduceNe, Int.reduceBEq, Int.reduceEq, reduceCtorEq, Nat.reduceMul, Int.reduceLT, Int.reduceLE, Int.reduceToNat, g1, g2, g3, g4, hl, hw, hzl, hz, s1, s2, s3, s4]
theorem awake06.ok {fM fC fS : Nat} (hc : cFn P f = some (cc_law06_awake fM fC fS)) (hM : tMay.Spec (Pure P) fM) (hC : tClone0.Spec (Pure P) fC) (hS : tSame.Spec (Pure P) fS) : awake06.Spec (Pure P) f := by
  have h0 : Tb0.cells = z131_45020 := rfl
  have l0 : Tb0.Ln := ⟨rfl, rfl, rfl⟩
  obtain ⟨u, hu⟩ : ∃ u : Tb, u = { Tb0 with window := -1 } := ⟨_, rfl⟩
  have hue : setCells z131_45020 129 [I (-1)] = u.cells := by rw [hu]; rfl
  have lu : u.Ln := by subst hu; exact ⟨rfl, rfl, rfl⟩
  have ou : u.Ok := by subst hu; exact ⟨rfl, rfl, rfl, by simp [Tb0], by simp [Tb0], by simp [Tb0], by simp [Tb0], by simp [Tb0]⟩
  have m0 := hM Tb0 l0 (by intro d hd; simp [Tb0] at hd)
  have m1 := hM u lu (by subst hu; intro d hd; simp [Tb0] at hd)
  have e0 : mayT Tb0 = true := by decide +kernel
  have e1 : mayT u = false := by subst hu; decide +kernel
  have c1 := hC u lu (by subst hu; rfl) (by subst hu; rfl) (by subst hu; rfl) (by subst hu; rfl)
  have s1 := hS u u ou lu
  rw [e0, h0] at m0
  rw [e1] at m1
  rw [same_self] at s1
  have wu := lu.whole
  have lz : z131_45020.length = 131 := rfl
  clear hu
  show (Pure P).c f [] (B true) none
  refine pure_of hm hc (by show 0 ≤ 16; decide) (aw_flat (keep := []) (i := 0) ?_)
  try simp only [I, B, D, RW, ↓ KW, fillA, stTags, flat, Nat.reduceBEq, Nat.reduceAdd, Nat.reduceLeDiff, Int.reduceNe, Int.reduceBEq, Int.reduceEq, reduceCtorEq, Nat.reduceMul, Int.reduceLT, Int.reduceLE, Int.reduceToNat, cc_law06_awake, hue, wu, lz]
  refine call_is m0 ?_
  try simp only [I, B, D, RW, ↓ KW, fillA, stTags, flat, Nat.reduceBEq, Nat.reduceAdd, Nat.reduceLeDiff, Int.reduceNe, Int.reduceBEq, Int.reduceEq, reduceCtorEq, Nat.reduceMul, Int.reduceLT, Int.reduceLE, Int.reduceToNat, hue, wu, lz]
  refine call_is m1 ?_
  try simp only [I, B, D, RW, ↓ KW, fillA, stTags, flat, Nat.reduceBEq, Nat.reduceAdd, Nat.reduceLeDiff, Int.reduceNe, Int.reduceBEq, Int.reduceEq, reduceCtorEq, Nat.reduceMul, Int.reduceLT, Int.reduceLE, Int.reduceToNat, hue, wu, lz]
  refine call_is c1 ?_
  try simp only [I, B, D, RW, ↓ KW, fillA, stTags, flat, Nat.reduceBEq, Nat.reduceAdd, Nat.reduceLeDiff, Int.reduceNe, Int.reduceBEq, Int.reduceEq, reduceCtorEq, Nat.reduceMul, Int.reduceLT, Int.reduceLE, Int.reduceToNat, hue, wu, lz]
  refine call_is s1 ?_
  try simp only [I, B, D, RW, ↓ KW, fillA, stTags, flat, Nat.reduceBEq, Nat.reduceAdd, Nat.reduceLeDiff, Int.reduceNe, Int.reduceBEq, Int.reduceEq, reduceCtorEq, Nat.reduceMul, Int.reduceLT, Int.reduceLE, Int.reduceToNat]
theorem tabFloats.ok {e fM fS fE fA : Nat} (hc : cFn P f = some (cc_law06_TableFloats e fM fS fE fA)) (hM : tMay.Spec (Pure P) fM) (hS : sgn.Spec (Pure P) fS) (hE : tSame.Spec (Pure P) fE) (hA : awake06.Spec (Pure P) fA) : tabFloats.Spec (Pure P) f := by
  intro a b ha hb
  have z1 : List.take 113 z131_45020 ++ [AV.sl [[AV.int IntKind.i64 0, AV.float FloatKind.f64 a, AV.float FloatKind.f64 4607182418800017408, AV.float FloatKind.f64 0, AV.float FloatKind.f64 0, AV.int IntKind.i64 0, AV.int IntKind.i64 0]]] ++ List.drop 114 z131_45020 = (lvTab a).cells := rfl
  have z2 : ∀ x : Nat, List.take 113 z131_45020 ++ [AV.sl [[AV.int IntKind.i64 0, AV.float FloatKind.f64 4607182418800017408, AV.float FloatKind.f64 4607182418800017408, AV.float FloatKind.f64 0, AV.float FloatKind.f64 x, AV.int IntKind.i64 0, AV.int IntKind.i64 0]]] ++ List.drop 114 z131_45020 = (seTab x).cells := fun x => rfl
  have hf : ∀ d : Det, d.on < 2 ^ 64 → d.off < 2 ^ 64 → d.delay < 2 ^ 64 → d.extend < 2 ^ 64 → ({ Tb0 with detectors := some [d] } : Tb).Fw := by
    intro d h1 h2 h3 h4 x hx
    simp only [Option.getD_some, List.mem_singleton] at hx
    subst hx; exact ⟨h1, h2, h3, h4⟩
  have lv := (lvTab_ok a).ln
  have s1 := (seTab_ok a).ln
  have s2 := (seTab_ok b).ln
  have b0 : (0 : Nat) < 2 ^ 64 := by decide
  have b1 : w1F < 2 ^ 64 := by decide
  have m1 := hM (lvTab a) lv (hf _ ha b1 b0 b0)
  have m2 := hM (seTab a) s1 (hf _ b1 b1 b0 ha)
  have e1 := hE (seTab a) (seTab b) (seTab_ok a) s2
  have e2 := hE (lvTab a) (lvTab a) (lvTab_ok a) lv
  rw [may_lv, lvl] at m1
  rw [may_se, secsOk, inR] at m2
  rw [same_se] at e1
  rw [same_self] at e2
  have hsg := hS a
  have w1 := lv.whole
  have w2 := s1.whole
  have w3 := s2.whole
  have k1 := lv.len
  have k2 := s1.len
  have k3 := s2.len
  have hzl : z131_45020.length = 131 := rfl
  have y1 : setCells z131_45020 0 (lvTab a).cells = (lvTab a).cells := set_all (by rw [k1]; rfl)
  have y2 : setCells z131_45020 0 (seTab a).cells = (seTab a).cells := set_all (by rw [k2]; rfl)
  have y3 : setCells z131_45020 0 (seTab b).cells = (seTab b).cells := set_all (by rw [k3]; rfl)
  have hbb : ∀ x : Bool, (x == x) = true := by intro x; cases x <;> rfl
  generalize sgnB a = b5 at *
  obtain ⟨x1, hx1⟩ : ∃ x, gtF a 0 = x := ⟨_, rfl⟩
  obtain ⟨x2, hx2⟩ : ∃ x, leF a 4696837146684686336 = x := ⟨_, rfl⟩
  obtain ⟨x3, hx3⟩ : ∃ x, geF a 0 = x := ⟨_, rfl⟩
  obtain ⟨x4, hx4⟩ : ∃ x, leF a 4652006429231887155 = x := ⟨_, rfl⟩
  rw [hx1, hx2] at m1
  rw [hx3, show leF a w999 = x4 from hx4] at m2
  refine pure_of hm hc (by show 2 ≤ 68; decide) (aw_flat (keep := []) (i := 0) ?_)
  try simp only [I, B, D, RW, ↓ KW, fillA, stTags, flat, Nat.reduceBEq, Nat.reduceAdd, Nat.reduceLeDiff, Int.reduceNe, Int.reduceBEq, Int.reduceEq, reduceCtorEq, Nat.reduceMul, Int.reduceLT, Int.reduceLE, Int.reduceToNat, cc_law06_TableFloats, w1, w2, w3, k1, k2, k3, hzl, y1, y2, y3, z1, z2, FLW, hx1, hx2, hx3, hx4, hbb, Bool.true_and, Bool.false_and, Bool.and_true, Bool.and_false, Bool.not_true, Bool.not_false]
  have fin : ∀ x : Bool, (x == x) = true := hbb
  refine call_is m1 ?_
  cases x1
  all_goals try simp only [I, B, D, RW, ↓ KW, fillA, stTags, flat, Nat.reduceBEq, Nat.reduceAdd, Nat.reduceLeDiff, Int.reduceNe, Int.reduceBEq, Int.reduceEq, reduceCtorEq, Nat.reduceMul, Int.reduceLT, Int.reduceLE, Int.reduceToNat, w1, w2, w3, k1, k2, k3, hzl, y1, y2, y3, z1, z2, FLW, hx1, hx2, hx3, hx4, hbb, Bool.true_and, Bool.false_and, Bool.and_true, Bool.and_false, Bool.not_true, Bool.not_false]
  all_goals refine call_is m2 ?_
  all_goals cases x3
  all_goals try simp only [I, B, D, RW, ↓ KW, fillA, stTags, flat, Nat.reduceBEq, Nat.reduceAdd, Nat.reduceLeDiff, Int.reduceNe, Int.reduceBEq, Int.reduceEq, reduceCtorEq, Nat.reduceMul, Int.reduceLT, Int.reduceLE, Int.reduceToNat, w1, w2, w3, k1, k2, k3, hzl, y1, y2, y3, z1, z2, FLW, hx1, hx2, hx3, hx4, hbb, Bool.true_and, Bool.false_and, Bool.and_true, Bool.and_false, Bool.not_true, Bool.not_false]
  all_goals try cases x4
  all_goals try simp only [I, B, D, RW, ↓ KW, fillA, stTags, flat, Nat.reduceBEq, Nat.reduceAdd, Nat.reduceLeDiff, Int.reduceNe, Int.reduceBEq, Int.reduceEq, reduceCtorEq, Nat.reduceMul, Int.reduceLT, Int.reduceLE, Int.reduceToNat, w1, w2, w3, k1, k2, k3, hzl, y1, y2, y3, z1, z2, FLW, hx1, hx2, hx3, hx4, hbb, Bool.true_and, Bool.false_and, Bool.and_true, Bool.and_false, Bool.not_true, Bool.not_false]
  all_goals try refine call_is hsg ?_
  all_goals try simp only [I, B, D, RW, ↓ KW, fillA, stTags, flat, Nat.reduceBEq, Nat.reduceAdd, Nat.reduceLeDiff, Int.reduceNe, Int.reduceBEq, Int.reduceEq, reduceCtorEq, Nat.reduceMul, Int.reduceLT, Int.reduceLE, Int.reduceToNat, w1, w2, w3, k1, k2, k3, hzl, y1, y2, y3, z1, z2, FLW, hx1, hx2, hx3, hx4, hbb, Bool.true_and, Bool.false_and, Bool.and_true, Bool.and_false, Bool.not_true, Bool.not_false]
  all_goals refine call_is e1 ?_
  all_goals try simp only [I, B, D, RW, ↓ KW, fillA, stTags, flat, Nat.reduceBEq, Nat.reduceAdd, Nat.reduceLeDiff, Int.reduceNe, Int.reduceBEq, Int.reduceEq, reduceCtorEq, Nat.reduceMul, Int.reduceLT, Int.reduceLE, Int.reduceToNat, w1, w2, w3, k1, k2, k3, hzl, y1, y2, y3, z1, z2, FLW, hx1, hx2, hx3, hx4, hbb, Bool.true_and, Bool.false_and, Bool.and_true, Bool.and_false, Bool.not_true, Bool.not_false]
  all_goals refine call_is e2 ?_
  all_goals try simp only [I, B, D, RW, ↓ KW, fillA, stTags, flat, Nat.reduceBEq, Nat.reduceAdd, Nat.reduceLeDiff, Int.reduceNe, Int.reduceBEq, Int.reduceEq, reduceCtorEq, Nat.reduceMul, Int.reduceLT, Int.reduceLE, Int.reduceToNat, w1, w2, w3, k1, k2, k3, hzl, y1, y2, y3, z1, z2, FLW, hx1, hx2, hx3, hx4, hbb, Bool.true_and, Bool.false_and, Bool.and_true, Bool.and_false, Bool.not_true, Bool.not_false]
  all_goals refine call_is hA ?_
  all_goals try simp only [I, B, D, RW, ↓ KW, fillA, stTags, flat, Nat.reduceBEq, Nat.reduceAdd, Nat.reduceLeDiff, Int.reduceNe, Int.reduceBEq, Int.reduceEq, reduceCtorEq, Nat.reduceMul, Int.reduceLT, Int.reduceLE, Int.reduceToNat]
end
end Go.Eng
namespace Go.Eng
set_option linter.unusedVariables false
set_option linter.unusedSimpArgs false
set_option linter.unnecessarySimpa false
open Go
set_option linter.unusedVariables false
set_option linter.unusedSimpArgs false
set_option maxRecDepth 10000
set_option maxHeartbeats 4000000
def Al {α β : Type} (R : α → β → Prop) : List α → List β → Prop
  | [], [] => True
  | a :: l, b :: m => R a b ∧ Al R l m
  | _, _ => False
theorem Al.len {α β : Type} {R : α → β → Prop} : ∀ {l : List α} {m : List β}, Al R l m → l.length = m.length
  | [], [], _ => rfl
  | a :: l, b :: m, h => by simp [Al.len h.2]
  | [], b :: m, h => h.elim
  | a :: l, [], h => h.elim
theorem Al.get {α β : Type} {R : α → β → Prop} : ∀ {l : List α} {m : List β}, Al R l m → ∀ (i : Nat) (a : α) (b : β), l[i]? = some a → m[i]? = some b → R a b
  | a :: l, b :: m, h, 0, x, y, hx, hy => by simp at hx hy; subst hx; subst hy; exact h.1
  | a :: l, b :: m, h, i + 1, x, y, hx, hy => Al.get h.2 i x y (by simpa using hx) (by simpa using hy)
  | [], _, _, i, _, _, hx, _ => by simp at hx
theorem Al.mk {α β : Type} {R : α → β → Prop} : ∀ {l : List α} {m : List β}, l.length = m.length → (∀ (i : Nat) (a : α) (b : β), l[i]? = some a → m[i]? = some b → R a b) → Al R l m
  | [], [], _, _ => trivial
  | a :: l, b :: m, h, f => ⟨f 0 a b rfl rfl, Al.mk (by simpa using h) fun i x y hx hy => f (i + 1) x y (by simpa using hx) (by simpa using hy)⟩
theorem Al.append {α β : Type} {R : α → β → Prop} : ∀ {l : List α} {m : List β} {l' : List α} {m' : List β}, Al R l m → Al R l' m' → Al R (l ++ l') (m ++ m')
  | [], [], _, _, _, h => h
  | a :: l, b :: m, _, _, h, h' => ⟨h.1, Al.append h.2 h'⟩
theorem Al.n {α β : Type} {R : α → β → Prop} : Al R ([] : List α) ([] : List β) := trivial
theorem Al.c {α β : Type} {R : α → β → Prop} {a : α} {b : β} {l : List α} {m : List β} (h : R a b) (t : Al R l m) : Al R (a :: l) (b :: m) := ⟨h, t⟩
theorem Al.nil_inv {α β : Type} {R : α → β → Prop} {m : List β} (h : Al R [] m) : m = [] := by
  cases m with
  | nil => rfl
  | cons b m => exact h.elim
theorem Al.cons_inv {α β : Type} {R : α → β → Prop} {a : α} {l : List α} {m : List β} (h : Al R (a :: l) m) : ∃ b m', m = b :: m' ∧ R a b ∧ Al R l m' := by
  cases m with
  | nil => exact h.elim
  | cons b m => exact ⟨b, m, rfl, h.1, h.2⟩
inductive Sc where
  | bool
  | int (k : IntKind)
  | flt (k : FloatKind)
  | str
inductive Ty where
  | sc (s : Sc)
  | sl (l : List Ty)
def tyParts (sz : TypeId → Nat) (F : TypeId → Option (List Ty)) : Nat → List (Nat × TypeId) → Option (List Ty)
  | _, [] => some []
  | o, f :: r => if f.1 = o then match F f.2 with
      | some l => if sz f.2 = l.length then match tyParts sz F (o + l.length) r with
        | some m => some (l ++ m)
        | none => none
        else none
      | none => none
    else none
def tyOf (P : Program) : Nat → TypeId → Option (List Ty)
  | 0, _ => none
  | n + 1, t => match P.underlying t with
    | some .bool => some [.sc .bool]
    | some (.int k) => some [.sc (.int k)]
    | some (.float k) => some [.sc (.flt k)]
    | some .string => some [.sc .str]
    | some (.slice e) => match tyOf P n e with
      | some l => if P.cellsOf e = l.length ∧ 0 < l.length then some [.sl l] else none
      | none => none
    | some (.struct fs) => match tyParts P.cellsOf (tyOf P n) 0 (fs.toList.map fun f => (f.offset, f.type)) with
      | some l => if P.cellsOf t = l.length then some l else none
      | none => none
    | some (.array k e) => match tyParts P.cellsOf (tyOf P n) 0 ((List.range k).map fun i => (i * P.cellsOf e, e)) with
      | some l => if P.cellsOf t = l.length then some l else none
      | none => none
    | _ => none
def ScV : Sc → AV → Prop
  | .bool, .bool _ => True
  | .int k, .int k' n => k' = k ∧ (Lit.int k n).wf = true
  | .flt k, .float k' b => k' = k ∧ (Lit.float k b).wf = true
  | .str, .str s => s.size ≤ maxLen
  | _, _ => False
mutual
def TyV : Ty → AV → Prop
  | .sc s, a => ScV s a
  | .sl _, .nils => True
  | .sl l, .sl xs => xs.length ≤ maxLen ∧ ∀ r ∈ xs, TysV l r
  | _, _ => False
def TysV : List Ty → List AV → Prop
  | [], [] => True
  | t :: l, a :: r => TyV t a ∧ TysV l r
  | _, _ => False
end
theorem tysV_al : ∀ {l : List Ty} {as : List AV}, TysV l as ↔ Al TyV l as
  | [], [] => by simp [TysV, Al]
  | t :: l, a :: r => by simp only [TysV, Al]; rw [tysV_al (l := l) (as := r)]
  | [], a :: r => by simp [TysV, Al]
  | t :: l, [] => by simp [TysV, Al]
def oldP (W : World) : Nat → Nat → Prop := fun b _ => b < W.heap.size
theorem cell_lt {W : World} {a : Addr} {v : Value} (h : W.cell? a = some v) : a.block < W.heap.size := by
  unfold World.cell? at h
  split at h
  · rename_i hh; exact heap_lt hh
  · cases h
theorem ScV.scalar {s : Sc} {a : AV} (h : ScV s a) : a.scalar = true := by cases s <;> cases a <;> first | exact h.elim | rfl
theorem TyV.scalar {s : Ty} {a : AV} (h : TyV s a) : a.scalar = true := by
  cases s with
  | sc s => exact ScV.scalar (by simpa [TyV] using h)
  | sl l => cases a <;> first | rfl | (simp [TyV] at h)
section
variable {H : Type} {enc : TypeId × Value → H} {P : Program} {W : World} {base : Nat}
open Go.ChangeShapes Go.WideShapes Go.ChangeAt Go.RowKit
theorem trod_float {sp : Nat → Bool} {held : Bool} {b0 fuel : Nat} {t : TypeId} {cs : List Value} {x : DataW H × List MemPlace} {k : FloatKind} (ht : P.underlying t = some (.float k)) (h : DataW.trod enc P W b0 sp held fuel t cs = some x) : ∃ n, cs = [.float k n] ∧ (Lit.float k n).wf = true := by
  cases fuel with
  | zero => simp [DataW.trod] at h
  | succ n =>
    unfold DataW.trod at h
    rw [ht] at h
    split at h <;> simp_all
theorem parts_open {sp : TypeId → Nat} {G : TypeId → Option (List Ty)} {Tr : TypeId → List Value → Prop}
    (each : ∀ t l cs, G t = some l → Tr t cs → ∃ as, Al TyV l as ∧ Al (DV W (oldP W)) as cs) : ∀ (ps : List (Nat × TypeId)) (o : Nat) (l : List Ty) (cs : List Value), tyParts sp G o ps = some l → cs.length = o + l.length →
      (∀ (i : Nat) (f : Nat × TypeId), ps[i]? = some f → Tr f.2 ((cs.drop f.1).take (sp f.2))) → ∃ as, Al TyV l as ∧ Al (DV W (oldP W)) as (cs.drop o)
  | [], o, l, cs, h, hl, _ => by
    simp only [tyParts, Option.some.injEq] at h
    subst h
    refine ⟨[], trivial, ?_⟩
    rw [List.drop_of_length_le (by simp at hl; omega)]; trivial
  | f :: ps, o, l, cs, h, hl, htr => by
    simp only [tyParts] at h
    split at h <;> try (cases h; done)
    rename_i ho
    split at h <;> try (cases h; done)
    rename_i l1 hl1
    split at h <;> try (cases h; done)
    rename_i hsz
    split at h <;> try (cases h; done)
    rename_i m hm
    cases h
    have h0 := htr 0 f rfl
    rw [ho, hsz] at h0
    obtain ⟨as1, ht1, hd1⟩ := each f.2 l1 _ hl1 h0
    obtain ⟨as2, ht2, hd2⟩ := parts_open each ps (o + l1.length) m cs hm (by rw [hl]; simp; omega) (fun i g hg => htr (i + 1) g (by simpa using hg))
    refine ⟨as1 ++ as2, ht1.append ht2, ?_⟩
    have := hd1.append hd2
    rw [← List.drop_drop, List.take_append_drop] at this
    exact this
omit H enc P W base in
theorem cell_spot' {w : World} {b o : Nat} {sp : Option Nat} {v : Value} (h : w.cell? ⟨b, o, sp⟩ = some v) : sp = none := by
  cases sp with
  | none => rfl
  | some x => unfold World.cell? at h; split at h <;> simp at h
theorem add_off {a : Addr} {n : Nat} (h : a.spot = none) : a.add n = ⟨a.block, a.off + n, none⟩ := by
  obtain ⟨b, o, s⟩ := a
  simp only at h; subst h
  unfold Addr.add; split
  · rename_i hh; subst hh; rfl
  · rfl
theorem ty_open : ∀ (n : Nat) (t : TypeId) (l : List Ty), tyOf P n t = some l → ∀ (cs : List Value) (x : DataW H × List MemPlace) (fuel : Nat),
    DataW.trod enc P W 0 (fun _ => true) true fuel t cs = some x → ∃ as, Al TyV l as ∧ Al (DV W (oldP W)) as cs
  | 0, t, l, h, cs, x, fuel, hx => by cases h
  | n + 1, t, l, h, cs, x, fuel, hx => by
    simp only [tyOf] at h
    split at h
    · rename_i ht; cases h
      obtain ⟨b, rfl, _⟩ := DataW.trod_bool ht hx
      exact ⟨[.bool b], ⟨by simp [TyV, ScV], trivial⟩, ⟨.bool b, trivial⟩⟩
    · rename_i k ht; cases h
      obtain ⟨m, rfl, _, hw⟩ := DataW.trod_int ht hx
      exact ⟨[.int k m], ⟨by simp only [TyV]; exact ⟨rfl, hw⟩, trivial⟩, ⟨.int k m, trivial⟩⟩
    · rename_i k ht; cases h
      obtain ⟨m, rfl, hw⟩ := trod_float ht hx
      exact ⟨[.float k m], ⟨by simp only [TyV]; exact ⟨rfl, hw⟩, trivial⟩, ⟨.float k m, trivial⟩⟩
    · rename_i ht; cases h
      obtain ⟨s, rfl, _, hw⟩ := DataW.trod_string ht hx
      exact ⟨[.str s], ⟨by simp only [TyV]; exact hw, trivial⟩, ⟨.str s, trivial⟩⟩
    · rename_i e ht
      split at h <;> try (cases h; done)
      rename_i le hle
      split at h <;> try (cases h; done)
      rename_i hsz
      cases h
      obtain ⟨hsz, hpos⟩ := hsz
      rcases DataW.trod_slice ht hx with ⟨rfl, _⟩ | ⟨a, len, cap, elems, rest, k, _, rfl, _, _, hlc, hmx, hlen, hel, hrest, _⟩
      · exact ⟨[.nils], ⟨by simp [TyV], trivial⟩, ⟨.nils, trivial⟩⟩
      have spotOf : ∀ (y : DataW H × List MemPlace), (W.cells? 0 (a.add (0 * P.cellsOf e)) (P.cellsOf e)).bind (DataW.trod enc P W 0 (fun _ => true) true k e) = some y → a.spot = none := by
        intro y hy
        rw [Option.bind_eq_some_iff] at hy
        obtain ⟨cs, hcs, _⟩ := hy
        obtain ⟨_, hcl, hcell⟩ := World.cells?_some hcs
        have h0 := hcell 0 (by omega)
        obtain ⟨v, hv⟩ : ∃ v, cs[0]? = some v := ⟨_, List.getElem?_eq_getElem (by omega)⟩
        rw [hv] at h0
        obtain ⟨b, o, sp⟩ := a
        simp only [Nat.zero_mul, Addr.add, if_true] at h0
        exact cell_spot' h0
      have hspot : cap = 0 ∨ a.spot = none := by
        rcases Nat.eq_zero_or_pos cap with h | h
        · exact .inl h
        right
        rcases Nat.eq_zero_or_pos len with h' | h'
        · obtain ⟨hr1, hr2⟩ := hrest rfl
          have := hr2 0 (by omega)
          obtain ⟨y, hy⟩ : ∃ y, rest[0]? = some y := ⟨_, List.getElem?_eq_getElem (by omega)⟩
          rw [hy, h', Nat.zero_add] at this
          exact spotOf y this
        · have := hel 0 h'
          obtain ⟨y, hy⟩ : ∃ y, elems[0]? = some y := ⟨_, List.getElem?_eq_getElem (by omega)⟩
          rw [hy] at this
          exact spotOf y this
      rcases hspot with rfl | hspot
      · have : len = 0 := by omega
        subst this
        exact ⟨[.sl []], ⟨by simp [TyV], trivial⟩, ⟨.sl0 a, trivial⟩⟩
      have each : ∀ i, i < len → ∃ as cs, Al TyV le as ∧ Al (DV W (oldP W)) as cs ∧ ∀ j, j < le.length → W.cell? ⟨a.block, a.off + i * le.length + j, none⟩ = cs[j]? := by
        intro i hi
        have he := hel i hi
        have : elems[i]? ≠ none := by simp; omega
        obtain ⟨y, hy⟩ := Option.ne_none_iff_exists'.1 this
        rw [hy, Option.bind_eq_some_iff] at he
        obtain ⟨cs, hcs, htr⟩ := he
        obtain ⟨_, hcl, hcell⟩ := World.cells?_some hcs
        obtain ⟨as, hta, hda⟩ := ty_open n e le hle cs y k htr
        refine ⟨as, cs, hta, hda, fun j hj => ?_⟩
        have := hcell j (by omega)
        rw [← this, add_off (a := a.add _) (by rw [add_off hspot]), add_off hspot, hsz]
      obtain ⟨rows, hrl, hrt, hr⟩ : ∃ rows : List (List AV), rows.length = len ∧ (∀ r ∈ rows, Al TyV le r) ∧ ∀ i r, rows[i]? = some r → ∃ cs, Al (DV W (oldP W)) r cs ∧ ∀ j, j < le.length → W.cell? ⟨a.block, a.off + i * le.length + j, none⟩ = cs[j]? := by
        refine ⟨(List.range len).map fun i => if h : i < len then (each i h).choose else [], by simp, ?_, ?_⟩
        · intro r hr
          obtain ⟨i, hi, rfl⟩ := List.mem_map.1 hr
          rw [List.mem_range] at hi
          rw [dif_pos hi]
          exact (each i hi).choose_spec.choose_spec.1
        · intro i r hr
          rw [List.getElem?_map, Option.map_eq_some_iff] at hr
          obtain ⟨k, hk, rfl⟩ := hr
          have hi := (List.getElem?_eq_some_iff.1 hk).1
          simp at hi
          rw [List.getElem?_range hi] at hk
          cases hk
          rw [dif_pos hi]
          exact ⟨_, (each i hi).choose_spec.choose_spec.2⟩
      obtain ⟨b, off, spot⟩ := a
      simp only at hspot hr
      subst hspot
      refine ⟨[.sl rows], ⟨by simp only [TyV]; exact ⟨by omega, fun r hr => tysV_al.2 (hrt r hr)⟩, trivial⟩, ?_, trivial⟩
      have hz : ∀ (i : Nat) (r : List AV), rows[i]? = some r → r.length = le.length := fun i r h => (hrt r (List.mem_of_getElem? h)).len.symm
      have at_ : ∀ (i j : Nat) (r : List AV) (x : AV), rows[i]? = some r → r[j]? = some x → ∃ v, W.cell? ⟨b, off + i * le.length + j, none⟩ = some v ∧ DV W (oldP W) x v := by
        intro i j r x h1 h2
        obtain ⟨cs, hd, hc⟩ := hr i r h1
        have hj : j < le.length := by have := (List.getElem?_eq_some_iff.1 h2).1; have := hz i r h1; omega
        obtain ⟨v, hv⟩ : ∃ v, cs[j]? = some v := ⟨_, List.getElem?_eq_getElem (by have := hd.len; have := hz i r h1; omega)⟩
        exact ⟨v, (hc j hj).trans hv, hd.get j x v h2 hv⟩
      have key := DV.sl (w := W) (π := oldP W) rows b off cap le.length (fun i j => (W.cell? ⟨b, off + i * le.length + j, none⟩).getD default) (by omega) hz
        (fun i j r x h1 h2 => by
          obtain ⟨t, ht⟩ : ∃ t, le[j]? = some t := ⟨_, List.getElem?_eq_getElem (by have := (List.getElem?_eq_some_iff.1 h2).1; have := hz i r h1; omega)⟩
          exact TyV.scalar ((hrt r (List.mem_of_getElem? h1)).get j t x ht h2))
        (fun i j r x h1 h2 => by obtain ⟨v, hv, _⟩ := at_ i j r x h1 h2; exact cell_lt hv)
        (fun i j r x h1 h2 => by obtain ⟨v, hv, _⟩ := at_ i j r x h1 h2; rw [hv]; rfl)
        (fun i j r x h1 h2 => by obtain ⟨v, hv, hd⟩ := at_ i j r x h1 h2; rw [hv]; exact hd)
      rw [hrl] at key
      exact key
    · rename_i fs ht
      split at h <;> try (cases h; done)
      rename_i l' hl'
      split at h <;> try (cases h; done)
      rename_i hsz
      cases h
      obtain ⟨xs, k, _, _, hcl, hxl, hf⟩ := DataW.trod_struct ht hx
      have := parts_open (W := W) (Tr := fun t cs => ∃ x fuel, DataW.trod enc P W 0 (fun _ => true) true fuel t cs = some x) (fun t l cs h1 ⟨x, fuel, h3⟩ => ty_open n t l h1 cs x fuel h3) _ 0 l cs hl' (by omega) (fun i f hif => by
        rw [List.getElem?_map, Option.map_eq_some_iff] at hif
        obtain ⟨f, hif, rfl⟩ := hif
        have h1 := hf i f (by simpa using hif)
        have : xs[i]? ≠ none := by
          have := (List.getElem?_eq_some_iff.1 hif).1
          simp at this ⊢; omega
        obtain ⟨y, hy⟩ := Option.ne_none_iff_exists'.1 this
        exact ⟨y, k, h1.trans hy⟩)
      simpa using this
    · rename_i q e ht
      split at h <;> try (cases h; done)
      rename_i l' hl'
      split at h <;> try (cases h; done)
      rename_i hsz
      cases h
      obtain ⟨xs, k, _, _, hcl, hxl, hf⟩ := DataW.trod_array ht hx
      have := parts_open (W := W) (Tr := fun t cs => ∃ x fuel, DataW.trod enc P W 0 (fun _ => true) true fuel t cs = some x) (fun t l cs h1 ⟨x, fuel, h3⟩ => ty_open n t l h1 cs x fuel h3) _ 0 l cs hl' (by omega) (fun i f hif => by
        rw [List.getElem?_map, Option.map_eq_some_iff] at hif
        obtain ⟨f, hif, rfl⟩ := hif
        have hi := (List.getElem?_eq_some_iff.1 hif).1
        simp at hi
        rw [List.getElem?_range hi] at hif
        cases hif
        have h1 := hf i hi
        have : xs[i]? ≠ none := by simp; omega
        obtain ⟨y, hy⟩ := Option.ne_none_iff_exists'.1 this
        exact ⟨y, k, h1.trans hy⟩)
      simpa using this
    · cases h
def isAgg (P : Program) (t : TypeId) : Bool := match P.underlying t with
  | some (.struct _) | some (.array _ _) => true
  | _ => false
theorem arg_open1 {n : Nat} {t : TypeId} {k : Ty} {v : Value} {d : DataW H} {p : List MemPlace} (hl : tyOf P n t = some [k]) (ha : isAgg P t = false) (hval : Value.okWide P W .any base t v)
    (h : DataW.Trod enc P W 0 (fun _ => true) true t v d p) : ∃ a, TyV k a ∧ DV W (oldP W) a v := by
  obtain ⟨fuel, hf⟩ := h
  obtain ⟨as, ht, hd⟩ := ty_open n t [k] hl _ _ _ hf
  obtain ⟨a, as', rfl, hk, ht'⟩ := ht.cons_inv
  cases ht'.nil_inv
  obtain ⟨u, us, e, hdu, _⟩ := hd.cons_inv
  have hne : ∀ cs, v ≠ .agg cs := by
    rintro cs rfl
    unfold isAgg at ha
    unfold Value.okWide at hval
    split at hval
    · rename_i e; rw [e] at ha; cases ha
    · rename_i e; rw [e] at ha; cases ha
    · unfold Cell.okWide at hval
      split at hval <;> simp_all [Cell.ok]
  refine ⟨a, hk, ?_⟩
  cases v <;> simp [Value.cells] at e
  case agg cs => exact absurd rfl (hne cs)
  all_goals (obtain ⟨rfl, rfl⟩ := e; exact hdu)
theorem tyv_float {k : FloatKind} {a : AV} (h : TyV (.sc (.flt k)) a) : ∃ n, a = .float k n ∧ (Lit.float k n).wf = true := by
  simp only [TyV] at h
  cases a <;> first | exact h.elim | (obtain ⟨rfl, hw⟩ := h; exact ⟨_, rfl, hw⟩)
theorem flt_lt {n : Nat} (h : (Lit.float .f64 n).wf = true) : n < 2 ^ 64 := by simpa [Lit.wf] using h
theorem law_call {P : Program} {f : Nat} {args : List AV} {W : World} {vs : List Value} (h : (Pure P).c f args (.bool true) none) (hd : Al (DV W (oldP W)) args vs) :
    Calls P f vs.toArray W fun e w' => e = .returned (.bool true) ∧ Go.RowKit.Below W.heap.size W w' := by
  refine (h.2 W (oldP W) vs (fun _ _ h => h) ⟨hd.len, hd.get⟩).mono fun e w' ⟨v, π', he, hb, _, _, _, hdv, _⟩ => ?_
  cases hdv
  exact ⟨he, hb⟩
end
section
variable {H : Type} {enc : TypeId × Value → H} {P : Program} {W : World} {base : Nat}
open Go.ChangeShapes Go.WideShapes Go.ChangeAt Go.RowKit
def Came (enc : TypeId × Value → H) (P : Program) (W : World) (base : Nat) (t : TypeId) (v : Value) : Prop :=
  Value.okWide P W .any base t v ∧ ∃ d p, DataW.Trod enc P W 0 (fun _ => true) true t v d p
theorem args_open : ∀ {ts : List TypeId} {vs : List Value} {ds : List (DataW H)} {ps : List MemPlace}, DataW.TrodAll enc P W 0 (fun _ => true) true ts vs ds ps →
    (∀ (j : Nat) t v, ts[j]? = some t → vs[j]? = some v → Value.okWide P W .any base t v) → Al (Came enc P W base) ts vs
  | [], vs, ds, ps, h, _ => by obtain ⟨rfl, _, _⟩ := trodAll_nil h; trivial
  | t :: ts, vs, ds, ps, h, hv => by
    obtain ⟨v, vs', d, ds', p, q, rfl, rfl, rfl, h0, h1⟩ := trodAll_cons h
    exact ⟨⟨hv 0 t v rfl rfl, d, p, h0⟩, args_open h1 fun j t v h1 h2 => hv (j + 1) t v (by simpa using h1) (by simpa using h2)⟩
theorem args_close {W' : World} (hl : laidOutB P = true) : ∀ {ts : List TypeId} {vs : List Value} {ds : List (DataW H)} {ps : List MemPlace}, (ts.all fun t => P.readableRec t && decide (t < P.types.size)) = true →
    DataW.TrodAll enc P W 0 (fun _ => true) true ts vs ds ps → Below W.heap.size W W' → DataW.TrodAll enc P W' 0 (fun b => decide (b < W.heap.size)) true ts vs ds ps
  | [], vs, ds, ps, _, h, _ => by obtain ⟨rfl, rfl, rfl⟩ := trodAll_nil h; exact trodAll_mk0
  | t :: ts, vs, ds, ps, hr, h, hb => by
    have hlt := DataW.TrodAll.lt h
    obtain ⟨v, vs', d, ds', p, q, rfl, rfl, rfl, h0, h1⟩ := trodAll_cons h
    simp only [List.all_cons, Bool.and_eq_true, decide_eq_true_eq] at hr
    exact trodAll_cons_mk (Below.trod hl hr.1.1 hr.1.2 h0 hb fun x hx => hlt x (by simp [hx])) (args_close hl hr.2 h1 hb)
theorem came_one {n : Nat} {t : TypeId} {k : Ty} {v : Value} (hl : tyOf P n t = some [k]) (ha : isAgg P t = false) (h : Came enc P W base t v) : ∃ a, TyV k a ∧ DV W (oldP W) a v := by
  obtain ⟨h1, d, p, h2⟩ := h; exact arg_open1 hl ha h1 h2
theorem trodAll_lens {sp : Nat → Bool} {held : Bool} {b0 : Nat} : ∀ {ts : List TypeId} {vs : List Value} {ds : List (DataW H)} {ps : List MemPlace}, DataW.TrodAll enc P W b0 sp held ts vs ds ps → ds.length = ts.length
  | [], vs, ds, ps, h => by obtain ⟨_, rfl, _⟩ := trodAll_nil h; rfl
  | t :: ts, vs, ds, ps, h => by
    obtain ⟨v, vs', d, ds', p, q, rfl, rfl, rfl, h0, h1⟩ := trodAll_cons h
    simp [trodAll_lens h1]
end
theorem len_S {α : Type} {l : List α} {n : Nat} (h : l.length = n + 1) : ∃ a m, l = a :: m ∧ m.length = n := by
  cases l with
  | nil => cases h
  | cons a m => exact ⟨a, m, rfl, by simpa using h⟩
theorem len_1 {α : Type} {l : List α} (h : l.length = 1) : ∃ a, l = [a] := by obtain ⟨a, m, rfl, h2⟩ := len_S h; exact ⟨a, by rw [List.length_eq_zero_iff.1 h2]⟩
theorem len_2 {α : Type} {l : List α} (h : l.length = 2) : ∃ a b, l = [a, b] := by obtain ⟨a, m, rfl, h2⟩ := len_S h; obtain ⟨b, rfl⟩ := len_1 h2; exact ⟨a, b, rfl⟩
end Go.Eng
