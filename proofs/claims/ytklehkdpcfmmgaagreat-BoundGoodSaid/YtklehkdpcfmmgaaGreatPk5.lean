/- The engine and the library, part 5 of 7: what the proofs of this seat need of them. -/
import Derived.Test.YtklehkdpcfmmgaaGreatPk4
namespace Go.Eng
set_option linter.unusedVariables false
set_option linter.unusedSimpArgs false
set_option linter.unnecessarySimpa false
open Go
set_option linter.unusedVariables false
set_option linter.unusedSimpArgs false
set_option maxRecDepth 10000
set_option maxHeartbeats 4000000
def wI (m n : Int) : Bool := decide (n ≥ 0) && decide (n ≤ m)
def IdxS {α : Type} (row : α → List AV) (v : α → AV) (C : Con) (f : Nat) : Prop := ∀ (l : Option (List α)) (g : Nat) (fs cs : List AV) (is : α → Bool), (l.getD []).length ≤ 1000000 →
  (∀ x ∈ l.getD [], C.c g (fs ++ [v x] ++ cs) (B (is x)) none) → ∃ n : Int, decide (n ≥ 0) = (l.getD []).any is ∧ C.c f [slAV row l, .fn (.func g) fs cs] (I n) none
def ConS {α : Type} (row : α → List AV) (v : α → AV) (C : Con) (f : Nat) : Prop := ∀ (l : Option (List α)) (g : Nat) (fs cs : List AV) (is : α → Bool), (l.getD []).length ≤ 1000000 →
  (∀ x ∈ l.getD [], C.c g (fs ++ [v x] ++ cs) (B (is x)) none) → C.c f [slAV row l, .fn (.func g) fs cs] (B ((l.getD []).any is)) none
def Ev1S {α : Type} (v : α → AV) (C : Con) (f : Nat) : Prop := ∀ (x : α) (g : Nat) (fs cs : List AV) (r : Bool), C.c g (fs ++ [v x] ++ cs) (B r) none → C.c f [v x, .ref [.fn (.func g) fs cs]] (B (!r)) none
def EvS {α : Type} (row : α → List AV) (v : α → AV) (C : Con) (f : Nat) : Prop := ∀ (l : Option (List α)) (most : Int) (g : Nat) (fs cs : List AV) (is : α → Bool), most ≤ 1000000 →
  (∀ x ∈ l.getD [], C.c g (fs ++ [v x] ++ cs) (B (is x)) none) → C.c f [slAV row l, I most, .fn (.func g) fs cs] (B (decide (((l.getD []).length : Int) ≤ most) && (l.getD []).all is)) none
theorem any_take {α : Type} {l : List α} {is : α → Bool} {k : Nat} {x : α} (h : (l.take k).any is = false) (hx : l[k]? = some x) : (l.take (k + 1)).any is = is x := by
  rw [List.take_add_one, hx, List.any_append, h]; simp
theorem any_yes {α : Type} {l : List α} {is : α → Bool} {k : Nat} {x : α} (hx : l[k]? = some x) (h : is x = true) : l.any is = true := List.any_eq_true.2 ⟨x, List.mem_of_getElem? hx, h⟩
theorem any_not {α : Type} (l : List α) (is : α → Bool) : (!l.any fun x => !is x) = l.all is := by
  induction l with
  | nil => rfl
  | cons a l ih => simp only [List.any_cons, List.all_cons, ← ih]; cases is a <;> simp
def idxI.Spec (C : Con) (f : Nat) : Prop := IdxS intRow (fun n => I n) C f
def conI.Spec (C : Con) (f : Nat) : Prop := ConS intRow (fun n => I n) C f
def ev1I.Spec (C : Con) (f : Nat) : Prop := Ev1S (α := Int) (fun n => I n) C f
def evI.Spec (C : Con) (f : Nat) : Prop := EvS intRow (fun n => I n) C f
def idxP.Spec (C : Con) (f : Nat) : Prop := IdxS Ph.cells (fun p => .agg p.cells) C f
def conP.Spec (C : Con) (f : Nat) : Prop := ConS Ph.cells (fun p => .agg p.cells) C f
def ev1P.Spec (C : Con) (f : Nat) : Prop := Ev1S (α := Ph) (fun p => .agg p.cells) C f
def evP.Spec (C : Con) (f : Nat) : Prop := EvS Ph.cells (fun p => .agg p.cells) C f
def idxG.Spec (C : Con) (f : Nat) : Prop := IdxS Gr.cells (fun g => .agg g.cells) C f
def conG.Spec (C : Con) (f : Nat) : Prop := ConS Gr.cells (fun g => .agg g.cells) C f
def ev1G.Spec (C : Con) (f : Nat) : Prop := Ev1S (α := Gr) (fun g => .agg g.cells) C f
def evG.Spec (C : Con) (f : Nat) : Prop := EvS Gr.cells (fun g => .agg g.cells) C f
def idxD.Spec (C : Con) (f : Nat) : Prop := IdxS Det.cells (fun d => .agg d.cells) C f
def conD.Spec (C : Con) (f : Nat) : Prop := ConS Det.cells (fun d => .agg d.cells) C f
def ev1D.Spec (C : Con) (f : Nat) : Prop := Ev1S (α := Det) (fun d => .agg d.cells) C f
def evD.Spec (C : Con) (f : Nat) : Prop := EvS Det.cells (fun d => .agg d.cells) C f
def idxR.Spec (C : Con) (f : Nat) : Prop := IdxS Rl.cells (fun r => .agg r.cells) C f
def conR.Spec (C : Con) (f : Nat) : Prop := ConS Rl.cells (fun r => .agg r.cells) C f
def ev1R.Spec (C : Con) (f : Nat) : Prop := Ev1S (α := Rl) (fun r => .agg r.cells) C f
def evR.Spec (C : Con) (f : Nat) : Prop := EvS Rl.cells (fun r => .agg r.cells) C f
def idxU.Spec (C : Con) (f : Nat) : Prop := IdxS Bs.cells (fun b => .agg b.cells) C f
def conU.Spec (C : Con) (f : Nat) : Prop := ConS Bs.cells (fun b => .agg b.cells) C f
def ev1U.Spec (C : Con) (f : Nat) : Prop := Ev1S (α := Bs) (fun b => .agg b.cells) C f
def evU.Spec (C : Con) (f : Nat) : Prop := EvS Bs.cells (fun b => .agg b.cells) C f
theorem first_of {α : Type} {l : List α} {is : α → Bool} (h : l.any is = true) : ∃ n, n < l.length ∧ (∃ x, l[n]? = some x ∧ is x = true) ∧ (l.take n).any is = false := by
  induction l with
  | nil => cases h
  | cons a l ih =>
    cases ha : is a with
    | true => exact ⟨0, by simp, ⟨a, rfl, ha⟩, rfl⟩
    | false =>
      rw [List.any_cons, ha, Bool.false_or] at h
      obtain ⟨n, h1, ⟨x, h2, h3⟩, h4⟩ := ih h
      exact ⟨n + 1, by simpa using h1, ⟨x, by simpa using h2, h3⟩, by simp [ha, h4]⟩
section
variable {P : Program} (hm : P.follows .mixedOrders = true) {f : Nat}
include hm
theorem idxI.ok (hc : cFn P f = some cc_slices_IndexFunc_int_int) : idxI.Spec (Pure P) f := by
  intro l g fs cs is hl hg
  cases hany : (l.getD []).any is with
  | false =>
    refine ⟨-1, rfl, ?_⟩
    refine pure_of hm hc (by show 2 ≤ 19; decide) (aw_flat (keep := []) (i := 0) ?_)
    try simp only [I, B, D, RX, ↓ KW, seval, cc_slices_IndexFunc_int_int, Z.H, a_len]
    refine aw_loop' (fun k : Nat => (⟨[(8, .dat (I k) none), (7, .dat (I ((l.getD []).length : Nat)) none), (1, .dat (.fn (.func g) fs cs) none), (0, .dat (slAV intRow l) none)], [], [], 400⟩ : S)) (fun k => (l.getD []).length - k) (fun k => k ≤ (l.getD []).length) ?_ 0 (by omega) ?_
    · intro k hk A back
      have hwr := wrap_succ (k := k) (by omega)
      try simp only [I, B, D, RX, ↓ KW, seval]
      refine cd_split (fun h2 => ?_) (fun h2 => ?_) <;> try simp only [I, B, D, RX, ↓ KW, seval, h2]
      · have h8 : k < (l.getD []).length := by have := of_decide_eq_true h2; omega
        obtain ⟨x, hx⟩ : ∃ x, (l.getD [])[k]? = some x := ⟨_, List.getElem?_eq_getElem h8⟩
        have hno : is x = false := List.any_eq_false.1 hany x (List.mem_of_getElem? hx) |> Bool.eq_false_iff.2
        have hgx := hg x (List.mem_of_getElem? hx)
        rw [hno] at hgx
        try simp only [I, B, D, RX, ↓ KW, seval, a_rows, hx, intRow]
        refine ⟨by omega, ?_⟩
        refine call_is hgx ?_
        try simp only [I, B, D, RX, ↓ KW, seval]
        refine back (k + 1) _ (by omega) (by omega) ?_
        refine le_tok2 (by decide) ?_ ?_ ?_ ?_ <;> simp [LX, I, B, D, hwr]
    · refine le_tok2 (by decide) ?_ ?_ ?_ ?_ <;> simp [LX, I, B, D]
  | true =>
    obtain ⟨n, hn, hxn⟩ : ∃ n, n < (l.getD []).length ∧ (∃ x, (l.getD [])[n]? = some x ∧ is x = true) ∧ ((l.getD []).take n).any is = false := first_of hany
    obtain ⟨⟨xn, hxn, hisn⟩, hpre⟩ := hxn
    refine ⟨n, by simp, ?_⟩
    refine pure_of hm hc (by show 2 ≤ 19; decide) (aw_flat (keep := []) (i := 0) ?_)
    try simp only [I, B, D, RX, ↓ KW, seval, cc_slices_IndexFunc_int_int, Z.H, a_len]
    refine aw_loop' (fun k : Nat => (⟨[(8, .dat (I k) none), (7, .dat (I ((l.getD []).length : Nat)) none), (1, .dat (.fn (.func g) fs cs) none), (0, .dat (slAV intRow l) none)], [], [], 400⟩ : S)) (fun k => n - k) (fun k => k ≤ n) ?_ 0 (by omega) ?_
    · intro k hk A back
      have hwr := wrap_succ (k := k) (by omega)
      have h8 : k < (l.getD []).length := by omega
      have h2 : decide ((k : Int) < ((l.getD []).length : Nat)) = true := by simp; omega
      obtain ⟨x, hx⟩ : ∃ x, (l.getD [])[k]? = some x := ⟨_, List.getElem?_eq_getElem h8⟩
      have hgx := hg x (List.mem_of_getElem? hx)
      try simp only [I, B, D, RX, ↓ KW, seval, h2, a_rows, hx, intRow]
      refine ⟨by omega, ?_⟩
      by_cases e : k = n
      · subst e
        have : x = xn := by rw [hx] at hxn; exact Option.some.inj hxn
        subst this
        rw [hisn] at hgx
        refine call_is hgx ?_
        try simp only [I, B, D, RX, ↓ KW, seval]
      · have hno : is x = false := by
          refine Bool.eq_false_iff.2 (List.any_eq_false.1 hpre x ?_)
          refine List.mem_of_getElem? (i := k) ?_
          rw [List.getElem?_take, if_pos (by omega)]; exact hx
        rw [hno] at hgx
        refine call_is hgx ?_
        try simp only [I, B, D, RX, ↓ KW, seval]
        refine back (k + 1) _ (by omega) (by omega) ?_
        refine le_tok2 (by decide) ?_ ?_ ?_ ?_ <;> simp [LX, I, B, D, hwr]
    · refine le_tok2 (by decide) ?_ ?_ ?_ ?_ <;> simp [LX, I, B, D]
theorem conI.ok {fI : Nat} (hc : cFn P f = some (cc_slices_ContainsFunc_int_int fI)) (hI : idxI.Spec (Pure P) fI) : conI.Spec (Pure P) f := by
  intro l g fs cs is hl hg
  obtain ⟨n, hn, hcall⟩ := hI l g fs cs is hl hg
  refine pure_of hm hc (by show 2 ≤ 9; decide) (aw_flat (keep := []) (i := 0) ?_)
  try simp only [I, B, D, RX, ↓ KW, seval, cc_slices_ContainsFunc_int_int, Z.H]
  refine call_is hcall ?_
  try simp only [I, B, D, RX, ↓ KW, seval, hn]
theorem ev1I.ok (hc : cFn P f = some cc_table_every_int_1) : ev1I.Spec (Pure P) f := by
  intro x g fs cs r hg
  refine pure_of hm hc (by show 2 ≤ 8; decide) (aw_flat (keep := []) (i := 0) ?_)
  try simp only [I, B, D, RX, ↓ KW, seval, cc_table_every_int_1, Z.H]
  refine call_is hg ?_
  try simp only [I, B, D, RX, ↓ KW, seval]
theorem evI.ok {f1 fC : Nat} (hc : cFn P f = some (cc_table_every_int f1 fC)) (h1 : ev1I.Spec (Pure P) f1) (hC : conI.Spec (Pure P) fC) : evI.Spec (Pure P) f := by
  intro l most g fs cs is hm' hg
  refine pure_of hm hc (by show 3 ≤ 17; decide) (aw_flat (keep := []) (i := 0) ?_)
  try simp only [I, B, D, RX, ↓ KW, seval, cc_table_every_int, Z.H, a_len]
  cases hl : decide (((l.getD []).length : Int) ≤ most)
  · try simp only [I, B, D, RX, ↓ KW, seval, hl]
    rfl
  · have := of_decide_eq_true hl
    try simp only [I, B, D, RX, ↓ KW, seval, hl]
    refine ⟨rfl, ?_⟩
    refine call_is (hC l f1 [] [.ref [.fn (.func g) fs cs]] (fun x => !is x) (by omega) (fun x hx => h1 x g fs cs (is x) (hg x hx))) ?_
    try simp only [I, B, D, RX, ↓ KW, seval]
    rw [any_not]; rfl
theorem idxP.ok (hc : cFn P f = some cc_slices_IndexFunc_api_Phase_api_Phase) : idxP.Spec (Pure P) f := by
  intro l g fs cs is hl hg
  have hpart : ∀ x : Ph, partA (Ph.cells x) 0 (some 13) = some (.agg (Ph.cells x)) := fun x => rfl
  have hlen : ∀ x : Ph, (Ph.cells x).length = 13 := fun x => rfl
  cases hany : (l.getD []).any is with
  | false =>
    refine ⟨-1, rfl, ?_⟩
    refine pure_of hm hc (by show 2 ≤ 19; decide) (aw_flat (keep := []) (i := 0) ?_)
    try simp only [I, B, D, RX, ↓ KW, seval, cc_slices_IndexFunc_api_Phase_api_Phase, Z.H, a_len]
    refine aw_loop' (fun k : Nat => (⟨[(8, .dat (I k) none), (7, .dat (I ((l.getD []).length : Nat)) none), (1, .dat (.fn (.func g) fs cs) none), (0, .dat (slAV Ph.cells l) none)], [], [], 400⟩ : S)) (fun k => (l.getD []).length - k) (fun k => k ≤ (l.getD []).length) ?_ 0 (by omega) ?_
    · intro k hk A back
      have hwr := wrap_succ (k := k) (by omega)
      try simp only [I, B, D, RX, ↓ KW, seval]
      refine cd_split (fun h2 => ?_) (fun h2 => ?_) <;> try simp only [I, B, D, RX, ↓ KW, seval, h2]
      · have h8 : k < (l.getD []).length := by have := of_decide_eq_true h2; omega
        obtain ⟨x, hx⟩ : ∃ x, (l.getD [])[k]? = some x := ⟨_, List.getElem?_eq_getElem h8⟩
        have hno : is x = false := List.any_eq_false.1 hany x (List.mem_of_getElem? hx) |> Bool.eq_false_iff.2
        have hgx := hg x (List.mem_of_getElem? hx)
        rw [hno] at hgx
        try simp only [I, B, D, RX, ↓ KW, seval, a_rows, hx, hpart, hlen]
        refine ⟨by omega, ?_⟩
        refine call_is hgx ?_
        try simp only [I, B, D, RX, ↓ KW, seval]
        refine back (k + 1) _ (by omega) (by omega) ?_
        refine le_tok2 (by decide) ?_ ?_ ?_ ?_ <;> simp [LX, I, B, D, hwr]
    · refine le_tok2 (by decide) ?_ ?_ ?_ ?_ <;> simp [LX, I, B, D]
  | true =>
    obtain ⟨n, hn, hxn⟩ : ∃ n, n < (l.getD []).length ∧ (∃ x, (l.getD [])[n]? = some x ∧ is x = true) ∧ ((l.getD []).take n).any is = false := first_of hany
    obtain ⟨⟨xn, hxn, hisn⟩, hpre⟩ := hxn
    refine ⟨n, by simp, ?_⟩
    refine pure_of hm hc (by show 2 ≤ 19; decide) (aw_flat (keep := []) (i := 0) ?_)
    try simp only [I, B, D, RX, ↓ KW, seval, cc_slices_IndexFunc_api_Phase_api_Phase, Z.H, a_len]
    refine aw_loop' (fun k : Nat => (⟨[(8, .dat (I k) none), (7, .dat (I ((l.getD []).length : Nat)) none), (1, .dat (.fn (.func g) fs cs) none), (0, .dat (slAV Ph.cells l) none)], [], [], 400⟩ : S)) (fun k => n - k) (fun k => k ≤ n) ?_ 0 (by omega) ?_
    · intro k hk A back
      have hwr := wrap_succ (k := k) (by omega)
      have h8 : k < (l.getD []).length := by omega
      have h2 : decide ((k : Int) < ((l.getD []).length : Nat)) = true := by simp; omega
      obtain ⟨x, hx⟩ : ∃ x, (l.getD [])[k]? = some x := ⟨_, List.getElem?_eq_getElem h8⟩
      have hgx := hg x (List.mem_of_getElem? hx)
      try simp only [I, B, D, RX, ↓ KW, seval, h2, a_rows, hx, hpart, hlen]
      refine ⟨by omega, ?_⟩
      by_cases e : k = n
      · subst e
        have : x = xn := by rw [hx] at hxn; exact Option.some.inj hxn
        subst this
        rw [hisn] at hgx
        refine call_is hgx ?_
        try simp only [I, B, D, RX, ↓ KW, seval]
      · have hno : is x = false := by
          refine Bool.eq_false_iff.2 (List.any_eq_false.1 hpre x ?_)
          refine List.mem_of_getElem? (i := k) ?_
          rw [List.getElem?_take, if_pos (by omega)]; exact hx
        rw [hno] at hgx
        refine call_is hgx ?_
        try simp only [I, B, D, RX, ↓ KW, seval]
        refine back (k + 1) _ (by omega) (by omega) ?_
        refine le_tok2 (by decide) ?_ ?_ ?_ ?_ <;> simp [LX, I, B, D, hwr]
    · refine le_tok2 (by decide) ?_ ?_ ?_ ?_ <;> simp [LX, I, B, D]
theorem conP.ok {fI : Nat} (hc : cFn P f = some (cc_slices_ContainsFunc_api_Phase_api_Phase fI)) (hI : idxP.Spec (Pure P) fI) : conP.Spec (Pure P) f := by
  intro l g fs cs is hl hg
  obtain ⟨n, hn, hcall⟩ := hI l g fs cs is hl hg
  refine pure_of hm hc (by show 2 ≤ 9; decide) (aw_flat (keep := []) (i := 0) ?_)
  try simp only [I, B, D, RX, ↓ KW, seval, cc_slices_ContainsFunc_api_Phase_api_Phase, Z.H]
  refine call_is hcall ?_
  try simp only [I, B, D, RX, ↓ KW, seval, hn]
theorem ev1P.ok (hc : cFn P f = some cc_table_every_api_Phase_1) : ev1P.Spec (Pure P) f := by
  intro x g fs cs r hg
  have hpart : ∀ x : Ph, partA (Ph.cells x) 0 (some 13) = some (.agg (Ph.cells x)) := fun x => rfl
  have hlen : ∀ x : Ph, (Ph.cells x).length = 13 := fun x => rfl
  refine pure_of hm hc (by show 2 ≤ 8; decide) (aw_flat (keep := []) (i := 0) ?_)
  try simp only [I, B, D, RX, ↓ KW, seval, cc_table_every_api_Phase_1, Z.H, hpart, hlen]
  refine call_is hg ?_
  try simp only [I, B, D, RX, ↓ KW, seval]
theorem evP.ok {f1 fC : Nat} (hc : cFn P f = some (cc_table_every_api_Phase f1 fC)) (h1 : ev1P.Spec (Pure P) f1) (hC : conP.Spec (Pure P) fC) : evP.Spec (Pure P) f := by
  intro l most g fs cs is hm' hg
  refine pure_of hm hc (by show 3 ≤ 17; decide) (aw_flat (keep := []) (i := 0) ?_)
  try simp only [I, B, D, RX, ↓ KW, seval, cc_table_every_api_Phase, Z.H, a_len]
  cases hl : decide (((l.getD []).length : Int) ≤ most)
  · try simp only [I, B, D, RX, ↓ KW, seval, hl]
    rfl
  · have := of_decide_eq_true hl
    try simp only [I, B, D, RX, ↓ KW, seval, hl]
    refine ⟨rfl, ?_⟩
    refine call_is (hC l f1 [] [.ref [.fn (.func g) fs cs]] (fun x => !is x) (by omega) (fun x hx => h1 x g fs cs (is x) (hg x hx))) ?_
    try simp only [I, B, D, RX, ↓ KW, seval]
    rw [any_not]; rfl
theorem idxG.ok (hc : cFn P f = some cc_slices_IndexFunc_2_int_2_int) : idxG.Spec (Pure P) f := by
  intro l g fs cs is hl hg
  have hpart : ∀ x : Gr, partA (Gr.cells x) 0 (some 2) = some (.agg (Gr.cells x)) := fun x => rfl
  have hlen : ∀ x : Gr, (Gr.cells x).length = 2 := fun x => rfl
  cases hany : (l.getD []).any is with
  | false =>
    refine ⟨-1, rfl, ?_⟩
    refine pure_of hm hc (by show 2 ≤ 19; decide) (aw_flat (keep := []) (i := 0) ?_)
    try simp only [I, B, D, RX, ↓ KW, seval, cc_slices_IndexFunc_2_int_2_int, Z.H, a_len]
    refine aw_loop' (fun k : Nat => (⟨[(8, .dat (I k) none), (7, .dat (I ((l.getD []).length : Nat)) none), (1, .dat (.fn (.func g) fs cs) none), (0, .dat (slAV Gr.cells l) none)], [], [], 400⟩ : S)) (fun k => (l.getD []).length - k) (fun k => k ≤ (l.getD []).length) ?_ 0 (by omega) ?_
    · intro k hk A back
      have hwr := wrap_succ (k := k) (by omega)
      try simp only [I, B, D, RX, ↓ KW, seval]
      refine cd_split (fun h2 => ?_) (fun h2 => ?_) <;> try simp only [I, B, D, RX, ↓ KW, seval, h2]
      · have h8 : k < (l.getD []).length := by have := of_decide_eq_true h2; omega
        obtain ⟨x, hx⟩ : ∃ x, (l.getD [])[k]? = some x := ⟨_, List.getElem?_eq_getElem h8⟩
        have hno : is x = false := List.any_eq_false.1 hany x (List.mem_of_getElem? hx) |> Bool.eq_false_iff.2
        have hgx := hg x (List.mem_of_getElem? hx)
        rw [hno] at hgx
        try simp only [I, B, D, RX, ↓ KW, seval, a_rows, hx, hpart, hlen]
        refine ⟨by omega, ?_⟩
        refine call_is hgx ?_
        try simp only [I, B, D, RX, ↓ KW, seval]
        refine back (k + 1) _ (by omega) (by omega) ?_
        refine le_tok2 (by decide) ?_ ?_ ?_ ?_ <;> simp [LX, I, B, D, hwr]
    · refine le_tok2 (by decide) ?_ ?_ ?_ ?_ <;> simp [LX, I, B, D]
  | true =>
    obtain ⟨n, hn, hxn⟩ : ∃ n, n < (l.getD []).length ∧ (∃ x, (l.getD [])[n]? = some x ∧ is x = true) ∧ ((l.getD []).take n).any is = false := first_of hany
    obtain ⟨⟨xn, hxn, hisn⟩, hpre⟩ := hxn
    refine ⟨n, by simp, ?_⟩
    refine pure_of hm hc (by show 2 ≤ 19; decide) (aw_flat (keep := []) (i := 0) ?_)
    try simp only [I, B, D, RX, ↓ KW, seval, cc_slices_IndexFunc_2_int_2_int, Z.H, a_len]
    refine aw_loop' (fun k : Nat => (⟨[(8, .dat (I k) none), (7, .dat (I ((l.getD []).length : Nat)) none), (1, .dat (.fn (.func g) fs cs) none), (0, .dat (slAV Gr.cells l) none)], [], [], 400⟩ : S)) (fun k => n - k) (fun k => k ≤ n) ?_ 0 (by omega) ?_
    · intro k hk A back
      have hwr := wrap_succ (k := k) (by omega)
      have h8 : k < (l.getD []).length := by omega
      have h2 : decide ((k : Int) < ((l.getD []).length : Nat)) = true := by simp; omega
      obtain ⟨x, hx⟩ : ∃ x, (l.getD [])[k]? = some x := ⟨_, List.getElem?_eq_getElem h8⟩
      have hgx := hg x (List.mem_of_getElem? hx)
      try simp only [I, B, D, RX, ↓ KW, seval, h2, a_rows, hx, hpart, hlen]
      refine ⟨by omega, ?_⟩
      by_cases e : k = n
      · subst e
        have : x = xn := by rw [hx] at hxn; exact Option.some.inj hxn
        subst this
        rw [hisn] at hgx
        refine call_is hgx ?_
        try simp only [I, B, D, RX, ↓ KW, seval]
      · have hno : is x = false := by
          refine Bool.eq_false_iff.2 (List.any_eq_false.1 hpre x ?_)
          refine List.mem_of_getElem? (i := k) ?_
          rw [List.getElem?_take, if_pos (by omega)]; exact hx
        rw [hno] at hgx
        refine call_is hgx ?_
        try simp only [I, B, D, RX, ↓ KW, seval]
        refine back (k + 1) _ (by omega) (by omega) ?_
        refine le_tok2 (by decide) ?_ ?_ ?_ ?_ <;> simp [LX, I, B, D, hwr]
    · refine le_tok2 (by decide) ?_ ?_ ?_ ?_ <;> simp [LX, I, B, D]
theorem conG.ok {fI : Nat} (hc : cFn P f = some (cc_slices_ContainsFunc_2_int_2_int fI)) (hI : idxG.Spec (Pure P) fI) : conG.Spec (Pure P) f := by
  intro l g fs cs is hl hg
  obtain ⟨n, hn, hcall⟩ := hI l g fs cs is hl hg
  refine pure_of hm hc (by show 2 ≤ 9; decide) (aw_flat (keep := []) (i := 0) ?_)
  try simp only [I, B, D, RX, ↓ KW, seval, cc_slices_ContainsFunc_2_int_2_int, Z.H]
  refine call_is hcall ?_
  try simp only [I, B, D, RX, ↓ KW, seval, hn]
theorem ev1G.ok (hc : cFn P f = some cc_table_every_2_int_1) : ev1G.Spec (Pure P) f := by
  intro x g fs cs r hg
  have hpart : ∀ x : Gr, partA (Gr.cells x) 0 (some 2) = some (.agg (Gr.cells x)) := fun x => rfl
  have hlen : ∀ x : Gr, (Gr.cells x).length = 2 := fun x => rfl
  refine pure_of hm hc (by show 2 ≤ 8; decide) (aw_flat (keep := []) (i := 0) ?_)
  try simp only [I, B, D, RX, ↓ KW, seval, cc_table_every_2_int_1, Z.H, hpart, hlen]
  refine call_is hg ?_
  try simp only [I, B, D, RX, ↓ KW, seval]
theorem evG.ok {f1 fC : Nat} (hc : cFn P f = some (cc_table_every_2_int f1 fC)) (h1 : ev1G.Spec (Pure P) f1) (hC : conG.Spec (Pure P) fC) : evG.Spec (Pure P) f := by
  intro l most g fs cs is hm' hg
  refine pure_of hm hc (by show 3 ≤ 17; decide) (aw_flat (keep := []) (i := 0) ?_)
  try simp only [I, B, D, RX, ↓ KW, seval, cc_table_every_2_int, Z.H, a_len]
  cases hl : decide (((l.getD []).length : Int) ≤ most)
  · try simp only [I, B, D, RX, ↓ KW, seval, hl]
    rfl
  · have := of_decide_eq_true hl
    try simp only [I, B, D, RX, ↓ KW, seval, hl]
    refine ⟨rfl, ?_⟩
    refine call_is (hC l f1 [] [.ref [.fn (.func g) fs cs]] (fun x => !is x) (by omega) (fun x hx => h1 x g fs cs (is x) (hg x hx))) ?_
    try simp only [I, B, D, RX, ↓ KW, seval]
    rw [any_not]; rfl
theorem idxD.ok (hc : cFn P f = some cc_slices_IndexFunc_api_Detector_api_Detector) : idxD.Spec (Pure P) f := by
  intro l g fs cs is hl hg
  have hpart : ∀ x : Det, partA (Det.cells x) 0 (some 7) = some (.agg (Det.cells x)) := fun x => rfl
  have hlen : ∀ x : Det, (Det.cells x).length = 7 := fun x => rfl
  cases hany : (l.getD []).any is with
  | false =>
    refine ⟨-1, rfl, ?_⟩
    refine pure_of hm hc (by show 2 ≤ 19; decide) (aw_flat (keep := []) (i := 0) ?_)
    try simp only [I, B, D, RX, ↓ KW, seval, cc_slices_IndexFunc_api_Detector_api_Detector, Z.H, a_len]
    refine aw_loop' (fun k : Nat => (⟨[(8, .dat (I k) none), (7, .dat (I ((l.getD []).length : Nat)) none), (1, .dat (.fn (.func g) fs cs) none), (0, .dat (slAV Det.cells l) none)], [], [], 400⟩ : S)) (fun k => (l.getD []).length - k) (fun k => k ≤ (l.getD []).length) ?_ 0 (by omega) ?_
    · intro k hk A back
      have hwr := wrap_succ (k := k) (by omega)
      try simp only [I, B, D, RX, ↓ KW, seval]
      refine cd_split (fun h2 => ?_) (fun h2 => ?_) <;> try simp only [I, B, D, RX, ↓ KW, seval, h2]
      · have h8 : k < (l.getD []).length := by have := of_decide_eq_true h2; omega
        obtain ⟨x, hx⟩ : ∃ x, (l.getD [])[k]? = some x := ⟨_, List.getElem?_eq_getElem h8⟩
        have hno : is x = false := List.any_eq_false.1 hany x (List.mem_of_getElem? hx) |> Bool.eq_false_iff.2
        have hgx := hg x (List.mem_of_getElem? hx)
        rw [hno] at hgx
        try simp only [I, B, D, RX, ↓ KW, seval, a_rows, hx, hpart, hlen]
        refine ⟨by omega, ?_⟩
        refine call_is hgx ?_
        try simp only [I, B, D, RX, ↓ KW, seval]
        refine back (k + 1) _ (by omega) (by omega) ?_
        refine le_tok2 (by decide) ?_ ?_ ?_ ?_ <;> simp [LX, I, B, D, hwr]
    · refine le_tok2 (by decide) ?_ ?_ ?_ ?_ <;> simp [LX, I, B, D]
  | true =>
    obtain ⟨n, hn, hxn⟩ : ∃ n, n < (l.getD []).length ∧ (∃ x, (l.getD [])[n]? = some x ∧ is x = true) ∧ ((l.getD []).take n).any is = false := first_of hany
    obtain ⟨⟨xn, hxn, hisn⟩, hpre⟩ := hxn
    refine ⟨n, by simp, ?_⟩
    refine pure_of hm hc (by show 2 ≤ 19; decide) (aw_flat (keep := []) (i := 0) ?_)
    try simp only [I, B, D, RX, ↓ KW, seval, cc_slices_IndexFunc_api_Detector_api_Detector, Z.H, a_len]
    refine aw_loop' (fun k : Nat => (⟨[(8, .dat (I k) none), (7, .dat (I ((l.getD []).length : Nat)) none), (1, .dat (.fn (.func g) fs cs) none), (0, .dat (slAV Det.cells l) none)], [], [], 400⟩ : S)) (fun k => n - k) (fun k => k ≤ n) ?_ 0 (by omega) ?_
    · intro k hk A back
      have hwr := wrap_succ (k := k) (by omega)
      have h8 : k < (l.getD []).length := by omega
      have h2 : decide ((k : Int) < ((l.getD []).length : Nat)) = true := by simp; omega
      obtain ⟨x, hx⟩ : ∃ x, (l.getD [])[k]? = some x := ⟨_, List.getElem?_eq_getElem h8⟩
      have hgx := hg x (List.mem_of_getElem? hx)
      try simp only [I, B, D, RX, ↓ KW, seval, h2, a_rows, hx, hpart, hlen]
      refine ⟨by omega, ?_⟩
      by_cases e : k = n
      · subst e
        have : x = xn := by rw [hx] at hxn; exact Option.some.inj hxn
        subst this
        rw [hisn] at hgx
        refine call_is hgx ?_
        try simp only [I, B, D, RX, ↓ KW, seval]
      · have hno : is x = false := by
          refine Bool.eq_false_iff.2 (List.any_eq_false.1 hpre x ?_)
          refine List.mem_of_getElem? (i := k) ?_
          rw [List.getElem?_take, if_pos (by omega)]; exact hx
        rw [hno] at hgx
        refine call_is hgx ?_
        try simp only [I, B, D, RX, ↓ KW, seval]
        refine back (k + 1) _ (by omega) (by omega) ?_
        refine le_tok2 (by decide) ?_ ?_ ?_ ?_ <;> simp [LX, I, B, D, hwr]
    · refine le_tok2 (by decide) ?_ ?_ ?_ ?_ <;> simp [LX, I, B, D]
theorem conD.ok {fI : Nat} (hc : cFn P f = some (cc_slices_ContainsFunc_api_Detector_api_Detector fI)) (hI : idxD.Spec (Pure P) fI) : conD.Spec (Pure P) f := by
  intro l g fs cs is hl hg
  obtain ⟨n, hn, hcall⟩ := hI l g fs cs is hl hg
  refine pure_of hm hc (by show 2 ≤ 9; decide) (aw_flat (keep := []) (i := 0) ?_)
  try simp only [I, B, D, RX, ↓ KW, seval, cc_slices_ContainsFunc_api_Detector_api_Detector, Z.H]
  refine call_is hcall ?_
  try simp only [I, B, D, RX, ↓ KW, seval, hn]
theorem ev1D.ok (hc : cFn P f = some cc_table_every_api_Detector_1) : ev1D.Spec (Pure P) f := by
  intro x g fs cs r hg
  have hpart : ∀ x : Det, partA (Det.cells x) 0 (some 7) = some (.agg (Det.cells x)) := fun x => rfl
  have hlen : ∀ x : Det, (Det.cells x).length = 7 := fun x => rfl
  refine pure_of hm hc (by show 2 ≤ 8; decide) (aw_flat (keep := []) (i := 0) ?_)
  try simp only [I, B, D, RX, ↓ KW, seval, cc_table_every_api_Detector_1, Z.H, hpart, hlen]
  refine call_is hg ?_
  try simp only [I, B, D, RX, ↓ KW, seval]
theorem evD.ok {f1 fC : Nat} (hc : cFn P f = some (cc_table_every_api_Detector f1 fC)) (h1 : ev1D.Spec (Pure P) f1) (hC : conD.Spec (Pure P) fC) : evD.Spec (Pure P) f := by
  intro l most g fs cs is hm' hg
  refine pure_of hm hc (by show 3 ≤ 17; decide) (aw_flat (keep := []) (i := 0) ?_)
  try simp only [I, B, D, RX, ↓ KW, seval, cc_table_every_api_Detector, Z.H, a_len]
  cases hl : decide (((l.getD []).length : Int) ≤ most)
  · try simp only [I, B, D, RX, ↓ KW, seval, hl]
    rfl
  · have := of_decide_eq_true hl
    try simp only [I, B, D, RX, ↓ KW, seval, hl]
    refine ⟨rfl, ?_⟩
    refine call_is (hC l f1 [] [.ref [.fn (.func g) fs cs]] (fun x => !is x) (by omega) (fun x hx => h1 x g fs cs (is x) (hg x hx))) ?_
    try simp only [I, B, D, RX, ↓ KW, seval]
    rw [any_not]; rfl
theorem idxR.ok (hc : cFn P f = some cc_slices_IndexFunc_api_Rail_api_Rail) : idxR.Spec (Pure P) f := by
  intro l g fs cs is hl hg
  have hpart : ∀ x : Rl, partA (Rl.cells x) 0 (some 11) = some (.agg (Rl.cells x)) := fun x => rfl
  have hlen : ∀ x : Rl, (Rl.cells x).length = 11 := fun x => rfl
  cases hany : (l.getD []).any is with
  | false =>
    refine ⟨-1, rfl, ?_⟩
    refine pure_of hm hc (by show 2 ≤ 19; decide) (aw_flat (keep := []) (i := 0) ?_)
    try simp only [I, B, D, RX, ↓ KW, seval, cc_slices_IndexFunc_api_Rail_api_Rail, Z.H, a_len]
    refine aw_loop' (fun k : Nat => (⟨[(8, .dat (I k) none), (7, .dat (I ((l.getD []).length : Nat)) none), (1, .dat (.fn (.func g) fs cs) none), (0, .dat (slAV Rl.cells l) none)], [], [], 400⟩ : S)) (fun k => (l.getD []).length - k) (fun k => k ≤ (l.getD []).length) ?_ 0 (by omega) ?_
    · intro k hk A back
      have hwr := wrap_succ (k := k) (by omega)
      try simp only [I, B, D, RX, ↓ KW, seval]
      refine cd_split (fun h2 => ?_) (fun h2 => ?_) <;> try simp only [I, B, D, RX, ↓ KW, seval, h2]
      · have h8 : k < (l.getD []).length := by have := of_decide_eq_true h2; omega
        obtain ⟨x, hx⟩ : ∃ x, (l.getD [])[k]? = some x := ⟨_, List.getElem?_eq_getElem h8⟩
        have hno : is x = false := List.any_eq_false.1 hany x (List.mem_of_getElem? hx) |> Bool.eq_false_iff.2
        have hgx := hg x (List.mem_of_getElem? hx)
        rw [hno] at hgx
        try simp only [I, B, D, RX, ↓ KW, seval, a_rows, hx, hpart, hlen]
        refine ⟨by omega, ?_⟩
        refine call_is hgx ?_
        try simp only [I, B, D, RX, ↓ KW, seval]
        refine back (k + 1) _ (by omega) (by omega) ?_
        refine le_tok2 (by decide) ?_ ?_ ?_ ?_ <;> simp [LX, I, B, D, hwr]
    · refine le_tok2 (by decide) ?_ ?_ ?_ ?_ <;> simp [LX, I, B, D]
  | true =>
    obtain ⟨n, hn, hxn⟩ : ∃ n, n < (l.getD []).length ∧ (∃ x, (l.getD [])[n]? = some x ∧ is x = true) ∧ ((l.getD []).take n).any is = false := first_of hany
    obtain ⟨⟨xn, hxn, hisn⟩, hpre⟩ := hxn
    refine ⟨n, by simp, ?_⟩
    refine pure_of hm hc (by show 2 ≤ 19; decide) (aw_flat (keep := []) (i := 0) ?_)
    try simp only [I, B, D, RX, ↓ KW, seval, cc_slices_IndexFunc_api_Rail_api_Rail, Z.H, a_len]
    refine aw_loop' (fun k : Nat => (⟨[(8, .dat (I k) none), (7, .dat (I ((l.getD []).length : Nat)) none), (1, .dat (.fn (.func g) fs cs) none), (0, .dat (slAV Rl.cells l) none)], [], [], 400⟩ : S)) (fun k => n - k) (fun k => k ≤ n) ?_ 0 (by omega) ?_
    · intro k hk A back
      have hwr := wrap_succ (k := k) (by omega)
      have h8 : k < (l.getD []).length := by omega
      have h2 : decide ((k : Int) < ((l.getD []).length : Nat)) = true := by simp; omega
      obtain ⟨x, hx⟩ : ∃ x, (l.getD [])[k]? = some x := ⟨_, List.getElem?_eq_getElem h8⟩
      have hgx := hg x (List.mem_of_getElem? hx)
      try simp only [I, B, D, RX, ↓ KW, seval, h2, a_rows, hx, hpart, hlen]
      refine ⟨by omega, ?_⟩
      by_cases e : k = n
      · subst e
        have : x = xn := by rw [hx] at hxn; exact Option.some.inj hxn
        subst this
        rw [hisn] at hgx
        refine call_is hgx ?_
        try simp only [I, B, D, RX, ↓ KW, seval]
      · have hno : is x = false := by
          refine Bool.eq_false_iff.2 (List.any_eq_false.1 hpre x ?_)
          refine List.mem_of_getElem? (i := k) ?_
          rw [List.getElem?_take, if_pos (by omega)]; exact hx
        rw [hno] at hgx
        refine call_is hgx ?_
        try simp only [I, B, D, RX, ↓ KW, seval]
        refine back (k + 1) _ (by omega) (by omega) ?_
        refine le_tok2 (by decide) ?_ ?_ ?_ ?_ <;> simp [LX, I, B, D, hwr]
    · refine le_tok2 (by decide) ?_ ?_ ?_ ?_ <;> simp [LX, I, B, D]
theorem conR.ok {fI : Nat} (hc : cFn P f = some (cc_slices_ContainsFunc_api_Rail_api_Rail fI)) (hI : idxR.Spec (Pure P) fI) : conR.Spec (Pure P) f := by
  intro l g fs cs is hl hg
  obtain ⟨n, hn, hcall⟩ := hI l g fs cs is hl hg
  refine pure_of hm hc (by show 2 ≤ 9; decide) (aw_flat (keep := []) (i := 0) ?_)
  try simp only [I, B, D, RX, ↓ KW, seval, cc_slices_ContainsFunc_api_Rail_api_Rail, Z.H]
  refine call_is hcall ?_
  try simp only [I, B, D, RX, ↓ KW, seval, hn]
theorem ev1R.ok (hc : cFn P f = some cc_table_every_api_Rail_1) : ev1R.Spec (Pure P) f := by
  intro x g fs cs r hg
  have hpart : ∀ x : Rl, partA (Rl.cells x) 0 (some 11) = some (.agg (Rl.cells x)) := fun x => rfl
  have hlen : ∀ x : Rl, (Rl.cells x).length = 11 := fun x => rfl
  refine pure_of hm hc (by show 2 ≤ 8; decide) (aw_flat (keep := []) (i := 0) ?_)
  try simp only [I, B, D, RX, ↓ KW, seval, cc_table_every_api_Rail_1, Z.H, hpart, hlen]
  refine call_is hg ?_
  try simp only [I, B, D, RX, ↓ KW, seval]
theorem evR.ok {f1 fC : Nat} (hc : cFn P f = some (cc_table_every_api_Rail f1 fC)) (h1 : ev1R.Spec (Pure P) f1) (hC : conR.Spec (Pure P) fC) : evR.Spec (Pure P) f := by
  intro l most g fs cs is hm' hg
  refine pure_of hm hc (by show 3 ≤ 17; decide) (aw_flat (keep := []) (i := 0) ?_)
  try simp only [I, B, D, RX, ↓ KW, seval, cc_table_every_api_Rail, Z.H, a_len]
  cases hl : decide (((l.getD []).length : Int) ≤ most)
  · try simp only [I, B, D, RX, ↓ KW, seval, hl]
    rfl
  · have := of_decide_eq_true hl
    try simp only [I, B, D, RX, ↓ KW, seval, hl]
    refine ⟨rfl, ?_⟩
    refine call_is (hC l f1 [] [.ref [.fn (.func g) fs cs]] (fun x => !is x) (by omega) (fun x hx => h1 x g fs cs (is x) (hg x hx))) ?_
    try simp only [I, B, D, RX, ↓ KW, seval]
    rw [any_not]; rfl
theorem idxU.ok (hc : cFn P f = some cc_slices_IndexFunc_api_Bus_api_Bus) : idxU.Spec (Pure P) f := by
  intro l g fs cs is hl hg
  have hpart : ∀ x : Bs, partA (Bs.cells x) 0 (some 2) = some (.agg (Bs.cells x)) := fun x => rfl
  have hlen : ∀ x : Bs, (Bs.cells x).length = 2 := fun x => rfl
  cases hany : (l.getD []).any is with
  | false =>
    refine ⟨-1, rfl, ?_⟩
    refine pure_of hm hc (by show 2 ≤ 19; decide) (aw_flat (keep := []) (i := 0) ?_)
    try simp only [I, B, D, RX, ↓ KW, seval, cc_slices_IndexFunc_api_Bus_api_Bus, Z.H, a_len]
    refine aw_loop' (fun k : Nat => (⟨[(8, .dat (I k) none), (7, .dat (I ((l.getD []).length : Nat)) none), (1, .dat (.fn (.func g) fs cs) none), (0, .dat (slAV Bs.cells l) none)], [], [], 400⟩ : S)) (fun k => (l.getD []).length - k) (fun k => k ≤ (l.getD []).length) ?_ 0 (by omega) ?_
    · intro k hk A back
      have hwr := wrap_succ (k := k) (by omega)
      try simp only [I, B, D, RX, ↓ KW, seval]
      refine cd_split (fun h2 => ?_) (fun h2 => ?_) <;> try simp only [I, B, D, RX, ↓ KW, seval, h2]
      · have h8 : k < (l.getD []).length := by have := of_decide_eq_true h2; omega
        obtain ⟨x, hx⟩ : ∃ x, (l.getD [])[k]? = some x := ⟨_, List.getElem?_eq_getElem h8⟩
        have hno : is x = false := List.any_eq_false.1 hany x (List.mem_of_getElem? hx) |> Bool.eq_false_iff.2
        have hgx := hg x (List.mem_of_getElem? hx)
        rw [hno] at hgx
        try simp only [I, B, D, RX, ↓ KW, seval, a_rows, hx, hpart, hlen]
        refine ⟨by omega, ?_⟩
        refine call_is hgx ?_
        try simp only [I, B, D, RX, ↓ KW, seval]
        refine back (k + 1) _ (by omega) (by omega) ?_
        refine le_tok2 (by decide) ?_ ?_ ?_ ?_ <;> simp [LX, I, B, D, hwr]
    · refine le_tok2 (by decide) ?_ ?_ ?_ ?_ <;> simp [LX, I, B, D]
  | true =>
    obtain ⟨n, hn, hxn⟩ : ∃ n, n < (l.getD []).length ∧ (∃ x, (l.getD [])[n]? = some x ∧ is x = true) ∧ ((l.getD []).take n).any is = false := first_of hany
    obtain ⟨⟨xn, hxn, hisn⟩, hpre⟩ := hxn
    refine ⟨n, by simp, ?_⟩
    refine pure_of hm hc (by show 2 ≤ 19; decide) (aw_flat (keep := []) (i := 0) ?_)
    try simp only [I, B, D, RX, ↓ KW, seval, cc_slices_IndexFunc_api_Bus_api_Bus, Z.H, a_len]
    refine aw_loop' (fun k : Nat => (⟨[(8, .dat (I k) none), (7, .dat (I ((l.getD []).length : Nat)) none), (1, .dat (.fn (.func g) fs cs) none), (0, .dat (slAV Bs.cells l) none)], [], [], 400⟩ : S)) (fun k => n - k) (fun k => k ≤ n) ?_ 0 (by omega) ?_
    · intro k hk A back
      have hwr := wrap_succ (k := k) (by omega)
      have h8 : k < (l.getD []).length := by omega
      have h2 : decide ((k : Int) < ((l.getD []).length : Nat)) = true := by simp; omega
      obtain ⟨x, hx⟩ : ∃ x, (l.getD [])[k]? = some x := ⟨_, List.getElem?_eq_getElem h8⟩
      have hgx := hg x (List.mem_of_getElem? hx)
      try simp only [I, B, D, RX, ↓ KW, seval, h2, a_rows, hx, hpart, hlen]
      refine ⟨by omega, ?_⟩
      by_cases e : k = n
      · subst e
        have : x = xn := by rw [hx] at hxn; exact Option.some.inj hxn
        subst this
        rw [hisn] at hgx
        refine call_is hgx ?_
        try simp only [I, B, D, RX, ↓ KW, seval]
      · have hno : is x = false := by
          refine Bool.eq_false_iff.2 (List.any_eq_false.1 hpre x ?_)
          refine List.mem_of_getElem? (i := k) ?_
          rw [List.getElem?_take, if_pos (by omega)]; exact hx
        rw [hno] at hgx
        refine call_is hgx ?_
        try simp only [I, B, D, RX, ↓ KW, seval]
        refine back (k + 1) _ (by omega) (by omega) ?_
        refine le_tok2 (by decide) ?_ ?_ ?_ ?_ <;> simp [LX, I, B, D, hwr]
    · refine le_tok2 (by decide) ?_ ?_ ?_ ?_ <;> simp [LX, I, B, D]
theorem conU.ok {fI : Nat} (hc : cFn P f = some (cc_slices_ContainsFunc_api_Bus_api_Bus fI)) (hI : idxU.Spec (Pure P) fI) : conU.Spec (Pure P) f := by
  intro l g fs cs is hl hg
  obtain ⟨n, hn, hcall⟩ := hI l g fs cs is hl hg
  refine pure_of hm hc (by show 2 ≤ 9; decide) (aw_flat (keep := []) (i := 0) ?_)
  try simp only [I, B, D, RX, ↓ KW, seval, cc_slices_ContainsFunc_api_Bus_api_Bus, Z.H]
  refine call_is hcall ?_
  try simp only [I, B, D, RX, ↓ KW, seval, hn]
theorem ev1U.ok (hc : cFn P f = some cc_table_every_api_Bus_1) : ev1U.Spec (Pure P) f := by
  intro x g fs cs r hg
  have hpart : ∀ x : Bs, partA (Bs.cells x) 0 (some 2) = some (.agg (Bs.cells x)) := fun x => rfl
  have hlen : ∀ x : Bs, (Bs.cells x).length = 2 := fun x => rfl
  refine pure_of hm hc (by show 2 ≤ 8; decide) (aw_flat (keep := []) (i := 0) ?_)
  try simp only [I, B, D, RX, ↓ KW, seval, cc_table_every_api_Bus_1, Z.H, hpart, hlen]
  refine call_is hg ?_
  try simp only [I, B, D, RX, ↓ KW, seval]
theorem evU.ok {f1 fC : Nat} (hc : cFn P f = some (cc_table_every_api_Bus f1 fC)) (h1 : ev1U.Spec (Pure P) f1) (hC : conU.Spec (Pure P) fC) : evU.Spec (Pure P) f := by
  intro l most g fs cs is hm' hg
  refine pure_of hm hc (by show 3 ≤ 17; decide) (aw_flat (keep := []) (i := 0) ?_)
  try simp only [I, B, D, RX, ↓ KW, seval, cc_table_every_api_Bus, Z.H, a_len]
  cases hl : decide (((l.getD []).length : Int) ≤ most)
  · try simp only [I, B, D, RX, ↓ KW, seval, hl]
    rfl
  · have := of_decide_eq_true hl
    try simp only [I, B, D, RX, ↓ KW, seval, hl]
    refine ⟨rfl, ?_⟩
    refine call_is (hC l f1 [] [.ref [.fn (.func g) fs cs]] (fun x => !is x) (by omega) (fun x hx => h1 x g fs cs (is x) (hg x hx))) ?_
    try simp only [I, B, D, RX, ↓ KW, seval]
    rw [any_not]; rfl
end
end Go.Eng
namespace Go.Eng
set_option linter.unusedVariables false
set_option linter.unusedSimpArgs false
set_option linter.unnecessarySimpa false
open Go
set_option linter.unusedVariables false
set_option linter.unusedSimpArgs false
set_option maxRecDepth 10000
set_option maxHeartbeats 4000000
theorem chunk_flat {α : Type} {g : α → List AV} {z : Nat} (hg : ∀ x, (g x).length = z) : ∀ (l : List α) (rest : List AV), chunkA z l.length (l.flatMap g ++ rest) = l.map g
  | [], rest => rfl
  | x :: l, rest => by
    simp only [List.length_cons, chunkA, List.flatMap_cons, List.append_assoc, List.map_cons]
    rw [List.take_left' (hg x), List.drop_left' (hg x), chunk_flat hg l rest]
theorem chunk_ints (l : List Int) (rest : List AV) : chunkA 1 l.length (l.map I ++ rest) = l.map intRow := by
  have e : l.map I = l.flatMap intRow := by
    induction l with
    | nil => rfl
    | cons a l ih => rw [List.map_cons, List.flatMap_cons, ih]; rfl
  rw [e]
  exact chunk_flat (g := intRow) (z := 1) (fun _ => rfl) l rest
section
variable {t : Tb} (h : t.Ln)
include h
theorem tb_chP : chunkA 13 8 t.cells = t.phases.map Ph.cells := by
  have := chunk_flat (g := Ph.cells) (z := 13) Ph.len t.phases
  rw [h.phases] at this
  exact this _
theorem tb_drop105 : t.cells.drop 105 = t.conflict.map I ++ (slAV Det.cells t.detectors :: slAV Rl.cells t.rails :: slAV Bs.cells t.buses ::
    I t.extend :: I t.budget :: I t.start :: I t.revert :: I t.least :: (t.flash.map I ++ [I t.window, I t.share])) := by
  have e : (t.phases.flatMap Ph.cells).length = 104 := by rw [flatMap_len Ph.len, h.phases]
  have e2 : t.cells.drop 105 = (t.cells.drop 104).drop 1 := by rw [List.drop_drop]
  rw [e2, Tb.cells, List.drop_left' e]; rfl
theorem tb_chC : chunkA 1 8 (t.cells.drop 105) = t.conflict.map intRow := by
  have := chunk_ints t.conflict
  rw [h.conflict] at this
  rw [tb_drop105 h]; exact this _
theorem tb_chF : chunkA 1 8 (t.cells.drop 121) = t.flash.map intRow := by
  have := chunk_ints t.flash
  rw [h.flash] at this
  have e : t.cells.drop 121 = (t.cells.drop 105).drop 16 := by rw [List.drop_drop]
  have e2 : ∀ l : List AV, l.drop 16 = (l.drop 8).drop 8 := fun l => by rw [List.drop_drop]
  rw [e, tb_drop105 h, e2, List.drop_left' (by simp [h.conflict])]; exact this _
theorem tb_104 : t.cells[104]? = some (slAV Gr.cells t.groups) := by
  simp [Tb.cells, List.getElem?_append, flatMap_len Ph.len, h.phases, h.conflict, h.flash, List.getElem?_cons]
theorem tb_nums : t.cells[116]? = some (I t.extend) ∧ t.cells[117]? = some (I t.budget) ∧ t.cells[118]? = some (I t.start) ∧ t.cells[119]? = some (I t.revert) ∧ t.cells[120]? = some (I t.least) ∧ t.cells[129]? = some (I t.window) ∧ t.cells[130]? = some (I t.share) := by
  refine ⟨?_, ?_, ?_, ?_, ?_, ?_, ?_⟩ <;> simp [Tb.cells, List.getElem?_append, flatMap_len Ph.len, h.phases, h.conflict, h.flash, List.getElem?_cons]
end
theorem gt_drop {cs : List AV} {j : Nat} {v : AV} (h : cs[j]? = some v) : (cs.drop j)[0]? = some v := by rw [List.getElem?_drop]; exact h
def mayPh (p : Ph) : Bool := [p.min, p.gap, p.max, p.top, p.step, p.yellow, p.red, p.walk, p.blinks].all (wI 9999) && [p.recall].all (wI 3)
def mayRow (l : Option (List Int)) : Bool := decide (((l.getD []).length : Int) ≤ 8) && (l.getD []).all fun p => [p].all (wI 7)
def mayGr (g : Gr) : Bool := mayRow g.a && mayRow g.b
def lvl (x : Nat) : Bool := gtF x 0 && leF x 4696837146684686336
def sgnB (x : Nat) : Bool := decide (IntKind.i64.wrap (x : Int) < 0)
def secsOk (x : Nat) : Bool := inR x && !sgnB x
def mayDet (d : Det) : Bool := (((([d.phase].all (wI 7) && lvl d.on) && lvl d.off) && secsOk d.delay) && secsOk d.extend) && [d.maxOn, d.maxOff].all (wI 9999)
def mayRl (r : Rl) : Bool := ([r.bars, r.clear, r.dwell, r.exit].all (wI 255) && [r.delay, r.green, r.foot, r.hold, r.stay, r.most].all (wI 9999)) && [r.limit].all (wI 2147483647)
def mayBs (b : Bs) : Bool := [b.set].all (wI 255) && [b.lock].all (wI 9999)
def mayT (t : Tb) : Bool :=
  (((((((t.phases.all mayPh && (decide (((t.groups.getD []).length : Int) ≤ 4) && (t.groups.getD []).all mayGr)) && t.conflict.all (wI 255)) &&
    (decide (((t.detectors.getD []).length : Int) ≤ 16) && (t.detectors.getD []).all mayDet)) && (decide (((t.rails.getD []).length : Int) ≤ 4) && (t.rails.getD []).all mayRl)) &&
    (decide (((t.buses.getD []).length : Int) ≤ 4) && (t.buses.getD []).all mayBs)) && [t.extend, t.budget, t.start, t.revert, t.least].all (wI 9999)) && t.flash.all (wI 2)) && [t.window, t.share].all (wI 2147483647)
def Det.Fw (d : Det) : Prop := d.on < 2 ^ 64 ∧ d.off < 2 ^ 64 ∧ d.delay < 2 ^ 64 ∧ d.extend < 2 ^ 64
def Tb.Fw (t : Tb) : Prop := ∀ d ∈ t.detectors.getD [], d.Fw
def with1.Spec (C : Con) (f : Nat) : Prop := ∀ m n : Int, C.c f [I n, .ref [I m]] (B (wI m n)) none
def within.Spec (C : Con) (f : Nat) : Prop := ∀ (m : Int) (l : Option (List Int)), (l.getD []).length ≤ 1000000 → C.c f [I m, slAV intRow l] (B ((l.getD []).all (wI m))) none
def tTimes.Spec (C : Con) (f : Nat) : Prop := ∀ l : Option (List Int), (l.getD []).length ≤ 1000000 → C.c f [slAV intRow l] (B ((l.getD []).all (wI 9999))) none
def tPhase.Spec (C : Con) (f : Nat) : Prop := ∀ p : Ph, C.c f [.agg p.cells] (B (mayPh p)) none
def tG11.Spec (C : Con) (f : Nat) : Prop := ∀ p : Int, C.c f [I p] (B ([p].all (wI 7))) none
def tG1.Spec (C : Con) (f : Nat) : Prop := ∀ l : Option (List Int), C.c f [slAV intRow l] (B (mayRow l)) none
def tGroup.Spec (C : Con) (f : Nat) : Prop := ∀ g : Gr, C.c f [.agg g.cells] (B (mayGr g)) none
def sgn.Spec (C : Con) (f : Nat) : Prop := ∀ x : Nat, C.c f [Fl x] (B (sgnB x)) none
def tSecs.Spec (C : Con) (f : Nat) : Prop := ∀ x : Nat, x < 2 ^ 64 → C.c f [Fl x] (B (secsOk x)) none
def tDet1.Spec (C : Con) (f : Nat) : Prop := ∀ x : Nat, C.c f [Fl x] (B (lvl x)) none
def tDet.Spec (C : Con) (f : Nat) : Prop := ∀ d : Det, d.Fw → C.c f [.agg d.cells] (B (mayDet d)) none
def tRail.Spec (C : Con) (f : Nat) : Prop := ∀ r : Rl, C.c f [.agg r.cells] (B (mayRl r)) none
def tBus.Spec (C : Con) (f : Nat) : Prop := ∀ b : Bs, C.c f [.agg b.cells] (B (mayBs b)) none
def tMay.Spec (C : Con) (f : Nat) : Prop := ∀ t : Tb, t.Ln → t.Fw → C.c f [.agg t.cells] (B (mayT t)) none
section
variable {P : Program} (hm : P.follows .mixedOrders = true) {f : Nat}
include hm
theorem with1.ok (hc : cFn P f = some cc_table_within_1) : with1.Spec (Pure P) f := by
  intro m n
  rw [wI]
  refine pure_of hm hc (by show 2 ≤ 11; decide) (aw_flat (keep := []) (i := 0) ?_)
  try simp only [I, B, D, RX, ↓ KW, Nat.reduceBEq, Nat.reduceAdd, Nat.reduceLeDiff, Int.reduceNe, Int.reduceBEq, Int.reduceEq, reduceCtorEq, Nat.reduceMul, Int.reduceLT, Int.reduceLE, Int.reduceToNat, cc_table_within_1, Z.H]
  cases h : decide (n ≥ 0)
  · try simp only [I, B, D, RX, ↓ KW, Nat.reduceBEq, Nat.reduceAdd, Nat.reduceLeDiff, Int.reduceNe, Int.reduceBEq, Int.reduceEq, reduceCtorEq, Nat.reduceMul, Int.reduceLT, Int.reduceLE, Int.reduceToNat, h]
    rfl
  · try simp only [I, B, D, RX, ↓ KW, Nat.reduceBEq, Nat.reduceAdd, Nat.reduceLeDiff, Int.reduceNe, Int.reduceBEq, Int.reduceEq, reduceCtorEq, Nat.reduceMul, Int.reduceLT, Int.reduceLE, Int.reduceToNat, h]
    rfl
theorem within.ok {f1 fE : Nat} (hc : cFn P f = some (cc_table_within f1 fE)) (h1 : with1.Spec (Pure P) f1) (hE : evI.Spec (Pure P) fE) : within.Spec (Pure P) f := by
  intro m l hl
  have h2 : decide (((l.getD []).length : Int) ≤ ((l.getD []).length : Nat)) = true := by simp
  have he := hE l ((l.getD []).length : Nat) f1 [] [.ref [I m]] (wI m) (by omega) (fun x _ => h1 m x)
  rw [h2, Bool.true_and] at he
  refine pure_of hm hc (by show 2 ≤ 10; decide) (aw_flat (keep := []) (i := 0) ?_)
  try simp only [I, B, D, RX, ↓ KW, Nat.reduceBEq, Nat.reduceAdd, Nat.reduceLeDiff, Int.reduceNe, Int.reduceBEq, Int.reduceEq, reduceCtorEq, Nat.reduceMul, Int.reduceLT, Int.reduceLE, Int.reduceToNat, cc_table_within, Z.H, a_len]
  refine ⟨rfl, ?_⟩
  refine call_is he ?_
  try simp only [I, B, D, RX, ↓ KW, Nat.reduceBEq, Nat.reduceAdd, Nat.reduceLeDiff, Int.reduceNe, Int.reduceBEq, Int.reduceEq, reduceCtorEq, Nat.reduceMul, Int.reduceLT, Int.reduceLE, Int.reduceToNat]
theorem tTimes.ok {fW : Nat} (hc : cFn P f = some (cc_table_times fW)) (hW : within.Spec (Pure P) fW) : tTimes.Spec (Pure P) f := by
  intro l hl
  refine pure_of hm hc (by show 1 ≤ 5; decide) (aw_flat (keep := []) (i := 0) ?_)
  try simp only [I, B, D, RX, ↓ KW, Nat.reduceBEq, Nat.reduceAdd, Nat.reduceLeDiff, Int.reduceNe, Int.reduceBEq, Int.reduceEq, reduceCtorEq, Nat.reduceMul, Int.reduceLT, Int.reduceLE, Int.reduceToNat, cc_table_times, Z.H]
  refine call_is (hW 9999 l hl) ?_
  try simp only [I, B, D, RX, ↓ KW, Nat.reduceBEq, Nat.reduceAdd, Nat.reduceLeDiff, Int.reduceNe, Int.reduceBEq, Int.reduceEq, reduceCtorEq, Nat.reduceMul, Int.reduceLT, Int.reduceLE, Int.reduceToNat]
theorem tPhase.ok {e fT fW : Nat} (hc : cFn P f = some (cc_table_phase e fT fW)) (hT : tTimes.Spec (Pure P) fT) (hW : within.Spec (Pure P) fW) : tPhase.Spec (Pure P) f := by
  intro p
  have ht := hT (some [p.min, p.gap, p.max, p.top, p.step, p.yellow, p.red, p.walk, p.blinks]) (by simp)
  have hw := hW 3 (some [p.recall]) (by simp)
  simp only [Option.getD_some] at ht hw
  generalize hb1 : [p.min, p.gap, p.max, p.top, p.step, p.yellow, p.red, p.walk, p.blinks].all (wI 9999) = b1 at ht
  generalize hb2 : [p.recall].all (wI 3) = b2 at hw
  rw [mayPh, hb1, hb2]
  clear hb1 hb2
  refine pure_of hm hc (by show 1 ≤ 29; decide) (aw_flat (keep := []) (i := 0) ?_)
  try simp only [I, B, D, RX, ↓ KW, Nat.reduceBEq, Nat.reduceAdd, Nat.reduceLeDiff, Int.reduceNe, Int.reduceBEq, Int.reduceEq, reduceCtorEq, Nat.reduceMul, Int.reduceLT, Int.reduceLE, Int.reduceToNat, cc_table_phase, Z.H, Ph.cells]
  refine call_is ht ?_
  cases b1
  · try simp only [I, B, D, RX, ↓ KW, Nat.reduceBEq, Nat.reduceAdd, Nat.reduceLeDiff, Int.reduceNe, Int.reduceBEq, Int.reduceEq, reduceCtorEq, Nat.reduceMul, Int.reduceLT, Int.reduceLE, Int.reduceToNat]
    rfl
  · try simp only [I, B, D, RX, ↓ KW, Nat.reduceBEq, Nat.reduceAdd, Nat.reduceLeDiff, Int.reduceNe, Int.reduceBEq, Int.reduceEq, reduceCtorEq, Nat.reduceMul, Int.reduceLT, Int.reduceLE, Int.reduceToNat]
    refine call_is hw ?_
    try simp only [I, B, D, RX, ↓ KW, Nat.reduceBEq, Nat.reduceAdd, Nat.reduceLeDiff, Int.reduceNe, Int.reduceBEq, Int.reduceEq, reduceCtorEq, Nat.reduceMul, Int.reduceLT, Int.reduceLE, Int.reduceToNat]
    rfl
theorem tG11.ok {e fW : Nat} (hc : cFn P f = some (cc_table_group_1_1 e fW)) (hW : within.Spec (Pure P) fW) : tG11.Spec (Pure P) f := by
  intro p
  refine pure_of hm hc (by show 1 ≤ 6; decide) (aw_flat (keep := []) (i := 0) ?_)
  try simp only [I, B, D, RX, ↓ KW, Nat.reduceBEq, Nat.reduceAdd, Nat.reduceLeDiff, Int.reduceNe, Int.reduceBEq, Int.reduceEq, reduceCtorEq, Nat.reduceMul, Int.reduceLT, Int.reduceLE, Int.reduceToNat, cc_table_group_1_1, Z.H]
  refine call_is (hW 7 (some [p]) (by simp)) ?_
  try simp only [I, B, D, RX, ↓ KW, Nat.reduceBEq, Nat.reduceAdd, Nat.reduceLeDiff, Int.reduceNe, Int.reduceBEq, Int.reduceEq, reduceCtorEq, Nat.reduceMul, Int.reduceLT, Int.reduceLE, Int.reduceToNat]
  rfl
theorem tG1.ok {fE f1 : Nat} (hc : cFn P f = some (cc_table_group_1 fE f1)) (hE : evI.Spec (Pure P) fE) (h1 : tG11.Spec (Pure P) f1) : tG1.Spec (Pure P) f := by
  intro l
  refine pure_of hm hc (by show 1 ≤ 5; decide) (aw_flat (keep := []) (i := 0) ?_)
  try simp only [I, B, D, RX, ↓ KW, Nat.reduceBEq, Nat.reduceAdd, Nat.reduceLeDiff, Int.reduceNe, Int.reduceBEq, Int.reduceEq, reduceCtorEq, Nat.reduceMul, Int.reduceLT, Int.reduceLE, Int.reduceToNat, cc_table_group_1, Z.H]
  refine call_is (hE l 8 f1 [] [] (fun p => [p].all (wI 7)) (by omega) (fun p _ => h1 p)) ?_
  try simp only [I, B, D, RX, ↓ KW, Nat.reduceBEq, Nat.reduceAdd, Nat.reduceLeDiff, Int.reduceNe, Int.reduceBEq, Int.reduceEq, reduceCtorEq, Nat.reduceMul, Int.reduceLT, Int.reduceLE, Int.reduceToNat]
  rfl
theorem tGroup.ok {f1 : Nat} (hc : cFn P f = some (cc_table_group f1)) (h1 : tG1.Spec (Pure P) f1) : tGroup.Spec (Pure P) f := by
  intro g
  have ha := h1 g.a
  have hb := h1 g.b
  rw [mayGr]
  generalize mayRow g.a = b1 at *
  generalize mayRow g.b = b2 at *
  refine pure_of hm hc (by show 1 ≤ 14; decide) (aw_flat (keep := []) (i := 0) ?_)
  try simp only [I, B, D, RX, ↓ KW, Nat.reduceBEq, Nat.reduceAdd, Nat.reduceLeDiff, Int.reduceNe, Int.reduceBEq, Int.reduceEq, reduceCtorEq, Nat.reduceMul, Int.reduceLT, Int.reduceLE, Int.reduceToNat, cc_table_group, Z.H, Gr.cells]
  refine ⟨by omega, ?_⟩
  refine call_is ha ?_
  cases b1
  · try simp only [I, B, D, RX, ↓ KW, Nat.reduceBEq, Nat.reduceAdd, Nat.reduceLeDiff, Int.reduceNe, Int.reduceBEq, Int.reduceEq, reduceCtorEq, Nat.reduceMul, Int.reduceLT, Int.reduceLE, Int.reduceToNat]
    rfl
  · try simp only [I, B, D, RX, ↓ KW, Nat.reduceBEq, Nat.reduceAdd, Nat.reduceLeDiff, Int.reduceNe, Int.reduceBEq, Int.reduceEq, reduceCtorEq, Nat.reduceMul, Int.reduceLT, Int.reduceLE, Int.reduceToNat]
    refine ⟨by omega, ?_⟩
    refine call_is hb ?_
    try simp only [I, B, D, RX, ↓ KW, Nat.reduceBEq, Nat.reduceAdd, Nat.reduceLeDiff, Int.reduceNe, Int.reduceBEq, Int.reduceEq, reduceCtorEq, Nat.reduceMul, Int.reduceLT, Int.reduceLE, Int.reduceToNat]
    rfl
theorem sgn.ok (hc : cFn P f = some cc_math_Signbit) : sgn.Spec (Pure P) f := by
  intro x
  refine pure_of hm hc (by show 1 ≤ 7; decide) (aw_flat (keep := []) (i := 0) ?_)
  try simp only [I, B, D, RX, ↓ KW, Nat.reduceBEq, Nat.reduceAdd, Nat.reduceLeDiff, Int.reduceNe, Int.reduceBEq, Int.reduceEq, reduceCtorEq, Nat.reduceMul, Int.reduceLT, Int.reduceLE, Int.reduceToNat, cc_math_Signbit, Z.H]
  rfl
theorem tSecs.ok {fT fS : Nat} (hc : cFn P f = some (cc_table_seconds fT fS)) (hT : sTicks.Spec (Pure P) fT) (hS : sgn.Spec (Pure P) fS) : tSecs.Spec (Pure P) f := by
  intro x hx
  have ht := hT x hx
  rw [tkAV] at ht
  rw [secsOk]
  have hs := hS x
  generalize inR x = b1 at *
  generalize sgnB x = b2 at *
  refine pure_of hm hc (by show 1 ≤ 16; decide) (aw_flat (keep := []) (i := 0) ?_)
  try simp only [I, B, D, RX, ↓ KW, Nat.reduceBEq, Nat.reduceAdd, Nat.reduceLeDiff, Int.reduceNe, Int.reduceBEq, Int.reduceEq, reduceCtorEq, Nat.reduceMul, Int.reduceLT, Int.reduceLE, Int.reduceToNat, cc_table_seconds, Z.H]
  refine call_is ht ?_
  cases b1
  · try simp only [I, B, D, RX, ↓ KW, Nat.reduceBEq, Nat.reduceAdd, Nat.reduceLeDiff, Int.reduceNe, Int.reduceBEq, Int.reduceEq, reduceCtorEq, Nat.reduceMul, Int.reduceLT, Int.reduceLE, Int.reduceToNat]
    rfl
  · try simp only [I, B, D, RX, ↓ KW, Nat.reduceBEq, Nat.reduceAdd, Nat.reduceLeDiff, Int.reduceNe, Int.reduceBEq, Int.reduceEq, reduceCtorEq, Nat.reduceMul, Int.reduceLT, Int.reduceLE, Int.reduceToNat]
    refine call_is hs ?_
    try simp only [I, B, D, RX, ↓ KW, Nat.reduceBEq, Nat.reduceAdd, Nat.reduceLeDiff, Int.reduceNe, Int.reduceBEq, Int.reduceEq, reduceCtorEq, Nat.reduceMul, Int.reduceLT, Int.reduceLE, Int.reduceToNat]
    rfl
theorem tDet1.ok (hc : cFn P f = some cc_table_detector_1) : tDet1.Spec (Pure P) f := by
  intro x
  refine pure_of hm hc (by show 1 ≤ 9; decide) (aw_flat (keep := []) (i := 0) ?_)
  try simp only [I, B, D, RX, ↓ KW, Nat.reduceBEq, Nat.reduceAdd, Nat.reduceLeDiff, Int.reduceNe, Int.reduceBEq, Int.reduceEq, reduceCtorEq, Nat.reduceMul, Int.reduceLT, Int.reduceLE, Int.reduceToNat, cc_table_detector_1, Z.H, FLW]
  rw [lvl]
  generalize gtF x 0 = b1 at *
  cases b1
  · try simp only [I, B, D, RX, ↓ KW, Nat.reduceBEq, Nat.reduceAdd, Nat.reduceLeDiff, Int.reduceNe, Int.reduceBEq, Int.reduceEq, reduceCtorEq, Nat.reduceMul, Int.reduceLT, Int.reduceLE, Int.reduceToNat]
    rfl
  · try simp only [I, B, D, RX, ↓ KW, Nat.reduceBEq, Nat.reduceAdd, Nat.reduceLeDiff, Int.reduceNe, Int.reduceBEq, Int.reduceEq, reduceCtorEq, Nat.reduceMul, Int.reduceLT, Int.reduceLE, Int.reduceToNat, FLW]
    rfl
theorem tDet.ok {f1 e fW fS fT : Nat} (hc : cFn P f = some (cc_table_detector f1 e fW fS fT)) (h1 : tDet1.Spec (Pure P) f1) (hW : within.Spec (Pure P) fW) (hS : tSecs.Spec (Pure P) fS) (hT : tTimes.Spec (Pure P) fT) : tDet.Spec (Pure P) f := by
  intro d hd
  have c1 := hW 7 (some [d.phase]) (by simp)
  have c2 := h1 d.on
  have c3 := h1 d.off
  have c4 := hS d.delay hd.2.2.1
  have c5 := hS d.extend hd.2.2.2
  have c6 := hT (some [d.maxOn, d.maxOff]) (by simp)
  simp only [Option.getD_some] at c1 c6
  rw [mayDet]
  generalize [d.phase].all (wI 7) = b1 at *
  generalize lvl d.on = b2 at *
  generalize lvl d.off = b3 at *
  generalize secsOk d.delay = b4 at *
  generalize secsOk d.extend = b5 at *
  generalize [d.maxOn, d.maxOff].all (wI 9999) = b6 at *
  refine pure_of hm hc (by show 1 ≤ 38; decide) (aw_flat (keep := []) (i := 0) ?_)
  try simp only [I, B, D, RX, ↓ KW, Nat.reduceBEq, Nat.reduceAdd, Nat.reduceLeDiff, Int.reduceNe, Int.reduceBEq, Int.reduceEq, reduceCtorEq, Nat.reduceMul, Int.reduceLT, Int.reduceLE, Int.reduceToNat, cc_table_detector, Z.H, Det.cells]
  refine call_is c1 ?_
  cases b1
  · try simp only [I, B, D, RX, ↓ KW, Nat.reduceBEq, Nat.reduceAdd, Nat.reduceLeDiff, Int.reduceNe, Int.reduceBEq, Int.reduceEq, reduceCtorEq, Nat.reduceMul, Int.reduceLT, Int.reduceLE, Int.reduceToNat]
    rfl
  try simp only [I, B, D, RX, ↓ KW, Nat.reduceBEq, Nat.reduceAdd, Nat.reduceLeDiff, Int.reduceNe, Int.reduceBEq, Int.reduceEq, reduceCtorEq, Nat.reduceMul, Int.reduceLT, Int.reduceLE, Int.reduceToNat]
  refine call_is c2 ?_
  cases b2
  · try simp only [I, B, D, RX, ↓ KW, Nat.reduceBEq, Nat.reduceAdd, Nat.reduceLeDiff, Int.reduceNe, Int.reduceBEq, Int.reduceEq, reduceCtorEq, Nat.reduceMul, Int.reduceLT, Int.reduceLE, Int.reduceToNat]
    rfl
  try simp only [I, B, D, RX, ↓ KW, Nat.reduceBEq, Nat.reduceAdd, Nat.reduceLeDiff, Int.reduceNe, Int.reduceBEq, Int.reduceEq, reduceCtorEq, Nat.reduceMul, Int.reduceLT, Int.reduceLE, Int.reduceToNat]
  refine call_is c3 ?_
  cases b3
  · try simp only [I, B, D, RX, ↓ KW, Nat.reduceBEq, Nat.reduceAdd, Nat.reduceLeDiff, Int.reduceNe, Int.reduceBEq, Int.reduceEq, reduceCtorEq, Nat.reduceMul, Int.reduceLT, Int.reduceLE, Int.reduceToNat]
    rfl
  try simp only [I, B, D, RX, ↓ KW, Nat.reduceBEq, Nat.reduceAdd, Nat.reduceLeDiff, Int.reduceNe, Int.reduceBEq, Int.reduceEq, reduceCtorEq, Nat.reduceMul, Int.reduceLT, Int.reduceLE, Int.reduceToNat]
  refine call_is c4 ?_
  cases b4
  · try simp only [I, B, D, RX, ↓ KW, Nat.reduceBEq, Nat.reduceAdd, Nat.reduceLeDiff, Int.reduceNe, Int.reduceBEq, Int.reduceEq, reduceCtorEq, Nat.reduceMul, Int.reduceLT, Int.reduceLE, Int.reduceToNat]
    rfl
  try simp only [I, B, D, RX, ↓ KW, Nat.reduceBEq, Nat.reduceAdd, Nat.reduceLeDiff, Int.reduceNe, Int.reduceBEq, Int.reduceEq, reduceCtorEq, Nat.reduceMul, Int.reduceLT, Int.reduceLE, Int.reduceToNat]
  refine call_is c5 ?_
  cases b5
  · try simp only [I, B, D, RX, ↓ KW, Nat.reduceBEq, Nat.reduceAdd, Nat.reduceLeDiff, Int.reduceNe, Int.reduceBEq, Int.reduceEq, reduceCtorEq, Nat.reduceMul, Int.reduceLT, Int.reduceLE, Int.reduceToNat]
    rfl
  try simp only [I, B, D, RX, ↓ KW, Nat.reduceBEq, Nat.reduceAdd, Nat.reduceLeDiff, Int.reduceNe, Int.reduceBEq, Int.reduceEq, reduceCtorEq, Nat.reduceMul, Int.reduceLT, Int.reduceLE, Int.reduceToNat]
  refine call_is c6 ?_
  try simp only [I, B, D, RX, ↓ KW, Nat.reduceBEq, Nat.reduceAdd, Nat.reduceLeDiff, Int.reduceNe, Int.reduceBEq, Int.reduceEq, reduceCtorEq, Nat.reduceMul, Int.reduceLT, Int.reduceLE, Int.reduceToNat]
  rfl
theorem tRail.ok {e fW fT : Nat} (hc : cFn P f = some (cc_table_rail e fW fT)) (hW : within.Spec (Pure P) fW) (hT : tTimes.Spec (Pure P) fT) : tRail.Spec (Pure P) f := by
  intro r
  have c1 := hW 255 (some [r.bars, r.clear, r.dwell, r.exit]) (by simp)
  have c2 := hT (some [r.delay, r.green, r.foot, r.hold, r.stay, r.most]) (by simp)
  have c3 := hW 2147483647 (some [r.limit]) (by simp)
  simp only [Option.getD_some] at c1 c2 c3
  rw [mayRl]
  generalize [r.bars, r.clear, r.dwell, r.exit].all (wI 255) = b1 at *
  generalize [r.delay, r.green, r.foot, r.hold, r.stay, r.most].all (wI 9999) = b2 at *
  generalize [r.limit].all (wI 2147483647) = b3 at *
  refine pure_of hm hc (by show 1 ≤ 35; decide) (aw_flat (keep := []) (i := 0) ?_)
  try simp only [I, B, D, RX, ↓ KW, Nat.reduceBEq, Nat.reduceAdd, Nat.reduceLeDiff, Int.reduceNe, Int.reduceBEq, Int.reduceEq, reduceCtorEq, Nat.reduceMul, Int.reduceLT, Int.reduceLE, Int.reduceToNat, cc_table_rail, Z.H, Rl.cells]
  refine call_is c1 ?_
  cases b1
  · try simp only [I, B, D, RX, ↓ KW, Nat.reduceBEq, Nat.reduceAdd, Nat.reduceLeDiff, Int.reduceNe, Int.reduceBEq, Int.reduceEq, reduceCtorEq, Nat.reduceMul, Int.reduceLT, Int.reduceLE, Int.reduceToNat]
    rfl
  try simp only [I, B, D, RX, ↓ KW, Nat.reduceBEq, Nat.reduceAdd, Nat.reduceLeDiff, Int.reduceNe, Int.reduceBEq, Int.reduceEq, reduceCtorEq, Nat.reduceMul, Int.reduceLT, Int.reduceLE, Int.reduceToNat]
  refine call_is c2 ?_
  cases b2
  · try simp only [I, B, D, RX, ↓ KW, Nat.reduceBEq, Nat.reduceAdd, Nat.reduceLeDiff, Int.reduceNe, Int.reduceBEq, Int.reduceEq, reduceCtorEq, Nat.reduceMul, Int.reduceLT, Int.reduceLE, Int.reduceToNat]
    rfl
  try simp only [I, B, D, RX, ↓ KW, Nat.reduceBEq, Nat.reduceAdd, Nat.reduceLeDiff, Int.reduceNe, Int.reduceBEq, Int.reduceEq, reduceCtorEq, Nat.reduceMul, Int.reduceLT, Int.reduceLE, Int.reduceToNat]
  refine call_is c3 ?_
  try simp only [I, B, D, RX, ↓ KW, Nat.reduceBEq, Nat.reduceAdd, Nat.reduceLeDiff, Int.reduceNe, Int.reduceBEq, Int.reduceEq, reduceCtorEq, Nat.reduceMul, Int.reduceLT, Int.reduceLE, Int.reduceToNat]
  rfl
theorem tBus.ok {e fW fT : Nat} (hc : cFn P f = some (cc_table_bus e fW fT)) (hW : within.Spec (Pure P) fW) (hT : tTimes.Spec (Pure P) fT) : tBus.Spec (Pure P) f := by
  intro b
  have c1 := hW 255 (some [b.set]) (by simp)
  have c2 := hT (some [b.lock]) (by simp)
  simp only [Option.getD_some] at c1 c2
  rw [mayBs]
  generalize [b.set].all (wI 255) = b1 at *
  generalize [b.lock].all (wI 9999) = b2 at *
  refine pure_of hm hc (by show 1 ≤ 13; decide) (aw_flat (keep := []) (i := 0) ?_)
  try simp only [I, B, D, RX, ↓ KW, Nat.reduceBEq, Nat.reduceAdd, Nat.reduceLeDiff, Int.reduceNe, Int.reduceBEq, Int.reduceEq, reduceCtorEq, Nat.reduceMul, Int.reduceLT, Int.reduceLE, Int.reduceToNat, cc_table_bus, Z.H, Bs.cells]
  refine call_is c1 ?_
  cases b1
  · try simp only [I, B, D, RX, ↓ KW, Nat.reduceBEq, Nat.reduceAdd, Nat.reduceLeDiff, Int.reduceNe, Int.reduceBEq, Int.reduceEq, reduceCtorEq, Nat.reduceMul, Int.reduceLT, Int.reduceLE, Int.reduceToNat]
    rfl
  try simp only [I, B, D, RX, ↓ KW, Nat.reduceBEq, Nat.reduceAdd, Nat.reduceLeDiff, Int.reduceNe, Int.reduceBEq, Int.reduceEq, reduceCtorEq, Nat.reduceMul, Int.reduceLT, Int.reduceLE, Int.reduceToNat]
  refine call_is c2 ?_
  try simp only [I, B, D, RX, ↓ KW, Nat.reduceBEq, Nat.reduceAdd, Nat.reduceLeDiff, Int.reduceNe, Int.reduceBEq, Int.reduceEq, reduceCtorEq, Nat.reduceMul, Int.reduceLT, Int.reduceLE, Int.reduceToNat]
  rfl
theorem tMay.ok {fEP fP fEG fG fW fED fD fER fR fEB fB e fT : Nat} (hc : cFn P f = some (cc_table_May fEP fP fEG fG fW fED fD fER fR fEB fB e fT)) (hEP : evP.Spec (Pure P) fEP) (hP : tPhase.Spec (Pure P) fP) (hEG : evG.Spec (Pure P) fEG) (hG : tGroup.Spec (Pure P) fG)
    (hW : within.Spec (Pure P) fW) (hED : evD.Spec (Pure P) fED) (hD : tDet.Spec (Pure P) fD) (hER : evR.Spec (Pure P) fER) (hR : tRail.Spec (Pure P) fR) (hEB : evU.Spec (Pure P) fEB) (hB : tBus.Spec (Pure P) fB) (hT : tTimes.Spec (Pure P) fT) : tMay.Spec (Pure P) f := by
  intro t h hfw
  have c1 := hEP (some t.phases) 8 fP [] [] mayPh (by decide) (fun p _ => hP p)
  have c2 := hEG t.groups 4 fG [] [] mayGr (by decide) (fun g _ => hG g)
  have c3 := hW 255 (some t.conflict) (by simp [h.conflict])
  have c4 := hED t.detectors 16 fD [] [] mayDet (by decide) (fun d hd => hD d (hfw d hd))
  have c5 := hER t.rails 4 fR [] [] mayRl (by decide) (fun g _ => hR g)
  have c6 := hEB t.buses 4 fB [] [] mayBs (by decide) (fun g _ => hB g)
  have c7 := hT (some [t.extend, t.budget, t.start, t.revert, t.least]) (by simp)
  have c8 := hW 2 (some t.flash) (by simp [h.flash])
  have c9 := hW 2147483647 (some [t.window, t.share]) (by simp)
  simp only [Option.getD_some] at c1 c2 c3 c4 c5 c6 c7 c8 c9
  have h8 : decide ((t.phases.length : Int) ≤ 8) = true := by simp [h.phases]
  rw [h8, Bool.true_and] at c1
  rw [mayT]
  generalize t.phases.all mayPh = b1 at *
  generalize (decide (((t.groups.getD []).length : Int) ≤ 4) && (t.groups.getD []).all mayGr) = b2 at *
  generalize t.conflict.all (wI 255) = b3 at *
  generalize (decide (((t.detectors.getD []).length : Int) ≤ 16) && (t.detectors.getD []).all mayDet) = b4 at *
  generalize (decide (((t.rails.getD []).length : Int) ≤ 4) && (t.rails.getD []).all mayRl) = b5 at *
  generalize (decide (((t.buses.getD []).length : Int) ≤ 4) && (t.buses.getD []).all mayBs) = b6 at *
  generalize [t.extend, t.budget, t.start, t.revert, t.least].all (wI 9999) = b7 at *
  generalize t.flash.all (wI 2) = b8 at *
  generalize [t.window, t.share].all (wI 2147483647) = b9 at *
  have hw := h.whole
  have hl := h.len
  have k1 := tb_chP h
  have k2 := tb_chC h
  have k3 := tb_chF h
  have g1 := gt_drop (tb_104 h)
  have g2 := gt_drop h.at113
  have g3 := gt_drop h.at114
  have g4 := gt_drop h.at115
  obtain ⟨n1, n2, n3, n4, n5, n6, n7⟩ := tb_nums h
  have m1 := gt_drop n1
  have m2 := gt_drop n2
  have m3 := gt_drop n3
  have m4 := gt_drop n4
  have m5 := gt_drop n5
  have m6 := gt_drop n6
  have m7 := gt_drop n7
  refine pure_of hm hc (by show 1 ≤ 58; decide) (aw_flat (keep := []) (i := 0) ?_)
  try simp only [I, B, D, RX, ↓ KW, Nat.reduceBEq, Nat.reduceAdd, Nat.reduceLeDiff, Int.reduceNe, Int.reduceBEq, Int.reduceEq, reduceCtorEq, Nat.reduceMul, Int.reduceLT, Int.reduceLE, Int.reduceToNat, cc_table_May, Z.H, hl, k1, k2, k3, g1, g2, g3, g4, m1, m2, m3, m4, m5, m6, m7, List.drop_zero, List.length_drop]
  refine call_is c1 ?_
  cases b1
  · try simp only [I, B, D, RX, ↓ KW, Nat.reduceBEq, Nat.reduceAdd, Nat.reduceLeDiff, Int.reduceNe, Int.reduceBEq, Int.reduceEq, reduceCtorEq, Nat.reduceMul, Int.reduceLT, Int.reduceLE, Int.reduceToNat, hl, k1, k2, k3, g1, g2, g3, g4, m1, m2, m3, m4, m5, m6, m7, List.drop_zero, List.length_drop]
    rfl
  try simp only [I, B, D, RX, ↓ KW, Nat.reduceBEq, Nat.reduceAdd, Nat.reduceLeDiff, Int.reduceNe, Int.reduceBEq, Int.reduceEq, reduceCtorEq, Nat.reduceMul, Int.reduceLT, Int.reduceLE, Int.reduceToNat, hl, k1, k2, k3, g1, g2, g3, g4, m1, m2, m3, m4, m5, m6, m7, List.drop_zero, List.length_drop]
  refine call_is c2 ?_
  cases b2
  · try simp only [I, B, D, RX, ↓ KW, Nat.reduceBEq, Nat.reduceAdd, Nat.reduceLeDiff, Int.reduceNe, Int.reduceBEq, Int.reduceEq, reduceCtorEq, Nat.reduceMul, Int.reduceLT, Int.reduceLE, Int.reduceToNat, hl, k1, k2, k3, g1, g2, g3, g4, m1, m2, m3, m4, m5, m6, m7, List.drop_zero, List.length_drop]
    rfl
  try simp only [I, B, D, RX, ↓ KW, Nat.reduceBEq, Nat.reduceAdd, Nat.reduceLeDiff, Int.reduceNe, Int.reduceBEq, Int.reduceEq, reduceCtorEq, Nat.reduceMul, Int.reduceLT, Int.reduceLE, Int.reduceToNat, hl, k1, k2, k3, g1, g2, g3, g4, m1, m2, m3, m4, m5, m6, m7, List.drop_zero, List.length_drop]
  refine ⟨by omega, ?_⟩
  refine call_is c3 ?_
  cases b3
  · try simp only [I, B, D, RX, ↓ KW, Nat.reduceBEq, Nat.reduceAdd, Nat.reduceLeDiff, Int.reduceNe, Int.reduceBEq, Int.reduceEq, reduceCtorEq, Nat.reduceMul, Int.reduceLT, Int.reduceLE, Int.reduceToNat, hl, k1, k2, k3, g1, g2, g3, g4, m1, m2, m3, m4, m5, m6, m7, List.drop_zero, List.length_drop]
    rfl
  try simp only [I, B, D, RX, ↓ KW, Nat.reduceBEq, Nat.reduceAdd, Nat.reduceLeDiff, Int.reduceNe, Int.reduceBEq, Int.reduceEq, reduceCtorEq, Nat.reduceMul, Int.reduceLT, Int.reduceLE, Int.reduceToNat, hl, k1, k2, k3, g1, g2, g3, g4, m1, m2, m3, m4, m5, m6, m7, List.drop_zero, List.length_drop]
  refine call_is c4 ?_
  cases b4
  · try simp only [I, B, D, RX, ↓ KW, Nat.reduceBEq, Nat.reduceAdd, Nat.reduceLeDiff, Int.reduceNe, Int.reduceBEq, Int.reduceEq, reduceCtorEq, Nat.reduceMul, Int.reduceLT, Int.reduceLE, Int.reduceToNat, hl, k1, k2, k3, g1, g2, g3, g4, m1, m2, m3, m4, m5, m6, m7, List.drop_zero, List.length_drop]
    rfl
  try simp only [I, B, D, RX, ↓ KW, Nat.reduceBEq, Nat.reduceAdd, Nat.reduceLeDiff, Int.reduceNe, Int.reduceBEq, Int.reduceEq, reduceCtorEq, Nat.reduceMul, Int.reduceLT, Int.reduceLE, Int.reduceToNat, hl, k1, k2, k3, g1, g2, g3, g4, m1, m2, m3, m4, m5, m6, m7, List.drop_zero, List.length_drop]
  refine call_is c5 ?_
  cases b5
  · try simp only [I, B, D, RX, ↓ KW, Nat.reduceBEq, Nat.reduceAdd, Nat.reduceLeDiff, Int.reduceNe, Int.reduceBEq, Int.reduceEq, reduceCtorEq, Nat.reduceMul, Int.reduceLT, Int.reduceLE, Int.reduceToNat, hl, k1, k2, k3, g1, g2, g3, g4, m1, m2, m3, m4, m5, m6, m7, List.drop_zero, List.length_drop]
    rfl
  try simp only [I, B, D, RX, ↓ KW, Nat.reduceBEq, Nat.reduceAdd, Nat.reduceLeDiff, Int.reduceNe, Int.reduceBEq, Int.reduceEq, reduceCtorEq, Nat.reduceMul, Int.reduceLT, Int.reduceLE, Int.reduceToNat, hl, k1, k2, k3, g1, g2, g3, g4, m1, m2, m3, m4, m5, m6, m7, List.drop_zero, List.length_drop]
  refine call_is c6 ?_
  cases b6
  · try simp only [I, B, D, RX, ↓ KW, Nat.reduceBEq, Nat.reduceAdd, Nat.reduceLeDiff, Int.reduceNe, Int.reduceBEq, Int.reduceEq, reduceCtorEq, Nat.reduceMul, Int.reduceLT, Int.reduceLE, Int.reduceToNat, hl, k1, k2, k3, g1, g2, g3, g4, m1, m2, m3, m4, m5, m6, m7, List.drop_zero, List.length_drop]
    rfl
  try simp only [I, B, D, RX, ↓ KW, Nat.reduceBEq, Nat.reduceAdd, Nat.reduceLeDiff, Int.reduceNe, Int.reduceBEq, Int.reduceEq, reduceCtorEq, Nat.reduceMul, Int.reduceLT, Int.reduceLE, Int.reduceToNat, hl, k1, k2, k3, g1, g2, g3, g4, m1, m2, m3, m4, m5, m6, m7, List.drop_zero, List.length_drop]
  refine call_is c7 ?_
  cases b7
  · try simp only [I, B, D, RX, ↓ KW, Nat.reduceBEq, Nat.reduceAdd, Nat.reduceLeDiff, Int.reduceNe, Int.reduceBEq, Int.reduceEq, reduceCtorEq, Nat.reduceMul, Int.reduceLT, Int.reduceLE, Int.reduceToNat, hl, k1, k2, k3, g1, g2, g3, g4, m1, m2, m3, m4, m5, m6, m7, List.drop_zero, List.length_drop]
    rfl
  try simp only [I, B, D, RX, ↓ KW, Nat.reduceBEq, Nat.reduceAdd, Nat.reduceLeDiff, Int.reduceNe, Int.reduceBEq, Int.reduceEq, reduceCtorEq, Nat.reduceMul, Int.reduceLT, Int.reduceLE, Int.reduceToNat, hl, k1, k2, k3, g1, g2, g3, g4, m1, m2, m3, m4, m5, m6, m7, List.drop_zero, List.length_drop]
  refine ⟨by omega, ?_⟩
  refine call_is c8 ?_
  cases b8
  · try simp only [I, B, D, RX, ↓ KW, Nat.reduceBEq, Nat.reduceAdd, Nat.reduceLeDiff, Int.reduceNe, Int.reduceBEq, Int.reduceEq, reduceCtorEq, Nat.reduceMul, Int.reduceLT, Int.reduceLE, Int.reduceToNat, hl, k1, k2, k3, g1, g2, g3, g4, m1, m2, m3, m4, m5, m6, m7, List.drop_zero, List.length_drop]
    rfl
  try simp only [I, B, D, RX, ↓ KW, Nat.reduceBEq, Nat.reduceAdd, Nat.reduceLeDiff, Int.reduceNe, Int.reduceBEq, Int.reduceEq, reduceCtorEq, Nat.reduceMul, Int.reduceLT, Int.reduceLE, Int.reduceToNat, hl, k1, k2, k3, g1, g2, g3, g4, m1, m2, m3, m4, m5, m6, m7, List.drop_zero, List.length_drop]
  refine call_is c9 ?_
  try simp only [I, B, D, RX, ↓ KW, Nat.reduceBEq, Nat.reduceAdd, Nat.reduceLeDiff, Int.reduceNe, Int.reduceBEq, Int.reduceEq, reduceCtorEq, Nat.reduceMul, Int.reduceLT, Int.reduceLE, Int.reduceToNat]
  rfl
end
end Go.Eng
namespace Go.Eng
set_option linter.unusedVariables false
set_option linter.unusedSimpArgs false
set_option linter.unnecessarySimpa false
open Go
set_option linter.unusedVariables false
set_option linter.unusedSimpArgs false
set_option maxRecDepth 10000
set_option maxHeartbeats 4000000
def rTimes.Spec (C : Con) (f : Nat) : Prop := ∀ l : Option (List Int), (l.getD []).length ≤ 1000000 → C.c f [slAV intRow l] (B ((l.getD []).all (wI 9999))) none
def upto.Spec (C : Con) (f : Nat) : Prop := ∀ (l : Option (List Int)) (m : Int), (l.getD []).length ≤ 1000000 → C.c f [slAV intRow l, I m] (B ((l.getD []).all (wI m))) none
def rPhase5.Spec (C : Con) (f : Nat) : Prop := ∀ p : Ph, C.c f [.agg p.cells] (B (mayPh p)) none
def rLevel.Spec (C : Con) (f : Nat) : Prop := ∀ x : Nat, C.c f [Fl x] (B (lvl x)) none
def rSeconds.Spec (C : Con) (f : Nat) : Prop := ∀ x : Nat, x < 2 ^ 64 → C.c f [Fl x] (B (secsOk x)) none
def rDet5.Spec (C : Con) (f : Nat) : Prop := ∀ d : Det, d.Fw → C.c f [.agg d.cells] (B (mayDet d)) none
def rRail5.Spec (C : Con) (f : Nat) : Prop := ∀ r : Rl, C.c f [.agg r.cells] (B (mayRl r)) none
def rMay.Spec (C : Con) (f : Nat) : Prop := ∀ t : Tb, t.Ln → t.Fw → C.c f [.agg t.cells] (B (mayT t)) none
theorem all_take {α : Type} {l : List α} {is : α → Bool} {k : Nat} {x : α} (hx : l[k]? = some x) : (l.take (k + 1)).all is = ((l.take k).all is && is x) := by
  rw [List.take_add_one, hx, List.all_append]; simp
theorem all_no {α : Type} {l : List α} {is : α → Bool} {k : Nat} {x : α} (hx : l[k]? = some x) (h : is x = false) : l.all is = false := by
  rw [List.all_eq_false]; exact ⟨x, List.mem_of_getElem? hx, by rw [h]; simp⟩
theorem part_drop {cs : List AV} {off n : Nat} {v : AV} (h : partA cs off (some n) = some v) : partA (cs.drop off) 0 (some n) = some v := by
  simp only [partA] at h ⊢
  split at h
  · rename_i hle
    rw [if_pos (by rw [List.length_drop]; omega), List.drop_zero]; exact h
  · cases h
theorem wI_split (m n : Int) : wI m n = (!decide (n < 0) && !decide (n > m)) := by
  unfold wI
  congr 1
  · by_cases h : n < 0 <;> simp [h] <;> omega
  · by_cases h : n > m <;> simp [h] <;> omega
theorem step_all {α : Type} {l : List α} {is : α → Bool} {k : Nat} {x : α} {b : Bool} (hx : l[k]? = some x) : ((b && (l.take k).all is) && is x) = (b && (l.take (k + 1)).all is) := by
  rw [all_take hx, Bool.and_assoc]
section
variable {P : Program} (hm : P.follows .mixedOrders = true) {f : Nat}
include hm
theorem rTimes.ok (hc : cFn P f = some cc_ref05_times) : rTimes.Spec (Pure P) f := by
  intro l hl
  refine pure_of hm hc (by show 1 ≤ 22; decide) (aw_flat (keep := []) (i := 0) ?_)
  try simp only [I, B, D, RX, ↓ KW, Nat.reduceBEq, Nat.reduceAdd, Nat.reduceLeDiff, Int.reduceNe, Int.reduceBEq, Int.reduceEq, reduceCtorEq, Nat.reduceMul, Int.reduceLT, Int.reduceLE, Int.reduceToNat, cc_ref05_times, Z.H, a_len]
  refine aw_loop' (fun k : Nat => (⟨[(3, .dat (I k) none), (0, .dat (slAV intRow l) none)], [], [], 400⟩ : S)) (fun k => (l.getD []).length - k) (fun k => k ≤ (l.getD []).length ∧ ((l.getD []).take k).all (wI 9999) = true) ?_ 0 (by simp) ?_
  · rintro k ⟨hk, hall⟩ A back
    have hwr := wrap_succ (k := k) (by omega)
    try simp only [I, B, D, RX, ↓ KW, Nat.reduceBEq, Nat.reduceAdd, Nat.reduceLeDiff, Int.reduceNe, Int.reduceBEq, Int.reduceEq, reduceCtorEq, Nat.reduceMul, Int.reduceLT, Int.reduceLE, Int.reduceToNat, a_len]
    refine cd_split (fun h2 => ?_) (fun h2 => ?_) <;> try simp only [I, B, D, RX, ↓ KW, Nat.reduceBEq, Nat.reduceAdd, Nat.reduceLeDiff, Int.reduceNe, Int.reduceBEq, Int.reduceEq, reduceCtorEq, Nat.reduceMul, Int.reduceLT, Int.reduceLE, Int.reduceToNat, h2]
    · have h8 : k < (l.getD []).length := by have := of_decide_eq_true h2; omega
      obtain ⟨x, hx⟩ : ∃ x, (l.getD [])[k]? = some x := ⟨_, List.getElem?_eq_getElem h8⟩
      have hw := wI_split 9999 x
      have hn := all_take (is := wI 9999) hx
      rw [hall, Bool.true_and] at hn
      try simp only [I, B, D, RX, ↓ KW, Nat.reduceBEq, Nat.reduceAdd, Nat.reduceLeDiff, Int.reduceNe, Int.reduceBEq, Int.reduceEq, reduceCtorEq, Nat.reduceMul, Int.reduceLT, Int.reduceLE, Int.reduceToNat, a_rows, hx, intRow]
      refine ⟨by omega, ?_⟩
      cases h3 : decide (x < 0)
      · try simp only [I, B, D, RX, ↓ KW, Nat.reduceBEq, Nat.reduceAdd, Nat.reduceLeDiff, Int.reduceNe, Int.reduceBEq, Int.reduceEq, reduceCtorEq, Nat.reduceMul, Int.reduceLT, Int.reduceLE, Int.reduceToNat, a_rows, hx, intRow, h3]
        refine ⟨by omega, ?_⟩
        cases h4 : decide (x > 9999)
        · try simp only [I, B, D, RX, ↓ KW, Nat.reduceBEq, Nat.reduceAdd, Nat.reduceLeDiff, Int.reduceNe, Int.reduceBEq, Int.reduceEq, reduceCtorEq, Nat.reduceMul, Int.reduceLT, Int.reduceLE, Int.reduceToNat, h4]
          refine back (k + 1) _ ⟨by omega, by rw [hn, hw, h3, h4]; rfl⟩ (by omega) ?_
          refine le_tok2 (by decide) ?_ ?_ ?_ ?_ <;> simp [LX, I, B, D, hwr]
        · try simp only [I, B, D, RX, ↓ KW, Nat.reduceBEq, Nat.reduceAdd, Nat.reduceLeDiff, Int.reduceNe, Int.reduceBEq, Int.reduceEq, reduceCtorEq, Nat.reduceMul, Int.reduceLT, Int.reduceLE, Int.reduceToNat, h4]
          rw [all_no hx (by rw [hw, h3, h4]; rfl)]
      · try simp only [I, B, D, RX, ↓ KW, Nat.reduceBEq, Nat.reduceAdd, Nat.reduceLeDiff, Int.reduceNe, Int.reduceBEq, Int.reduceEq, reduceCtorEq, Nat.reduceMul, Int.reduceLT, Int.reduceLE, Int.reduceToNat, h3]
        rw [all_no hx (by rw [hw, h3]; rfl)]
    · have : k = (l.getD []).length := by have := of_decide_eq_false h2; omega
      subst this
      rw [List.take_length] at hall
      try simp only [I, B, D, RX, ↓ KW, Nat.reduceBEq, Nat.reduceAdd, Nat.reduceLeDiff, Int.reduceNe, Int.reduceBEq, Int.reduceEq, reduceCtorEq, Nat.reduceMul, Int.reduceLT, Int.reduceLE, Int.reduceToNat]
      rw [hall]
  · refine le_tok2 (by decide) ?_ ?_ ?_ ?_ <;> simp [LX, I, B, D]
theorem upto.ok (hc : cFn P f = some cc_ref05_upto) : upto.Spec (Pure P) f := by
  intro l m hl
  refine pure_of hm hc (by show 2 ≤ 25; decide) (aw_flat (keep := []) (i := 0) ?_)
  try simp only [I, B, D, RX, ↓ KW, Nat.reduceBEq, Nat.reduceAdd, Nat.reduceLeDiff, Int.reduceNe, Int.reduceBEq, Int.reduceEq, reduceCtorEq, Nat.reduceMul, Int.reduceLT, Int.reduceLE, Int.reduceToNat, cc_ref05_upto, Z.H, a_len]
  refine aw_loop' (fun k : Nat => (⟨[(5, .dat (I k) none), (0, .dat (slAV intRow l) none), (1, .dat (I m) none)], [], [], 400⟩ : S)) (fun k => (l.getD []).length - k) (fun k => k ≤ (l.getD []).length ∧ ((l.getD []).take k).all (wI m) = true) ?_ 0 (by simp) ?_
  · rintro k ⟨hk, hall⟩ A back
    have hwr := wrap_succ (k := k) (by omega)
    try simp only [I, B, D, RX, ↓ KW, Nat.reduceBEq, Nat.reduceAdd, Nat.reduceLeDiff, Int.reduceNe, Int.reduceBEq, Int.reduceEq, reduceCtorEq, Nat.reduceMul, Int.reduceLT, Int.reduceLE, Int.reduceToNat, a_len]
    refine cd_split (fun h2 => ?_) (fun h2 => ?_) <;> try simp only [I, B, D, RX, ↓ KW, Nat.reduceBEq, Nat.reduceAdd, Nat.reduceLeDiff, Int.reduceNe, Int.reduceBEq, Int.reduceEq, reduceCtorEq, Nat.reduceMul, Int.reduceLT, Int.reduceLE, Int.reduceToNat, h2]
    · have h8 : k < (l.getD []).length := by have := of_decide_eq_true h2; omega
      obtain ⟨x, hx⟩ : ∃ x, (l.getD [])[k]? = some x := ⟨_, List.getElem?_eq_getElem h8⟩
      have hw := wI_split m x
      have hn := all_take (is := wI m) hx
      rw [hall, Bool.true_and] at hn
      try simp only [I, B, D, RX, ↓ KW, Nat.reduceBEq, Nat.reduceAdd, Nat.reduceLeDiff, Int.reduceNe, Int.reduceBEq, Int.reduceEq, reduceCtorEq, Nat.reduceMul, Int.reduceLT, Int.reduceLE, Int.reduceToNat, a_rows, hx, intRow]
      refine ⟨by omega, ?_⟩
      cases h3 : decide (x < 0)
      · try simp only [I, B, D, RX, ↓ KW, Nat.reduceBEq, Nat.reduceAdd, Nat.reduceLeDiff, Int.reduceNe, Int.reduceBEq, Int.reduceEq, reduceCtorEq, Nat.reduceMul, Int.reduceLT, Int.reduceLE, Int.reduceToNat, a_rows, hx, intRow, h3]
        refine ⟨by omega, ?_⟩
        cases h4 : decide (x > m)
        · try simp only [I, B, D, RX, ↓ KW, Nat.reduceBEq, Nat.reduceAdd, Nat.reduceLeDiff, Int.reduceNe, Int.reduceBEq, Int.reduceEq, reduceCtorEq, Nat.reduceMul, Int.reduceLT, Int.reduceLE, Int.reduceToNat, h4]
          refine back (k + 1) _ ⟨by omega, by rw [hn, hw, h3, h4]; rfl⟩ (by omega) ?_
          refine le_tok2 (by decide) ?_ ?_ ?_ ?_ <;> simp [LX, I, B, D, hwr]
        · try simp only [I, B, D, RX, ↓ KW, Nat.reduceBEq, Nat.reduceAdd, Nat.reduceLeDiff, Int.reduceNe, Int.reduceBEq, Int.reduceEq, reduceCtorEq, Nat.reduceMul, Int.reduceLT, Int.reduceLE, Int.reduceToNat, h4]
          rw [all_no hx (by rw [hw, h3, h4]; rfl)]
      · try simp only [I, B, D, RX, ↓ KW, Nat.reduceBEq, Nat.reduceAdd, Nat.reduceLeDiff, Int.reduceNe, Int.reduceBEq, Int.reduceEq, reduceCtorEq, Nat.reduceMul, Int.reduceLT, Int.reduceLE, Int.reduceToNat, h3]
        rw [all_no hx (by rw [hw, h3]; rfl)]
    · have : k = (l.getD []).length := by have := of_decide_eq_false h2; omega
      subst this
      rw [List.take_length] at hall
      try simp only [I, B, D, RX, ↓ KW, Nat.reduceBEq, Nat.reduceAdd, Nat.reduceLeDiff, Int.reduceNe, Int.reduceBEq, Int.reduceEq, reduceCtorEq, Nat.reduceMul, Int.reduceLT, Int.reduceLE, Int.reduceToNat]
      rw [hall]
  · refine le_tok2 (by decide) ?_ ?_ ?_ ?_ <;> simp [LX, I, B, D]
theorem rPhase5.ok {e fT fW : Nat} (hc : cFn P f = some (cc_ref05_phase e fT fW)) (hT : rTimes.Spec (Pure P) fT) (hW : upto.Spec (Pure P) fW) : rPhase5.Spec (Pure P) f := by
  intro p
  have ht := hT (some [p.min, p.gap, p.max, p.top, p.step, p.yellow, p.red, p.walk, p.blinks]) (by simp)
  have hw := hW (some [p.recall]) 3 (by simp)
  simp only [Option.getD_some] at ht hw
  generalize hb1 : [p.min, p.gap, p.max, p.top, p.step, p.yellow, p.red, p.walk, p.blinks].all (wI 9999) = b1 at ht
  generalize hb2 : [p.recall].all (wI 3) = b2 at hw
  rw [mayPh, hb1, hb2]
  clear hb1 hb2
  refine pure_of hm hc (by show 1 ≤ 29; decide) (aw_flat (keep := []) (i := 0) ?_)
  try simp only [I, B, D, RX, ↓ KW, Nat.reduceBEq, Nat.reduceAdd, Nat.reduceLeDiff, Int.reduceNe, Int.reduceBEq, Int.reduceEq, reduceCtorEq, Nat.reduceMul, Int.reduceLT, Int.reduceLE, Int.reduceToNat, cc_ref05_phase, Z.H, Ph.cells]
  refine call_is ht ?_
  cases b1
  · try simp only [I, B, D, RX, ↓ KW, Nat.reduceBEq, Nat.reduceAdd, Nat.reduceLeDiff, Int.reduceNe, Int.reduceBEq, Int.reduceEq, reduceCtorEq, Nat.reduceMul, Int.reduceLT, Int.reduceLE, Int.reduceToNat]
    rfl
  · try simp only [I, B, D, RX, ↓ KW, Nat.reduceBEq, Nat.reduceAdd, Nat.reduceLeDiff, Int.reduceNe, Int.reduceBEq, Int.reduceEq, reduceCtorEq, Nat.reduceMul, Int.reduceLT, Int.reduceLE, Int.reduceToNat]
    refine call_is hw ?_
    try simp only [I, B, D, RX, ↓ KW, Nat.reduceBEq, Nat.reduceAdd, Nat.reduceLeDiff, Int.reduceNe, Int.reduceBEq, Int.reduceEq, reduceCtorEq, Nat.reduceMul, Int.reduceLT, Int.reduceLE, Int.reduceToNat]
    rfl
theorem rRail5.ok {e fW fT : Nat} (hc : cFn P f = some (cc_ref05_rail e fW fT)) (hW : upto.Spec (Pure P) fW) (hT : rTimes.Spec (Pure P) fT) : rRail5.Spec (Pure P) f := by
  intro r
  have c1 := hW (some [r.bars, r.clear, r.dwell, r.exit]) 255 (by simp)
  have c2 := hT (some [r.delay, r.green, r.foot, r.hold, r.stay, r.most]) (by simp)
  have c3 := hW (some [r.limit]) 2147483647 (by simp)
  simp only [Option.getD_some] at c1 c2 c3
  rw [mayRl]
  generalize [r.bars, r.clear, r.dwell, r.exit].all (wI 255) = b1 at *
  generalize [r.delay, r.green, r.foot, r.hold, r.stay, r.most].all (wI 9999) = b2 at *
  generalize [r.limit].all (wI 2147483647) = b3 at *
  refine pure_of hm hc (by show 1 ≤ 35; decide) (aw_flat (keep := []) (i := 0) ?_)
  try simp only [I, B, D, RX, ↓ KW, Nat.reduceBEq, Nat.reduceAdd, Nat.reduceLeDiff, Int.reduceNe, Int.reduceBEq, Int.reduceEq, reduceCtorEq, Nat.reduceMul, Int.reduceLT, Int.reduceLE, Int.reduceToNat, cc_ref05_rail, Z.H, Rl.cells]
  refine call_is c1 ?_
  cases b1
  · try simp only [I, B, D, RX, ↓ KW, Nat.reduceBEq, Nat.reduceAdd, Nat.reduceLeDiff, Int.reduceNe, Int.reduceBEq, Int.reduceEq, reduceCtorEq, Nat.reduceMul, Int.reduceLT, Int.reduceLE, Int.reduceToNat]
    rfl
  try simp only [I, B, D, RX, ↓ KW, Nat.reduceBEq, Nat.reduceAdd, Nat.reduceLeDiff, Int.reduceNe, Int.reduceBEq, Int.reduceEq, reduceCtorEq, Nat.reduceMul, Int.reduceLT, Int.reduceLE, Int.reduceToNat]
  refine call_is c2 ?_
  cases b2
  · try simp only [I, B, D, RX, ↓ KW, Nat.reduceBEq, Nat.reduceAdd, Nat.reduceLeDiff, Int.reduceNe, Int.reduceBEq, Int.reduceEq, reduceCtorEq, Nat.reduceMul, Int.reduceLT, Int.reduceLE, Int.reduceToNat]
    rfl
  try simp only [I, B, D, RX, ↓ KW, Nat.reduceBEq, Nat.reduceAdd, Nat.reduceLeDiff, Int.reduceNe, Int.reduceBEq, Int.reduceEq, reduceCtorEq, Nat.reduceMul, Int.reduceLT, Int.reduceLE, Int.reduceToNat]
  refine call_is c3 ?_
  try simp only [I, B, D, RX, ↓ KW, Nat.reduceBEq, Nat.reduceAdd, Nat.reduceLeDiff, Int.reduceNe, Int.reduceBEq, Int.reduceEq, reduceCtorEq, Nat.reduceMul, Int.reduceLT, Int.reduceLE, Int.reduceToNat]
  rfl
theorem rSeconds.ok {fT fS : Nat} (hc : cFn P f = some (cc_ref05_Seconds fT fS)) (hT : rTicks.Spec (Pure P) fT) (hS : sgn.Spec (Pure P) fS) : rSeconds.Spec (Pure P) f := by
  intro x hx
  have ht := hT x hx
  rw [tkAV] at ht
  rw [secsOk]
  have hs := hS x
  generalize inR x = b1 at *
  generalize sgnB x = b2 at *
  refine pure_of hm hc (by show 1 ≤ 16; decide) (aw_flat (keep := []) (i := 0) ?_)
  try simp only [I, B, D, RX, ↓ KW, Nat.reduceBEq, Nat.reduceAdd, Nat.reduceLeDiff, Int.reduceNe, Int.reduceBEq, Int.reduceEq, reduceCtorEq, Nat.reduceMul, Int.reduceLT, Int.reduceLE, Int.reduceToNat, cc_ref05_Seconds, Z.H]
  refine call_is ht ?_
  cases b1
  · try simp only [I, B, D, RX, ↓ KW, Nat.reduceBEq, Nat.reduceAdd, Nat.reduceLeDiff, Int.reduceNe, Int.reduceBEq, Int.reduceEq, reduceCtorEq, Nat.reduceMul, Int.reduceLT, Int.reduceLE, Int.reduceToNat]
    rfl
  · try simp only [I, B, D, RX, ↓ KW, Nat.reduceBEq, Nat.reduceAdd, Nat.reduceLeDiff, Int.reduceNe, Int.reduceBEq, Int.reduceEq, reduceCtorEq, Nat.reduceMul, Int.reduceLT, Int.reduceLE, Int.reduceToNat]
    refine call_is hs ?_
    try simp only [I, B, D, RX, ↓ KW, Nat.reduceBEq, Nat.reduceAdd, Nat.reduceLeDiff, Int.reduceNe, Int.reduceBEq, Int.reduceEq, reduceCtorEq, Nat.reduceMul, Int.reduceLT, Int.reduceLE, Int.reduceToNat]
    rfl
theorem rLevel.ok (hc : cFn P f = some cc_ref05_Level) : rLevel.Spec (Pure P) f := by
  intro x
  refine pure_of hm hc (by show 1 ≤ 9; decide) (aw_flat (keep := []) (i := 0) ?_)
  try simp only [I, B, D, RX, ↓ KW, Nat.reduceBEq, Nat.reduceAdd, Nat.reduceLeDiff, Int.reduceNe, Int.reduceBEq, Int.reduceEq, reduceCtorEq, Nat.reduceMul, Int.reduceLT, Int.reduceLE, Int.reduceToNat, cc_ref05_Level, Z.H, FLW]
  rw [lvl]
  generalize gtF x 0 = b1 at *
  cases b1
  · try simp only [I, B, D, RX, ↓ KW, Nat.reduceBEq, Nat.reduceAdd, Nat.reduceLeDiff, Int.reduceNe, Int.reduceBEq, Int.reduceEq, reduceCtorEq, Nat.reduceMul, Int.reduceLT, Int.reduceLE, Int.reduceToNat]
    rfl
  · try simp only [I, B, D, RX, ↓ KW, Nat.reduceBEq, Nat.reduceAdd, Nat.reduceLeDiff, Int.reduceNe, Int.reduceBEq, Int.reduceEq, reduceCtorEq, Nat.reduceMul, Int.reduceLT, Int.reduceLE, Int.reduceToNat, FLW]
    rfl
theorem rDet5.ok {e fW f1 fS fT : Nat} (hc : cFn P f = some (cc_ref05_detector e fW f1 fS fT)) (hW : upto.Spec (Pure P) fW) (h1 : rLevel.Spec (Pure P) f1) (hS : rSeconds.Spec (Pure P) fS) (hT : rTimes.Spec (Pure P) fT) : rDet5.Spec (Pure P) f := by
  intro d hd
  have c1 := hW (some [d.phase]) 7 (by simp)
  have c2 := h1 d.on
  have c3 := h1 d.off
  have c4 := hS d.delay hd.2.2.1
  have c5 := hS d.extend hd.2.2.2
  have c6 := hT (some [d.maxOn, d.maxOff]) (by simp)
  simp only [Option.getD_some] at c1 c6
  rw [mayDet]
  generalize [d.phase].all (wI 7) = b1 at *
  generalize lvl d.on = b2 at *
  generalize lvl d.off = b3 at *
  generalize secsOk d.delay = b4 at *
  generalize secsOk d.extend = b5 at *
  generalize [d.maxOn, d.maxOff].all (wI 9999) = b6 at *
  refine pure_of hm hc (by show 1 ≤ 35; decide) (aw_flat (keep := []) (i := 0) ?_)
  try simp only [I, B, D, RX, ↓ KW, Nat.reduceBEq, Nat.reduceAdd, Nat.reduceLeDiff, Int.reduceNe, Int.reduceBEq, Int.reduceEq, reduceCtorEq, Nat.reduceMul, Int.reduceLT, Int.reduceLE, Int.reduceToNat, cc_ref05_detector, Z.H, Det.cells]
  refine call_is c1 ?_
  cases b1
  · try simp only [I, B, D, RX, ↓ KW, Nat.reduceBEq, Nat.reduceAdd, Nat.reduceLeDiff, Int.reduceNe, Int.reduceBEq, Int.reduceEq, reduceCtorEq, Nat.reduceMul, Int.reduceLT, Int.reduceLE, Int.reduceToNat]
    rfl
  try simp only [I, B, D, RX, ↓ KW, Nat.reduceBEq, Nat.reduceAdd, Nat.reduceLeDiff, Int.reduceNe, Int.reduceBEq, Int.reduceEq, reduceCtorEq, Nat.reduceMul, Int.reduceLT, Int.reduceLE, Int.reduceToNat]
  refine call_is c2 ?_
  cases b2
  · try simp only [I, B, D, RX, ↓ KW, Nat.reduceBEq, Nat.reduceAdd, Nat.reduceLeDiff, Int.reduceNe, Int.reduceBEq, Int.reduceEq, reduceCtorEq, Nat.reduceMul, Int.reduceLT, Int.reduceLE, Int.reduceToNat]
    rfl
  try simp only [I, B, D, RX, ↓ KW, Nat.reduceBEq, Nat.reduceAdd, Nat.reduceLeDiff, Int.reduceNe, Int.reduceBEq, Int.reduceEq, reduceCtorEq, Nat.reduceMul, Int.reduceLT, Int.reduceLE, Int.reduceToNat]
  refine call_is c3 ?_
  cases b3
  · try simp only [I, B, D, RX, ↓ KW, Nat.reduceBEq, Nat.reduceAdd, Nat.reduceLeDiff, Int.reduceNe, Int.reduceBEq, Int.reduceEq, reduceCtorEq, Nat.reduceMul, Int.reduceLT, Int.reduceLE, Int.reduceToNat]
    rfl
  try simp only [I, B, D, RX, ↓ KW, Nat.reduceBEq, Nat.reduceAdd, Nat.reduceLeDiff, Int.reduceNe, Int.reduceBEq, Int.reduceEq, reduceCtorEq, Nat.reduceMul, Int.reduceLT, Int.reduceLE, Int.reduceToNat]
  refine call_is c4 ?_
  cases b4
  · try simp only [I, B, D, RX, ↓ KW, Nat.reduceBEq, Nat.reduceAdd, Nat.reduceLeDiff, Int.reduceNe, Int.reduceBEq, Int.reduceEq, reduceCtorEq, Nat.reduceMul, Int.reduceLT, Int.reduceLE, Int.reduceToNat]
    rfl
  try simp only [I, B, D, RX, ↓ KW, Nat.reduceBEq, Nat.reduceAdd, Nat.reduceLeDiff, Int.reduceNe, Int.reduceBEq, Int.reduceEq, reduceCtorEq, Nat.reduceMul, Int.reduceLT, Int.reduceLE, Int.reduceToNat]
  refine call_is c5 ?_
  cases b5
  · try simp only [I, B, D, RX, ↓ KW, Nat.reduceBEq, Nat.reduceAdd, Nat.reduceLeDiff, Int.reduceNe, Int.reduceBEq, Int.reduceEq, reduceCtorEq, Nat.reduceMul, Int.reduceLT, Int.reduceLE, Int.reduceToNat]
    rfl
  try simp only [I, B, D, RX, ↓ KW, Nat.reduceBEq, Nat.reduceAdd, Nat.reduceLeDiff, Int.reduceNe, Int.reduceBEq, Int.reduceEq, reduceCtorEq, Nat.reduceMul, Int.reduceLT, Int.reduceLE, Int.reduceToNat]
  refine call_is c6 ?_
  try simp only [I, B, D, RX, ↓ KW, Nat.reduceBEq, Nat.reduceAdd, Nat.reduceLeDiff, Int.reduceNe, Int.reduceBEq, Int.reduceEq, reduceCtorEq, Nat.reduceMul, Int.reduceLT, Int.reduceLE, Int.reduceToNat]
  rfl
theorem rMay.ok {e fT fU fP fD fR : Nat} (hc : cFn P f = some (cc_ref05_May e fT fU fP fD fR)) (hT : rTimes.Spec (Pure P) fT) (hU : upto.Spec (Pure P) fU) (hP : rPhase5.Spec (Pure P) fP) (hD : rDet5.Spec (Pure P) fD) (hR : rRail5.Spec (Pure P) fR) : rMay.Spec (Pure P) f := by
  intro t h hfw
  have c1 := hT (some [t.extend, t.budget, t.start, t.revert, t.least]) (by simp)
  have c2 := hU (some [t.window, t.share]) 2147483647 (by simp)
  have c3 := hU (some t.conflict) 255 (by simp [h.conflict])
  have c4 := hU (some t.flash) 2 (by simp [h.flash])
  simp only [Option.getD_some] at c1 c2 c3 c4
  have hmay : mayT t = (((((((([t.extend, t.budget, t.start, t.revert, t.least].all (wI 9999) && [t.window, t.share].all (wI 2147483647)) && t.conflict.all (wI 255)) && t.flash.all (wI 2)) && t.phases.all mayPh) && (t.detectors.getD []).all mayDet) && (t.rails.getD []).all mayRl) && (t.buses.getD []).all mayBs) &&
      ((t.groups.getD []).all mayGr && (decide (((t.groups.getD []).length : Int) ≤ 4) && decide (((t.detectors.getD []).length : Int) ≤ 16) && decide (((t.rails.getD []).length : Int) ≤ 4) && decide (((t.buses.getD []).length : Int) ≤ 4)))) := by
    unfold mayT
    generalize [t.extend, t.budget, t.start, t.revert, t.least].all (wI 9999) = b1
    generalize [t.window, t.share].all (wI 2147483647) = b2
    generalize t.conflict.all (wI 255) = b3
    generalize t.flash.all (wI 2) = b4
    generalize t.phases.all mayPh = b5
    generalize (t.detectors.getD []).all mayDet = b6
    generalize (t.rails.getD []).all mayRl = b7
    generalize (t.buses.getD []).all mayBs = b8
    generalize (t.groups.getD []).all mayGr = b9
    generalize decide (((t.groups.getD []).length : Int) ≤ 4) = b10
    generalize decide (((t.detectors.getD []).length : Int) ≤ 16) = b11
    generalize decide (((t.rails.getD []).length : Int) ≤ 4) = b12
    generalize decide (((t.buses.getD []).length : Int) ≤ 4) = b13
    rw [Bool.eq_iff_iff]
    simp only [Bool.and_eq_true]
    constructor
    · rintro ⟨⟨⟨⟨⟨⟨⟨⟨x1, x2, x3⟩, x4⟩, x5, x6⟩, x7, x8⟩, x9, x10⟩, x11⟩, x12⟩, x13⟩
      simp only [*, and_self]
    · rintro ⟨⟨⟨⟨⟨⟨⟨⟨x1, x2⟩, x3⟩, x4⟩, x5⟩, x6⟩, x7⟩, x8⟩, x9, ⟨⟨x10, x11⟩, x12⟩, x13⟩
      simp only [*, and_self]
  generalize [t.extend, t.budget, t.start, t.revert, t.least].all (wI 9999) = b1 at *
  generalize [t.window, t.share].all (wI 2147483647) = b2 at *
  generalize t.conflict.all (wI 255) = b3 at *
  generalize t.flash.all (wI 2) = b4 at *
  have hw := h.whole
  have hl := h.len
  have k2 := tb_chC h
  have k3 := tb_chF h
  have p1 := tb_104 h
  have p2 := h.at113
  have p3 := h.at114
  have p4 := h.at115
  obtain ⟨n1, n2, n3, n4, n5, n6, n7⟩ := tb_nums h
  have g1 := gt_drop p1
  have g2 := gt_drop p2
  have g3 := gt_drop p3
  have g4 := gt_drop p4
  have len_no : ∀ {n : Nat} {m : Int}, decide ((n : Int) > m) = true → decide ((n : Int) ≤ m) = false := fun h => by have := of_decide_eq_true h; simp; omega
  refine pure_of hm hc (by show 1 ≤ 166; decide) (aw_flat (keep := []) (i := 0) ?_)
  try simp only [I, B, D, RX, ↓ KW, Nat.reduceBEq, Nat.reduceAdd, Nat.reduceLeDiff, Int.reduceNe, Int.reduceBEq, Int.reduceEq, reduceCtorEq, Nat.reduceMul, Int.reduceLT, Int.reduceLE, Int.reduceToNat, cc_ref05_May, Z.H, hl, p1, p2, p3, p4, n1, n2, n3, n4, n5, n6, n7, k2, k3, g1, g2, g3, g4, List.drop_zero, List.length_drop, a_len]
  cases l1 : decide (((t.groups.getD []).length : Int) > 4)
  rotate_left
  · try simp only [I, B, D, RX, ↓ KW, Nat.reduceBEq, Nat.reduceAdd, Nat.reduceLeDiff, Int.reduceNe, Int.reduceBEq, Int.reduceEq, reduceCtorEq, Nat.reduceMul, Int.reduceLT, Int.reduceLE, Int.reduceToNat, l1]
    rw [hmay, len_no (m := 4) l1]; simp
  try simp only [I, B, D, RX, ↓ KW, Nat.reduceBEq, Nat.reduceAdd, Nat.reduceLeDiff, Int.reduceNe, Int.reduceBEq, Int.reduceEq, reduceCtorEq, Nat.reduceMul, Int.reduceLT, Int.reduceLE, Int.reduceToNat, hl, p1, p2, p3, p4, n1, n2, n3, n4, n5, n6, n7, k2, k3, g1, g2, g3, g4, List.drop_zero, List.length_drop, a_len, l1]
  cases l2 : decide (((t.detectors.getD []).length : Int) > 16)
  rotate_left
  · try simp only [I, B, D, RX, ↓ KW, Nat.reduceBEq, Nat.reduceAdd, Nat.reduceLeDiff, Int.reduceNe, Int.reduceBEq, Int.reduceEq, reduceCtorEq, Nat.reduceMul, Int.reduceLT, Int.reduceLE, Int.reduceToNat, l2]
    rw [hmay, len_no (m := 16) l2]; simp
  try simp only [I, B, D, RX, ↓ KW, Nat.reduceBEq, Nat.reduceAdd, Nat.reduceLeDiff, Int.reduceNe, Int.reduceBEq, Int.reduceEq, reduceCtorEq, Nat.reduceMul, Int.reduceLT, Int.reduceLE, Int.reduceToNat, hl, p1, p2, p3, p4, n1, n2, n3, n4, n5, n6, n7, k2, k3, g1, g2, g3, g4, List.drop_zero, List.length_drop, a_len, l2]
  cases l3 : decide (((t.rails.getD []).length : Int) > 4)
  rotate_left
  · try simp only [I, B, D, RX, ↓ KW, Nat.reduceBEq, Nat.reduceAdd, Nat.reduceLeDiff, Int.reduceNe, Int.reduceBEq, Int.reduceEq, reduceCtorEq, Nat.reduceMul, Int.reduceLT, Int.reduceLE, Int.reduceToNat, l3]
    rw [hmay, len_no (m := 4) l3]; simp
  try simp only [I, B, D, RX, ↓ KW, Nat.reduceBEq, Nat.reduceAdd, Nat.reduceLeDiff, Int.reduceNe, Int.reduceBEq, Int.reduceEq, reduceCtorEq, Nat.reduceMul, Int.reduceLT, Int.reduceLE, Int.reduceToNat, hl, p1, p2, p3, p4, n1, n2, n3, n4, n5, n6, n7, k2, k3, g1, g2, g3, g4, List.drop_zero, List.length_drop, a_len, l3]
  cases l4 : decide (((t.buses.getD []).length : Int) > 4)
  rotate_left
  · try simp only [I, B, D, RX, ↓ KW, Nat.reduceBEq, Nat.reduceAdd, Nat.reduceLeDiff, Int.reduceNe, Int.reduceBEq, Int.reduceEq, reduceCtorEq, Nat.reduceMul, Int.reduceLT, Int.reduceLE, Int.reduceToNat, l4]
    rw [hmay, len_no (m := 4) l4]; simp
  have q1 : (t.groups.getD []).length ≤ 4 := by have := of_decide_eq_false l1; omega
  have q2 : (t.detectors.getD []).length ≤ 16 := by have := of_decide_eq_false l2; omega
  have q3 : (t.rails.getD []).length ≤ 4 := by have := of_decide_eq_false l3; omega
  have q4 : (t.buses.getD []).length ≤ 4 := by have := of_decide_eq_false l4; omega
  have hlens : (decide (((t.groups.getD []).length : Int) ≤ 4) && decide (((t.detectors.getD []).length : Int) ≤ 16) && decide (((t.rails.getD []).length : Int) ≤ 4) && decide (((t.buses.getD []).length : Int) ≤ 4)) = true := by
    have q1' : ((t.groups.getD []).length : Int) ≤ 4 := by omega
    have q2' : ((t.detectors.getD []).length : Int) ≤ 16 := by omega
    have q3' : ((t.rails.getD []).length : Int) ≤ 4 := by omega
    have q4' : ((t.buses.getD []).length : Int) ≤ 4 := by omega
    simp [q1', q2', q3', q4']
  rw [hlens, Bool.and_true] at hmay
  try simp only [I, B, D, RX, ↓ KW, Nat.reduceBEq, Nat.reduceAdd, Nat.reduceLeDiff, Int.reduceNe, Int.reduceBEq, Int.reduceEq, reduceCtorEq, Nat.reduceMul, Int.reduceLT, Int.reduceLE, Int.reduceToNat, hl, p1, p2, p3, p4, n1, n2, n3, n4, n5, n6, n7, k2, k3, g1, g2, g3, g4, List.drop_zero, List.length_drop, a_len, l4]
  refine call_is c1 ?_
  cases b1
  · try simp only [I, B, D, RX, ↓ KW, Nat.reduceBEq, Nat.reduceAdd, Nat.reduceLeDiff, Int.reduceNe, Int.reduceBEq, Int.reduceEq, reduceCtorEq, Nat.reduceMul, Int.reduceLT, Int.reduceLE, Int.reduceToNat, hl, p1, p2, p3, p4, n1, n2, n3, n4, n5, n6, n7, k2, k3, g1, g2, g3, g4, List.drop_zero, List.length_drop, a_len]
    obtain ⟨b0, hb0⟩ : ∃ b0, b0 = (((false && b2) && b3) && b4) := ⟨_, rfl⟩
    rw [← hb0] at hmay
    refine aw_loop' (fun k : Nat => (⟨[(4, .dat (I k) none), (3, .dat (B (b0 && (t.phases.take k).all mayPh)) none), (1, .ptr 4 0)], [(4, ⟨t.cells, []⟩)], [], 400⟩ : S)) (fun k => 8 - k) (fun k => k ≤ 8) ?_ 0 (by omega) ?_
    rotate_left
    · refine le_tok2 (by decide) ?_ ?_ ?_ ?_ <;> simp [LX, I, B, D, hb0]
    intro k hk A back
    have hwr := wrap_succ (k := k) (by omega)
    try simp only [I, B, D, RX, ↓ KW, Nat.reduceBEq, Nat.reduceAdd, Nat.reduceLeDiff, Int.reduceNe, Int.reduceBEq, Int.reduceEq, reduceCtorEq, Nat.reduceMul, Int.reduceLT, Int.reduceLE, Int.reduceToNat]
    cases h2 : decide ((k : Int) < 8)
    rotate_left
    · have h8 : k < 8 := by have := of_decide_eq_true h2; omega
      have hx := h.ph_get h8
      have hxx : 0 ≤ (k : Int) ∧ (k : Int) < (8 : Nat) := by omega
      have hph := Tb.phase_part hx
      have hphd : partA (t.cells.drop (k * 13)) 0 (some 13) = some (.agg (phAt t k).cells) := part_drop hph
      have hst := step_all (is := mayPh) (b := b0) hx
      generalize hbb : (b0 && (t.phases.take k).all mayPh) = bb at *
      cases bb
      · try simp only [I, B, D, RX, ↓ KW, Nat.reduceBEq, Nat.reduceAdd, Nat.reduceLeDiff, Int.reduceNe, Int.reduceBEq, Int.reduceEq, reduceCtorEq, Nat.reduceMul, Int.reduceLT, Int.reduceLE, Int.reduceToNat, hl, p1, p2, p3, p4, n1, n2, n3, n4, n5, n6, n7, k2, k3, g1, g2, g3, g4, List.drop_zero, List.length_drop, a_len, h2]
        refine back (k + 1) _ (by omega) (by omega) ?_
        simp only [← hst]
        refine le_tok2 (by decide) ?_ ?_ ?_ ?_ <;> simp [LX, I, B, D, hwr]
      · try simp only [I, B, D, RX, ↓ KW, Nat.reduceBEq, Nat.reduceAdd, Nat.reduceLeDiff, Int.reduceNe, Int.reduceBEq, Int.reduceEq, reduceCtorEq, Nat.reduceMul, Int.reduceLT, Int.reduceLE, Int.reduceToNat, hl, p1, p2, p3, p4, n1, n2, n3, n4, n5, n6, n7, k2, k3, g1, g2, g3, g4, List.drop_zero, List.length_drop, a_len, h2, hxx, hph, hphd]
        refine call_is (hP (phAt t k)) ?_
        try simp only [I, B, D, RX, ↓ KW, Nat.reduceBEq, Nat.reduceAdd, Nat.reduceLeDiff, Int.reduceNe, Int.reduceBEq, Int.reduceEq, reduceCtorEq, Nat.reduceMul, Int.reduceLT, Int.reduceLE, Int.reduceToNat]
        refine back (k + 1) _ (by omega) (by omega) ?_
        simp only [← hst]
        refine le_tok2 (by decide) ?_ ?_ ?_ ?_ <;> simp [LX, I, B, D, hwr]
    have e8 : k = 8 := by have := of_decide_eq_false h2; omega
    subst e8
    have hP8 : t.phases.take 8 = t.phases := List.take_of_length_le (by rw [h.phases]; omega)
    rw [hP8]
    generalize hb5 : (b0 && t.phases.all mayPh) = b5 at *
    try simp only [I, B, D, RX, ↓ KW, Nat.reduceBEq, Nat.reduceAdd, Nat.reduceLeDiff, Int.reduceNe, Int.reduceBEq, Int.reduceEq, reduceCtorEq, Nat.reduceMul, Int.reduceLT, Int.reduceLE, Int.reduceToNat, h2]
    clear back A
    refine aw_loop' (fun k : Nat => (⟨[(5, .dat (I k) none), (1, .ptr 4 0), (3, .dat (B b5) none)], [(4, ⟨t.cells, []⟩)], [], 450⟩ : S)) (fun k => (t.groups.getD []).length - k) (fun k => k ≤ (t.groups.getD []).length ∧ ((t.groups.getD []).take k).all mayGr = true) ?_ 0 (by simp) ?_
    rotate_left
    · refine le_tok2 (by decide) ?_ ?_ ?_ ?_ <;> simp [LX, I, B, D]
    rintro k ⟨hk, hall⟩ A back
    have hwr := wrap_succ (k := k) (by omega)
    try simp only [I, B, D, RX, ↓ KW, Nat.reduceBEq, Nat.reduceAdd, Nat.reduceLeDiff, Int.reduceNe, Int.reduceBEq, Int.reduceEq, reduceCtorEq, Nat.reduceMul, Int.reduceLT, Int.reduceLE, Int.reduceToNat, hl, p1, p2, p3, p4, n1, n2, n3, n4, n5, n6, n7, k2, k3, g1, g2, g3, g4, List.drop_zero, List.length_drop, a_len]
    cases h2 : decide ((k : Int) < (((t.groups.getD []).length : Nat) : Int))
    rotate_left
    · have h8 : k < (t.groups.getD []).length := by have := of_decide_eq_true h2; omega
      obtain ⟨x, hx⟩ : ∃ x, (t.groups.getD [])[k]? = some x := ⟨_, List.getElem?_eq_getElem h8⟩
      have hno : ∀ r, (r = x.a ∨ r = x.b) → mayRow r = false → mayT t = false := fun r hr hf => by
        have : mayGr x = false := by unfold mayGr; rcases hr with rfl | rfl <;> simp [hf]
        rw [hmay, all_no hx this, Bool.and_false]
      try simp only [I, B, D, RX, ↓ KW, Nat.reduceBEq, Nat.reduceAdd, Nat.reduceLeDiff, Int.reduceNe, Int.reduceBEq, Int.reduceEq, reduceCtorEq, Nat.reduceMul, Int.reduceLT, Int.reduceLE, Int.reduceToNat, h2]
      refine aw_loop' (fun j : Nat => (⟨[(6, .dat (I j) none), (1, .ptr 4 0), (5, .dat (I k) none), (3, .dat (B b5) none)], [(4, ⟨t.cells, []⟩)], [], 600⟩ : S)) (fun j => 2 - j) (fun j => j ≤ 2 ∧ (1 ≤ j → mayRow x.a = true) ∧ (2 ≤ j → mayRow x.b = true)) ?_ 0 (by simp) ?_
      rotate_left
      · refine le_tok2 (by decide) ?_ ?_ ?_ ?_ <;> simp [LX, I, B, D]
      rintro j ⟨hj, hja, hjb⟩ A2 back2
      have hwr2 := wrap_succ (k := j) (by omega)
      have hcases : j = 0 ∨ j = 1 ∨ j = 2 := by omega
      have hc0 : decide (((0 : Nat) : Int) < 2) = true := rfl
      have hc1 : decide (((1 : Nat) : Int) < 2) = true := rfl
      have hc2 : decide (((2 : Nat) : Int) < 2) = false := rfl
      rcases hcases with rfl | rfl | rfl
      · have hm1 := hno x.a (.inl rfl)
        have hup := fun hl => hU x.a 7 hl
        try simp only [I, B, D, RX, ↓ KW, Nat.reduceBEq, Nat.reduceAdd, Nat.reduceLeDiff, Int.reduceNe, Int.reduceBEq, Int.reduceEq, reduceCtorEq, Nat.reduceMul, Int.reduceLT, Int.reduceLE, Int.reduceToNat, hl, p1, p2, p3, p4, n1, n2, n3, n4, n5, n6, n7, k2, k3, g1, g2, g3, g4, List.drop_zero, List.length_drop, a_len, a_rows, hx, Gr.cells, hc0, hc1]
        refine ⟨by omega, by omega, ?_⟩
        try simp only [I, B, D, RX, ↓ KW, Nat.reduceBEq, Nat.reduceAdd, Nat.reduceLeDiff, Int.reduceNe, Int.reduceBEq, Int.reduceEq, reduceCtorEq, Nat.reduceMul, Int.reduceLT, Int.reduceLE, Int.reduceToNat, hl, p1, p2, p3, p4, n1, n2, n3, n4, n5, n6, n7, k2, k3, g1, g2, g3, g4, List.drop_zero, List.length_drop, a_len, a_rows, hx, Gr.cells]
        cases h3 : decide ((((x.a.getD []).length : Nat) : Int) > 8)
        rotate_left
        · try simp only [I, B, D, RX, ↓ KW, Nat.reduceBEq, Nat.reduceAdd, Nat.reduceLeDiff, Int.reduceNe, Int.reduceBEq, Int.reduceEq, reduceCtorEq, Nat.reduceMul, Int.reduceLT, Int.reduceLE, Int.reduceToNat, h3]
          rw [hm1 (by rw [mayRow, len_no (m := 8) h3]; rfl)]
        have hle : (x.a.getD []).length ≤ 8 := by have := of_decide_eq_false h3; omega
        have hrow : mayRow x.a = (x.a.getD []).all (wI 7) := by
          have : decide ((((x.a.getD []).length : Nat) : Int) ≤ 8) = true := by simp; omega
          rw [mayRow, this, Bool.true_and]; simp
        try simp only [I, B, D, RX, ↓ KW, Nat.reduceBEq, Nat.reduceAdd, Nat.reduceLeDiff, Int.reduceNe, Int.reduceBEq, Int.reduceEq, reduceCtorEq, Nat.reduceMul, Int.reduceLT, Int.reduceLE, Int.reduceToNat, hl, p1, p2, p3, p4, n1, n2, n3, n4, n5, n6, n7, k2, k3, g1, g2, g3, g4, List.drop_zero, List.length_drop, a_len, a_rows, hx, Gr.cells, h3]
        refine ⟨by omega, by omega, ?_⟩
        refine call_is (hup (by omega)) ?_
        rw [← hrow]
        cases hr : mayRow x.a
        · try simp only [I, B, D, RX, ↓ KW, Nat.reduceBEq, Nat.reduceAdd, Nat.reduceLeDiff, Int.reduceNe, Int.reduceBEq, Int.reduceEq, reduceCtorEq, Nat.reduceMul, Int.reduceLT, Int.reduceLE, Int.reduceToNat]
          rw [hm1 hr]
        · try simp only [I, B, D, RX, ↓ KW, Nat.reduceBEq, Nat.reduceAdd, Nat.reduceLeDiff, Int.reduceNe, Int.reduceBEq, Int.reduceEq, reduceCtorEq, Nat.reduceMul, Int.reduceLT, Int.reduceLE, Int.reduceToNat]
          refine back2 1 _ ⟨by omega, fun _ => hr, fun h => by omega⟩ (by omega) ?_
          refine le_tok2 (by decide) ?_ ?_ ?_ ?_ <;> simp [LX, I, B, D, show IntKind.i64.wrap 1 = 1 from rfl]
      · have hm1 := hno x.b (.inr rfl)
        have hup := fun hl => hU x.b 7 hl
        try simp only [I, B, D, RX, ↓ KW, Nat.reduceBEq, Nat.reduceAdd, Nat.reduceLeDiff, Int.reduceNe, Int.reduceBEq, Int.reduceEq, reduceCtorEq, Nat.reduceMul, Int.reduceLT, Int.reduceLE, Int.reduceToNat, hl, p1, p2, p3, p4, n1, n2, n3, n4, n5, n6, n7, k2, k3, g1, g2, g3, g4, List.drop_zero, List.length_drop, a_len, a_rows, hx, Gr.cells, hc0, hc1]
        refine ⟨by omega, by omega, ?_⟩
        try simp only [I, B, D, RX, ↓ KW, Nat.reduceBEq, Nat.reduceAdd, Nat.reduceLeDiff, Int.reduceNe, Int.reduceBEq, Int.reduceEq, reduceCtorEq, Nat.reduceMul, Int.reduceLT, Int.reduceLE, Int.reduceToNat, hl, p1, p2, p3, p4, n1, n2, n3, n4, n5, n6, n7, k2, k3, g1, g2, g3, g4, List.drop_zero, List.length_drop, a_len, a_rows, hx, Gr.cells]
        cases h3 : decide ((((x.b.getD []).length : Nat) : Int) > 8)
        rotate_left
        · try simp only [I, B, D, RX, ↓ KW, Nat.reduceBEq, Nat.reduceAdd, Nat.reduceLeDiff, Int.reduceNe, Int.reduceBEq, Int.reduceEq, reduceCtorEq, Nat.reduceMul, Int.reduceLT, Int.reduceLE, Int.reduceToNat, h3]
          rw [hm1 (by rw [mayRow, len_no (m := 8) h3]; rfl)]
        have hle : (x.b.getD []).length ≤ 8 := by have := of_decide_eq_false h3; omega
        have hrow : mayRow x.b = (x.b.getD []).all (wI 7) := by
          have : decide ((((x.b.getD []).length : Nat) : Int) ≤ 8) = true := by simp; omega
          rw [mayRow, this, Bool.true_and]; simp
        try simp only [I, B, D, RX, ↓ KW, Nat.reduceBEq, Nat.reduceAdd, Nat.reduceLeDiff, Int.reduceNe, Int.reduceBEq, Int.reduceEq, reduceCtorEq, Nat.reduceMul, Int.reduceLT, Int.reduceLE, Int.reduceToNat, hl, p1, p2, p3, p4, n1, n2, n3, n4, n5, n6, n7, k2, k3, g1, g2, g3, g4, List.drop_zero, List.length_drop, a_len, a_rows, hx, Gr.cells, h3]
        refine ⟨by omega, by omega, ?_⟩
        refine call_is (hup (by omega)) ?_
        rw [← hrow]
        cases hr : mayRow x.b
        · try simp only [I, B, D, RX, ↓ KW, Nat.reduceBEq, Nat.reduceAdd, Nat.reduceLeDiff, Int.reduceNe, Int.reduceBEq, Int.reduceEq, reduceCtorEq, Nat.reduceMul, Int.reduceLT, Int.reduceLE, Int.reduceToNat]
          rw [hm1 hr]
        · try simp only [I, B, D, RX, ↓ KW, Nat.reduceBEq, Nat.reduceAdd, Nat.reduceLeDiff, Int.reduceNe, Int.reduceBEq, Int.reduceEq, reduceCtorEq, Nat.reduceMul, Int.reduceLT, Int.reduceLE, Int.reduceToNat]
          refine back2 2 _ ⟨by omega, fun _ => hja (by omega), fun _ => hr⟩ (by omega) ?_
          refine le_tok2 (by decide) ?_ ?_ ?_ ?_ <;> simp [LX, I, B, D, show IntKind.i64.wrap 2 = 2 from rfl]
      · try simp only [I, B, D, RX, ↓ KW, Nat.reduceBEq, Nat.reduceAdd, Nat.reduceLeDiff, Int.reduceNe, Int.reduceBEq, Int.reduceEq, reduceCtorEq, Nat.reduceMul, Int.reduceLT, Int.reduceLE, Int.reduceToNat, hc2]
        have hgr : mayGr x = true := by unfold mayGr; rw [hja (by omega), hjb (by omega)]; rfl
        refine back (k + 1) _ ⟨by omega, by rw [all_take hx, hall, hgr]; rfl⟩ (by omega) ?_
        refine le_tok2 (by decide) ?_ ?_ ?_ ?_ <;> simp [LX, I, B, D, hwr]
    have e8 : k = (t.groups.getD []).length := by have := of_decide_eq_false h2; omega
    subst e8
    rw [List.take_length] at hall
    rw [hall, Bool.and_true] at hmay
    try simp only [I, B, D, RX, ↓ KW, Nat.reduceBEq, Nat.reduceAdd, Nat.reduceLeDiff, Int.reduceNe, Int.reduceBEq, Int.reduceEq, reduceCtorEq, Nat.reduceMul, Int.reduceLT, Int.reduceLE, Int.reduceToNat, h2]
    clear back A
    refine aw_loop' (fun k : Nat => (⟨[(7, .dat (I k) none), (1, .ptr 4 0), (3, .dat (B (b5 && ((t.detectors.getD []).take k).all mayDet)) none)], [(4, ⟨t.cells, []⟩)], [], 700⟩ : S)) (fun k => (t.detectors.getD []).length - k) (fun k => k ≤ (t.detectors.getD []).length) ?_ 0 (by simp) ?_
    rotate_left
    · refine le_tok2 (by decide) ?_ ?_ ?_ ?_ <;> simp [LX, I, B, D]
    rintro k hk A back
    have hwr := wrap_succ (k := k) (by omega)
    try simp only [I, B, D, RX, ↓ KW, Nat.reduceBEq, Nat.reduceAdd, Nat.reduceLeDiff, Int.reduceNe, Int.reduceBEq, Int.reduceEq, reduceCtorEq, Nat.reduceMul, Int.reduceLT, Int.reduceLE, Int.reduceToNat, hl, p1, p2, p3, p4, n1, n2, n3, n4, n5, n6, n7, k2, k3, g1, g2, g3, g4, List.drop_zero, List.length_drop, a_len]
    cases h2 : decide ((k : Int) < (((t.detectors.getD []).length : Nat) : Int))
    rotate_left
    · have h8 : k < (t.detectors.getD []).length := by have := of_decide_eq_true h2; omega
      obtain ⟨x, hx⟩ : ∃ x, (t.detectors.getD [])[k]? = some x := ⟨_, List.getElem?_eq_getElem h8⟩
      have hst := step_all (is := mayDet) (b := b5) hx
      have hpart : partA (Det.cells x) 0 (some 7) = some (.agg x.cells) := rfl
      have hdl : (Det.cells x).length = 7 := rfl
      generalize hbb : (b5 && ((t.detectors.getD []).take k).all mayDet) = bb at *
      cases bb
      · try simp only [I, B, D, RX, ↓ KW, Nat.reduceBEq, Nat.reduceAdd, Nat.reduceLeDiff, Int.reduceNe, Int.reduceBEq, Int.reduceEq, reduceCtorEq, Nat.reduceMul, Int.reduceLT, Int.reduceLE, Int.reduceToNat, hl, p1, p2, p3, p4, n1, n2, n3, n4, n5, n6, n7, k2, k3, g1, g2, g3, g4, List.drop_zero, List.length_drop, a_len, h2]
        refine back (k + 1) _ (by omega) (by omega) ?_
        simp only [← hst]
        refine le_tok2 (by decide) ?_ ?_ ?_ ?_ <;> simp [LX, I, B, D, hwr]
      · try simp only [I, B, D, RX, ↓ KW, Nat.reduceBEq, Nat.reduceAdd, Nat.reduceLeDiff, Int.reduceNe, Int.reduceBEq, Int.reduceEq, reduceCtorEq, Nat.reduceMul, Int.reduceLT, Int.reduceLE, Int.reduceToNat, hl, p1, p2, p3, p4, n1, n2, n3, n4, n5, n6, n7, k2, k3, g1, g2, g3, g4, List.drop_zero, List.length_drop, a_len, h2, a_rows, hx, hpart, hdl]
        refine ⟨by omega, ?_⟩
        refine call_is (hD x (hfw x (List.mem_of_getElem? hx))) ?_
        try simp only [I, B, D, RX, ↓ KW, Nat.reduceBEq, Nat.reduceAdd, Nat.reduceLeDiff, Int.reduceNe, Int.reduceBEq, Int.reduceEq, reduceCtorEq, Nat.reduceMul, Int.reduceLT, Int.reduceLE, Int.reduceToNat]
        refine back (k + 1) _ (by omega) (by omega) ?_
        simp only [← hst]
        refine le_tok2 (by decide) ?_ ?_ ?_ ?_ <;> simp [LX, I, B, D, hwr]
    have e8 : k = (t.detectors.getD []).length := by have := of_decide_eq_false h2; omega
    subst e8
    rw [List.take_length]
    generalize hb6 : (b5 && (t.detectors.getD []).all mayDet) = b6 at *
    try simp only [I, B, D, RX, ↓ KW, Nat.reduceBEq, Nat.reduceAdd, Nat.reduceLeDiff, Int.reduceNe, Int.reduceBEq, Int.reduceEq, reduceCtorEq, Nat.reduceMul, Int.reduceLT, Int.reduceLE, Int.reduceToNat, h2]
    clear back A
    refine aw_loop' (fun k : Nat => (⟨[(8, .dat (I k) none), (1, .ptr 4 0), (3, .dat (B (b6 && ((t.rails.getD []).take k).all mayRl)) none)], [(4, ⟨t.cells, []⟩)], [], 800⟩ : S)) (fun k => (t.rails.getD []).length - k) (fun k => k ≤ (t.rails.getD []).length) ?_ 0 (by simp) ?_
    rotate_left
    · refine le_tok2 (by decide) ?_ ?_ ?_ ?_ <;> simp [LX, I, B, D]
    rintro k hk A back
    have hwr := wrap_succ (k := k) (by omega)
    try simp only [I, B, D, RX, ↓ KW, Nat.reduceBEq, Nat.reduceAdd, Nat.reduceLeDiff, Int.reduceNe, Int.reduceBEq, Int.reduceEq, reduceCtorEq, Nat.reduceMul, Int.reduceLT, Int.reduceLE, Int.reduceToNat, hl, p1, p2, p3, p4, n1, n2, n3, n4, n5, n6, n7, k2, k3, g1, g2, g3, g4, List.drop_zero, List.length_drop, a_len]
    cases h2 : decide ((k : Int) < (((t.rails.getD []).length : Nat) : Int))
    rotate_left
    · have h8 : k < (t.rails.getD []).length := by have := of_decide_eq_true h2; omega
      obtain ⟨x, hx⟩ : ∃ x, (t.rails.getD [])[k]? = some x := ⟨_, List.getElem?_eq_getElem h8⟩
      have hst := step_all (is := mayRl) (b := b6) hx
      have hpart : partA (Rl.cells x) 0 (some 11) = some (.agg x.cells) := rfl
      have hdl : (Rl.cells x).length = 11 := rfl
      generalize hbb : (b6 && ((t.rails.getD []).take k).all mayRl) = bb at *
      cases bb
      · try simp only [I, B, D, RX, ↓ KW, Nat.reduceBEq, Nat.reduceAdd, Nat.reduceLeDiff, Int.reduceNe, Int.reduceBEq, Int.reduceEq, reduceCtorEq, Nat.reduceMul, Int.reduceLT, Int.reduceLE, Int.reduceToNat, hl, p1, p2, p3, p4, n1, n2, n3, n4, n5, n6, n7, k2, k3, g1, g2, g3, g4, List.drop_zero, List.length_drop, a_len, h2]
        refine back (k + 1) _ (by omega) (by omega) ?_
        simp only [← hst]
        refine le_tok2 (by decide) ?_ ?_ ?_ ?_ <;> simp [LX, I, B, D, hwr]
      · try simp only [I, B, D, RX, ↓ KW, Nat.reduceBEq, Nat.reduceAdd, Nat.reduceLeDiff, Int.reduceNe, Int.reduceBEq, Int.reduceEq, reduceCtorEq, Nat.reduceMul, Int.reduceLT, Int.reduceLE, Int.reduceToNat, hl, p1, p2, p3, p4, n1, n2, n3, n4, n5, n6, n7, k2, k3, g1, g2, g3, g4, List.drop_zero, List.length_drop, a_len, h2, a_rows, hx, hpart, hdl]
        refine ⟨by omega, ?_⟩
        refine call_is (hR x) ?_
        try simp only [I, B, D, RX, ↓ KW, Nat.reduceBEq, Nat.reduceAdd, Nat.reduceLeDiff, Int.reduceNe, Int.reduceBEq, Int.reduceEq, reduceCtorEq, Nat.reduceMul, Int.reduceLT, Int.reduceLE, Int.reduceToNat]
        refine back (k + 1) _ (by omega) (by omega) ?_
        simp only [← hst]
        refine le_tok2 (by decide) ?_ ?_ ?_ ?_ <;> simp [LX, I, B, D, hwr]
    have e8 : k = (t.rails.getD []).length := by have := of_decide_eq_false h2; omega
    subst e8
    rw [List.take_length]
    generalize hb7 : (b6 && (t.rails.getD []).all mayRl) = b7 at *
    try simp only [I, B, D, RX, ↓ KW, Nat.reduceBEq, Nat.reduceAdd, Nat.reduceLeDiff, Int.reduceNe, Int.reduceBEq, Int.reduceEq, reduceCtorEq, Nat.reduceMul, Int.reduceLT, Int.reduceLE, Int.reduceToNat, h2]
    clear back A
    refine aw_loop' (fun k : Nat => (⟨[(9, .dat (I k) none), (1, .ptr 4 0), (3, .dat (B (b7 && ((t.buses.getD []).take k).all mayBs)) none)], [(4, ⟨t.cells, []⟩)], [], 900⟩ : S)) (fun k => (t.buses.getD []).length - k) (fun k => k ≤ (t.buses.getD []).length) ?_ 0 (by simp) ?_
    rotate_left
    · refine le_tok2 (by decide) ?_ ?_ ?_ ?_ <;> simp [LX, I, B, D]
    rintro k hk A back
    have hwr := wrap_succ (k := k) (by omega)
    try simp only [I, B, D, RX, ↓ KW, Nat.reduceBEq, Nat.reduceAdd, Nat.reduceLeDiff, Int.reduceNe, Int.reduceBEq, Int.reduceEq, reduceCtorEq, Nat.reduceMul, Int.reduceLT, Int.reduceLE, Int.reduceToNat, hl, p1, p2, p3, p4, n1, n2, n3, n4, n5, n6, n7, k2, k3, g1, g2, g3, g4, List.drop_zero, List.length_drop, a_len]
    cases h2 : decide ((k : Int) < (((t.buses.getD []).length : Nat) : Int))
    rotate_left
    · have h8 : k < (t.buses.getD []).length := by have := of_decide_eq_true h2; omega
      obtain ⟨x, hx⟩ : ∃ x, (t.buses.getD [])[k]? = some x := ⟨_, List.getElem?_eq_getElem h8⟩
      have hst := step_all (is := mayBs) (b := b7) hx
      have u1 := hU (some [x.set]) 255 (by simp)
      have u2 := hT (some [x.lock]) (by simp)
      simp only [Option.getD_some] at u1 u2
      rw [mayBs] at hst
      generalize [x.set].all (wI 255) = v1 at *
      generalize [x.lock].all (wI 9999) = v2 at *
      generalize hbb : (b7 && ((t.buses.getD []).take k).all mayBs) = bb at *
      cases bb
      · try simp only [I, B, D, RX, ↓ KW, Nat.reduceBEq, Nat.reduceAdd, Nat.reduceLeDiff, Int.reduceNe, Int.reduceBEq, Int.reduceEq, reduceCtorEq, Nat.reduceMul, Int.reduceLT, Int.reduceLE, Int.reduceToNat, hl, p1, p2, p3, p4, n1, n2, n3, n4, n5, n6, n7, k2, k3, g1, g2, g3, g4, List.drop_zero, List.length_drop, a_len, h2]
        refine back (k + 1) _ (by omega) (by omega) ?_
        simp only [← hst]
        refine le_tok2 (by decide) ?_ ?_ ?_ ?_ <;> simp [LX, I, B, D, hwr]
      · try simp only [I, B, D, RX, ↓ KW, Nat.reduceBEq, Nat.reduceAdd, Nat.reduceLeDiff, Int.reduceNe, Int.reduceBEq, Int.reduceEq, reduceCtorEq, Nat.reduceMul, Int.reduceLT, Int.reduceLE, Int.reduceToNat, hl, p1, p2, p3, p4, n1, n2, n3, n4, n5, n6, n7, k2, k3, g1, g2, g3, g4, List.drop_zero, List.length_drop, a_len, h2, a_rows, hx, Bs.cells]
        refine ⟨by omega, ?_⟩
        refine call_is u1 ?_
        cases v1
        · try simp only [I, B, D, RX, ↓ KW, Nat.reduceBEq, Nat.reduceAdd, Nat.reduceLeDiff, Int.reduceNe, Int.reduceBEq, Int.reduceEq, reduceCtorEq, Nat.reduceMul, Int.reduceLT, Int.reduceLE, Int.reduceToNat]
          refine back (k + 1) _ (by omega) (by omega) ?_
          simp only [← hst]
          refine le_tok2 (by decide) ?_ ?_ ?_ ?_ <;> simp [LX, I, B, D, hwr]
        · try simp only [I, B, D, RX, ↓ KW, Nat.reduceBEq, Nat.reduceAdd, Nat.reduceLeDiff, Int.reduceNe, Int.reduceBEq, Int.reduceEq, reduceCtorEq, Nat.reduceMul, Int.reduceLT, Int.reduceLE, Int.reduceToNat, hl, p1, p2, p3, p4, n1, n2, n3, n4, n5, n6, n7, k2, k3, g1, g2, g3, g4, List.drop_zero, List.length_drop, a_len, a_rows, hx, Bs.cells]
          refine ⟨by omega, ?_⟩
          refine call_is u2 ?_
          try simp only [I, B, D, RX, ↓ KW, Nat.reduceBEq, Nat.reduceAdd, Nat.reduceLeDiff, Int.reduceNe, Int.reduceBEq, Int.reduceEq, reduceCtorEq, Nat.reduceMul, Int.reduceLT, Int.reduceLE, Int.reduceToNat]
          refine back (k + 1) _ (by omega) (by omega) ?_
          simp only [← hst]
          refine le_tok2 (by decide) ?_ ?_ ?_ ?_ <;> simp [LX, I, B, D, hwr]
    have e8 : k = (t.buses.getD []).length := by have := of_decide_eq_false h2; omega
    subst e8
    rw [List.take_length]
    try simp only [I, B, D, RX, ↓ KW, Nat.reduceBEq, Nat.reduceAdd, Nat.reduceLeDiff, Int.reduceNe, Int.reduceBEq, Int.reduceEq, reduceCtorEq, Nat.reduceMul, Int.reduceLT, Int.reduceLE, Int.reduceToNat, h2]
    rw [hmay]
  try simp only [I, B, D, RX, ↓ KW, Nat.reduceBEq, Nat.reduceAdd, Nat.reduceLeDiff, Int.reduceNe, Int.reduceBEq, Int.reduceEq, reduceCtorEq, Nat.reduceMul, Int.reduceLT, Int.reduceLE, Int.reduceToNat, hl, p1, p2, p3, p4, n1, n2, n3, n4, n5, n6, n7, k2, k3, g1, g2, g3, g4, List.drop_zero, List.length_drop, a_len]
  refine call_is c2 ?_
  cases b2
  · try simp only [I, B, D, RX, ↓ KW, Nat.reduceBEq, Nat.reduceAdd, Nat.reduceLeDiff, Int.reduceNe, Int.reduceBEq, Int.reduceEq, reduceCtorEq, Nat.reduceMul, Int.reduceLT, Int.reduceLE, Int.reduceToNat, hl, p1, p2, p3, p4, n1, n2, n3, n4, n5, n6, n7, k2, k3, g1, g2, g3, g4, List.drop_zero, List.length_drop, a_len]
    obtain ⟨b0, hb0⟩ : ∃ b0, b0 = (((true && false) && b3) && b4) := ⟨_, rfl⟩
    rw [← hb0] at hmay
    refine aw_loop' (fun k : Nat => (⟨[(4, .dat (I k) none), (3, .dat (B (b0 && (t.phases.take k).all mayPh)) none), (1, .ptr 4 0)], [(4, ⟨t.cells, []⟩)], [], 400⟩ : S)) (fun k => 8 - k) (fun k => k ≤ 8) ?_ 0 (by omega) ?_
    rotate_left
    · refine le_tok2 (by decide) ?_ ?_ ?_ ?_ <;> simp [LX, I, B, D, hb0]
    intro k hk A back
    have hwr := wrap_succ (k := k) (by omega)
    try simp only [I, B, D, RX, ↓ KW, Nat.reduceBEq, Nat.reduceAdd, Nat.reduceLeDiff, Int.reduceNe, Int.reduceBEq, Int.reduceEq, reduceCtorEq, Nat.reduceMul, Int.reduceLT, Int.reduceLE, Int.reduceToNat]
    cases h2 : decide ((k : Int) < 8)
    rotate_left
    · have h8 : k < 8 := by have := of_decide_eq_true h2; omega
      have hx := h.ph_get h8
      have hxx : 0 ≤ (k : Int) ∧ (k : Int) < (8 : Nat) := by omega
      have hph := Tb.phase_part hx
      have hphd : partA (t.cells.drop (k * 13)) 0 (some 13) = some (.agg (phAt t k).cells) := part_drop hph
      have hst := step_all (is := mayPh) (b := b0) hx
      generalize hbb : (b0 && (t.phases.take k).all mayPh) = bb at *
      cases bb
      · try simp only [I, B, D, RX, ↓ KW, Nat.reduceBEq, Nat.reduceAdd, Nat.reduceLeDiff, Int.reduceNe, Int.reduceBEq, Int.reduceEq, reduceCtorEq, Nat.reduceMul, Int.reduceLT, Int.reduceLE, Int.reduceToNat, hl, p1, p2, p3, p4, n1, n2, n3, n4, n5, n6, n7, k2, k3, g1, g2, g3, g4, List.drop_zero, List.length_drop, a_len, h2]
        refine back (k + 1) _ (by omega) (by omega) ?_
        simp only [← hst]
        refine le_tok2 (by decide) ?_ ?_ ?_ ?_ <;> simp [LX, I, B, D, hwr]
      · try simp only [I, B, D, RX, ↓ KW, Nat.reduceBEq, Nat.reduceAdd, Nat.reduceLeDiff, Int.reduceNe, Int.reduceBEq, Int.reduceEq, reduceCtorEq, Nat.reduceMul, Int.reduceLT, Int.reduceLE, Int.reduceToNat, hl, p1, p2, p3, p4, n1, n2, n3, n4, n5, n6, n7, k2, k3, g1, g2, g3, g4, List.drop_zero, List.length_drop, a_len, h2, hxx, hph, hphd]
        refine call_is (hP (phAt t k)) ?_
        try simp only [I, B, D, RX, ↓ KW, Nat.reduceBEq, Nat.reduceAdd, Nat.reduceLeDiff, Int.reduceNe, Int.reduceBEq, Int.reduceEq, reduceCtorEq, Nat.reduceMul, Int.reduceLT, Int.reduceLE, Int.reduceToNat]
        refine back (k + 1) _ (by omega) (by omega) ?_
        simp only [← hst]
        refine le_tok2 (by decide) ?_ ?_ ?_ ?_ <;> simp [LX, I, B, D, hwr]
    have e8 : k = 8 := by have := of_decide_eq_false h2; omega
    subst e8
    have hP8 : t.phases.take 8 = t.phases := List.take_of_length_le (by rw [h.phases]; omega)
    rw [hP8]
    generalize hb5 : (b0 && t.phases.all mayPh) = b5 at *
    try simp only [I, B, D, RX, ↓ KW, Nat.reduceBEq, Nat.reduceAdd, Nat.reduceLeDiff, Int.reduceNe, Int.reduceBEq, Int.reduceEq, reduceCtorEq, Nat.reduceMul, Int.reduceLT, Int.reduceLE, Int.reduceToNat, h2]
    clear back A
    refine aw_loop' (fun k : Nat => (⟨[(5, .dat (I k) none), (1, .ptr 4 0), (3, .dat (B b5) none)], [(4, ⟨t.cells, []⟩)], [], 450⟩ : S)) (fun k => (t.groups.getD []).length - k) (fun k => k ≤ (t.groups.getD []).length ∧ ((t.groups.getD []).take k).all mayGr = true) ?_ 0 (by simp) ?_
    rotate_left
    · refine le_tok2 (by decide) ?_ ?_ ?_ ?_ <;> simp [LX, I, B, D]
    rintro k ⟨hk, hall⟩ A back
    have hwr := wrap_succ (k := k) (by omega)
    try simp only [I, B, D, RX, ↓ KW, Nat.reduceBEq, Nat.reduceAdd, Nat.reduceLeDiff, Int.reduceNe, Int.reduceBEq, Int.reduceEq, reduceCtorEq, Nat.reduceMul, Int.reduceLT, Int.reduceLE, Int.reduceToNat, hl, p1, p2, p3, p4, n1, n2, n3, n4, n5, n6, n7, k2, k3, g1, g2, g3, g4, List.drop_zero, List.length_drop, a_len]
    cases h2 : decide ((k : Int) < (((t.groups.getD []).length : Nat) : Int))
    rotate_left
    · have h8 : k < (t.groups.getD []).length := by have := of_decide_eq_true h2; omega
      obtain ⟨x, hx⟩ : ∃ x, (t.groups.getD [])[k]? = some x := ⟨_, List.getElem?_eq_getElem h8⟩
      have hno : ∀ r, (r = x.a ∨ r = x.b) → mayRow r = false → mayT t = false := fun r hr hf => by
        have : mayGr x = false := by unfold mayGr; rcases hr with rfl | rfl <;> simp [hf]
        rw [hmay, all_no hx this, Bool.and_false]
      try simp only [I, B, D, RX, ↓ KW, Nat.reduceBEq, Nat.reduceAdd, Nat.reduceLeDiff, Int.reduceNe, Int.reduceBEq, Int.reduceEq, reduceCtorEq, Nat.reduceMul, Int.reduceLT, Int.reduceLE, Int.reduceToNat, h2]
      refine aw_loop' (fun j : Nat => (⟨[(6, .dat (I j) none), (1, .ptr 4 0), (5, .dat (I k) none), (3, .dat (B b5) none)], [(4, ⟨t.cells, []⟩)], [], 600⟩ : S)) (fun j => 2 - j) (fun j => j ≤ 2 ∧ (1 ≤ j → mayRow x.a = true) ∧ (2 ≤ j → mayRow x.b = true)) ?_ 0 (by simp) ?_
      rotate_left
      · refine le_tok2 (by decide) ?_ ?_ ?_ ?_ <;> simp [LX, I, B, D]
      rintro j ⟨hj, hja, hjb⟩ A2 back2
      have hwr2 := wrap_succ (k := j) (by omega)
      have hcases : j = 0 ∨ j = 1 ∨ j = 2 := by omega
      have hc0 : decide (((0 : Nat) : Int) < 2) = true := rfl
      have hc1 : decide (((1 : Nat) : Int) < 2) = true := rfl
      have hc2 : decide (((2 : Nat) : Int) < 2) = false := rfl
      rcases hcases with rfl | rfl | rfl
      · have hm1 := hno x.a (.inl rfl)
        have hup := fun hl => hU x.a 7 hl
        try simp only [I, B, D, RX, ↓ KW, Nat.reduceBEq, Nat.reduceAdd, Nat.reduceLeDiff, Int.reduceNe, Int.reduceBEq, Int.reduceEq, reduceCtorEq, Nat.reduceMul, Int.reduceLT, Int.reduceLE, Int.reduceToNat, hl, p1, p2, p3, p4, n1, n2, n3, n4, n5, n6, n7, k2, k3, g1, g2, g3, g4, List.drop_zero, List.length_drop, a_len, a_rows, hx, Gr.cells, hc0, hc1]
        refine ⟨by omega, by omega, ?_⟩
        try simp only [I, B, D, RX, ↓ KW, Nat.reduceBEq, Nat.reduceAdd, Nat.reduceLeDiff, Int.reduceNe, Int.reduceBEq, Int.reduceEq, reduceCtorEq, Nat.reduceMul, Int.reduceLT, Int.reduceLE, Int.reduceToNat, hl, p1, p2, p3, p4, n1, n2, n3, n4, n5, n6, n7, k2, k3, g1, g2, g3, g4, List.drop_zero, List.length_drop, a_len, a_rows, hx, Gr.cells]
        cases h3 : decide ((((x.a.getD []).length : Nat) : Int) > 8)
        rotate_left
        · try simp only [I, B, D, RX, ↓ KW, Nat.reduceBEq, Nat.reduceAdd, Nat.reduceLeDiff, Int.reduceNe, Int.reduceBEq, Int.reduceEq, reduceCtorEq, Nat.reduceMul, Int.reduceLT, Int.reduceLE, Int.reduceToNat, h3]
          rw [hm1 (by rw [mayRow, len_no (m := 8) h3]; rfl)]
        have hle : (x.a.getD []).length ≤ 8 := by have := of_decide_eq_false h3; omega
        have hrow : mayRow x.a = (x.a.getD []).all (wI 7) := by
          have : decide ((((x.a.getD []).length : Nat) : Int) ≤ 8) = true := by simp; omega
          rw [mayRow, this, Bool.true_and]; simp
        try simp only [I, B, D, RX, ↓ KW, Nat.reduceBEq, Nat.reduceAdd, Nat.reduceLeDiff, Int.reduceNe, Int.reduceBEq, Int.reduceEq, reduceCtorEq, Nat.reduceMul, Int.reduceLT, Int.reduceLE, Int.reduceToNat, hl, p1, p2, p3, p4, n1, n2, n3, n4, n5, n6, n7, k2, k3, g1, g2, g3, g4, List.drop_zero, List.length_drop, a_len, a_rows, hx, Gr.cells, h3]
        refine ⟨by omega, by omega, ?_⟩
        refine call_is (hup (by omega)) ?_
        rw [← hrow]
        cases hr : mayRow x.a
        · try simp only [I, B, D, RX, ↓ KW, Nat.reduceBEq, Nat.reduceAdd, Nat.reduceLeDiff, Int.reduceNe, Int.reduceBEq, Int.reduceEq, reduceCtorEq, Nat.reduceMul, Int.reduceLT, Int.reduceLE, Int.reduceToNat]
          rw [hm1 hr]
        · try simp only [I, B, D, RX, ↓ KW, Nat.reduceBEq, Nat.reduceAdd, Nat.reduceLeDiff, Int.reduceNe, Int.reduceBEq, Int.reduceEq, reduceCtorEq, Nat.reduceMul, Int.reduceLT, Int.reduceLE, Int.reduceToNat]
          refine back2 1 _ ⟨by omega, fun _ => hr, fun h => by omega⟩ (by omega) ?_
          refine le_tok2 (by decide) ?_ ?_ ?_ ?_ <;> simp [LX, I, B, D, show IntKind.i64.wrap 1 = 1 from rfl]
      · have hm1 := hno x.b (.inr rfl)
        have hup := fun hl => hU x.b 7 hl
        try simp only [I, B, D, RX, ↓ KW, Nat.reduceBEq, Nat.reduceAdd, Nat.reduceLeDiff, Int.reduceNe, Int.reduceBEq, Int.reduceEq, reduceCtorEq, Nat.reduceMul, Int.reduceLT, Int.reduceLE, Int.reduceToNat, hl, p1, p2, p3, p4, n1, n2, n3, n4, n5, n6, n7, k2, k3, g1, g2, g3, g4, List.drop_zero, List.length_drop, a_len, a_rows, hx, Gr.cells, hc0, hc1]
        refine ⟨by omega, by omega, ?_⟩
        try simp only [I, B, D, RX, ↓ KW, Nat.reduceBEq, Nat.reduceAdd, Nat.reduceLeDiff, Int.reduceNe, Int.reduceBEq, Int.reduceEq, reduceCtorEq, Nat.reduceMul, Int.reduceLT, Int.reduceLE, Int.reduceToNat, hl, p1, p2, p3, p4, n1, n2, n3, n4, n5, n6, n7, k2, k3, g1, g2, g3, g4, List.drop_zero, List.length_drop, a_len, a_rows, hx, Gr.cells]
        cases h3 : decide ((((x.b.getD []).length : Nat) : Int) > 8)
        rotate_left
        · try simp only [I, B, D, RX, ↓ KW, Nat.reduceBEq, Nat.reduceAdd, Nat.reduceLeDiff, Int.reduceNe, Int.reduceBEq, Int.reduceEq, reduceCtorEq, Nat.reduceMul, Int.reduceLT, Int.reduceLE, Int.reduceToNat, h3]
          rw [hm1 (by rw [mayRow, len_no (m := 8) h3]; rfl)]
        have hle : (x.b.getD []).length ≤ 8 := by have := of_decide_eq_false h3; omega
        have hrow : mayRow x.b = (x.b.getD []).all (wI 7) := by
          have : decide ((((x.b.getD []).length : Nat) : Int) ≤ 8) = true := by simp; omega
          rw [mayRow, this, Bool.true_and]; simp
        try simp only [I, B, D, RX, ↓ KW, Nat.reduceBEq, Nat.reduceAdd, Nat.reduceLeDiff, Int.reduceNe, Int.reduceBEq, Int.reduceEq, reduceCtorEq, Nat.reduceMul, Int.reduceLT, Int.reduceLE, Int.reduceToNat, hl, p1, p2, p3, p4, n1, n2, n3, n4, n5, n6, n7, k2, k3, g1, g2, g3, g4, List.drop_zero, List.length_drop, a_len, a_rows, hx, Gr.cells, h3]
        refine ⟨by omega, by omega, ?_⟩
        refine call_is (hup (by omega)) ?_
        rw [← hrow]
        cases hr : mayRow x.b
        · try simp only [I, B, D, RX, ↓ KW, Nat.reduceBEq, Nat.reduceAdd, Nat.reduceLeDiff, Int.reduceNe, Int.reduceBEq, Int.reduceEq, reduceCtorEq, Nat.reduceMul, Int.reduceLT, Int.reduceLE, Int.reduceToNat]
          rw [hm1 hr]
        · try simp only [I, B, D, RX, ↓ KW, Nat.reduceBEq, Nat.reduceAdd, Nat.reduceLeDiff, Int.reduceNe, Int.reduceBEq, Int.reduceEq, reduceCtorEq, Nat.reduceMul, Int.reduceLT, Int.reduceLE, Int.reduceToNat]
          refine back2 2 _ ⟨by omega, fun _ => hja (by omega), fun _ => hr⟩ (by omega) ?_
          refine le_tok2 (by decide) ?_ ?_ ?_ ?_ <;> simp [LX, I, B, D, show IntKind.i64.wrap 2 = 2 from rfl]
      · try simp only [I, B, D, RX, ↓ KW, Nat.reduceBEq, Nat.reduceAdd, Nat.reduceLeDiff, Int.reduceNe, Int.reduceBEq, Int.reduceEq, reduceCtorEq, Nat.reduceMul, Int.reduceLT, Int.reduceLE, Int.reduceToNat, hc2]
        have hgr : mayGr x = true := by unfold mayGr; rw [hja (by omega), hjb (by omega)]; rfl
        refine back (k + 1) _ ⟨by omega, by rw [all_take hx, hall, hgr]; rfl⟩ (by omega) ?_
        refine le_tok2 (by decide) ?_ ?_ ?_ ?_ <;> simp [LX, I, B, D, hwr]
    have e8 : k = (t.groups.getD []).length := by have := of_decide_eq_false h2; omega
    subst e8
    rw [List.take_length] at hall
    rw [hall, Bool.and_true] at hmay
    try simp only [I, B, D, RX, ↓ KW, Nat.reduceBEq, Nat.reduceAdd, Nat.reduceLeDiff, Int.reduceNe, Int.reduceBEq, Int.reduceEq, reduceCtorEq, Nat.reduceMul, Int.reduceLT, Int.reduceLE, Int.reduceToNat, h2]
    clear back A
    refine aw_loop' (fun k : Nat => (⟨[(7, .dat (I k) none), (1, .ptr 4 0), (3, .dat (B (b5 && ((t.detectors.getD []).take k).all mayDet)) none)], [(4, ⟨t.cells, []⟩)], [], 700⟩ : S)) (fun k => (t.detectors.getD []).length - k) (fun k => k ≤ (t.detectors.getD []).length) ?_ 0 (by simp) ?_
    rotate_left
    · refine le_tok2 (by decide) ?_ ?_ ?_ ?_ <;> simp [LX, I, B, D]
    rintro k hk A back
    have hwr := wrap_succ (k := k) (by omega)
    try simp only [I, B, D, RX, ↓ KW, Nat.reduceBEq, Nat.reduceAdd, Nat.reduceLeDiff, Int.reduceNe, Int.reduceBEq, Int.reduceEq, reduceCtorEq, Nat.reduceMul, Int.reduceLT, Int.reduceLE, Int.reduceToNat, hl, p1, p2, p3, p4, n1, n2, n3, n4, n5, n6, n7, k2, k3, g1, g2, g3, g4, List.drop_zero, List.length_drop, a_len]
    cases h2 : decide ((k : Int) < (((t.detectors.getD []).length : Nat) : Int))
    rotate_left
    · have h8 : k < (t.detectors.getD []).length := by have := of_decide_eq_true h2; omega
      obtain ⟨x, hx⟩ : ∃ x, (t.detectors.getD [])[k]? = some x := ⟨_, List.getElem?_eq_getElem h8⟩
      have hst := step_all (is := mayDet) (b := b5) hx
      have hpart : partA (Det.cells x) 0 (some 7) = some (.agg x.cells) := rfl
      have hdl : (Det.cells x).length = 7 := rfl
      generalize hbb : (b5 && ((t.detectors.getD []).take k).all mayDet) = bb at *
      cases bb
      · try simp only [I, B, D, RX, ↓ KW, Nat.reduceBEq, Nat.reduceAdd, Nat.reduceLeDiff, Int.reduceNe, Int.reduceBEq, Int.reduceEq, reduceCtorEq, Nat.reduceMul, Int.reduceLT, Int.reduceLE, Int.reduceToNat, hl, p1, p2, p3, p4, n1, n2, n3, n4, n5, n6, n7, k2, k3, g1, g2, g3, g4, List.drop_zero, List.length_drop, a_len, h2]
        refine back (k + 1) _ (by omega) (by omega) ?_
        simp only [← hst]
        refine le_tok2 (by decide) ?_ ?_ ?_ ?_ <;> simp [LX, I, B, D, hwr]
      · try simp only [I, B, D, RX, ↓ KW, Nat.reduceBEq, Nat.reduceAdd, Nat.reduceLeDiff, Int.reduceNe, Int.reduceBEq, Int.reduceEq, reduceCtorEq, Nat.reduceMul, Int.reduceLT, Int.reduceLE, Int.reduceToNat, hl, p1, p2, p3, p4, n1, n2, n3, n4, n5, n6, n7, k2, k3, g1, g2, g3, g4, List.drop_zero, List.length_drop, a_len, h2, a_rows, hx, hpart, hdl]
        refine ⟨by omega, ?_⟩
        refine call_is (hD x (hfw x (List.mem_of_getElem? hx))) ?_
        try simp only [I, B, D, RX, ↓ KW, Nat.reduceBEq, Nat.reduceAdd, Nat.reduceLeDiff, Int.reduceNe, Int.reduceBEq, Int.reduceEq, reduceCtorEq, Nat.reduceMul, Int.reduceLT, Int.reduceLE, Int.reduceToNat]
        refine back (k + 1) _ (by omega) (by omega) ?_
        simp only [← hst]
        refine le_tok2 (by decide) ?_ ?_ ?_ ?_ <;> simp [LX, I, B, D, hwr]
    have e8 : k = (t.detectors.getD []).length := by have := of_decide_eq_false h2; omega
    subst e8
    rw [List.take_length]
    generalize hb6 : (b5 && (t.detectors.getD []).all mayDet) = b6 at *
    try simp only [I, B, D, RX, ↓ KW, Nat.reduceBEq, Nat.reduceAdd, Nat.reduceLeDiff, Int.reduceNe, Int.reduceBEq, Int.reduceEq, reduceCtorEq, Nat.reduceMul, Int.reduceLT, Int.reduceLE, Int.reduceToNat, h2]
    clear back A
    refine aw_loop' (fun k : Nat => (⟨[(8, .dat (I k) none), (1, .ptr 4 0), (3, .dat (B (b6 && ((t.rails.getD []).take k).all mayRl)) none)], [(4, ⟨t.cells, []⟩)], [], 800⟩ : S)) (fun k => (t.rails.getD []).length - k) (fun k => k ≤ (t.rails.getD []).length) ?_ 0 (by simp) ?_
    rotate_left
    · refine le_tok2 (by decide) ?_ ?_ ?_ ?_ <;> simp [LX, I, B, D]
    rintro k hk A back
    have hwr := wrap_succ (k := k) (by omega)
    try simp only [I, B, D, RX, ↓ KW, Nat.reduceBEq, Nat.reduceAdd, Nat.reduceLeDiff, Int.reduceNe, Int.reduceBEq, Int.reduceEq, reduceCtorEq, Nat.reduceMul, Int.reduceLT, Int.reduceLE, Int.reduceToNat, hl, p1, p2, p3, p4, n1, n2, n3, n4, n5, n6, n7, k2, k3, g1, g2, g3, g4, List.drop_zero, List.length_drop, a_len]
    cases h2 : decide ((k : Int) < (((t.rails.getD []).length : Nat) : Int))
    rotate_left
    · have h8 : k < (t.rails.getD []).length := by have := of_decide_eq_true h2; omega
      obtain ⟨x, hx⟩ : ∃ x, (t.rails.getD [])[k]? = some x := ⟨_, List.getElem?_eq_getElem h8⟩
      have hst := step_all (is := mayRl) (b := b6) hx
      have hpart : partA (Rl.cells x) 0 (some 11) = some (.agg x.cells) := rfl
      have hdl : (Rl.cells x).length = 11 := rfl
      generalize hbb : (b6 && ((t.rails.getD []).take k).all mayRl) = bb at *
      cases bb
      · try simp only [I, B, D, RX, ↓ KW, Nat.reduceBEq, Nat.reduceAdd, Nat.reduceLeDiff, Int.reduceNe, Int.reduceBEq, Int.reduceEq, reduceCtorEq, Nat.reduceMul, Int.reduceLT, Int.reduceLE, Int.reduceToNat, hl, p1, p2, p3, p4, n1, n2, n3, n4, n5, n6, n7, k2, k3, g1, g2, g3, g4, List.drop_zero, List.length_drop, a_len, h2]
        refine back (k + 1) _ (by omega) (by omega) ?_
        simp only [← hst]
        refine le_tok2 (by decide) ?_ ?_ ?_ ?_ <;> simp [LX, I, B, D, hwr]
      · try simp only [I, B, D, RX, ↓ KW, Nat.reduceBEq, Nat.reduceAdd, Nat.reduceLeDiff, Int.reduceNe, Int.reduceBEq, Int.reduceEq, reduceCtorEq, Nat.reduceMul, Int.reduceLT, Int.reduceLE, Int.reduceToNat, hl, p1, p2, p3, p4, n1, n2, n3, n4, n5, n6, n7, k2, k3, g1, g2, g3, g4, List.drop_zero, List.length_drop, a_len, h2, a_rows, hx, hpart, hdl]
        refine ⟨by omega, ?_⟩
        refine call_is (hR x) ?_
        try simp only [I, B, D, RX, ↓ KW, Nat.reduceBEq, Nat.reduceAdd, Nat.reduceLeDiff, Int.reduceNe, Int.reduceBEq, Int.reduceEq, reduceCtorEq, Nat.reduceMul, Int.reduceLT, Int.reduceLE, Int.reduceToNat]
        refine back (k + 1) _ (by omega) (by omega) ?_
        simp only [← hst]
        refine le_tok2 (by decide) ?_ ?_ ?_ ?_ <;> simp [LX, I, B, D, hwr]
    have e8 : k = (t.rails.getD []).length := by have := of_decide_eq_false h2; omega
    subst e8
    rw [List.take_length]
    generalize hb7 : (b6 && (t.rails.getD []).all mayRl) = b7 at *
    try simp only [I, B, D, RX, ↓ KW, Nat.reduceBEq, Nat.reduceAdd, Nat.reduceLeDiff, Int.reduceNe, Int.reduceBEq, Int.reduceEq, reduceCtorEq, Nat.reduceMul, Int.reduceLT, Int.reduceLE, Int.reduceToNat, h2]
    clear back A
    refine aw_loop' (fun k : Nat => (⟨[(9, .dat (I k) none), (1, .ptr 4 0), (3, .dat (B (b7 && ((t.buses.getD []).take k).all mayBs)) none)], [(4, ⟨t.cells, []⟩)], [], 900⟩ : S)) (fun k => (t.buses.getD []).length - k) (fun k => k ≤ (t.buses.getD []).length) ?_ 0 (by simp) ?_
    rotate_left
    · refine le_tok2 (by decide) ?_ ?_ ?_ ?_ <;> simp [LX, I, B, D]
    rintro k hk A back
    have hwr := wrap_succ (k := k) (by omega)
    try simp only [I, B, D, RX, ↓ KW, Nat.reduceBEq, Nat.reduceAdd, Nat.reduceLeDiff, Int.reduceNe, Int.reduceBEq, Int.reduceEq, reduceCtorEq, Nat.reduceMul, Int.reduceLT, Int.reduceLE, Int.reduceToNat, hl, p1, p2, p3, p4, n1, n2, n3, n4, n5, n6, n7, k2, k3, g1, g2, g3, g4, List.drop_zero, List.length_drop, a_len]
    cases h2 : decide ((k : Int) < (((t.buses.getD []).length : Nat) : Int))
    rotate_left
    · have h8 : k < (t.buses.getD []).length := by have := of_decide_eq_true h2; omega
      obtain ⟨x, hx⟩ : ∃ x, (t.buses.getD [])[k]? = some x := ⟨_, List.getElem?_eq_getElem h8⟩
      have hst := step_all (is := mayBs) (b := b7) hx
      have u1 := hU (some [x.set]) 255 (by simp)
      have u2 := hT (some [x.lock]) (by simp)
      simp only [Option.getD_some] at u1 u2
      rw [mayBs] at hst
      generalize [x.set].all (wI 255) = v1 at *
      generalize [x.lock].all (wI 9999) = v2 at *
      generalize hbb : (b7 && ((t.buses.getD []).take k).all mayBs) = bb at *
      cases bb
      · try simp only [I, B, D, RX, ↓ KW, Nat.reduceBEq, Nat.reduceAdd, Nat.reduceLeDiff, Int.reduceNe, Int.reduceBEq, Int.reduceEq, reduceCtorEq, Nat.reduceMul, Int.reduceLT, Int.reduceLE, Int.reduceToNat, hl, p1, p2, p3, p4, n1, n2, n3, n4, n5, n6, n7, k2, k3, g1, g2, g3, g4, List.drop_zero, List.length_drop, a_len, h2]
        refine back (k + 1) _ (by omega) (by omega) ?_
        simp only [← hst]
        refine le_tok2 (by decide) ?_ ?_ ?_ ?_ <;> simp [LX, I, B, D, hwr]
      · try simp only [I, B, D, RX, ↓ KW, Nat.reduceBEq, Nat.reduceAdd, Nat.reduceLeDiff, Int.reduceNe, Int.reduceBEq, Int.reduceEq, reduceCtorEq, Nat.reduceMul, Int.reduceLT, Int.reduceLE, Int.reduceToNat, hl, p1, p2, p3, p4, n1, n2, n3, n4, n5, n6, n7, k2, k3, g1, g2, g3, g4, List.drop_zero, List.length_drop, a_len, h2, a_rows, hx, Bs.cells]
        refine ⟨by omega, ?_⟩
        refine call_is u1 ?_
        cases v1
        · try simp only [I, B, D, RX, ↓ KW, Nat.reduceBEq, Nat.reduceAdd, Nat.reduceLeDiff, Int.reduceNe, Int.reduceBEq, Int.reduceEq, reduceCtorEq, Nat.reduceMul, Int.reduceLT, Int.reduceLE, Int.reduceToNat]
          refine back (k + 1) _ (by omega) (by omega) ?_
          simp only [← hst]
          refine le_tok2 (by decide) ?_ ?_ ?_ ?_ <;> simp [LX, I, B, D, hwr]
        · try simp only [I, B, D, RX, ↓ KW, Nat.reduceBEq, Nat.reduceAdd, Nat.reduceLeDiff, Int.reduceNe, Int.reduceBEq, Int.reduceEq, reduceCtorEq, Nat.reduceMul, Int.reduceLT, Int.reduceLE, Int.reduceToNat, hl, p1, p2, p3, p4, n1, n2, n3, n4, n5, n6, n7, k2, k3, g1, g2, g3, g4, List.drop_zero, List.length_drop, a_len, a_rows, hx, Bs.cells]
          refine ⟨by omega, ?_⟩
          refine call_is u2 ?_
          try simp only [I, B, D, RX, ↓ KW, Nat.reduceBEq, Nat.reduceAdd, Nat.reduceLeDiff, Int.reduceNe, Int.reduceBEq, Int.reduceEq, reduceCtorEq, Nat.reduceMul, Int.reduceLT, Int.reduceLE, Int.reduceToNat]
          refine back (k + 1) _ (by omega) (by omega) ?_
          simp only [← hst]
          refine le_tok2 (by decide) ?_ ?_ ?_ ?_ <;> simp [LX, I, B, D, hwr]
    have e8 : k = (t.buses.getD []).length := by have := of_decide_eq_false h2; omega
    subst e8
    rw [List.take_length]
    try simp only [I, B, D, RX, ↓ KW, Nat.reduceBEq, Nat.reduceAdd, Nat.reduceLeDiff, Int.reduceNe, Int.reduceBEq, Int.reduceEq, reduceCtorEq, Nat.reduceMul, Int.reduceLT, Int.reduceLE, Int.reduceToNat, h2]
    rw [hmay]
  try simp only [I, B, D, RX, ↓ KW, Nat.reduceBEq, Nat.reduceAdd, Nat.reduceLeDiff, Int.reduceNe, Int.reduceBEq, Int.reduceEq, reduceCtorEq, Nat.reduceMul, Int.reduceLT, Int.reduceLE, Int.reduceToNat, hl, p1, p2, p3, p4, n1, n2, n3, n4, n5, n6, n7, k2, k3, g1, g2, g3, g4, List.drop_zero, List.length_drop, a_len]
  refine ⟨by omega, ?_⟩
  refine call_is c3 ?_
  cases b3
  · try simp only [I, B, D, RX, ↓ KW, Nat.reduceBEq, Nat.reduceAdd, Nat.reduceLeDiff, Int.reduceNe, Int.reduceBEq, Int.reduceEq, reduceCtorEq, Nat.reduceMul, Int.reduceLT, Int.reduceLE, Int.reduceToNat, hl, p1, p2, p3, p4, n1, n2, n3, n4, n5, n6, n7, k2, k3, g1, g2, g3, g4, List.drop_zero, List.length_drop, a_len]
    obtain ⟨b0, hb0⟩ : ∃ b0, b0 = (((true && true) && false) && b4) := ⟨_, rfl⟩
    rw [← hb0] at hmay
    refine aw_loop' (fun k : Nat => (⟨[(4, .dat (I k) none), (3, .dat (B (b0 && (t.phases.take k).all mayPh)) none), (1, .rp t.cells)], [], [], 400⟩ : S)) (fun k => 8 - k) (fun k => k ≤ 8) ?_ 0 (by omega) ?_
    rotate_left
    · refine le_tok2 (by decide) ?_ ?_ ?_ ?_ <;> simp [LX, I, B, D, hb0]
    intro k hk A back
    have hwr := wrap_succ (k := k) (by omega)
    try simp only [I, B, D, RX, ↓ KW, Nat.reduceBEq, Nat.reduceAdd, Nat.reduceLeDiff, Int.reduceNe, Int.reduceBEq, Int.reduceEq, reduceCtorEq, Nat.reduceMul, Int.reduceLT, Int.reduceLE, Int.reduceToNat]
    cases h2 : decide ((k : Int) < 8)
    rotate_left
    · have h8 : k < 8 := by have := of_decide_eq_true h2; omega
      have hx := h.ph_get h8
      have hxx : 0 ≤ (k : Int) ∧ (k : Int) < (8 : Nat) := by omega
      have hph := Tb.phase_part hx
      have hphd : partA (t.cells.drop (k * 13)) 0 (some 13) = some (.agg (phAt t k).cells) := part_drop hph
      have hst := step_all (is := mayPh) (b := b0) hx
      generalize hbb : (b0 && (t.phases.take k).all mayPh) = bb at *
      cases bb
      · try simp only [I, B, D, RX, ↓ KW, Nat.reduceBEq, Nat.reduceAdd, Nat.reduceLeDiff, Int.reduceNe, Int.reduceBEq, Int.reduceEq, reduceCtorEq, Nat.reduceMul, Int.reduceLT, Int.reduceLE, Int.reduceToNat, hl, p1, p2, p3, p4, n1, n2, n3, n4, n5, n6, n7, k2, k3, g1, g2, g3, g4, List.drop_zero, List.length_drop, a_len, h2]
        refine back (k + 1) _ (by omega) (by omega) ?_
        simp only [← hst]
        refine le_tok2 (by decide) ?_ ?_ ?_ ?_ <;> simp [LX, I, B, D, hwr]
      · try simp only [I, B, D, RX, ↓ KW, Nat.reduceBEq, Nat.reduceAdd, Nat.reduceLeDiff, Int.reduceNe, Int.reduceBEq, Int.reduceEq, reduceCtorEq, Nat.reduceMul, Int.reduceLT, Int.reduceLE, Int.reduceToNat, hl, p1, p2, p3, p4, n1, n2, n3, n4, n5, n6, n7, k2, k3, g1, g2, g3, g4, List.drop_zero, List.length_drop, a_len, h2, hxx, hph, hphd]
        refine call_is (hP (phAt t k)) ?_
        try simp only [I, B, D, RX, ↓ KW, Nat.reduceBEq, Nat.reduceAdd, Nat.reduceLeDiff, Int.reduceNe, Int.reduceBEq, Int.reduceEq, reduceCtorEq, Nat.reduceMul, Int.reduceLT, Int.reduceLE, Int.reduceToNat]
        refine back (k + 1) _ (by omega) (by omega) ?_
        simp only [← hst]
        refine le_tok2 (by decide) ?_ ?_ ?_ ?_ <;> simp [LX, I, B, D, hwr]
    have e8 : k = 8 := by have := of_decide_eq_false h2; omega
    subst e8
    have hP8 : t.phases.take 8 = t.phases := List.take_of_length_le (by rw [h.phases]; omega)
    rw [hP8]
    generalize hb5 : (b0 && t.phases.all mayPh) = b5 at *
    try simp only [I, B, D, RX, ↓ KW, Nat.reduceBEq, Nat.reduceAdd, Nat.reduceLeDiff, Int.reduceNe, Int.reduceBEq, Int.reduceEq, reduceCtorEq, Nat.reduceMul, Int.reduceLT, Int.reduceLE, Int.reduceToNat, h2]
    clear back A
    refine aw_loop' (fun k : Nat => (⟨[(5, .dat (I k) none), (1, .rp t.cells), (3, .dat (B b5) none)], [], [], 450⟩ : S)) (fun k => (t.groups.getD []).length - k) (fun k => k ≤ (t.groups.getD []).length ∧ ((t.groups.getD []).take k).all mayGr = true) ?_ 0 (by simp) ?_
    rotate_left
    · refine le_tok2 (by decide) ?_ ?_ ?_ ?_ <;> simp [LX, I, B, D]
    rintro k ⟨hk, hall⟩ A back
    have hwr := wrap_succ (k := k) (by omega)
    try simp only [I, B, D, RX, ↓ KW, Nat.reduceBEq, Nat.reduceAdd, Nat.reduceLeDiff, Int.reduceNe, Int.reduceBEq, Int.reduceEq, reduceCtorEq, Nat.reduceMul, Int.reduceLT, Int.reduceLE, Int.reduceToNat, hl, p1, p2, p3, p4, n1, n2, n3, n4, n5, n6, n7, k2, k3, g1, g2, g3, g4, List.drop_zero, List.length_drop, a_len]
    cases h2 : decide ((k : Int) < (((t.groups.getD []).length : Nat) : Int))
    rotate_left
    · have h8 : k < (t.groups.getD []).length := by have := of_decide_eq_true h2; omega
      obtain ⟨x, hx⟩ : ∃ x, (t.groups.getD [])[k]? = some x := ⟨_, List.getElem?_eq_getElem h8⟩
      have hno : ∀ r, (r = x.a ∨ r = x.b) → mayRow r = false → mayT t = false := fun r hr hf => by
        have : mayGr x = false := by unfold mayGr; rcases hr with rfl | rfl <;> simp [hf]
        rw [hmay, all_no hx this, Bool.and_false]
      try simp only [I, B, D, RX, ↓ KW, Nat.reduceBEq, Nat.reduceAdd, Nat.reduceLeDiff, Int.reduceNe, Int.reduceBEq, Int.reduceEq, reduceCtorEq, Nat.reduceMul, Int.reduceLT, Int.reduceLE, Int.reduceToNat, h2]
      refine aw_loop' (fun j : Nat => (⟨[(6, .dat (I j) none), (1, .rp t.cells), (5, .dat (I k) none), (3, .dat (B b5) none)], [], [], 600⟩ : S)) (fun j => 2 - j) (fun j => j ≤ 2 ∧ (1 ≤ j → mayRow x.a = true) ∧ (2 ≤ j → mayRow x.b = true)) ?_ 0 (by simp) ?_
      rotate_left
      · refine le_tok2 (by decide) ?_ ?_ ?_ ?_ <;> simp [LX, I, B, D]
      rintro j ⟨hj, hja, hjb⟩ A2 back2
      have hwr2 := wrap_succ (k := j) (by omega)
      have hcases : j = 0 ∨ j = 1 ∨ j = 2 := by omega
      have hc0 : decide (((0 : Nat) : Int) < 2) = true := rfl
      have hc1 : decide (((1 : Nat) : Int) < 2) = true := rfl
      have hc2 : decide (((2 : Nat) : Int) < 2) = false := rfl
      rcases hcases with rfl | rfl | rfl
      · have hm1 := hno x.a (.inl rfl)
        have hup := fun hl => hU x.a 7 hl
        try simp only [I, B, D, RX, ↓ KW, Nat.reduceBEq, Nat.reduceAdd, Nat.reduceLeDiff, Int.reduceNe, Int.reduceBEq, Int.reduceEq, reduceCtorEq, Nat.reduceMul, Int.reduceLT, Int.reduceLE, Int.reduceToNat, hl, p1, p2, p3, p4, n1, n2, n3, n4, n5, n6, n7, k2, k3, g1, g2, g3, g4, List.drop_zero, List.length_drop, a_len, a_rows, hx, Gr.cells, hc0, hc1]
        refine ⟨by omega, by omega, ?_⟩
        try simp only [I, B, D, RX, ↓ KW, Nat.reduceBEq, Nat.reduceAdd, Nat.reduceLeDiff, Int.reduceNe, Int.reduceBEq, Int.reduceEq, reduceCtorEq, Nat.reduceMul, Int.reduceLT, Int.reduceLE, Int.reduceToNat, hl, p1, p2, p3, p4, n1, n2, n3, n4, n5, n6, n7, k2, k3, g1, g2, g3, g4, List.drop_zero, List.length_drop, a_len, a_rows, hx, Gr.cells]
        cases h3 : decide ((((x.a.getD []).length : Nat) : Int) > 8)
        rotate_left
        · try simp only [I, B, D, RX, ↓ KW, Nat.reduceBEq, Nat.reduceAdd, Nat.reduceLeDiff, Int.reduceNe, Int.reduceBEq, Int.reduceEq, reduceCtorEq, Nat.reduceMul, Int.reduceLT, Int.reduceLE, Int.reduceToNat, h3]
          rw [hm1 (by rw [mayRow, len_no (m := 8) h3]; rfl)]
        have hle : (x.a.getD []).length ≤ 8 := by have := of_decide_eq_false h3; omega
        have hrow : mayRow x.a = (x.a.getD []).all (wI 7) := by
          have : decide ((((x.a.getD []).length : Nat) : Int) ≤ 8) = true := by simp; omega
          rw [mayRow, this, Bool.true_and]; simp
        try simp only [I, B, D, RX, ↓ KW, Nat.reduceBEq, Nat.reduceAdd, Nat.reduceLeDiff, Int.reduceNe, Int.reduceBEq, Int.reduceEq, reduceCtorEq, Nat.reduceMul, Int.reduceLT, Int.reduceLE, Int.reduceToNat, hl, p1, p2, p3, p4, n1, n2, n3, n4, n5, n6, n7, k2, k3, g1, g2, g3, g4, List.drop_zero, List.length_drop, a_len, a_rows, hx, Gr.cells, h3]
        refine ⟨by omega, by omega, ?_⟩
        refine call_is (hup (by omega)) ?_
        rw [← hrow]
        cases hr : mayRow x.a
        · try simp only [I, B, D, RX, ↓ KW, Nat.reduceBEq, Nat.reduceAdd, Nat.reduceLeDiff, Int.reduceNe, Int.reduceBEq, Int.reduceEq, reduceCtorEq, Nat.reduceMul, Int.reduceLT, Int.reduceLE, Int.reduceToNat]
          rw [hm1 hr]
        · try simp only [I, B, D, RX, ↓ KW, Nat.reduceBEq, Nat.reduceAdd, Nat.reduceLeDiff, Int.reduceNe, Int.reduceBEq, Int.reduceEq, reduceCtorEq, Nat.reduceMul, Int.reduceLT, Int.reduceLE, Int.reduceToNat]
          refine back2 1 _ ⟨by omega, fun _ => hr, fun h => by omega⟩ (by omega) ?_
          refine le_tok2 (by decide) ?_ ?_ ?_ ?_ <;> simp [LX, I, B, D, show IntKind.i64.wrap 1 = 1 from rfl]
      · have hm1 := hno x.b (.inr rfl)
        have hup := fun hl => hU x.b 7 hl
        try simp only [I, B, D, RX, ↓ KW, Nat.reduceBEq, Nat.reduceAdd, Nat.reduceLeDiff, Int.reduceNe, Int.reduceBEq, Int.reduceEq, reduceCtorEq, Nat.reduceMul, Int.reduceLT, Int.reduceLE, Int.reduceToNat, hl, p1, p2, p3, p4, n1, n2, n3, n4, n5, n6, n7, k2, k3, g1, g2, g3, g4, List.drop_zero, List.length_drop, a_len, a_rows, hx, Gr.cells, hc0, hc1]
        refine ⟨by omega, by omega, ?_⟩
        try simp only [I, B, D, RX, ↓ KW, Nat.reduceBEq, Nat.reduceAdd, Nat.reduceLeDiff, Int.reduceNe, Int.reduceBEq, Int.reduceEq, reduceCtorEq, Nat.reduceMul, Int.reduceLT, Int.reduceLE, Int.reduceToNat, hl, p1, p2, p3, p4, n1, n2, n3, n4, n5, n6, n7, k2, k3, g1, g2, g3, g4, List.drop_zero, List.length_drop, a_len, a_rows, hx, Gr.cells]
        cases h3 : decide ((((x.b.getD []).length : Nat) : Int) > 8)
        rotate_left
        · try simp only [I, B, D, RX, ↓ KW, Nat.reduceBEq, Nat.reduceAdd, Nat.reduceLeDiff, Int.reduceNe, Int.reduceBEq, Int.reduceEq, reduceCtorEq, Nat.reduceMul, Int.reduceLT, Int.reduceLE, Int.reduceToNat, h3]
          rw [hm1 (by rw [mayRow, len_no (m := 8) h3]; rfl)]
        have hle : (x.b.getD []).length ≤ 8 := by have := of_decide_eq_false h3; omega
        have hrow : mayRow x.b = (x.b.getD []).all (wI 7) := by
          have : decide ((((x.b.getD []).length : Nat) : Int) ≤ 8) = true := by simp; omega
          rw [mayRow, this, Bool.true_and]; simp
        try simp only [I, B, D, RX, ↓ KW, Nat.reduceBEq, Nat.reduceAdd, Nat.reduceLeDiff, Int.reduceNe, Int.reduceBEq, Int.reduceEq, reduceCtorEq, Nat.reduceMul, Int.reduceLT, Int.reduceLE, Int.reduceToNat, hl, p1, p2, p3, p4, n1, n2, n3, n4, n5, n6, n7, k2, k3, g1, g2, g3, g4, List.drop_zero, List.length_drop, a_len, a_rows, hx, Gr.cells, h3]
        refine ⟨by omega, by omega, ?_⟩
        refine call_is (hup (by omega)) ?_
        rw [← hrow]
        cases hr : mayRow x.b
        · try simp only [I, B, D, RX, ↓ KW, Nat.reduceBEq, Nat.reduceAdd, Nat.reduceLeDiff, Int.reduceNe, Int.reduceBEq, Int.reduceEq, reduceCtorEq, Nat.reduceMul, Int.reduceLT, Int.reduceLE, Int.reduceToNat]
          rw [hm1 hr]
        · try simp only [I, B, D, RX, ↓ KW, Nat.reduceBEq, Nat.reduceAdd, Nat.reduceLeDiff, Int.reduceNe, Int.reduceBEq, Int.reduceEq, reduceCtorEq, Nat.reduceMul, Int.reduceLT, Int.reduceLE, Int.reduceToNat]
          refine back2 2 _ ⟨by omega, fun _ => hja (by omega), fun _ => hr⟩ (by omega) ?_
          refine le_tok2 (by decide) ?_ ?_ ?_ ?_ <;> simp [LX, I, B, D, show IntKind.i64.wrap 2 = 2 from rfl]
      · try simp only [I, B, D, RX, ↓ KW, Nat.reduceBEq, Nat.reduceAdd, Nat.reduceLeDiff, Int.reduceNe, Int.reduceBEq, Int.reduceEq, reduceCtorEq, Nat.reduceMul, Int.reduceLT, Int.reduceLE, Int.reduceToNat, hc2]
        have hgr : mayGr x = true := by unfold mayGr; rw [hja (by omega), hjb (by omega)]; rfl
        refine back (k + 1) _ ⟨by omega, by rw [all_take hx, hall, hgr]; rfl⟩ (by omega) ?_
        refine le_tok2 (by decide) ?_ ?_ ?_ ?_ <;> simp [LX, I, B, D, hwr]
    have e8 : k = (t.groups.getD []).length := by have := of_decide_eq_false h2; omega
    subst e8
    rw [List.take_length] at hall
    rw [hall, Bool.and_true] at hmay
    try simp only [I, B, D, RX, ↓ KW, Nat.reduceBEq, Nat.reduceAdd, Nat.reduceLeDiff, Int.reduceNe, Int.reduceBEq, Int.reduceEq, reduceCtorEq, Nat.reduceMul, Int.reduceLT, Int.reduceLE, Int.reduceToNat, h2]
    clear back A
    refine aw_loop' (fun k : Nat => (⟨[(7, .dat (I k) none), (1, .rp t.cells), (3, .dat (B (b5 && ((t.detectors.getD []).take k).all mayDet)) none)], [], [], 700⟩ : S)) (fun k => (t.detectors.getD []).length - k) (fun k => k ≤ (t.detectors.getD []).length) ?_ 0 (by simp) ?_
    rotate_left
    · refine le_tok2 (by decide) ?_ ?_ ?_ ?_ <;> simp [LX, I, B, D]
    rintro k hk A back
    have hwr := wrap_succ (k := k) (by omega)
    try simp only [I, B, D, RX, ↓ KW, Nat.reduceBEq, Nat.reduceAdd, Nat.reduceLeDiff, Int.reduceNe, Int.reduceBEq, Int.reduceEq, reduceCtorEq, Nat.reduceMul, Int.reduceLT, Int.reduceLE, Int.reduceToNat, hl, p1, p2, p3, p4, n1, n2, n3, n4, n5, n6, n7, k2, k3, g1, g2, g3, g4, List.drop_zero, List.length_drop, a_len]
    cases h2 : decide ((k : Int) < (((t.detectors.getD []).length : Nat) : Int))
    rotate_left
    · have h8 : k < (t.detectors.getD []).length := by have := of_decide_eq_true h2; omega
      obtain ⟨x, hx⟩ : ∃ x, (t.detectors.getD [])[k]? = some x := ⟨_, List.getElem?_eq_getElem h8⟩
      have hst := step_all (is := mayDet) (b := b5) hx
      have hpart : partA (Det.cells x) 0 (some 7) = some (.agg x.cells) := rfl
      have hdl : (Det.cells x).length = 7 := rfl
      generalize hbb : (b5 && ((t.detectors.getD []).take k).all mayDet) = bb at *
      cases bb
      · try simp only [I, B, D, RX, ↓ KW, Nat.reduceBEq, Nat.reduceAdd, Nat.reduceLeDiff, Int.reduceNe, Int.reduceBEq, Int.reduceEq, reduceCtorEq, Nat.reduceMul, Int.reduceLT, Int.reduceLE, Int.reduceToNat, hl, p1, p2, p3, p4, n1, n2, n3, n4, n5, n6, n7, k2, k3, g1, g2, g3, g4, List.drop_zero, List.length_drop, a_len, h2]
        refine back (k + 1) _ (by omega) (by omega) ?_
        simp only [← hst]
        refine le_tok2 (by decide) ?_ ?_ ?_ ?_ <;> simp [LX, I, B, D, hwr]
      · try simp only [I, B, D, RX, ↓ KW, Nat.reduceBEq, Nat.reduceAdd, Nat.reduceLeDiff, Int.reduceNe, Int.reduceBEq, Int.reduceEq, reduceCtorEq, Nat.reduceMul, Int.reduceLT, Int.reduceLE, Int.reduceToNat, hl, p1, p2, p3, p4, n1, n2, n3, n4, n5, n6, n7, k2, k3, g1, g2, g3, g4, List.drop_zero, List.length_drop, a_len, h2, a_rows, hx, hpart, hdl]
        refine ⟨by omega, ?_⟩
        refine call_is (hD x (hfw x (List.mem_of_getElem? hx))) ?_
        try simp only [I, B, D, RX, ↓ KW, Nat.reduceBEq, Nat.reduceAdd, Nat.reduceLeDiff, Int.reduceNe, Int.reduceBEq, Int.reduceEq, reduceCtorEq, Nat.reduceMul, Int.reduceLT, Int.reduceLE, Int.reduceToNat]
        refine back (k + 1) _ (by omega) (by omega) ?_
        simp only [← hst]
        refine le_tok2 (by decide) ?_ ?_ ?_ ?_ <;> simp [LX, I, B, D, hwr]
    have e8 : k = (t.detectors.getD []).length := by have := of_decide_eq_false h2; omega
    subst e8
    rw [List.take_length]
    generalize hb6 : (b5 && (t.detectors.getD []).all mayDet) = b6 at *
    try simp only [I, B, D, RX, ↓ KW, Nat.reduceBEq, Nat.reduceAdd, Nat.reduceLeDiff, Int.reduceNe, Int.reduceBEq, Int.reduceEq, reduceCtorEq, Nat.reduceMul, Int.reduceLT, Int.reduceLE, Int.reduceToNat, h2]
    clear back A
    refine aw_loop' (fun k : Nat => (⟨[(8, .dat (I k) none), (1, .rp t.cells), (3, .dat (B (b6 && ((t.rails.getD []).take k).all mayRl)) none)], [], [], 800⟩ : S)) (fun k => (t.rails.getD []).length - k) (fun k => k ≤ (t.rails.getD []).length) ?_ 0 (by simp) ?_
    rotate_left
    · refine le_tok2 (by decide) ?_ ?_ ?_ ?_ <;> simp [LX, I, B, D]
    rintro k hk A back
    have hwr := wrap_succ (k := k) (by omega)
    try simp only [I, B, D, RX, ↓ KW, Nat.reduceBEq, Nat.reduceAdd, Nat.reduceLeDiff, Int.reduceNe, Int.reduceBEq, Int.reduceEq, reduceCtorEq, Nat.reduceMul, Int.reduceLT, Int.reduceLE, Int.reduceToNat, hl, p1, p2, p3, p4, n1, n2, n3, n4, n5, n6, n7, k2, k3, g1, g2, g3, g4, List.drop_zero, List.length_drop, a_len]
    cases h2 : decide ((k : Int) < (((t.rails.getD []).length : Nat) : Int))
    rotate_left
    · have h8 : k < (t.rails.getD []).length := by have := of_decide_eq_true h2; omega
      obtain ⟨x, hx⟩ : ∃ x, (t.rails.getD [])[k]? = some x := ⟨_, List.getElem?_eq_getElem h8⟩
      have hst := step_all (is := mayRl) (b := b6) hx
      have hpart : partA (Rl.cells x) 0 (some 11) = some (.agg x.cells) := rfl
      have hdl : (Rl.cells x).length = 11 := rfl
      generalize hbb : (b6 && ((t.rails.getD []).take k).all mayRl) = bb at *
      cases bb
      · try simp only [I, B, D, RX, ↓ KW, Nat.reduceBEq, Nat.reduceAdd, Nat.reduceLeDiff, Int.reduceNe, Int.reduceBEq, Int.reduceEq, reduceCtorEq, Nat.reduceMul, Int.reduceLT, Int.reduceLE, Int.reduceToNat, hl, p1, p2, p3, p4, n1, n2, n3, n4, n5, n6, n7, k2, k3, g1, g2, g3, g4, List.drop_zero, List.length_drop, a_len, h2]
        refine back (k + 1) _ (by omega) (by omega) ?_
        simp only [← hst]
        refine le_tok2 (by decide) ?_ ?_ ?_ ?_ <;> simp [LX, I, B, D, hwr]
      · try simp only [I, B, D, RX, ↓ KW, Nat.reduceBEq, Nat.reduceAdd, Nat.reduceLeDiff, Int.reduceNe, Int.reduceBEq, Int.reduceEq, reduceCtorEq, Nat.reduceMul, Int.reduceLT, Int.reduceLE, Int.reduceToNat, hl, p1, p2, p3, p4, n1, n2, n3, n4, n5, n6, n7, k2, k3, g1, g2, g3, g4, List.drop_zero, List.length_drop, a_len, h2, a_rows, hx, hpart, hdl]
        refine ⟨by omega, ?_⟩
        refine call_is (hR x) ?_
        try simp only [I, B, D, RX, ↓ KW, Nat.reduceBEq, Nat.reduceAdd, Nat.reduceLeDiff, Int.reduceNe, Int.reduceBEq, Int.reduceEq, reduceCtorEq, Nat.reduceMul, Int.reduceLT, Int.reduceLE, Int.reduceToNat]
        refine back (k + 1) _ (by omega) (by omega) ?_
        simp only [← hst]
        refine le_tok2 (by decide) ?_ ?_ ?_ ?_ <;> simp [LX, I, B, D, hwr]
    have e8 : k = (t.rails.getD []).length := by have := of_decide_eq_false h2; omega
    subst e8
    rw [List.take_length]
    generalize hb7 : (b6 && (t.rails.getD []).all mayRl) = b7 at *
    try simp only [I, B, D, RX, ↓ KW, Nat.reduceBEq, Nat.reduceAdd, Nat.reduceLeDiff, Int.reduceNe, Int.reduceBEq, Int.reduceEq, reduceCtorEq, Nat.reduceMul, Int.reduceLT, Int.reduceLE, Int.reduceToNat, h2]
    clear back A
    refine aw_loop' (fun k : Nat => (⟨[(9, .dat (I k) none), (1, .rp t.cells), (3, .dat (B (b7 && ((t.buses.getD []).take k).all mayBs)) none)], [], [], 900⟩ : S)) (fun k => (t.buses.getD []).length - k) (fun k => k ≤ (t.buses.getD []).length) ?_ 0 (by simp) ?_
    rotate_left
    · refine le_tok2 (by decide) ?_ ?_ ?_ ?_ <;> simp [LX, I, B, D]
    rintro k hk A back
    have hwr := wrap_succ (k := k) (by omega)
    try simp only [I, B, D, RX, ↓ KW, Nat.reduceBEq, Nat.reduceAdd, Nat.reduceLeDiff, Int.reduceNe, Int.reduceBEq, Int.reduceEq, reduceCtorEq, Nat.reduceMul, Int.reduceLT, Int.reduceLE, Int.reduceToNat, hl, p1, p2, p3, p4, n1, n2, n3, n4, n5, n6, n7, k2, k3, g1, g2, g3, g4, List.drop_zero, List.length_drop, a_len]
    cases h2 : decide ((k : Int) < (((t.buses.getD []).length : Nat) : Int))
    rotate_left
    · have h8 : k < (t.buses.getD []).length := by have := of_decide_eq_true h2; omega
      obtain ⟨x, hx⟩ : ∃ x, (t.buses.getD [])[k]? = some x := ⟨_, List.getElem?_eq_getElem h8⟩
      have hst := step_all (is := mayBs) (b := b7) hx
      have u1 := hU (some [x.set]) 255 (by simp)
      have u2 := hT (some [x.lock]) (by simp)
      simp only [Option.getD_some] at u1 u2
      rw [mayBs] at hst
      generalize [x.set].all (wI 255) = v1 at *
      generalize [x.lock].all (wI 9999) = v2 at *
      generalize hbb : (b7 && ((t.buses.getD []).take k).all mayBs) = bb at *
      cases bb
      · try simp only [I, B, D, RX, ↓ KW, Nat.reduceBEq, Nat.reduceAdd, Nat.reduceLeDiff, Int.reduceNe, Int.reduceBEq, Int.reduceEq, reduceCtorEq, Nat.reduceMul, Int.reduceLT, Int.reduceLE, Int.reduceToNat, hl, p1, p2, p3, p4, n1, n2, n3, n4, n5, n6, n7, k2, k3, g1, g2, g3, g4, List.drop_zero, List.length_drop, a_len, h2]
        refine back (k + 1) _ (by omega) (by omega) ?_
        simp only [← hst]
        refine le_tok2 (by decide) ?_ ?_ ?_ ?_ <;> simp [LX, I, B, D, hwr]
      · try simp only [I, B, D, RX, ↓ KW, Nat.reduceBEq, Nat.reduceAdd, Nat.reduceLeDiff, Int.reduceNe, Int.reduceBEq, Int.reduceEq, reduceCtorEq, Nat.reduceMul, Int.reduceLT, Int.reduceLE, Int.reduceToNat, hl, p1, p2, p3, p4, n1, n2, n3, n4, n5, n6, n7, k2, k3, g1, g2, g3, g4, List.drop_zero, List.length_drop, a_len, h2, a_rows, hx, Bs.cells]
        refine ⟨by omega, ?_⟩
        refine call_is u1 ?_
        cases v1
        · try simp only [I, B, D, RX, ↓ KW, Nat.reduceBEq, Nat.reduceAdd, Nat.reduceLeDiff, Int.reduceNe, Int.reduceBEq, Int.reduceEq, reduceCtorEq, Nat.reduceMul, Int.reduceLT, Int.reduceLE, Int.reduceToNat]
          refine back (k + 1) _ (by omega) (by omega) ?_
          simp only [← hst]
          refine le_tok2 (by decide) ?_ ?_ ?_ ?_ <;> simp [LX, I, B, D, hwr]
        · try simp only [I, B, D, RX, ↓ KW, Nat.reduceBEq, Nat.reduceAdd, Nat.reduceLeDiff, Int.reduceNe, Int.reduceBEq, Int.reduceEq, reduceCtorEq, Nat.reduceMul, Int.reduceLT, Int.reduceLE, Int.reduceToNat, hl, p1, p2, p3, p4, n1, n2, n3, n4, n5, n6, n7, k2, k3, g1, g2, g3, g4, List.drop_zero, List.length_drop, a_len, a_rows, hx, Bs.cells]
          refine ⟨by omega, ?_⟩
          refine call_is u2 ?_
          try simp only [I, B, D, RX, ↓ KW, Nat.reduceBEq, Nat.reduceAdd, Nat.reduceLeDiff, Int.reduceNe, Int.reduceBEq, Int.reduceEq, reduceCtorEq, Nat.reduceMul, Int.reduceLT, Int.reduceLE, Int.reduceToNat]
          refine back (k + 1) _ (by omega) (by omega) ?_
          simp only [← hst]
          refine le_tok2 (by decide) ?_ ?_ ?_ ?_ <;> simp [LX, I, B, D, hwr]
    have e8 : k = (t.buses.getD []).length := by have := of_decide_eq_false h2; omega
    subst e8
    rw [List.take_length]
    try simp only [I, B, D, RX, ↓ KW, Nat.reduceBEq, Nat.reduceAdd, Nat.reduceLeDiff, Int.reduceNe, Int.reduceBEq, Int.reduceEq, reduceCtorEq, Nat.reduceMul, Int.reduceLT, Int.reduceLE, Int.reduceToNat, h2]
    rw [hmay]
  try simp only [I, B, D, RX, ↓ KW, Nat.reduceBEq, Nat.reduceAdd, Nat.reduceLeDiff, Int.reduceNe, Int.reduceBEq, Int.reduceEq, reduceCtorEq, Nat.reduceMul, Int.reduceLT, Int.reduceLE, Int.reduceToNat, hl, p1, p2, p3, p4, n1, n2, n3, n4, n5, n6, n7, k2, k3, g1, g2, g3, g4, List.drop_zero, List.length_drop, a_len]
  refine ⟨by omega, ?_⟩
  refine call_is c4 ?_
  try simp only [I, B, D, RX, ↓ KW, Nat.reduceBEq, Nat.reduceAdd, Nat.reduceLeDiff, Int.reduceNe, Int.reduceBEq, Int.reduceEq, reduceCtorEq, Nat.reduceMul, Int.reduceLT, Int.reduceLE, Int.reduceToNat, hl, p1, p2, p3, p4, n1, n2, n3, n4, n5, n6, n7, k2, k3, g1, g2, g3, g4, List.drop_zero, List.length_drop, a_len]
  obtain ⟨b0, hb0⟩ : ∃ b0, b0 = (((true && true) && true) && b4) := ⟨_, rfl⟩
  rw [← hb0] at hmay
  refine aw_loop' (fun k : Nat => (⟨[(4, .dat (I k) none), (3, .dat (B (b0 && (t.phases.take k).all mayPh)) none), (1, .rp t.cells)], [], [], 400⟩ : S)) (fun k => 8 - k) (fun k => k ≤ 8) ?_ 0 (by omega) ?_
  rotate_left
  · refine le_tok2 (by decide) ?_ ?_ ?_ ?_ <;> simp [LX, I, B, D, hb0]
  intro k hk A back
  have hwr := wrap_succ (k := k) (by omega)
  try simp only [I, B, D, RX, ↓ KW, Nat.reduceBEq, Nat.reduceAdd, Nat.reduceLeDiff, Int.reduceNe, Int.reduceBEq, Int.reduceEq, reduceCtorEq, Nat.reduceMul, Int.reduceLT, Int.reduceLE, Int.reduceToNat]
  cases h2 : decide ((k : Int) < 8)
  rotate_left
  · have h8 : k < 8 := by have := of_decide_eq_true h2; omega
    have hx := h.ph_get h8
    have hxx : 0 ≤ (k : Int) ∧ (k : Int) < (8 : Nat) := by omega
    have hph := Tb.phase_part hx
    have hphd : partA (t.cells.drop (k * 13)) 0 (some 13) = some (.agg (phAt t k).cells) := part_drop hph
    have hst := step_all (is := mayPh) (b := b0) hx
    generalize hbb : (b0 && (t.phases.take k).all mayPh) = bb at *
    cases bb
    · try simp only [I, B, D, RX, ↓ KW, Nat.reduceBEq, Nat.reduceAdd, Nat.reduceLeDiff, Int.reduceNe, Int.reduceBEq, Int.reduceEq, reduceCtorEq, Nat.reduceMul, Int.reduceLT, Int.reduceLE, Int.reduceToNat, hl, p1, p2, p3, p4, n1, n2, n3, n4, n5, n6, n7, k2, k3, g1, g2, g3, g4, List.drop_zero, List.length_drop, a_len, h2]
      refine back (k + 1) _ (by omega) (by omega) ?_
      simp only [← hst]
      refine le_tok2 (by decide) ?_ ?_ ?_ ?_ <;> simp [LX, I, B, D, hwr]
    · try simp only [I, B, D, RX, ↓ KW, Nat.reduceBEq, Nat.reduceAdd, Nat.reduceLeDiff, Int.reduceNe, Int.reduceBEq, Int.reduceEq, reduceCtorEq, Nat.reduceMul, Int.reduceLT, Int.reduceLE, Int.reduceToNat, hl, p1, p2, p3, p4, n1, n2, n3, n4, n5, n6, n7, k2, k3, g1, g2, g3, g4, List.drop_zero, List.length_drop, a_len, h2, hxx, hph, hphd]
      refine call_is (hP (phAt t k)) ?_
      try simp only [I, B, D, RX, ↓ KW, Nat.reduceBEq, Nat.reduceAdd, Nat.reduceLeDiff, Int.reduceNe, Int.reduceBEq, Int.reduceEq, reduceCtorEq, Nat.reduceMul, Int.reduceLT, Int.reduceLE, Int.reduceToNat]
      refine back (k + 1) _ (by omega) (by omega) ?_
      simp only [← hst]
      refine le_tok2 (by decide) ?_ ?_ ?_ ?_ <;> simp [LX, I, B, D, hwr]
  have e8 : k = 8 := by have := of_decide_eq_false h2; omega
  subst e8
  have hP8 : t.phases.take 8 = t.phases := List.take_of_length_le (by rw [h.phases]; omega)
  rw [hP8]
  generalize hb5 : (b0 && t.phases.all mayPh) = b5 at *
  try simp only [I, B, D, RX, ↓ KW, Nat.reduceBEq, Nat.reduceAdd, Nat.reduceLeDiff, Int.reduceNe, Int.reduceBEq, Int.reduceEq, reduceCtorEq, Nat.reduceMul, Int.reduceLT, Int.reduceLE, Int.reduceToNat, h2]
  clear back A
  refine aw_loop' (fun k : Nat => (⟨[(5, .dat (I k) none), (1, .rp t.cells), (3, .dat (B b5) none)], [], [], 450⟩ : S)) (fun k => (t.groups.getD []).length - k) (fun k => k ≤ (t.groups.getD []).length ∧ ((t.groups.getD []).take k).all mayGr = true) ?_ 0 (by simp) ?_
  rotate_left
  · refine le_tok2 (by decide) ?_ ?_ ?_ ?_ <;> simp [LX, I, B, D]
  rintro k ⟨hk, hall⟩ A back
  have hwr := wrap_succ (k := k) (by omega)
  try simp only [I, B, D, RX, ↓ KW, Nat.reduceBEq, Nat.reduceAdd, Nat.reduceLeDiff, Int.reduceNe, Int.reduceBEq, Int.reduceEq, reduceCtorEq, Nat.reduceMul, Int.reduceLT, Int.reduceLE, Int.reduceToNat, hl, p1, p2, p3, p4, n1, n2, n3, n4, n5, n6, n7, k2, k3, g1, g2, g3, g4, List.drop_zero, List.length_drop, a_len]
  cases h2 : decide ((k : Int) < (((t.groups.getD []).length : Nat) : Int))
  rotate_left
  · have h8 : k < (t.groups.getD []).length := by have := of_decide_eq_true h2; omega
    obtain ⟨x, hx⟩ : ∃ x, (t.groups.getD [])[k]? = some x := ⟨_, List.getElem?_eq_getElem h8⟩
    have hno : ∀ r, (r = x.a ∨ r = x.b) → mayRow r = false → mayT t = false := fun r hr hf => by
      have : mayGr x = false := by unfold mayGr; rcases hr with rfl | rfl <;> simp [hf]
      rw [hmay, all_no hx this, Bool.and_false]
    try simp only [I, B, D, RX, ↓ KW, Nat.reduceBEq, Nat.reduceAdd, Nat.reduceLeDiff, Int.reduceNe, Int.reduceBEq, Int.reduceEq, reduceCtorEq, Nat.reduceMul, Int.reduceLT, Int.reduceLE, Int.reduceToNat, h2]
    refine aw_loop' (fun j : Nat => (⟨[(6, .dat (I j) none), (1, .rp t.cells), (5, .dat (I k) none), (3, .dat (B b5) none)], [], [], 600⟩ : S)) (fun j => 2 - j) (fun j => j ≤ 2 ∧ (1 ≤ j → mayRow x.a = true) ∧ (2 ≤ j → mayRow x.b = true)) ?_ 0 (by simp) ?_
    rotate_left
    · refine le_tok2 (by decide) ?_ ?_ ?_ ?_ <;> simp [LX, I, B, D]
    rintro j ⟨hj, hja, hjb⟩ A2 back2
    have hwr2 := wrap_succ (k := j) (by omega)
    have hcases : j = 0 ∨ j = 1 ∨ j = 2 := by omega
    have hc0 : decide (((0 : Nat) : Int) < 2) = true := rfl
    have hc1 : decide (((1 : Nat) : Int) < 2) = true := rfl
    have hc2 : decide (((2 : Nat) : Int) < 2) = false := rfl
    rcases hcases with rfl | rfl | rfl
    · have hm1 := hno x.a (.inl rfl)
      have hup := fun hl => hU x.a 7 hl
      try simp only [I, B, D, RX, ↓ KW, Nat.reduceBEq, Nat.reduceAdd, Nat.reduceLeDiff, Int.reduceNe, Int.reduceBEq, Int.reduceEq, reduceCtorEq, Nat.reduceMul, Int.reduceLT, Int.reduceLE, Int.reduceToNat, hl, p1, p2, p3, p4, n1, n2, n3, n4, n5, n6, n7, k2, k3, g1, g2, g3, g4, List.drop_zero, List.length_drop, a_len, a_rows, hx, Gr.cells, hc0, hc1]
      refine ⟨by omega, by omega, ?_⟩
      try simp only [I, B, D, RX, ↓ KW, Nat.reduceBEq, Nat.reduceAdd, Nat.reduceLeDiff, Int.reduceNe, Int.reduceBEq, Int.reduceEq, reduceCtorEq, Nat.reduceMul, Int.reduceLT, Int.reduceLE, Int.reduceToNat, hl, p1, p2, p3, p4, n1, n2, n3, n4, n5, n6, n7, k2, k3, g1, g2, g3, g4, List.drop_zero, List.length_drop, a_len, a_rows, hx, Gr.cells]
      cases h3 : decide ((((x.a.getD []).length : Nat) : Int) > 8)
      rotate_left
      · try simp only [I, B, D, RX, ↓ KW, Nat.reduceBEq, Nat.reduceAdd, Nat.reduceLeDiff, Int.reduceNe, Int.reduceBEq, Int.reduceEq, reduceCtorEq, Nat.reduceMul, Int.reduceLT, Int.reduceLE, Int.reduceToNat, h3]
        rw [hm1 (by rw [mayRow, len_no (m := 8) h3]; rfl)]
      have hle : (x.a.getD []).length ≤ 8 := by have := of_decide_eq_false h3; omega
      have hrow : mayRow x.a = (x.a.getD []).all (wI 7) := by
        have : decide ((((x.a.getD []).length : Nat) : Int) ≤ 8) = true := by simp; omega
        rw [mayRow, this, Bool.true_and]; simp
      try simp only [I, B, D, RX, ↓ KW, Nat.reduceBEq, Nat.reduceAdd, Nat.reduceLeDiff, Int.reduceNe, Int.reduceBEq, Int.reduceEq, reduceCtorEq, Nat.reduceMul, Int.reduceLT, Int.reduceLE, Int.reduceToNat, hl, p1, p2, p3, p4, n1, n2, n3, n4, n5, n6, n7, k2, k3, g1, g2, g3, g4, List.drop_zero, List.length_drop, a_len, a_rows, hx, Gr.cells, h3]
      refine ⟨by omega, by omega, ?_⟩
      refine call_is (hup (by omega)) ?_
      rw [← hrow]
      cases hr : mayRow x.a
      · try simp only [I, B, D, RX, ↓ KW, Nat.reduceBEq, Nat.reduceAdd, Nat.reduceLeDiff, Int.reduceNe, Int.reduceBEq, Int.reduceEq, reduceCtorEq, Nat.reduceMul, Int.reduceLT, Int.reduceLE, Int.reduceToNat]
        rw [hm1 hr]
      · try simp only [I, B, D, RX, ↓ KW, Nat.reduceBEq, Nat.reduceAdd, Nat.reduceLeDiff, Int.reduceNe, Int.reduceBEq, Int.reduceEq, reduceCtorEq, Nat.reduceMul, Int.reduceLT, Int.reduceLE, Int.reduceToNat]
        refine back2 1 _ ⟨by omega, fun _ => hr, fun h => by omega⟩ (by omega) ?_
        refine le_tok2 (by decide) ?_ ?_ ?_ ?_ <;> simp [LX, I, B, D, show IntKind.i64.wrap 1 = 1 from rfl]
    · have hm1 := hno x.b (.inr rfl)
      have hup := fun hl => hU x.b 7 hl
      try simp only [I, B, D, RX, ↓ KW, Nat.reduceBEq, Nat.reduceAdd, Nat.reduceLeDiff, Int.reduceNe, Int.reduceBEq, Int.reduceEq, reduceCtorEq, Nat.reduceMul, Int.reduceLT, Int.reduceLE, Int.reduceToNat, hl, p1, p2, p3, p4, n1, n2, n3, n4, n5, n6, n7, k2, k3, g1, g2, g3, g4, List.drop_zero, List.length_drop, a_len, a_rows, hx, Gr.cells, hc0, hc1]
      refine ⟨by omega, by omega, ?_⟩
      try simp only [I, B, D, RX, ↓ KW, Nat.reduceBEq, Nat.reduceAdd, Nat.reduceLeDiff, Int.reduceNe, Int.reduceBEq, Int.reduceEq, reduceCtorEq, Nat.reduceMul, Int.reduceLT, Int.reduceLE, Int.reduceToNat, hl, p1, p2, p3, p4, n1, n2, n3, n4, n5, n6, n7, k2, k3, g1, g2, g3, g4, List.drop_zero, List.length_drop, a_len, a_rows, hx, Gr.cells]
      cases h3 : decide ((((x.b.getD []).length : Nat) : Int) > 8)
      rotate_left
      · try simp only [I, B, D, RX, ↓ KW, Nat.reduceBEq, Nat.reduceAdd, Nat.reduceLeDiff, Int.reduceNe, Int.reduceBEq, Int.reduceEq, reduceCtorEq, Nat.reduceMul, Int.reduceLT, Int.reduceLE, Int.reduceToNat, h3]
        rw [hm1 (by rw [mayRow, len_no (m := 8) h3]; rfl)]
      have hle : (x.b.getD []).length ≤ 8 := by have := of_decide_eq_false h3; omega
      have hrow : mayRow x.b = (x.b.getD []).all (wI 7) := by
        have : decide ((((x.b.getD []).length : Nat) : Int) ≤ 8) = true := by simp; omega
        rw [mayRow, this, Bool.true_and]; simp
      try simp only [I, B, D, RX, ↓ KW, Nat.reduceBEq, Nat.reduceAdd, Nat.reduceLeDiff, Int.reduceNe, Int.reduceBEq, Int.reduceEq, reduceCtorEq, Nat.reduceMul, Int.reduceLT, Int.reduceLE, Int.reduceToNat, hl, p1, p2, p3, p4, n1, n2, n3, n4, n5, n6, n7, k2, k3, g1, g2, g3, g4, List.drop_zero, List.length_drop, a_len, a_rows, hx, Gr.cells, h3]
      refine ⟨by omega, by omega, ?_⟩
      refine call_is (hup (by omega)) ?_
      rw [← hrow]
      cases hr : mayRow x.b
      · try simp only [I, B, D, RX, ↓ KW, Nat.reduceBEq, Nat.reduceAdd, Nat.reduceLeDiff, Int.reduceNe, Int.reduceBEq, Int.reduceEq, reduceCtorEq, Nat.reduceMul, Int.reduceLT, Int.reduceLE, Int.reduceToNat]
        rw [hm1 hr]
      · try simp only [I, B, D, RX, ↓ KW, Nat.reduceBEq, Nat.reduceAdd, Nat.reduceLeDiff, Int.reduceNe, Int.reduceBEq, Int.reduceEq, reduceCtorEq, Nat.reduceMul, Int.reduceLT, Int.reduceLE, Int.reduceToNat]
        refine back2 2 _ ⟨by omega, fun _ => hja (by omega), fun _ => hr⟩ (by omega) ?_
        refine le_tok2 (by decide) ?_ ?_ ?_ ?_ <;> simp [LX, I, B, D, show IntKind.i64.wrap 2 = 2 from rfl]
    · try simp only [I, B, D, RX, ↓ KW, Nat.reduceBEq, Nat.reduceAdd, Nat.reduceLeDiff, Int.reduceNe, Int.reduceBEq, Int.reduceEq, reduceCtorEq, Nat.reduceMul, Int.reduceLT, Int.reduceLE, Int.reduceToNat, hc2]
      have hgr : mayGr x = true := by unfold mayGr; rw [hja (by omega), hjb (by omega)]; rfl
      refine back (k + 1) _ ⟨by omega, by rw [all_take hx, hall, hgr]; rfl⟩ (by omega) ?_
      refine le_tok2 (by decide) ?_ ?_ ?_ ?_ <;> simp [LX, I, B, D, hwr]
  have e8 : k = (t.groups.getD []).length := by have := of_decide_eq_false h2; omega
  subst e8
  rw [List.take_length] at hall
  rw [hall, Bool.and_true] at hmay
  try simp only [I, B, D, RX, ↓ KW, Nat.reduceBEq, Nat.reduceAdd, Nat.reduceLeDiff, Int.reduceNe, Int.reduceBEq, Int.reduceEq, reduceCtorEq, Nat.reduceMul, Int.reduceLT, Int.reduceLE, Int.reduceToNat, h2]
  clear back A
  refine aw_loop' (fun k : Nat => (⟨[(7, .dat (I k) none), (1, .rp t.cells), (3, .dat (B (b5 && ((t.detectors.getD []).take k).all mayDet)) none)], [], [], 700⟩ : S)) (fun k => (t.detectors.getD []).length - k) (fun k => k ≤ (t.detectors.getD []).length) ?_ 0 (by simp) ?_
  rotate_left
  · refine le_tok2 (by decide) ?_ ?_ ?_ ?_ <;> simp [LX, I, B, D]
  rintro k hk A back
  have hwr := wrap_succ (k := k) (by omega)
  try simp only [I, B, D, RX, ↓ KW, Nat.reduceBEq, Nat.reduceAdd, Nat.reduceLeDiff, Int.reduceNe, Int.reduceBEq, Int.reduceEq, reduceCtorEq, Nat.reduceMul, Int.reduceLT, Int.reduceLE, Int.reduceToNat, hl, p1, p2, p3, p4, n1, n2, n3, n4, n5, n6, n7, k2, k3, g1, g2, g3, g4, List.drop_zero, List.length_drop, a_len]
  cases h2 : decide ((k : Int) < (((t.detectors.getD []).length : Nat) : Int))
  rotate_left
  · have h8 : k < (t.detectors.getD []).length := by have := of_decide_eq_true h2; omega
    obtain ⟨x, hx⟩ : ∃ x, (t.detectors.getD [])[k]? = some x := ⟨_, List.getElem?_eq_getElem h8⟩
    have hst := step_all (is := mayDet) (b := b5) hx
    have hpart : partA (Det.cells x) 0 (some 7) = some (.agg x.cells) := rfl
    have hdl : (Det.cells x).length = 7 := rfl
    generalize hbb : (b5 && ((t.detectors.getD []).take k).all mayDet) = bb at *
    cases bb
    · try simp only [I, B, D, RX, ↓ KW, Nat.reduceBEq, Nat.reduceAdd, Nat.reduceLeDiff, Int.reduceNe, Int.reduceBEq, Int.reduceEq, reduceCtorEq, Nat.reduceMul, Int.reduceLT, Int.reduceLE, Int.reduceToNat, hl, p1, p2, p3, p4, n1, n2, n3, n4, n5, n6, n7, k2, k3, g1, g2, g3, g4, List.drop_zero, List.length_drop, a_len, h2]
      refine back (k + 1) _ (by omega) (by omega) ?_
      simp only [← hst]
      refine le_tok2 (by decide) ?_ ?_ ?_ ?_ <;> simp [LX, I, B, D, hwr]
    · try simp only [I, B, D, RX, ↓ KW, Nat.reduceBEq, Nat.reduceAdd, Nat.reduceLeDiff, Int.reduceNe, Int.reduceBEq, Int.reduceEq, reduceCtorEq, Nat.reduceMul, Int.reduceLT, Int.reduceLE, Int.reduceToNat, hl, p1, p2, p3, p4, n1, n2, n3, n4, n5, n6, n7, k2, k3, g1, g2, g3, g4, List.drop_zero, List.length_drop, a_len, h2, a_rows, hx, hpart, hdl]
      refine ⟨by omega, ?_⟩
      refine call_is (hD x (hfw x (List.mem_of_getElem? hx))) ?_
      try simp only [I, B, D, RX, ↓ KW, Nat.reduceBEq, Nat.reduceAdd, Nat.reduceLeDiff, Int.reduceNe, Int.reduceBEq, Int.reduceEq, reduceCtorEq, Nat.reduceMul, Int.reduceLT, Int.reduceLE, Int.reduceToNat]
      refine back (k + 1) _ (by omega) (by omega) ?_
      simp only [← hst]
      refine le_tok2 (by decide) ?_ ?_ ?_ ?_ <;> simp [LX, I, B, D, hwr]
  have e8 : k = (t.detectors.getD []).length := by have := of_decide_eq_false h2; omega
  subst e8
  rw [List.take_length]
  generalize hb6 : (b5 && (t.detectors.getD []).all mayDet) = b6 at *
  try simp only [I, B, D, RX, ↓ KW, Nat.reduceBEq, Nat.reduceAdd, Nat.reduceLeDiff, Int.reduceNe, Int.reduceBEq, Int.reduceEq, reduceCtorEq, Nat.reduceMul, Int.reduceLT, Int.reduceLE, Int.reduceToNat, h2]
  clear back A
  refine aw_loop' (fun k : Nat => (⟨[(8, .dat (I k) none), (1, .rp t.cells), (3, .dat (B (b6 && ((t.rails.getD []).take k).all mayRl)) none)], [], [], 800⟩ : S)) (fun k => (t.rails.getD []).length - k) (fun k => k ≤ (t.rails.getD []).length) ?_ 0 (by simp) ?_
  rotate_left
  · refine le_tok2 (by decide) ?_ ?_ ?_ ?_ <;> simp [LX, I, B, D]
  rintro k hk A back
  have hwr := wrap_succ (k := k) (by omega)
  try simp only [I, B, D, RX, ↓ KW, Nat.reduceBEq, Nat.reduceAdd, Nat.reduceLeDiff, Int.reduceNe, Int.reduceBEq, Int.reduceEq, reduceCtorEq, Nat.reduceMul, Int.reduceLT, Int.reduceLE, Int.reduceToNat, hl, p1, p2, p3, p4, n1, n2, n3, n4, n5, n6, n7, k2, k3, g1, g2, g3, g4, List.drop_zero, List.length_drop, a_len]
  cases h2 : decide ((k : Int) < (((t.rails.getD []).length : Nat) : Int))
  rotate_left
  · have h8 : k < (t.rails.getD []).length := by have := of_decide_eq_true h2; omega
    obtain ⟨x, hx⟩ : ∃ x, (t.rails.getD [])[k]? = some x := ⟨_, List.getElem?_eq_getElem h8⟩
    have hst := step_all (is := mayRl) (b := b6) hx
    have hpart : partA (Rl.cells x) 0 (some 11) = some (.agg x.cells) := rfl
    have hdl : (Rl.cells x).length = 11 := rfl
    generalize hbb : (b6 && ((t.rails.getD []).take k).all mayRl) = bb at *
    cases bb
    · try simp only [I, B, D, RX, ↓ KW, Nat.reduceBEq, Nat.reduceAdd, Nat.reduceLeDiff, Int.reduceNe, Int.reduceBEq, Int.reduceEq, reduceCtorEq, Nat.reduceMul, Int.reduceLT, Int.reduceLE, Int.reduceToNat, hl, p1, p2, p3, p4, n1, n2, n3, n4, n5, n6, n7, k2, k3, g1, g2, g3, g4, List.drop_zero, List.length_drop, a_len, h2]
      refine back (k + 1) _ (by omega) (by omega) ?_
      simp only [← hst]
      refine le_tok2 (by decide) ?_ ?_ ?_ ?_ <;> simp [LX, I, B, D, hwr]
    · try simp only [I, B, D, RX, ↓ KW, Nat.reduceBEq, Nat.reduceAdd, Nat.reduceLeDiff, Int.reduceNe, Int.reduceBEq, Int.reduceEq, reduceCtorEq, Nat.reduceMul, Int.reduceLT, Int.reduceLE, Int.reduceToNat, hl, p1, p2, p3, p4, n1, n2, n3, n4, n5, n6, n7, k2, k3, g1, g2, g3, g4, List.drop_zero, List.length_drop, a_len, h2, a_rows, hx, hpart, hdl]
      refine ⟨by omega, ?_⟩
      refine call_is (hR x) ?_
      try simp only [I, B, D, RX, ↓ KW, Nat.reduceBEq, Nat.reduceAdd, Nat.reduceLeDiff, Int.reduceNe, Int.reduceBEq, Int.reduceEq, reduceCtorEq, Nat.reduceMul, Int.reduceLT, Int.reduceLE, Int.reduceToNat]
      refine back (k + 1) _ (by omega) (by omega) ?_
      simp only [← hst]
      refine le_tok2 (by decide) ?_ ?_ ?_ ?_ <;> simp [LX, I, B, D, hwr]
  have e8 : k = (t.rails.getD []).length := by have := of_decide_eq_false h2; omega
  subst e8
  rw [List.take_length]
  generalize hb7 : (b6 && (t.rails.getD []).all mayRl) = b7 at *
  try simp only [I, B, D, RX, ↓ KW, Nat.reduceBEq, Nat.reduceAdd, Nat.reduceLeDiff, Int.reduceNe, Int.reduceBEq, Int.reduceEq, reduceCtorEq, Nat.reduceMul, Int.reduceLT, Int.reduceLE, Int.reduceToNat, h2]
  clear back A
  refine aw_loop' (fun k : Nat => (⟨[(9, .dat (I k) none), (1, .rp t.cells), (3, .dat (B (b7 && ((t.buses.getD []).take k).all mayBs)) none)], [], [], 900⟩ : S)) (fun k => (t.buses.getD []).length - k) (fun k => k ≤ (t.buses.getD []).length) ?_ 0 (by simp) ?_
  rotate_left
  · refine le_tok2 (by decide) ?_ ?_ ?_ ?_ <;> simp [LX, I, B, D]
  rintro k hk A back
  have hwr := wrap_succ (k := k) (by omega)
  try simp only [I, B, D, RX, ↓ KW, Nat.reduceBEq, Nat.reduceAdd, Nat.reduceLeDiff, Int.reduceNe, Int.reduceBEq, Int.reduceEq, reduceCtorEq, Nat.reduceMul, Int.reduceLT, Int.reduceLE, Int.reduceToNat, hl, p1, p2, p3, p4, n1, n2, n3, n4, n5, n6, n7, k2, k3, g1, g2, g3, g4, List.drop_zero, List.length_drop, a_len]
  cases h2 : decide ((k : Int) < (((t.buses.getD []).length : Nat) : Int))
  rotate_left
  · have h8 : k < (t.buses.getD []).length := by have := of_decide_eq_true h2; omega
    obtain ⟨x, hx⟩ : ∃ x, (t.buses.getD [])[k]? = some x := ⟨_, List.getElem?_eq_getElem h8⟩
    have hst := step_all (is := mayBs) (b := b7) hx
    have u1 := hU (some [x.set]) 255 (by simp)
    have u2 := hT (some [x.lock]) (by simp)
    simp only [Option.getD_some] at u1 u2
    rw [mayBs] at hst
    generalize [x.set].all (wI 255) = v1 at *
    generalize [x.lock].all (wI 9999) = v2 at *
    generalize hbb : (b7 && ((t.buses.getD []).take k).all mayBs) = bb at *
    cases bb
    · try simp only [I, B, D, RX, ↓ KW, Nat.reduceBEq, Nat.reduceAdd, Nat.reduceLeDiff, Int.reduceNe, Int.reduceBEq, Int.reduceEq, reduceCtorEq, Nat.reduceMul, Int.reduceLT, Int.reduceLE, Int.reduceToNat, hl, p1, p2, p3, p4, n1, n2, n3, n4, n5, n6, n7, k2, k3, g1, g2, g3, g4, List.drop_zero, List.length_drop, a_len, h2]
      refine back (k + 1) _ (by omega) (by omega) ?_
      simp only [← hst]
      refine le_tok2 (by decide) ?_ ?_ ?_ ?_ <;> simp [LX, I, B, D, hwr]
    · try simp only [I, B, D, RX, ↓ KW, Nat.reduceBEq, Nat.reduceAdd, Nat.reduceLeDiff, Int.reduceNe, Int.reduceBEq, Int.reduceEq, reduceCtorEq, Nat.reduceMul, Int.reduceLT, Int.reduceLE, Int.reduceToNat, hl, p1, p2, p3, p4, n1, n2, n3, n4, n5, n6, n7, k2, k3, g1, g2, g3, g4, List.drop_zero, List.length_drop, a_len, h2, a_rows, hx, Bs.cells]
      refine ⟨by omega, ?_⟩
      refine call_is u1 ?_
      cases v1
      · try simp only [I, B, D, RX, ↓ KW, Nat.reduceBEq, Nat.reduceAdd, Nat.reduceLeDiff, Int.reduceNe, Int.reduceBEq, Int.reduceEq, reduceCtorEq, Nat.reduceMul, Int.reduceLT, Int.reduceLE, Int.reduceToNat]
        refine back (k + 1) _ (by omega) (by omega) ?_
        simp only [← hst]
        refine le_tok2 (by decide) ?_ ?_ ?_ ?_ <;> simp [LX, I, B, D, hwr]
      · try simp only [I, B, D, RX, ↓ KW, Nat.reduceBEq, Nat.reduceAdd, Nat.reduceLeDiff, Int.reduceNe, Int.reduceBEq, Int.reduceEq, reduceCtorEq, Nat.reduceMul, Int.reduceLT, Int.reduceLE, Int.reduceToNat, hl, p1, p2, p3, p4, n1, n2, n3, n4, n5, n6, n7, k2, k3, g1, g2, g3, g4, List.drop_zero, List.length_drop, a_len, a_rows, hx, Bs.cells]
        refine ⟨by omega, ?_⟩
        refine call_is u2 ?_
        try simp only [I, B, D, RX, ↓ KW, Nat.reduceBEq, Nat.reduceAdd, Nat.reduceLeDiff, Int.reduceNe, Int.reduceBEq, Int.reduceEq, reduceCtorEq, Nat.reduceMul, Int.reduceLT, Int.reduceLE, Int.reduceToNat]
        refine back (k + 1) _ (by omega) (by omega) ?_
        simp only [← hst]
        refine le_tok2 (by decide) ?_ ?_ ?_ ?_ <;> simp [LX, I, B, D, hwr]
  have e8 : k = (t.buses.getD []).length := by have := of_decide_eq_false h2; omega
  subst e8
  rw [List.take_length]
  try simp only [I, B, D, RX, ↓ KW, Nat.reduceBEq, Nat.reduceAdd, Nat.reduceLeDiff, Int.reduceNe, Int.reduceBEq, Int.reduceEq, reduceCtorEq, Nat.reduceMul, Int.reduceLT, Int.reduceLE, Int.reduceToNat, h2]
  rw [hmay]
end
end Go.Eng
namespace Go.Eng
set_option linter.unusedVariables false
set_option linter.unusedSimpArgs false
set_option linter.unnecessarySimpa false
open Go
set_option linter.unusedVariables false
set_option linter.unusedSimpArgs false
set_option maxRecDepth 10000
set_option maxHeartbeats 4000000
theorem tb_withR {s : Int} {p : Nat} (hp : p < 8) (i : Nat) : tb (withR s p) i = (decide (i < 8) && (tb s i || decide (i = p))) := by
  rw [withR, tb_of]
  by_cases h : i < 8
  · have : ((i : Int) ∈ listS s ++ [(p : Int)]) ↔ (tb s i = true ∨ i = p) := by
      simp only [listS, listTo, List.mem_append, List.mem_filter, List.mem_map, List.mem_range, List.mem_singleton]
      rw [hasR_tb h]
      constructor
      · rintro (⟨_, h2⟩ | h2)
        · exact .inl h2
        · exact .inr (by omega)
      · rintro (h2 | h2)
        · exact .inl ⟨⟨i, h, rfl⟩, h2⟩
        · exact .inr (by omega)
    simp [h, this]
  · simp [h]
structure DInv (t : Tb) (s : Rd) : Prop where
  len : s.lock.length = 4
  spent : s.spent = 0
  lo : ∀ k, 0 ≤ lockAt s k ∧ lockAt s k ≤ 30
  off : ∀ k, nBus t ≤ k → lockAt s k = 0
  was : ∀ k, tb s.was k = true → k < nBus t
end Go.Eng
namespace Go.Eng
set_option linter.unusedVariables false
set_option linter.unusedSimpArgs false
set_option linter.unnecessarySimpa false
open Go
set_option linter.unusedVariables false
set_option linter.unusedSimpArgs false
set_option maxRecDepth 10000
set_option maxHeartbeats 4000000
def SymC (c : List Int) : Prop := ∀ i j : Nat, i < 8 → j < 8 → tb (cAt c i) j = tb (cAt c j) i
theorem cAt_set {c : List Int} {p i : Nat} {v : Int} (hp : p < c.length) : cAt (c.set p v) i = if i = p then v else cAt c i := by
  simp only [cAt, List.getD_eq_getElem?_getD, List.getElem?_set]
  by_cases h : p = i
  · subst h; simp [hp]
  · have : ¬ i = p := fun e => h e.symm
    simp [h, this]
theorem symC_step {t : Tb} {l : Option (List Int)} {p q : Nat} {c : List Int} (hc : c.length = 8) (hp : p < 8) (hq : q < p) (h : SymC c) : SymC (confStep t l p q c) := by
  unfold confStep
  split
  · intro i j hi hj
    have hpl : p < c.length := by omega
    have hql : q < (c.set p (withR (cAt c p) q)).length := by simp; omega
    have hqp : ¬ q = p := by omega
    simp only [cAt_set hql, cAt_set hpl, hqp, if_false]
    have hs := h i j hi hj
    by_cases h1 : i = q <;> by_cases h2 : j = q <;> by_cases h3 : i = p <;> by_cases h4 : j = p <;>
      simp_all [tb_withR, show q < 8 by omega] <;> omega
  · exact h
theorem symC_row {t : Tb} {l : Option (List Int)} {p : Nat} {c : List Int} (hc : c.length = 8) (hp : p < 8) (h : SymC c) : ∀ q, q ≤ p → SymC (confRow t l p q c)
  | 0, _ => h
  | q + 1, hq => symC_step (by rw [confRow_len, hc]) hp (by omega) (symC_row hc hp h q (by omega))
theorem symC_to {t : Tb} {l : Option (List Int)} : ∀ p, p ≤ 8 → SymC (confTo t l p)
  | 0, _ => by
    intro i j hi hj
    have : ∀ i : Nat, cAt (confTo t l 0) i = 0 := by
      intro i
      simp only [cAt, confTo, List.getD_eq_getElem?_getD, List.getElem?_replicate]; split <;> rfl
    rw [this, this, tb_zero, tb_zero]
  | p + 1, hp => symC_row (confTo_len p) (by omega) (symC_to p (by omega)) p (Nat.le_refl p)
theorem table_sym (l : Option (List Int)) {p q : Nat} (hp : p < 8) (hq : q < 8) : tb (conAt (tableOf l) p) q = tb (conAt (tableOf l) q) p :=
  symC_to (rowsOf' l).2 (rowsOf_le l) p q hp hq
end Go.Eng
namespace Go.Eng
set_option linter.unusedVariables false
set_option linter.unusedSimpArgs false
set_option linter.unnecessarySimpa false
open Go
set_option linter.unusedVariables false
set_option linter.unusedSimpArgs false
set_option maxRecDepth 10000
set_option maxHeartbeats 4000000
section
variable {t : Tb} (h : t.Ln)
include h
theorem tb_phs : partA t.cells 0 (some 104) = some (.agg (t.phases.flatMap Ph.cells)) := by
  have e : (t.phases.flatMap Ph.cells).length = 104 := by rw [flatMap_len Ph.len, h.phases]
  have l := h.len
  simp only [partA]
  rw [if_pos (by omega), List.drop_zero, Tb.cells, List.take_left' e]
end
end Go.Eng
namespace Go.Eng
set_option linter.unusedVariables false
set_option linter.unusedSimpArgs false
set_option linter.unnecessarySimpa false
open Go
set_option linter.unusedVariables false
set_option linter.unusedSimpArgs false
set_option maxRecDepth 10000
set_option maxHeartbeats 4000000
def Can (s : Int) : Prop := 0 ≤ s ∧ s < 256
theorem can_high {s : Int} (h : Can s) {i : Nat} (h8 : 8 ≤ i) (h64 : i < 64) : tb s i = false := by
  rw [tb_num s h64]
  have hp : (2 : Int) ^ 8 ≤ 2 ^ i := by
    have e : (2 : Int) ^ i = 2 ^ 8 * 2 ^ (i - 8) := by rw [← Int.pow_add]; congr 1; omega
    have : (1 : Int) ≤ 2 ^ (i - 8) := by have := Int.pow_pos (n := (2 : Int)) (m := i - 8) (by decide); omega
    rw [e]; have h2 : (2 : Int) ^ 8 = 256 := rfl
    rw [h2]; omega
  have h2 : (2 : Int) ^ 8 = 256 := rfl
  have : s.fdiv (2 ^ i) = 0 := by
    rw [Int.fdiv_eq_ediv_of_nonneg _ (by omega)]
    exact Int.ediv_eq_zero_of_lt h.1 (by have := h.2; omega)
  rw [this]; rfl
theorem can_ext {x y : Int} (hx : Can x) (hy : Can y) (h : ∀ i, i < 8 → tb x i = tb y i) : x = y := by
  have hb : bv x = bv y := by
    apply BitVec.eq_of_getLsbD_eq
    intro i hi
    have h64 : i < 64 := hi
    rcases Nat.lt_or_ge i 8 with h8 | h8
    · exact h i h8
    · have a := can_high hx h8 h64
      have b := can_high hy h8 h64
      simp only [tb] at a b
      rw [a, b]
  have := congrArg BitVec.toNat hb
  simp only [bv, BitVec.toNat_ofInt] at this
  have hx' := hx; have hy' := hy
  unfold Can at hx' hy'
  have e : ((2 ^ 64 : Nat) : Int) = 18446744073709551616 := by decide
  rw [e] at this
  omega
theorem can_of {x : Int} (h0 : 0 ≤ x) (h1 : x < 18446744073709551616) (h : ∀ i, 8 ≤ i → i < 64 → tb x i = false) : Can x := by
  refine ⟨h0, ?_⟩
  have hn : (bv x).toNat = x.toNat := by
    simp only [bv, BitVec.toNat_ofInt]
    have e : ((2 ^ 64 : Nat) : Int) = 18446744073709551616 := by decide
    rw [e]; omega
  have : x.toNat < 2 ^ 8 := by
    apply Nat.lt_pow_two_of_testBit
    intro i hi
    rcases Nat.lt_or_ge i 64 with h64 | h64
    · have := h i hi h64
      simp only [tb, BitVec.getLsbD] at this
      rw [← hn]; exact this
    · apply Nat.testBit_lt_two_pow
      have : x.toNat < 2 ^ 64 := by have e : (2 : Nat) ^ 64 = 18446744073709551616 := by decide
                                    omega
      exact Nat.lt_of_lt_of_le this (Nat.pow_le_pow_right (by decide) h64)
  omega
theorem wrap_bv_nonneg (b : BitVec 64) (h : b.getLsbD 63 = false) : IntKind.i64.wrap (b.toNat : Int) = b.toNat ∧ (b.toNat : Int) < 9223372036854775808 := by
  have : b.toNat < 2 ^ 63 := by
    apply Nat.lt_pow_two_of_testBit
    intro i hi
    rcases Nat.lt_or_ge i 64 with h64 | h64
    · have : i = 63 := by omega
      subst this; exact h
    · apply Nat.testBit_lt_two_pow
      exact Nat.lt_of_lt_of_le b.isLt (Nat.pow_le_pow_right (by decide) h64)
  have e : (2 : Nat) ^ 63 = 9223372036854775808 := by decide
  refine ⟨wrap_id (by omega) (by omega), by omega⟩
theorem can_bits {b : BitVec 64} (h : ∀ i, 8 ≤ i → i < 64 → b.getLsbD i = false) : Can (IntKind.i64.wrap (b.toNat : Int)) := by
  obtain ⟨h1, h2⟩ := wrap_bv_nonneg b (h 63 (by decide) (by decide))
  rw [h1]
  refine can_of (by omega) (by omega) fun i h8 h64 => ?_
  simp only [tb, bv_nat]
  exact h i h8 h64
theorem can_with {s : Int} {p : Nat} (hp : p < 8) : Can (withS s p) := by
  have : withS s p = IntKind.i64.wrap (((bv (bAnd .i64 s 255)) ||| bv (bitI p)).toNat : Int) := rfl
  rw [this]
  refine can_bits fun i h8 h64 => ?_
  rw [BitVec.getLsbD_or]
  have a := tb_and s 255 i
  have b := tb_bit hp i
  simp only [tb] at a b
  rw [a, b]
  have c := tb_255 i
  simp only [tb] at c
  rw [c]
  have : ¬ i < 8 := by omega
  have h2 : ¬ i = p := by omega
  simp [this, h2]
theorem can_ofTo (l : List Int) : ∀ k, k ≤ 8 → Can (ofTo l k)
  | 0, _ => by show Can 0; exact ⟨by decide, by decide⟩
  | k + 1, h => by
    have ih := can_ofTo l k (by omega)
    simp only [ofTo]
    split
    · have e : bOr .i64 (ofTo l k) (2 ^ k) = IntKind.i64.wrap ((bv (ofTo l k) ||| bv (2 ^ k)).toNat : Int) := rfl
      rw [e]
      refine can_bits fun i h8 h64 => ?_
      rw [BitVec.getLsbD_or]
      have a := can_high ih h8 h64
      have b := tb_pow (p := k) (by omega) i
      simp only [tb] at a b
      rw [a, b]
      have : ¬ i = k := by omega
      simp [this]
    · exact ih
theorem can_of' (l : List Int) : Can (ofI l) := can_ofTo l 8 (by omega)
theorem can_withR (s p : Int) : Can (withR s p) := can_of' _
theorem phs_at' {t : Tb} (h : t.Ln) {p : Nat} (hp : p < 8) : partA (t.phases.flatMap Ph.cells) (p * 13) (some 13) = some (.agg (phAt t p).cells) := by
  rw [flatMap_at (h.ph_get hp)]
  exact part_mid (by rw [flatMap_len Ph.len, take_len (h.ph_get hp)]) rfl
def onPTo (t : Tb) : Nat → Int
  | 0 => 0
  | k + 1 => if (phAt t k).on then withS (onPTo t k) k else onPTo t k
theorem onPTo_can (t : Tb) : ∀ k, k ≤ 8 → Can (onPTo t k)
  | 0, _ => by show Can 0; exact ⟨by decide, by decide⟩
  | k + 1, h => by
    simp only [onPTo]; split
    · exact can_with (by omega)
    · exact onPTo_can t k (by omega)
theorem onPTo_tb (t : Tb) (i : Nat) : ∀ k, k ≤ 8 → tb (onPTo t k) i = (decide (i < k) && (phAt t i).on)
  | 0, _ => by simp [onPTo, tb_zero]
  | k + 1, h => by
    have ih := onPTo_tb t i k (by omega)
    simp only [onPTo]
    split
    · rename_i hk
      rw [tb_with (by omega), ih]
      by_cases e : i = k
      · subst e; simp [hk]
      · have h1 : (i < k + 1) ↔ i < k := by omega
        have h2 : i < k → i < 8 := by omega
        by_cases h3 : i < k
        · simp [h1, h3, h2 h3, e]
        · simp [h1, h3, e]
    · rename_i hk
      rw [ih]
      by_cases e : i = k
      · subst e; simp [hk]
      · have : (i < k + 1) ↔ i < k := by omega
        simp [this]
theorem onI_tb (t : Tb) (i : Nat) : tb (onI t) i = (decide (i < 8) && (phAt t i).on) := by
  rw [onI, tb_of]
  by_cases h : i < 8
  · have : (i : Int) ∈ onTo t 8 ↔ (phAt t i).on = true := by
      simp only [onTo, List.mem_filter, List.mem_map, List.mem_range, Int.natCast_inj]
      constructor
      · rintro ⟨_, h2⟩; exact h2
      · intro h2; exact ⟨⟨i, h, rfl⟩, h2⟩
    simp [h, this]
  · simp [h]
theorem onP_is (t : Tb) : onPTo t 8 = onI t := can_ext (onPTo_can t 8 (by omega)) (can_of' _) fun i hi => by rw [onPTo_tb t i 8 (by omega), onI_tb]
theorem onI_can (t : Tb) : Can (onI t) := can_of' _
theorem spotsTo_pre (l : List Gr) {n m : Nat} (h : n ≤ m) (hm : m ≤ l.length) : ∃ r, spotsTo l m = spotsTo l n ++ r := by
  induction m with
  | zero => exact ⟨[], by rw [show n = 0 by omega]; simp⟩
  | succ m ih =>
    rcases Nat.lt_or_ge n (m + 1) with h1 | h1
    · obtain ⟨r, hr⟩ := ih (by omega) (by omega)
      obtain ⟨gr, hgr⟩ : ∃ x, l[m]? = some x := ⟨_, List.getElem?_eq_getElem (by omega)⟩
      exact ⟨r ++ grSpots gr m 2, by rw [spotsTo_next hgr, hr, List.append_assoc]⟩
    · exact ⟨[], by rw [show n = m + 1 by omega]; simp⟩
theorem grSpots_pre (gr : Gr) (g : Nat) {k : Nat} (hk : k < 2) : ∃ r, grSpots gr g 2 = grSpots gr g k ++ (rowSpots g k ((gr.row k).getD []) ++ r) := by
  have : k = 0 ∨ k = 1 := by omega
  rcases this with rfl | rfl
  · exact ⟨rowSpots g 1 ((gr.row 1).getD []), by rw [grSpots_next, grSpots_next, List.append_assoc]⟩
  · exact ⟨[], by rw [grSpots_next]; simp⟩
theorem rowSpots_pre (g k : Nat) (row : List Int) {n m : Nat} (h : n ≤ m) (hm : m ≤ row.length) : ∃ r, rowSpots g k (row.take m) = rowSpots g k (row.take n) ++ r := by
  induction m with
  | zero => exact ⟨[], by rw [show n = 0 by omega]; simp⟩
  | succ m ih =>
    rcases Nat.lt_or_ge n (m + 1) with h1 | h1
    · obtain ⟨r, hr⟩ := ih (by omega) (by omega)
      obtain ⟨x, hx⟩ : ∃ x, row[m]? = some x := ⟨_, List.getElem?_eq_getElem (by omega)⟩
      have hn := rowSpots_next (g := g) (k := k) hx
      by_cases h8 : 0 ≤ x ∧ x < 8
      · exact ⟨r ++ [⟨g, k, m, x⟩], by rw [hn.1 h8, hr, List.append_assoc]⟩
      · exact ⟨r, by rw [hn.2 h8, hr]⟩
    · exact ⟨[], by rw [show n = m + 1 by omega]; simp⟩
theorem where_found {t : Tb} {p : Int} {g k i : Nat} {gr : Gr} (hp : 0 ≤ p ∧ p < 8) (hg : (t.groups.getD [])[g]? = some gr) (hk : k < 2) (hi : ((gr.row k).getD [])[i]? = some p)
    (hno : ∀ x ∈ spotsTo (t.groups.getD []) g ++ grSpots gr g k ++ rowSpots g k (((gr.row k).getD []).take i), x.p ≠ p) : whereR t p = (⟨g, k, i, p⟩, true) := by
  have hlt := (List.getElem?_eq_some_iff.1 hg).1
  have hil := (List.getElem?_eq_some_iff.1 hi).1
  obtain ⟨r1, h1⟩ := spotsTo_pre (t.groups.getD []) (n := g + 1) (m := (t.groups.getD []).length) (by omega) (Nat.le_refl _)
  obtain ⟨r2, h2⟩ := grSpots_pre gr g hk
  obtain ⟨r3, h3⟩ := rowSpots_pre g k ((gr.row k).getD []) (n := i + 1) (m := ((gr.row k).getD []).length) (by omega) (Nat.le_refl _)
  rw [List.take_length] at h3
  have h4 := (rowSpots_next (g := g) (k := k) hi).1 hp
  have hs : spots t = (spotsTo (t.groups.getD []) g ++ grSpots gr g k ++ rowSpots g k (((gr.row k).getD []).take i)) ++ (⟨g, k, i, p⟩ :: (r3 ++ r2 ++ r1)) := by
    rw [spots, h1, spotsTo_next hg, h2, h3, h4]
    simp only [List.append_assoc, List.singleton_append, List.cons_append, List.nil_append]
  have hf : (spots t).find? (fun x => x.p == p) = some ⟨g, k, i, p⟩ := by
    rw [hs, List.find?_append]
    have : (spotsTo (t.groups.getD []) g ++ grSpots gr g k ++ rowSpots g k (((gr.row k).getD []).take i)).find? (fun x => x.p == p) = none := by
      rw [List.find?_eq_none]; intro x hx; simpa using hno x hx
    rw [this]
    simp
  simp [whereR, hf]
theorem where_not {t : Tb} {p : Int} (h : ∀ x ∈ spots t, x.p ≠ p) : whereR t p = (⟨0, 0, 0, 0⟩, false) := by
  have : (spots t).find? (fun x => x.p == p) = none := by
    rw [List.find?_eq_none]; intro x hx; simpa using h x hx
  simp [whereR, this]
theorem spots_range {t : Tb} {x : Sp} (h : x ∈ spots t) : 0 ≤ x.p ∧ x.p < 8 := by
  simp only [spots, spotsTo, grSpots, rowSpots, List.mem_flatMap, List.mem_filterMap] at h
  obtain ⟨⟨gr, g⟩, _, k, _, ⟨y, i⟩, _, h⟩ := h
  simp only at h
  split at h
  · rename_i hy; cases h; exact hy
  · cases h
def ofS (l : List Int) : Int := l.foldl (fun s p => bOr .i64 s (bitI p)) 0
def setOf.Spec (C : Con) (f : Nat) : Prop := ∀ l : Option (List Int), (l.getD []).length ≤ 1000000000 → C.c f [slAV intRow l] (I (ofS (l.getD []))) none
def pOn.Spec (C : Con) (f : Nat) : Prop := ∀ t : Tb, t.Ln → C.c f [.agg t.cells] (I (onI t)) none
def pWhere.Spec (C : Con) (f : Nat) : Prop := ∀ (t : Tb) (p : Int), t.Ok → C.c f [.agg t.cells, I p] (.tup [I (whereR t p).1.group, I (whereR t p).1.ring, I (whereR t p).1.pos, B (whereR t p).2]) none
def pBeside.Spec (C : Con) (f : Nat) : Prop := ∀ (t : Tb) (p q : Int), t.Ok → C.c f [.agg t.cells, I p, I q] (B (besideR t p q)) none
theorem ofS_one (p : Int) : (ofS [p] == 0) = !(decide (0 ≤ p) && decide (p < 8)) := by
  simp only [ofS, List.foldl_cons, List.foldl_nil]
  by_cases h : 0 ≤ p ∧ p < 8
  · obtain ⟨n, rfl⟩ : ∃ n : Nat, p = n := ⟨p.toNat, by omega⟩
    have hn : n < 8 := by omega
    have : n = 0 ∨ n = 1 ∨ n = 2 ∨ n = 3 ∨ n = 4 ∨ n = 5 ∨ n = 6 ∨ n = 7 := by omega
    rcases this with rfl | rfl | rfl | rfl | rfl | rfl | rfl | rfl <;> decide
  · have e : bitI p = 0 := by unfold bitI; rw [if_pos (by omega)]
    rw [e]
    have : (decide (0 ≤ p) && decide (p < 8)) = false := by
      rw [Bool.and_eq_false_iff]; simp only [decide_eq_false_iff_not]; omega
    rw [this]; decide
section
variable {P : Program} (hm : P.follows .mixedOrders = true) {f : Nat}
include hm
theorem setOf.ok {fB : Nat} (hc : cFn P f = some (cc_set_Of fB)) (hB : bit.Spec (Pure P) fB) : setOf.Spec (Pure P) f := by
  intro l hl
  refine pure_of hm hc (by show 1 ≤ 18; decide) (aw_flat (keep := []) (i := 0) ?_)
  try simp only [I, B, D, RX, ↓ KW, Nat.reduceBEq, Nat.reduceAdd, Nat.reduceLeDiff, Int.reduceNe, Int.reduceBEq, Int.reduceEq, reduceCtorEq, Nat.reduceMul, Int.reduceLT, Int.reduceLE, Int.reduceToNat, cc_set_Of, Z.H, a_len]
  refine aw_loop' (fun k : Nat => (⟨[(8, .dat (I k) none), (7, .dat (I ((l.getD []).length : Nat)) none), (6, .dat (slAV intRow l) none), (3, .dat (I (((l.getD []).take k).foldl (fun s p => bOr .i64 s (bitI p)) 0)) none)], [], [], 400⟩ : S)) (fun k => (l.getD []).length - k) (fun k => k ≤ (l.getD []).length) ?_ 0 (by omega) ?_
  rotate_left
  · refine le_tok2 (by decide) ?_ ?_ ?_ ?_ <;> simp [LX, I, B, D]
  intro k hk A back
  have hwr := wrap_succ (k := k) (by omega)
  try simp only [I, B, D, RX, ↓ KW, Nat.reduceBEq, Nat.reduceAdd, Nat.reduceLeDiff, Int.reduceNe, Int.reduceBEq, Int.reduceEq, reduceCtorEq, Nat.reduceMul, Int.reduceLT, Int.reduceLE, Int.reduceToNat]
  cases h2 : decide ((k : Int) < (((l.getD []).length : Nat) : Int))
  · have e : k = (l.getD []).length := by have := of_decide_eq_false h2; omega
    subst e
    rw [List.take_length]
    try simp only [I, B, D, RX, ↓ KW, Nat.reduceBEq, Nat.reduceAdd, Nat.reduceLeDiff, Int.reduceNe, Int.reduceBEq, Int.reduceEq, reduceCtorEq, Nat.reduceMul, Int.reduceLT, Int.reduceLE, Int.reduceToNat, h2]
    rfl
  · have h8 : k < (l.getD []).length := by have := of_decide_eq_true h2; omega
    obtain ⟨x, hx⟩ : ∃ x, (l.getD [])[k]? = some x := ⟨_, List.getElem?_eq_getElem h8⟩
    have hn := fold_next (f := fun s p => bOr .i64 s (bitI p)) (b := 0) hx
    try simp only [I, B, D, RX, ↓ KW, Nat.reduceBEq, Nat.reduceAdd, Nat.reduceLeDiff, Int.reduceNe, Int.reduceBEq, Int.reduceEq, reduceCtorEq, Nat.reduceMul, Int.reduceLT, Int.reduceLE, Int.reduceToNat, h2, a_rows, hx, intRow]
    refine ⟨by omega, ?_⟩
    refine call_is (hB x) ?_
    try simp only [I, B, D, RX, ↓ KW, Nat.reduceBEq, Nat.reduceAdd, Nat.reduceLeDiff, Int.reduceNe, Int.reduceBEq, Int.reduceEq, reduceCtorEq, Nat.reduceMul, Int.reduceLT, Int.reduceLE, Int.reduceToNat]
    refine back (k + 1) _ (by omega) (by omega) ?_
    simp only [hn]
    refine le_tok2 (by decide) ?_ ?_ ?_ ?_ <;> simp [LX, I, B, D, hwr]
theorem pOn.ok {fW : Nat} (hc : cFn P f = some (cc_plan_On fW)) (hW : setWith.Spec (Pure P) fW) : pOn.Spec (Pure P) f := by
  intro t h
  have hp := tb_phs h
  rw [← onP_is]
  refine pure_of hm hc (by show 1 ≤ 19; decide) (aw_flat (keep := []) (i := 0) ?_)
  try simp only [I, B, D, RY, ↓ KW, Nat.reduceBEq, Nat.reduceAdd, Nat.reduceLeDiff, Int.reduceNe, Int.reduceBEq, Int.reduceEq, reduceCtorEq, Nat.reduceMul, Int.reduceLT, Int.reduceLE, Int.reduceToNat, cc_plan_On, Z.H, hp]
  refine aw_loop' (fun k : Nat => (⟨[(8, .dat (I k) none), (7, .dat (.agg (t.phases.flatMap Ph.cells)) none), (3, .dat (I (onPTo t k)) none)], [], [], 400⟩ : S)) (fun k => 8 - k) (fun k => k ≤ 8) ?_ 0 (by omega) ?_
  rotate_left
  · refine le_tok2 (by decide) ?_ ?_ ?_ ?_ <;> simp [LX, I, B, D, onPTo]
  intro k hk A back
  have hwr := wrap_succ (k := k) (by omega)
  try simp only [I, B, D, RY, ↓ KW, Nat.reduceBEq, Nat.reduceAdd, Nat.reduceLeDiff, Int.reduceNe, Int.reduceBEq, Int.reduceEq, reduceCtorEq, Nat.reduceMul, Int.reduceLT, Int.reduceLE, Int.reduceToNat]
  cases h2 : decide ((k : Int) < 8)
  · have e : k = 8 := by have := of_decide_eq_false h2; omega
    subst e
    try simp only [I, B, D, RY, ↓ KW, Nat.reduceBEq, Nat.reduceAdd, Nat.reduceLeDiff, Int.reduceNe, Int.reduceBEq, Int.reduceEq, reduceCtorEq, Nat.reduceMul, Int.reduceLT, Int.reduceLE, Int.reduceToNat, h2]
  · have h8 : k < 8 := by have := of_decide_eq_true h2; omega
    have hx : 0 ≤ (k : Int) ∧ (k : Int) < (8 : Nat) := by omega
    have hat := phs_at' h h8
    have hz : setCells z13_14216 0 (phAt t k).cells = (phAt t k).cells := set_all rfl
    have hzl : z13_14216.length = 13 := rfl
    have p0 : (phAt t k).cells[0]? = some (AV.bool (phAt t k).on) := rfl
    have hn : onPTo t (k + 1) = if (phAt t k).on then withS (onPTo t k) k else onPTo t k := rfl
    try simp only [I, B, D, RY, ↓ KW, Nat.reduceBEq, Nat.reduceAdd, Nat.reduceLeDiff, Int.reduceNe, Int.reduceBEq, Int.reduceEq, reduceCtorEq, Nat.reduceMul, Int.reduceLT, Int.reduceLE, Int.reduceToNat, hx, hat, hz, hzl, Ph.len, p0, h2]
    cases hon : (phAt t k).on
    · try simp only [I, B, D, RY, ↓ KW, Nat.reduceBEq, Nat.reduceAdd, Nat.reduceLeDiff, Int.reduceNe, Int.reduceBEq, Int.reduceEq, reduceCtorEq, Nat.reduceMul, Int.reduceLT, Int.reduceLE, Int.reduceToNat, hx, hat, hz, hzl, Ph.len, p0, hon]
      refine back (k + 1) _ (by omega) (by omega) ?_
      rw [hon] at hn
      simp only [hn]
      refine le_tok2 (by decide) ?_ ?_ ?_ ?_ <;> simp [LX, I, B, D, hwr]
    · try simp only [I, B, D, RY, ↓ KW, Nat.reduceBEq, Nat.reduceAdd, Nat.reduceLeDiff, Int.reduceNe, Int.reduceBEq, Int.reduceEq, reduceCtorEq, Nat.reduceMul, Int.reduceLT, Int.reduceLE, Int.reduceToNat, hx, hat, hz, hzl, Ph.len, p0, hon]
      refine call_is (hW _ _) ?_
      try simp only [I, B, D, RY, ↓ KW, Nat.reduceBEq, Nat.reduceAdd, Nat.reduceLeDiff, Int.reduceNe, Int.reduceBEq, Int.reduceEq, reduceCtorEq, Nat.reduceMul, Int.reduceLT, Int.reduceLE, Int.reduceToNat]
      refine back (k + 1) _ (by omega) (by omega) ?_
      rw [hon] at hn
      simp only [hn]
      refine le_tok2 (by decide) ?_ ?_ ?_ ?_ <;> simp [LX, I, B, D, hwr]
theorem pWhere.ok {e fO : Nat} (hc : cFn P f = some (cc_plan_Where e fO)) (hO : setOf.Spec (Pure P) fO) : pWhere.Spec (Pure P) f := by
  intro t p ht
  have hg := tb_104 ht.ln
  have c1 := hO (some [p]) (by simp)
  simp only [Option.getD_some] at c1
  refine pure_of hm hc (by show 2 ≤ 51; decide) (aw_flat (keep := []) (i := 0) ?_)
  try simp only [I, B, D, RY, ↓ KW, Nat.reduceBEq, Nat.reduceAdd, Nat.reduceLeDiff, Int.reduceNe, Int.reduceBEq, Int.reduceEq, reduceCtorEq, Nat.reduceMul, Int.reduceLT, Int.reduceLE, Int.reduceToNat, cc_plan_Where, Z.H, hg]
  refine call_is c1 ?_
  cases hin : ofS [p] == 0
  rotate_left
  · have hne : whereR t p = (⟨0, 0, 0, 0⟩, false) := by
      rw [ofS_one] at hin
      refine where_not fun x hx e => ?_
      have := spots_range hx
      rw [e] at this
      simp [this] at hin
    try simp only [I, B, D, RY, ↓ KW, Nat.reduceBEq, Nat.reduceAdd, Nat.reduceLeDiff, Int.reduceNe, Int.reduceBEq, Int.reduceEq, reduceCtorEq, Nat.reduceMul, Int.reduceLT, Int.reduceLE, Int.reduceToNat, hin, hne]
  have hp : 0 ≤ p ∧ p < 8 := by rw [ofS_one] at hin; simpa using hin
  try simp only [I, B, D, RY, ↓ KW, Nat.reduceBEq, Nat.reduceAdd, Nat.reduceLeDiff, Int.reduceNe, Int.reduceBEq, Int.reduceEq, reduceCtorEq, Nat.reduceMul, Int.reduceLT, Int.reduceLE, Int.reduceToNat, hin, hg]
  refine aw_loop' (fun g : Nat => (⟨[(21, .dat (I g) none), (20, .dat (I ((t.groups.getD []).length : Nat)) none), (19, .dat (slAV Gr.cells t.groups) none), (1, .dat (I p) none), (4, .dat (I 0) none), (5, .dat (I 0) none), (6, .dat (I 0) none), (7, .dat (B false) none)], [], [], 400⟩ : S)) (fun g => (t.groups.getD []).length - g) (fun g => g ≤ (t.groups.getD []).length ∧ ∀ x ∈ spotsTo (t.groups.getD []) g, x.p ≠ p) ?_ 0 (by simp [spotsTo]) ?_
  rotate_left
  · refine le_tok2 (by decide) ?_ ?_ ?_ ?_ <;> simp [LX, I, B, D, a_len]
  rintro g ⟨hg1, hno⟩ A back
  have hb := ht.groups
  have hw := wrap_succ (k := g) (by omega)
  try simp only [I, B, D, RY, ↓ KW, Nat.reduceBEq, Nat.reduceAdd, Nat.reduceLeDiff, Int.reduceNe, Int.reduceBEq, Int.reduceEq, reduceCtorEq, Nat.reduceMul, Int.reduceLT, Int.reduceLE, Int.reduceToNat]
  cases h2 : decide ((g : Int) < (((t.groups.getD []).length : Nat) : Int))
  · have e : g = (t.groups.getD []).length := by have := of_decide_eq_false h2; omega
    subst e
    have hne := where_not (t := t) (p := p) hno
    try simp only [I, B, D, RY, ↓ KW, Nat.reduceBEq, Nat.reduceAdd, Nat.reduceLeDiff, Int.reduceNe, Int.reduceBEq, Int.reduceEq, reduceCtorEq, Nat.reduceMul, Int.reduceLT, Int.reduceLE, Int.reduceToNat, h2, hne]
  have hlt : g < (t.groups.getD []).length := by have := of_decide_eq_true h2; omega
  obtain ⟨gr, hgr⟩ : ∃ x, (t.groups.getD [])[g]? = some x := ⟨_, List.getElem?_eq_getElem hlt⟩
  have hrs := ht.rows gr (List.mem_of_getElem? hgr)
  have hpart : partA (Gr.cells gr) 0 (some 2) = some (.agg (Gr.cells gr)) := rfl
  have hset : ∀ c : List AV, c.length = 2 → setCells c 0 (Gr.cells gr) = Gr.cells gr := fun c h => set_all (by rw [h]; rfl)
  try simp only [I, B, D, RY, ↓ KW, Nat.reduceBEq, Nat.reduceAdd, Nat.reduceLeDiff, Int.reduceNe, Int.reduceBEq, Int.reduceEq, reduceCtorEq, Nat.reduceMul, Int.reduceLT, Int.reduceLE, Int.reduceToNat, h2, a_rows, hgr, Gr.len, hpart, hset]
  refine ⟨by omega, ?_⟩
  try simp only [I, B, D, RY, ↓ KW, Nat.reduceBEq, Nat.reduceAdd, Nat.reduceLeDiff, Int.reduceNe, Int.reduceBEq, Int.reduceEq, reduceCtorEq, Nat.reduceMul, Int.reduceLT, Int.reduceLE, Int.reduceToNat, hset, Gr.len, hpart]
  refine aw_loop' (fun k : Nat => (⟨[(27, .dat (I k) none), (26, .dat (.agg (Gr.cells gr)) none), (1, .dat (I p) none), (8, .dat (I g) none), (21, .dat (I g) none), (20, .dat (I ((t.groups.getD []).length : Nat)) none), (19, .dat (slAV Gr.cells t.groups) none), (4, .dat (I 0) none), (5, .dat (I 0) none), (6, .dat (I 0) none), (7, .dat (B false) none)], [], [], 500⟩ : S)) (fun k => 2 - k) (fun k => k ≤ 2 ∧ ∀ x ∈ spotsTo (t.groups.getD []) g ++ grSpots gr g k, x.p ≠ p) ?_ 0 ⟨by omega, by simpa [grSpots] using hno⟩ ?_
  rotate_left
  · refine le_tok2 (by decide) ?_ ?_ ?_ ?_ <;> simp [LX, I, B, D]
  rintro k ⟨hk, hno1⟩ A1 back1
  have hw1 := wrap_succ (k := k) (by omega)
  try simp only [I, B, D, RY, ↓ KW, Nat.reduceBEq, Nat.reduceAdd, Nat.reduceLeDiff, Int.reduceNe, Int.reduceBEq, Int.reduceEq, reduceCtorEq, Nat.reduceMul, Int.reduceLT, Int.reduceLE, Int.reduceToNat]
  cases h3 : decide ((k : Int) < 2)
  · have e : k = 2 := by have := of_decide_eq_false h3; omega
    subst e
    try simp only [I, B, D, RY, ↓ KW, Nat.reduceBEq, Nat.reduceAdd, Nat.reduceLeDiff, Int.reduceNe, Int.reduceBEq, Int.reduceEq, reduceCtorEq, Nat.reduceMul, Int.reduceLT, Int.reduceLE, Int.reduceToNat, h3]
    refine back (g + 1) _ ⟨by omega, by rw [spotsTo_next hgr]; exact hno1⟩ (by omega) ?_
    refine le_tok2 (by decide) ?_ ?_ ?_ ?_ <;> simp [LX, I, B, D, hw]
  have hk2 : k < 2 := by have := of_decide_eq_true h3; omega
  have hx2 : 0 ≤ (k : Int) ∧ (k : Int) < (2 : Nat) := by omega
  have hrow : (Gr.cells gr)[k]? = some (slAV intRow (gr.row k)) := by
    have : k = 0 ∨ k = 1 := by omega
    rcases this with rfl | rfl <;> rfl
  have hrl : ((gr.row k).getD []).length ≤ 1048576 := by
    have : k = 0 ∨ k = 1 := by omega
    rcases this with rfl | rfl
    exact hrs.1
    exact hrs.2
  try simp only [I, B, D, RY, ↓ KW, Nat.reduceBEq, Nat.reduceAdd, Nat.reduceLeDiff, Int.reduceNe, Int.reduceBEq, Int.reduceEq, reduceCtorEq, Nat.reduceMul, Int.reduceLT, Int.reduceLE, Int.reduceToNat, h3, hx2, hrow, a_len]
  refine aw_loop' (fun i : Nat => (⟨[(33, .dat (I i) none), (32, .dat (I (((gr.row k).getD []).length : Nat)) none), (31, .dat (slAV intRow (gr.row k)) none), (1, .dat (I p) none), (8, .dat (I g) none), (10, .dat (I k) none), (27, .dat (I k) none), (26, .dat (.agg (Gr.cells gr)) none), (21, .dat (I g) none), (20, .dat (I ((t.groups.getD []).length : Nat)) none), (19, .dat (slAV Gr.cells t.groups) none), (4, .dat (I 0) none), (5, .dat (I 0) none), (6, .dat (I 0) none), (7, .dat (B false) none)], [], [], 600⟩ : S)) (fun i => ((gr.row k).getD []).length - i) (fun i => i ≤ ((gr.row k).getD []).length ∧ ∀ x ∈ spotsTo (t.groups.getD []) g ++ grSpots gr g k ++ rowSpots g k (((gr.row k).getD []).take i), x.p ≠ p) ?_ 0 ⟨by omega, by simpa [rowSpots] using hno1⟩ ?_
  rotate_left
  · refine le_tok2 (by decide) ?_ ?_ ?_ ?_ <;> simp [LX, I, B, D]
  rintro i ⟨hi, hno2⟩ A2 back2
  have hw2 := wrap_succ (k := i) (by omega)
  try simp only [I, B, D, RY, ↓ KW, Nat.reduceBEq, Nat.reduceAdd, Nat.reduceLeDiff, Int.reduceNe, Int.reduceBEq, Int.reduceEq, reduceCtorEq, Nat.reduceMul, Int.reduceLT, Int.reduceLE, Int.reduceToNat]
  cases h4 : decide ((i : Int) < ((((gr.row k).getD []).length : Nat) : Int))
  · have e : i = ((gr.row k).getD []).length := by have := of_decide_eq_false h4; omega
    subst e
    rw [List.take_length] at hno2
    try simp only [I, B, D, RY, ↓ KW, Nat.reduceBEq, Nat.reduceAdd, Nat.reduceLeDiff, Int.reduceNe, Int.reduceBEq, Int.reduceEq, reduceCtorEq, Nat.reduceMul, Int.reduceLT, Int.reduceLE, Int.reduceToNat, h4]
    refine back1 (k + 1) _ ⟨by omega, by rw [grSpots_next, ← List.append_assoc]; exact hno2⟩ (by omega) ?_
    refine le_tok2 (by decide) ?_ ?_ ?_ ?_ <;> simp [LX, I, B, D, hw1]
  have hil : i < ((gr.row k).getD []).length := by have := of_decide_eq_true h4; omega
  obtain ⟨x, hx⟩ : ∃ x, ((gr.row k).getD [])[i]? = some x := ⟨_, List.getElem?_eq_getElem hil⟩
  try simp only [I, B, D, RY, ↓ KW, Nat.reduceBEq, Nat.reduceAdd, Nat.reduceLeDiff, Int.reduceNe, Int.reduceBEq, Int.reduceEq, reduceCtorEq, Nat.reduceMul, Int.reduceLT, Int.reduceLE, Int.reduceToNat, h4, a_rows, hx, intRow]
  refine ⟨by omega, ?_⟩
  cases h5 : x == p
  · have hnx : x ≠ p := by simpa using h5
    have hr := rowSpots_next (g := g) (k := k) hx
    try simp only [I, B, D, RY, ↓ KW, Nat.reduceBEq, Nat.reduceAdd, Nat.reduceLeDiff, Int.reduceNe, Int.reduceBEq, Int.reduceEq, reduceCtorEq, Nat.reduceMul, Int.reduceLT, Int.reduceLE, Int.reduceToNat, h5]
    refine back2 (i + 1) _ ⟨by omega, ?_⟩ (by omega) ?_
    · by_cases h8 : 0 ≤ x ∧ x < 8
      · rw [hr.1 h8, ← List.append_assoc]
        intro y hy
        rcases List.mem_append.1 hy with hy | hy
        · exact hno2 y hy
        · rw [List.mem_singleton] at hy; subst hy; exact hnx
      · rw [hr.2 h8]; exact hno2
    · refine le_tok2 (by decide) ?_ ?_ ?_ ?_ <;> simp [LX, I, B, D, hw2]
  · have ex : x = p := by simpa using h5
    subst ex
    have hfound := where_found hp hgr hk2 hx hno2
    try simp only [I, B, D, RY, ↓ KW, Nat.reduceBEq, Nat.reduceAdd, Nat.reduceLeDiff, Int.reduceNe, Int.reduceBEq, Int.reduceEq, reduceCtorEq, Nat.reduceMul, Int.reduceLT, Int.reduceLE, Int.reduceToNat, h5, hfound]
theorem pBeside.ok {fW : Nat} (hc : cFn P f = some (cc_plan_Beside fW)) (hW : pWhere.Spec (Pure P) fW) : pBeside.Spec (Pure P) f := by
  intro t p q ht
  have hl := Tb.len ht
  have hp := Tb.whole ht
  have c1 := hW t p ht
  have c2 := hW t q ht
  rw [besideR]
  generalize (whereR t p).2 = b1 at *
  generalize (whereR t q).2 = b2 at *
  generalize (whereR t p).1 = s1 at *
  generalize (whereR t q).1 = s2 at *
  refine pure_of hm hc (by show 3 ≤ 45; decide) (aw_flat (keep := []) (i := 0) ?_)
  try simp only [I, B, D, RX, ↓ KW, Nat.reduceBEq, Nat.reduceAdd, Nat.reduceLeDiff, Int.reduceNe, Int.reduceBEq, Int.reduceEq, reduceCtorEq, Nat.reduceMul, Int.reduceLT, Int.reduceLE, Int.reduceToNat, cc_plan_Beside, Z.H, hp]
  refine call_is c1 ?_
  try simp only [I, B, D, RX, ↓ KW, Nat.reduceBEq, Nat.reduceAdd, Nat.reduceLeDiff, Int.reduceNe, Int.reduceBEq, Int.reduceEq, reduceCtorEq, Nat.reduceMul, Int.reduceLT, Int.reduceLE, Int.reduceToNat, hp]
  refine call_is c2 ?_
  cases b1
  · try simp only [I, B, D, RX, ↓ KW, Nat.reduceBEq, Nat.reduceAdd, Nat.reduceLeDiff, Int.reduceNe, Int.reduceBEq, Int.reduceEq, reduceCtorEq, Nat.reduceMul, Int.reduceLT, Int.reduceLE, Int.reduceToNat]
    rfl
  cases b2
  · try simp only [I, B, D, RX, ↓ KW, Nat.reduceBEq, Nat.reduceAdd, Nat.reduceLeDiff, Int.reduceNe, Int.reduceBEq, Int.reduceEq, reduceCtorEq, Nat.reduceMul, Int.reduceLT, Int.reduceLE, Int.reduceToNat]
    rfl
  cases h3 : s1.group == s2.group
  · try simp only [I, B, D, RX, ↓ KW, Nat.reduceBEq, Nat.reduceAdd, Nat.reduceLeDiff, Int.reduceNe, Int.reduceBEq, Int.reduceEq, reduceCtorEq, Nat.reduceMul, Int.reduceLT, Int.reduceLE, Int.reduceToNat, h3]
    rfl
  try simp only [I, B, D, RX, ↓ KW, Nat.reduceBEq, Nat.reduceAdd, Nat.reduceLeDiff, Int.reduceNe, Int.reduceBEq, Int.reduceEq, reduceCtorEq, Nat.reduceMul, Int.reduceLT, Int.reduceLE, Int.reduceToNat, h3]
  rfl
end
end Go.Eng
namespace Go.Eng
set_option linter.unusedVariables false
set_option linter.unusedSimpArgs false
set_option linter.unnecessarySimpa false
open Go
set_option linter.unusedVariables false
set_option linter.unusedSimpArgs false
set_option maxRecDepth 10000
set_option maxHeartbeats 4000000
def setN (s : Int) : List Nat := (List.range 8).filter fun p => tb s p
theorem setN_lt {s : Int} {p : Nat} (h : p ∈ setN s) : p < 8 := by simp only [setN, List.mem_filter, List.mem_range] at h; exact h.1
theorem setN_tb {s : Int} {p : Nat} (h : p ∈ setN s) : tb s p = true := by simp only [setN, List.mem_filter, List.mem_range] at h; exact h.2
theorem setN_mem {s : Int} {p : Nat} (h8 : p < 8) (h : tb s p = true) : p ∈ setN s := by simp only [setN, List.mem_filter, List.mem_range]; exact ⟨h8, h⟩
theorem listS_N (s : Int) : listS s = (setN s).map fun (k : Nat) => (k : Int) := by
  simp only [listS, setN, List.filter_map]
  congr 1
  apply List.filter_congr
  intro k hk
  have h8 : k < 8 := List.mem_range.1 hk
  simp only [Function.comp]
  rw [hasR_tb h8]
def flAt (t : Tb) (p : Nat) : Int := t.flash.getD p 0
theorem Tb.Ln.fl_at {t : Tb} (h : t.Ln) {p : Nat} (hp : p < 8) : t.cells[121 + p]? = some (I (flAt t p)) := by
  have e : t.cells[121 + p]? = (t.cells.drop 121)[p]? := by rw [List.getElem?_drop]
  have e1 : t.cells.drop 121 = (t.cells.drop 105).drop 16 := by rw [List.drop_drop]
  have e2 : ∀ l : List AV, l.drop 16 = (l.drop 8).drop 8 := fun l => by rw [List.drop_drop]
  rw [e, e1, tb_drop105 h, e2, List.drop_left' (by simp [h.conflict])]
  simp only [List.drop_succ_cons, List.drop_zero]
  have hp2 : p < t.flash.length := by rw [h.flash]; exact hp
  rw [List.getElem?_append_left (by simpa using hp2)]
  simp [flAt, hp2]
def clT (t : Tb) (p q : Nat) : Bool := tb (conAt t p) q || tb (conAt t q) p
def phBad (x : Ph) : Bool :=
  (((((decide (x.min < 1) || decide (x.yellow < 10)) || decide (x.max < x.min)) || decide (x.top < x.max)) || (decide (x.step < 1) && decide (x.top > x.max))) || ((x.walk == 0) != (x.blinks == 0))) || (x.recall == 3 && x.walk == 0)
def clashesE (t : Tb) (s : Int) : Bool := (setN s).any fun p => (setN s).any fun q => ((p : Int) != (q : Int)) && clT t p q
def apartE (t : Tb) (s : Int) : Bool := (setN s).any fun p => (setN s).any fun q => ((p : Int) != (q : Int)) && !besideR t p q
def confQ (t : Tb) (p q : Nat) : Bool := (tb (conAt t p) q != tb (conAt t q) p) || (tb (conAt t p) q && besideR t p q)
def confBad (t : Tb) (on : Int) (p : Nat) : Bool := tb (conAt t p) p || (setN on).any (confQ t p)
def detBad (on : Int) (d : Det) : Bool := gtF d.off d.on || !hasS on d.phase
def railBad (t : Tb) (on : Int) (r : Rl) : Bool :=
  (((((((((((bAndNot .i64 (bOr .i64 (bOr .i64 (bOr .i64 r.bars r.clear) r.dwell) r.exit) on != 0) || r.dwell == 0) || r.exit == 0) || bAnd .i64 r.dwell r.bars != 0) || clashesE t r.clear) || clashesE t r.dwell) || clashesE t r.exit) || apartE t r.exit) ||
    (decide (r.hold > 0) != (r.clear != 0))) || decide (r.green < 1)) || decide (r.stay < 1)) || (decide (r.most > 0) && decide (r.most < r.stay)) || decide (r.limit ≤ r.delay)
def busBad (on : Int) (b : Bs) : Bool := (b.set == 0 || bAndNot .i64 b.set on != 0) || decide (b.lock < 1)
def flQ (t : Tb) (p q : Nat) : Bool := (((q : Int) != (p : Int)) && flAt t p == 2) && flAt t q == 2
def flBad (t : Tb) (on : Int) (p : Nat) : Bool := flAt t p == 0 || (setN (bAnd .i64 (conAt t p) on)).any (flQ t p)
def fltC (r : Int × Int) : List AV := [I r.1, I r.2]
def firstN (code : Int) (n : Nat) (w : Nat → Bool) : Int × Int := match (List.range n).find? w with
  | some i => (code, i)
  | none => (0, 0)
def rowGo (on seen : Int) (l : List Int) : Option Int := l.foldlM (fun s p => if !hasS on p || hasS s p then none else some (withS s p)) seen
def ringL (on : Int) : List Gr → Nat → Int → Int × Int
  | [], _, seen => if seen == on then (0, 0) else (8, 0)
  | r :: rs, g, seen => match (if (r.a.getD []).length + (r.b.getD []).length = 0 then none else rowGo on seen (r.a.getD [] ++ r.b.getD [])) with
    | none => (8, g)
    | some s => ringL on rs (g + 1) s
def ringE (t : Tb) (on : Int) : Int × Int := if (t.groups.getD []).length = 0 then (8, 0) else ringL on (t.groups.getD []) 0 0
def cBad.Spec (C : Con) (f : Nat) : Prop := ∀ c a : Int, C.c f [I c, I a] (.agg (fltC (c, a))) none
def cNone.Spec (C : Con) (f : Nat) : Prop := C.c f [] (.agg (fltC (0, 0))) none
def cPhase.Spec (C : Con) (f : Nat) : Prop := ∀ x : Ph, C.c f [.agg x.cells] (B (phBad x)) none
def cClash.Spec (C : Con) (f : Nat) : Prop := ∀ (t : Tb) (p q : Nat), t.Ln → p < 8 → q < 8 → C.c f [.agg t.cells, I p, I q] (B (clT t p q)) none
def cClashes.Spec (C : Con) (f : Nat) : Prop := ∀ (t : Tb) (s : Int), t.Ln → C.c f [.agg t.cells, I s] (B (clashesE t s)) none
def cApart.Spec (C : Con) (f : Nat) : Prop := ∀ (t : Tb) (s : Int), t.Ok → C.c f [.agg t.cells, I s] (B (apartE t s)) none
def cConf.Spec (C : Con) (f : Nat) : Prop := ∀ (t : Tb) (on : Int) (p : Nat), t.Ok → p < 8 → C.c f [.agg t.cells, I on, I p] (B (confBad t on p)) none
def cRail.Spec (C : Con) (f : Nat) : Prop := ∀ (t : Tb) (on : Int) (r : Rl), t.Ok → C.c f [.agg t.cells, I on, .agg r.cells] (B (railBad t on r)) none
def cFlash.Spec (C : Con) (f : Nat) : Prop := ∀ (t : Tb) (on : Int) (p : Nat), t.Ln → p < 8 → C.c f [.agg t.cells, I on, I p] (B (flBad t on p)) none
def cFirst.Spec (C : Con) (f : Nat) : Prop := ∀ (code : Int) (n g : Nat) (fs cs : List AV) (w : Nat → Bool), n ≤ 1000000000 → (∀ i, i < n → C.c g (fs ++ [I i] ++ cs) (B (w i)) none) → C.c f [I code, I n, .fn (.func g) fs cs] (.agg (fltC (firstN code n w))) none
def cRings.Spec (C : Con) (f : Nat) : Prop := ∀ (t : Tb) (on : Int), t.Ok → C.c f [.agg t.cells, I on] (.agg (fltC (ringE t on))) none
set_option linter.defProp false
def BNW := And.intro (show (false != false) = false from rfl) (And.intro (show (true != true) = false from rfl) (And.intro (show (true != false) = true from rfl) (And.intro (show (false != true) = true from rfl)
  (And.intro (show (false == false) = true from rfl) (And.intro (show (true == true) = true from rfl) (And.intro (show (true == false) = false from rfl) (show (false == true) = false from rfl)))))))
theorem first_go {n : Nat} {w : Nat → Bool} {k : Nat} (hk : k < n) (hno : ∀ i, i < k → w i = false) (h : w k = true) (code : Int) : firstN code n w = (code, (k : Int)) := by
  have : (List.range n).find? w = some k := by
    rw [List.find?_range_eq_some]
    exact ⟨h, List.mem_range.2 hk, fun j hj => by rw [hno j hj]; rfl⟩
  simp only [firstN, this]
theorem first_none {n : Nat} {w : Nat → Bool} (hno : ∀ i, i < n → w i = false) (code : Int) : firstN code n w = (0, 0) := by
  have : (List.range n).find? w = none := by
    rw [List.find?_eq_none]; intro i hi; rw [hno i (List.mem_range.1 hi)]; simp
  simp only [firstN, this]
section
variable {P : Program} (hm : P.follows .mixedOrders = true) {f : Nat}
include hm
theorem cBad.ok (hc : cFn P f = some cc_check_bad) : cBad.Spec (Pure P) f := by
  intro c a
  refine pure_of hm hc (by show 2 ≤ 8; decide) (aw_flat (keep := []) (i := 0) ?_)
  try simp only [I, B, D, RX, ↓ KW, Nat.reduceBEq, Nat.reduceAdd, Nat.reduceLeDiff, Int.reduceNe, Int.reduceBEq, Int.reduceEq, reduceCtorEq, Nat.reduceMul, Int.reduceLT, Int.reduceLE, Int.reduceToNat, cc_check_bad, Z.H]
  try rfl
theorem cNone.ok (hc : cFn P f = some cc_check_none) : cNone.Spec (Pure P) f := by
  show (Pure P).c f [] (.agg (fltC (0, 0))) none
  refine pure_of hm hc (by show 0 ≤ 2; decide) (aw_flat (keep := []) (i := 0) ?_)
  try simp only [I, B, D, RX, ↓ KW, Nat.reduceBEq, Nat.reduceAdd, Nat.reduceLeDiff, Int.reduceNe, Int.reduceBEq, Int.reduceEq, reduceCtorEq, Nat.reduceMul, Int.reduceLT, Int.reduceLE, Int.reduceToNat, cc_check_none, Z.H]
  try rfl
theorem cPhase.ok (hc : cFn P f = some cc_check_phase) : cPhase.Spec (Pure P) f := by
  intro x
  rw [phBad]
  refine pure_of hm hc (by show 1 ≤ 56; decide) (aw_flat (keep := []) (i := 0) ?_)
  try simp only [I, B, D, RX, ↓ KW, Nat.reduceBEq, Nat.reduceAdd, Nat.reduceLeDiff, Int.reduceNe, Int.reduceBEq, Int.reduceEq, reduceCtorEq, Nat.reduceMul, Int.reduceLT, Int.reduceLE, Int.reduceToNat, cc_check_phase, Z.H, Ph.cells]
  cases h1 : decide (x.min < 1)
  rotate_left
  · try simp only [I, B, D, RX, ↓ KW, Nat.reduceBEq, Nat.reduceAdd, Nat.reduceLeDiff, Int.reduceNe, Int.reduceBEq, Int.reduceEq, reduceCtorEq, Nat.reduceMul, Int.reduceLT, Int.reduceLE, Int.reduceToNat, h1]
  try simp only [I, B, D, RX, ↓ KW, Nat.reduceBEq, Nat.reduceAdd, Nat.reduceLeDiff, Int.reduceNe, Int.reduceBEq, Int.reduceEq, reduceCtorEq, Nat.reduceMul, Int.reduceLT, Int.reduceLE, Int.reduceToNat, h1, Ph.cells]
  cases h2 : decide (x.yellow < 10)
  rotate_left
  · try simp only [I, B, D, RX, ↓ KW, Nat.reduceBEq, Nat.reduceAdd, Nat.reduceLeDiff, Int.reduceNe, Int.reduceBEq, Int.reduceEq, reduceCtorEq, Nat.reduceMul, Int.reduceLT, Int.reduceLE, Int.reduceToNat, h2]
  try simp only [I, B, D, RX, ↓ KW, Nat.reduceBEq, Nat.reduceAdd, Nat.reduceLeDiff, Int.reduceNe, Int.reduceBEq, Int.reduceEq, reduceCtorEq, Nat.reduceMul, Int.reduceLT, Int.reduceLE, Int.reduceToNat, h2, Ph.cells]
  cases h3 : decide (x.max < x.min)
  rotate_left
  · try simp only [I, B, D, RX, ↓ KW, Nat.reduceBEq, Nat.reduceAdd, Nat.reduceLeDiff, Int.reduceNe, Int.reduceBEq, Int.reduceEq, reduceCtorEq, Nat.reduceMul, Int.reduceLT, Int.reduceLE, Int.reduceToNat, h3]
  try simp only [I, B, D, RX, ↓ KW, Nat.reduceBEq, Nat.reduceAdd, Nat.reduceLeDiff, Int.reduceNe, Int.reduceBEq, Int.reduceEq, reduceCtorEq, Nat.reduceMul, Int.reduceLT, Int.reduceLE, Int.reduceToNat, h3, Ph.cells]
  cases h4 : decide (x.top < x.max)
  rotate_left
  · try simp only [I, B, D, RX, ↓ KW, Nat.reduceBEq, Nat.reduceAdd, Nat.reduceLeDiff, Int.reduceNe, Int.reduceBEq, Int.reduceEq, reduceCtorEq, Nat.reduceMul, Int.reduceLT, Int.reduceLE, Int.reduceToNat, h4]
  try simp only [I, B, D, RX, ↓ KW, Nat.reduceBEq, Nat.reduceAdd, Nat.reduceLeDiff, Int.reduceNe, Int.reduceBEq, Int.reduceEq, reduceCtorEq, Nat.reduceMul, Int.reduceLT, Int.reduceLE, Int.reduceToNat, h4, Ph.cells]
  generalize hw0 : (x.walk == 0) = w0
  generalize hb0 : (x.blinks == 0) = b0
  generalize hr3 : (x.recall == 3) = r3
  cases h5 : decide (x.step < 1)
  · try simp only [I, B, D, RX, ↓ KW, Nat.reduceBEq, Nat.reduceAdd, Nat.reduceLeDiff, Int.reduceNe, Int.reduceBEq, Int.reduceEq, reduceCtorEq, Nat.reduceMul, Int.reduceLT, Int.reduceLE, Int.reduceToNat, h5, Ph.cells, hw0, hb0, hr3]
    cases w0 <;> cases b0
    all_goals try simp only [I, B, D, RX, ↓ KW, Nat.reduceBEq, Nat.reduceAdd, Nat.reduceLeDiff, Int.reduceNe, Int.reduceBEq, Int.reduceEq, reduceCtorEq, Nat.reduceMul, Int.reduceLT, Int.reduceLE, Int.reduceToNat, hw0, hb0, hr3, BNW]
    all_goals cases r3
    all_goals try simp only [I, B, D, RX, ↓ KW, Nat.reduceBEq, Nat.reduceAdd, Nat.reduceLeDiff, Int.reduceNe, Int.reduceBEq, Int.reduceEq, reduceCtorEq, Nat.reduceMul, Int.reduceLT, Int.reduceLE, Int.reduceToNat, hw0, hb0, hr3, BNW]
    all_goals try rfl
  · try simp only [I, B, D, RX, ↓ KW, Nat.reduceBEq, Nat.reduceAdd, Nat.reduceLeDiff, Int.reduceNe, Int.reduceBEq, Int.reduceEq, reduceCtorEq, Nat.reduceMul, Int.reduceLT, Int.reduceLE, Int.reduceToNat, h5, Ph.cells]
    cases h6 : decide (x.top > x.max)
    rotate_left
    · try simp only [I, B, D, RX, ↓ KW, Nat.reduceBEq, Nat.reduceAdd, Nat.reduceLeDiff, Int.reduceNe, Int.reduceBEq, Int.reduceEq, reduceCtorEq, Nat.reduceMul, Int.reduceLT, Int.reduceLE, Int.reduceToNat, h6]
      rfl
    try simp only [I, B, D, RX, ↓ KW, Nat.reduceBEq, Nat.reduceAdd, Nat.reduceLeDiff, Int.reduceNe, Int.reduceBEq, Int.reduceEq, reduceCtorEq, Nat.reduceMul, Int.reduceLT, Int.reduceLE, Int.reduceToNat, h6, Ph.cells, hw0, hb0, hr3]
    cases w0 <;> cases b0
    all_goals try simp only [I, B, D, RX, ↓ KW, Nat.reduceBEq, Nat.reduceAdd, Nat.reduceLeDiff, Int.reduceNe, Int.reduceBEq, Int.reduceEq, reduceCtorEq, Nat.reduceMul, Int.reduceLT, Int.reduceLE, Int.reduceToNat, hw0, hb0, hr3, BNW]
    all_goals cases r3
    all_goals try simp only [I, B, D, RX, ↓ KW, Nat.reduceBEq, Nat.reduceAdd, Nat.reduceLeDiff, Int.reduceNe, Int.reduceBEq, Int.reduceEq, reduceCtorEq, Nat.reduceMul, Int.reduceLT, Int.reduceLE, Int.reduceToNat, hw0, hb0, hr3, BNW]
    all_goals try rfl
theorem cClash.ok {fH : Nat} (hc : cFn P f = some (cc_check_clash fH)) (hH : setHas.Spec (Pure P) fH) : cClash.Spec (Pure P) f := by
  intro t p q h hp hq
  have hx : 0 ≤ (p : Int) ∧ (p : Int) < (8 : Nat) := by omega
  have hy : 0 ≤ (q : Int) ∧ (q : Int) < (8 : Nat) := by omega
  have c1 := hH (conAt t p) q
  have c2 := hH (conAt t q) p
  rw [hasS_tb hq] at c1
  rw [hasS_tb hp] at c2
  rw [clT]
  generalize tb (conAt t p) q = b1 at *
  generalize tb (conAt t q) p = b2 at *
  have g1 := h.con_at hp
  have g2 := h.con_at hq
  refine pure_of hm hc (by show 3 ≤ 21; decide) (aw_flat (keep := []) (i := 0) ?_)
  try simp only [I, B, D, RX, ↓ KW, Nat.reduceBEq, Nat.reduceAdd, Nat.reduceLeDiff, Int.reduceNe, Int.reduceBEq, Int.reduceEq, reduceCtorEq, Nat.reduceMul, Int.reduceLT, Int.reduceLE, Int.reduceToNat, cc_check_clash, Z.H, hx, hy, g1, g2]
  refine call_is c1 ?_
  cases b1
  · try simp only [I, B, D, RX, ↓ KW, Nat.reduceBEq, Nat.reduceAdd, Nat.reduceLeDiff, Int.reduceNe, Int.reduceBEq, Int.reduceEq, reduceCtorEq, Nat.reduceMul, Int.reduceLT, Int.reduceLE, Int.reduceToNat, hx, hy, g1, g2]
    refine call_is c2 ?_
    try simp only [I, B, D, RX, ↓ KW, Nat.reduceBEq, Nat.reduceAdd, Nat.reduceLeDiff, Int.reduceNe, Int.reduceBEq, Int.reduceEq, reduceCtorEq, Nat.reduceMul, Int.reduceLT, Int.reduceLE, Int.reduceToNat]
  · try simp only [I, B, D, RX, ↓ KW, Nat.reduceBEq, Nat.reduceAdd, Nat.reduceLeDiff, Int.reduceNe, Int.reduceBEq, Int.reduceEq, reduceCtorEq, Nat.reduceMul, Int.reduceLT, Int.reduceLE, Int.reduceToNat]
theorem cClashes.ok {fE fC : Nat} (hc : cFn P f = some (cc_check_clashes fE fC)) (hE : each27.Spec (Pure P) fE) (hC : cClash.Spec (Pure P) fC) : cClashes.Spec (Pure P) f := by
  intro t s h
  have hw := h.whole
  have hl := h.len
  obtain ⟨g, hg, hi⟩ := hE s
  refine pure_of hm hc (by show 2 ≤ 22; decide) (aw_flat (keep := []) (i := 0) ?_)
  try simp only [I, B, D, RX, ↓ KW, Nat.reduceBEq, Nat.reduceAdd, Nat.reduceLeDiff, Int.reduceNe, Int.reduceBEq, Int.reduceEq, reduceCtorEq, Nat.reduceMul, Int.reduceLT, Int.reduceLE, Int.reduceToNat, cc_check_clashes, Z.H]
  refine call_is hg ?_
  try simp only [I, B, D, RX, ↓ KW, Nat.reduceBEq, Nat.reduceAdd, Nat.reduceLeDiff, Int.reduceNe, Int.reduceBEq, Int.reduceEq, reduceCtorEq, Nat.reduceMul, Int.reduceLT, Int.reduceLE, Int.reduceToNat]
  refine aw_rfor' (fun y : Unit => (⟨[(8, .dat (.fn (.func g) [] [.ref [.int .i64 s]]) none), (4, .ptr 6 0), (3, .ptr 5 0), (2, .ptr 4 0)], [(6, ⟨[.bool false], []⟩), (5, ⟨[.int .i64 s], []⟩), (4, ⟨t.cells, []⟩)], [], 400⟩ : S)) (fun i _ => ((setN s).take i).any (fun p => (setN s).any fun q => ((p : Int) != (q : Int)) && clT t p q) = false) hi rfl (rows_len fun _ => rfl) (fun _ => rfl) ?_ ?_ () (by simp) ?_
  · rintro i x ⟨⟩ hx hno F back
    obtain ⟨p, hp, rfl⟩ := map_at hx
    have hp : (setN s)[i]? = some p := hp
    have h8 := setN_lt (List.mem_of_getElem? hp)
    have hnext := any_take hno hp
    have hyes : ((setN s).any fun q => ((p : Int) != (q : Int)) && clT t p q) = true → clashesE t s = true := fun e => any_yes hp e
    try simp only [I, B, D, RX, ↓ KW, Nat.reduceBEq, Nat.reduceAdd, Nat.reduceLeDiff, Int.reduceNe, Int.reduceBEq, Int.reduceEq, reduceCtorEq, Nat.reduceMul, Int.reduceLT, Int.reduceLE, Int.reduceToNat]
    refine call_is hg ?_
    try simp only [I, B, D, RX, ↓ KW, Nat.reduceBEq, Nat.reduceAdd, Nat.reduceLeDiff, Int.reduceNe, Int.reduceBEq, Int.reduceEq, reduceCtorEq, Nat.reduceMul, Int.reduceLT, Int.reduceLE, Int.reduceToNat]
    refine aw_rfor' (fun y : Unit => (⟨[(11, .dat (.fn (.func g) [] [.ref [.int .i64 s]]) none), (8, .dat (.fn (.func g) [] [.ref [.int .i64 s]]) none), (4, .ptr 6 0), (9, .dat (I p) none), (3, .ptr 5 0), (2, .ptr 4 0), (5, .ptr 400 0)], [(400, ⟨[I p], []⟩), (6, ⟨[.bool false], []⟩), (5, ⟨[.int .i64 s], []⟩), (4, ⟨t.cells, []⟩)], [], 500⟩ : S)) (fun j _ => ((setN s).take j).any (fun q => ((p : Int) != (q : Int)) && clT t p q) = false) hi rfl (rows_len fun _ => rfl) (fun _ => rfl) ?_ ?_ () (by simp) ?_
    · rintro j y ⟨⟩ hy hno2 F2 back2
      obtain ⟨q, hq, rfl⟩ := map_at hy
      have hq : (setN s)[j]? = some q := hq
      have hq8 := setN_lt (List.mem_of_getElem? hq)
      have hnext2 := any_take hno2 hq
      have hyes2 : (((p : Int) != (q : Int)) && clT t p q) = true → clashesE t s = true := fun e => hyes (any_yes hq e)
      have hcl := hC t p q h h8 hq8
      try simp only [I, B, D, RX, ↓ KW, Nat.reduceBEq, Nat.reduceAdd, Nat.reduceLeDiff, Int.reduceNe, Int.reduceBEq, Int.reduceEq, reduceCtorEq, Nat.reduceMul, Int.reduceLT, Int.reduceLE, Int.reduceToNat]
      generalize hpq : ((p : Int) != (q : Int)) = bpq at *
      generalize clT t p q = bcl at *
      cases bpq
      · try simp only [I, B, D, RX, ↓ KW, Nat.reduceBEq, Nat.reduceAdd, Nat.reduceLeDiff, Int.reduceNe, Int.reduceBEq, Int.reduceEq, reduceCtorEq, Nat.reduceMul, Int.reduceLT, Int.reduceLE, Int.reduceToNat, hpq]
        refine back2 () _ (by simpa using hnext2) ?_
        refine le_tok2 (by decide) ?_ ?_ ?_ ?_ <;> simp [LX, I, B, D]
      · try simp only [I, B, D, RX, ↓ KW, Nat.reduceBEq, Nat.reduceAdd, Nat.reduceLeDiff, Int.reduceNe, Int.reduceBEq, Int.reduceEq, reduceCtorEq, Nat.reduceMul, Int.reduceLT, Int.reduceLE, Int.reduceToNat, hpq, hw]
        refine call_is hcl ?_
        cases bcl
        · try simp only [I, B, D, RX, ↓ KW, Nat.reduceBEq, Nat.reduceAdd, Nat.reduceLeDiff, Int.reduceNe, Int.reduceBEq, Int.reduceEq, reduceCtorEq, Nat.reduceMul, Int.reduceLT, Int.reduceLE, Int.reduceToNat]
          refine back2 () _ (by simpa using hnext2) ?_
          refine le_tok2 (by decide) ?_ ?_ ?_ ?_ <;> simp [LX, I, B, D]
        · try simp only [I, B, D, RX, ↓ KW, Nat.reduceBEq, Nat.reduceAdd, Nat.reduceLeDiff, Int.reduceNe, Int.reduceBEq, Int.reduceEq, reduceCtorEq, Nat.reduceMul, Int.reduceLT, Int.reduceLE, Int.reduceToNat]
          exact (hyes2 rfl).symm ▸ rfl
    · rintro ⟨⟩ hno2
      try simp only [I, B, D, RX, ↓ KW, Nat.reduceBEq, Nat.reduceAdd, Nat.reduceLeDiff, Int.reduceNe, Int.reduceBEq, Int.reduceEq, reduceCtorEq, Nat.reduceMul, Int.reduceLT, Int.reduceLE, Int.reduceToNat]
      refine back () _ ?_ ?_
      · rw [hnext]; rw [List.take_of_length_le (by simp [setN])] at hno2; exact hno2
      · refine le_tok2 (by decide) ?_ ?_ ?_ ?_ <;> simp [LX, I, B, D]
    · refine le_tok2 (by decide) ?_ ?_ ?_ ?_ <;> simp [LX, I, B, D]
  · rintro ⟨⟩ hno
    try simp only [I, B, D, RX, ↓ KW, Nat.reduceBEq, Nat.reduceAdd, Nat.reduceLeDiff, Int.reduceNe, Int.reduceBEq, Int.reduceEq, reduceCtorEq, Nat.reduceMul, Int.reduceLT, Int.reduceLE, Int.reduceToNat]
    have : clashesE t s = false := by
      rw [List.take_of_length_le (by simp [setN])] at hno; exact hno
    rw [this]
  · refine le_tok2 (by decide) ?_ ?_ ?_ ?_ <;> simp [LX, I, B, D]
end
end Go.Eng
