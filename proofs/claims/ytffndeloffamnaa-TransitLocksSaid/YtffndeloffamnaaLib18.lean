/- LIBRARY, PART 18: the laws of chapter 15 (calls). -/
import Derived.Test.YtffndeloffamnaaLib17
namespace Go.Eng
set_option linter.unnecessarySimpa false
open Go
set_option linter.unusedVariables false
set_option linter.unusedSimpArgs false
set_option maxRecDepth 10000
set_option maxHeartbeats 4000000
def awake15.Spec (C : Con) (f : Nat) : Prop := C.c f [] (B true) none
def recall.Spec (C : Con) (f : Nat) : Prop := ∀ (l : Option (List Int)) (p : Int) (green walk : Bool), C.c f [slAV intRow l, I p, B green, B walk] (B true) none
def kept.Spec (C : Con) (f : Nat) : Prop := ∀ (l row : Option (List Int)), C.c f [slAV intRow l, slAV intRow row] (B true) none
def more.Spec (C : Con) (f : Nat) : Prop := ∀ (l : Option (List Int)) (c : Cs) (here push more green walk : Int), C.c f [slAV intRow l, .agg c.cells, I here, I push, I more, I green, I walk] (B true) none

/-- the chapter's example -/
def exT : Tb := { Tb0 with phases := Tb0.phases.set 2 { (default : Ph) with on := true, lock := true } }
theorem exT_ok : exT.Ok := ⟨rfl, rfl, rfl, by simp [exT, Tb0], by simp [exT, Tb0], by simp [exT, Tb0], by simp [exT, Tb0], by simp [exT, Tb0]⟩
theorem ex1 : stepC exT ⟨0, 0⟩ 4 0 0 0 = ⟨4, 0⟩ := by decide +kernel
theorem ex2 : wantI exT ⟨4, 0⟩ 0 = 4 := by decide +kernel
theorem ex3 : (stepC exT ⟨4, 0⟩ 0 0 4 0).car = 0 := by decide +kernel

theorem tb_onTo (t : Tb) (i : Nat) : tb (onI t) i = (decide (i < 8) && (phAt t i).on) := by
  rw [onI, tb_of]
  by_cases h : i < 8
  · have : ((i : Int) ∈ onTo t 8) ↔ (phAt t i).on = true := by
      simp only [onTo, List.mem_filter, List.mem_map, List.mem_range]
      exact ⟨fun h => h.2, fun h' => ⟨⟨i, h, rfl⟩, h'⟩⟩
    simp [h, this]
  · simp [h]
theorem phAt_D (t : Tb) (i : Nat) : t.phases.getD i default = phAt t i := by simp [phAt]
theorem tb_car (t : Tb) (c : Cs) (h p g w : Int) (i : Nat) : tb (stepC t c h p g w).car i = (decide (i < 8) && ((phAt t i).on && carIs g c h i (phAt t i))) := by
  simp only [stepC]; rw [tb_those _ _ 8 (by omega), phAt_D]
theorem tb_foot (t : Tb) (c : Cs) (h p g w : Int) (i : Nat) : tb (stepC t c h p g w).foot i = (decide (i < 8) && ((phAt t i).on && footIs w c p i (phAt t i))) := by
  simp only [stepC]; rw [tb_those _ _ 8 (by omega), phAt_D]
theorem tb_want (t : Tb) (c : Cs) (h : Int) (i : Nat) : tb (wantI t c h) i = (decide (i < 8) && ((phAt t i).on && wantIs c (heldI t h) i (phAt t i))) := by
  simp only [wantI]; rw [tb_those _ _ 8 (by omega), phAt_D]
theorem tb_held (t : Tb) (h : Int) (i : Nat) : tb (heldI t h) i = (decide (i < 8) && ((phAt t i).on && heldIs h i (phAt t i))) := by
  simp only [heldI]; rw [tb_those _ _ 8 (by omega), phAt_D]

theorem ne_false {x : Int} (h : x = 0) : (x != 0) = false := by simp [h]
theorem kept_facts {t : Tb} {c : Cs} {h p g w : Int} (hinv : ∀ i, (tb c.car i = true → (decide (i < 8) && (phAt t i).on) = true) ∧ (tb c.foot i = true → (decide (i < 8) && ((phAt t i).on && decide (0 < (phAt t i).walk))) = true)) :
    (bAnd .i64 (bAndNot .i64 (bAndNot .i64 c.car g) (stepC t c h p g w).car) 255 != 0) = false ∧
    (bAnd .i64 (bAndNot .i64 (bAndNot .i64 c.foot w) (stepC t c h p g w).foot) 255 != 0) = false ∧
    (bAnd .i64 (stepC t c h p g w).car g != 0) = false ∧
    (bAnd .i64 (stepC t c h p g w).foot w != 0) = false ∧
    (bAndNot .i64 (bOr .i64 (stepC t c h p g w).car (stepC t c h p g w).foot) (onI t) != 0) = false ∧
    (bAndNot .i64 (wantI t (stepC t c h p g w) h) (onI t) != 0) = false ∧
    (bAndNot .i64 (bOr .i64 (stepC t c h p g w).car (stepC t c h p g w).foot) (wantI t (stepC t c h p g w) h) != 0) = false ∧
    ∀ i, (tb (stepC t c h p g w).car i = true → (decide (i < 8) && (phAt t i).on) = true) ∧ (tb (stepC t c h p g w).foot i = true → (decide (i < 8) && ((phAt t i).on && decide (0 < (phAt t i).walk))) = true) := by
  refine ⟨ne_false (and_zero.2 fun i hi => ?_), ne_false (and_zero.2 fun i hi => ?_), ne_false (and_zero.2 fun i hi => ?_), ne_false (and_zero.2 fun i hi => ?_), ne_false (andNot_zero.2 fun i hi => ?_), ne_false (andNot_zero.2 fun i hi => ?_), ne_false (andNot_zero.2 fun i hi => ?_), fun i => ?_⟩
  · rw [tb_andNot _ _ _ hi, tb_andNot _ _ _ hi, tb_255]
    by_cases h8 : i < 8
    · have := (hinv i).1
      rw [tb_car]; simp only [carIs, hasS_tb h8, h8, decide_true] at this ⊢
      revert this
      cases tb c.car i <;> cases tb g i <;> simp_all
    · simp [h8]
  · rw [tb_andNot _ _ _ hi, tb_andNot _ _ _ hi, tb_255]
    by_cases h8 : i < 8
    · have := (hinv i).2
      rw [tb_foot]; simp only [footIs, hasS_tb h8, h8, decide_true] at this ⊢
      revert this
      cases tb c.foot i <;> cases tb w i <;> simp_all
    · simp [h8]
  · by_cases h8 : i < 8
    · rw [tb_car]; simp only [carIs, hasS_tb h8]
      cases tb g i <;> simp
    · rw [tb_car]; simp [h8]
  · by_cases h8 : i < 8
    · rw [tb_foot]; simp only [footIs, hasS_tb h8]
      cases tb w i <;> simp
    · rw [tb_foot]; simp [h8]
  · rw [tb_or, tb_car, tb_foot, tb_onTo]
    cases decide (i < 8) <;> cases (phAt t i).on <;> simp
  · rw [tb_want, tb_onTo]
    cases decide (i < 8) <;> cases (phAt t i).on <;> simp
  · by_cases h8 : i < 8
    · rw [tb_or, tb_want]; simp only [wantIs, hasS_tb h8]
      have hf : tb (stepC t c h p g w).foot i = true → (decide (0 < (phAt t i).walk)) = true := by
        rw [tb_foot]; simp [footIs]; intros; assumption
      have ho : tb (stepC t c h p g w).car i = true → (phAt t i).on = true := by rw [tb_car]; simp; intros; assumption
      have ho2 : tb (stepC t c h p g w).foot i = true → (phAt t i).on = true := by rw [tb_foot]; simp; intros; assumption
      cases h1 : tb (stepC t c h p g w).car i <;> cases h2 : tb (stepC t c h p g w).foot i <;> simp_all
    · rw [tb_or, tb_car, tb_foot]; simp [h8]
  · constructor
    · rw [tb_car]; simp; intros; simp_all
    · rw [tb_foot]; simp [footIs]; intros; simp_all

theorem eq_true' {x : Int} (h : x = 0) : (x == 0) = true := by simp [h]
theorem more_facts (t : Tb) (c : Cs) (here push more m8 m16 m24 green walk : Int) :
    (bAndNot .i64 (stepC t c here push green walk).car (stepC t ⟨bOr .i64 c.car more, bOr .i64 c.foot m8⟩ (bOr .i64 here m16) (bOr .i64 push m24) green walk).car == 0) = true ∧
    (bAndNot .i64 (stepC t c here push green walk).foot (stepC t ⟨bOr .i64 c.car more, bOr .i64 c.foot m8⟩ (bOr .i64 here m16) (bOr .i64 push m24) green walk).foot == 0) = true ∧
    (bAndNot .i64 (wantI t (stepC t c here push green walk) here) (wantI t (stepC t ⟨bOr .i64 c.car more, bOr .i64 c.foot m8⟩ (bOr .i64 here m16) (bOr .i64 push m24) green walk) (bOr .i64 here m16)) == 0) = true := by
  have h1 : ∀ i, tb (stepC t c here push green walk).car i = true → tb (stepC t ⟨bOr .i64 c.car more, bOr .i64 c.foot m8⟩ (bOr .i64 here m16) (bOr .i64 push m24) green walk).car i = true := by
    intro i
    by_cases h8 : i < 8
    · rw [tb_car, tb_car]; simp only [carIs, hasS_tb h8, tb_or]
      cases tb green i <;> cases tb c.car i <;> cases tb here i <;> simp
      all_goals (intros; grind)
    · rw [tb_car]; simp [h8]
  have h2 : ∀ i, tb (stepC t c here push green walk).foot i = true → tb (stepC t ⟨bOr .i64 c.car more, bOr .i64 c.foot m8⟩ (bOr .i64 here m16) (bOr .i64 push m24) green walk).foot i = true := by
    intro i
    by_cases h8 : i < 8
    · rw [tb_foot, tb_foot]; simp only [footIs, hasS_tb h8, tb_or]
      cases tb walk i <;> cases tb c.foot i <;> cases tb push i <;> simp
      all_goals (intros; grind)
    · rw [tb_foot]; simp [h8]
  have h3 : ∀ i, tb (heldI t here) i = true → tb (heldI t (bOr .i64 here m16)) i = true := by
    intro i
    by_cases h8 : i < 8
    · rw [tb_held, tb_held]; simp only [heldIs, hasS_tb h8, tb_or]
      cases tb here i <;> simp
      all_goals (intros; grind)
    · rw [tb_held]; simp [h8]
  refine ⟨eq_true' (andNot_zero.2 fun i _ => ?_), eq_true' (andNot_zero.2 fun i _ => ?_), eq_true' (andNot_zero.2 fun i _ => ?_)⟩
  · have := h1 i; revert this
    cases tb (stepC t c here push green walk).car i <;> simp
  · have := h2 i; revert this
    cases tb (stepC t c here push green walk).foot i <;> simp
  · by_cases h8 : i < 8
    · have a1 := h1 i
      have a2 := h2 i
      have a3 := h3 i
      rw [tb_want, tb_want]; simp only [wantIs, hasS_tb h8]
      revert a1 a2 a3
      cases tb (stepC t c here push green walk).car i <;> cases tb (stepC t c here push green walk).foot i <;> cases tb (heldI t here) i <;> simp
      all_goals intros; simp_all
    · rw [tb_want]; simp [h8]

theorem phTo_foot (l : Option (List Int)) : ∀ n, ∀ x ∈ phTo l n, x.recall = 3 → 0 < x.walk
  | 0, x, hx => by
    simp only [phTo] at hx
    rw [List.eq_of_mem_replicate hx]
    intro h; exact absurd h (by decide)
  | n + 1, x, hx => by
    simp only [phTo] at hx
    rcases List.mem_or_eq_of_mem_set hx with hx | rfl
    · exact phTo_foot l n x hx
    · intro h
      simp only [phaseOf] at h ⊢
      by_cases hw : frm l (w64 (10 + 12 * (n : Int) + 7)) 2 = 1
      · have h2 := frm_range l (w64 (10 + 12 * (n : Int) + 8)) (n := 10) (by decide) (by decide)
        simp only [hw, if_true]
        rw [w64, wrap_id (by omega) (by omega)]; omega
      · simp only [hw, if_false] at h
        split at h
        · omega
        · rename_i hh
          exact absurd (Or.inr ⟨h, trivial⟩) hh
theorem table_foot (l : Option (List Int)) (k : Int) : (phAt (tableOf l) k).recall = 3 → 0 < (phAt (tableOf l) k).walk := by
  by_cases h : k.toNat < (tableOf l).phases.length
  · exact phTo_foot l _ _ (by
      have e : phAt (tableOf l) k = (tableOf l).phases[k.toNat] := by simp [phAt, h]
      rw [e]; exact List.getElem_mem h)
  · have : phAt (tableOf l) k = default := by simp [phAt]; rw [List.getElem?_eq_none (by omega)]; rfl
    rw [this]; intro h; exact absurd h (by decide)

theorem recall_facts {t : Tb} {k : Int} (h0 : 0 ≤ k) (h8 : k < 8) (green walk : Bool) (hf : (phAt t k).recall = 3 → 0 < (phAt t k).walk) :
    hasR (stepC t ⟨0, 0⟩ 0 0 (if green then ofI [k] else 0) (if walk then ofI [k] else 0)).car k = ((phAt t k).on && (!green && ((phAt t k).recall == 1 || (phAt t k).recall == 2))) ∧
    hasR (stepC t ⟨0, 0⟩ 0 0 (if green then ofI [k] else 0) (if walk then ofI [k] else 0)).foot k = ((phAt t k).on && (!walk && (phAt t k).recall == 3)) ∧
    hasR (heldI t 0) k = ((phAt t k).on && (phAt t k).recall == 2) ∧
    hasR (wantI t (stepC t ⟨0, 0⟩ 0 0 (if green then ofI [k] else 0) (if walk then ofI [k] else 0)) 0) k = (((phAt t k).on && (!green && ((phAt t k).recall == 1 || (phAt t k).recall == 2))) || ((phAt t k).on && (!walk && (phAt t k).recall == 3)) || ((phAt t k).on && (phAt t k).recall == 2)) := by
  obtain ⟨n, rfl⟩ := Int.eq_ofNat_of_zero_le h0
  have hn : n < 8 := by omega
  have hg : ∀ b : Bool, tb (if b then ofI [(n : Int)] else 0) n = b := by intro b; cases b <;> simp [tb_zero, tb_of, hn]
  have f1 : tb (stepC t ⟨0, 0⟩ 0 0 (if green then ofI [(n : Int)] else 0) (if walk then ofI [(n : Int)] else 0)).car n = ((phAt t n).on && (!green && ((phAt t n).recall == 1 || (phAt t n).recall == 2))) := by
    rw [tb_car]; simp only [carIs, hasS_tb hn, hg, tb_zero, hn, decide_true]; simp
  have f2 : tb (stepC t ⟨0, 0⟩ 0 0 (if green then ofI [(n : Int)] else 0) (if walk then ofI [(n : Int)] else 0)).foot n = ((phAt t n).on && (!walk && (phAt t n).recall == 3)) := by
    rw [tb_foot]; simp only [footIs, hasS_tb hn, hg, tb_zero, hn, decide_true]
    by_cases h3 : (phAt t n).recall = 3
    · simp [h3, hf h3]
    · have : ((phAt t n).recall == 3) = false := by simpa using h3
      simp [this]
  have f3 : tb (heldI t 0) n = ((phAt t n).on && (phAt t n).recall == 2) := by
    rw [tb_held]; simp only [heldIs, hasS_tb hn, tb_zero, hn, decide_true]; simp
  rw [hasR_tb hn, hasR_tb hn, hasR_tb hn, hasR_tb hn]
  refine ⟨f1, f2, f3, ?_⟩
  rw [tb_want]; simp only [wantIs, hasS_tb hn, hn, decide_true, f1, f2, f3]
  by_cases h3 : (phAt t n).recall = 3
  · have := hf h3
    cases (phAt t n).on <;> cases green <;> cases walk <;> simp [h3, this]
  · have : ((phAt t n).recall == 3) = false := by simpa using h3
    cases (phAt t n).on <;> cases green <;> cases walk <;> simp [this]

section
variable {P : Program} (hm : P.follows .mixedOrders = true) {f : Nat}
include hm
theorem awake15.ok {fS fW : Nat} (hc : cFn P f = some (cc_law15_awake fS fW)) (hS : Step.Spec (Pure P) fS) (hW : Want.Spec (Pure P) fW) : awake15.Spec (Pure P) f := by
  have ok0 : Tb0.Ln := ⟨rfl, rfl, rfl⟩
  have hl0 := ok0.len
  have hs0 : setCells Tb0.cells 26 [AV.bool true, AV.int .i64 0, AV.int .i64 0, AV.int .i64 0, AV.int .i64 0, AV.int .i64 0, AV.int .i64 0, AV.int .i64 0, AV.int .i64 0, AV.int .i64 0, AV.int .i64 0, AV.bool true, AV.bool false] = exT.cells := ok0.set_phase (i := 2) (by omega) { (default : Ph) with on := true, lock := true }
  have hw := exT_ok.ln.whole
  have hl := exT_ok.ln.len
  refine pure_of hm hc (by show 0 ≤ 25; decide) (aw_flat (keep := []) (i := 0) ?_)
  try simp only [I, B, D, RW, ↓ KW, fillA, stTags, flat, Nat.reduceBEq, Nat.reduceAdd, Nat.reduceLeDiff, Int.reduceNe, Int.reduceBEq, Int.reduceEq, reduceCtorEq, Nat.reduceMul, Int.reduceLT, Int.reduceLE, Int.reduceToNat, cc_law15_awake, z131_is, z13_14216, hs0, hl0]
  refine ⟨by decide, ?_⟩
  try simp only [I, B, D, RW, ↓ KW, fillA, stTags, flat, Nat.reduceBEq, Nat.reduceAdd, Nat.reduceLeDiff, Int.reduceNe, Int.reduceBEq, Int.reduceEq, reduceCtorEq, Nat.reduceMul, Int.reduceLT, Int.reduceLE, Int.reduceToNat, hs0, hl0, hw]
  have c1 := hS exT ⟨0, 0⟩ 4 0 0 0 exT_ok
  have c2 := hW exT ⟨4, 0⟩ 0 exT_ok
  have c3 := hS exT ⟨4, 0⟩ 0 0 4 0 exT_ok
  rw [ex1] at c1
  rw [ex2] at c2
  have e3 := ex3
  generalize stepC exT ⟨4, 0⟩ 0 0 4 0 = z at *
  simp only [Cs.cells] at c1 c2 c3
  refine call_is c1 ?_
  try simp only [I, B, D, RW, ↓ KW, fillA, stTags, flat, Nat.reduceBEq, Nat.reduceAdd, Nat.reduceLeDiff, Int.reduceNe, Int.reduceBEq, Int.reduceEq, reduceCtorEq, Nat.reduceMul, Int.reduceLT, Int.reduceLE, Int.reduceToNat, hw, hs0, set_all, beq_self_eq_true]
  refine call_is c2 ?_
  try simp only [I, B, D, RW, ↓ KW, fillA, stTags, flat, Nat.reduceBEq, Nat.reduceAdd, Nat.reduceLeDiff, Int.reduceNe, Int.reduceBEq, Int.reduceEq, reduceCtorEq, Nat.reduceMul, Int.reduceLT, Int.reduceLE, Int.reduceToNat, hw, hs0, set_all, beq_self_eq_true]
  refine call_is c3 ?_
  try simp only [I, B, D, RW, ↓ KW, fillA, stTags, flat, Nat.reduceBEq, Nat.reduceAdd, Nat.reduceLeDiff, Int.reduceNe, Int.reduceBEq, Int.reduceEq, reduceCtorEq, Nat.reduceMul, Int.reduceLT, Int.reduceLE, Int.reduceToNat, hw, hs0, e3, beq_self_eq_true]

theorem kept.ok {fT fO fS fW fA : Nat} (hc : cFn P f = some (cc_law15_CallsKept fT fO fS fW fA)) (hT : Table.Spec (Pure P) fT) (hO : on.Spec (Pure P) fO) (hS : Step.Spec (Pure P) fS) (hW : Want.Spec (Pure P) fW) (hA : awake15.Spec (Pure P) fA) : kept.Spec (Pure P) f := by
  intro l row
  have ht := tableOf_ok l
  generalize hTe : tableOf l = t at *
  have hw := ht.ln.whole
  have hl := ht.ln.len
  have hz : z131_45020.length = 131 := rfl
  refine pure_of hm hc (by show 2 ≤ 121; decide) (aw_flat (keep := [0]) (i := 0) ?_)
  try simp only [I, B, D, RW, ↓ KW, fillA, stTags, flat, Nat.reduceBEq, Nat.reduceAdd, Nat.reduceLeDiff, Int.reduceNe, Int.reduceBEq, Int.reduceEq, reduceCtorEq, Nat.reduceMul, Int.reduceLT, Int.reduceLE, Int.reduceToNat, cc_law15_CallsKept]
  refine call_is (hT l) ?_
  rw [hTe]
  try simp only [I, B, D, RW, ↓ KW, fillA, stTags, flat, Nat.reduceBEq, Nat.reduceAdd, Nat.reduceLeDiff, Int.reduceNe, Int.reduceBEq, Int.reduceEq, reduceCtorEq, Nat.reduceMul, Int.reduceLT, Int.reduceLE, Int.reduceToNat, hl, hz, set_all, hw]
  refine call_is (hO t ht) ?_
  try simp only [I, B, D, RW, ↓ KW, fillA, stTags, flat, Nat.reduceBEq, Nat.reduceAdd, Nat.reduceLeDiff, Int.reduceNe, Int.reduceBEq, Int.reduceEq, reduceCtorEq, Nat.reduceMul, Int.reduceLT, Int.reduceLE, Int.reduceToNat]
  refine aw_cut (.exit 0) (fun _ : Unit => (⟨[], [], [], 400⟩ : S)) (fun _ => True) (fun _ => rfl) ?_ ?_
  · refine aw_loop' (fun k : Nat × Cs => (⟨[(8, .dat (I (k.1 : Nat)) none), (1, .dat (slAV intRow row) none), (5, .ptr 7 0), (6, .dat (I (onI t)) none), (7, .ptr 12 0)], [(7, ⟨t.cells, []⟩), (12, ⟨k.2.cells, []⟩)], [], 400⟩ : S)) (fun k => (row.getD []).length - k.1)
      (fun k => k.1 ≤ 244 ∧ ∀ i, (tb k.2.car i = true → (decide (i < 8) && (phAt t i).on) = true) ∧ (tb k.2.foot i = true → (decide (i < 8) && ((phAt t i).on && decide (0 < (phAt t i).walk))) = true)) ?_ (0, ⟨0, 0⟩) ⟨by simp, fun i => by simp [tb_zero]⟩ ?_
    · rintro ⟨k, c⟩ ⟨hk4, hinv⟩ A back
      simp only at hk4 hinv
      have w3 : IntKind.i64.wrap ((k : Int) + 3) = ((k + 3 : Nat) : Int) := by rw [wrap_id (by omega) (by omega)]; omega
      by_cases hk : (k : Int) + 3 < (row.getD []).length ∧ (k : Int) < 240
      · obtain ⟨hk1, hk2⟩ := hk
        have w3 : IntKind.i64.wrap ((k : Int) + 3) = ((k + 3 : Nat) : Int) := by rw [wrap_id (by omega) (by omega)]; omega
        have w1 : IntKind.i64.wrap ((k : Int) + 1) = ((k + 1 : Nat) : Int) := by rw [wrap_id (by omega) (by omega)]; omega
        have w2 : IntKind.i64.wrap ((k : Int) + 2) = ((k + 2 : Nat) : Int) := by rw [wrap_id (by omega) (by omega)]; omega
        have w4 : IntKind.i64.wrap ((k : Int) + 4) = ((k + 4 : Nat) : Int) := by rw [wrap_id (by omega) (by omega)]; omega
        obtain ⟨r0, h0⟩ : ∃ x, (row.getD [])[k]? = some x := ⟨_, List.getElem?_eq_getElem (by omega)⟩
        obtain ⟨r1, h1⟩ : ∃ x, (row.getD [])[k + 1]? = some x := ⟨_, List.getElem?_eq_getElem (by omega)⟩
        obtain ⟨r2, h2⟩ : ∃ x, (row.getD [])[k + 2]? = some x := ⟨_, List.getElem?_eq_getElem (by omega)⟩
        obtain ⟨r3, h3⟩ : ∃ x, (row.getD [])[k + 3]? = some x := ⟨_, List.getElem?_eq_getElem (by omega)⟩
        have d1 : decide (((k + 3 : Nat) : Int) < ((row.getD []).length : Int)) = true := by simp; omega
        have d2 : decide ((k : Int) < 240) = true := by simp; omega
        obtain ⟨e1, e2, e3, e4, e5, e6, e7, hinv'⟩ := kept_facts (t := t) (c := c) (h := r0) (p := r1) (g := r2) (w := r3) hinv
        have hSt := hS t c r0 r1 r2 r3 ht
        generalize stepC t c r0 r1 r2 r3 = X at *
        try simp only [I, B, D, RW, ↓ KW, fillA, stTags, flat, Nat.reduceBEq, Nat.reduceAdd, Nat.reduceLeDiff, Int.reduceNe, Int.reduceBEq, Int.reduceEq, reduceCtorEq, Nat.reduceMul, Int.reduceLT, Int.reduceLE, Int.reduceToNat, w3, d1, d2]
        refine ⟨by omega, ?_⟩
        try simp only [I, B, D, RW, ↓ KW, fillA, stTags, flat, Nat.reduceBEq, Nat.reduceAdd, Nat.reduceLeDiff, Int.reduceNe, Int.reduceBEq, Int.reduceEq, reduceCtorEq, Nat.reduceMul, Int.reduceLT, Int.reduceLE, Int.reduceToNat, h0, intRow, w1]
        refine ⟨by omega, ?_⟩
        try simp only [I, B, D, RW, ↓ KW, fillA, stTags, flat, Nat.reduceBEq, Nat.reduceAdd, Nat.reduceLeDiff, Int.reduceNe, Int.reduceBEq, Int.reduceEq, reduceCtorEq, Nat.reduceMul, Int.reduceLT, Int.reduceLE, Int.reduceToNat, h1, intRow, w2]
        refine ⟨by omega, ?_⟩
        try simp only [I, B, D, RW, ↓ KW, fillA, stTags, flat, Nat.reduceBEq, Nat.reduceAdd, Nat.reduceLeDiff, Int.reduceNe, Int.reduceBEq, Int.reduceEq, reduceCtorEq, Nat.reduceMul, Int.reduceLT, Int.reduceLE, Int.reduceToNat, h2, intRow, w3]
        refine ⟨by omega, ?_⟩
        try simp only [I, B, D, RW, ↓ KW, fillA, stTags, flat, Nat.reduceBEq, Nat.reduceAdd, Nat.reduceLeDiff, Int.reduceNe, Int.reduceBEq, Int.reduceEq, reduceCtorEq, Nat.reduceMul, Int.reduceLT, Int.reduceLE, Int.reduceToNat, h3, intRow, hw, Cs.cells]
        refine call_is hSt ?_
        try simp only [I, B, D, RW, ↓ KW, fillA, stTags, flat, Nat.reduceBEq, Nat.reduceAdd, Nat.reduceLeDiff, Int.reduceNe, Int.reduceBEq, Int.reduceEq, reduceCtorEq, Nat.reduceMul, Int.reduceLT, Int.reduceLE, Int.reduceToNat, e1, e2, e3, e4, e5, Cs.cells, set_all, hw]
        refine call_is (hW t X r0 ht) ?_
        try simp only [I, B, D, RW, ↓ KW, fillA, stTags, flat, Nat.reduceBEq, Nat.reduceAdd, Nat.reduceLeDiff, Int.reduceNe, Int.reduceBEq, Int.reduceEq, reduceCtorEq, Nat.reduceMul, Int.reduceLT, Int.reduceLE, Int.reduceToNat, e6, Cs.cells, set_all, hw]
        refine call_is (hW t X r0 ht) ?_
        try simp only [I, B, D, RW, ↓ KW, fillA, stTags, flat, Nat.reduceBEq, Nat.reduceAdd, Nat.reduceLeDiff, Int.reduceNe, Int.reduceBEq, Int.reduceEq, reduceCtorEq, Nat.reduceMul, Int.reduceLT, Int.reduceLE, Int.reduceToNat, e7, Cs.cells, set_all, w4]
        exact back (k + 4, X) _ ⟨by simp; omega, hinv'⟩ (by simp; omega) (by refine le_tok2 (by decide) ?_ ?_ ?_ ?_ <;> simp [intRow, ownSV, ownL, leSlots, lv_dat, lv_tok, lv_ptr, lv_rp, lv_undef, leBoxes, leTags, leLive, tokM, tokB, tokT, ren, liveInj, r_lk, r_lkN, r_lkB, r_lkN0, I, B, D, withV_some, Cs.cells])
      · try simp only [I, B, D, RW, ↓ KW, fillA, stTags, flat, Nat.reduceBEq, Nat.reduceAdd, Nat.reduceLeDiff, Int.reduceNe, Int.reduceBEq, Int.reduceEq, reduceCtorEq, Nat.reduceMul, Int.reduceLT, Int.reduceLE, Int.reduceToNat, w3]
        repeat' (first | (refine gd_split (fun h => ?_) (fun h => ?_) <;> try simp only [I, B, D, RW, ↓ KW, fillA, stTags, flat, Nat.reduceBEq, Nat.reduceAdd, Nat.reduceLeDiff, Int.reduceNe, Int.reduceBEq, Int.reduceEq, reduceCtorEq, Nat.reduceMul, Int.reduceLT, Int.reduceLE, Int.reduceToNat, w3, h]) | (refine cd_split (fun h => ?_) (fun h => ?_) <;> try simp only [I, B, D, RW, ↓ KW, fillA, stTags, flat, Nat.reduceBEq, Nat.reduceAdd, Nat.reduceLeDiff, Int.reduceNe, Int.reduceBEq, Int.reduceEq, reduceCtorEq, Nat.reduceMul, Int.reduceLT, Int.reduceLE, Int.reduceToNat, w3, h]) | (refine pk_split (fun h => ?_) (fun h => ?_) <;> try simp only [I, B, D, RW, ↓ KW, fillA, stTags, flat, Nat.reduceBEq, Nat.reduceAdd, Nat.reduceLeDiff, Int.reduceNe, Int.reduceBEq, Int.reduceEq, reduceCtorEq, Nat.reduceMul, Int.reduceLT, Int.reduceLE, Int.reduceToNat, w3, h]))
        · exfalso
          have a1 := of_decide_eq_true h
          have a2 := by rename_i a2; exact of_decide_eq_true a2
          omega
        · refine cut_at () trivial ?_
          refine le_tok2 (by decide) ?_ ?_ ?_ ?_ <;> simp [intRow, ownSV, ownL, leSlots, lv_dat, lv_tok, lv_ptr, lv_rp, lv_undef, leBoxes, leTags, leLive, tokM, tokB, tokT, ren, liveInj, r_lk, r_lkN, r_lkB, r_lkN0, I, B, D, withV_some]
        · refine cut_at () trivial ?_
          refine le_tok2 (by decide) ?_ ?_ ?_ ?_ <;> simp [intRow, ownSV, ownL, leSlots, lv_dat, lv_tok, lv_ptr, lv_rp, lv_undef, leBoxes, leTags, leLive, tokM, tokB, tokT, ren, liveInj, r_lk, r_lkN, r_lkB, r_lkN0, I, B, D, withV_some]
    · refine le_tok2 (by decide) ?_ ?_ ?_ ?_ <;> simp [intRow, ownSV, ownL, leSlots, lv_dat, lv_tok, lv_ptr, lv_rp, lv_undef, leBoxes, leTags, leLive, tokM, tokB, tokT, ren, liveInj, r_lk, r_lkN, r_lkB, r_lkN0, I, B, D, withV_some, Cs.cells, set_all, hl, hz]
  · intro _ _
    try simp only [I, B, D, RW, ↓ KW, fillA, stTags, flat, Nat.reduceBEq, Nat.reduceAdd, Nat.reduceLeDiff, Int.reduceNe, Int.reduceBEq, Int.reduceEq, reduceCtorEq, Nat.reduceMul, Int.reduceLT, Int.reduceLE, Int.reduceToNat]
    refine call_is hA ?_
    try simp only [I, B, D, RW, ↓ KW, fillA, stTags, flat, Nat.reduceBEq, Nat.reduceAdd, Nat.reduceLeDiff, Int.reduceNe, Int.reduceBEq, Int.reduceEq, reduceCtorEq, Nat.reduceMul, Int.reduceLT, Int.reduceLE, Int.reduceToNat]

theorem more.ok {fT fS fW fA : Nat} (hc : cFn P f = some (cc_law15_CallsMore fT fS fW fA)) (hT : Table.Spec (Pure P) fT) (hS : Step.Spec (Pure P) fS) (hW : Want.Spec (Pure P) fW) (hA : awake15.Spec (Pure P) fA) : more.Spec (Pure P) f := by
  intro l c here push more green walk
  have ht := tableOf_ok l
  generalize hTe : tableOf l = t at *
  have hw := ht.ln.whole
  have hl := ht.ln.len
  have hz : z131_45020.length = 131 := rfl
  refine pure_of hm hc (by show 7 ≤ 81; decide) (aw_flat (keep := []) (i := 0) ?_)
  try simp only [I, B, D, RW, ↓ KW, fillA, stTags, flat, Nat.reduceBEq, Nat.reduceAdd, Nat.reduceLeDiff, Int.reduceNe, Int.reduceBEq, Int.reduceEq, reduceCtorEq, Nat.reduceMul, Int.reduceLT, Int.reduceLE, Int.reduceToNat, cc_law15_CallsMore]
  refine call_is (hT l) ?_
  rw [hTe]
  have hsz : setCells z131_45020 0 t.cells = t.cells := set_all (by rw [hl, hz])
  try simp only [I, B, D, RW, ↓ KW, fillA, stTags, flat, Nat.reduceBEq, Nat.reduceAdd, Nat.reduceLeDiff, Int.reduceNe, Int.reduceBEq, Int.reduceEq, reduceCtorEq, Nat.reduceMul, Int.reduceLT, Int.reduceLE, Int.reduceToNat, hl, hz, hsz, hw, Cs.cells]
  refine call_is (hS t c here push green walk ht) ?_
  try simp only [I, B, D, RW, ↓ KW, fillA, stTags, flat, Nat.reduceBEq, Nat.reduceAdd, Nat.reduceLeDiff, Int.reduceNe, Int.reduceBEq, Int.reduceEq, reduceCtorEq, Nat.reduceMul, Int.reduceLT, Int.reduceLE, Int.reduceToNat, Cs.cells, set_all, hw, hsz]
  obtain ⟨e1, e2, e3⟩ := more_facts t c here push more (more.fdiv (2 ^ min 8 IntKind.i64.bits)) (more.fdiv (2 ^ min 16 IntKind.i64.bits)) (more.fdiv (2 ^ min 24 IntKind.i64.bits)) green walk
  have hSt := hS t ⟨bOr .i64 c.car more, bOr .i64 c.foot (more.fdiv (2 ^ min 8 IntKind.i64.bits))⟩ (bOr .i64 here (more.fdiv (2 ^ min 16 IntKind.i64.bits))) (bOr .i64 push (more.fdiv (2 ^ min 24 IntKind.i64.bits))) green walk ht
  refine call_is hSt ?_
  generalize stepC t c here push green walk = X at *
  generalize stepC t ⟨bOr .i64 c.car more, bOr .i64 c.foot (more.fdiv (2 ^ min 8 IntKind.i64.bits))⟩ (bOr .i64 here (more.fdiv (2 ^ min 16 IntKind.i64.bits))) (bOr .i64 push (more.fdiv (2 ^ min 24 IntKind.i64.bits))) green walk = Y at *
  try simp only [I, B, D, RW, ↓ KW, fillA, stTags, flat, Nat.reduceBEq, Nat.reduceAdd, Nat.reduceLeDiff, Int.reduceNe, Int.reduceBEq, Int.reduceEq, reduceCtorEq, Nat.reduceMul, Int.reduceLT, Int.reduceLE, Int.reduceToNat, Cs.cells, set_all, hw, hsz, e1, e2]
  refine call_is (hW t X here ht) ?_
  try simp only [I, B, D, RW, ↓ KW, fillA, stTags, flat, Nat.reduceBEq, Nat.reduceAdd, Nat.reduceLeDiff, Int.reduceNe, Int.reduceBEq, Int.reduceEq, reduceCtorEq, Nat.reduceMul, Int.reduceLT, Int.reduceLE, Int.reduceToNat, Cs.cells, set_all, hw, hsz]
  refine call_is (hW t Y _ ht) ?_
  try simp only [I, B, D, RW, ↓ KW, fillA, stTags, flat, Nat.reduceBEq, Nat.reduceAdd, Nat.reduceLeDiff, Int.reduceNe, Int.reduceBEq, Int.reduceEq, reduceCtorEq, Nat.reduceMul, Int.reduceLT, Int.reduceLE, Int.reduceToNat, e3]
  refine call_is hA ?_
  try simp only [I, B, D, RW, ↓ KW, fillA, stTags, flat, Nat.reduceBEq, Nat.reduceAdd, Nat.reduceLeDiff, Int.reduceNe, Int.reduceBEq, Int.reduceEq, reduceCtorEq, Nat.reduceMul, Int.reduceLT, Int.reduceLE, Int.reduceToNat]

theorem recall.ok {fT fP e fO fS fH fh fW fA : Nat} (hc : cFn P f = some (cc_law15_CallsRecall fT fP e fO fS fH fh fW fA)) (hT : Table.Spec (Pure P) fT) (hP : Place.Spec (Pure P) fP) (hO : refOf.Spec (Pure P) fO) (hS : Step.Spec (Pure P) fS) (hH : refHas.Spec (Pure P) fH) (hh : Held.Spec (Pure P) fh) (hW : Want.Spec (Pure P) fW) (hA : awake15.Spec (Pure P) fA) : recall.Spec (Pure P) f := by
  intro l p green walk
  have ht := tableOf_ok l
  generalize hTe : tableOf l = t at *
  have hw := ht.ln.whole
  have hl := ht.ln.len
  have hz : z131_45020.length = 131 := rfl
  refine pure_of hm hc (by show 4 ≤ 113; decide) (aw_flat (keep := []) (i := 0) ?_)
  try simp only [I, B, D, RW, ↓ KW, fillA, stTags, flat, Nat.reduceBEq, Nat.reduceAdd, Nat.reduceLeDiff, Int.reduceNe, Int.reduceBEq, Int.reduceEq, reduceCtorEq, Nat.reduceMul, Int.reduceLT, Int.reduceLE, Int.reduceToNat, cc_law15_CallsRecall]
  refine call_is (hT l) ?_
  rw [hTe]
  have hsz : setCells z131_45020 0 t.cells = t.cells := set_all (by rw [hl, hz])
  have hz13 : setCells z13_14216 0 [AV.bool (phAt t (place p 8)).on] = setCells z13_14216 0 [AV.bool (phAt t (place p 8)).on] := rfl
  try simp only [I, B, D, RW, ↓ KW, fillA, stTags, flat, Nat.reduceBEq, Nat.reduceAdd, Nat.reduceLeDiff, Int.reduceNe, Int.reduceBEq, Int.reduceEq, reduceCtorEq, Nat.reduceMul, Int.reduceLT, Int.reduceLE, Int.reduceToNat, hl, hz, hsz, hw]
  refine call_is (hP p 8 (by decide)) ?_
  have hk : 0 ≤ place p 8 ∧ place p 8 < 8 := by
    have h1 := Int.tmod_lt_of_pos p (b := 8) (by decide)
    have h2 := Int.lt_tmod_of_pos p (b := 8) (by decide)
    simp only [place]
    split
    · rw [w64, wrap_id (by omega) (by omega)]; omega
    · omega
  generalize place p 8 = k at *
  try simp only [I, B, D, RW, ↓ KW, fillA, stTags, flat, Nat.reduceBEq, Nat.reduceAdd, Nat.reduceLeDiff, Int.reduceNe, Int.reduceBEq, Int.reduceEq, reduceCtorEq, Nat.reduceMul, Int.reduceLT, Int.reduceLE, Int.reduceToNat, hsz]
  refine call_is (hO (some [_]) (by simp)) ?_
  have hph := Tb.ph_whole ht hk.1 hk.2
  try simp only [I, B, D, RW, ↓ KW, fillA, stTags, flat, Nat.reduceBEq, Nat.reduceAdd, Nat.reduceLeDiff, Int.reduceNe, Int.reduceBEq, Int.reduceEq, reduceCtorEq, Nat.reduceMul, Int.reduceLT, Int.reduceLE, Int.reduceToNat, hsz, hph]
  refine ⟨by omega, ?_⟩
  try simp only [I, B, D, RW, ↓ KW, fillA, stTags, flat, Nat.reduceBEq, Nat.reduceAdd, Nat.reduceLeDiff, Int.reduceNe, Int.reduceBEq, Int.reduceEq, reduceCtorEq, Nat.reduceMul, Int.reduceLT, Int.reduceLE, Int.reduceToNat, hsz, hph, Ph.cells, z13_14216, set_all]
  have hfw := table_foot l k
  rw [hTe] at hfw
  obtain ⟨f1, f2, f3, f4⟩ := recall_facts (t := t) (k := k) hk.1 hk.2 green walk hfw
  generalize phAt t k = x at *
  have hSt := hS t ⟨0, 0⟩ 0 0 (if green then ofI [k] else 0) (if walk then ofI [k] else 0) ht
  generalize stepC t ⟨0, 0⟩ 0 0 (if green then ofI [k] else 0) (if walk then ofI [k] else 0) = X at *
  have hWt := hW t X 0 ht
  have hHt := hh t 0 ht
  generalize wantI t X 0 = W at *
  generalize heldI t 0 = H at *
  simp only [Cs.cells] at hSt hWt
  have hx13 : setCells z13_14216 0 x.cells = x.cells := set_all rfl
  simp only [Ph.cells, I, B] at hx13
  cases green <;> cases walk <;> simp only [if_true, if_false, Bool.false_eq_true] at hSt
  all_goals
    try simp only [I, B, D, RW, ↓ KW, fillA, stTags, flat, Nat.reduceBEq, Nat.reduceAdd, Nat.reduceLeDiff, Int.reduceNe, Int.reduceBEq, Int.reduceEq, reduceCtorEq, Nat.reduceMul, Int.reduceLT, Int.reduceLE, Int.reduceToNat, hsz, hw]
    refine call_is hSt ?_
    try simp only [I, B, D, RW, ↓ KW, fillA, stTags, flat, Nat.reduceBEq, Nat.reduceAdd, Nat.reduceLeDiff, Int.reduceNe, Int.reduceBEq, Int.reduceEq, reduceCtorEq, Nat.reduceMul, Int.reduceLT, Int.reduceLE, Int.reduceToNat, hx13, set_all, Cs.cells, Ph.cells]
    repeat' (first | (refine call_is (hH _ _) ?_; try simp only [I, B, D, RW, ↓ KW, fillA, stTags, flat, Nat.reduceBEq, Nat.reduceAdd, Nat.reduceLeDiff, Int.reduceNe, Int.reduceBEq, Int.reduceEq, reduceCtorEq, Nat.reduceMul, Int.reduceLT, Int.reduceLE, Int.reduceToNat, hsz, hw, hx13, set_all, Cs.cells, Ph.cells]) | (refine call_is (hWt) ?_; try simp only [I, B, D, RW, ↓ KW, fillA, stTags, flat, Nat.reduceBEq, Nat.reduceAdd, Nat.reduceLeDiff, Int.reduceNe, Int.reduceBEq, Int.reduceEq, reduceCtorEq, Nat.reduceMul, Int.reduceLT, Int.reduceLE, Int.reduceToNat, hsz, hw, hx13, set_all, Cs.cells, Ph.cells]) | (refine call_is (hHt) ?_; try simp only [I, B, D, RW, ↓ KW, fillA, stTags, flat, Nat.reduceBEq, Nat.reduceAdd, Nat.reduceLeDiff, Int.reduceNe, Int.reduceBEq, Int.reduceEq, reduceCtorEq, Nat.reduceMul, Int.reduceLT, Int.reduceLE, Int.reduceToNat, hsz, hw, hx13, set_all, Cs.cells, Ph.cells]) | (refine call_is (hA) ?_; try simp only [I, B, D, RW, ↓ KW, fillA, stTags, flat, Nat.reduceBEq, Nat.reduceAdd, Nat.reduceLeDiff, Int.reduceNe, Int.reduceBEq, Int.reduceEq, reduceCtorEq, Nat.reduceMul, Int.reduceLT, Int.reduceLE, Int.reduceToNat, hsz, hw, hx13, set_all, Cs.cells, Ph.cells]) | (refine gd_split (fun h => ?_) (fun h => ?_) <;> try simp only [I, B, D, RW, ↓ KW, fillA, stTags, flat, Nat.reduceBEq, Nat.reduceAdd, Nat.reduceLeDiff, Int.reduceNe, Int.reduceBEq, Int.reduceEq, reduceCtorEq, Nat.reduceMul, Int.reduceLT, Int.reduceLE, Int.reduceToNat, hsz, hw, hx13, set_all, Cs.cells, Ph.cells, h]) | (refine cd_split (fun h => ?_) (fun h => ?_) <;> try simp only [I, B, D, RW, ↓ KW, fillA, stTags, flat, Nat.reduceBEq, Nat.reduceAdd, Nat.reduceLeDiff, Int.reduceNe, Int.reduceBEq, Int.reduceEq, reduceCtorEq, Nat.reduceMul, Int.reduceLT, Int.reduceLE, Int.reduceToNat, hsz, hw, hx13, set_all, Cs.cells, Ph.cells, h]) | (refine pk_split (fun h => ?_) (fun h => ?_) <;> try simp only [I, B, D, RW, ↓ KW, fillA, stTags, flat, Nat.reduceBEq, Nat.reduceAdd, Nat.reduceLeDiff, Int.reduceNe, Int.reduceBEq, Int.reduceEq, reduceCtorEq, Nat.reduceMul, Int.reduceLT, Int.reduceLE, Int.reduceToNat, hsz, hw, hx13, set_all, Cs.cells, Ph.cells, h]))
  all_goals
    exfalso
    clear hSt hWt hHt hw hl hz hsz hz13 hph hx13 hT hP hO hS hH hh hW hA hc hm hTe ht
    simp_all
end

end Go.Eng
