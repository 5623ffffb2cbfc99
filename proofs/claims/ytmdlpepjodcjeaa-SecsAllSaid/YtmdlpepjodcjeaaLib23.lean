/- LIBRARY, PART 23: seconds as floats (secs), and the laws of chapter 2. -/
import Derived.Test.YtmdlpepjodcjeaaLib8
import Derived.Test.YtmdlpepjodcjeaaCode3
import Derived.Test.YtmdlpepjodcjeaaFlo3
namespace Go.Eng
set_option linter.unnecessarySimpa false
open Go
set_option linter.unusedVariables false
set_option linter.unusedSimpArgs false
set_option maxRecDepth 10000
set_option maxHeartbeats 4000000
abbrev Fl (x : Nat) : AV := .float .f64 x
theorem f_geq (x y : Nat) : binA .geq (.float .f64 x) (.float .f64 y) = some (.bool (geF x y)) := rfl
theorem f_leq (x y : Nat) : binA .leq (.float .f64 x) (.float .f64 y) = some (.bool (leF x y)) := rfl
theorem f_gtr (x y : Nat) : binA .gtr (.float .f64 x) (.float .f64 y) = some (.bool (gtF x y)) := rfl
theorem f_lss (x y : Nat) : binA .lss (.float .f64 x) (.float .f64 y) = some (.bool (ltF x y)) := rfl
theorem f_eql (x y : Nat) : binA .eql (.float .f64 x) (.float .f64 y) = some (.bool (eqF x y)) := rfl
theorem f_neq (x y : Nat) : binA .neq (.float .f64 x) (.float .f64 y) = some (.bool (!eqF x y)) := rfl
theorem f_mul (x y : Nat) : binA .mul (.float .f64 x) (.float .f64 y) = (DF.mul x y).map (.float .f64) := rfl
theorem f_sub (x y : Nat) : binA .sub (.float .f64 x) (.float .f64 y) = (DF.sub x y).map (.float .f64) := rfl
theorem f_add (x y : Nat) : binA .add (.float .f64 x) (.float .f64 y) = (DF.add x y).map (.float .f64) := rfl
theorem f_quo (x y : Nat) : binA .quo (.float .f64 x) (.float .f64 y) = (DF.div x y).map (.float .f64) := rfl
theorem f_neg (x : Nat) : unA .neg (.float .f64 x) = some (.float .f64 (Op.negFloat .f64 x)) := rfl
set_option linter.defProp false
def FLW := And.intro @f_geq (And.intro @f_leq (And.intro @f_gtr (And.intro @f_lss (And.intro @f_eql (And.intro @f_neq (And.intro @f_mul (And.intro @f_sub (And.intro @f_add (And.intro @f_quo @f_neg)))))))))

def nanF (x : Nat) : Bool := !eqF x x
theorem nanF_key (x : Nat) : nanF x = (key x).isNone := by
  unfold nanF
  rw [eqF_key]
  cases key x <;> simp [keq]
def secW (k : Nat) : Nat := (DF.div (ofN k) w10).getD 0
def cleanF (s : Nat) : Nat := if gtF s 0 then (if gtF s w999 then w999 else s) else 0
def alikeF (x y : Nat) : Bool := ((x : Int) == (y : Int)) || nanF x && nanF y
def cut9 (n : Int) : Nat := (cutI n 0 9999).toNat
theorem cut9_le (n : Int) : cut9 n ≤ 9999 := by unfold cut9 cutI; split <;> (try split) <;> omega
theorem cut9_is (n : Int) : cutI n 0 9999 = (cut9 n : Int) := by unfold cut9 cutI; split <;> (try split) <;> omega
def tkAV (s : Nat) : AV := .tup [I (if inR s then (tk s : Int) else 0), B (inR s)]

def sTicks.Spec (C : Con) (f : Nat) : Prop := ∀ s : Nat, s < 2 ^ 64 → C.c f [Fl s] (tkAV s) none
def rTicks.Spec (C : Con) (f : Nat) : Prop := ∀ s : Nat, s < 2 ^ 64 → C.c f [Fl s] (tkAV s) none
def sOf.Spec (C : Con) (f : Nat) : Prop := ∀ n : Int, C.c f [I n] (Fl (secW (cut9 n))) none
def rSecs.Spec (C : Con) (f : Nat) : Prop := ∀ n : Int, C.c f [I n] (Fl (secW (cut9 n))) none
def sClean.Spec (C : Con) (f : Nat) : Prop := ∀ s : Nat, C.c f [Fl s] (Fl (cleanF s)) none
def rClean.Spec (C : Con) (f : Nat) : Prop := ∀ s : Nat, C.c f [Fl s] (Fl (cleanF s)) none
def rNan.Spec (C : Con) (f : Nat) : Prop := ∀ s : Nat, C.c f [Fl s] (B (nanF s)) none
def rAlike.Spec (C : Con) (f : Nat) : Prop := ∀ x y : Nat, C.c f [Fl x, Fl y] (B (alikeF x y)) none
def awake02.Spec (C : Con) (f : Nat) : Prop := C.c f [] (B true) none
def secsBack.Spec (C : Con) (f : Nat) : Prop := ∀ (n : Int) (b : Bool), C.c f [I n, B b] (B true) none
def secsRise.Spec (C : Con) (f : Nat) : Prop := ∀ a b c : Nat, a < 2 ^ 64 → b < 2 ^ 64 → c < 2 ^ 64 → C.c f [Fl a, Fl b, Fl c] (B true) none
def secsAll.Spec (C : Con) (f : Nat) : Prop := ∀ a : Nat, a < 2 ^ 64 → C.c f [Fl a] (B true) none
def secsClean.Spec (C : Con) (f : Nat) : Prop := ∀ a : Nat, a < 2 ^ 64 → C.c f [Fl a] (B true) none

theorem div_some (k : Nat) (hk : k ≤ 9999) : DF.div (ofN k) w10 = some (secW k) := by
  obtain ⟨s, u, d, h, _⟩ := back hk
  unfold secW; rw [h]; rfl
theorem alike_self (x : Nat) : alikeF x x = true := by simp [alikeF]

section
variable {P : Program} (hm : P.follows .mixedOrders = true) {f : Nat}
include hm
theorem rNan.ok (hc : cFn P f = some cc_ref01_Nan) : rNan.Spec (Pure P) f := by
  intro s
  refine pure_of hm hc (by show 1 ≤ 6; decide) (aw_flat (keep := []) (i := 0) ?_)
  try simp only [I, B, D, RW, ↓ KW, fillA, setCells, stTags, flat, Nat.reduceBEq, Nat.reduceAdd, Nat.reduceLeDiff, Int.reduceNe, Int.reduceBEq, Int.reduceEq, reduceCtorEq, Nat.reduceMul, Int.reduceLT, Int.reduceLE, Int.reduceToNat, cc_ref01_Nan, FLW]
  rfl
theorem rAlike.ok {fN : Nat} (hc : cFn P f = some (cc_ref01_Alike fN)) (hN : rNan.Spec (Pure P) fN) : rAlike.Spec (Pure P) f := by
  intro x y
  refine pure_of hm hc (by show 2 ≤ 18; decide) (aw_flat (keep := []) (i := 0) ?_)
  try simp only [I, B, D, RW, ↓ KW, fillA, setCells, stTags, flat, Nat.reduceBEq, Nat.reduceAdd, Nat.reduceLeDiff, Int.reduceNe, Int.reduceBEq, Int.reduceEq, reduceCtorEq, Nat.reduceMul, Int.reduceLT, Int.reduceLE, Int.reduceToNat, cc_ref01_Alike, FLW]
  repeat' (first | (refine call_is (hN _) ?_; try simp only [I, B, D, RW, ↓ KW, fillA, setCells, stTags, flat, Nat.reduceBEq, Nat.reduceAdd, Nat.reduceLeDiff, Int.reduceNe, Int.reduceBEq, Int.reduceEq, reduceCtorEq, Nat.reduceMul, Int.reduceLT, Int.reduceLE, Int.reduceToNat, FLW]) | (refine gd_split (fun h => ?_) (fun h => ?_) <;> try simp only [I, B, D, RW, ↓ KW, fillA, setCells, stTags, flat, Nat.reduceBEq, Nat.reduceAdd, Nat.reduceLeDiff, Int.reduceNe, Int.reduceBEq, Int.reduceEq, reduceCtorEq, Nat.reduceMul, Int.reduceLT, Int.reduceLE, Int.reduceToNat, FLW, h]) | (refine cd_split (fun h => ?_) (fun h => ?_) <;> try simp only [I, B, D, RW, ↓ KW, fillA, setCells, stTags, flat, Nat.reduceBEq, Nat.reduceAdd, Nat.reduceLeDiff, Int.reduceNe, Int.reduceBEq, Int.reduceEq, reduceCtorEq, Nat.reduceMul, Int.reduceLT, Int.reduceLE, Int.reduceToNat, FLW, h]) | (refine pk_split (fun h => ?_) (fun h => ?_) <;> try simp only [I, B, D, RW, ↓ KW, fillA, setCells, stTags, flat, Nat.reduceBEq, Nat.reduceAdd, Nat.reduceLeDiff, Int.reduceNe, Int.reduceBEq, Int.reduceEq, reduceCtorEq, Nat.reduceMul, Int.reduceLT, Int.reduceLE, Int.reduceToNat, FLW, h]))
  all_goals simp_all [alikeF, B]
theorem sTicks.ok (hc : cFn P f = some cc_secs_Ticks) : sTicks.Spec (Pure P) f := by
  intro s hs
  have h1 : inR s = (geF s 0 && leF s 4652006429231887155) := rfl
  obtain ⟨b1, hb1⟩ : ∃ b, geF s 0 = b := ⟨_, rfl⟩
  obtain ⟨b2, hb2⟩ : ∃ b, leF s 4652006429231887155 = b := ⟨_, rfl⟩
  rw [hb1, hb2] at h1
  have hrun := fun h => ticks_run (s := s) hs h
  clear hs
  refine pure_of hm hc (by show 1 ≤ 15; decide) (aw_flat (keep := []) (i := 0) ?_)
  try simp only [I, B, D, RW, ↓ KW, fillA, setCells, stTags, flat, Nat.reduceBEq, Nat.reduceAdd, Nat.reduceLeDiff, Int.reduceNe, Int.reduceBEq, Int.reduceEq, reduceCtorEq, Nat.reduceMul, Int.reduceLT, Int.reduceLE, Int.reduceToNat, cc_secs_Ticks, FLW]
  cases b1 <;> cases b2
  · try simp only [I, B, D, RW, ↓ KW, fillA, setCells, stTags, flat, Nat.reduceBEq, Nat.reduceAdd, Nat.reduceLeDiff, Int.reduceNe, Int.reduceBEq, Int.reduceEq, reduceCtorEq, Nat.reduceMul, Int.reduceLT, Int.reduceLE, Int.reduceToNat, FLW, hb1, hb2]
    rw [tkAV, h1]; rfl
  · try simp only [I, B, D, RW, ↓ KW, fillA, setCells, stTags, flat, Nat.reduceBEq, Nat.reduceAdd, Nat.reduceLeDiff, Int.reduceNe, Int.reduceBEq, Int.reduceEq, reduceCtorEq, Nat.reduceMul, Int.reduceLT, Int.reduceLE, Int.reduceToNat, FLW, hb1, hb2]
    rw [tkAV, h1]; rfl
  · try simp only [I, B, D, RW, ↓ KW, fillA, setCells, stTags, flat, Nat.reduceBEq, Nat.reduceAdd, Nat.reduceLeDiff, Int.reduceNe, Int.reduceBEq, Int.reduceEq, reduceCtorEq, Nat.reduceMul, Int.reduceLT, Int.reduceLE, Int.reduceToNat, FLW, hb1, hb2]
    rw [tkAV, h1]; rfl
  · obtain ⟨x, y, e1, e2, e3⟩ := hrun h1
    have e1' : DF.mul 4621819117588971520 s = some x := e1
    try simp only [I, B, D, RW, ↓ KW, fillA, setCells, stTags, flat, Nat.reduceBEq, Nat.reduceAdd, Nat.reduceLeDiff, Int.reduceNe, Int.reduceBEq, Int.reduceEq, reduceCtorEq, Nat.reduceMul, Int.reduceLT, Int.reduceLE, Int.reduceToNat, FLW, hb1, hb2, e1', e2, e3]
    rw [tkAV, h1]; rfl
theorem rTicks.ok (hc : cFn P f = some cc_ref01_Ticks) : rTicks.Spec (Pure P) f := by
  intro s hs
  have h1 : inR s = (geF s 0 && leF s 4652006429231887155) := rfl
  obtain ⟨b1, hb1⟩ : ∃ b, geF s 0 = b := ⟨_, rfl⟩
  obtain ⟨b2, hb2⟩ : ∃ b, leF s 4652006429231887155 = b := ⟨_, rfl⟩
  rw [hb1, hb2] at h1
  have hrun := fun h => ref_run (s := s) hs h
  clear hs
  refine pure_of hm hc (by show 1 ≤ 36; decide) (aw_flat (keep := []) (i := 0) ?_)
  try simp only [I, B, D, RW, ↓ KW, fillA, setCells, stTags, flat, Nat.reduceBEq, Nat.reduceAdd, Nat.reduceLeDiff, Int.reduceNe, Int.reduceBEq, Int.reduceEq, reduceCtorEq, Nat.reduceMul, Int.reduceLT, Int.reduceLE, Int.reduceToNat, cc_ref01_Ticks, FLW]
  cases b1 <;> cases b2
  · try simp only [I, B, D, RW, ↓ KW, fillA, setCells, stTags, flat, Nat.reduceBEq, Nat.reduceAdd, Nat.reduceLeDiff, Int.reduceNe, Int.reduceBEq, Int.reduceEq, reduceCtorEq, Nat.reduceMul, Int.reduceLT, Int.reduceLE, Int.reduceToNat, FLW, hb1, hb2]
    rw [tkAV, h1]; rfl
  · try simp only [I, B, D, RW, ↓ KW, fillA, setCells, stTags, flat, Nat.reduceBEq, Nat.reduceAdd, Nat.reduceLeDiff, Int.reduceNe, Int.reduceBEq, Int.reduceEq, reduceCtorEq, Nat.reduceMul, Int.reduceLT, Int.reduceLE, Int.reduceToNat, FLW, hb1, hb2]
    rw [tkAV, h1]; rfl
  · try simp only [I, B, D, RW, ↓ KW, fillA, setCells, stTags, flat, Nat.reduceBEq, Nat.reduceAdd, Nat.reduceLeDiff, Int.reduceNe, Int.reduceBEq, Int.reduceEq, reduceCtorEq, Nat.reduceMul, Int.reduceLT, Int.reduceLE, Int.reduceToNat, FLW, hb1, hb2]
    rw [tkAV, h1]; rfl
  · obtain ⟨x, n, y, e1, e2, e3, e4, e5⟩ := hrun h1
    have e1' : DF.mul s 4621819117588971520 = some x := e1
    have e3' : DF.sub x (FloatKind.f64.nearest (n : Int)) = some y := e3
    obtain ⟨b3, hb3⟩ : ∃ b, gtF y 4602678819172646912 = b := ⟨_, rfl⟩
    obtain ⟨b4, hb4⟩ : ∃ b, eqF y 4602678819172646912 = b := ⟨_, rfl⟩
    have e6 : tk s = (if b3 || (b4 && n % 2 == 1) then n + 1 else n) := by rw [← hb3, ← hb4]; exact e5
    have hw : IntKind.i64.wrap ((n : Int) + 1) = ((n + 1 : Nat) : Int) := wrap_succ (by omega)
    have hmod : (n : Int).tmod 2 = ((n % 2 : Nat) : Int) := by rw [Int.tmod_eq_emod_of_nonneg (by omega)]; rfl
    have hmb : (((n % 2 : Nat) : Int) == 1) = (n % 2 == 1) := by rw [Bool.eq_iff_iff, beq_iff_eq, beq_iff_eq]; omega
    obtain ⟨b5, hb5⟩ : ∃ b, (n % 2 == 1) = b := ⟨_, rfl⟩
    rw [hb5] at hmb e6
    cases b3 <;> cases b4 <;> cases b5
    all_goals
      try simp only [I, B, D, RW, ↓ KW, fillA, setCells, stTags, flat, Nat.reduceBEq, Nat.reduceAdd, Nat.reduceLeDiff, Int.reduceNe, Int.reduceBEq, Int.reduceEq, reduceCtorEq, Nat.reduceMul, Int.reduceLT, Int.reduceLE, Int.reduceToNat, FLW, hb1, hb2, e1', e2, e3', hw, hmod, hb3, hb4, hmb]
      rw [tkAV, h1, e6]; rfl
theorem sOf.ok (hc : cFn P f = some cc_secs_Of) : sOf.Spec (Pure P) f := by
  intro n
  have h : DF.div (ofN (cut9 n)) 4621819117588971520 = some (secW (cut9 n)) := div_some (cut9 n) (cut9_le n)
  have h1 : (if 9999 < (if 0 > n then 0 else n) then 9999 else (if 0 > n then 0 else n)) = (cut9 n : Int) := by
    rw [← cut9_is]; unfold cutI; split <;> split <;> (try split) <;> omega
  have h2 := nearest_ofN (cut9 n)
  refine pure_of hm hc (by show 1 ≤ 8; decide) (aw_flat (keep := []) (i := 0) ?_)
  try simp only [I, B, D, RW, ↓ KW, fillA, setCells, stTags, flat, Nat.reduceBEq, Nat.reduceAdd, Nat.reduceLeDiff, Int.reduceNe, Int.reduceBEq, Int.reduceEq, reduceCtorEq, Nat.reduceMul, Int.reduceLT, Int.reduceLE, Int.reduceToNat, cc_secs_Of, FLW]
  rw [h1]
  try simp only [I, B, D, RW, ↓ KW, fillA, setCells, stTags, flat, Nat.reduceBEq, Nat.reduceAdd, Nat.reduceLeDiff, Int.reduceNe, Int.reduceBEq, Int.reduceEq, reduceCtorEq, Nat.reduceMul, Int.reduceLT, Int.reduceLE, Int.reduceToNat, h2, h]
theorem rSecs.ok {fC : Nat} (hc : cFn P f = some (cc_ref01_Seconds fC)) (hC : Cut.Spec (Pure P) fC) : rSecs.Spec (Pure P) f := by
  intro n
  have h : DF.div (ofN (cut9 n)) 4621819117588971520 = some (secW (cut9 n)) := div_some (cut9 n) (cut9_le n)
  have h2 := nearest_ofN (cut9 n)
  have hC' := hC n 0 9999
  rw [cut9_is] at hC'
  refine pure_of hm hc (by show 1 ≤ 7; decide) (aw_flat (keep := []) (i := 0) ?_)
  try simp only [I, B, D, RW, ↓ KW, fillA, setCells, stTags, flat, Nat.reduceBEq, Nat.reduceAdd, Nat.reduceLeDiff, Int.reduceNe, Int.reduceBEq, Int.reduceEq, reduceCtorEq, Nat.reduceMul, Int.reduceLT, Int.reduceLE, Int.reduceToNat, cc_ref01_Seconds, FLW]
  refine call_is hC' ?_
  try simp only [I, B, D, RW, ↓ KW, fillA, setCells, stTags, flat, Nat.reduceBEq, Nat.reduceAdd, Nat.reduceLeDiff, Int.reduceNe, Int.reduceBEq, Int.reduceEq, reduceCtorEq, Nat.reduceMul, Int.reduceLT, Int.reduceLE, Int.reduceToNat, FLW, h2, h]
theorem sClean.ok (hc : cFn P f = some cc_secs_Clean) : sClean.Spec (Pure P) f := by
  intro s
  refine pure_of hm hc (by show 1 ≤ 11; decide) (aw_flat (keep := []) (i := 0) ?_)
  try simp only [I, B, D, RW, ↓ KW, fillA, setCells, stTags, flat, Nat.reduceBEq, Nat.reduceAdd, Nat.reduceLeDiff, Int.reduceNe, Int.reduceBEq, Int.reduceEq, reduceCtorEq, Nat.reduceMul, Int.reduceLT, Int.reduceLE, Int.reduceToNat, cc_secs_Clean, FLW]
  repeat' (first | (refine gd_split (fun h => ?_) (fun h => ?_) <;> try simp only [I, B, D, RW, ↓ KW, fillA, setCells, stTags, flat, Nat.reduceBEq, Nat.reduceAdd, Nat.reduceLeDiff, Int.reduceNe, Int.reduceBEq, Int.reduceEq, reduceCtorEq, Nat.reduceMul, Int.reduceLT, Int.reduceLE, Int.reduceToNat, FLW, h]) | (refine cd_split (fun h => ?_) (fun h => ?_) <;> try simp only [I, B, D, RW, ↓ KW, fillA, setCells, stTags, flat, Nat.reduceBEq, Nat.reduceAdd, Nat.reduceLeDiff, Int.reduceNe, Int.reduceBEq, Int.reduceEq, reduceCtorEq, Nat.reduceMul, Int.reduceLT, Int.reduceLE, Int.reduceToNat, FLW, h]) | (refine pk_split (fun h => ?_) (fun h => ?_) <;> try simp only [I, B, D, RW, ↓ KW, fillA, setCells, stTags, flat, Nat.reduceBEq, Nat.reduceAdd, Nat.reduceLeDiff, Int.reduceNe, Int.reduceBEq, Int.reduceEq, reduceCtorEq, Nat.reduceMul, Int.reduceLT, Int.reduceLE, Int.reduceToNat, FLW, h]))
  all_goals simp_all [cleanF, w999]
theorem rClean.ok (hc : cFn P f = some cc_ref01_Clean) : rClean.Spec (Pure P) f := by
  intro s
  have h : gtF s w999 = true → gtF s 0 = true := by
    rw [gtF_key, gtF_key, key_999, key_0]
    cases key s <;> simp [klt]
    have := w999_pos
    omega
  refine pure_of hm hc (by show 1 ≤ 10; decide) (aw_flat (keep := []) (i := 0) ?_)
  try simp only [I, B, D, RW, ↓ KW, fillA, setCells, stTags, flat, Nat.reduceBEq, Nat.reduceAdd, Nat.reduceLeDiff, Int.reduceNe, Int.reduceBEq, Int.reduceEq, reduceCtorEq, Nat.reduceMul, Int.reduceLT, Int.reduceLE, Int.reduceToNat, cc_ref01_Clean, FLW]
  repeat' (first | (refine gd_split (fun h => ?_) (fun h => ?_) <;> try simp only [I, B, D, RW, ↓ KW, fillA, setCells, stTags, flat, Nat.reduceBEq, Nat.reduceAdd, Nat.reduceLeDiff, Int.reduceNe, Int.reduceBEq, Int.reduceEq, reduceCtorEq, Nat.reduceMul, Int.reduceLT, Int.reduceLE, Int.reduceToNat, FLW, h]) | (refine cd_split (fun h => ?_) (fun h => ?_) <;> try simp only [I, B, D, RW, ↓ KW, fillA, setCells, stTags, flat, Nat.reduceBEq, Nat.reduceAdd, Nat.reduceLeDiff, Int.reduceNe, Int.reduceBEq, Int.reduceEq, reduceCtorEq, Nat.reduceMul, Int.reduceLT, Int.reduceLE, Int.reduceToNat, FLW, h]) | (refine pk_split (fun h => ?_) (fun h => ?_) <;> try simp only [I, B, D, RW, ↓ KW, fillA, setCells, stTags, flat, Nat.reduceBEq, Nat.reduceAdd, Nat.reduceLeDiff, Int.reduceNe, Int.reduceBEq, Int.reduceEq, reduceCtorEq, Nat.reduceMul, Int.reduceLT, Int.reduceLE, Int.reduceToNat, FLW, h]))
  all_goals simp_all [cleanF, w999]
theorem awake02.ok {fT fO : Nat} (hc : cFn P f = some (cc_law02_awake fT fO)) (hT : sTicks.Spec (Pure P) fT) (hO : sOf.Spec (Pure P) fO) : awake02.Spec (Pure P) f := by
  have h1 : tkAV 4598175219545276416 = .tup [I 2, B true] := by
    have a1 : inR 4598175219545276416 = true := by decide +kernel
    have a2 : tk 4598175219545276416 = 2 := by decide +kernel
    unfold tkAV; rw [a1, a2]; rfl
  have h2 : eqF (secW (cut9 5)) 4602678819172646912 = true := by decide +kernel
  have hT' := hT 4598175219545276416 (by omega)
  rw [h1] at hT'
  refine pure_of hm hc (by show 0 ≤ 16; decide) (aw_flat (keep := []) (i := 0) ?_)
  try simp only [I, B, D, RW, ↓ KW, fillA, setCells, stTags, flat, Nat.reduceBEq, Nat.reduceAdd, Nat.reduceLeDiff, Int.reduceNe, Int.reduceBEq, Int.reduceEq, reduceCtorEq, Nat.reduceMul, Int.reduceLT, Int.reduceLE, Int.reduceToNat, cc_law02_awake, FLW]
  refine call_is hT' ?_
  try simp only [I, B, D, RW, ↓ KW, fillA, setCells, stTags, flat, Nat.reduceBEq, Nat.reduceAdd, Nat.reduceLeDiff, Int.reduceNe, Int.reduceBEq, Int.reduceEq, reduceCtorEq, Nat.reduceMul, Int.reduceLT, Int.reduceLE, Int.reduceToNat, FLW]
  refine call_is (hO 5) ?_
  try simp only [I, B, D, RW, ↓ KW, fillA, setCells, stTags, flat, Nat.reduceBEq, Nat.reduceAdd, Nat.reduceLeDiff, Int.reduceNe, Int.reduceBEq, Int.reduceEq, reduceCtorEq, Nat.reduceMul, Int.reduceLT, Int.reduceLE, Int.reduceToNat, FLW, h2]

omit hm in
theorem alike_back (n : Int) : alikeF (secW (cut9 n)) (secW (cut9 n)) = true := alike_self _
theorem secsBack.ok {fC fO fT fS fA fW : Nat} (hc : cFn P f = some (cc_law02_SecsBack fC fO fT fS fA fW)) (hC : Cut.Spec (Pure P) fC) (hO : sOf.Spec (Pure P) fO) (hT : sTicks.Spec (Pure P) fT) (hS : rSecs.Spec (Pure P) fS) (hA : rAlike.Spec (Pure P) fA) (hW : awake02.Spec (Pure P) fW) : secsBack.Spec (Pure P) f := by
  intro n up
  have hC' := hC n 0 9999
  rw [cut9_is] at hC'
  have hk := cut9_le n
  have hA' := alike_back n
  have hOn := hO n
  have hSn := hS n
  have hAn := hA (secW (cut9 n)) (secW (cut9 n))
  rw [hA'] at hAn
  generalize cut9 n = k at *
  obtain ⟨s, u, d, e1, e2, e3, e4, e5, e6, e7, e8, e9, e10⟩ := back hk
  have hs : secW k = s := by unfold secW; rw [e1]; rfl
  rw [hs] at hOn hSn hAn
  have e2' : DF.add s 4584304132692975288 = some u := e2
  have e3' : DF.sub s 4584304132692975288 = some d := e3
  have hTs := hT s e4
  rw [tkAV, e6, e7] at hTs
  refine pure_of hm hc (by show 2 ≤ 64; decide) (aw_flat (keep := []) (i := 0) ?_)
  try simp only [I, B, D, RW, ↓ KW, fillA, setCells, stTags, flat, Nat.reduceBEq, Nat.reduceAdd, Nat.reduceLeDiff, Int.reduceNe, Int.reduceBEq, Int.reduceEq, reduceCtorEq, Nat.reduceMul, Int.reduceLT, Int.reduceLE, Int.reduceToNat, cc_law02_SecsBack]
  refine call_is hC' ?_
  try simp only [I, B, D, RW, ↓ KW, fillA, setCells, stTags, flat, Nat.reduceBEq, Nat.reduceAdd, Nat.reduceLeDiff, Int.reduceNe, Int.reduceBEq, Int.reduceEq, reduceCtorEq, Nat.reduceMul, Int.reduceLT, Int.reduceLE, Int.reduceToNat]
  refine call_is hOn ?_
  try simp only [I, B, D, RW, ↓ KW, fillA, setCells, stTags, flat, Nat.reduceBEq, Nat.reduceAdd, Nat.reduceLeDiff, Int.reduceNe, Int.reduceBEq, Int.reduceEq, reduceCtorEq, Nat.reduceMul, Int.reduceLT, Int.reduceLE, Int.reduceToNat]
  refine call_is hTs ?_
  try simp only [I, B, D, RW, ↓ KW, fillA, setCells, stTags, flat, Nat.reduceBEq, Nat.reduceAdd, Nat.reduceLeDiff, Int.reduceNe, Int.reduceBEq, Int.reduceEq, reduceCtorEq, Nat.reduceMul, Int.reduceLT, Int.reduceLE, Int.reduceToNat, FLW, e3']
  have fin : ∀ v, near v k → v < 2 ^ 64 → ∃ b1 b2, ltF v 0 = b1 ∧ gtF v 4652006429231887155 = b2 ∧ (Pure P).c fT [Fl v] (tkAV v) none ∧ (b1 = false → b2 = false → tkAV v = .tup [I k, B true]) := by
    intro v hv hlt
    refine ⟨_, _, rfl, rfl, hT v hlt, fun h1 h2 => ?_⟩
    obtain ⟨h3, h4⟩ := hv h1 h2
    rw [tkAV, h3, h4]; rfl
  cases up
  · obtain ⟨b1, b2, h1, h2, h3, h4⟩ := fin d e9 e10
    clear fin e4 e5 e10
    try simp only [I, B, D, RW, ↓ KW, fillA, setCells, stTags, flat, Nat.reduceBEq, Nat.reduceAdd, Nat.reduceLeDiff, Int.reduceNe, Int.reduceBEq, Int.reduceEq, reduceCtorEq, Nat.reduceMul, Int.reduceLT, Int.reduceLE, Int.reduceToNat]
    cases b1
    · cases b2
      · have h4 := h4 rfl rfl
        refine call_is h3 ?_
        try simp only [I, B, D, RW, ↓ KW, fillA, setCells, stTags, flat, Nat.reduceBEq, Nat.reduceAdd, Nat.reduceLeDiff, Int.reduceNe, Int.reduceBEq, Int.reduceEq, reduceCtorEq, Nat.reduceMul, Int.reduceLT, Int.reduceLE, Int.reduceToNat, FLW, h4, h1, h2, beq_self_eq_true]
        refine call_is hSn ?_
        try simp only [I, B, D, RW, ↓ KW, fillA, setCells, stTags, flat, Nat.reduceBEq, Nat.reduceAdd, Nat.reduceLeDiff, Int.reduceNe, Int.reduceBEq, Int.reduceEq, reduceCtorEq, Nat.reduceMul, Int.reduceLT, Int.reduceLE, Int.reduceToNat]
        refine call_is hAn ?_
        try simp only [I, B, D, RW, ↓ KW, fillA, setCells, stTags, flat, Nat.reduceBEq, Nat.reduceAdd, Nat.reduceLeDiff, Int.reduceNe, Int.reduceBEq, Int.reduceEq, reduceCtorEq, Nat.reduceMul, Int.reduceLT, Int.reduceLE, Int.reduceToNat, beq_self_eq_true]
        refine call_is hW ?_
        try simp only [I, B, D, RW, ↓ KW, fillA, setCells, stTags, flat, Nat.reduceBEq, Nat.reduceAdd, Nat.reduceLeDiff, Int.reduceNe, Int.reduceBEq, Int.reduceEq, reduceCtorEq, Nat.reduceMul, Int.reduceLT, Int.reduceLE, Int.reduceToNat]
      · refine call_is h3 ?_
        try simp only [I, B, D, RW, ↓ KW, fillA, setCells, stTags, flat, Nat.reduceBEq, Nat.reduceAdd, Nat.reduceLeDiff, Int.reduceNe, Int.reduceBEq, Int.reduceEq, reduceCtorEq, Nat.reduceMul, Int.reduceLT, Int.reduceLE, Int.reduceToNat, FLW, tkAV, h1, h2, beq_self_eq_true]
        refine call_is hSn ?_
        try simp only [I, B, D, RW, ↓ KW, fillA, setCells, stTags, flat, Nat.reduceBEq, Nat.reduceAdd, Nat.reduceLeDiff, Int.reduceNe, Int.reduceBEq, Int.reduceEq, reduceCtorEq, Nat.reduceMul, Int.reduceLT, Int.reduceLE, Int.reduceToNat]
        refine call_is hAn ?_
        try simp only [I, B, D, RW, ↓ KW, fillA, setCells, stTags, flat, Nat.reduceBEq, Nat.reduceAdd, Nat.reduceLeDiff, Int.reduceNe, Int.reduceBEq, Int.reduceEq, reduceCtorEq, Nat.reduceMul, Int.reduceLT, Int.reduceLE, Int.reduceToNat, beq_self_eq_true]
        refine call_is hW ?_
        try simp only [I, B, D, RW, ↓ KW, fillA, setCells, stTags, flat, Nat.reduceBEq, Nat.reduceAdd, Nat.reduceLeDiff, Int.reduceNe, Int.reduceBEq, Int.reduceEq, reduceCtorEq, Nat.reduceMul, Int.reduceLT, Int.reduceLE, Int.reduceToNat]
    · refine call_is h3 ?_
      try simp only [I, B, D, RW, ↓ KW, fillA, setCells, stTags, flat, Nat.reduceBEq, Nat.reduceAdd, Nat.reduceLeDiff, Int.reduceNe, Int.reduceBEq, Int.reduceEq, reduceCtorEq, Nat.reduceMul, Int.reduceLT, Int.reduceLE, Int.reduceToNat, FLW, tkAV, h1, h2, beq_self_eq_true]
      refine call_is hSn ?_
      try simp only [I, B, D, RW, ↓ KW, fillA, setCells, stTags, flat, Nat.reduceBEq, Nat.reduceAdd, Nat.reduceLeDiff, Int.reduceNe, Int.reduceBEq, Int.reduceEq, reduceCtorEq, Nat.reduceMul, Int.reduceLT, Int.reduceLE, Int.reduceToNat]
      refine call_is hAn ?_
      try simp only [I, B, D, RW, ↓ KW, fillA, setCells, stTags, flat, Nat.reduceBEq, Nat.reduceAdd, Nat.reduceLeDiff, Int.reduceNe, Int.reduceBEq, Int.reduceEq, reduceCtorEq, Nat.reduceMul, Int.reduceLT, Int.reduceLE, Int.reduceToNat, beq_self_eq_true]
      refine call_is hW ?_
      try simp only [I, B, D, RW, ↓ KW, fillA, setCells, stTags, flat, Nat.reduceBEq, Nat.reduceAdd, Nat.reduceLeDiff, Int.reduceNe, Int.reduceBEq, Int.reduceEq, reduceCtorEq, Nat.reduceMul, Int.reduceLT, Int.reduceLE, Int.reduceToNat]
  · obtain ⟨b1, b2, h1, h2, h3, h4⟩ := fin u e8 e5
    clear fin e4 e5 e10
    try simp only [I, B, D, RW, ↓ KW, fillA, setCells, stTags, flat, Nat.reduceBEq, Nat.reduceAdd, Nat.reduceLeDiff, Int.reduceNe, Int.reduceBEq, Int.reduceEq, reduceCtorEq, Nat.reduceMul, Int.reduceLT, Int.reduceLE, Int.reduceToNat, FLW, e2']
    cases b1
    · cases b2
      · have h4 := h4 rfl rfl
        refine call_is h3 ?_
        try simp only [I, B, D, RW, ↓ KW, fillA, setCells, stTags, flat, Nat.reduceBEq, Nat.reduceAdd, Nat.reduceLeDiff, Int.reduceNe, Int.reduceBEq, Int.reduceEq, reduceCtorEq, Nat.reduceMul, Int.reduceLT, Int.reduceLE, Int.reduceToNat, FLW, h4, h1, h2, beq_self_eq_true]
        refine call_is hSn ?_
        try simp only [I, B, D, RW, ↓ KW, fillA, setCells, stTags, flat, Nat.reduceBEq, Nat.reduceAdd, Nat.reduceLeDiff, Int.reduceNe, Int.reduceBEq, Int.reduceEq, reduceCtorEq, Nat.reduceMul, Int.reduceLT, Int.reduceLE, Int.reduceToNat]
        refine call_is hAn ?_
        try simp only [I, B, D, RW, ↓ KW, fillA, setCells, stTags, flat, Nat.reduceBEq, Nat.reduceAdd, Nat.reduceLeDiff, Int.reduceNe, Int.reduceBEq, Int.reduceEq, reduceCtorEq, Nat.reduceMul, Int.reduceLT, Int.reduceLE, Int.reduceToNat, beq_self_eq_true]
        refine call_is hW ?_
        try simp only [I, B, D, RW, ↓ KW, fillA, setCells, stTags, flat, Nat.reduceBEq, Nat.reduceAdd, Nat.reduceLeDiff, Int.reduceNe, Int.reduceBEq, Int.reduceEq, reduceCtorEq, Nat.reduceMul, Int.reduceLT, Int.reduceLE, Int.reduceToNat]
      · refine call_is h3 ?_
        try simp only [I, B, D, RW, ↓ KW, fillA, setCells, stTags, flat, Nat.reduceBEq, Nat.reduceAdd, Nat.reduceLeDiff, Int.reduceNe, Int.reduceBEq, Int.reduceEq, reduceCtorEq, Nat.reduceMul, Int.reduceLT, Int.reduceLE, Int.reduceToNat, FLW, tkAV, h1, h2, beq_self_eq_true]
        refine call_is hSn ?_
        try simp only [I, B, D, RW, ↓ KW, fillA, setCells, stTags, flat, Nat.reduceBEq, Nat.reduceAdd, Nat.reduceLeDiff, Int.reduceNe, Int.reduceBEq, Int.reduceEq, reduceCtorEq, Nat.reduceMul, Int.reduceLT, Int.reduceLE, Int.reduceToNat]
        refine call_is hAn ?_
        try simp only [I, B, D, RW, ↓ KW, fillA, setCells, stTags, flat, Nat.reduceBEq, Nat.reduceAdd, Nat.reduceLeDiff, Int.reduceNe, Int.reduceBEq, Int.reduceEq, reduceCtorEq, Nat.reduceMul, Int.reduceLT, Int.reduceLE, Int.reduceToNat, beq_self_eq_true]
        refine call_is hW ?_
        try simp only [I, B, D, RW, ↓ KW, fillA, setCells, stTags, flat, Nat.reduceBEq, Nat.reduceAdd, Nat.reduceLeDiff, Int.reduceNe, Int.reduceBEq, Int.reduceEq, reduceCtorEq, Nat.reduceMul, Int.reduceLT, Int.reduceLE, Int.reduceToNat]
    · refine call_is h3 ?_
      try simp only [I, B, D, RW, ↓ KW, fillA, setCells, stTags, flat, Nat.reduceBEq, Nat.reduceAdd, Nat.reduceLeDiff, Int.reduceNe, Int.reduceBEq, Int.reduceEq, reduceCtorEq, Nat.reduceMul, Int.reduceLT, Int.reduceLE, Int.reduceToNat, FLW, tkAV, h1, h2, beq_self_eq_true]
      refine call_is hSn ?_
      try simp only [I, B, D, RW, ↓ KW, fillA, setCells, stTags, flat, Nat.reduceBEq, Nat.reduceAdd, Nat.reduceLeDiff, Int.reduceNe, Int.reduceBEq, Int.reduceEq, reduceCtorEq, Nat.reduceMul, Int.reduceLT, Int.reduceLE, Int.reduceToNat]
      refine call_is hAn ?_
      try simp only [I, B, D, RW, ↓ KW, fillA, setCells, stTags, flat, Nat.reduceBEq, Nat.reduceAdd, Nat.reduceLeDiff, Int.reduceNe, Int.reduceBEq, Int.reduceEq, reduceCtorEq, Nat.reduceMul, Int.reduceLT, Int.reduceLE, Int.reduceToNat, beq_self_eq_true]
      refine call_is hW ?_
      try simp only [I, B, D, RW, ↓ KW, fillA, setCells, stTags, flat, Nat.reduceBEq, Nat.reduceAdd, Nat.reduceLeDiff, Int.reduceNe, Int.reduceBEq, Int.reduceEq, reduceCtorEq, Nat.reduceMul, Int.reduceLT, Int.reduceLE, Int.reduceToNat]
theorem secsAll.ok {fT fR fC fD fA fW : Nat} (hc : cFn P f = some (cc_law02_SecsAll fT fR fC fD fA fW)) (hT : sTicks.Spec (Pure P) fT) (hR : rTicks.Spec (Pure P) fR) (hC : sClean.Spec (Pure P) fC) (hD : rClean.Spec (Pure P) fD) (hA : rAlike.Spec (Pure P) fA) (hW : awake02.Spec (Pure P) fW) : secsAll.Spec (Pure P) f := by
  intro s hs
  have hTs := hT s hs
  have hRs := hR s hs
  have hAs := hA (cleanF s) (cleanF s)
  rw [alike_self] at hAs
  clear hs
  refine pure_of hm hc (by show 1 ≤ 35; decide) (aw_flat (keep := []) (i := 0) ?_)
  try simp only [I, B, D, RW, ↓ KW, fillA, setCells, stTags, flat, Nat.reduceBEq, Nat.reduceAdd, Nat.reduceLeDiff, Int.reduceNe, Int.reduceBEq, Int.reduceEq, reduceCtorEq, Nat.reduceMul, Int.reduceLT, Int.reduceLE, Int.reduceToNat, cc_law02_SecsAll]
  refine call_is hTs ?_
  try simp only [I, B, D, RW, ↓ KW, fillA, setCells, stTags, flat, Nat.reduceBEq, Nat.reduceAdd, Nat.reduceLeDiff, Int.reduceNe, Int.reduceBEq, Int.reduceEq, reduceCtorEq, Nat.reduceMul, Int.reduceLT, Int.reduceLE, Int.reduceToNat, tkAV]
  refine call_is hRs ?_
  try simp only [I, B, D, RW, ↓ KW, fillA, setCells, stTags, flat, Nat.reduceBEq, Nat.reduceAdd, Nat.reduceLeDiff, Int.reduceNe, Int.reduceBEq, Int.reduceEq, reduceCtorEq, Nat.reduceMul, Int.reduceLT, Int.reduceLE, Int.reduceToNat, tkAV, beq_self_eq_true]
  refine call_is (hC s) ?_
  try simp only [I, B, D, RW, ↓ KW, fillA, setCells, stTags, flat, Nat.reduceBEq, Nat.reduceAdd, Nat.reduceLeDiff, Int.reduceNe, Int.reduceBEq, Int.reduceEq, reduceCtorEq, Nat.reduceMul, Int.reduceLT, Int.reduceLE, Int.reduceToNat]
  refine call_is (hD s) ?_
  try simp only [I, B, D, RW, ↓ KW, fillA, setCells, stTags, flat, Nat.reduceBEq, Nat.reduceAdd, Nat.reduceLeDiff, Int.reduceNe, Int.reduceBEq, Int.reduceEq, reduceCtorEq, Nat.reduceMul, Int.reduceLT, Int.reduceLE, Int.reduceToNat]
  refine call_is hAs ?_
  try simp only [I, B, D, RW, ↓ KW, fillA, setCells, stTags, flat, Nat.reduceBEq, Nat.reduceAdd, Nat.reduceLeDiff, Int.reduceNe, Int.reduceBEq, Int.reduceEq, reduceCtorEq, Nat.reduceMul, Int.reduceLT, Int.reduceLE, Int.reduceToNat]
  refine call_is hW ?_
  try simp only [I, B, D, RW, ↓ KW, fillA, setCells, stTags, flat, Nat.reduceBEq, Nat.reduceAdd, Nat.reduceLeDiff, Int.reduceNe, Int.reduceBEq, Int.reduceEq, reduceCtorEq, Nat.reduceMul, Int.reduceLT, Int.reduceLE, Int.reduceToNat]
omit hm in
theorem inR_of {s : Nat} {a : Nat} (h : key s = some (a : Int)) (hl : a ≤ rV w999) : inR s = true := inR_iff.2 ⟨a, h, hl⟩
omit hm in
theorem clean_facts (s : Nat) : inR (cleanF s) = true ∧ cleanF (cleanF s) = cleanF s ∧ cleanF s ≠ 2 ^ 63 ∧ nanF (cleanF s) = false ∧ (inR s = true → tk s = tk (cleanF s) ∧ eqF (cleanF s) s = true) := by
  have hp := w999_pos
  have k9 : inR w999 = true := inR_of key_999 (Nat.le_refl _)
  have k0 : inR 0 = true := inR_of (a := 0) key_0 (Nat.zero_le _)
  have kn : key (2 ^ 63) = some (-(rV 0 : Int)) := key_neg fin_0
  have h9 : w999 ≠ 2 ^ 63 := by unfold w999; omega
  have hg9 : gtF w999 0 = true := by rw [gtF_key, key_999, key_0]; simp only [klt, decide_eq_true_eq]; omega
  have hg9' : gtF w999 w999 = false := by rw [gtF_key, key_999]; simp [klt]
  have hg0 : gtF 0 0 = false := by rw [gtF_key, key_0]; simp [klt]
  have nn : ∀ x, inR x = true → nanF x = false := fun x hx => by
    obtain ⟨a, h1, _⟩ := inR_iff.1 hx
    rw [nanF_key, h1]; rfl
  by_cases h0 : gtF s 0 = true
  · by_cases h1 : gtF s w999 = true
    · have hcl : cleanF s = w999 := by simp [cleanF, h0, h1]
      rw [hcl]
      refine ⟨k9, by simp [cleanF, hg9, hg9'], h9, nn _ k9, fun hin => ?_⟩
      obtain ⟨a, ha, hle⟩ := inR_iff.1 hin
      rw [gtF_key, ha, key_999] at h1
      simp only [klt, decide_eq_true_eq] at h1
      omega
    · have hcl : cleanF s = s := by simp [cleanF, h0, h1]
      rw [hcl]
      rw [gtF_key, key_0] at h0
      rw [gtF_key, key_999] at h1
      cases hk : key s with
      | none => rw [hk] at h0; simp [klt] at h0
      | some a =>
        rw [hk] at h0 h1
        simp only [klt, decide_eq_true_eq] at h0 h1
        obtain ⟨b, rfl⟩ := Int.eq_ofNat_of_zero_le (show 0 ≤ a by omega)
        have hin : inR s = true := inR_of hk (by omega)
        refine ⟨hin, hcl, ?_, nn _ hin, fun _ => ⟨rfl, ?_⟩⟩
        · rintro rfl
          rw [kn, rV_0] at hk
          cases hk
          simp at h0
        · rw [eqF_key, hk]; simp [keq]
  · have hcl : cleanF s = 0 := by simp [cleanF, h0]
    rw [hcl]
    refine ⟨k0, by simp [cleanF, hg0], by omega, nn _ k0, fun hin => ?_⟩
    obtain ⟨a, ha, hle⟩ := inR_iff.1 hin
    rw [gtF_key, ha, key_0] at h0
    simp only [klt, decide_eq_true_eq] at h0
    have : a = 0 := by omega
    subst this
    refine ⟨by rw [tk_of ha, tk_of (a := 0) key_0], ?_⟩
    rw [eqF_key, ha, key_0]; simp [keq]
theorem secsClean.ok {fC fT fA fO fW : Nat} (hc : cFn P f = some (cc_law02_SecsClean fC fT fA fO fW)) (hC : sClean.Spec (Pure P) fC) (hT : sTicks.Spec (Pure P) fT) (hA : rAlike.Spec (Pure P) fA) (hO : sOf.Spec (Pure P) fO) (hW : awake02.Spec (Pure P) fW) : secsClean.Spec (Pure P) f := by
  intro s hs
  have hTs := hT s hs
  have hcs : cleanF s < 2 ^ 64 := by
    unfold cleanF; split
    · split
      · unfold w999; omega
      · exact hs
    · omega
  obtain ⟨c1, c2, c3, c4, c5⟩ := clean_facts s
  have hTc := hT (cleanF s) hcs
  have hAc := hA (cleanF s) (cleanF s)
  rw [alike_self] at hAc
  have hCC := hC (cleanF s)
  rw [c2] at hCC
  have h0 : Op.negFloat .f64 (secW (cut9 0)) = 2 ^ 63 := by decide +kernel
  have hA0 := hA (cleanF s) (2 ^ 63)
  have hal : alikeF (cleanF s) (2 ^ 63) = false := by
    unfold alikeF; rw [c4]
    simp; omega
  rw [hal] at hA0
  have hge : geF (cleanF s) 0 = true ∧ leF (cleanF s) 4652006429231887155 = true := by
    have : inR (cleanF s) = (geF (cleanF s) 0 && leF (cleanF s) 4652006429231887155) := rfl
    rw [c1] at this
    simpa using this.symm
  obtain ⟨g1, g2⟩ := hge
  have hCs := hC s
  generalize cleanF s = c at *
  rw [tkAV, c1] at hTc
  clear hs hcs
  refine pure_of hm hc (by show 1 ≤ 61; decide) (aw_flat (keep := []) (i := 0) ?_)
  try simp only [I, B, D, RW, ↓ KW, fillA, setCells, stTags, flat, Nat.reduceBEq, Nat.reduceAdd, Nat.reduceLeDiff, Int.reduceNe, Int.reduceBEq, Int.reduceEq, reduceCtorEq, Nat.reduceMul, Int.reduceLT, Int.reduceLE, Int.reduceToNat, cc_law02_SecsClean]
  refine call_is hCs ?_
  try simp only [I, B, D, RW, ↓ KW, fillA, setCells, stTags, flat, Nat.reduceBEq, Nat.reduceAdd, Nat.reduceLeDiff, Int.reduceNe, Int.reduceBEq, Int.reduceEq, reduceCtorEq, Nat.reduceMul, Int.reduceLT, Int.reduceLE, Int.reduceToNat]
  refine call_is hTc ?_
  try simp only [I, B, D, RW, ↓ KW, fillA, setCells, stTags, flat, Nat.reduceBEq, Nat.reduceAdd, Nat.reduceLeDiff, Int.reduceNe, Int.reduceBEq, Int.reduceEq, reduceCtorEq, Nat.reduceMul, Int.reduceLT, Int.reduceLE, Int.reduceToNat]
  refine call_is hTs ?_
  cases hin : inR s
  · try simp only [I, B, D, RW, ↓ KW, fillA, setCells, stTags, flat, Nat.reduceBEq, Nat.reduceAdd, Nat.reduceLeDiff, Int.reduceNe, Int.reduceBEq, Int.reduceEq, reduceCtorEq, Nat.reduceMul, Int.reduceLT, Int.reduceLE, Int.reduceToNat, tkAV, hin, FLW, g1, g2]
    refine call_is hCC ?_
    try simp only [I, B, D, RW, ↓ KW, fillA, setCells, stTags, flat, Nat.reduceBEq, Nat.reduceAdd, Nat.reduceLeDiff, Int.reduceNe, Int.reduceBEq, Int.reduceEq, reduceCtorEq, Nat.reduceMul, Int.reduceLT, Int.reduceLE, Int.reduceToNat]
    refine call_is hAc ?_
    try simp only [I, B, D, RW, ↓ KW, fillA, setCells, stTags, flat, Nat.reduceBEq, Nat.reduceAdd, Nat.reduceLeDiff, Int.reduceNe, Int.reduceBEq, Int.reduceEq, reduceCtorEq, Nat.reduceMul, Int.reduceLT, Int.reduceLE, Int.reduceToNat]
    refine call_is (hO 0) ?_
    try simp only [I, B, D, RW, ↓ KW, fillA, setCells, stTags, flat, Nat.reduceBEq, Nat.reduceAdd, Nat.reduceLeDiff, Int.reduceNe, Int.reduceBEq, Int.reduceEq, reduceCtorEq, Nat.reduceMul, Int.reduceLT, Int.reduceLE, Int.reduceToNat, FLW, f_neg, h0]
    refine call_is hA0 ?_
    try simp only [I, B, D, RW, ↓ KW, fillA, setCells, stTags, flat, Nat.reduceBEq, Nat.reduceAdd, Nat.reduceLeDiff, Int.reduceNe, Int.reduceBEq, Int.reduceEq, reduceCtorEq, Nat.reduceMul, Int.reduceLT, Int.reduceLE, Int.reduceToNat]
    refine call_is hW ?_
    try simp only [I, B, D, RW, ↓ KW, fillA, setCells, stTags, flat, Nat.reduceBEq, Nat.reduceAdd, Nat.reduceLeDiff, Int.reduceNe, Int.reduceBEq, Int.reduceEq, reduceCtorEq, Nat.reduceMul, Int.reduceLT, Int.reduceLE, Int.reduceToNat]
  · obtain ⟨t1, t2⟩ := c5 hin
    try simp only [I, B, D, RW, ↓ KW, fillA, setCells, stTags, flat, Nat.reduceBEq, Nat.reduceAdd, Nat.reduceLeDiff, Int.reduceNe, Int.reduceBEq, Int.reduceEq, reduceCtorEq, Nat.reduceMul, Int.reduceLT, Int.reduceLE, Int.reduceToNat, tkAV, hin, FLW, g1, g2, t1, t2, beq_self_eq_true]
    refine call_is hCC ?_
    try simp only [I, B, D, RW, ↓ KW, fillA, setCells, stTags, flat, Nat.reduceBEq, Nat.reduceAdd, Nat.reduceLeDiff, Int.reduceNe, Int.reduceBEq, Int.reduceEq, reduceCtorEq, Nat.reduceMul, Int.reduceLT, Int.reduceLE, Int.reduceToNat]
    refine call_is hAc ?_
    try simp only [I, B, D, RW, ↓ KW, fillA, setCells, stTags, flat, Nat.reduceBEq, Nat.reduceAdd, Nat.reduceLeDiff, Int.reduceNe, Int.reduceBEq, Int.reduceEq, reduceCtorEq, Nat.reduceMul, Int.reduceLT, Int.reduceLE, Int.reduceToNat]
    refine call_is (hO 0) ?_
    try simp only [I, B, D, RW, ↓ KW, fillA, setCells, stTags, flat, Nat.reduceBEq, Nat.reduceAdd, Nat.reduceLeDiff, Int.reduceNe, Int.reduceBEq, Int.reduceEq, reduceCtorEq, Nat.reduceMul, Int.reduceLT, Int.reduceLE, Int.reduceToNat, FLW, f_neg, h0]
    refine call_is hA0 ?_
    try simp only [I, B, D, RW, ↓ KW, fillA, setCells, stTags, flat, Nat.reduceBEq, Nat.reduceAdd, Nat.reduceLeDiff, Int.reduceNe, Int.reduceBEq, Int.reduceEq, reduceCtorEq, Nat.reduceMul, Int.reduceLT, Int.reduceLE, Int.reduceToNat]
    refine call_is hW ?_
    try simp only [I, B, D, RW, ↓ KW, fillA, setCells, stTags, flat, Nat.reduceBEq, Nat.reduceAdd, Nat.reduceLeDiff, Int.reduceNe, Int.reduceBEq, Int.reduceEq, reduceCtorEq, Nat.reduceMul, Int.reduceLT, Int.reduceLE, Int.reduceToNat]
theorem secsRise.ok {fT fW : Nat} (hc : cFn P f = some (cc_law02_SecsRise fT fW)) (hT : sTicks.Spec (Pure P) fT) (hW : awake02.Spec (Pure P) fW) : secsRise.Spec (Pure P) f := by
  intro a b c ha hb hcc
  have hTa := hT a ha
  have hTb := hT b hb
  have hTc := hT c hcc
  clear ha hb hcc
  refine pure_of hm hc (by show 3 ≤ 81; decide) (aw_flat (keep := []) (i := 0) ?_)
  try simp only [I, B, D, RW, ↓ KW, fillA, setCells, stTags, flat, Nat.reduceBEq, Nat.reduceAdd, Nat.reduceLeDiff, Int.reduceNe, Int.reduceBEq, Int.reduceEq, reduceCtorEq, Nat.reduceMul, Int.reduceLT, Int.reduceLE, Int.reduceToNat, cc_law02_SecsRise]
  refine call_is hTa ?_
  try simp only [I, B, D, RW, ↓ KW, fillA, setCells, stTags, flat, Nat.reduceBEq, Nat.reduceAdd, Nat.reduceLeDiff, Int.reduceNe, Int.reduceBEq, Int.reduceEq, reduceCtorEq, Nat.reduceMul, Int.reduceLT, Int.reduceLE, Int.reduceToNat, tkAV]
  refine call_is hTb ?_
  try simp only [I, B, D, RW, ↓ KW, fillA, setCells, stTags, flat, Nat.reduceBEq, Nat.reduceAdd, Nat.reduceLeDiff, Int.reduceNe, Int.reduceBEq, Int.reduceEq, reduceCtorEq, Nat.reduceMul, Int.reduceLT, Int.reduceLE, Int.reduceToNat, tkAV]
  refine call_is hTc ?_
  obtain ⟨p, hp⟩ : ∃ p, leF a b = p := ⟨_, rfl⟩
  obtain ⟨q, hq⟩ : ∃ q, leF b c = q := ⟨_, rfl⟩
  try simp only [I, B, D, RW, ↓ KW, fillA, setCells, stTags, flat, Nat.reduceBEq, Nat.reduceAdd, Nat.reduceLeDiff, Int.reduceNe, Int.reduceBEq, Int.reduceEq, reduceCtorEq, Nat.reduceMul, Int.reduceLT, Int.reduceLE, Int.reduceToNat, tkAV, FLW, hp, hq]
  cases p
  · try simp only [I, B, D, RW, ↓ KW, fillA, setCells, stTags, flat, Nat.reduceBEq, Nat.reduceAdd, Nat.reduceLeDiff, Int.reduceNe, Int.reduceBEq, Int.reduceEq, reduceCtorEq, Nat.reduceMul, Int.reduceLT, Int.reduceLE, Int.reduceToNat, FLW, hp, hq]
    refine call_is hW ?_
    try simp only [I, B, D, RW, ↓ KW, fillA, setCells, stTags, flat, Nat.reduceBEq, Nat.reduceAdd, Nat.reduceLeDiff, Int.reduceNe, Int.reduceBEq, Int.reduceEq, reduceCtorEq, Nat.reduceMul, Int.reduceLT, Int.reduceLE, Int.reduceToNat]
  cases q
  · try simp only [I, B, D, RW, ↓ KW, fillA, setCells, stTags, flat, Nat.reduceBEq, Nat.reduceAdd, Nat.reduceLeDiff, Int.reduceNe, Int.reduceBEq, Int.reduceEq, reduceCtorEq, Nat.reduceMul, Int.reduceLT, Int.reduceLE, Int.reduceToNat, FLW, hp, hq]
    refine call_is hW ?_
    try simp only [I, B, D, RW, ↓ KW, fillA, setCells, stTags, flat, Nat.reduceBEq, Nat.reduceAdd, Nat.reduceLeDiff, Int.reduceNe, Int.reduceBEq, Int.reduceEq, reduceCtorEq, Nat.reduceMul, Int.reduceLT, Int.reduceLE, Int.reduceToNat]
  have hp' := hp
  have hq' := hq
  rw [leF_key] at hp' hq'
  have hbet : inR a = true → inR c = true → inR b = true := by
    intro h1 h2
    obtain ⟨x, hx, hx2⟩ := inR_iff.1 h1
    obtain ⟨z, hz, hz2⟩ := inR_iff.1 h2
    rw [hx] at hp'
    rw [hz] at hq'
    cases hy : key b with
    | none => rw [hy] at hp'; simp [kle] at hp'
    | some y =>
      rw [hy] at hp' hq'
      simp only [kle, decide_eq_true_eq] at hp' hq'
      obtain ⟨w, rfl⟩ := Int.eq_ofNat_of_zero_le (show 0 ≤ y by omega)
      exact inR_of hy (by omega)
  have hmono : ∀ u v, inR u = true → inR v = true → kle (key u) (key v) = true → decide ((tk u : Int) ≤ (tk v : Int)) = true := by
    intro u v h1 h2 h3
    obtain ⟨x, hx, hx2⟩ := inR_iff.1 h1
    obtain ⟨z, hz, hz2⟩ := inR_iff.1 h2
    rw [hx, hz] at h3
    simp only [kle, decide_eq_true_eq] at h3
    rw [tk_of hx, tk_of hz]
    have := tkN_mono (a := x) (b := z) (by omega)
    simp; omega
  cases ha : inR a <;> cases hb : inR b <;> cases hcc : inR c
  · try simp only [I, B, D, RW, ↓ KW, fillA, setCells, stTags, flat, Nat.reduceBEq, Nat.reduceAdd, Nat.reduceLeDiff, Int.reduceNe, Int.reduceBEq, Int.reduceEq, reduceCtorEq, Nat.reduceMul, Int.reduceLT, Int.reduceLE, Int.reduceToNat, FLW, hp, hq, ha, hb, hcc]
    refine call_is hW ?_
    try simp only [I, B, D, RW, ↓ KW, fillA, setCells, stTags, flat, Nat.reduceBEq, Nat.reduceAdd, Nat.reduceLeDiff, Int.reduceNe, Int.reduceBEq, Int.reduceEq, reduceCtorEq, Nat.reduceMul, Int.reduceLT, Int.reduceLE, Int.reduceToNat]
  · try simp only [I, B, D, RW, ↓ KW, fillA, setCells, stTags, flat, Nat.reduceBEq, Nat.reduceAdd, Nat.reduceLeDiff, Int.reduceNe, Int.reduceBEq, Int.reduceEq, reduceCtorEq, Nat.reduceMul, Int.reduceLT, Int.reduceLE, Int.reduceToNat, FLW, hp, hq, ha, hb, hcc]
    refine call_is hW ?_
    try simp only [I, B, D, RW, ↓ KW, fillA, setCells, stTags, flat, Nat.reduceBEq, Nat.reduceAdd, Nat.reduceLeDiff, Int.reduceNe, Int.reduceBEq, Int.reduceEq, reduceCtorEq, Nat.reduceMul, Int.reduceLT, Int.reduceLE, Int.reduceToNat]
  · try simp only [I, B, D, RW, ↓ KW, fillA, setCells, stTags, flat, Nat.reduceBEq, Nat.reduceAdd, Nat.reduceLeDiff, Int.reduceNe, Int.reduceBEq, Int.reduceEq, reduceCtorEq, Nat.reduceMul, Int.reduceLT, Int.reduceLE, Int.reduceToNat, FLW, hp, hq, ha, hb, hcc]
    refine call_is hW ?_
    try simp only [I, B, D, RW, ↓ KW, fillA, setCells, stTags, flat, Nat.reduceBEq, Nat.reduceAdd, Nat.reduceLeDiff, Int.reduceNe, Int.reduceBEq, Int.reduceEq, reduceCtorEq, Nat.reduceMul, Int.reduceLT, Int.reduceLE, Int.reduceToNat]
  · try simp only [I, B, D, RW, ↓ KW, fillA, setCells, stTags, flat, Nat.reduceBEq, Nat.reduceAdd, Nat.reduceLeDiff, Int.reduceNe, Int.reduceBEq, Int.reduceEq, reduceCtorEq, Nat.reduceMul, Int.reduceLT, Int.reduceLE, Int.reduceToNat, FLW, hp, hq, ha, hb, hcc]
    refine call_is hW ?_
    try simp only [I, B, D, RW, ↓ KW, fillA, setCells, stTags, flat, Nat.reduceBEq, Nat.reduceAdd, Nat.reduceLeDiff, Int.reduceNe, Int.reduceBEq, Int.reduceEq, reduceCtorEq, Nat.reduceMul, Int.reduceLT, Int.reduceLE, Int.reduceToNat]
  · try simp only [I, B, D, RW, ↓ KW, fillA, setCells, stTags, flat, Nat.reduceBEq, Nat.reduceAdd, Nat.reduceLeDiff, Int.reduceNe, Int.reduceBEq, Int.reduceEq, reduceCtorEq, Nat.reduceMul, Int.reduceLT, Int.reduceLE, Int.reduceToNat, FLW, hp, hq, ha, hb, hcc]
    refine call_is hW ?_
    try simp only [I, B, D, RW, ↓ KW, fillA, setCells, stTags, flat, Nat.reduceBEq, Nat.reduceAdd, Nat.reduceLeDiff, Int.reduceNe, Int.reduceBEq, Int.reduceEq, reduceCtorEq, Nat.reduceMul, Int.reduceLT, Int.reduceLE, Int.reduceToNat]
  · rw [hbet ha hcc] at hb; cases hb
  · have m1 := hmono a b ha hb hp'
    try simp only [I, B, D, RW, ↓ KW, fillA, setCells, stTags, flat, Nat.reduceBEq, Nat.reduceAdd, Nat.reduceLeDiff, Int.reduceNe, Int.reduceBEq, Int.reduceEq, reduceCtorEq, Nat.reduceMul, Int.reduceLT, Int.reduceLE, Int.reduceToNat, FLW, hp, hq, ha, hb, hcc, m1]
    refine call_is hW ?_
    try simp only [I, B, D, RW, ↓ KW, fillA, setCells, stTags, flat, Nat.reduceBEq, Nat.reduceAdd, Nat.reduceLeDiff, Int.reduceNe, Int.reduceBEq, Int.reduceEq, reduceCtorEq, Nat.reduceMul, Int.reduceLT, Int.reduceLE, Int.reduceToNat]
  · have m1 := hmono a b ha hb hp'
    have m2 := hmono b c hb hcc hq'
    try simp only [I, B, D, RW, ↓ KW, fillA, setCells, stTags, flat, Nat.reduceBEq, Nat.reduceAdd, Nat.reduceLeDiff, Int.reduceNe, Int.reduceBEq, Int.reduceEq, reduceCtorEq, Nat.reduceMul, Int.reduceLT, Int.reduceLE, Int.reduceToNat, FLW, hp, hq, ha, hb, hcc, m1, m2]
    refine call_is hW ?_
    try simp only [I, B, D, RW, ↓ KW, fillA, setCells, stTags, flat, Nat.reduceBEq, Nat.reduceAdd, Nat.reduceLeDiff, Int.reduceNe, Int.reduceBEq, Int.reduceEq, reduceCtorEq, Nat.reduceMul, Int.reduceLT, Int.reduceLE, Int.reduceToNat]
end

end Go.Eng
