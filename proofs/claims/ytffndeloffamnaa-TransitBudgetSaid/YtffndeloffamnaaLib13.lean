/- LIBRARY, PART 13: parts of tables by numbers: sets, detectors, rails. -/
import Derived.Test.YtffndeloffamnaaLib12
namespace Go.Eng
set_option linter.unnecessarySimpa false
open Go
set_option linter.unusedVariables false
set_option linter.unusedSimpArgs false
set_option maxRecDepth 10000
set_option maxHeartbeats 4000000
def withT (t : Tb) (p q : Int) : Int := if besideR t p q then withR (ofI [p]) q else ofI [p]
def with.Spec (C : Con) (f : Nat) : Prop := ∀ (t : Tb) (p q : Int), t.Ok → C.c f [.agg t.cells, I p, I q] (I (withT t p q)) none

theorem bf_mul (k : FloatKind) (x y : Nat) : binA .mul (.float k x) (.float k y) = (k.format.mul x y).map (.float k) := by simp [binA, floatA]
theorem bf_quo (k : FloatKind) (x y : Nat) : binA .quo (.float k x) (.float k y) = (k.format.div x y).map (.float k) := by simp [binA, floatA]
theorem bf_add (k : FloatKind) (x y : Nat) : binA .add (.float k x) (.float k y) = (k.format.add x y).map (.float k) := by simp [binA, floatA]
theorem bf_sub (k : FloatKind) (x y : Nat) : binA .sub (.float k x) (.float k y) = (k.format.sub x y).map (.float k) := by simp [binA, floatA]
theorem cv_IF (k : FloatKind) (k' : IntKind) (n : Int) : cvIFA k (.int k' n) = some (.float k (k.nearest n)) := rfl

theorem frm_range (l : Option (List Int)) (i : Int) {n : Int} (h : 0 < n) (hn : n ≤ 4294967296) : 0 ≤ frm l i n ∧ frm l i n < n := by
  simp only [frm, place]
  have h1 := Int.tmod_lt_of_pos (atL l i) h
  have h2 := Int.lt_tmod_of_pos (atL l i) h
  split
  · rw [w64, wrap_id (by omega) (by omega)]; omega
  · omega

/-- n tenths, as a float -/
def tenth (n : Int) : Nat := (FloatKind.f64.format.div (FloatKind.f64.nearest n) 4621819117588971520).getD 0
theorem tenth_some : ∀ n : Nat, n < 6 → FloatKind.f64.format.div (FloatKind.f64.nearest (n : Int)) 4621819117588971520 = some (tenth n) := by decide +kernel
def detOn (k : Int) : Nat := [4617315517961601024, 4621819117588971520, 4607182418800017408, 4602678819172646912].getD k.toNat 0
def detScale (k : Int) : Nat := [4602678819172646912, 4607182418800017408, 4598175219545276416].getD k.toNat 0
def detOff (j k : Int) : Nat := (FloatKind.f64.format.mul (detOn j) (detScale k)).getD 0
theorem detOff_some : ∀ j : Nat, j < 4 → ∀ k : Nat, k < 3 → FloatKind.f64.format.mul (detOn j) (detScale k) = some (detOff j k) := by decide +kernel

def detectorOf (l : Option (List Int)) (i n : Int) : Det where
  phase := frm l i n
  on := detOn (frm l (w64 (i + 1)) 4)
  off := detOff (frm l (w64 (i + 1)) 4) (frm l (w64 (i + 2)) 3)
  delay := tenth (frm l (w64 (i + 3)) 4)
  extend := tenth (frm l (w64 (i + 4)) 6)
  maxOn := if frm l (w64 (i + 5)) 3 == 1 then w64 (20 + frm l (w64 (i + 6)) 60) else 0
  maxOff := if frm l (w64 (i + 5)) 9 == 2 then w64 (60 + frm l (w64 (i + 7)) 300) else 0
def detector.Spec (C : Con) (f : Nat) : Prop := ∀ (l : Option (List Int)) (i n : Int), 0 < n → C.c f [slAV intRow l, I i, I n] (.agg (detectorOf l i n).cells) none

section
variable {P : Program} (hm : P.follows .mixedOrders = true) {f : Nat}
include hm
theorem with.ok {e fO fB fW : Nat} (hc : cFn P f = some (cc_law00_with e fO fB fW)) (hO : refOf.Spec (Pure P) fO) (hB : beside.Spec (Pure P) fB) (hW : refWith.Spec (Pure P) fW) : with.Spec (Pure P) f := by
  intro t p q ht
  have hl := Tb.len ht
  have hp := Tb.whole ht
  refine pure_of hm hc (by show 3 ≤ 19; decide) (aw_flat (keep := []) (i := 0) ?_)
  try simp only [I, B, D, RW, ↓ KW, fillA, setCells, stTags, flat, Nat.reduceBEq, Nat.reduceAdd, Nat.reduceLeDiff, Int.reduceNe, Int.reduceBEq, Int.reduceEq, reduceCtorEq, Nat.reduceMul, Int.reduceLT, Int.reduceLE, Int.reduceToNat, cc_law00_with, hp, hl]
  refine call_is (hO (some [_]) (by simp)) ?_
  try simp only [I, B, D, RW, ↓ KW, fillA, setCells, stTags, flat, Nat.reduceBEq, Nat.reduceAdd, Nat.reduceLeDiff, Int.reduceNe, Int.reduceBEq, Int.reduceEq, reduceCtorEq, Nat.reduceMul, Int.reduceLT, Int.reduceLE, Int.reduceToNat, hp]
  refine call_is (hB t _ _ ht) ?_
  try simp only [I, B, D, RW, ↓ KW, fillA, setCells, stTags, flat, Nat.reduceBEq, Nat.reduceAdd, Nat.reduceLeDiff, Int.reduceNe, Int.reduceBEq, Int.reduceEq, reduceCtorEq, Nat.reduceMul, Int.reduceLT, Int.reduceLE, Int.reduceToNat]
  repeat' (first | (refine call_is (hW _ _) ?_; try simp only [I, B, D, RW, ↓ KW, fillA, setCells, stTags, flat, Nat.reduceBEq, Nat.reduceAdd, Nat.reduceLeDiff, Int.reduceNe, Int.reduceBEq, Int.reduceEq, reduceCtorEq, Nat.reduceMul, Int.reduceLT, Int.reduceLE, Int.reduceToNat]) | (refine gd_split (fun h => ?_) (fun h => ?_) <;> try simp only [I, B, D, RW, ↓ KW, fillA, setCells, stTags, flat, Nat.reduceBEq, Nat.reduceAdd, Nat.reduceLeDiff, Int.reduceNe, Int.reduceBEq, Int.reduceEq, reduceCtorEq, Nat.reduceMul, Int.reduceLT, Int.reduceLE, Int.reduceToNat, h]) | (refine cd_split (fun h => ?_) (fun h => ?_) <;> try simp only [I, B, D, RW, ↓ KW, fillA, setCells, stTags, flat, Nat.reduceBEq, Nat.reduceAdd, Nat.reduceLeDiff, Int.reduceNe, Int.reduceBEq, Int.reduceEq, reduceCtorEq, Nat.reduceMul, Int.reduceLT, Int.reduceLE, Int.reduceToNat, h]) | (refine pk_split (fun h => ?_) (fun h => ?_) <;> try simp only [I, B, D, RW, ↓ KW, fillA, setCells, stTags, flat, Nat.reduceBEq, Nat.reduceAdd, Nat.reduceLeDiff, Int.reduceNe, Int.reduceBEq, Int.reduceEq, reduceCtorEq, Nat.reduceMul, Int.reduceLT, Int.reduceLE, Int.reduceToNat, h]))
  all_goals simp_all [withT]

theorem detector.ok {fF : Nat} (hc : cFn P f = some (cc_law00_detector fF)) (hF : from.Spec (Pure P) fF) : detector.Spec (Pure P) f := by
  intro l i n hn
  refine pure_of hm hc (by show 3 ≤ 66; decide) (aw_flat (keep := []) (i := 0) ?_)
  try simp only [I, B, D, RW, ↓ KW, fillA, setCells, stTags, flat, Nat.reduceBEq, Nat.reduceAdd, Nat.reduceLeDiff, Int.reduceNe, Int.reduceBEq, Int.reduceEq, reduceCtorEq, Nat.reduceMul, Int.reduceLT, Int.reduceLE, Int.reduceToNat, cc_law00_detector]
  refine call_is (hF _ _ _ hn) ?_
  try simp only [I, B, D, RW, ↓ KW, fillA, setCells, stTags, flat, Nat.reduceBEq, Nat.reduceAdd, Nat.reduceLeDiff, Int.reduceNe, Int.reduceBEq, Int.reduceEq, reduceCtorEq, Nat.reduceMul, Int.reduceLT, Int.reduceLE, Int.reduceToNat]
  refine call_is (hF _ _ _ (by decide)) ?_
  try simp only [I, B, D, RW, ↓ KW, fillA, setCells, stTags, flat, Nat.reduceBEq, Nat.reduceAdd, Nat.reduceLeDiff, Int.reduceNe, Int.reduceBEq, Int.reduceEq, reduceCtorEq, Nat.reduceMul, Int.reduceLT, Int.reduceLE, Int.reduceToNat]
  have h1 := frm_range l (w64 (i + 1)) (n := 4) (by decide) (by decide)
  have h2 := frm_range l (w64 (i + 2)) (n := 3) (by decide) (by decide)
  have h3 := frm_range l (w64 (i + 3)) (n := 4) (by decide) (by decide)
  have h4 := frm_range l (w64 (i + 4)) (n := 6) (by decide) (by decide)
  have e1 : [AV.float FloatKind.f64 4617315517961601024, AV.float FloatKind.f64 4621819117588971520, AV.float FloatKind.f64 4607182418800017408, AV.float FloatKind.f64 4602678819172646912][(frm l (w64 (i + 1)) 4).toNat]? = some (.float .f64 (detOn (frm l (w64 (i + 1)) 4))) := by
    generalize frm l (w64 (i + 1)) 4 = j at *
    have : j = 0 ∨ j = 1 ∨ j = 2 ∨ j = 3 := by omega
    rcases this with rfl | rfl | rfl | rfl <;> rfl
  have e2 : [AV.float FloatKind.f64 4602678819172646912, AV.float FloatKind.f64 4607182418800017408, AV.float FloatKind.f64 4598175219545276416][(frm l (w64 (i + 2)) 3).toNat]? = some (.float .f64 (detScale (frm l (w64 (i + 2)) 3))) := by
    generalize frm l (w64 (i + 2)) 3 = j at *
    have : j = 0 ∨ j = 1 ∨ j = 2 := by omega
    rcases this with rfl | rfl | rfl <;> rfl
  have e3 := detOff_some (frm l (w64 (i + 1)) 4).toNat (by omega) (frm l (w64 (i + 2)) 3).toNat (by omega)
  have e4 := tenth_some (frm l (w64 (i + 3)) 4).toNat (by omega)
  have e5 := tenth_some (frm l (w64 (i + 4)) 6).toNat (by omega)
  simp only [Int.toNat_of_nonneg h1.1, Int.toNat_of_nonneg h2.1] at e3
  simp only [Int.toNat_of_nonneg h3.1] at e4
  simp only [Int.toNat_of_nonneg h4.1] at e5
  simp only [w64] at e1 e2 e3 e4 e5 h1 h2 h3 h4
  refine ⟨by omega, ?_⟩
  try simp only [I, B, D, RW, ↓ KW, fillA, setCells, stTags, flat, Nat.reduceBEq, Nat.reduceAdd, Nat.reduceLeDiff, Int.reduceNe, Int.reduceBEq, Int.reduceEq, reduceCtorEq, Nat.reduceMul, Int.reduceLT, Int.reduceLE, Int.reduceToNat, e1]
  refine call_is (hF l _ 3 (by decide)) ?_
  try simp only [I, B, D, RW, ↓ KW, fillA, setCells, stTags, flat, Nat.reduceBEq, Nat.reduceAdd, Nat.reduceLeDiff, Int.reduceNe, Int.reduceBEq, Int.reduceEq, reduceCtorEq, Nat.reduceMul, Int.reduceLT, Int.reduceLE, Int.reduceToNat]
  refine ⟨by omega, ?_⟩
  try simp only [I, B, D, RW, ↓ KW, fillA, setCells, stTags, flat, Nat.reduceBEq, Nat.reduceAdd, Nat.reduceLeDiff, Int.reduceNe, Int.reduceBEq, Int.reduceEq, reduceCtorEq, Nat.reduceMul, Int.reduceLT, Int.reduceLE, Int.reduceToNat, e2, bf_mul, e3]
  refine call_is (hF _ _ _ (by decide)) ?_
  try simp only [I, B, D, RW, ↓ KW, fillA, setCells, stTags, flat, Nat.reduceBEq, Nat.reduceAdd, Nat.reduceLeDiff, Int.reduceNe, Int.reduceBEq, Int.reduceEq, reduceCtorEq, Nat.reduceMul, Int.reduceLT, Int.reduceLE, Int.reduceToNat, cv_IF, bf_quo, e4]
  refine call_is (hF _ _ _ (by decide)) ?_
  try simp only [I, B, D, RW, ↓ KW, fillA, setCells, stTags, flat, Nat.reduceBEq, Nat.reduceAdd, Nat.reduceLeDiff, Int.reduceNe, Int.reduceBEq, Int.reduceEq, reduceCtorEq, Nat.reduceMul, Int.reduceLT, Int.reduceLE, Int.reduceToNat, cv_IF, bf_quo, e5]
  repeat' (first | (refine call_is (hF _ _ _ (by decide)) ?_; try simp only [I, B, D, RW, ↓ KW, fillA, setCells, stTags, flat, Nat.reduceBEq, Nat.reduceAdd, Nat.reduceLeDiff, Int.reduceNe, Int.reduceBEq, Int.reduceEq, reduceCtorEq, Nat.reduceMul, Int.reduceLT, Int.reduceLE, Int.reduceToNat]) | (refine gd_split (fun h => ?_) (fun h => ?_) <;> try simp only [I, B, D, RW, ↓ KW, fillA, setCells, stTags, flat, Nat.reduceBEq, Nat.reduceAdd, Nat.reduceLeDiff, Int.reduceNe, Int.reduceBEq, Int.reduceEq, reduceCtorEq, Nat.reduceMul, Int.reduceLT, Int.reduceLE, Int.reduceToNat, h]) | (refine cd_split (fun h => ?_) (fun h => ?_) <;> try simp only [I, B, D, RW, ↓ KW, fillA, setCells, stTags, flat, Nat.reduceBEq, Nat.reduceAdd, Nat.reduceLeDiff, Int.reduceNe, Int.reduceBEq, Int.reduceEq, reduceCtorEq, Nat.reduceMul, Int.reduceLT, Int.reduceLE, Int.reduceToNat, h]) | (refine pk_split (fun h => ?_) (fun h => ?_) <;> try simp only [I, B, D, RW, ↓ KW, fillA, setCells, stTags, flat, Nat.reduceBEq, Nat.reduceAdd, Nat.reduceLeDiff, Int.reduceNe, Int.reduceBEq, Int.reduceEq, reduceCtorEq, Nat.reduceMul, Int.reduceLT, Int.reduceLE, Int.reduceToNat, h]))
  all_goals simp_all [detectorOf, Det.cells, w64]

def railOf (t : Tb) (l : Option (List Int)) (i n : Int) : Rl :=
  let p := frm l (w64 (i + 4)) (w64 (n + 1))
  let dwell := withT t (frm l i n) (frm l (w64 (i + 1)) n)
  let stay := w64 (1 + frm l (w64 (i + 11)) 15)
  let delay := frm l (w64 (i + 8)) 4
  { bars := bAndNot .i64 (bAnd .i64 (frm l (w64 (i + 7)) 256) (w64 (w64 (1 * 2 ^ min (IntKind.u64.wrap n).toNat 64) - 1))) dwell
    clear := if p < n then withT t p (frm l (w64 (i + 5)) n) else 0
    dwell := dwell
    exit := withT t (frm l (w64 (i + 2)) n) (frm l (w64 (i + 3)) n)
    delay := delay
    green := w64 (1 + frm l (w64 (i + 9)) 6)
    foot := frm l (w64 (i + 10)) 6
    hold := if p < n then w64 (1 + frm l (w64 (i + 6)) 10) else 0
    stay := stay
    most := if frm l (w64 (i + 12)) 3 == 1 then w64 (stay + frm l (w64 (i + 13)) 30) else 0
    limit := w64 (w64 (delay + 1) + [10000, 400, 20].getD (frm l (w64 (i + 14)) 3).toNat 0) }
def rail.Spec (C : Con) (f : Nat) : Prop := ∀ (t : Tb) (l : Option (List Int)) (i n : Int), t.Ok → 0 < n → n ≤ 8 → C.c f [.agg t.cells, slAV intRow l, I i, I n] (.agg (railOf t l i n).cells) none

theorem rail.ok {fF fW : Nat} (hc : cFn P f = some (cc_law00_rail fF fW)) (hF : from.Spec (Pure P) fF) (hW : with.Spec (Pure P) fW) : rail.Spec (Pure P) f := by
  intro t l i n ht hn hn8
  have hl := Tb.len ht
  have hp := Tb.whole ht
  have hn1 : IntKind.i64.wrap (n + 1) = n + 1 := wrap_id (by omega) (by omega)
  refine pure_of hm hc (by show 4 ≤ 119; decide) (aw_flat (keep := []) (i := 0) ?_)
  try simp only [I, B, D, RW, ↓ KW, fillA, setCells, stTags, flat, Nat.reduceBEq, Nat.reduceAdd, Nat.reduceLeDiff, Int.reduceNe, Int.reduceBEq, Int.reduceEq, reduceCtorEq, Nat.reduceMul, Int.reduceLT, Int.reduceLE, Int.reduceToNat, cc_law00_rail, hp, hl, z11_58867]
  refine call_is (hF _ _ _ hn) ?_
  try simp only [I, B, D, RW, ↓ KW, fillA, setCells, stTags, flat, Nat.reduceBEq, Nat.reduceAdd, Nat.reduceLeDiff, Int.reduceNe, Int.reduceBEq, Int.reduceEq, reduceCtorEq, Nat.reduceMul, Int.reduceLT, Int.reduceLE, Int.reduceToNat, hp]
  refine call_is (hF _ _ _ hn) ?_
  try simp only [I, B, D, RW, ↓ KW, fillA, setCells, stTags, flat, Nat.reduceBEq, Nat.reduceAdd, Nat.reduceLeDiff, Int.reduceNe, Int.reduceBEq, Int.reduceEq, reduceCtorEq, Nat.reduceMul, Int.reduceLT, Int.reduceLE, Int.reduceToNat, hp]
  refine call_is (hW t _ _ ht) ?_
  try simp only [I, B, D, RW, ↓ KW, fillA, setCells, stTags, flat, Nat.reduceBEq, Nat.reduceAdd, Nat.reduceLeDiff, Int.reduceNe, Int.reduceBEq, Int.reduceEq, reduceCtorEq, Nat.reduceMul, Int.reduceLT, Int.reduceLE, Int.reduceToNat, hp]
  refine call_is (hF _ _ _ hn) ?_
  try simp only [I, B, D, RW, ↓ KW, fillA, setCells, stTags, flat, Nat.reduceBEq, Nat.reduceAdd, Nat.reduceLeDiff, Int.reduceNe, Int.reduceBEq, Int.reduceEq, reduceCtorEq, Nat.reduceMul, Int.reduceLT, Int.reduceLE, Int.reduceToNat, hp]
  refine call_is (hF _ _ _ hn) ?_
  try simp only [I, B, D, RW, ↓ KW, fillA, setCells, stTags, flat, Nat.reduceBEq, Nat.reduceAdd, Nat.reduceLeDiff, Int.reduceNe, Int.reduceBEq, Int.reduceEq, reduceCtorEq, Nat.reduceMul, Int.reduceLT, Int.reduceLE, Int.reduceToNat, hp]
  refine call_is (hW t _ _ ht) ?_
  try simp only [I, B, D, RW, ↓ KW, fillA, setCells, stTags, flat, Nat.reduceBEq, Nat.reduceAdd, Nat.reduceLeDiff, Int.reduceNe, Int.reduceBEq, Int.reduceEq, reduceCtorEq, Nat.reduceMul, Int.reduceLT, Int.reduceLE, Int.reduceToNat, hp]
  refine call_is (hF _ _ _ (by omega)) ?_
  try simp only [I, B, D, RW, ↓ KW, fillA, setCells, stTags, flat, Nat.reduceBEq, Nat.reduceAdd, Nat.reduceLeDiff, Int.reduceNe, Int.reduceBEq, Int.reduceEq, reduceCtorEq, Nat.reduceMul, Int.reduceLT, Int.reduceLE, Int.reduceToNat, hp]
  have h14 := frm_range l (w64 (i + 14)) (n := 3) (by decide) (by decide)
  have e14 : [AV.int .i64 10000, AV.int .i64 400, AV.int .i64 20][(frm l (w64 (i + 14)) 3).toNat]? = some (.int .i64 ([10000, 400, 20].getD (frm l (w64 (i + 14)) 3).toNat 0)) := by
    generalize frm l (w64 (i + 14)) 3 = j at *
    have : j = 0 ∨ j = 1 ∨ j = 2 := by omega
    rcases this with rfl | rfl | rfl <;> rfl
  have hu : 0 ≤ IntKind.u64.wrap n := by rw [IntKind.wrap]; simp [IntKind.signed]; omega
  simp only [w64] at e14 h14
  refine cd_split (fun h => ?_) (fun h => ?_) <;> try simp only [I, B, D, RW, ↓ KW, fillA, setCells, stTags, flat, Nat.reduceBEq, Nat.reduceAdd, Nat.reduceLeDiff, Int.reduceNe, Int.reduceBEq, Int.reduceEq, reduceCtorEq, Nat.reduceMul, Int.reduceLT, Int.reduceLE, Int.reduceToNat, hp, h]
  · repeat' (first | (refine call_is (hF _ _ _ hn) ?_; try simp only [I, B, D, RW, ↓ KW, fillA, setCells, stTags, flat, Nat.reduceBEq, Nat.reduceAdd, Nat.reduceLeDiff, Int.reduceNe, Int.reduceBEq, Int.reduceEq, reduceCtorEq, Nat.reduceMul, Int.reduceLT, Int.reduceLE, Int.reduceToNat, hp]) | (refine call_is (hF _ _ _ (by decide)) ?_; try simp only [I, B, D, RW, ↓ KW, fillA, setCells, stTags, flat, Nat.reduceBEq, Nat.reduceAdd, Nat.reduceLeDiff, Int.reduceNe, Int.reduceBEq, Int.reduceEq, reduceCtorEq, Nat.reduceMul, Int.reduceLT, Int.reduceLE, Int.reduceToNat, hp]) | (refine call_is (hW t _ _ ht) ?_; try simp only [I, B, D, RW, ↓ KW, fillA, setCells, stTags, flat, Nat.reduceBEq, Nat.reduceAdd, Nat.reduceLeDiff, Int.reduceNe, Int.reduceBEq, Int.reduceEq, reduceCtorEq, Nat.reduceMul, Int.reduceLT, Int.reduceLE, Int.reduceToNat, hp]) | (refine gd_split (fun h => ?_) (fun h => ?_) <;> try simp only [I, B, D, RW, ↓ KW, fillA, setCells, stTags, flat, Nat.reduceBEq, Nat.reduceAdd, Nat.reduceLeDiff, Int.reduceNe, Int.reduceBEq, Int.reduceEq, reduceCtorEq, Nat.reduceMul, Int.reduceLT, Int.reduceLE, Int.reduceToNat, hp, h]) | (refine cd_split (fun h => ?_) (fun h => ?_) <;> try simp only [I, B, D, RW, ↓ KW, fillA, setCells, stTags, flat, Nat.reduceBEq, Nat.reduceAdd, Nat.reduceLeDiff, Int.reduceNe, Int.reduceBEq, Int.reduceEq, reduceCtorEq, Nat.reduceMul, Int.reduceLT, Int.reduceLE, Int.reduceToNat, hp, h]) | (refine pk_split (fun h => ?_) (fun h => ?_) <;> try simp only [I, B, D, RW, ↓ KW, fillA, setCells, stTags, flat, Nat.reduceBEq, Nat.reduceAdd, Nat.reduceLeDiff, Int.reduceNe, Int.reduceBEq, Int.reduceEq, reduceCtorEq, Nat.reduceMul, Int.reduceLT, Int.reduceLE, Int.reduceToNat, hp, h]))
    refine ⟨hu, ?_⟩
    repeat' (first | (refine call_is (hF _ _ _ hn) ?_; try simp only [I, B, D, RW, ↓ KW, fillA, setCells, stTags, flat, Nat.reduceBEq, Nat.reduceAdd, Nat.reduceLeDiff, Int.reduceNe, Int.reduceBEq, Int.reduceEq, reduceCtorEq, Nat.reduceMul, Int.reduceLT, Int.reduceLE, Int.reduceToNat, hp]) | (refine call_is (hF _ _ _ (by decide)) ?_; try simp only [I, B, D, RW, ↓ KW, fillA, setCells, stTags, flat, Nat.reduceBEq, Nat.reduceAdd, Nat.reduceLeDiff, Int.reduceNe, Int.reduceBEq, Int.reduceEq, reduceCtorEq, Nat.reduceMul, Int.reduceLT, Int.reduceLE, Int.reduceToNat, hp]) | (refine call_is (hW t _ _ ht) ?_; try simp only [I, B, D, RW, ↓ KW, fillA, setCells, stTags, flat, Nat.reduceBEq, Nat.reduceAdd, Nat.reduceLeDiff, Int.reduceNe, Int.reduceBEq, Int.reduceEq, reduceCtorEq, Nat.reduceMul, Int.reduceLT, Int.reduceLE, Int.reduceToNat, hp]) | (refine gd_split (fun h => ?_) (fun h => ?_) <;> try simp only [I, B, D, RW, ↓ KW, fillA, setCells, stTags, flat, Nat.reduceBEq, Nat.reduceAdd, Nat.reduceLeDiff, Int.reduceNe, Int.reduceBEq, Int.reduceEq, reduceCtorEq, Nat.reduceMul, Int.reduceLT, Int.reduceLE, Int.reduceToNat, hp, h]) | (refine cd_split (fun h => ?_) (fun h => ?_) <;> try simp only [I, B, D, RW, ↓ KW, fillA, setCells, stTags, flat, Nat.reduceBEq, Nat.reduceAdd, Nat.reduceLeDiff, Int.reduceNe, Int.reduceBEq, Int.reduceEq, reduceCtorEq, Nat.reduceMul, Int.reduceLT, Int.reduceLE, Int.reduceToNat, hp, h]) | (refine pk_split (fun h => ?_) (fun h => ?_) <;> try simp only [I, B, D, RW, ↓ KW, fillA, setCells, stTags, flat, Nat.reduceBEq, Nat.reduceAdd, Nat.reduceLeDiff, Int.reduceNe, Int.reduceBEq, Int.reduceEq, reduceCtorEq, Nat.reduceMul, Int.reduceLT, Int.reduceLE, Int.reduceToNat, hp, h]))
    all_goals refine ⟨by omega, ?_⟩
    all_goals try simp only [I, B, D, RW, ↓ KW, fillA, setCells, stTags, flat, Nat.reduceBEq, Nat.reduceAdd, Nat.reduceLeDiff, Int.reduceNe, Int.reduceBEq, Int.reduceEq, reduceCtorEq, Nat.reduceMul, Int.reduceLT, Int.reduceLE, Int.reduceToNat, e14, hp]
    all_goals simp_all [railOf, Rl.cells, w64, IntKind.bits]
  · repeat' (first | (refine call_is (hF _ _ _ hn) ?_; try simp only [I, B, D, RW, ↓ KW, fillA, setCells, stTags, flat, Nat.reduceBEq, Nat.reduceAdd, Nat.reduceLeDiff, Int.reduceNe, Int.reduceBEq, Int.reduceEq, reduceCtorEq, Nat.reduceMul, Int.reduceLT, Int.reduceLE, Int.reduceToNat, hp]) | (refine call_is (hF _ _ _ (by decide)) ?_; try simp only [I, B, D, RW, ↓ KW, fillA, setCells, stTags, flat, Nat.reduceBEq, Nat.reduceAdd, Nat.reduceLeDiff, Int.reduceNe, Int.reduceBEq, Int.reduceEq, reduceCtorEq, Nat.reduceMul, Int.reduceLT, Int.reduceLE, Int.reduceToNat, hp]) | (refine call_is (hW t _ _ ht) ?_; try simp only [I, B, D, RW, ↓ KW, fillA, setCells, stTags, flat, Nat.reduceBEq, Nat.reduceAdd, Nat.reduceLeDiff, Int.reduceNe, Int.reduceBEq, Int.reduceEq, reduceCtorEq, Nat.reduceMul, Int.reduceLT, Int.reduceLE, Int.reduceToNat, hp]) | (refine gd_split (fun h => ?_) (fun h => ?_) <;> try simp only [I, B, D, RW, ↓ KW, fillA, setCells, stTags, flat, Nat.reduceBEq, Nat.reduceAdd, Nat.reduceLeDiff, Int.reduceNe, Int.reduceBEq, Int.reduceEq, reduceCtorEq, Nat.reduceMul, Int.reduceLT, Int.reduceLE, Int.reduceToNat, hp, h]) | (refine cd_split (fun h => ?_) (fun h => ?_) <;> try simp only [I, B, D, RW, ↓ KW, fillA, setCells, stTags, flat, Nat.reduceBEq, Nat.reduceAdd, Nat.reduceLeDiff, Int.reduceNe, Int.reduceBEq, Int.reduceEq, reduceCtorEq, Nat.reduceMul, Int.reduceLT, Int.reduceLE, Int.reduceToNat, hp, h]) | (refine pk_split (fun h => ?_) (fun h => ?_) <;> try simp only [I, B, D, RW, ↓ KW, fillA, setCells, stTags, flat, Nat.reduceBEq, Nat.reduceAdd, Nat.reduceLeDiff, Int.reduceNe, Int.reduceBEq, Int.reduceEq, reduceCtorEq, Nat.reduceMul, Int.reduceLT, Int.reduceLE, Int.reduceToNat, hp, h]))
    refine ⟨hu, ?_⟩
    repeat' (first | (refine call_is (hF _ _ _ hn) ?_; try simp only [I, B, D, RW, ↓ KW, fillA, setCells, stTags, flat, Nat.reduceBEq, Nat.reduceAdd, Nat.reduceLeDiff, Int.reduceNe, Int.reduceBEq, Int.reduceEq, reduceCtorEq, Nat.reduceMul, Int.reduceLT, Int.reduceLE, Int.reduceToNat, hp]) | (refine call_is (hF _ _ _ (by decide)) ?_; try simp only [I, B, D, RW, ↓ KW, fillA, setCells, stTags, flat, Nat.reduceBEq, Nat.reduceAdd, Nat.reduceLeDiff, Int.reduceNe, Int.reduceBEq, Int.reduceEq, reduceCtorEq, Nat.reduceMul, Int.reduceLT, Int.reduceLE, Int.reduceToNat, hp]) | (refine call_is (hW t _ _ ht) ?_; try simp only [I, B, D, RW, ↓ KW, fillA, setCells, stTags, flat, Nat.reduceBEq, Nat.reduceAdd, Nat.reduceLeDiff, Int.reduceNe, Int.reduceBEq, Int.reduceEq, reduceCtorEq, Nat.reduceMul, Int.reduceLT, Int.reduceLE, Int.reduceToNat, hp]) | (refine gd_split (fun h => ?_) (fun h => ?_) <;> try simp only [I, B, D, RW, ↓ KW, fillA, setCells, stTags, flat, Nat.reduceBEq, Nat.reduceAdd, Nat.reduceLeDiff, Int.reduceNe, Int.reduceBEq, Int.reduceEq, reduceCtorEq, Nat.reduceMul, Int.reduceLT, Int.reduceLE, Int.reduceToNat, hp, h]) | (refine cd_split (fun h => ?_) (fun h => ?_) <;> try simp only [I, B, D, RW, ↓ KW, fillA, setCells, stTags, flat, Nat.reduceBEq, Nat.reduceAdd, Nat.reduceLeDiff, Int.reduceNe, Int.reduceBEq, Int.reduceEq, reduceCtorEq, Nat.reduceMul, Int.reduceLT, Int.reduceLE, Int.reduceToNat, hp, h]) | (refine pk_split (fun h => ?_) (fun h => ?_) <;> try simp only [I, B, D, RW, ↓ KW, fillA, setCells, stTags, flat, Nat.reduceBEq, Nat.reduceAdd, Nat.reduceLeDiff, Int.reduceNe, Int.reduceBEq, Int.reduceEq, reduceCtorEq, Nat.reduceMul, Int.reduceLT, Int.reduceLE, Int.reduceToNat, hp, h]))
    all_goals refine ⟨by omega, ?_⟩
    all_goals try simp only [I, B, D, RW, ↓ KW, fillA, setCells, stTags, flat, Nat.reduceBEq, Nat.reduceAdd, Nat.reduceLeDiff, Int.reduceNe, Int.reduceBEq, Int.reduceEq, reduceCtorEq, Nat.reduceMul, Int.reduceLT, Int.reduceLE, Int.reduceToNat, e14, hp]
    all_goals simp_all [railOf, Rl.cells, w64, IntKind.bits]
    all_goals exact ⟨fun _ => by omega, fun _ => by omega⟩
end

end Go.Eng
