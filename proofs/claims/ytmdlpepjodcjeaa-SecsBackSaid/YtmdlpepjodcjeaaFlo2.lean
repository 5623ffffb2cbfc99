/- FLOATS, PART 2: the operations on words, by what the words stand for. -/
import Derived.Test.YtmdlpepjodcjeaaFlo1
namespace Go.Eng
set_option linter.unnecessarySimpa false
open Ieee
set_option linter.unusedVariables false
set_option linter.unusedSimpArgs false
set_option exponentiation.threshold 4000

abbrev DF : Format := Ieee.double
theorem df_binade : DF.binade = 2 ^ 52 := rfl
theorem df_sign : DF.signWeight = 2 ^ 63 := rfl
theorem df_inf : DF.infRung = 2047 * 2 ^ 52 := rfl
theorem df_least : DF.leastPlace = -1074 := by decide
theorem df_frac : DF.fractionBits = 52 := rfl

/-- the digits and the place of a rung -/
def dig (r : Nat) : Nat := if r < 2 ^ 52 then r else 2 ^ 52 + r % 2 ^ 52
def plc (r : Nat) : Nat := if r < 2 ^ 52 then 0 else r / 2 ^ 52 - 1
theorem rV_dig (r : Nat) : rV r = dig r * 2 ^ plc r := by unfold rV dig plc; split <;> simp
theorem dig_lt (r : Nat) : dig r < 2 ^ 53 := by unfold dig; split <;> omega
theorem plc_lt {r : Nat} (h : r < 2047 * 2 ^ 52) : plc r ≤ 2045 := by unfold plc; split <;> omega
theorem read_pos {r : Nat} (h : r < 2047 * 2 ^ 52) : DF.read r = .number false (dig r) (-1074 + (plc r : Int)) := by
  have h1 : r / 2 ^ 63 % 2 = 0 := by omega
  have h2 : r % 2 ^ 63 = r := by omega
  unfold Format.read
  simp only [df_binade, df_sign, df_inf, df_least, h1, h2]
  unfold dig plc
  split
  · simp
  · simp [h]
theorem read_neg {r : Nat} (h : r < 2047 * 2 ^ 52) : DF.read (2 ^ 63 + r) = .number true (dig r) (-1074 + (plc r : Int)) := by
  have h1 : (2 ^ 63 + r) / 2 ^ 63 % 2 = 1 := by omega
  have h2 : (2 ^ 63 + r) % 2 ^ 63 = r := by omega
  unfold Format.read
  simp only [df_binade, df_sign, df_inf, df_least, h1, h2]
  unfold dig plc
  split
  · simp
  · simp [h]

/-- rounding a number: its rung -/
theorem nearest_Rg (s : Bool) (m : Nat) (p : Int) (hp : -2200 ≤ p) : DF.nearest s m p = DF.word s (Rg (m * 2 ^ (p + 2200).toNat)) := by
  unfold Format.nearest
  by_cases h0 : m = 0
  · simp [h0, Rg]
  · rw [if_neg h0]
    obtain ⟨k, hk⟩ : ∃ k : Nat, p = (k : Int) - 2200 := ⟨(p + 2200).toNat, by omega⟩
    subst hk
    have ek : ((k : Int) - 2200 + 2200).toNat = k := by omega
    rw [ek]
    have h1 : m * 2 ^ k ≠ 0 := Nat.mul_ne_zero h0 (by have := pow_pos2 k; omega)
    have hl : (m * 2 ^ k).log2 = m.log2 + k := by
      apply Nat.le_antisymm
      · have : (m * 2 ^ k).log2 < m.log2 + k + 1 := (Nat.log2_lt h1).2 (by
          rw [show m.log2 + k + 1 = (m.log2 + 1) + k by omega, Nat.pow_add]
          exact Nat.mul_lt_mul_of_pos_right (log2_lt' m) (pow_pos2 k))
        omega
      · exact (Nat.le_log2 h1).2 (by rw [Nat.pow_add]; exact Nat.mul_le_mul_right _ (Nat.log2_self_le h0))
    have hlast : max ((k : Int) - 2200 + m.log2 - (DF.fractionBits : Nat)) DF.leastPlace = (Lg (m * 2 ^ k) : Int) - 2200 := by
      rw [df_least, df_frac]; unfold Lg; rw [hl]; omega
    simp only [hlast]
    simp only [cut_even, df_least, df_binade, df_inf]
    have hg : 1126 ≤ Lg (m * 2 ^ k) := by unfold Lg; omega
    have e1 : ((Lg (m * 2 ^ k) : Int) - 2200 - -1074).toNat = Lg (m * 2 ^ k) - 1126 := by omega
    have e2 : rnd (m <<< ((k : Int) - 2200 - ((Lg (m * 2 ^ k) : Int) - 2200)).toNat) ((Lg (m * 2 ^ k) : Int) - 2200 - ((k : Int) - 2200)).toNat = rnd (m * 2 ^ k) (Lg (m * 2 ^ k)) := by
      rw [Nat.shiftLeft_eq]
      generalize Lg (m * 2 ^ k) = L
      by_cases hLk : L ≤ k
      · have a1 : ((k : Int) - 2200 - ((L : Int) - 2200)).toNat = k - L := by omega
        have a2 : ((L : Int) - 2200 - ((k : Int) - 2200)).toNat = 0 := by omega
        rw [a1, a2]
        have := rnd_scale (m * 2 ^ (k - L)) 0 L
        rw [Nat.zero_add, Nat.mul_assoc, ← Nat.pow_add, Nat.sub_add_cancel hLk] at this
        exact this.symm
      · have a1 : ((k : Int) - 2200 - ((L : Int) - 2200)).toNat = 0 := by omega
        have a2 : ((L : Int) - 2200 - ((k : Int) - 2200)).toNat = L - k := by omega
        rw [a1, a2, Nat.pow_zero, Nat.mul_one]
        have := rnd_scale m (L - k) k
        rw [Nat.sub_add_cancel (by omega)] at this
        exact this.symm
    rw [e1, e2]
    unfold Rg
    rw [if_neg h1]

theorem word_pos (r : Nat) : DF.word false r = r := by unfold Format.word; simp
theorem word_neg (r : Nat) : DF.word true r = 2 ^ 63 + r := by unfold Format.word; rw [df_sign]; rfl
theorem write_pos (m : Nat) (p : Int) (hp : -2200 ≤ p) : DF.write (.number false m p) = Rg (m * 2 ^ (p + 2200).toNat) := by
  show DF.nearest false m p = _
  rw [nearest_Rg _ _ _ hp, word_pos]

/-! ### a rung is finite -/
def Fin (r : Nat) : Prop := r < 2047 * 2 ^ 52
theorem pl2200 (r : Nat) (k : Nat) : ((-1074 + (plc r : Int)) + 2200).toNat = plc r + 1126 := by omega

/-- ten times a number -/
def w10 : Nat := 4621819117588971520
theorem read_10 : DF.read w10 = .number false (5 * 2 ^ 50) (-49) := by decide
theorem mul_10 {r : Nat} (h : Fin r) : DF.mul w10 r = some (Rg (10 * rV r * 2 ^ 1126)) ∧ DF.mul r w10 = some (Rg (10 * rV r * 2 ^ 1126)) := by
  have e : 5 * 2 ^ 50 * dig r * 2 ^ ((-49 + (-1074 + (plc r : Int))) + 2200).toNat = 10 * rV r * 2 ^ 1126 := by
    have : ((-49 + (-1074 + (plc r : Int))) + 2200).toNat = plc r + 1077 := by omega
    rw [this, rV_dig, show (2 : Nat) ^ 1126 = 2 ^ 49 * 2 ^ 1077 by rw [← Nat.pow_add], Nat.pow_add, show 5 * 2 ^ 50 = 10 * 2 ^ 49 by decide]
    simp only [Nat.mul_assoc, Nat.mul_left_comm, Nat.mul_comm]
  constructor
  · unfold Format.mul
    rw [read_10, read_pos h]
    simp only [Datum.product, Option.map_some, Bool.false_bne, Bool.xor_false]
    rw [write_pos _ _ (by omega), e]
  · unfold Format.mul
    rw [read_10, read_pos h]
    simp only [Datum.product, Option.map_some, Bool.false_bne, Bool.xor_false]
    rw [write_pos _ _ (by omega), Nat.mul_comm (dig r), Int.add_comm (-1074 + (plc r : Int)) (-49), e]

/-! ### sums -/
theorem sum_pos (m n a b : Nat) : (Datum.number false m (-1074 + (a : Int))).sum (.number false n (-1074 + (b : Int))) = some (.number false (m * 2 ^ (a - min a b) + n * 2 ^ (b - min a b)) (-1074 + (min a b : Nat))) := by
  have e0 : min (-1074 + (a : Int)) (-1074 + (b : Int)) = -1074 + ((min a b : Nat) : Int) := by omega
  have e1 : ((-1074 + (a : Int)) - (-1074 + ((min a b : Nat) : Int))).toNat = a - min a b := by omega
  have e2 : ((-1074 + (b : Int)) - (-1074 + ((min a b : Nat) : Int))).toNat = b - min a b := by omega
  simp only [Datum.sum, e0, e1, e2, signed, Bool.false_eq_true, if_false, Nat.shiftLeft_eq]
  generalize m * 2 ^ (a - min a b) = x
  generalize n * 2 ^ (b - min a b) = y
  have h1 : ¬ ((x : Int) + (y : Int) < 0) := by omega
  have h2 : ((x : Int) + (y : Int)).natAbs = x + y := by omega
  rw [h2]
  simp [h1]
theorem sum_sub (m n a b : Nat) (h : n * 2 ^ b ≤ m * 2 ^ a) : (Datum.number false m (-1074 + (a : Int))).sum (.number true n (-1074 + (b : Int))) = some (.number false (m * 2 ^ (a - min a b) - n * 2 ^ (b - min a b)) (-1074 + (min a b : Nat))) := by
  have e0 : min (-1074 + (a : Int)) (-1074 + (b : Int)) = -1074 + ((min a b : Nat) : Int) := by omega
  have e1 : ((-1074 + (a : Int)) - (-1074 + ((min a b : Nat) : Int))).toNat = a - min a b := by omega
  have e2 : ((-1074 + (b : Int)) - (-1074 + ((min a b : Nat) : Int))).toNat = b - min a b := by omega
  simp only [Datum.sum, e0, e1, e2, signed, Bool.false_eq_true, if_false, if_true, Nat.shiftLeft_eq]
  have hxy : n * 2 ^ (b - min a b) ≤ m * 2 ^ (a - min a b) := by
    have hp := pow_pos2 (min a b)
    refine Nat.le_of_mul_le_mul_right ?_ hp
    rw [Nat.mul_assoc, Nat.mul_assoc, ← Nat.pow_add, ← Nat.pow_add, Nat.sub_add_cancel (by omega), Nat.sub_add_cancel (by omega)]
    exact h
  generalize m * 2 ^ (a - min a b) = x at *
  generalize n * 2 ^ (b - min a b) = y at *
  have h1 : ¬ ((x : Int) + -(y : Int) < 0) := by omega
  have h2 : ((x : Int) + -(y : Int)).natAbs = x - y := by omega
  rw [h2]
  simp [h1]
theorem scl (m a c : Nat) (h : c ≤ a) : m * 2 ^ (a - c) * 2 ^ (c + 1126) = m * 2 ^ a * 2 ^ 1126 := by
  rw [Nat.mul_assoc, ← Nat.pow_add, Nat.mul_assoc, ← Nat.pow_add, show a - c + (c + 1126) = a + 1126 by omega]
theorem add_pos {x y : Nat} (hx : Fin x) (hy : Fin y) : DF.add x y = some (Rg ((rV x + rV y) * 2 ^ 1126)) := by
  unfold Format.add
  rw [read_pos hx, read_pos hy, sum_pos, Option.map_some, write_pos _ _ (by omega)]
  have e : ((-1074 + ((min (plc x) (plc y) : Nat) : Int)) + 2200).toNat = min (plc x) (plc y) + 1126 := by omega
  rw [e, Nat.add_mul, scl _ _ _ (by omega), scl _ _ _ (by omega), ← rV_dig, ← rV_dig, ← Nat.add_mul]
theorem sub_pos {x y : Nat} (hx : Fin x) (hy : Fin y) (h : rV y ≤ rV x) : DF.sub x y = some (Rg ((rV x - rV y) * 2 ^ 1126)) := by
  unfold Format.sub
  rw [read_pos hx, read_pos hy]
  simp only [Datum.opposite, Bool.not_false]
  rw [rV_dig, rV_dig] at h
  rw [sum_sub _ _ _ _ h, Option.map_some, write_pos _ _ (by omega)]
  have e : ((-1074 + ((min (plc x) (plc y) : Nat) : Int)) + 2200).toNat = min (plc x) (plc y) + 1126 := by omega
  rw [e, Nat.sub_mul, scl _ _ _ (by omega), scl _ _ _ (by omega), ← rV_dig, ← rV_dig, ← Nat.sub_mul]

/-! ### whole numbers -/
def ofN (n : Nat) : Nat := Rg (n * 2 ^ 2200)
theorem nearest_ofN (n : Nat) : Go.FloatKind.f64.nearest (n : Int) = ofN n := by
  show DF.write (.number (decide ((n : Int) < 0)) (n : Int).natAbs 0) = _
  have h1 : decide ((n : Int) < 0) = false := by simp
  rw [h1, Int.natAbs_natCast, write_pos _ _ (by omega), show ((0 : Int) + 2200).toNat = 2200 by omega]
  unfold ofN; with_reducible rfl
theorem ofN_fin {n : Nat} (h : n < 2 ^ 53) : Fin (ofN n) ∧ rV (ofN n) = n * 2 ^ 1074 := by
  have h2200 : (1126 : Nat) ≤ 2200 := by decide
  obtain ⟨h1, h2⟩ := Rg_small (m := n) (k := 2200) h (by omega) (by omega)
  refine ⟨h1, ?_⟩
  unfold ofN
  have hp := pow_pos2 1126
  refine Nat.eq_of_mul_eq_mul_right hp ?_
  rw [h2, Nat.mul_assoc, ← Nat.pow_add]
/-- grid numbers: so many 1024ths -/
theorem grid {a : Nat} (h : a < 2 ^ 53) : Fin (Rg (a * 2 ^ 1064 * 2 ^ 1126)) ∧ rV (Rg (a * 2 ^ 1064 * 2 ^ 1126)) = a * 2 ^ 1064 := by
  have e : a * 2 ^ 1064 * 2 ^ 1126 = a * 2 ^ 2190 := by rw [Nat.mul_assoc, ← Nat.pow_add]
  obtain ⟨h1, h2⟩ := Rg_small (k := 2190) h (by omega) (by omega)
  rw [e]
  refine ⟨h1, ?_⟩
  have hp := pow_pos2 1126
  refine Nat.eq_of_mul_eq_mul_right hp ?_
  rw [h2, e]
/-- BETWEEN GRID NUMBERS -/
theorem Rg_grid {N a b : Nat} (ha : a * 2 ^ 1064 * 2 ^ 1126 ≤ N) (hb : N ≤ b * 2 ^ 1064 * 2 ^ 1126) (h : b < 2 ^ 53) : Fin (Rg N) ∧ a * 2 ^ 1064 ≤ rV (Rg N) ∧ rV (Rg N) ≤ b * 2 ^ 1064 := by
  have hab : a < 2 ^ 53 := by
    have : a * (2 ^ 1064 * 2 ^ 1126) ≤ b * (2 ^ 1064 * 2 ^ 1126) := by rw [← Nat.mul_assoc, ← Nat.mul_assoc]; exact Nat.le_trans ha hb
    have := Nat.le_of_mul_le_mul_right this (Nat.mul_pos (pow_pos2 _) (pow_pos2 _))
    omega
  obtain ⟨f1, f2⟩ := grid hab
  obtain ⟨f3, f4⟩ := grid h
  have m1 := Rg_mono ha
  have m2 := Rg_mono hb
  refine ⟨?_, ?_, ?_⟩
  · unfold Fin at f3 ⊢; omega
  · rw [← f2]; exact rV_mono m1
  · rw [← f4]; exact rV_mono m2

/-! ### to whole numbers -/
theorem sh_pos (m a : Nat) : rnd (m <<< (-1074 + (a : Int)).toNat) (-(-1074 + (a : Int))).toNat = rnd (m * 2 ^ a) 1074 := by
  rw [Nat.shiftLeft_eq]
  by_cases h : 1074 ≤ a
  · have e1 : (-1074 + (a : Int)).toNat = a - 1074 := by omega
    have e2 : (-(-1074 + (a : Int))).toNat = 0 := by omega
    rw [e1, e2]
    have := rnd_scale (m * 2 ^ (a - 1074)) 0 1074
    rw [Nat.zero_add, Nat.mul_assoc, ← Nat.pow_add, Nat.sub_add_cancel h] at this
    exact this.symm
  · have e1 : (-1074 + (a : Int)).toNat = 0 := by omega
    have e2 : (-(-1074 + (a : Int))).toNat = 1074 - a := by omega
    rw [e1, e2, Nat.pow_zero, Nat.mul_one]
    have := rnd_scale m (1074 - a) a
    rw [Nat.sub_add_cancel (by omega)] at this
    exact this.symm
theorem rte_pos {r : Nat} (h : Fin r) : DF.write ((DF.read r).integral .even) = ofN (rnd (rV r) 1074) := by
  rw [read_pos h]
  simp only [Datum.integral, cut_even, sh_pos]
  rw [write_pos _ _ (by omega), ← rV_dig, show ((0 : Int) + 2200).toNat = 2200 by omega]
  unfold ofN; with_reducible rfl
theorem cut_zero (s : Bool) (n d : Nat) : Toward.zero.cut s n d = n / 2 ^ d := by
  unfold Toward.cut
  simp only [Nat.one_shiftLeft, Bool.toNat_false, Nat.add_zero]
  by_cases hd : d ≤ n.log2 + 2
  · rw [Nat.min_eq_left hd]
  · rw [Nat.min_eq_right (by omega)]
    have hl := log2_lt' n
    have h2 : 2 ^ (n.log2 + 2) = 2 * 2 ^ (n.log2 + 1) := by rw [Nat.pow_succ, Nat.mul_comm]
    have hd2 : 2 ^ (n.log2 + 2) ≤ 2 ^ d := Nat.pow_le_pow_right (by omega) (by omega)
    rw [Nat.div_eq_of_lt (by omega), Nat.div_eq_of_lt (by omega)]
theorem toInt_pos {r : Nat} (h : Fin r) : (DF.read r).toInt .zero = some ((rV r / 2 ^ 1074 : Nat) : Int) := by
  rw [read_pos h, rV_dig]
  unfold Datum.toInt
  simp only [Datum.integral, cut_zero, Nat.shiftLeft_eq, signed, Bool.false_eq_true, if_false, Nat.pow_zero, Nat.mul_one]
  congr 2
  generalize plc r = a
  generalize dig r = m
  by_cases h : 1074 ≤ a
  · have e1 : (-1074 + (a : Int)).toNat = a - 1074 := by omega
    have e2 : (-(-1074 + (a : Int))).toNat = 0 := by omega
    rw [e1, e2, Nat.pow_zero, Nat.div_one]
    have : m * 2 ^ a = m * 2 ^ (a - 1074) * 2 ^ 1074 := by rw [Nat.mul_assoc, ← Nat.pow_add, Nat.sub_add_cancel h]
    rw [this, Nat.mul_div_cancel _ (pow_pos2 _)]
  · have e1 : (-1074 + (a : Int)).toNat = 0 := by omega
    have e2 : (-(-1074 + (a : Int))).toNat = 1074 - a := by omega
    rw [e1, e2, Nat.pow_zero, Nat.mul_one]
    have : m * 2 ^ a / 2 ^ 1074 = m * 2 ^ a / (2 ^ (1074 - a) * 2 ^ a) := by rw [← Nat.pow_add, Nat.sub_add_cancel (by omega)]
    rw [this, Nat.mul_div_mul_right _ _ (pow_pos2 _)]
theorem toInt_ofN {n : Nat} (h : n < 2 ^ 53) : (DF.read (ofN n)).toInt .zero = some (n : Int) := by
  obtain ⟨h1, h2⟩ := ofN_fin h
  rw [toInt_pos h1, h2, Nat.mul_div_cancel _ (pow_pos2 _)]

/-! ### the order -/
def key (x : Nat) : Option Int :=
  match DF.read x with
  | .nan .. => none
  | .infinity s => some (if s then -(2 ^ 2200 : Nat) else (2 ^ 2200 : Nat))
  | .number s m i => some (signed s m (i + 1074).toNat)
theorem read_bounds (x : Nat) {s : Bool} {m : Nat} {i : Int} (h : DF.read x = .number s m i) : -1074 ≤ i ∧ i ≤ 971 ∧ m < 2 ^ 53 := by
  unfold Format.read at h
  dsimp only at h
  split at h
  · rename_i h1
    cases h
    rw [df_sign, df_binade] at h1
    rw [df_sign, df_least]
    omega
  · split at h
    · rename_i h1 h2
      cases h
      rw [df_sign, df_inf] at h2
      rw [df_sign, df_least, df_binade]
      omega
    · split at h <;> cases h
theorem signed_scale (s : Bool) (m a b : Nat) : signed s m (a + b) = signed s m a * ((2 ^ b : Nat) : Int) := by
  have e : ((m <<< (a + b) : Nat) : Int) = ((m <<< a : Nat) : Int) * ((2 ^ b : Nat) : Int) := by
    rw [Nat.shiftLeft_eq, Nat.shiftLeft_eq, Nat.pow_add, ← Nat.mul_assoc, Int.natCast_mul]
  unfold signed
  cases s
  · simp only [Bool.false_eq_true, if_false]; exact e
  · simp only [if_true, e, Int.neg_mul]
theorem cmp_scale (a b : Int) (k : Nat) : compare (a * ((2 ^ k : Nat) : Int)) (b * ((2 ^ k : Nat) : Int)) = compare a b := by
  have hp : (0 : Int) < ((2 ^ k : Nat) : Int) := by have := pow_pos2 k; omega
  have h1 : (a * ((2 ^ k : Nat) : Int) < b * ((2 ^ k : Nat) : Int)) ↔ a < b := Int.mul_lt_mul_right hp
  have h2 : (a * ((2 ^ k : Nat) : Int) = b * ((2 ^ k : Nat) : Int)) ↔ a = b := ⟨fun h => Int.eq_of_mul_eq_mul_right (by omega) h, fun h => by rw [h]⟩
  simp only [compare, compareOfLessAndEq, h1, h2]
theorem signed_lt {s : Bool} {m a : Nat} (hm : m < 2 ^ 53) (ha : a ≤ 2045) : -((2 ^ 2200 : Nat) : Int) < signed s m a ∧ signed s m a < ((2 ^ 2200 : Nat) : Int) := by
  have h1 : m * 2 ^ a < 2 ^ 53 * 2 ^ 2045 := Nat.lt_of_lt_of_le (Nat.mul_lt_mul_of_pos_right hm (pow_pos2 a)) (Nat.mul_le_mul_left _ (Nat.pow_le_pow_right (by omega) ha))
  have h2 : 2 ^ 53 * 2 ^ 2045 ≤ 2 ^ 2200 := by rw [← Nat.pow_add]; exact Nat.pow_le_pow_right (by omega) (by omega)
  have h3 : m * 2 ^ a < 2 ^ 2200 := Nat.lt_of_lt_of_le h1 h2
  unfold signed
  rw [Nat.shiftLeft_eq]
  generalize m * 2 ^ a = z at *
  generalize 2 ^ 2200 = w at *
  cases s <;> simp <;> omega
def kcmp : Option Int → Option Int → Option Ordering
  | some a, some b => some (compare a b)
  | _, _ => none
theorem cmp_lt {a b : Int} (h : a < b) : compare a b = .lt := by simp [compare, compareOfLessAndEq, h]
theorem cmp_gt {a b : Int} (h : b < a) : compare a b = .gt := by
  have h1 : ¬ a < b := by omega
  have h2 : ¬ a = b := by omega
  simp [compare, compareOfLessAndEq, h1, h2]
theorem cmp_eq {a b : Int} (h : a = b) : compare a b = .eq := by simp [compare, compareOfLessAndEq, h]
theorem order_key (x y : Nat) : DF.order x y = kcmp (key x) (key y) := by
  have big : (0 : Int) < ((2 ^ 2200 : Nat) : Int) := by have := pow_pos2 2200; omega
  unfold Format.order key
  cases hx : DF.read x with
  | nan s t => cases DF.read y <;> rfl
  | infinity s =>
    cases hy : DF.read y with
    | nan _ _ => rfl
    | infinity t =>
      simp only [Datum.order, kcmp]
      generalize ((2 ^ 2200 : Nat) : Int) = w at *
      cases s <;> cases t <;> simp only [Bool.false_eq_true, if_false, if_true]
      · rw [cmp_eq rfl]; rfl
      · rw [cmp_gt (by omega)]; rfl
      · rw [cmp_lt (by omega)]; rfl
      · rw [cmp_eq rfl]; rfl
    | number t n j =>
      obtain ⟨b1, b2, b3⟩ := read_bounds y hy
      obtain ⟨c1, c2⟩ := signed_lt (s := t) (a := (j + 1074).toNat) b3 (by omega)
      simp only [Datum.order, kcmp]
      generalize ((2 ^ 2200 : Nat) : Int) = w at *
      cases s <;> simp only [Bool.false_eq_true, if_false, if_true]
      · rw [cmp_gt c2]
      · rw [cmp_lt c1]
  | number s m i =>
    obtain ⟨b1, b2, b3⟩ := read_bounds x hx
    cases hy : DF.read y with
    | nan _ _ => rfl
    | infinity t =>
      obtain ⟨c1, c2⟩ := signed_lt (s := s) (a := (i + 1074).toNat) b3 (by omega)
      simp only [Datum.order, kcmp]
      generalize ((2 ^ 2200 : Nat) : Int) = w at *
      cases t <;> simp only [Bool.false_eq_true, if_false, if_true]
      · rw [cmp_lt c2]
      · rw [cmp_gt c1]
    | number t n j =>
      obtain ⟨d1, d2, d3⟩ := read_bounds y hy
      simp only [Datum.order, kcmp]
      have e1 : (i + 1074).toNat = (i - min i j).toNat + (min i j + 1074).toNat := by omega
      have e2 : (j + 1074).toNat = (j - min i j).toNat + (min i j + 1074).toNat := by omega
      rw [e1, e2, signed_scale, signed_scale, cmp_scale]
theorem key_pos {r : Nat} (h : Fin r) : key r = some (rV r : Int) := by
  unfold key
  rw [read_pos h]
  simp only [signed, Bool.false_eq_true, if_false, Nat.shiftLeft_eq]
  rw [rV_dig, show ((-1074 + (plc r : Int)) + 1074).toNat = plc r by omega]
theorem key_neg {r : Nat} (h : Fin r) : key (2 ^ 63 + r) = some (-(rV r : Int)) := by
  unfold key
  rw [read_neg h]
  simp only [signed, if_true, Nat.shiftLeft_eq]
  rw [rV_dig, show ((-1074 + (plc r : Int)) + 1074).toNat = plc r by omega]
end Go.Eng
