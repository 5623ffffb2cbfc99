/- LIBRARY, PART 17: sets by their bits. -/
import Derived.Test.YtffndeloffamnaaLib16
namespace Go.Eng
set_option linter.unnecessarySimpa false
open Go
set_option linter.unusedVariables false
set_option linter.unusedSimpArgs false
set_option maxRecDepth 10000
set_option maxHeartbeats 4000000
def bv (s : Int) : BitVec 64 := BitVec.ofInt 64 s
def tb (s : Int) (i : Nat) : Bool := (bv s).getLsbD i
theorem wrap_mod (n : Int) : IntKind.i64.wrap n % 18446744073709551616 = n % 18446744073709551616 := by
  simp only [IntKind.wrap, IntKind.bits, IntKind.signed]
  simp
  split <;> omega
theorem bv_wrap (n : Int) : bv (IntKind.i64.wrap n) = bv n := by
  unfold bv
  apply BitVec.eq_of_toNat_eq
  have := wrap_mod n
  simp only [BitVec.toNat_ofInt]
  have e : ((2 ^ 64 : Nat) : Int) = 18446744073709551616 := by decide
  rw [e, this]
theorem bv_nat (b : BitVec 64) : bv (b.toNat : Int) = b := by
  unfold bv
  rw [BitVec.ofInt_natCast]; simp
theorem bv_and (x y : Int) : bv (bAnd .i64 x y) = bv x &&& bv y := by
  simp only [bAnd, bv_wrap]; exact bv_nat _
theorem bv_or (x y : Int) : bv (bOr .i64 x y) = bv x ||| bv y := by
  simp only [bOr, bv_wrap]; exact bv_nat _
theorem bv_andNot (x y : Int) : bv (bAndNot .i64 x y) = bv x &&& ~~~(bv y) := by
  simp only [bAndNot, bv_wrap]; exact bv_nat _
theorem wrap_zero {b : BitVec 64} : IntKind.i64.wrap (b.toNat : Int) = 0 ↔ b = 0 := by
  constructor
  · intro h
    have := wrap_mod (b.toNat : Int)
    rw [h] at this
    have h2 := b.isLt
    apply BitVec.eq_of_toNat_eq
    simp only [BitVec.toNat_zero, BitVec.ofNat_eq_ofNat] at *
    omega
  · rintro rfl; decide
theorem and_zero {x y : Int} : bAnd .i64 x y = 0 ↔ ∀ i, i < 64 → (tb x i && tb y i) = false := by
  rw [show bAnd .i64 x y = IntKind.i64.wrap ((bv x &&& bv y).toNat : Int) from rfl, wrap_zero]
  constructor
  · intro h i hi; have := congrArg (fun b => b.getLsbD i) h; simpa [tb] using this
  · intro h; apply BitVec.eq_of_getLsbD_eq; intro i hi; simpa [tb] using h i hi
theorem andNot_zero {x y : Int} : bAndNot .i64 x y = 0 ↔ ∀ i, i < 64 → (tb x i && !tb y i) = false := by
  rw [show bAndNot .i64 x y = IntKind.i64.wrap ((bv x &&& ~~~(bv y)).toNat : Int) from rfl, wrap_zero]
  constructor
  · intro h i hi; have := congrArg (fun b => b.getLsbD i) h; simpa [tb, hi] using this
  · intro h; apply BitVec.eq_of_getLsbD_eq; intro i hi; simpa [tb, hi] using h i hi
theorem tb_and (x y : Int) (i : Nat) : tb (bAnd .i64 x y) i = (tb x i && tb y i) := by simp [tb, bv_and]
theorem tb_or (x y : Int) (i : Nat) : tb (bOr .i64 x y) i = (tb x i || tb y i) := by simp [tb, bv_or]
theorem tb_andNot (x y : Int) (i : Nat) (h : i < 64) : tb (bAndNot .i64 x y) i = (tb x i && !tb y i) := by simp [tb, bv_andNot, h]
theorem tb_zero (i : Nat) : tb 0 i = false := by simp [tb, bv]
theorem tb_255 (i : Nat) : tb 255 i = decide (i < 8) := by
  have : bv 255 = 255#64 := rfl
  simp only [tb, this, BitVec.getLsbD_ofNat]
  by_cases h : i < 8
  · have : i = 0 ∨ i = 1 ∨ i = 2 ∨ i = 3 ∨ i = 4 ∨ i = 5 ∨ i = 6 ∨ i = 7 := by omega
    rcases this with rfl | rfl | rfl | rfl | rfl | rfl | rfl | rfl <;> decide
  · simp only [h, decide_false, Bool.and_eq_false_imp]
    intro _
    apply Nat.testBit_lt_two_pow
    exact Nat.lt_of_lt_of_le (by decide : 255 < 2 ^ 8) (Nat.pow_le_pow_right (by decide) (by omega))
theorem tb_pow {p : Nat} (hp : p < 8) (i : Nat) : tb (2 ^ p) i = decide (i = p) := by
  have e : bv (2 ^ p) = BitVec.twoPow 64 p := by
    have : p = 0 ∨ p = 1 ∨ p = 2 ∨ p = 3 ∨ p = 4 ∨ p = 5 ∨ p = 6 ∨ p = 7 := by omega
    rcases this with rfl | rfl | rfl | rfl | rfl | rfl | rfl | rfl <;> rfl
  simp only [tb, e, BitVec.getLsbD_twoPow]
  by_cases h : i = p <;> simp [h]
  · omega
  · omega
theorem tb_bit {p : Nat} (hp : p < 8) (i : Nat) : tb (bitI p) i = decide (i = p) := by
  have : bitI p = 2 ^ p := by simp [bitI]; omega
  rw [this, tb_pow hp]
theorem hasS_tb {s : Int} {p : Nat} (hp : p < 8) : hasS s p = tb s p := by
  have h : hasS s p = !(bAnd .i64 s (bitI p) == 0) := rfl
  rw [h]
  cases ht : tb s p with
  | true =>
    have : ¬ bAnd .i64 s (bitI p) = 0 := by
      rw [and_zero]; intro h; have := h p (by omega); rw [ht, tb_bit hp] at this; simp at this
    simp [this]
  | false =>
    have : bAnd .i64 s (bitI p) = 0 := by
      rw [and_zero]; intro i _
      by_cases hi : i = p
      · subst hi; rw [ht]; rfl
      · rw [tb_bit hp]; simp [hi]
    simp [this]
theorem tb_with {s : Int} {p : Nat} (hp : p < 8) (i : Nat) : tb (withS s p) i = (tb s i && decide (i < 8) || decide (i = p)) := by
  simp only [withS, tb_or, tb_and, tb_255, tb_bit hp]
theorem tb_ofTo (l : List Int) : ∀ k, k ≤ 8 → ∀ i, tb (ofTo l k) i = (decide (i < k) && decide ((i : Int) ∈ l))
  | 0, _, i => by simp [ofTo, tb_zero]
  | k + 1, h, i => by
    have ih := tb_ofTo l k (by omega) i
    simp only [ofTo]
    split
    · rename_i hk
      rw [tb_or, ih, tb_pow (by omega)]
      by_cases e : i = k
      · subst e; simp [hk]
      · have : (i < k + 1) ↔ i < k := by omega
        simp [e, this]
    · rename_i hk
      rw [ih]
      by_cases e : i = k
      · subst e; simp [hk]
      · have : (i < k + 1) ↔ i < k := by omega
        simp [this]
theorem tb_of (l : List Int) (i : Nat) : tb (ofI l) i = (decide (i < 8) && decide ((i : Int) ∈ l)) := tb_ofTo l 8 (by omega) i
theorem tb_num (s : Int) {p : Nat} (hp : p < 64) : tb s p = decide (s.fdiv (2 ^ p) % 2 = 1) := by
  have e : (bv s).toNat = (s % 18446744073709551616).toNat := by
    simp only [bv, BitVec.toNat_ofInt]; rfl
  have h1 : tb s p = (bv s).toNat.testBit p := rfl
  rw [h1, e, Nat.testBit_eq_decide_div_mod_eq]
  congr 1
  have hf : s.fdiv (2 ^ p) = s / 2 ^ p := Int.fdiv_eq_ediv_of_nonneg _ (Int.le_of_lt (Int.pow_pos (by decide)))
  rw [hf, eq_iff_iff]
  have h0 : 0 ≤ s % 18446744073709551616 := Int.emod_nonneg _ (by decide)
  have hc : (((s % 18446744073709551616).toNat / 2 ^ p % 2 : Nat) : Int) = (s % 18446744073709551616) / 2 ^ p % 2 := by
    push_cast [Int.toNat_of_nonneg h0]; rfl
  have key : (s % 18446744073709551616) / 2 ^ p % 2 = s / 2 ^ p % 2 := by
    have hpw : (18446744073709551616 : Int) = 2 ^ p * (2 * 2 ^ (63 - p)) := by
      rw [show (2 : Int) ^ p * (2 * 2 ^ (63 - p)) = 2 ^ (p + (1 + (63 - p))) by rw [Int.pow_add, Int.pow_add]; rfl, show p + (1 + (63 - p)) = 64 by omega]; rfl
    have h2 : s = s % 18446744073709551616 + 2 ^ p * (2 * 2 ^ (63 - p) * (s / 18446744073709551616)) := by
      have := Int.emod_add_mul_ediv s 18446744073709551616
      rw [← Int.mul_assoc, ← Int.mul_assoc, Int.mul_assoc (2 ^ p), ← hpw]; omega
    conv => rhs; rw [h2]
    rw [Int.add_mul_ediv_left _ _ (Int.ne_of_gt (Int.pow_pos (by decide))), Int.mul_assoc, Int.add_mul_emod_self_left]
  rw [← key, ← hc]
  omega
theorem bAnd_one (x : Int) : bAnd .i64 x 1 = if tb x 0 then 1 else 0 := by
  have e : bAnd .i64 x 1 = IntKind.i64.wrap ((bv x &&& 1#64).toNat : Int) := rfl
  have e2 : bv x &&& 1#64 = if tb x 0 then 1#64 else 0#64 := by
    apply BitVec.eq_of_getLsbD_eq
    intro i hi
    simp only [BitVec.getLsbD_and, BitVec.getLsbD_one]
    by_cases h : i = 0
    · subst h; cases hx : tb x 0 <;> simp [tb] at hx ⊢ <;> simp [hx]
    · split <;> simp [h, BitVec.getLsbD_one]
  rw [e, e2]; split <;> decide
theorem hasR_tb {s : Int} {p : Nat} (hp : p < 8) : hasR s p = tb s p := by
  have h1 : tb (s.fdiv (2 ^ p)) 0 = tb s p := by
    rw [tb_num _ (by omega), tb_num _ (by omega)]
    simp
  simp only [hasR, Int.toNat_natCast, bAnd_one, h1]
  have : (p : Int) < 8 := by omega
  cases tb s p <;> simp [this]
theorem tb_those (is : Int → Ph → Bool) (ps : List Ph) : ∀ k, k ≤ 8 → ∀ i, tb (thoseGo is ps k) i = (decide (i < k) && ((ps.getD i default).on && is i (ps.getD i default)))
  | 0, _, i => by simp [thoseGo, tb_zero]
  | k + 1, h, i => by
    have ih := tb_those is ps k (by omega) i
    simp only [thoseGo]
    split
    · rename_i hk
      rw [tb_with (by omega), ih]
      by_cases e : i = k
      · subst e; simpa using hk
      · have : (i < k + 1) ↔ i < k := by omega
        simp [e, this]; omega
    · rename_i hk
      rw [ih]
      by_cases e : i = k
      · subst e; simp at hk ⊢; exact hk
      · have : (i < k + 1) ↔ i < k := by omega
        simp [this]

end Go.Eng
