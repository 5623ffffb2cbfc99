/- FLOATS, PART 1: what the words of the format stand for, and that rounding is monotone and keeps what the format has. -/
import Ieee.Arith
import GoSem.Core.Float
namespace Go.Eng
set_option linter.unnecessarySimpa false
open Ieee
set_option linter.unusedVariables false
set_option linter.unusedSimpArgs false
set_option exponentiation.threshold 4000

/-! ### to the nearest whole number -/
def rnd (n d : Nat) : Nat := n / 2 ^ d + (if 2 ^ d < 2 * (n % 2 ^ d) ∨ (2 ^ d = 2 * (n % 2 ^ d) ∧ n / 2 ^ d % 2 = 1) then 1 else 0)

theorem pow_pos2 (d : Nat) : 0 < 2 ^ d := Nat.two_pow_pos d
theorem rnd_le (n d : Nat) : rnd n d ≤ n / 2 ^ d + 1 := by unfold rnd; split <;> omega
theorem le_rnd (n d : Nat) : n / 2 ^ d ≤ rnd n d := by unfold rnd; omega
theorem rnd_zero (n : Nat) : rnd n 0 = n := by simp [rnd, Nat.mod_one]
theorem rnd_scale (n d k : Nat) : rnd (n * 2 ^ k) (d + k) = rnd n d := by
  unfold rnd
  rw [Nat.pow_add, Nat.mul_div_mul_right _ _ (pow_pos2 k), Nat.mul_mod_mul_right]
  have hk := pow_pos2 k
  have e1 : (2 ^ d * 2 ^ k < 2 * (n % 2 ^ d * 2 ^ k)) ↔ (2 ^ d < 2 * (n % 2 ^ d)) := by
    rw [← Nat.mul_assoc]; exact Nat.mul_lt_mul_right hk
  have e2 : (2 ^ d * 2 ^ k = 2 * (n % 2 ^ d * 2 ^ k)) ↔ (2 ^ d = 2 * (n % 2 ^ d)) := by
    rw [← Nat.mul_assoc]; exact Nat.mul_left_inj (by omega)
  simp only [e1, e2]
theorem rnd_mono {n n' : Nat} (h : n ≤ n') (d : Nat) : rnd n d ≤ rnd n' d := by
  have hp := pow_pos2 d
  have hq : n / 2 ^ d ≤ n' / 2 ^ d := Nat.div_le_div_right h
  by_cases he : n / 2 ^ d = n' / 2 ^ d
  · unfold rnd
    rw [he]
    have h1 := Nat.div_add_mod n (2 ^ d)
    have h2 := Nat.div_add_mod n' (2 ^ d)
    rw [he] at h1
    have hr : n % 2 ^ d ≤ n' % 2 ^ d := by omega
    split <;> split <;> omega
  · have h1 := rnd_le n d
    have h2 := le_rnd n' d
    omega
theorem rnd_exact {n d : Nat} (q : Nat) : rnd (q * 2 ^ d) d = q := by
  have := rnd_scale q 0 d
  rw [Nat.zero_add, rnd_zero] at this
  exact this

theorem log2_lt' (n : Nat) : n < 2 ^ (n.log2 + 1) := Nat.lt_log2_self
theorem cut_even (s : Bool) (n d : Nat) : Toward.even.cut s n d = rnd n d := by
  unfold Toward.cut
  simp only [Nat.one_shiftLeft]
  by_cases hd : d ≤ n.log2 + 2
  · rw [Nat.min_eq_left hd]
    unfold rnd
    congr 1
    by_cases h1 : 2 ^ d < 2 * (n % 2 ^ d)
    · simp [h1]
    · by_cases h2 : 2 ^ d = 2 * (n % 2 ^ d)
      · by_cases h3 : n / 2 ^ d % 2 = 1
        · simp [← h2, h3]
        · simp [← h2, h3]
      · simp [h1, h2]
  · rw [Nat.min_eq_right (by omega)]
    have hl := log2_lt' n
    have h2 : 2 ^ (n.log2 + 2) = 2 * 2 ^ (n.log2 + 1) := by rw [Nat.pow_succ, Nat.mul_comm]
    have hd2 : 2 ^ (n.log2 + 2) ≤ 2 ^ d := Nat.pow_le_pow_right (by omega) (by omega)
    have e1 : n / 2 ^ (n.log2 + 2) = 0 := Nat.div_eq_of_lt (by omega)
    have e2 : n % 2 ^ (n.log2 + 2) = n := Nat.mod_eq_of_lt (by omega)
    have e3 : n / 2 ^ d = 0 := Nat.div_eq_of_lt (by omega)
    have e4 : n % 2 ^ d = n := Nat.mod_eq_of_lt (by omega)
    unfold rnd
    rw [e1, e2, e3, e4]
    have c1 : ¬ (2 ^ (n.log2 + 2) < 2 * n) := by omega
    have c2 : ¬ (2 ^ (n.log2 + 2) = 2 * n) := by omega
    have c3 : ¬ (2 ^ d < 2 * n) := by omega
    have c4 : ¬ (2 ^ d = 2 * n) := by omega
    simp [c1, c2, c3, c4]

/-! ### rungs -/
/-- what a rung stands for, in units of the least number -/
def rV (r : Nat) : Nat := if r < 2 ^ 52 then r else (2 ^ 52 + r % 2 ^ 52) * 2 ^ (r / 2 ^ 52 - 1)
theorem rV_mono {r r' : Nat} (h : r ≤ r') : rV r ≤ rV r' := by
  unfold rV
  have hd : r / 2 ^ 52 ≤ r' / 2 ^ 52 := Nat.div_le_div_right h
  have hm := Nat.mod_lt r (pow_pos2 52)
  have hm' := Nat.mod_lt r' (pow_pos2 52)
  split
  · split
    · exact h
    · have : 1 ≤ 2 ^ (r' / 2 ^ 52 - 1) := pow_pos2 _
      calc r ≤ 2 ^ 52 + r' % 2 ^ 52 := by omega
        _ = (2 ^ 52 + r' % 2 ^ 52) * 1 := by omega
        _ ≤ _ := Nat.mul_le_mul_left _ this
  · split
    · omega
    · by_cases he : r / 2 ^ 52 = r' / 2 ^ 52
      · rw [he]
        have h1 := Nat.div_add_mod r (2 ^ 52)
        have h2 := Nat.div_add_mod r' (2 ^ 52)
        rw [he] at h1
        exact Nat.mul_le_mul_right _ (by omega)
      · have h0 : 1 ≤ r / 2 ^ 52 := by
          have : 2 ^ 52 ≤ r := by omega
          exact (Nat.le_div_iff_mul_le (pow_pos2 52)).2 (by omega)
        calc (2 ^ 52 + r % 2 ^ 52) * 2 ^ (r / 2 ^ 52 - 1) ≤ 2 ^ 53 * 2 ^ (r / 2 ^ 52 - 1) := Nat.mul_le_mul_right _ (by omega)
          _ = 2 ^ 52 * 2 ^ (r / 2 ^ 52) := by rw [← Nat.pow_add, ← Nat.pow_add]; congr 1; omega
          _ ≤ 2 ^ 52 * 2 ^ (r' / 2 ^ 52 - 1) := Nat.mul_le_mul_left _ (Nat.pow_le_pow_right (by omega) (by omega))
          _ ≤ _ := Nat.mul_le_mul_right _ (by omega)

/-- the rung nearest to N, in units of 2 ^ -2200 -/
def Lg (N : Nat) : Nat := max (N.log2 - 52) 1126
def Rg (N : Nat) : Nat := if N = 0 then 0 else min ((Lg N - 1126) * 2 ^ 52 + rnd N (Lg N)) (2047 * 2 ^ 52)
theorem Lg_le {N N' : Nat} (h0 : N ≠ 0) (h : N ≤ N') : Lg N ≤ Lg N' := by
  have : N.log2 ≤ N'.log2 := (Nat.le_log2 (by omega)).2 (Nat.le_trans (Nat.log2_self_le h0) h)
  unfold Lg; omega
theorem Lg_lt (N : Nat) : N < 2 ^ (Lg N + 53) := Nat.lt_of_lt_of_le (log2_lt' N) (Nat.pow_le_pow_right (by omega) (by unfold Lg; omega))
theorem Lg_q (N : Nat) : N / 2 ^ Lg N < 2 ^ 53 := by
  rw [Nat.div_lt_iff_lt_mul (pow_pos2 _), ← Nat.pow_add, Nat.add_comm]; exact Lg_lt N
theorem Lg_ge {N : Nat} (h : N ≠ 0) (hL : 1126 < Lg N) : 2 ^ 52 ≤ N / 2 ^ Lg N := by
  rw [Nat.le_div_iff_mul_le (pow_pos2 _), ← Nat.pow_add]
  refine Nat.le_trans (Nat.pow_le_pow_right (by omega) ?_) (Nat.log2_self_le h)
  unfold Lg at hL ⊢; omega
theorem Rg_mono {N N' : Nat} (h : N ≤ N') : Rg N ≤ Rg N' := by
  unfold Rg
  by_cases h0 : N = 0
  · simp [h0]
  · have h0' : N' ≠ 0 := by omega
    rw [if_neg h0, if_neg h0']
    have hL := Lg_le h0 h
    suffices (Lg N - 1126) * 2 ^ 52 + rnd N (Lg N) ≤ (Lg N' - 1126) * 2 ^ 52 + rnd N' (Lg N') by omega
    by_cases he : Lg N = Lg N'
    · rw [he]; have := rnd_mono h (Lg N'); omega
    · have h1 := Lg_q N
      have h2 := rnd_le N (Lg N)
      have h3 : 2 ^ 52 ≤ N' / 2 ^ Lg N' := Lg_ge h0' (by unfold Lg at he hL ⊢; omega)
      have h4 := le_rnd N' (Lg N')
      have h5 : (Lg N - 1126) + 1 ≤ Lg N' - 1126 := by unfold Lg at he hL ⊢; omega
      omega
/-- WHAT THE FORMAT HAS IS KEPT -/
theorem Rg_exact {N : Nat} (q : Nat) (h : N = q * 2 ^ Lg N) (hb : N < 2 ^ 3150) : Rg N < 2047 * 2 ^ 52 ∧ rV (Rg N) * 2 ^ 1126 = N := by
  by_cases h0 : N = 0
  · subst h0; simp [Rg, rV]
  · have hp := pow_pos2 (Lg N)
    have hq : N / 2 ^ Lg N = q := by
      have : q * 2 ^ Lg N / 2 ^ Lg N = q := Nat.mul_div_cancel _ hp
      rw [← h] at this; exact this
    have hr : rnd N (Lg N) = q := by
      have : rnd (q * 2 ^ Lg N) (Lg N) = q := rnd_exact (n := 0) q
      rw [← h] at this; exact this
    have hq53 := Lg_q N
    rw [hq] at hq53
    have hL : Lg N ≤ 3098 := by
      have : N.log2 < 3150 := (Nat.log2_lt h0).2 hb
      unfold Lg; omega
    have hlt : (Lg N - 1126) * 2 ^ 52 + q < 2047 * 2 ^ 52 := by omega
    have hRg : Rg N = (Lg N - 1126) * 2 ^ 52 + q := by unfold Rg; rw [if_neg h0, hr]; omega
    rw [hRg]
    refine ⟨hlt, ?_⟩
    have key : rV ((Lg N - 1126) * 2 ^ 52 + q) = q * 2 ^ (Lg N - 1126) := by
      by_cases hLe : Lg N = 1126
      · rw [hLe]
        simp only [Nat.sub_self, Nat.zero_mul, Nat.zero_add, Nat.pow_zero, Nat.mul_one]
        unfold rV
        split
        · rfl
        · have e1 : q / 2 ^ 52 = 1 := by omega
          have e2 : q % 2 ^ 52 = q - 2 ^ 52 := by omega
          rw [e1, e2]; omega
      · have hL1 : 1126 < Lg N := by unfold Lg at hLe ⊢; omega
        have h52 := Lg_ge h0 hL1
        rw [hq] at h52
        unfold rV
        have e1 : ((Lg N - 1126) * 2 ^ 52 + q) / 2 ^ 52 - 1 = Lg N - 1126 := by omega
        have e2 : 2 ^ 52 + ((Lg N - 1126) * 2 ^ 52 + q) % 2 ^ 52 = q := by omega
        rw [if_neg (by omega), e1, e2]
    rw [key, Nat.mul_assoc, ← Nat.pow_add]
    have : Lg N - 1126 + 1126 = Lg N := by have : 1126 ≤ Lg N := by unfold Lg; omega
                                           omega
    rw [this]; exact h.symm
/-- a number of few digits, not too fine -/
theorem Rg_small {m k : Nat} (hm : m < 2 ^ 53) (hk : 1126 ≤ k) (hk2 : k ≤ 3090) : Rg (m * 2 ^ k) < 2047 * 2 ^ 52 ∧ rV (Rg (m * 2 ^ k)) * 2 ^ 1126 = m * 2 ^ k := by
  by_cases h0 : m = 0
  · subst h0; simp [Rg, rV]
  · have hl : (m * 2 ^ k).log2 = m.log2 + k := by
      have h1 : m * 2 ^ k ≠ 0 := Nat.mul_ne_zero h0 (by have := pow_pos2 k; omega)
      apply Nat.le_antisymm
      · have : (m * 2 ^ k).log2 < m.log2 + k + 1 := (Nat.log2_lt h1).2 (by
          rw [show m.log2 + k + 1 = (m.log2 + 1) + k by omega, Nat.pow_add]
          exact Nat.mul_lt_mul_of_pos_right (log2_lt' m) (pow_pos2 k))
        omega
      · exact (Nat.le_log2 h1).2 (by rw [Nat.pow_add]; exact Nat.mul_le_mul_right _ (Nat.log2_self_le h0))
    have hm52 : m.log2 ≤ 52 := by have := (Nat.log2_lt h0).2 hm; omega
    have hLk : Lg (m * 2 ^ k) ≤ k := by unfold Lg; omega
    refine Rg_exact (m * 2 ^ (k - Lg (m * 2 ^ k))) ?_ ?_
    · rw [Nat.mul_assoc, ← Nat.pow_add]; congr 2; omega
    · have := log2_lt' (m * 2 ^ k)
      refine Nat.lt_of_lt_of_le this (Nat.pow_le_pow_right (by omega) (by omega))
end Go.Eng
