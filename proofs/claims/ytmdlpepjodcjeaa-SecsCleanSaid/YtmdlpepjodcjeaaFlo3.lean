/- FLOATS, PART 3: seconds and their ticks. -/
import Derived.Test.YtmdlpepjodcjeaaFlo2
import Derived.Test.YtmdlpepjodcjeaaEng1
namespace Go.Eng
set_option linter.unnecessarySimpa false
open Ieee
set_option linter.unusedVariables false
set_option linter.unusedSimpArgs false
set_option exponentiation.threshold 4000

def w999 : Nat := 4652006429231887155
def w003 : Nat := 4584304132692975288
def w05 : Nat := 4602678819172646912
def geF (x y : Nat) : Bool := DF.order x y == some .gt || DF.order x y == some .eq
def leF (x y : Nat) : Bool := DF.order x y == some .lt || DF.order x y == some .eq
def ltF (x y : Nat) : Bool := DF.order x y == some .lt
def gtF (x y : Nat) : Bool := DF.order x y == some .gt
def eqF (x y : Nat) : Bool := DF.order x y == some .eq
def kle : Option Int → Option Int → Bool
  | some a, some b => decide (a ≤ b)
  | _, _ => false
def klt : Option Int → Option Int → Bool
  | some a, some b => decide (a < b)
  | _, _ => false
def keq : Option Int → Option Int → Bool
  | some a, some b => decide (a = b)
  | _, _ => false
theorem leF_key (x y : Nat) : leF x y = kle (key x) (key y) := by
  unfold leF
  rw [order_key]
  cases key x <;> cases key y <;> try rfl
  rename_i a b
  simp only [kcmp, kle]
  rcases Int.lt_trichotomy a b with h | h | h
  · rw [cmp_lt h]; simp; omega
  · rw [cmp_eq h]; simp; omega
  · rw [cmp_gt h]; simp; omega
theorem geF_key (x y : Nat) : geF x y = kle (key y) (key x) := by
  unfold geF
  rw [order_key]
  cases key x <;> cases key y <;> try rfl
  rename_i a b
  simp only [kcmp, kle]
  rcases Int.lt_trichotomy a b with h | h | h
  · rw [cmp_lt h]; simp; omega
  · rw [cmp_eq h]; simp; omega
  · rw [cmp_gt h]; simp; omega
theorem ltF_key (x y : Nat) : ltF x y = klt (key x) (key y) := by
  unfold ltF
  rw [order_key]
  cases key x <;> cases key y <;> try rfl
  rename_i a b
  simp only [kcmp, klt]
  rcases Int.lt_trichotomy a b with h | h | h
  · rw [cmp_lt h]; simp; omega
  · rw [cmp_eq h]; simp; omega
  · rw [cmp_gt h]; simp; omega
theorem gtF_key (x y : Nat) : gtF x y = klt (key y) (key x) := by
  unfold gtF
  rw [order_key]
  cases key x <;> cases key y <;> try rfl
  rename_i a b
  simp only [kcmp, klt]
  rcases Int.lt_trichotomy a b with h | h | h
  · rw [cmp_lt h]; simp; omega
  · rw [cmp_eq h]; simp; omega
  · rw [cmp_gt h]; simp; omega
theorem eqF_key (x y : Nat) : eqF x y = keq (key x) (key y) := by
  unfold eqF
  rw [order_key]
  cases key x <;> cases key y <;> try rfl
  rename_i a b
  simp only [kcmp, keq]
  rcases Int.lt_trichotomy a b with h | h | h
  · rw [cmp_lt h]; simp; omega
  · rw [cmp_eq h]; simp; omega
  · rw [cmp_gt h]; simp; omega

theorem fin_0 : Fin 0 := by unfold Fin; omega
theorem fin_999 : Fin w999 := by unfold Fin w999; omega
theorem fin_003 : Fin w003 := by unfold Fin w003; omega
theorem fin_05 : Fin w05 := by unfold Fin w05; omega
theorem rV_0 : rV 0 = 0 := by simp [rV]
theorem rV_05 : rV w05 = 2 ^ 1073 := by decide +kernel
theorem key_0 : key 0 = some 0 := by rw [key_pos fin_0, rV_0]; rfl
theorem key_999 : key w999 = some (rV w999 : Int) := key_pos fin_999
theorem w999_pos : 0 < rV w999 := by decide +kernel
theorem rV_eq_0 {r : Nat} (h : rV r = 0) : r = 0 := by
  unfold rV at h
  split at h
  · exact h
  · have := Nat.mul_pos (show 0 < 2 ^ 52 + r % 2 ^ 52 by omega) (pow_pos2 (r / 2 ^ 52 - 1))
    omega

/-- a number from 0 to 999.9: which words -/
theorem inR_word {s : Nat} (hs : s < 2 ^ 64) {a : Int} (hk : key s = some a) (h0 : 0 ≤ a) (h1 : a ≤ (rV w999 : Int)) : (Fin s ∧ a = (rV s : Int)) ∨ (s = 2 ^ 63 ∧ a = 0) := by
  have big : (rV w999 : Int) < ((2 ^ 2200 : Nat) : Int) := by
    have : rV w999 < 2 ^ 2200 := by decide +kernel
    omega
  by_cases hlt : s < 2 ^ 63
  · by_cases hf : Fin s
    · left
      rw [key_pos hf] at hk
      exact ⟨hf, (Option.some.inj hk).symm⟩
    · exfalso
      unfold Fin at hf
      unfold key Format.read at hk
      dsimp only at hk
      have e1 : s % DF.signWeight = s := by rw [df_sign]; omega
      have e2 : s / DF.signWeight % 2 = 0 := by rw [df_sign]; omega
      rw [e1, e2, df_binade, df_inf] at hk
      rw [if_neg (by omega), if_neg hf] at hk
      split at hk
      · cases hk
      · rename_i s' hh
        split at hh <;> try (cases hh; done)
        cases hh
        cases hk
        simp only [show ((0 : Nat) == 1) = false from rfl, Bool.false_eq_true, if_false] at h1
        omega
      · rename_i hh
        split at hh <;> cases hh
  · obtain ⟨r, rfl⟩ : ∃ r, s = 2 ^ 63 + r := ⟨s - 2 ^ 63, by omega⟩
    by_cases hf : Fin r
    · right
      rw [key_neg hf] at hk
      have := Option.some.inj hk
      have h3 : rV r = 0 := by omega
      have := rV_eq_0 h3
      subst this
      exact ⟨rfl, by omega⟩
    · exfalso
      unfold Fin at hf
      unfold key Format.read at hk
      dsimp only at hk
      have e1 : (2 ^ 63 + r) % DF.signWeight = r := by rw [df_sign]; omega
      have e2 : (2 ^ 63 + r) / DF.signWeight % 2 = 1 := by rw [df_sign]; omega
      rw [e1, e2, df_binade, df_inf] at hk
      rw [if_neg (by omega), if_neg hf] at hk
      split at hk
      · cases hk
      · rename_i s' hh
        split at hh <;> try (cases hh; done)
        cases hh
        cases hk
        simp only [show ((1 : Nat) == 1) = true from rfl, if_true] at h0
        have := pow_pos2 2200
        omega
      · rename_i hh
        split at hh <;> cases hh

/-- the ticks of so many seconds, in units of the least number -/
def X10 (a : Nat) : Nat := Rg (10 * a * 2 ^ 1126)
def tkN (a : Nat) : Nat := rnd (rV (X10 a)) 1074
theorem X10_mono {a b : Nat} (h : a ≤ b) : X10 a ≤ X10 b := Rg_mono (Nat.mul_le_mul_right _ (Nat.mul_le_mul_left _ h))
theorem tkN_mono {a b : Nat} (h : a ≤ b) : tkN a ≤ tkN b := rnd_mono (rV_mono (X10_mono h)) _
theorem tkN_999 : tkN (rV w999) = 9999 := by decide +kernel
theorem X10_999 : X10 (rV w999) < 2047 * 2 ^ 52 := by decide +kernel
theorem X10_fin {a : Nat} (h : a ≤ rV w999) : Fin (X10 a) := by
  have h1 := X10_mono h
  have h2 := X10_999
  unfold Fin; omega
theorem tkN_le {a : Nat} (h : a ≤ rV w999) : tkN a ≤ 9999 := by rw [← tkN_999]; exact tkN_mono h
theorem tkN_0 : tkN 0 = 0 := by decide +kernel

def inR (s : Nat) : Bool := geF s 0 && leF s w999
def tk (s : Nat) : Nat := tkN ((key s).getD 0).toNat
theorem inR_iff {s : Nat} : inR s = true ↔ ∃ a : Nat, key s = some (a : Int) ∧ a ≤ rV w999 := by
  unfold inR
  rw [geF_key, leF_key, key_0, key_999]
  cases hk : key s with
  | none => simp [kle]
  | some a =>
    simp only [kle, Bool.and_eq_true, decide_eq_true_eq, Option.some.injEq]
    constructor
    · rintro ⟨h1, h2⟩; exact ⟨a.toNat, by omega, by omega⟩
    · rintro ⟨b, rfl, h⟩; omega
theorem tk_of {s a : Nat} (h : key s = some (a : Int)) : tk s = tkN a := by simp [tk, h]
theorem tk_le {s : Nat} (h : inR s = true) : tk s ≤ 9999 := by
  obtain ⟨a, h1, h2⟩ := inR_iff.1 h
  rw [tk_of h1]; exact tkN_le h2

/-- a float made whole -/
theorem rte_is {x : Nat} (h : Fin x) : rteA x = some (.float .f64 (ofN (rnd (rV x) 1074))) := by
  have hr : FloatKind.f64.decode x = .number false (dig x) (-1074 + (plc x : Int)) := read_pos h
  unfold rteA
  rw [hr]
  dsimp only
  have := rte_pos h
  rw [read_pos h] at this
  exact congrArg (fun n => some (AV.float .f64 n)) this
theorem cvFI_is {x n : Nat} (h : (DF.read x).toInt .zero = some (n : Int)) (hn : n < 2 ^ 53) : cvFIA .i64 (.float .f64 x) = some (.int .i64 n) := by
  have h' : (FloatKind.f64.decode x).toInt .zero = some (n : Int) := h
  simp only [cvFIA, h']
  rw [if_pos]
  constructor
  · have : IntKind.i64.min = -(2 ^ 63) := by decide
    omega
  · have : IntKind.i64.max = 2 ^ 63 - 1 := by decide
    omega
theorem z_1 : DF.mul w10 (2 ^ 63) = some (2 ^ 63) := by decide +kernel
theorem z_2 : DF.mul (2 ^ 63) w10 = some (2 ^ 63) := by decide +kernel
theorem z_4 : (DF.read (2 ^ 63)).toInt .zero = some ((0 : Nat) : Int) := by decide +kernel
theorem z_5 : DF.sub (2 ^ 63) (ofN 0) = some (2 ^ 63) := by decide +kernel
theorem z_6 : DF.order (2 ^ 63) w05 = some .lt := by decide +kernel
theorem z_h1 : FloatKind.f64.decode (2 ^ 63) = .number true 0 (-1074) := by decide +kernel
theorem z_h2 : FloatKind.f64.encode ((Datum.number true 0 (-1074)).integral .even) = 2 ^ 63 := by decide +kernel
theorem z_3 : rteA (2 ^ 63) = some (.float .f64 (2 ^ 63)) := by
  unfold rteA
  rw [z_h1]
  show some (AV.float .f64 (FloatKind.f64.encode ((Datum.number true 0 (-1074)).integral .even))) = _
  rw [z_h2]

theorem ticks_run {s : Nat} (hs : s < 2 ^ 64) (h : inR s = true) : ∃ x y, DF.mul w10 s = some x ∧ rteA x = some (.float .f64 y) ∧ cvFIA .i64 (.float .f64 y) = some (.int .i64 (tk s)) := by
  obtain ⟨a, h1, h2⟩ := inR_iff.1 h
  have ht := tk_of h1
  rcases inR_word hs h1 (by omega) (by omega) with ⟨hf, ha⟩ | ⟨rfl, ha⟩
  · have ha : a = rV s := by omega
    subst ha
    have hX := X10_fin h2
    have hle := tkN_le h2
    refine ⟨X10 (rV s), ofN (rnd (rV (X10 (rV s))) 1074), (mul_10 hf).1, rte_is hX, ?_⟩
    rw [ht]
    exact cvFI_is (toInt_ofN (by unfold tkN at hle; omega)) (by omega)
  · have ha : a = 0 := by omega
    subst ha
    refine ⟨2 ^ 63, 2 ^ 63, z_1, z_3, ?_⟩
    rw [ht, tkN_0]
    exact cvFI_is z_4 (by omega)

/-- what is behind the point has a word -/
theorem frac_exact {x : Nat} (h : Fin x) : Fin (Rg (rV x % 2 ^ 1074 * 2 ^ 1126)) ∧ rV (Rg (rV x % 2 ^ 1074 * 2 ^ 1126)) = rV x % 2 ^ 1074 := by
  have hd := dig_lt x
  have key : ∃ m k, m < 2 ^ 53 ∧ 1126 ≤ k ∧ k ≤ 3090 ∧ rV x % 2 ^ 1074 * 2 ^ 1126 = m * 2 ^ k := by
    rw [rV_dig]
    by_cases hp : 1074 ≤ plc x
    · refine ⟨0, 1126, by omega, by omega, by omega, ?_⟩
      have : dig x * 2 ^ plc x = dig x * 2 ^ (plc x - 1074) * 2 ^ 1074 := by rw [Nat.mul_assoc, ← Nat.pow_add, Nat.sub_add_cancel hp]
      rw [this, Nat.mul_mod_left, Nat.zero_mul]
    · refine ⟨dig x % 2 ^ (1074 - plc x), plc x + 1126, ?_, by omega, by omega, ?_⟩
      · exact Nat.lt_of_le_of_lt (Nat.mod_le _ _) hd
      · have : (2 : Nat) ^ 1074 = 2 ^ (1074 - plc x) * 2 ^ plc x := by rw [← Nat.pow_add, Nat.sub_add_cancel (by omega)]
        rw [this, Nat.mul_mod_mul_right, Nat.mul_assoc, ← Nat.pow_add]
  obtain ⟨m, k, h1, h2, h3, h4⟩ := key
  obtain ⟨f1, f2⟩ := Rg_small h1 h2 h3
  rw [← h4] at f1 f2
  exact ⟨f1, Nat.eq_of_mul_eq_mul_right (pow_pos2 1126) f2⟩

theorem rnd_cases (X : Nat) {d w : Nat} (h : 2 ^ d = 2 * w) : rnd X d = (if kcmp (some ((X % 2 ^ d : Nat) : Int)) (some (w : Int)) == some .gt || (kcmp (some ((X % 2 ^ d : Nat) : Int)) (some (w : Int)) == some .eq && X / 2 ^ d % 2 == 1) then X / 2 ^ d + 1 else X / 2 ^ d) := by
  unfold rnd
  generalize X / 2 ^ d = q
  generalize X % 2 ^ d = r
  rw [h]
  rcases Nat.lt_trichotomy w r with hc | hc | hc
  · have hc' : ((w : Nat) : Int) < (r : Int) := by omega
    simp only [kcmp, cmp_gt hc']; rw [if_pos (Or.inl (by omega))]; simp
  · have hc' : ((r : Nat) : Int) = (w : Int) := by omega
    simp only [kcmp, cmp_eq hc']
    by_cases hm : q % 2 = 1
    · rw [if_pos (Or.inr ⟨by omega, hm⟩)]; simp [hm]
    · rw [if_neg (by omega)]; simp [hm]
  · have hc' : ((r : Nat) : Int) < (w : Int) := by omega
    simp only [kcmp, cmp_lt hc']; rw [if_neg (by omega)]; simp
theorem pow1074 : (2 : Nat) ^ 1074 = 2 * 2 ^ 1073 := Nat.pow_succ' ..

theorem ref_run {s : Nat} (hs : s < 2 ^ 64) (h : inR s = true) : ∃ (x n f : Nat), DF.mul s w10 = some x ∧ cvFIA .i64 (.float .f64 x) = some (.int .i64 n) ∧ DF.sub x (FloatKind.f64.nearest (n : Int)) = some f ∧ n ≤ 9999 ∧
    tk s = (if DF.order f w05 == some .gt || (DF.order f w05 == some .eq && n % 2 == 1) then n + 1 else n) := by
  obtain ⟨a, h1, h2⟩ := inR_iff.1 h
  have ht := tk_of h1
  rcases inR_word hs h1 (by omega) (by omega) with ⟨hf, ha⟩ | ⟨rfl, ha⟩
  · have ha : a = rV s := by omega
    subst ha
    have hX := X10_fin h2
    have hle := tkN_le h2
    generalize hx : X10 (rV s) = x at *
    have hn : rV x / 2 ^ 1074 ≤ 9999 := by
      have := le_rnd (rV x) 1074
      unfold tkN at hle; rw [hx] at hle; omega
    obtain ⟨g1, g2⟩ := ofN_fin (n := rV x / 2 ^ 1074) (by omega)
    have hdm := Nat.div_add_mod (rV x) (2 ^ 1074)
    rw [Nat.mul_comm] at hdm
    obtain ⟨f1, f2⟩ := frac_exact hX
    refine ⟨x, rV x / 2 ^ 1074, Rg (rV x % 2 ^ 1074 * 2 ^ 1126), ?_, ?_, ?_, hn, ?_⟩
    · rw [← hx]; exact (mul_10 hf).2
    · exact cvFI_is (toInt_pos hX) (by omega)
    · rw [nearest_ofN, sub_pos hX g1 (by rw [g2]; omega), g2]
      have e : rV x - rV x / 2 ^ 1074 * 2 ^ 1074 = rV x % 2 ^ 1074 := by omega
      rw [e]
    · rw [ht]
      have e : tkN (rV s) = rnd (rV x) 1074 := by unfold tkN; rw [hx]
      have hk : DF.order (Rg (rV x % 2 ^ 1074 * 2 ^ 1126)) w05 = kcmp (some ((rV x % 2 ^ 1074 : Nat) : Int)) (some ((2 ^ 1073 : Nat) : Int)) := by
        rw [order_key, key_pos f1, key_pos fin_05, f2, rV_05]
      rw [e, hk]
      exact rnd_cases (rV x) pow1074
  · have ha : a = 0 := by omega
    subst ha
    refine ⟨2 ^ 63, 0, 2 ^ 63, z_2, cvFI_is z_4 (by omega), ?_, by omega, ?_⟩
    · rw [nearest_ofN]; exact z_5
    · rw [ht, tkN_0, z_6]; rfl

/-! ### tenths -/
theorem sub_le' {a b c d : Nat} (h : a ≤ b) (h' : d ≤ c) : a - c ≤ b - d := by omega
theorem le_scale {x y c : Nat} (h : x * 2 ^ c ≤ y * 2 ^ c) : x ≤ y := Nat.le_of_mul_le_mul_right h (pow_pos2 c)
/-- a tenth of a whole number lies between two grid numbers -/
theorem div_10 {k a : Nat} (hk : 1 ≤ k) (hk2 : k ≤ 9999) (h1 : 10 * a ≤ 1024 * k) (h2 : 1024 * k ≤ 10 * (a + 1)) : ∃ s, DF.div (ofN k) w10 = some s ∧ Fin s ∧ a * 2 ^ 1064 ≤ rV s ∧ rV s ≤ (a + 1) * 2 ^ 1064 := by
  obtain ⟨f1, f2⟩ := ofN_fin (n := k) (by omega)
  generalize ofN k = r at *
  have hd := dig_lt r
  rw [rV_dig] at f2
  -- the number is a normal one
  have hr52 : 2 ^ 52 ≤ r := by
    refine Nat.le_of_not_lt fun h => ?_
    have e1 : dig r = r := by unfold dig; rw [if_pos h]
    have e2 : plc r = 0 := by unfold plc; rw [if_pos h]
    rw [e1, e2, Nat.pow_zero, Nat.mul_one] at f2
    have : 1 * 2 ^ 1074 ≤ k * 2 ^ 1074 := Nat.mul_le_mul_right _ hk
    have : (2 : Nat) ^ 52 ≤ 2 ^ 1074 := Nat.pow_le_pow_right (by omega) (by omega)
    omega
  have hd52 : 2 ^ 52 ≤ dig r := by unfold dig; rw [if_neg (by omega)]; omega
  have hlog : (dig r).log2 = 52 := by
    have h0 : dig r ≠ 0 := by omega
    have a1 : (dig r).log2 < 53 := (Nat.log2_lt h0).2 hd
    have a2 : 52 ≤ (dig r).log2 := (Nat.le_log2 h0).2 hd52
    omega
  have hp : plc r ≤ 1036 := by
    refine Nat.le_of_not_lt fun h => ?_
    have b1 : 2 ^ 52 * 2 ^ 1037 ≤ dig r * 2 ^ plc r := Nat.mul_le_mul hd52 (Nat.pow_le_pow_right (by omega) h)
    rw [f2, ← Nat.pow_add] at b1
    have b2 : k * 2 ^ 1074 < 2 ^ 15 * 2 ^ 1074 := Nat.mul_lt_mul_of_pos_right (by omega) (pow_pos2 _)
    rw [← Nat.pow_add] at b2
    omega
  have hl10 : (5 * 2 ^ 50 : Nat).log2 = 52 := by decide
  have hmore : 54 + (5 * 2 ^ 50 : Nat).log2 - (dig r).log2 = 54 := by rw [hlog, hl10]
  have hdiv : DF.div r w10 = some (Rg ((2 * (dig r * 2 ^ 54 / (5 * 2 ^ 50)) + (dig r * 2 ^ 54 % (5 * 2 ^ 50) != 0).toNat) * 2 ^ (plc r + 1120))) := by
    unfold Format.div
    rw [read_10, read_pos f1]
    have hfb : DF.fractionBits + 2 = 54 := rfl
    rw [hfb]
    unfold Datum.quotient
    dsimp only
    rw [if_neg (by omega), hmore, Nat.shiftLeft_eq, Option.map_some]
    have : ((-1074 + (plc r : Int)) - -49 - (54 : Nat) - 1 + 2200).toNat = plc r + 1120 := by omega
    rw [show (false ^^ false) = false from rfl, write_pos _ _ (by omega), this]
  obtain ⟨n, hn⟩ : ∃ n : Nat, n = 5 * 2 ^ 50 := ⟨_, rfl⟩
  rw [← hn] at hdiv
  obtain ⟨D, hDD⟩ : ∃ D : Nat, D = dig r * 2 ^ 54 := ⟨_, rfl⟩
  rw [← hDD] at hdiv
  refine ⟨_, hdiv, ?_⟩
  -- the floor against a grid number
  have grid5 : ∀ z : Nat, (z * 2 ^ (1069 - plc r)) * n * 2 ^ plc r = 5 * z * 2 ^ 1119 := by
    intro z
    rw [hn]
    have : z * 2 ^ (1069 - plc r) * (5 * 2 ^ 50) * 2 ^ plc r = 5 * z * (2 ^ (1069 - plc r) * 2 ^ 50 * 2 ^ plc r) := by
      simp only [Nat.mul_assoc, Nat.mul_left_comm, Nat.mul_comm]
    rw [this, ← Nat.pow_add, ← Nat.pow_add]
    rw [show 1069 - plc r + 50 + plc r = 1119 by omega]
  have hD : D * 2 ^ plc r = 512 * k * 2 ^ 1119 := by
    rw [hDD]
    have : dig r * 2 ^ 54 * 2 ^ plc r = dig r * 2 ^ plc r * 2 ^ 54 := by simp only [Nat.mul_assoc, Nat.mul_left_comm, Nat.mul_comm]
    rw [this, f2, Nat.mul_assoc, ← Nat.pow_add, show 1074 + 54 = 9 + 1119 by omega, Nat.pow_add, ← Nat.mul_assoc, Nat.mul_comm k]
  have hn0 : 0 < n := by omega
  have lo : ∀ z, 5 * z ≤ 512 * k → z * 2 ^ (1069 - plc r) ≤ D / n := by
    intro z hz
    rw [Nat.le_div_iff_mul_le hn0]
    refine le_scale (c := plc r) ?_
    rw [grid5, hD]; exact Nat.mul_le_mul_right _ hz
  have hi : ∀ z, 512 * k ≤ 5 * z → 2 * (D / n) + (D % n != 0).toNat ≤ 2 * (z * 2 ^ (1069 - plc r)) := by
    intro z hz
    have hle : D ≤ z * 2 ^ (1069 - plc r) * n := by
      refine le_scale (c := plc r) ?_
      rw [grid5, hD]; exact Nat.mul_le_mul_right _ hz
    generalize z * 2 ^ (1069 - plc r) = Z at *
    have hdm := Nat.div_add_mod D n
    have h3 : D / n ≤ Z := by
      rw [← Nat.mul_div_cancel Z hn0]; exact Nat.div_le_div_right hle
    by_cases h0 : D % n = 0
    · simp [h0]; omega
    · have h4 : D / n < Z := by
        refine Nat.lt_of_le_of_ne h3 fun e => ?_
        rw [e, Nat.mul_comm] at hdm
        omega
      have h5 : (D % n != 0).toNat = 1 := by simp [h0]
      omega
  have sc : ∀ z : Nat, z * 2 ^ 1064 * 2 ^ 1126 = 2 * (z * 2 ^ (1069 - plc r)) * 2 ^ (plc r + 1120) := by
    intro z
    have : 2 * (z * 2 ^ (1069 - plc r)) * 2 ^ (plc r + 1120) = z * (2 ^ 1 * 2 ^ (1069 - plc r) * 2 ^ (plc r + 1120)) := by
      simp only [Nat.mul_assoc, Nat.mul_left_comm, Nat.mul_comm, Nat.pow_one]
    rw [this, ← Nat.pow_add, ← Nat.pow_add, Nat.mul_assoc, ← Nat.pow_add]
    rw [show 1 + (1069 - plc r) + (plc r + 1120) = 1064 + 1126 by omega]
  have hlo : a * 2 ^ 1064 * 2 ^ 1126 ≤ (2 * (D / n) + (D % n != 0).toNat) * 2 ^ (plc r + 1120) := by
    rw [sc]
    have := lo a (by omega)
    exact Nat.mul_le_mul_right _ (by omega)
  have hhi : (2 * (D / n) + (D % n != 0).toNat) * 2 ^ (plc r + 1120) ≤ (a + 1) * 2 ^ 1064 * 2 ^ 1126 := by
    rw [sc]
    exact Nat.mul_le_mul_right _ (hi (a + 1) (by omega))
  have hb : a + 1 < 2 ^ 53 := by omega
  exact Rg_grid hlo hhi hb

/-- ticks of what lies between two grid numbers -/
theorem rnd_grid {c k : Nat} (h1 : 1024 * k < c + 512) (h2 : c < 1024 * k + 512) : rnd c 10 = k := by
  unfold rnd; split <;> omega
theorem rnd_1064 (c : Nat) : rnd (c * 2 ^ 1064) 1074 = rnd c 10 := rnd_scale c 10 1064
theorem tk_grid {v a b k : Nat} (h1 : a * 2 ^ 1064 ≤ v) (h2 : v ≤ b * 2 ^ 1064) (hb : b < 2 ^ 40) (h3 : 1024 * k < 10 * a + 512) (h4 : 10 * b < 1024 * k + 512) : tkN v = k := by
  have e : ∀ z : Nat, 10 * (z * 2 ^ 1064) = 10 * z * 2 ^ 1064 := fun z => by rw [Nat.mul_assoc]
  have hx := Rg_grid (N := 10 * v * 2 ^ 1126) (a := 10 * a) (b := 10 * b) (by rw [← e]; exact Nat.mul_le_mul_right _ (Nat.mul_le_mul_left _ h1)) (by rw [← e]; exact Nat.mul_le_mul_right _ (Nat.mul_le_mul_left _ h2)) (by omega)
  obtain ⟨_, g1, g2⟩ := hx
  have m1 := rnd_mono g1 1074
  have m2 := rnd_mono g2 1074
  rw [rnd_1064] at m1 m2
  have hab : a ≤ b := le_scale (Nat.le_trans h1 h2)
  have r1 := rnd_grid (c := 10 * a) (k := k) (by omega) (by omega)
  have r2 := rnd_grid (c := 10 * b) (k := k) (by omega) (by omega)
  have : tkN v = rnd (rV (Rg (10 * v * 2 ^ 1126))) 1074 := rfl
  omega
theorem g003_lo : 30 * 2 ^ 1064 ≤ rV w003 := by decide +kernel
theorem g003_hi : rV w003 ≤ 31 * 2 ^ 1064 := by decide +kernel
theorem g999 : 1023897 * 2 ^ 1064 ≤ rV w999 := by decide +kernel
theorem div_9999 : DF.div (ofN 9999) w10 = some w999 := by decide +kernel
theorem div_0 : DF.div (ofN 0) w10 = some 0 := by decide +kernel
theorem tkN_003 : tkN (rV w003) = 0 := by decide +kernel
def near (off k : Nat) : Prop := ltF off 0 = false → gtF off w999 = false → inR off = true ∧ tk off = k
theorem near_of {v : Nat} {k : Nat} (hf : Fin v) (ht : tkN (rV v) = k) : near v k := by
  intro h1 h2
  rw [gtF_key, key_pos hf, key_999] at h2
  simp only [klt, decide_eq_false_iff_not] at h2
  exact ⟨inR_iff.2 ⟨rV v, key_pos hf, by omega⟩, by rw [tk_of (key_pos hf)]; exact ht⟩
/-- OF A NUMBER ITS SECONDS, and of these the ticks -/
theorem back {k : Nat} (hk : k ≤ 9999) : ∃ s u d, DF.div (ofN k) w10 = some s ∧ DF.add s w003 = some u ∧ DF.sub s w003 = some d ∧ s < 2 ^ 64 ∧ u < 2 ^ 64 ∧ inR s = true ∧ tk s = k ∧ near u k ∧ near d k ∧ d < 2 ^ 64 := by
  by_cases h0 : k = 0
  · subst h0
    have hd : DF.sub 0 w003 = some (2 ^ 63 + w003) := by decide +kernel
    have hu : DF.add 0 w003 = some w003 := by decide +kernel
    refine ⟨0, w003, 2 ^ 63 + w003, div_0, hu, hd, by omega, by unfold w003; omega, inR_iff.2 ⟨0, key_0, by omega⟩, by rw [tk_of (a := 0) key_0]; exact tkN_0, near_of fin_003 tkN_003, ?_, by unfold w003; omega⟩
    intro h1
    rw [ltF_key, key_neg fin_003, key_0] at h1
    simp only [klt, decide_eq_false_iff_not] at h1
    have : 0 < rV w003 := by decide +kernel
    omega
  · obtain ⟨s, h1, h2, h3, h4⟩ := div_10 (k := k) (a := 1024 * k / 10) (by omega) hk (by omega) (by omega)
    generalize ha : 1024 * k / 10 = a at *
    have ha1 : 10 * a ≤ 1024 * k := by omega
    have ha2 : 1024 * k ≤ 10 * a + 9 := by omega
    have hs999 : rV s ≤ rV w999 := by
      by_cases h9 : k = 9999
      · subst h9
        rw [div_9999] at h1
        cases h1
        exact Nat.le_refl _
      · refine Nat.le_trans h4 (Nat.le_trans (Nat.mul_le_mul_right _ (by omega)) g999)
    have hts : tkN (rV s) = k := tk_grid h3 h4 (by omega) (by omega) (by omega)
    have hsub : rV w003 ≤ rV s := Nat.le_trans g003_hi (Nat.le_trans (Nat.mul_le_mul_right _ (by omega)) h3)
    have hU := Rg_grid (N := (rV s + rV w003) * 2 ^ 1126) (a := a + 30) (b := a + 1 + 31) (Nat.mul_le_mul_right _ (by rw [Nat.add_mul]; exact Nat.add_le_add h3 g003_lo)) (Nat.mul_le_mul_right _ (by rw [Nat.add_mul (a + 1)]; exact Nat.add_le_add h4 g003_hi)) (by omega)
    have hD := Rg_grid (N := (rV s - rV w003) * 2 ^ 1126) (a := a - 31) (b := a + 1 - 30) (Nat.mul_le_mul_right _ (by rw [Nat.sub_mul]; exact sub_le' h3 g003_hi)) (Nat.mul_le_mul_right _ (by rw [Nat.sub_mul]; exact sub_le' h4 g003_lo)) (by omega)
    refine ⟨s, _, _, h1, add_pos h2 fin_003, sub_pos h2 fin_003 hsub, ?_, ?_, inR_iff.2 ⟨rV s, key_pos h2, hs999⟩, by rw [tk_of (key_pos h2)]; exact hts, ?_, ?_, ?_⟩
    · unfold Fin at h2; omega
    · have := hU.1; unfold Fin at this; omega
    · exact near_of hU.1 (tk_grid hU.2.1 hU.2.2 (by omega) (by omega) (by omega))
    · exact near_of hD.1 (tk_grid hD.2.1 hD.2.2 (by omega) (by omega) (by omega))
    · have := hD.1; unfold Fin at this; omega
end Go.Eng
