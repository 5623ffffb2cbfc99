/- The engine and the library, part 4 of 6: what the proofs of this seat need of them. -/
import Derived.Test.YtjajlcaemehdoaaPk3
namespace Go.Eng
set_option linter.unusedVariables false
set_option linter.unusedSimpArgs false
set_option linter.unnecessarySimpa false
open Go
set_option linter.unusedVariables false
set_option linter.unusedSimpArgs false
set_option maxRecDepth 10000
set_option maxHeartbeats 4000000
def withT (t : Tb) (p q : Int) : Int := if besideR t p q then withR (ofI [p]) q else ofI [p]
def with.Spec (C : Con) (f : Nat) : Prop := ∀ (t : Tb) (p q : Int), t.Ok → C.c f [.agg t.cells, I p, I q] (I (withT t p q)) none
theorem bf_mul (k : FloatKind) (x y : Nat) : binA .mul (.float k x) (.float k y) = (k.format.mul x y).map (.float k) := by simp [binA, floatA]
theorem bf_quo (k : FloatKind) (x y : Nat) : binA .quo (.float k x) (.float k y) = (k.format.div x y).map (.float k) := by simp [binA, floatA]
theorem cv_IF (k : FloatKind) (k' : IntKind) (n : Int) : cvIFA k (.int k' n) = some (.float k (k.nearest n)) := rfl
theorem frm_range (l : Option (List Int)) (i : Int) {n : Int} (h : 0 < n) (hn : n ≤ 4294967296) : 0 ≤ frm l i n ∧ frm l i n < n := by
  simp only [frm, place]
  have h1 := Int.tmod_lt_of_pos (atL l i) h
  have h2 := Int.lt_tmod_of_pos (atL l i) h
  split
  · rw [w64, wrap_id (by omega) (by omega)]; omega
  · omega
def tenth (n : Int) : Nat := (FloatKind.f64.format.div (FloatKind.f64.nearest n) 4621819117588971520).getD 0
theorem tenth_some : ∀ n : Nat, n < 6 → FloatKind.f64.format.div (FloatKind.f64.nearest (n : Int)) 4621819117588971520 = some (tenth n) := by decide +kernel
def detOn (k : Int) : Nat := [4617315517961601024, 4621819117588971520, 4607182418800017408, 4602678819172646912].getD k.toNat 0
def detScale (k : Int) : Nat := [4602678819172646912, 4607182418800017408, 4598175219545276416].getD k.toNat 0
def detOff (j k : Int) : Nat := (FloatKind.f64.format.mul (detOn j) (detScale k)).getD 0
theorem detOff_some : ∀ j : Nat, j < 4 → ∀ k : Nat, k < 3 → FloatKind.f64.format.mul (detOn j) (detScale k) = some (detOff j k) := by decide +kernel
def detectorOf (l : Option (List Int)) (i n : Int) : Det where
  phase := frm l i n
  on := detOn (frm l (w64 (i + 1)) 4)
  off := detOff (frm l (w64 (i + 1)) 4) (frm l (w64 (i + 2)) 3)
  delay := tenth (frm l (w64 (i + 3)) 4)
  extend := tenth (frm l (w64 (i + 4)) 6)
  maxOn := if frm l (w64 (i + 5)) 3 == 1 then w64 (20 + frm l (w64 (i + 6)) 60) else 0
  maxOff := if frm l (w64 (i + 5)) 9 == 2 then w64 (60 + frm l (w64 (i + 7)) 300) else 0
def detector.Spec (C : Con) (f : Nat) : Prop := ∀ (l : Option (List Int)) (i n : Int), 0 < n → C.c f [slAV intRow l, I i, I n] (.agg (detectorOf l i n).cells) none
section
variable {P : Program} (hm : P.follows .mixedOrders = true) {f : Nat}
include hm
theorem with.ok {e fO fB fW : Nat} (hc : cFn P f = some (cc_law00_with e fO fB fW)) (hO : refOf.Spec (Pure P) fO) (hB : beside.Spec (Pure P) fB) (hW : refWith.Spec (Pure P) fW) : with.Spec (Pure P) f := by
  intro t p q ht
  have hl := Tb.len ht
  have hp := Tb.whole ht
  refine pure_of hm hc (by show 3 ≤ 19; decide) (aw_flat (keep := []) (i := 0) ?_)
  try simp only [I, B, D, RX, ↓ KW, seval, cc_law00_with, Z.H, hp, hl]
  refine call_is (hO (some [_]) (by simp)) ?_
  try simp only [I, B, D, RX, ↓ KW, seval, hp]
  refine call_is (hB t _ _ ht) ?_
  try simp only [I, B, D, RX, ↓ KW, seval]
  repeat' (first | (refine call_is (hW _ _) ?_; try simp only [I, B, D, RX, ↓ KW, seval]) | (((first | refine gd_split ?_ ?_ | refine cd_split ?_ ?_ | refine pk_split ?_ ?_) <;> intro h) <;> try simp only [I, B, D, RX, ↓ KW, seval, h]))
  all_goals simp_all [withT]
theorem detector.ok {fF : Nat} (hc : cFn P f = some (cc_law00_detector fF)) (hF : from.Spec (Pure P) fF) : detector.Spec (Pure P) f := by
  intro l i n hn
  refine pure_of hm hc (by show 3 ≤ 66; decide) (aw_flat (keep := []) (i := 0) ?_)
  try simp only [I, B, D, RX, ↓ KW, seval, cc_law00_detector, Z.H]
  refine call_is (hF _ _ _ hn) ?_
  try simp only [I, B, D, RX, ↓ KW, seval]
  refine call_is (hF _ _ _ (by decide)) ?_
  try simp only [I, B, D, RX, ↓ KW, seval]
  have h1 := frm_range l (w64 (i + 1)) (n := 4) (by decide) (by decide)
  have h2 := frm_range l (w64 (i + 2)) (n := 3) (by decide) (by decide)
  have h3 := frm_range l (w64 (i + 3)) (n := 4) (by decide) (by decide)
  have h4 := frm_range l (w64 (i + 4)) (n := 6) (by decide) (by decide)
  have e1 : [AV.float FloatKind.f64 4617315517961601024, AV.float FloatKind.f64 4621819117588971520, AV.float FloatKind.f64 4607182418800017408, AV.float FloatKind.f64 4602678819172646912][(frm l (w64 (i + 1)) 4).toNat]? = some (.float .f64 (detOn (frm l (w64 (i + 1)) 4))) := by
    generalize frm l (w64 (i + 1)) 4 = j at *
    have : j = 0 ∨ j = 1 ∨ j = 2 ∨ j = 3 := by omega
    rcases this with rfl | rfl | rfl | rfl <;> rfl
  have e2 : [AV.float FloatKind.f64 4602678819172646912, AV.float FloatKind.f64 4607182418800017408, AV.float FloatKind.f64 4598175219545276416][(frm l (w64 (i + 2)) 3).toNat]? = some (.float .f64 (detScale (frm l (w64 (i + 2)) 3))) := by
    generalize frm l (w64 (i + 2)) 3 = j at *
    have : j = 0 ∨ j = 1 ∨ j = 2 := by omega
    rcases this with rfl | rfl | rfl <;> rfl
  have e3 := detOff_some (frm l (w64 (i + 1)) 4).toNat (by omega) (frm l (w64 (i + 2)) 3).toNat (by omega)
  have e4 := tenth_some (frm l (w64 (i + 3)) 4).toNat (by omega)
  have e5 := tenth_some (frm l (w64 (i + 4)) 6).toNat (by omega)
  simp only [Int.toNat_of_nonneg h1.1, Int.toNat_of_nonneg h2.1] at e3
  simp only [Int.toNat_of_nonneg h3.1] at e4
  simp only [Int.toNat_of_nonneg h4.1] at e5
  simp only [w64] at e1 e2 e3 e4 e5 h1 h2 h3 h4
  refine ⟨by omega, ?_⟩
  try simp only [I, B, D, RX, ↓ KW, seval, e1]
  refine call_is (hF l _ 3 (by decide)) ?_
  try simp only [I, B, D, RX, ↓ KW, seval]
  refine ⟨by omega, ?_⟩
  try simp only [I, B, D, RX, ↓ KW, seval, e2, bf_mul, e3]
  refine call_is (hF _ _ _ (by decide)) ?_
  try simp only [I, B, D, RX, ↓ KW, seval, cv_IF, bf_quo, e4]
  refine call_is (hF _ _ _ (by decide)) ?_
  try simp only [I, B, D, RX, ↓ KW, seval, cv_IF, bf_quo, e5]
  repeat' (first | (refine call_is (hF _ _ _ (by decide)) ?_; try simp only [I, B, D, RX, ↓ KW, seval]) | (((first | refine gd_split ?_ ?_ | refine cd_split ?_ ?_ | refine pk_split ?_ ?_) <;> intro h) <;> try simp only [I, B, D, RX, ↓ KW, seval, h]))
  all_goals simp_all [detectorOf, Det.cells, w64]
def railOf (t : Tb) (l : Option (List Int)) (i n : Int) : Rl :=
  let p := frm l (w64 (i + 4)) (w64 (n + 1))
  let dwell := withT t (frm l i n) (frm l (w64 (i + 1)) n)
  let stay := w64 (1 + frm l (w64 (i + 11)) 15)
  let delay := frm l (w64 (i + 8)) 4
  { bars := bAndNot .i64 (bAnd .i64 (frm l (w64 (i + 7)) 256) (w64 (w64 (1 * 2 ^ min (IntKind.u64.wrap n).toNat 64) - 1))) dwell
    clear := if p < n then withT t p (frm l (w64 (i + 5)) n) else 0
    dwell := dwell
    exit := withT t (frm l (w64 (i + 2)) n) (frm l (w64 (i + 3)) n)
    delay := delay
    green := w64 (1 + frm l (w64 (i + 9)) 6)
    foot := frm l (w64 (i + 10)) 6
    hold := if p < n then w64 (1 + frm l (w64 (i + 6)) 10) else 0
    stay := stay
    most := if frm l (w64 (i + 12)) 3 == 1 then w64 (stay + frm l (w64 (i + 13)) 30) else 0
    limit := w64 (w64 (delay + 1) + [10000, 400, 20].getD (frm l (w64 (i + 14)) 3).toNat 0) }
def rail.Spec (C : Con) (f : Nat) : Prop := ∀ (t : Tb) (l : Option (List Int)) (i n : Int), t.Ok → 0 < n → n ≤ 8 → C.c f [.agg t.cells, slAV intRow l, I i, I n] (.agg (railOf t l i n).cells) none
theorem rail.ok {fF fW : Nat} (hc : cFn P f = some (cc_law00_rail fF fW)) (hF : from.Spec (Pure P) fF) (hW : with.Spec (Pure P) fW) : rail.Spec (Pure P) f := by
  intro t l i n ht hn hn8
  have hl := Tb.len ht
  have hp := Tb.whole ht
  have hn1 : IntKind.i64.wrap (n + 1) = n + 1 := wrap_id (by omega) (by omega)
  refine pure_of hm hc (by show 4 ≤ 119; decide) (aw_flat (keep := []) (i := 0) ?_)
  try simp only [I, B, D, RX, ↓ KW, seval, cc_law00_rail, Z.H, hp, hl, z11_58867]
  refine call_is (hF _ _ _ hn) ?_
  try simp only [I, B, D, RX, ↓ KW, seval, hp]
  refine call_is (hF _ _ _ hn) ?_
  try simp only [I, B, D, RX, ↓ KW, seval, hp]
  refine call_is (hW t _ _ ht) ?_
  try simp only [I, B, D, RX, ↓ KW, seval, hp]
  refine call_is (hF _ _ _ hn) ?_
  try simp only [I, B, D, RX, ↓ KW, seval, hp]
  refine call_is (hF _ _ _ hn) ?_
  try simp only [I, B, D, RX, ↓ KW, seval, hp]
  refine call_is (hW t _ _ ht) ?_
  try simp only [I, B, D, RX, ↓ KW, seval, hp]
  refine call_is (hF _ _ _ (by omega)) ?_
  try simp only [I, B, D, RX, ↓ KW, seval, hp]
  have h14 := frm_range l (w64 (i + 14)) (n := 3) (by decide) (by decide)
  have e14 : [AV.int .i64 10000, AV.int .i64 400, AV.int .i64 20][(frm l (w64 (i + 14)) 3).toNat]? = some (.int .i64 ([10000, 400, 20].getD (frm l (w64 (i + 14)) 3).toNat 0)) := by
    generalize frm l (w64 (i + 14)) 3 = j at *
    have : j = 0 ∨ j = 1 ∨ j = 2 := by omega
    rcases this with rfl | rfl | rfl <;> rfl
  have hu : 0 ≤ IntKind.u64.wrap n := by rw [IntKind.wrap]; simp [IntKind.signed]; omega
  simp only [w64] at e14 h14
  refine cd_split (fun h => ?_) (fun h => ?_) <;> try simp only [I, B, D, RX, ↓ KW, seval, hp, h]
  · repeat' (first | ((first | refine call_is (hF _ _ _ hn) ?_ | refine call_is (hF _ _ _ (by decide)) ?_ | refine call_is (hW t _ _ ht) ?_); try simp only [I, B, D, RX, ↓ KW, seval, hp]) | (((first | refine gd_split ?_ ?_ | refine cd_split ?_ ?_ | refine pk_split ?_ ?_) <;> intro h) <;> try simp only [I, B, D, RX, ↓ KW, seval, hp, h]))
    refine ⟨hu, ?_⟩
    repeat' (first | ((first | refine call_is (hF _ _ _ hn) ?_ | refine call_is (hF _ _ _ (by decide)) ?_ | refine call_is (hW t _ _ ht) ?_); try simp only [I, B, D, RX, ↓ KW, seval, hp]) | (((first | refine gd_split ?_ ?_ | refine cd_split ?_ ?_ | refine pk_split ?_ ?_) <;> intro h) <;> try simp only [I, B, D, RX, ↓ KW, seval, hp, h]))
    all_goals refine ⟨by omega, ?_⟩
    all_goals try simp only [I, B, D, RX, ↓ KW, seval, e14, hp]
    all_goals simp_all [railOf, Rl.cells, w64, IntKind.bits]
  · repeat' (first | ((first | refine call_is (hF _ _ _ hn) ?_ | refine call_is (hF _ _ _ (by decide)) ?_ | refine call_is (hW t _ _ ht) ?_); try simp only [I, B, D, RX, ↓ KW, seval, hp]) | (((first | refine gd_split ?_ ?_ | refine cd_split ?_ ?_ | refine pk_split ?_ ?_) <;> intro h) <;> try simp only [I, B, D, RX, ↓ KW, seval, hp, h]))
    refine ⟨hu, ?_⟩
    repeat' (first | ((first | refine call_is (hF _ _ _ hn) ?_ | refine call_is (hF _ _ _ (by decide)) ?_ | refine call_is (hW t _ _ ht) ?_); try simp only [I, B, D, RX, ↓ KW, seval, hp]) | (((first | refine gd_split ?_ ?_ | refine cd_split ?_ ?_ | refine pk_split ?_ ?_) <;> intro h) <;> try simp only [I, B, D, RX, ↓ KW, seval, hp, h]))
    all_goals refine ⟨by omega, ?_⟩
    all_goals try simp only [I, B, D, RX, ↓ KW, seval, e14, hp]
    all_goals simp_all [railOf, Rl.cells, w64, IntKind.bits]
    all_goals exact ⟨fun _ => by omega, fun _ => by omega⟩
end
end Go.Eng
namespace Go.Eng
set_option linter.unusedVariables false
set_option linter.unusedSimpArgs false
set_option linter.unnecessarySimpa false
open Go
set_option linter.unusedVariables false
set_option linter.unusedSimpArgs false
set_option maxRecDepth 10000
set_option maxHeartbeats 4000000
def limN (groups g : Nat) : Nat := 8 - (groups - 1 - g)
def rowN (p m : Nat) : List Int := (List.range m).map fun (j : Nat) => ((p + j : Nat) : Int)
def cnt (l : Option (List Int)) (g k : Nat) (r0 : Nat) : Nat :=
  let n := (frm l (1 + 2 * g + k) 3).toNat
  if k = 1 ∧ n = 0 ∧ r0 = 0 then 1 else n
def fillN (n p lim : Nat) : Nat := min n (lim - p)
def rowsTo (l : Option (List Int)) (groups : Nat) : Nat → List Gr × Nat
  | 0 => ([], 0)
  | g + 1 =>
    let q := rowsTo l groups g
    let m0 := fillN (cnt l g 0 0) q.2 (limN groups g)
    let m1 := fillN (cnt l g 1 m0) (q.2 + m0) (limN groups g)
    (q.1 ++ [⟨mkO (rowN q.2 m0), mkO (rowN (q.2 + m0) m1)⟩], q.2 + m0 + m1)
def groupsN (l : Option (List Int)) : Nat := (1 + frm l 0 3).toNat
def rows.Spec (C : Con) (f : Nat) : Prop := ∀ (t : Tb) (l : Option (List Int)), t.Ok → t.groups = none → C.p f [t.cells] [none, some (slAV intRow l)] (I ((rowsTo l (groupsN l) (groupsN l)).2 : Nat)) none [({ t with groups := some (rowsTo l (groupsN l) (groupsN l)).1 } : Tb).cells]
theorem Tb.len' {t : Tb} (h1 : t.phases.length = 8) (h2 : t.conflict.length = 8) (h3 : t.flash.length = 8) : t.cells.length = 131 := by
  simp [Tb.cells, flatMap_len Ph.len, h1, h2, h3]
theorem Tb.groups_at' {t : Tb} (h : t.phases.length = 8) : t.cells[104]? = some (slAV Gr.cells t.groups) := by
  simp [Tb.cells, List.getElem?_append, flatMap_len Ph.len, h]
theorem Tb.set_groups {t : Tb} (h : t.phases.length = 8) (g : Option (List Gr)) : t.cells.take 104 ++ (slAV Gr.cells g :: t.cells.drop 105) = ({ t with groups := g } : Tb).cells := by
  have e : (t.phases.flatMap Ph.cells).length = 104 := by rw [flatMap_len Ph.len, h]
  simp only [Tb.cells]
  rw [List.take_append_of_le_length (by omega), List.take_of_length_le (by omega), List.drop_append, List.drop_of_length_le (by omega), e]
  rfl
theorem aops_ex {C : Con} {base : Nat} : ∀ {l : List CO} {i : Nat} {s : S} {K : S → Prop}, aops C base i l K s → ∃ s', K s' ∧ ∀ K' : S → Prop, K' s' → aops C base i l K' s
  | [], i, s, K, h => ⟨s, h, fun _ h => h⟩
  | o :: l, i, s, K, h => by
    rw [aops_cons] at h
    obtain ⟨v, d, hd, hk', _⟩ := astep_path h
    obtain ⟨s', h1, h2⟩ := aops_ex hk'
    refine ⟨s', h1, fun K' hK => ?_⟩
    rw [aops_cons]
    exact hd.2 s .refl _ (h2 K' hK)
theorem aw_ex {C : Con} : ∀ {c : CCode} {Q : Exit → S → Prop} {s : S}, aw C c Q s → ∃ e s', Q e s' ∧ ∀ Q' : Exit → S → Prop, Q' e s' → aw C c Q' s := by
  intro c
  induction c with
  | skip => intro Q s h; exact ⟨_, _, h, fun _ h => h⟩
  | reg ops =>
    intro Q s h
    obtain ⟨s', h1, h2⟩ := aops_ex h
    exact ⟨_, _, h1, fun Q' hq => h2 _ hq⟩
  | seq a b iha ihb =>
    intro Q s h
    obtain ⟨e, s', h1, h2⟩ := iha h
    cases e with
    | normal =>
      obtain ⟨e, s'', h3, h4⟩ := ihb h1
      exact ⟨e, s'', h3, fun Q' hq => h2 _ (h4 _ hq)⟩
    | exit i => exact ⟨_, _, h1, fun Q' hq => h2 _ hq⟩
    | ret => exact ⟨_, _, h1, fun Q' hq => h2 _ hq⟩
    | _ => exact ⟨_, _, h1, fun Q' hq => h2 _ hq⟩
  | join a b iha ihb =>
    intro Q s h
    obtain ⟨e, s', h1, h2⟩ := iha h
    cases e with
    | normal =>
      obtain ⟨s1, ⟨hl, hF⟩ | hF⟩ := h1
      · obtain ⟨e, s'', h3, h4⟩ := ihb hF
        exact ⟨e, s'', h3, fun Q' hq => h2 _ ⟨s1, .inl ⟨hl, h4 _ hq⟩⟩⟩
      · obtain ⟨e, s'', h3, h4⟩ := ihb hF
        exact ⟨e, s'', h3, fun Q' hq => h2 _ ⟨s1, .inr (h4 _ hq)⟩⟩
    | exit i => exact ⟨_, _, h1, fun Q' hq => h2 _ hq⟩
    | ret => exact ⟨_, _, h1, fun Q' hq => h2 _ hq⟩
    | _ => exact ⟨_, _, h1, fun Q' hq => h2 _ hq⟩
  | cond c a b iha ihb =>
    intro Q s h
    simp only [aw] at h ⊢
    obtain ⟨v, hv, hw⟩ := withV_inv h
    cases v <;> try (exact hw.elim)
    rename_i t
    cases t with
    | true =>
      obtain ⟨e, s', h1, h2⟩ := iha (hw.1 rfl)
      exact ⟨e, s', h1, fun Q' hq => by rw [hv]; exact ⟨fun _ => h2 _ hq, fun h => by cases h⟩⟩
    | false =>
      obtain ⟨e, s', h1, h2⟩ := ihb (hw.2 rfl)
      exact ⟨e, s', h1, fun Q' hq => by rw [hv]; exact ⟨fun h => (by cases h), fun _ => h2 _ hq⟩⟩
  | label l => intro Q s h; exact ⟨_, _, h, fun _ h => h⟩
  | goto l => intro Q s h; exact ⟨_, _, h, fun _ h => h⟩
  | scope l c r ihc ihr =>
    intro Q s h
    obtain ⟨e, s', h1, h2⟩ := ihc h
    cases e with
    | goto l' =>
      obtain ⟨hl, h1⟩ := h1
      obtain ⟨e, s'', h3, h4⟩ := ihr h1
      cases e with
      | goto l2 => exact h3.elim
      | _ => exact ⟨_, s'', h3, fun Q' hq => h2 (scopeQ l (aw C r (noGo Q')) Q') ⟨hl, h4 (noGo Q') hq⟩⟩
    | _ => exact ⟨_, _, h1, fun Q' hq => h2 (scopeQ l (aw C r (noGo Q')) Q') hq⟩
  | block id c ih =>
    intro Q s h
    obtain ⟨e, s', h1, h2⟩ := ih h
    cases e with
    | exit i =>
      simp only [ablock] at h1
      by_cases hi : i = id
      · rw [if_pos hi] at h1
        exact ⟨_, _, h1, fun Q' hq => h2 _ (by simp only [ablock, if_pos hi]; exact hq)⟩
      · rw [if_neg hi] at h1
        exact ⟨_, _, h1, fun Q' hq => h2 _ (by simp only [ablock, if_neg hi]; exact hq)⟩
    | _ => exact ⟨_, _, h1, fun Q' hq => h2 _ hq⟩
  | loop c ih =>
    have key : ∀ (n : Nat) {Q : Exit → S → Prop} {s : S}, ARounds (aw C c) Q n s → ∃ e s', Q e s' ∧ ∀ Q' : Exit → S → Prop, Q' e s' → ARounds (aw C c) Q' n s := by
      intro n
      induction n with
      | zero => intro Q s h; exact h.elim
      | succ n ihn =>
        intro Q s h
        obtain ⟨e, s', h1, h2⟩ := ih h
        cases e with
        | normal =>
          obtain ⟨s1, ⟨hl, hF⟩ | hF⟩ := h1
          · obtain ⟨e, s'', h3, h4⟩ := ihn hF
            exact ⟨e, s'', h3, fun Q' hq => h2 _ ⟨s1, .inl ⟨hl, h4 _ hq⟩⟩⟩
          · obtain ⟨e, s'', h3, h4⟩ := ihn hF
            exact ⟨e, s'', h3, fun Q' hq => h2 _ ⟨s1, .inr (h4 _ hq)⟩⟩
        | exit i => exact ⟨_, _, h1, fun Q' hq => h2 _ hq⟩
        | ret => exact ⟨_, _, h1, fun Q' hq => h2 _ hq⟩
        | _ => exact ⟨_, _, h1, fun Q' hq => h2 _ hq⟩
    intro Q s h
    obtain ⟨s1, ⟨hl, n, hF⟩ | ⟨n, hF⟩⟩ := h
    · obtain ⟨e, s'', h3, h4⟩ := key n hF
      exact ⟨e, s'', h3, fun Q' hq => ⟨s1, .inl ⟨hl, n, h4 _ hq⟩⟩⟩
    · obtain ⟨e, s'', h3, h4⟩ := key n hF
      exact ⟨e, s'', h3, fun Q' hq => ⟨s1, .inr ⟨n, h4 _ hq⟩⟩⟩
  | exit id => intro Q s h; exact ⟨_, _, h, fun _ h => h⟩
  | ret => intro Q s h; exact ⟨_, _, h, fun _ h => h⟩
  | regD ops bad =>
    intro Q s h
    obtain ⟨ids, hids, h⟩ := h
    obtain ⟨css, hcss, ro, hd, h⟩ := withV_inv h
    obtain ⟨s', h1, h2⟩ := aops_ex h
    exact ⟨_, _, h1, fun Q' hq => ⟨ids, hids, by rw [hcss]; exact ⟨ro, hd, h2 _ hq⟩⟩⟩
  | rfor g ps wr as bd iha ihb =>
    intro Q s h
    simp only [aw] at h
    obtain ⟨gv, hgv, xs, h1, h2, F, h3, h4, h5, h6⟩ := withV_inv h
    have mono : ∀ {F F' : S → Prop} {Q : Exit → S → Prop} {t : S}, (∀ s, F s → F' s) → aw C as (onlyN (aw C bd (rfQ wr F Q))) t → aw C as (onlyN (aw C bd (rfQ wr F' Q))) t := by
      intro F F' Q t hF h
      refine aw_mono (fun e s ha => ?_) h
      cases e <;> first | exact ha.elim | skip
      refine aw_mono (fun e s hb => ?_) ha
      cases e <;> first | exact down_mono hF hb | exact hb
    have key : ∀ n i s', xs.length - i = n → i ≤ xs.length → F i s' → ∃ e s'', Q e s'' ∧ ∀ Q' : Exit → S → Prop, Q' e s'' → ∃ F' : Nat → S → Prop, F' i s' ∧ (∀ j t, F' j t → i ≤ j ∧ opdA t g = some gv) ∧
        (∀ j x t, xs[j]? = some x → F' j t → aw C as (onlyN (aw C bd (rfQ wr (F' (j + 1)) Q'))) (putPs ps x t)) ∧ ∀ t, F' xs.length t → Q' .normal t := by
      intro n
      induction n with
      | zero =>
        intro i s' hn hi hF
        have hi : i = xs.length := by omega
        subst hi
        exact ⟨.normal, s', h6 s' hF, fun Q' hq => ⟨fun j t => j = xs.length ∧ t = s', ⟨rfl, rfl⟩, fun j t ⟨e, e'⟩ => by subst e; subst e'; exact ⟨Nat.le_refl _, h4 _ _ hF⟩,
          fun j x t hx ⟨e, _⟩ => by subst e; simp at hx, fun t ⟨_, e⟩ => by subst e; exact hq⟩⟩
      | succ n ih =>
        intro i s' hn hi hF
        have hlt : i < xs.length := by omega
        have hx : xs[i]? = some xs[i] := by simp [hlt]
        obtain ⟨e1, s1, k1, k2⟩ := iha (h5 i _ s' hx hF)
        cases e1 <;> try exact k1.elim
        obtain ⟨e2, s2, k3, k4⟩ := ihb k1
        have stop : ∀ (e : Exit) (s'' : S), Q e s'' → (∀ (F' : S → Prop) (Q' : Exit → S → Prop), Q' e s'' → rfQ wr F' Q' e2 s2) → ∃ e s'', Q e s'' ∧ ∀ Q' : Exit → S → Prop, Q' e s'' → ∃ F' : Nat → S → Prop, F' i s' ∧ (∀ j t, F' j t → i ≤ j ∧ opdA t g = some gv) ∧
            (∀ j x t, xs[j]? = some x → F' j t → aw C as (onlyN (aw C bd (rfQ wr (F' (j + 1)) Q'))) (putPs ps x t)) ∧ ∀ t, F' xs.length t → Q' .normal t := by
          intro e s'' hq hr
          refine ⟨e, s'', hq, fun Q' hq' => ⟨fun j t => j = i ∧ t = s', ⟨rfl, rfl⟩, fun j t ⟨e, e'⟩ => by subst e; subst e'; exact ⟨Nat.le_refl _, h4 _ _ hF⟩, fun j x t hx' ⟨e, e'⟩ => ?_, fun t ⟨e, _⟩ => by omega⟩⟩
          subst e; subst e'
          rw [hx] at hx'; cases hx'
          exact k2 _ (k4 _ (hr _ _ hq'))
        cases e2 with
        | normal =>
          obtain ⟨s3, hs3⟩ : ∃ s3, F (i + 1) s3 ∧ (Le (cutS wr s2) s3 ∨ s3 = cutS wr s2) := by
            obtain ⟨s3, ⟨hl, hf⟩ | hf⟩ := (show Eng.down (F (i + 1)) (cutS wr s2) from k3)
            · exact ⟨s3, hf, .inl hl⟩
            · exact ⟨_, hf, .inr rfl⟩
          obtain ⟨e, s'', hq, hre⟩ := ih (i + 1) s3 (by omega) (by omega) hs3.1
          refine ⟨e, s'', hq, fun Q' hq' => ?_⟩
          obtain ⟨F'', g1, g2, g3, g4⟩ := hre Q' hq'
          refine ⟨fun j t => (j = i ∧ t = s') ∨ F'' j t, .inl ⟨rfl, rfl⟩, fun j t ht => ?_, fun j x t hx' ht => ?_, fun t ht => ?_⟩
          · rcases ht with ⟨rfl, rfl⟩ | ht
            · exact ⟨Nat.le_refl _, h4 _ _ hF⟩
            · exact ⟨by have := (g2 j t ht).1; omega, (g2 j t ht).2⟩
          · rcases ht with ⟨rfl, rfl⟩ | ht
            · rw [hx] at hx'; cases hx'
              refine k2 _ (k4 _ (show Eng.down _ _ from ?_))
              rcases hs3.2 with hl | hl
              · exact ⟨s3, .inl ⟨hl, .inr g1⟩⟩
              · rw [← hl]; exact down_refl (.inr g1)
            · exact mono (fun _ h => .inr h) (g3 j x t hx' ht)
          · rcases ht with ⟨e, _⟩ | ht
            · omega
            · exact g4 t ht
        | ret => exact stop .ret _ k3 fun _ _ h => h
        | exit id => exact stop (.exit id) _ k3 fun _ _ h => h
        | _ => exact k3.elim
    obtain ⟨s0, h0⟩ : ∃ s0, F 0 s0 ∧ (Le s s0 ∨ s0 = s) := by
      obtain ⟨s0, ⟨hl, hf⟩ | hf⟩ := h3
      · exact ⟨s0, hf, .inl hl⟩
      · exact ⟨_, hf, .inr rfl⟩
    obtain ⟨e, s'', hq, hre⟩ := key _ 0 s0 rfl (Nat.zero_le _) h0.1
    refine ⟨e, s'', hq, fun Q' hq' => ?_⟩
    obtain ⟨F', g1, g2, g3, g4⟩ := hre Q' hq'
    simp only [aw, hgv]
    refine ⟨xs, h1, h2, F', ?_, fun j t ht => (g2 j t ht).2, g3, g4⟩
    rcases h0.2 with hl | hl
    · exact ⟨s0, .inl ⟨hl, g1⟩⟩
    · rw [← hl]; exact down_refl g1
theorem aw_unroll {C : Con} {c : CCode} {Q : Exit → S → Prop} {s : S} (h : aw C c (athen (aw C (.loop c) Q) Q) s) : aw C (.loop c) Q s := by
  obtain ⟨e, s', h1, h2⟩ := aw_ex h
  cases e with
  | normal =>
    obtain ⟨s1, ⟨hl, n, hF⟩ | ⟨n, hF⟩⟩ := h1
    · exact down_refl ⟨n + 1, h2 _ ⟨s1, .inl ⟨hl, hF⟩⟩⟩
    · exact down_refl ⟨n + 1, h2 _ ⟨s1, .inr hF⟩⟩
  | exit i => exact down_refl ⟨1, h2 _ h1⟩
  | ret => exact down_refl ⟨1, h2 _ h1⟩
  | _ => exact down_refl ⟨1, h2 _ h1⟩
theorem rowN_succ (p i : Nat) : rowN p (i + 1) = rowN p i ++ [((p + i : Nat) : Int)] := by simp [rowN, List.range_succ]
theorem rowsTo_le (l : Option (List Int)) (G : Nat) : ∀ g, (rowsTo l G g).2 ≤ 8
  | 0 => by simp [rowsTo]
  | g + 1 => by
    have := rowsTo_le l G g
    simp only [rowsTo, fillN, limN]
    omega
theorem rowsTo_len (l : Option (List Int)) (G : Nat) : ∀ g, (rowsTo l G g).1.length = g
  | 0 => by simp [rowsTo]
  | g + 1 => by
    have := rowsTo_len l G g
    simp only [rowsTo, List.length_append, List.length_cons, List.length_nil]
    omega
def Cut {α : Type} (ex : Exit) (st : α → S) (J : α → Prop) (e : Exit) (s : S) : Prop := e = ex ∧ ∃ y, J y ∧ Le s (st y)
theorem cut_at {α : Type} {ex : Exit} {st : α → S} {J : α → Prop} {s : S} (y : α) (hy : J y) (hle : Le s (st y)) : Cut ex st J ex s := ⟨rfl, y, hy, hle⟩
theorem aw_cut {C : Con} {c : CCode} {Q : Exit → S → Prop} {s : S} {F : S → Prop} {α : Type} (ex : Exit) (st : α → S) (J : α → Prop) (hQ : ∀ s', Q ex s' = down F s') (h1 : aw C c (Cut ex st J) s) (h2 : ∀ y, J y → F (st y)) : aw C c Q s := by
  refine aw_mono ?_ h1
  rintro e s' ⟨rfl, y, hy, hle⟩
  rw [hQ]
  exact ⟨st y, .inl ⟨hle, h2 y hy⟩⟩
theorem wrap_01 : IntKind.i64.wrap (0 + 1) = 1 := by decide
theorem wrap_11 : IntKind.i64.wrap (1 + 1) = 2 := by decide
theorem slAV_none {α : Type} (f : α → List AV) : slAV f none = .nils := rfl
theorem slAV_some {α : Type} (f : α → List AV) (l : List α) : slAV f (some l) = .sl (l.map f) := rfl
section
variable {P : Program} (hm : P.follows .mixedOrders = true) {f : Nat}
include hm
theorem rows.ok {fF e eR : Nat} (hc : cFn P f = some (cc_law00_rows fF e eR)) (hF : from.Spec (Pure P) fF) : rows.Spec (Pure P) f := by
  intro t l ht hg0
  have hl := Tb.len ht
  have hp := Tb.whole ht
  refine pureB_of hm hc (by show 2 ≤ 78; decide) rfl (by simp) (aw_flat (keep := [3,5]) (i := 0) ?_)
  try simp only [I, B, D, RX, ↓ KW, Nat.reduceBEq, Nat.reduceAdd, Nat.reduceLeDiff, Int.reduceNe, Int.reduceBEq, Int.reduceEq, reduceCtorEq, Nat.reduceMul, Int.reduceLT, Int.reduceLE, Int.reduceToNat, cc_law00_rows, Z.H]
  have hgr := frm_range l 0 (n := 3) (by decide) (by decide)
  refine call_is (hF _ _ _ (by decide)) ?_
  try simp only [I, B, D, RX, ↓ KW, Nat.reduceBEq, Nat.reduceAdd, Nat.reduceLeDiff, Int.reduceNe, Int.reduceBEq, Int.reduceEq, reduceCtorEq, Nat.reduceMul, Int.reduceLT, Int.reduceLE, Int.reduceToNat]
  have hgn : IntKind.i64.wrap (1 + frm l 0 3) = (groupsN l : Nat) := by
    rw [wrap_id (by omega) (by omega), groupsN]; omega
  have hg3 : 1 ≤ groupsN l ∧ groupsN l ≤ 3 := by unfold groupsN; omega
  rw [hgn]
  generalize groupsN l = G at *
  refine aw_loop' (fun g : Nat => (⟨[(7, .dat (I g) none), (5, .dat (I G) none), (1, .dat (slAV intRow l) none), (6, .dat (I (rowsTo l G g).2) none), (0, .ptr 0 0)], [(0, ⟨({ t with groups := mkO (rowsTo l G g).1 } : Tb).cells, if (rowsTo l G g).1 = [] then [] else [(104, 0)]⟩)], ownL (rowsTo l G g).1 0 eR, 400⟩ : S)) (fun g => G - g) (fun g => g ≤ G) ?_ 0 (by omega) ?_
  · intro g hg A back
    have hw := wrap_succ (k := g) (by omega)
    have hn2 : rowsTo l G (g + 1) = ((rowsTo l G g).1 ++ [⟨mkO (rowN (rowsTo l G g).2 (fillN (cnt l g 0 0) (rowsTo l G g).2 (limN G g))), mkO (rowN ((rowsTo l G g).2 + fillN (cnt l g 0 0) (rowsTo l G g).2 (limN G g)) (fillN (cnt l g 1 (fillN (cnt l g 0 0) (rowsTo l G g).2 (limN G g))) ((rowsTo l G g).2 + fillN (cnt l g 0 0) (rowsTo l G g).2 (limN G g)) (limN G g)))⟩], (rowsTo l G g).2 + fillN (cnt l g 0 0) (rowsTo l G g).2 (limN G g) + fillN (cnt l g 1 (fillN (cnt l g 0 0) (rowsTo l G g).2 (limN G g))) ((rowsTo l G g).2 + fillN (cnt l g 0 0) (rowsTo l G g).2 (limN G g)) (limN G g)) := rfl
    have hp8 : (rowsTo l G g).2 ≤ 8 := rowsTo_le l G g
    have hgl : (rowsTo l G g).1.length = g := rowsTo_len l G g
    generalize hR : rowsTo l G g = R at *
    obtain ⟨gs, p⟩ := R
    simp only at hn2 hp8 hgl
    have hc0 : frm l (1 + 2 * (g : Int) + 0) 3 = (cnt l g 0 0 : Nat) := by
      have := frm_range l (1 + 2 * (g : Int) + 0) (n := 3) (by decide) (by decide)
      have hc : cnt l g 0 0 = (frm l (1 + 2 * (g : Int) + 0) 3).toNat := by simp [cnt]
      rw [hc]; omega
    have hw1 : IntKind.i64.wrap (IntKind.i64.wrap (1 + IntKind.i64.wrap (2 * (g : Int))) + 0) = 1 + 2 * (g : Int) + 0 := by
      rw [wrap_id (n := 2 * (g : Int)) (by omega) (by omega), wrap_id (n := 1 + 2 * (g : Int)) (by omega) (by omega), wrap_id (by omega) (by omega)]
    have hw2 : IntKind.i64.wrap (IntKind.i64.wrap (1 + IntKind.i64.wrap (2 * (g : Int))) + 1) = 1 + 2 * (g : Int) + 1 := by
      rw [wrap_id (n := 2 * (g : Int)) (by omega) (by omega), wrap_id (n := 1 + 2 * (g : Int)) (by omega) (by omega), wrap_id (by omega) (by omega)]
    have hlim : IntKind.i64.wrap (8 - IntKind.i64.wrap (IntKind.i64.wrap ((G : Int) - 1) - (g : Int))) = if g < G then ((limN G g : Nat) : Int) else (8 - ((G : Int) - 1 - g) : Int) := by
      rw [wrap_id (n := (G : Int) - 1) (by omega) (by omega), wrap_id (n := (G : Int) - 1 - g) (by omega) (by omega), wrap_id (by omega) (by omega)]
      split <;> simp [limN] <;> omega
    by_cases hgs : gs = []
    all_goals
      try simp only [I, B, D, RX, ↓ KW, Nat.reduceBEq, Nat.reduceAdd, Nat.reduceLeDiff, Int.reduceNe, Int.reduceBEq, Int.reduceEq, reduceCtorEq, Nat.reduceMul, Int.reduceLT, Int.reduceLE, Int.reduceToNat, hgs, ownL, mkO]
      refine cd_split (fun h => ?_) (fun h => ?_) <;> try simp only [I, B, D, RX, ↓ KW, Nat.reduceBEq, Nat.reduceAdd, Nat.reduceLeDiff, Int.reduceNe, Int.reduceBEq, Int.reduceEq, reduceCtorEq, Nat.reduceMul, Int.reduceLT, Int.reduceLE, Int.reduceToNat, hgs, ownL, mkO, h]
      · have hlt : g < G := by have := of_decide_eq_true h; omega
        rw [if_pos hlt] at hlim
        generalize hc0' : cnt l g 0 0 = n0 at *
        refine aw_cut (.exit 2) (fun _ : Unit => (⟨[(6, .dat (I (p + fillN n0 p (limN G g) + fillN (cnt l g 1 (fillN n0 p (limN G g))) (p + fillN n0 p (limN G g)) (limN G g) : Nat)) none), (5, .dat (I G) none), (7, .dat (I g) none), (8, .ptr 403 0), (1, .dat (slAV intRow l) none), (0, .ptr 0 0)], [(403, ⟨[slAV intRow (mkO (rowN p (fillN n0 p (limN G g)))), slAV intRow (mkO (rowN (p + fillN n0 p (limN G g)) (fillN (cnt l g 1 (fillN n0 p (limN G g))) (p + fillN n0 p (limN G g)) (limN G g))))], []⟩), (0, ⟨({ t with groups := mkO gs } : Tb).cells, if gs = [] then [] else [(104, 0)]⟩)], ownL gs 0 eR, 1000⟩ : S)) (fun _ => True) (fun _ => rfl) ?_ ?_
        · refine aw_unroll ?_
          try simp only [I, B, D, RX, ↓ KW, Nat.reduceBEq, Nat.reduceAdd, Nat.reduceLeDiff, Int.reduceNe, Int.reduceBEq, Int.reduceEq, reduceCtorEq, Nat.reduceMul, Int.reduceLT, Int.reduceLE, Int.reduceToNat, hgs]
          refine call_is (hF _ _ _ (by decide)) ?_
          try simp only [I, B, D, RX, ↓ KW, Nat.reduceBEq, Nat.reduceAdd, Nat.reduceLeDiff, Int.reduceNe, Int.reduceBEq, Int.reduceEq, reduceCtorEq, Nat.reduceMul, Int.reduceLT, Int.reduceLE, Int.reduceToNat, hw1, hc0, hgs]
          refine aw_cut (.exit 4) (fun _ : Unit => (⟨[(9, .dat (I 0) none), (6, .dat (I (p + fillN n0 (p) (limN G g) : Nat)) none), (5, .dat (I G) none), (7, .dat (I g) none), (8, .ptr 403 0), (1, .dat (slAV intRow l) none), (0, .ptr 0 0)], [(403, ⟨[slAV intRow (mkO (rowN (p) (fillN n0 (p) (limN G g)))), .nils], []⟩), (0, ⟨({ t with groups := mkO gs } : Tb).cells, if gs = [] then [] else [(104, 0)]⟩)], ownL gs 0 eR, 1000⟩ : S)) (fun _ => True) (fun _ => rfl) ?_ ?_
          · refine aw_loop' (fun i : Nat => (⟨[(11, .dat (I i) none), (10, .dat (I n0) none), (6, .dat (I (p + i : Nat)) none), (5, .dat (I G) none), (7, .dat (I g) none), (9, .dat (I 0) none), (8, .ptr 403 0), (1, .dat (slAV intRow l) none), (0, .ptr 0 0)], [(403, ⟨[slAV intRow (mkO (rowN (p) i)), .nils], if rowN (p) i = [] then [] else [(0, 1)]⟩), (0, ⟨({ t with groups := mkO gs } : Tb).cells, if gs = [] then [] else [(104, 0)]⟩)], ownL (rowN (p) i) 1 e ++ ownL gs 0 eR, 1000⟩ : S)) (fun i => fillN n0 (p) (limN G g) - i) (fun i => i ≤ fillN n0 (p) (limN G g)) ?_ 0 (by omega) ?_
            · intro i hi A1 back1
              have hfl : fillN n0 (p) (limN G g) ≤ 8 := by simp only [fillN, limN]; omega
              have hw3 := wrap_succ (k := i) (by omega)
              have hf : fillN n0 (p) (limN G g) = min n0 (limN G g - (p)) := rfl
              have hp1 : IntKind.i64.wrap (((p + i : Nat) : Int) + 1) = ((p + (i + 1) : Nat) : Int) := by rw [wrap_id (by omega) (by omega)]; omega
              have hrl : (rowN (p) i).length = i := by simp [rowN]
              by_cases hl : rowN (p) i = []
              · try simp only [I, B, D, RX, ↓ KW, Nat.reduceBEq, Nat.reduceAdd, Nat.reduceLeDiff, Int.reduceNe, Int.reduceBEq, Int.reduceEq, reduceCtorEq, Nat.reduceMul, Int.reduceLT, Int.reduceLE, Int.reduceToNat, hl, ownL, mkO, hlim, hgs]
                repeat' (((first | refine gd_split ?_ ?_ | refine cd_split ?_ ?_ | refine pk_split ?_ ?_) <;> intro h) <;> try simp only [I, B, D, RX, ↓ KW, Nat.reduceBEq, Nat.reduceAdd, Nat.reduceLeDiff, Int.reduceNe, Int.reduceBEq, Int.reduceEq, reduceCtorEq, Nat.reduceMul, Int.reduceLT, Int.reduceLE, Int.reduceToNat, slAV_none, slAV_some, hlim, hl, hgs, hp1, h])
                · have h1 := of_decide_eq_true h
                  refine ⟨by decide, ?_⟩
                  refine ⟨by decide, ?_⟩
                  have h2 : (i : Int) < n0 := by rename_i h2; exact of_decide_eq_true h2
                  refine back1 (i + 1) _ (by omega) (by omega) (le_tok2 (by decide) ?_ ?_ ?_ ?_) <;> simp [LX, I, B, D, hw3, rowN_succ, hl, mkO, slAV_none, slAV_some, hgs]
                · have h1 := of_decide_eq_false h
                  have : i = fillN n0 (p) (limN G g) := by omega
                  rw [← this]
                  refine cut_at () trivial ?_
                  refine le_tok2 (by decide) ?_ ?_ ?_ ?_ <;> simp [LX, I, B, D, hl, mkO, slAV_none, slAV_some, hgs]
                · have h1 := of_decide_eq_false h
                  have : i = fillN n0 (p) (limN G g) := by omega
                  rw [← this]
                  refine cut_at () trivial ?_
                  refine le_tok2 (by decide) ?_ ?_ ?_ ?_ <;> simp [LX, I, B, D, hl, mkO, slAV_none, slAV_some, hgs]
              · try simp only [I, B, D, RX, ↓ KW, Nat.reduceBEq, Nat.reduceAdd, Nat.reduceLeDiff, Int.reduceNe, Int.reduceBEq, Int.reduceEq, reduceCtorEq, Nat.reduceMul, Int.reduceLT, Int.reduceLE, Int.reduceToNat, hl, ownL, mkO, hlim, hgs]
                repeat' (((first | refine gd_split ?_ ?_ | refine cd_split ?_ ?_ | refine pk_split ?_ ?_) <;> intro h) <;> try simp only [I, B, D, RX, ↓ KW, Nat.reduceBEq, Nat.reduceAdd, Nat.reduceLeDiff, Int.reduceNe, Int.reduceBEq, Int.reduceEq, reduceCtorEq, Nat.reduceMul, Int.reduceLT, Int.reduceLE, Int.reduceToNat, slAV_none, slAV_some, hlim, hl, hgs, hp1, h])
                · have h1 := of_decide_eq_true h
                  refine ⟨by decide, by omega, by decide, ?_⟩
                  have h2 : (i : Int) < n0 := by rename_i h2; exact of_decide_eq_true h2
                  refine back1 (i + 1) _ (by omega) (by omega) (le_tok2 (by decide) ?_ ?_ ?_ ?_) <;> simp [LX, I, B, D, hw3, rowN_succ, hl, mkO, slAV_none, slAV_some, hgs]
                · have h1 := of_decide_eq_false h
                  have : i = fillN n0 (p) (limN G g) := by omega
                  rw [← this]
                  refine cut_at () trivial ?_
                  refine le_tok2 (by decide) ?_ ?_ ?_ ?_ <;> simp [LX, I, B, D, hl, mkO, slAV_none, slAV_some, hgs]
                · have h1 := of_decide_eq_false h
                  have : i = fillN n0 (p) (limN G g) := by omega
                  rw [← this]
                  refine cut_at () trivial ?_
                  refine le_tok2 (by decide) ?_ ?_ ?_ ?_ <;> simp [LX, I, B, D, hl, mkO, slAV_none, slAV_some, hgs]
            · refine le_tok2 (by decide) ?_ ?_ ?_ ?_ <;> simp [LX, I, B, D, rowN, mkO, slAV_none, slAV_some, hgs]
          · intro _ _
            generalize hm0 : fillN n0 p (limN G g) = m0 at *
            have hrow0 : (mkO (rowN p m0)).getD [] = rowN p m0 := mkO_getD _
            have hrl0 : (rowN p m0).length = m0 := by simp [rowN]
            have hm8 : m0 ≤ 8 := by rw [← hm0]; simp only [fillN, limN]; omega
            try simp only [I, B, D, RX, ↓ KW, Nat.reduceBEq, Nat.reduceAdd, Nat.reduceLeDiff, Int.reduceNe, Int.reduceBEq, Int.reduceEq, reduceCtorEq, Nat.reduceMul, Int.reduceLT, Int.reduceLE, Int.reduceToNat, hgs]
            refine aw_unroll ?_
            try simp only [I, B, D, RX, ↓ KW, Nat.reduceBEq, Nat.reduceAdd, Nat.reduceLeDiff, Int.reduceNe, Int.reduceBEq, Int.reduceEq, reduceCtorEq, Nat.reduceMul, Int.reduceLT, Int.reduceLE, Int.reduceToNat, hgs, wrap_01]
            refine call_is (hF _ _ _ (by decide)) ?_
            try simp only [I, B, D, RX, ↓ KW, Nat.reduceBEq, Nat.reduceAdd, Nat.reduceLeDiff, Int.reduceNe, Int.reduceBEq, Int.reduceEq, reduceCtorEq, Nat.reduceMul, Int.reduceLT, Int.reduceLE, Int.reduceToNat, hw2, hgs]
            have hr2 := frm_range l (1 + 2 * (g : Int) + 1) (n := 3) (by decide) (by decide)
            have hcn0 : cnt l g 1 m0 = if (frm l (1 + 2 * (g : Int) + 1) 3).toNat = 0 ∧ m0 = 0 then 1 else (frm l (1 + 2 * (g : Int) + 1) 3).toNat := by simp [cnt]
            generalize frm l (1 + 2 * (g : Int) + 1) 3 = fr1 at *
            generalize hn1 : cnt l g 1 m0 = n1 at *
            repeat' (((first | refine gd_split ?_ ?_ | refine cd_split ?_ ?_ | refine pk_split ?_ ?_) <;> intro h) <;> try simp only [I, B, D, RX, ↓ KW, Nat.reduceBEq, Nat.reduceAdd, Nat.reduceLeDiff, Int.reduceNe, Int.reduceBEq, Int.reduceEq, reduceCtorEq, Nat.reduceMul, Int.reduceLT, Int.reduceLE, Int.reduceToNat, hrow0, hrl0, hgs, h])
            · have hfr : fr1 = 0 := by simpa using h
              refine ⟨by decide, ?_⟩
              refine cd_split (fun hz => ?_) (fun hz => ?_) <;> try simp only [I, B, D, RX, ↓ KW, Nat.reduceBEq, Nat.reduceAdd, Nat.reduceLeDiff, Int.reduceNe, Int.reduceBEq, Int.reduceEq, reduceCtorEq, Nat.reduceMul, Int.reduceLT, Int.reduceLE, Int.reduceToNat, hgs, hz]
              · have hz : m0 = 0 := by simpa using hz
                have hcn : (n1 : Int) = 1 := by rw [hcn0, if_pos ⟨by omega, hz⟩]; rfl
                refine aw_cut (.exit 4) (fun _ : Unit => (⟨[(9, .dat (I 1) none), (6, .dat (I (p + m0 + fillN n1 (p + m0) (limN G g) : Nat)) none), (5, .dat (I G) none), (7, .dat (I g) none), (8, .ptr 403 0), (1, .dat (slAV intRow l) none), (0, .ptr 0 0)], [(403, ⟨[slAV intRow (mkO (rowN p m0)), slAV intRow (mkO (rowN (p + m0) (fillN n1 (p + m0) (limN G g))))], []⟩), (0, ⟨({ t with groups := mkO gs } : Tb).cells, if gs = [] then [] else [(104, 0)]⟩)], ownL gs 0 eR, 1000⟩ : S)) (fun _ => True) (fun _ => rfl) ?_ ?_
                · refine aw_loop' (fun i : Nat => (⟨[(11, .dat (I i) none), (10, .dat (I n1) none), (6, .dat (I (p + m0 + i : Nat)) none), (5, .dat (I G) none), (7, .dat (I g) none), (9, .dat (I 1) none), (8, .ptr 403 0), (1, .dat (slAV intRow l) none), (0, .ptr 0 0)], [(403, ⟨[slAV intRow (mkO (rowN p m0)), slAV intRow (mkO (rowN (p + m0) i))], if rowN (p + m0) i = [] then [] else [(1, 1)]⟩), (0, ⟨({ t with groups := mkO gs } : Tb).cells, if gs = [] then [] else [(104, 0)]⟩)], ownL (rowN (p + m0) i) 1 e ++ ownL gs 0 eR, 1000⟩ : S)) (fun i => fillN n1 (p + m0) (limN G g) - i) (fun i => i ≤ fillN n1 (p + m0) (limN G g)) ?_ 0 (by omega) ?_
                  · intro i hi A1 back1
                    have hfl : fillN n1 (p + m0) (limN G g) ≤ 8 := by simp only [fillN, limN]; omega
                    have hw3 := wrap_succ (k := i) (by omega)
                    have hf : fillN n1 (p + m0) (limN G g) = min n1 (limN G g - (p + m0)) := rfl
                    have hp1 : IntKind.i64.wrap (((p + m0 + i : Nat) : Int) + 1) = ((p + m0 + (i + 1) : Nat) : Int) := by rw [wrap_id (by omega) (by omega)]; omega
                    have hrl : (rowN (p + m0) i).length = i := by simp [rowN]
                    by_cases hl : rowN (p + m0) i = []
                    · try simp only [I, B, D, RX, ↓ KW, Nat.reduceBEq, Nat.reduceAdd, Nat.reduceLeDiff, Int.reduceNe, Int.reduceBEq, Int.reduceEq, reduceCtorEq, Nat.reduceMul, Int.reduceLT, Int.reduceLE, Int.reduceToNat, hl, ownL, mkO, hlim, hgs, hrow0]
                      repeat' (((first | refine gd_split ?_ ?_ | refine cd_split ?_ ?_ | refine pk_split ?_ ?_) <;> intro h) <;> try simp only [I, B, D, RX, ↓ KW, Nat.reduceBEq, Nat.reduceAdd, Nat.reduceLeDiff, Int.reduceNe, Int.reduceBEq, Int.reduceEq, reduceCtorEq, Nat.reduceMul, Int.reduceLT, Int.reduceLE, Int.reduceToNat, slAV_none, slAV_some, hlim, hl, hgs, hp1, hrow0, h])
                      · have h1 := of_decide_eq_true h
                        refine ⟨by decide, ?_⟩
                        refine ⟨by decide, ?_⟩
                        have h2 : (i : Int) < n1 := by rename_i h2; exact of_decide_eq_true h2
                        refine back1 (i + 1) _ (by omega) (by omega) (le_tok2 (by decide) ?_ ?_ ?_ ?_) <;> simp [LX, I, B, D, hw3, rowN_succ, hl, mkO, slAV_none, slAV_some, hgs, hrow0]
                      · have h1 := of_decide_eq_false h
                        have : i = fillN n1 (p + m0) (limN G g) := by omega
                        rw [← this]
                        refine cut_at () trivial ?_
                        refine le_tok2 (by decide) ?_ ?_ ?_ ?_ <;> simp [LX, I, B, D, hl, mkO, slAV_none, slAV_some, hgs, hrow0]
                      · have h1 := of_decide_eq_false h
                        have : i = fillN n1 (p + m0) (limN G g) := by omega
                        rw [← this]
                        refine cut_at () trivial ?_
                        refine le_tok2 (by decide) ?_ ?_ ?_ ?_ <;> simp [LX, I, B, D, hl, mkO, slAV_none, slAV_some, hgs, hrow0]
                    · try simp only [I, B, D, RX, ↓ KW, Nat.reduceBEq, Nat.reduceAdd, Nat.reduceLeDiff, Int.reduceNe, Int.reduceBEq, Int.reduceEq, reduceCtorEq, Nat.reduceMul, Int.reduceLT, Int.reduceLE, Int.reduceToNat, hl, ownL, mkO, hlim, hgs, hrow0]
                      repeat' (((first | refine gd_split ?_ ?_ | refine cd_split ?_ ?_ | refine pk_split ?_ ?_) <;> intro h) <;> try simp only [I, B, D, RX, ↓ KW, Nat.reduceBEq, Nat.reduceAdd, Nat.reduceLeDiff, Int.reduceNe, Int.reduceBEq, Int.reduceEq, reduceCtorEq, Nat.reduceMul, Int.reduceLT, Int.reduceLE, Int.reduceToNat, slAV_none, slAV_some, hlim, hl, hgs, hp1, hrow0, h])
                      · have h1 := of_decide_eq_true h
                        refine ⟨by decide, by omega, by decide, ?_⟩
                        have h2 : (i : Int) < n1 := by rename_i h2; exact of_decide_eq_true h2
                        refine back1 (i + 1) _ (by omega) (by omega) (le_tok2 (by decide) ?_ ?_ ?_ ?_) <;> simp [LX, I, B, D, hw3, rowN_succ, hl, mkO, slAV_none, slAV_some, hgs, hrow0]
                      · have h1 := of_decide_eq_false h
                        have : i = fillN n1 (p + m0) (limN G g) := by omega
                        rw [← this]
                        refine cut_at () trivial ?_
                        refine le_tok2 (by decide) ?_ ?_ ?_ ?_ <;> simp [LX, I, B, D, hl, mkO, slAV_none, slAV_some, hgs, hrow0]
                      · have h1 := of_decide_eq_false h
                        have : i = fillN n1 (p + m0) (limN G g) := by omega
                        rw [← this]
                        refine cut_at () trivial ?_
                        refine le_tok2 (by decide) ?_ ?_ ?_ ?_ <;> simp [LX, I, B, D, hl, mkO, slAV_none, slAV_some, hgs, hrow0]
                  · refine le_tok2 (by decide) ?_ ?_ ?_ ?_ <;> simp [LX, I, B, D, rowN, mkO, slAV_none, slAV_some, hgs, hrow0, hcn]
                · intro _ _
                  try simp only [I, B, D, RX, ↓ KW, Nat.reduceBEq, Nat.reduceAdd, Nat.reduceLeDiff, Int.reduceNe, Int.reduceBEq, Int.reduceEq, reduceCtorEq, Nat.reduceMul, Int.reduceLT, Int.reduceLE, Int.reduceToNat, hgs, mkO, hrow0]
                  refine aw_unroll ?_
                  try simp only [I, B, D, RX, ↓ KW, Nat.reduceBEq, Nat.reduceAdd, Nat.reduceLeDiff, Int.reduceNe, Int.reduceBEq, Int.reduceEq, reduceCtorEq, Nat.reduceMul, Int.reduceLT, Int.reduceLE, Int.reduceToNat, hgs, wrap_11]
                  refine cut_at () trivial ?_
                  refine le_tok2 (by decide) ?_ ?_ ?_ ?_ <;> simp [LX, I, B, D, hgs, mkO, slAV_none, slAV_some]
              · have hz : ¬ m0 = 0 := by simpa using hz
                have hcn : fr1 = (n1 : Int) := by rw [hcn0, if_neg (fun hh => hz hh.2)]; omega
                refine aw_cut (.exit 4) (fun _ : Unit => (⟨[(9, .dat (I 1) none), (6, .dat (I (p + m0 + fillN n1 (p + m0) (limN G g) : Nat)) none), (5, .dat (I G) none), (7, .dat (I g) none), (8, .ptr 403 0), (1, .dat (slAV intRow l) none), (0, .ptr 0 0)], [(403, ⟨[slAV intRow (mkO (rowN p m0)), slAV intRow (mkO (rowN (p + m0) (fillN n1 (p + m0) (limN G g))))], []⟩), (0, ⟨({ t with groups := mkO gs } : Tb).cells, if gs = [] then [] else [(104, 0)]⟩)], ownL gs 0 eR, 1000⟩ : S)) (fun _ => True) (fun _ => rfl) ?_ ?_
                · refine aw_loop' (fun i : Nat => (⟨[(11, .dat (I i) none), (10, .dat (I n1) none), (6, .dat (I (p + m0 + i : Nat)) none), (5, .dat (I G) none), (7, .dat (I g) none), (9, .dat (I 1) none), (8, .ptr 403 0), (1, .dat (slAV intRow l) none), (0, .ptr 0 0)], [(403, ⟨[slAV intRow (mkO (rowN p m0)), slAV intRow (mkO (rowN (p + m0) i))], if rowN (p + m0) i = [] then [] else [(1, 1)]⟩), (0, ⟨({ t with groups := mkO gs } : Tb).cells, if gs = [] then [] else [(104, 0)]⟩)], ownL (rowN (p + m0) i) 1 e ++ ownL gs 0 eR, 1000⟩ : S)) (fun i => fillN n1 (p + m0) (limN G g) - i) (fun i => i ≤ fillN n1 (p + m0) (limN G g)) ?_ 0 (by omega) ?_
                  · intro i hi A1 back1
                    have hfl : fillN n1 (p + m0) (limN G g) ≤ 8 := by simp only [fillN, limN]; omega
                    have hw3 := wrap_succ (k := i) (by omega)
                    have hf : fillN n1 (p + m0) (limN G g) = min n1 (limN G g - (p + m0)) := rfl
                    have hp1 : IntKind.i64.wrap (((p + m0 + i : Nat) : Int) + 1) = ((p + m0 + (i + 1) : Nat) : Int) := by rw [wrap_id (by omega) (by omega)]; omega
                    have hrl : (rowN (p + m0) i).length = i := by simp [rowN]
                    by_cases hl : rowN (p + m0) i = []
                    · try simp only [I, B, D, RX, ↓ KW, Nat.reduceBEq, Nat.reduceAdd, Nat.reduceLeDiff, Int.reduceNe, Int.reduceBEq, Int.reduceEq, reduceCtorEq, Nat.reduceMul, Int.reduceLT, Int.reduceLE, Int.reduceToNat, hl, ownL, mkO, hlim, hgs, hrow0]
                      repeat' (((first | refine gd_split ?_ ?_ | refine cd_split ?_ ?_ | refine pk_split ?_ ?_) <;> intro h) <;> try simp only [I, B, D, RX, ↓ KW, Nat.reduceBEq, Nat.reduceAdd, Nat.reduceLeDiff, Int.reduceNe, Int.reduceBEq, Int.reduceEq, reduceCtorEq, Nat.reduceMul, Int.reduceLT, Int.reduceLE, Int.reduceToNat, slAV_none, slAV_some, hlim, hl, hgs, hp1, hrow0, h])
                      · have h1 := of_decide_eq_true h
                        refine ⟨by decide, ?_⟩
                        refine ⟨by decide, ?_⟩
                        have h2 : (i : Int) < n1 := by rename_i h2; exact of_decide_eq_true h2
                        refine back1 (i + 1) _ (by omega) (by omega) (le_tok2 (by decide) ?_ ?_ ?_ ?_) <;> simp [LX, I, B, D, hw3, rowN_succ, hl, mkO, slAV_none, slAV_some, hgs, hrow0]
                      · have h1 := of_decide_eq_false h
                        have : i = fillN n1 (p + m0) (limN G g) := by omega
                        rw [← this]
                        refine cut_at () trivial ?_
                        refine le_tok2 (by decide) ?_ ?_ ?_ ?_ <;> simp [LX, I, B, D, hl, mkO, slAV_none, slAV_some, hgs, hrow0]
                      · have h1 := of_decide_eq_false h
                        have : i = fillN n1 (p + m0) (limN G g) := by omega
                        rw [← this]
                        refine cut_at () trivial ?_
                        refine le_tok2 (by decide) ?_ ?_ ?_ ?_ <;> simp [LX, I, B, D, hl, mkO, slAV_none, slAV_some, hgs, hrow0]
                    · try simp only [I, B, D, RX, ↓ KW, Nat.reduceBEq, Nat.reduceAdd, Nat.reduceLeDiff, Int.reduceNe, Int.reduceBEq, Int.reduceEq, reduceCtorEq, Nat.reduceMul, Int.reduceLT, Int.reduceLE, Int.reduceToNat, hl, ownL, mkO, hlim, hgs, hrow0]
                      repeat' (((first | refine gd_split ?_ ?_ | refine cd_split ?_ ?_ | refine pk_split ?_ ?_) <;> intro h) <;> try simp only [I, B, D, RX, ↓ KW, Nat.reduceBEq, Nat.reduceAdd, Nat.reduceLeDiff, Int.reduceNe, Int.reduceBEq, Int.reduceEq, reduceCtorEq, Nat.reduceMul, Int.reduceLT, Int.reduceLE, Int.reduceToNat, slAV_none, slAV_some, hlim, hl, hgs, hp1, hrow0, h])
                      · have h1 := of_decide_eq_true h
                        refine ⟨by decide, by omega, by decide, ?_⟩
                        have h2 : (i : Int) < n1 := by rename_i h2; exact of_decide_eq_true h2
                        refine back1 (i + 1) _ (by omega) (by omega) (le_tok2 (by decide) ?_ ?_ ?_ ?_) <;> simp [LX, I, B, D, hw3, rowN_succ, hl, mkO, slAV_none, slAV_some, hgs, hrow0]
                      · have h1 := of_decide_eq_false h
                        have : i = fillN n1 (p + m0) (limN G g) := by omega
                        rw [← this]
                        refine cut_at () trivial ?_
                        refine le_tok2 (by decide) ?_ ?_ ?_ ?_ <;> simp [LX, I, B, D, hl, mkO, slAV_none, slAV_some, hgs, hrow0]
                      · have h1 := of_decide_eq_false h
                        have : i = fillN n1 (p + m0) (limN G g) := by omega
                        rw [← this]
                        refine cut_at () trivial ?_
                        refine le_tok2 (by decide) ?_ ?_ ?_ ?_ <;> simp [LX, I, B, D, hl, mkO, slAV_none, slAV_some, hgs, hrow0]
                  · refine le_tok2 (by decide) ?_ ?_ ?_ ?_ <;> simp [LX, I, B, D, rowN, mkO, slAV_none, slAV_some, hgs, hrow0, hcn]
                · intro _ _
                  try simp only [I, B, D, RX, ↓ KW, Nat.reduceBEq, Nat.reduceAdd, Nat.reduceLeDiff, Int.reduceNe, Int.reduceBEq, Int.reduceEq, reduceCtorEq, Nat.reduceMul, Int.reduceLT, Int.reduceLE, Int.reduceToNat, hgs, mkO, hrow0]
                  refine aw_unroll ?_
                  try simp only [I, B, D, RX, ↓ KW, Nat.reduceBEq, Nat.reduceAdd, Nat.reduceLeDiff, Int.reduceNe, Int.reduceBEq, Int.reduceEq, reduceCtorEq, Nat.reduceMul, Int.reduceLT, Int.reduceLE, Int.reduceToNat, hgs, wrap_11]
                  refine cut_at () trivial ?_
                  refine le_tok2 (by decide) ?_ ?_ ?_ ?_ <;> simp [LX, I, B, D, hgs, mkO, slAV_none, slAV_some]
            · have hfr : ¬ fr1 = 0 := by simpa using h
              have hcn : fr1 = (n1 : Int) := by rw [hcn0, if_neg (fun hh => hfr (by omega))]; omega
              refine aw_cut (.exit 4) (fun _ : Unit => (⟨[(9, .dat (I 1) none), (6, .dat (I (p + m0 + fillN n1 (p + m0) (limN G g) : Nat)) none), (5, .dat (I G) none), (7, .dat (I g) none), (8, .ptr 403 0), (1, .dat (slAV intRow l) none), (0, .ptr 0 0)], [(403, ⟨[slAV intRow (mkO (rowN p m0)), slAV intRow (mkO (rowN (p + m0) (fillN n1 (p + m0) (limN G g))))], []⟩), (0, ⟨({ t with groups := mkO gs } : Tb).cells, if gs = [] then [] else [(104, 0)]⟩)], ownL gs 0 eR, 1000⟩ : S)) (fun _ => True) (fun _ => rfl) ?_ ?_
              · refine aw_loop' (fun i : Nat => (⟨[(11, .dat (I i) none), (10, .dat (I n1) none), (6, .dat (I (p + m0 + i : Nat)) none), (5, .dat (I G) none), (7, .dat (I g) none), (9, .dat (I 1) none), (8, .ptr 403 0), (1, .dat (slAV intRow l) none), (0, .ptr 0 0)], [(403, ⟨[slAV intRow (mkO (rowN p m0)), slAV intRow (mkO (rowN (p + m0) i))], if rowN (p + m0) i = [] then [] else [(1, 1)]⟩), (0, ⟨({ t with groups := mkO gs } : Tb).cells, if gs = [] then [] else [(104, 0)]⟩)], ownL (rowN (p + m0) i) 1 e ++ ownL gs 0 eR, 1000⟩ : S)) (fun i => fillN n1 (p + m0) (limN G g) - i) (fun i => i ≤ fillN n1 (p + m0) (limN G g)) ?_ 0 (by omega) ?_
                · intro i hi A1 back1
                  have hfl : fillN n1 (p + m0) (limN G g) ≤ 8 := by simp only [fillN, limN]; omega
                  have hw3 := wrap_succ (k := i) (by omega)
                  have hf : fillN n1 (p + m0) (limN G g) = min n1 (limN G g - (p + m0)) := rfl
                  have hp1 : IntKind.i64.wrap (((p + m0 + i : Nat) : Int) + 1) = ((p + m0 + (i + 1) : Nat) : Int) := by rw [wrap_id (by omega) (by omega)]; omega
                  have hrl : (rowN (p + m0) i).length = i := by simp [rowN]
                  by_cases hl : rowN (p + m0) i = []
                  · try simp only [I, B, D, RX, ↓ KW, Nat.reduceBEq, Nat.reduceAdd, Nat.reduceLeDiff, Int.reduceNe, Int.reduceBEq, Int.reduceEq, reduceCtorEq, Nat.reduceMul, Int.reduceLT, Int.reduceLE, Int.reduceToNat, hl, ownL, mkO, hlim, hgs, hrow0]
                    repeat' (((first | refine gd_split ?_ ?_ | refine cd_split ?_ ?_ | refine pk_split ?_ ?_) <;> intro h) <;> try simp only [I, B, D, RX, ↓ KW, Nat.reduceBEq, Nat.reduceAdd, Nat.reduceLeDiff, Int.reduceNe, Int.reduceBEq, Int.reduceEq, reduceCtorEq, Nat.reduceMul, Int.reduceLT, Int.reduceLE, Int.reduceToNat, slAV_none, slAV_some, hlim, hl, hgs, hp1, hrow0, h])
                    · have h1 := of_decide_eq_true h
                      refine ⟨by decide, ?_⟩
                      refine ⟨by decide, ?_⟩
                      have h2 : (i : Int) < n1 := by rename_i h2; exact of_decide_eq_true h2
                      refine back1 (i + 1) _ (by omega) (by omega) (le_tok2 (by decide) ?_ ?_ ?_ ?_) <;> simp [LX, I, B, D, hw3, rowN_succ, hl, mkO, slAV_none, slAV_some, hgs, hrow0]
                    · have h1 := of_decide_eq_false h
                      have : i = fillN n1 (p + m0) (limN G g) := by omega
                      rw [← this]
                      refine cut_at () trivial ?_
                      refine le_tok2 (by decide) ?_ ?_ ?_ ?_ <;> simp [LX, I, B, D, hl, mkO, slAV_none, slAV_some, hgs, hrow0]
                    · have h1 := of_decide_eq_false h
                      have : i = fillN n1 (p + m0) (limN G g) := by omega
                      rw [← this]
                      refine cut_at () trivial ?_
                      refine le_tok2 (by decide) ?_ ?_ ?_ ?_ <;> simp [LX, I, B, D, hl, mkO, slAV_none, slAV_some, hgs, hrow0]
                  · try simp only [I, B, D, RX, ↓ KW, Nat.reduceBEq, Nat.reduceAdd, Nat.reduceLeDiff, Int.reduceNe, Int.reduceBEq, Int.reduceEq, reduceCtorEq, Nat.reduceMul, Int.reduceLT, Int.reduceLE, Int.reduceToNat, hl, ownL, mkO, hlim, hgs, hrow0]
                    repeat' (((first | refine gd_split ?_ ?_ | refine cd_split ?_ ?_ | refine pk_split ?_ ?_) <;> intro h) <;> try simp only [I, B, D, RX, ↓ KW, Nat.reduceBEq, Nat.reduceAdd, Nat.reduceLeDiff, Int.reduceNe, Int.reduceBEq, Int.reduceEq, reduceCtorEq, Nat.reduceMul, Int.reduceLT, Int.reduceLE, Int.reduceToNat, slAV_none, slAV_some, hlim, hl, hgs, hp1, hrow0, h])
                    · have h1 := of_decide_eq_true h
                      refine ⟨by decide, by omega, by decide, ?_⟩
                      have h2 : (i : Int) < n1 := by rename_i h2; exact of_decide_eq_true h2
                      refine back1 (i + 1) _ (by omega) (by omega) (le_tok2 (by decide) ?_ ?_ ?_ ?_) <;> simp [LX, I, B, D, hw3, rowN_succ, hl, mkO, slAV_none, slAV_some, hgs, hrow0]
                    · have h1 := of_decide_eq_false h
                      have : i = fillN n1 (p + m0) (limN G g) := by omega
                      rw [← this]
                      refine cut_at () trivial ?_
                      refine le_tok2 (by decide) ?_ ?_ ?_ ?_ <;> simp [LX, I, B, D, hl, mkO, slAV_none, slAV_some, hgs, hrow0]
                    · have h1 := of_decide_eq_false h
                      have : i = fillN n1 (p + m0) (limN G g) := by omega
                      rw [← this]
                      refine cut_at () trivial ?_
                      refine le_tok2 (by decide) ?_ ?_ ?_ ?_ <;> simp [LX, I, B, D, hl, mkO, slAV_none, slAV_some, hgs, hrow0]
                · refine le_tok2 (by decide) ?_ ?_ ?_ ?_ <;> simp [LX, I, B, D, rowN, mkO, slAV_none, slAV_some, hgs, hrow0, hcn]
              · intro _ _
                try simp only [I, B, D, RX, ↓ KW, Nat.reduceBEq, Nat.reduceAdd, Nat.reduceLeDiff, Int.reduceNe, Int.reduceBEq, Int.reduceEq, reduceCtorEq, Nat.reduceMul, Int.reduceLT, Int.reduceLE, Int.reduceToNat, hgs, mkO, hrow0]
                refine aw_unroll ?_
                try simp only [I, B, D, RX, ↓ KW, Nat.reduceBEq, Nat.reduceAdd, Nat.reduceLeDiff, Int.reduceNe, Int.reduceBEq, Int.reduceEq, reduceCtorEq, Nat.reduceMul, Int.reduceLT, Int.reduceLE, Int.reduceToNat, hgs, wrap_11]
                refine cut_at () trivial ?_
                refine le_tok2 (by decide) ?_ ?_ ?_ ?_ <;> simp [LX, I, B, D, hgs, mkO, slAV_none, slAV_some]
        · intro _ _
          have hgc := Tb.groups_at' (t := { t with groups := mkO gs }) ht.phases
          have hln := Tb.len' (t := { t with groups := mkO gs }) ht.phases ht.conflict ht.flash
          have hset := Tb.set_groups (t := { t with groups := mkO gs }) ht.phases (some (gs ++ [⟨mkO (rowN p (fillN n0 p (limN G g))), mkO (rowN (p + fillN n0 p (limN G g)) (fillN (cnt l g 1 (fillN n0 p (limN G g))) (p + fillN n0 p (limN G g)) (limN G g)))⟩]))
          simp only [hgs, mkO, if_true, if_false] at hgc hln hset
          try simp only [I, B, D, RX, ↓ KW, Nat.reduceBEq, Nat.reduceAdd, Nat.reduceLeDiff, Int.reduceNe, Int.reduceBEq, Int.reduceEq, reduceCtorEq, Nat.reduceMul, Int.reduceLT, Int.reduceLE, Int.reduceToNat, hgc, slAV_none, slAV_some, Gr.len, hgl, hgs, mkO]
          try refine ⟨by omega, ?_⟩
          try refine ⟨by simp [ownL, hgs, lkN], ?_⟩
          try refine ⟨by omega, ?_⟩
          simp [slAV_some, Gr.cells, hgs] at hset
          refine back (g + 1) _ (by omega) (by omega) (le_tok2 (by decide) ?_ ?_ ?_ ?_) <;> simp [LX, I, B, D, hn2, hw, hgs, mkO, slAV_some, slAV_none, Gr.cells, hset]
          trace_state
      · have hgG : g = G := by have := of_decide_eq_false h; omega
        subst hgG
        first
          | (exfalso; rw [hgs] at hgl; simp at hgl; omega)
          | exact ⟨by rw [hR], by rw [hR]⟩
  · have : ({ t with groups := none } : Tb) = t := by cases t; simp_all
    refine le_tok2 (by decide) ?_ ?_ ?_ ?_ <;> simp [LX, I, B, D, rowsTo, mkO, this]
end
end Go.Eng
namespace Go.Eng
set_option linter.unusedVariables false
set_option linter.unusedSimpArgs false
set_option linter.unnecessarySimpa false
open Go
set_option linter.unusedVariables false
set_option linter.unusedSimpArgs false
set_option maxRecDepth 10000
set_option maxHeartbeats 4000000
structure Tb.Ln (t : Tb) : Prop where
  phases : t.phases.length = 8
  conflict : t.conflict.length = 8
  flash : t.flash.length = 8
theorem Tb.Ok.ln {t : Tb} (h : t.Ok) : t.Ln := ⟨h.phases, h.conflict, h.flash⟩
section
variable {t : Tb} (h : t.Ln)
include h
theorem Tb.Ln.len : t.cells.length = 131 := by
  simp [Tb.cells, flatMap_len Ph.len, h.phases, h.conflict, h.flash]
theorem Tb.Ln.whole : partA t.cells 0 (some 131) = some (.agg t.cells) := by
  have hl := h.len
  rw [p_some _ _ _ (by omega), List.drop_zero, ← hl, List.take_length]
theorem Tb.Ln.at113 : t.cells[113]? = some (slAV Det.cells t.detectors) := by
  simp [Tb.cells, List.getElem?_append, flatMap_len Ph.len, h.phases, h.conflict, h.flash, List.getElem?_cons]
theorem Tb.Ln.at114 : t.cells[114]? = some (slAV Rl.cells t.rails) := by
  simp [Tb.cells, List.getElem?_append, flatMap_len Ph.len, h.phases, h.conflict, h.flash, List.getElem?_cons]
theorem Tb.Ln.at115 : t.cells[115]? = some (slAV Bs.cells t.buses) := by
  simp [Tb.cells, List.getElem?_append, flatMap_len Ph.len, h.phases, h.conflict, h.flash, List.getElem?_cons]
theorem Tb.Ln.at129 : t.cells[129]? = some (I t.window) := by
  simp [Tb.cells, List.getElem?_append, flatMap_len Ph.len, h.phases, h.conflict, h.flash, List.getElem?_cons]
theorem Tb.Ln.conflict_at {i : Nat} {c : Int} (hc : t.conflict[i]? = some c) : t.cells[105 + i]? = some (I c) := by
  have hi : i < 8 := by have := (List.getElem?_eq_some_iff.1 hc).1; rw [h.conflict] at this; exact this
  have e : (t.phases.flatMap Ph.cells).length = 104 := by rw [flatMap_len Ph.len, h.phases]
  unfold Tb.cells
  rw [List.getElem?_append_right (by omega), e, show 105 + i - 104 = i + 1 by omega, List.getElem?_cons_succ, List.getElem?_append_left (by simp [h.conflict, hi]), List.getElem?_map, hc]; rfl
def Tb.rest (t : Tb) : List AV := slAV Gr.cells t.groups :: (t.conflict.map I ++ (slAV Det.cells t.detectors :: slAV Rl.cells t.rails :: slAV Bs.cells t.buses ::
    I t.extend :: I t.budget :: I t.start :: I t.revert :: I t.least :: (t.flash.map I ++ [I t.window, I t.share])))
omit h in
theorem set_right {pre post ps : List AV} {off : Nat} (hle : pre.length ≤ off) : setCells (pre ++ post) off ps = pre ++ setCells post (off - pre.length) ps := by
  simp only [setCells, List.take_append, List.drop_append, List.append_assoc]
  rw [List.take_of_length_le hle, List.drop_of_length_le (by omega), show off + ps.length - pre.length = off - pre.length + ps.length by omega]
  rfl
omit h in
theorem set_left {pre post ps : List AV} {off : Nat} (hle : off + ps.length ≤ pre.length) : setCells (pre ++ post) off ps = setCells pre off ps ++ post := by
  simp only [setCells]
  rw [List.take_append_of_le_length (by omega), List.drop_append_of_le_length hle]
  simp
omit h in
theorem set_one {l : List Int} {i : Nat} {v : Int} (hi : i < l.length) : setCells (l.map I) i [I v] = (l.set i v).map I := by
  simp only [setCells, List.length_cons, List.length_nil]
  rw [List.set_eq_take_append_cons_drop, if_pos hi]
  simp [List.map_take, List.map_drop]
omit h in
theorem set_skip (c : AV) (cs ps : List AV) (k : Nat) : setCells (c :: cs) (k + 1) ps = c :: setCells cs k ps := by
  simp only [setCells, List.take_succ_cons, List.cons_append, show k + 1 + ps.length = (k + ps.length) + 1 by omega, List.drop_succ_cons]
theorem Tb.Ln.set_phase {i : Nat} (hi : i < 8) (q : Ph) : setCells t.cells (i * 13) q.cells = ({ t with phases := t.phases.set i q } : Tb).cells := by
  obtain ⟨p, hp⟩ : ∃ p, t.phases[i]? = some p := ⟨_, List.getElem?_eq_getElem (by rw [h.phases]; exact hi)⟩
  exact Tb.phase_set hp
theorem Tb.Ln.set_conflict {i : Nat} (hi : i < 8) (v : Int) : setCells t.cells (105 + i) [I v] = ({ t with conflict := t.conflict.set i v } : Tb).cells := by
  have e : (t.phases.flatMap Ph.cells).length = 104 := by rw [flatMap_len Ph.len, h.phases]
  unfold Tb.cells
  rw [set_right (by omega), e, show 105 + i - 104 = i + 1 by omega, set_skip, set_left (by simp [h.conflict]; omega), set_one (by rw [h.conflict]; exact hi)]
theorem Tb.Ln.set_flash {i : Nat} (hi : i < 8) (v : Int) : setCells t.cells (121 + i) [I v] = ({ t with flash := t.flash.set i v } : Tb).cells := by
  have e : (t.phases.flatMap Ph.cells).length = 104 := by rw [flatMap_len Ph.len, h.phases]
  unfold Tb.cells
  rw [set_right (by omega), e, show 121 + i - 104 = (i + 16) + 1 by omega, set_skip, set_right (by simp [h.conflict]), show i + 16 - (t.conflict.map I).length = i + 8 by simp [h.conflict]]
  simp only [set_skip]
  rw [set_left (by simp [h.flash]; omega), set_one (by rw [h.flash]; exact hi)]
theorem Tb.Ln.set_dets (d : Option (List Det)) : setCells t.cells 113 [slAV Det.cells d] = ({ t with detectors := d } : Tb).cells := by
  have e : (t.phases.flatMap Ph.cells).length = 104 := by rw [flatMap_len Ph.len, h.phases]
  have e2 : (t.conflict.map I).length = 8 := by simp [h.conflict]
  unfold Tb.cells
  rw [set_right (by omega), e, show 113 - 104 = 8 + 1 by omega, set_skip, set_right (by omega), e2]
  rfl
theorem Tb.Ln.set_rails (d : Option (List Rl)) : setCells t.cells 114 [slAV Rl.cells d] = ({ t with rails := d } : Tb).cells := by
  have e : (t.phases.flatMap Ph.cells).length = 104 := by rw [flatMap_len Ph.len, h.phases]
  have e2 : (t.conflict.map I).length = 8 := by simp [h.conflict]
  unfold Tb.cells
  rw [set_right (by omega), e, show 114 - 104 = 9 + 1 by omega, set_skip, set_right (by omega), e2]
  rfl
theorem Tb.Ln.set_buses (d : Option (List Bs)) : setCells t.cells 115 [slAV Bs.cells d] = ({ t with buses := d } : Tb).cells := by
  have e : (t.phases.flatMap Ph.cells).length = 104 := by rw [flatMap_len Ph.len, h.phases]
  have e2 : (t.conflict.map I).length = 8 := by simp [h.conflict]
  unfold Tb.cells
  rw [set_right (by omega), e, show 115 - 104 = 10 + 1 by omega, set_skip, set_right (by omega), e2]
  rfl
theorem Tb.Ln.set_nums (v : Int) : setCells t.cells 116 [I v] = ({ t with extend := v } : Tb).cells ∧ setCells t.cells 117 [I v] = ({ t with budget := v } : Tb).cells ∧ setCells t.cells 118 [I v] = ({ t with start := v } : Tb).cells ∧
    setCells t.cells 119 [I v] = ({ t with revert := v } : Tb).cells ∧ setCells t.cells 120 [I v] = ({ t with least := v } : Tb).cells := by
  have e : (t.phases.flatMap Ph.cells).length = 104 := by rw [flatMap_len Ph.len, h.phases]
  have e2 : (t.conflict.map I).length = 8 := by simp [h.conflict]
  unfold Tb.cells
  refine ⟨?_, ?_, ?_, ?_, ?_⟩
  · rw [set_right (by omega), e, show 116 - 104 = 11 + 1 by omega, set_skip, set_right (by omega), e2]; rfl
  · rw [set_right (by omega), e, show 117 - 104 = 12 + 1 by omega, set_skip, set_right (by omega), e2]; rfl
  · rw [set_right (by omega), e, show 118 - 104 = 13 + 1 by omega, set_skip, set_right (by omega), e2]; rfl
  · rw [set_right (by omega), e, show 119 - 104 = 14 + 1 by omega, set_skip, set_right (by omega), e2]; rfl
  · rw [set_right (by omega), e, show 120 - 104 = 15 + 1 by omega, set_skip, set_right (by omega), e2]; rfl
theorem Tb.Ln.set_last (v : Int) : setCells t.cells 129 [I v] = ({ t with window := v } : Tb).cells ∧ setCells t.cells 130 [I v] = ({ t with share := v } : Tb).cells := by
  have e : (t.phases.flatMap Ph.cells).length = 104 := by rw [flatMap_len Ph.len, h.phases]
  have e2 : (t.conflict.map I).length = 8 := by simp [h.conflict]
  have e3 : (t.flash.map I).length = 8 := by simp [h.flash]
  unfold Tb.cells
  refine ⟨?_, ?_⟩
  · rw [set_right (by omega), e, show 129 - 104 = 24 + 1 by omega, set_skip, set_right (by omega), e2]
    simp only [Nat.reduceSub, set_skip]
    rw [set_right (by omega), e3]; rfl
  · rw [set_right (by omega), e, show 130 - 104 = 25 + 1 by omega, set_skip, set_right (by omega), e2]
    simp only [Nat.reduceSub, set_skip]
    rw [set_right (by omega), e3]; rfl
end
end Go.Eng
namespace Go.Eng
set_option linter.unusedVariables false
set_option linter.unusedSimpArgs false
set_option linter.unnecessarySimpa false
open Go
set_option linter.unusedVariables false
set_option linter.unusedSimpArgs false
set_option maxRecDepth 10000
set_option maxHeartbeats 4000000
def Tb0 : Tb := ⟨List.replicate 8 default, none, List.replicate 8 0, none, none, none, 0, 0, 0, 0, 0, List.replicate 8 0, 0, 0⟩
theorem z131_is : z131_45020 = Tb0.cells := rfl
def phTo (l : Option (List Int)) : Nat → List Ph
  | 0 => List.replicate 8 default
  | k + 1 => (phTo l k).set k (phaseOf l (10 + 12 * k))
def flTo : Nat → List Int
  | 0 => List.replicate 8 0
  | k + 1 => (flTo k).set k 1
theorem phTo_len (l : Option (List Int)) : ∀ k, (phTo l k).length = 8
  | 0 => by simp [phTo]
  | k + 1 => by simp [phTo, phTo_len l k]
theorem flTo_len : ∀ k, (flTo k).length = 8
  | 0 => by simp [flTo]
  | k + 1 => by simp [flTo, flTo_len k]
def cAt (c : List Int) (i : Nat) : Int := c.getD i 0
def clashes (t : Tb) (l : Option (List Int)) (p q : Nat) : Bool := !besideR t p q && frm l (110 + 8 * p + q) 9 != 1
def confStep (t : Tb) (l : Option (List Int)) (p q : Nat) (c : List Int) : List Int :=
  if clashes t l p q then
    let c1 := c.set p (withR (cAt c p) q)
    c1.set q (withR (cAt c1 q) p)
  else c
def confRow (t : Tb) (l : Option (List Int)) (p : Nat) : Nat → List Int → List Int
  | 0, c => c
  | q + 1, c => confStep t l p q (confRow t l p q c)
def confTo (t : Tb) (l : Option (List Int)) : Nat → List Int
  | 0 => List.replicate 8 0
  | p + 1 => confRow t l p p (confTo t l p)
theorem confStep_len {t : Tb} {l : Option (List Int)} {p q : Nat} {c : List Int} : (confStep t l p q c).length = c.length := by
  unfold confStep; split <;> simp
theorem confRow_len {t : Tb} {l : Option (List Int)} {p : Nat} {c : List Int} : ∀ q, (confRow t l p q c).length = c.length
  | 0 => rfl
  | q + 1 => by rw [confRow, confStep_len, confRow_len q]
theorem confTo_len {t : Tb} {l : Option (List Int)} : ∀ p, (confTo t l p).length = 8
  | 0 => by simp [confTo]
  | p + 1 => by rw [confTo, confRow_len, confTo_len p]
def detTo (l : Option (List Int)) (n d : Int) (j : Nat) : List Det := (List.range j).map fun (k : Nat) => detectorOf l (180 + 8 * (d - k)) n
def railTo (t : Tb) (l : Option (List Int)) (n r : Int) (j : Nat) : List Rl := (List.range j).map fun (k : Nat) => railOf t l (260 + 16 * (r - k)) n
def busOf (l : Option (List Int)) (n i : Int) : Bs :=
  let x := bAnd .i64 (frm l (330 + 2 * i) 256) (w64 (w64 (1 * 2 ^ min (IntKind.u64.wrap n).toNat 64) - 1))
  ⟨if x > 1 then x else 1, w64 (1 + frm l (331 + 2 * i) 30)⟩
def busTo (l : Option (List Int)) (n b : Int) (j : Nat) : List Bs := (List.range j).map fun (k : Nat) => busOf l n (b - k)
def winTo (t : Tb) : Nat → Int
  | 0 => 0
  | k + 1 => if waitI t k > winTo t k then waitI t k else winTo t k
def rowsOf' (l : Option (List Int)) : List Gr × Nat := rowsTo l (groupsN l) (groupsN l)
def tabPre (l : Option (List Int)) : Tb :=
  let n := (rowsOf' l).2
  let t1 : Tb := { Tb0 with groups := some (rowsOf' l).1 }
  let q := frm l 174 (n + 1)
  { phases := phTo l n
    groups := some (rowsOf' l).1
    conflict := confTo t1 l n
    detectors := mkO (detTo l n (frm l 175 9) (frm l 175 9).toNat)
    rails := mkO (railTo t1 l n ((frm l 176 4).tmod 3) ((frm l 176 4).tmod 3).toNat)
    buses := mkO (busTo l n (frm l 177 3) (frm l 177 3).toNat)
    extend := frm l 178 12
    budget := frm l 179 40
    start := frm l 180 8
    revert := frm l 181 8
    least := frm l 182 12
    flash := if q < n then (flTo n).set q.toNat 2 else flTo n
    window := 0
    share := frm l 183 4 }
def tableOf (l : Option (List Int)) : Tb :=
  { tabPre l with window := if (railTo { Tb0 with groups := some (rowsOf' l).1 } l (rowsOf' l).2 ((frm l 176 4).tmod 3) ((frm l 176 4).tmod 3).toNat) = [] then 0 else winTo (tabPre l) (rowsOf' l).2 }
def Table.Spec (C : Con) (f : Nat) : Prop := ∀ l : Option (List Int), C.c f [slAV intRow l] (.agg (tableOf l).cells) none
def tabA (l : Option (List Int)) (k : Nat) : Tb := { Tb0 with groups := some (rowsOf' l).1, phases := phTo l k, flash := flTo k }
def tabB (l : Option (List Int)) (c : List Int) : Tb := { tabA l (rowsOf' l).2 with conflict := c }
def tabC (l : Option (List Int)) : Tb := { tabB l (confTo { Tb0 with groups := some (rowsOf' l).1 } l (rowsOf' l).2) with flash := (tabPre l).flash }
def tabD (l : Option (List Int)) (d : List Det) : Tb := { tabC l with detectors := mkO d }
def tabE (l : Option (List Int)) (r : List Rl) : Tb := { tabC l with detectors := (tabPre l).detectors, rails := mkO r }
def tabF (l : Option (List Int)) (b : List Bs) : Tb := { tabC l with detectors := (tabPre l).detectors, rails := (tabPre l).rails, buses := mkO b }
def tabW (l : Option (List Int)) (w : Int) : Tb := { tabPre l with window := w }
theorem rowN_len (p m : Nat) : (rowN p m).length = m := by simp [rowN]
theorem rowsTo_small (l : Option (List Int)) (G : Nat) : ∀ g, ∀ x ∈ (rowsTo l G g).1, (x.a.getD []).length ≤ 8 ∧ (x.b.getD []).length ≤ 8
  | 0, x, hx => by simp [rowsTo] at hx
  | g + 1, x, hx => by
    simp only [rowsTo, List.mem_append, List.mem_singleton] at hx
    rcases hx with hx | rfl
    · exact rowsTo_small l G g x hx
    · simp only [mkO_getD, rowN_len, fillN, limN]
      omega
theorem rowsOf_le (l : Option (List Int)) : (rowsOf' l).2 ≤ 8 := rowsTo_le _ _ _
theorem rowsTo_mono (l : Option (List Int)) (G : Nat) : ∀ g, 1 ≤ g → g ≤ G → G ≤ 3 → 1 ≤ (rowsTo l G g).2
  | 0, h, _, _ => by omega
  | 1, _, h1, h3 => by
    simp only [rowsTo, fillN, limN, cnt]
    split <;> split <;> simp_all <;> omega
  | g + 2, _, h1, h3 => by
    have := rowsTo_mono l G (g + 1) (by omega) (by omega) h3
    rw [rowsTo]
    simp only
    omega
theorem groupsN_le (l : Option (List Int)) : 1 ≤ groupsN l ∧ groupsN l ≤ 3 := by
  have := frm_range l 0 (n := 3) (by decide) (by decide)
  unfold groupsN; omega
theorem rowsOf_pos (l : Option (List Int)) : 1 ≤ (rowsOf' l).2 := rowsTo_mono l _ _ (groupsN_le l).1 (Nat.le_refl _) (groupsN_le l).2
theorem ok_of {l : Option (List Int)} {t : Tb} (hg : t.groups = some (rowsOf' l).1) (h1 : t.phases.length = 8) (h2 : t.conflict.length = 8) (h3 : t.flash.length = 8) (h4 : (t.detectors.getD []).length ≤ 1048576) (h5 : (t.rails.getD []).length ≤ 1048576) (h6 : (t.buses.getD []).length ≤ 1048576) : t.Ok := by
  refine ⟨h1, h2, h3, ?_, ?_, h4, h5, h6⟩
  · rw [hg]; simp only [Option.getD_some, rowsOf', rowsTo_len]; have := groupsN_le l; omega
  · rw [hg]; simp only [Option.getD_some]
    intro g hg'
    have := rowsTo_small _ _ _ g hg'
    omega
theorem detTo_next (l : Option (List Int)) (n d : Int) (j : Nat) : detTo l n d (j + 1) = detTo l n d j ++ [detectorOf l (180 + 8 * (d - j)) n] := by simp [detTo, List.range_succ]
theorem detTo_len (l : Option (List Int)) (n d : Int) (j : Nat) : (detTo l n d j).length = j := by simp [detTo]
theorem railTo_next (t : Tb) (l : Option (List Int)) (n d : Int) (j : Nat) : railTo t l n d (j + 1) = railTo t l n d j ++ [railOf t l (260 + 16 * (d - j)) n] := by simp [railTo, List.range_succ]
theorem railTo_len (t : Tb) (l : Option (List Int)) (n d : Int) (j : Nat) : (railTo t l n d j).length = j := by simp [railTo]
theorem busTo_next (l : Option (List Int)) (n d : Int) (j : Nat) : busTo l n d (j + 1) = busTo l n d j ++ [busOf l n (d - j)] := by simp [busTo, List.range_succ]
theorem busTo_len (l : Option (List Int)) (n d : Int) (j : Nat) : (busTo l n d j).length = j := by simp [busTo]
theorem Det.len (d : Det) : d.cells.length = 7 := rfl
theorem Bs.len (d : Bs) : d.cells.length = 2 := rfl
theorem tabPre_flash (l : Option (List Int)) : (tabPre l).flash.length = 8 := by
  unfold tabPre; simp only; split <;> simp [flTo_len]
theorem tabPre_dets (l : Option (List Int)) : ((tabPre l).detectors.getD []).length ≤ 1048576 := by
  have := frm_range l 175 (n := 9) (by decide) (by decide)
  simp only [tabPre, mkO_getD, detTo_len]; omega
theorem tabPre_rails (l : Option (List Int)) : ((tabPre l).rails.getD []).length ≤ 1048576 := by
  have h := Int.tmod_lt_of_pos (frm l 176 4) (b := 3) (by decide)
  simp only [tabPre, mkO_getD, railTo_len]; omega
theorem tabPre_buses (l : Option (List Int)) : ((tabPre l).buses.getD []).length ≤ 1048576 := by
  have := frm_range l 177 (n := 3) (by decide) (by decide)
  simp only [tabPre, mkO_getD, busTo_len]; omega
theorem tableOf_ok (l : Option (List Int)) : (tableOf l).Ok := ok_of rfl (phTo_len l _) (confTo_len _) (tabPre_flash l) (tabPre_dets l) (tabPre_rails l) (tabPre_buses l)
section
variable {P : Program} (hm : P.follows .mixedOrders = true) {f : Nat}
include hm
theorem Table.ok {fR fP fB fF fW fD eD fr eR eB fw : Nat} (hc : cFn P f = some (cc_law00_Table fR fP fB fF fW fD eD fr eR eB fw)) (hR : rows.Spec (Pure P) fR) (hP : phase.Spec (Pure P) fP) (hB : beside.Spec (Pure P) fB) (hF : from.Spec (Pure P) fF) (hW : refWith.Spec (Pure P) fW)
    (hD : detector.Spec (Pure P) fD) (hr : rail.Spec (Pure P) fr) (hw : wait.Spec (Pure P) fw) : Table.Spec (Pure P) f := by
  intro l
  refine pure_of hm hc (by show 1 ≤ 186; decide) (aw_flat (keep := [0,3,8,9,12,15,18]) (i := 0) ?_)
  try simp only [I, B, D, RY, ↓ KW, seval, cc_law00_Table, Z.H, z131_is]
  have ok0 : Tb0.Ok := ⟨rfl, rfl, rfl, by simp [Tb0], by simp [Tb0], by simp [Tb0], by simp [Tb0], by simp [Tb0]⟩
  refine ⟨rfl, callp_is (hR Tb0 l ok0 rfl) ?_⟩
  have hN := rowsOf_le l
  have hN1 := rowsOf_pos l
  try simp only [I, B, D, RY, ↓ KW, seval]
  change aw _ _ _ (⟨[(5, _), (4, .dat (I ((rowsOf' l).2 : Nat)) none), (14, _), (13, _), (3, _), (2, _), (0, _)], [(5, ⟨(tabA l 0).cells, []⟩), _], _, _⟩ : S)
  generalize hNe : (rowsOf' l).2 = N at *
  refine aw_cut (.exit 0) (fun _ : Unit => (⟨[(4, .dat (I N) none), (3, .ptr 5 0), (0, .dat (slAV intRow l) none), (2, .ptr 4 0)], [(5, ⟨(tabA l N).cells, []⟩), (4, ⟨Tb0.cells, []⟩)], [], 400⟩ : S)) (fun _ => True) (fun _ => rfl) ?_ ?_
  · refine aw_loop' (fun k : Nat => (⟨[(5, .dat (I k) none), (4, .dat (I N) none), (3, .ptr 5 0), (0, .dat (slAV intRow l) none), (2, .ptr 4 0)], [(5, ⟨(tabA l k).cells, []⟩), (4, ⟨Tb0.cells, []⟩)], [], 400⟩ : S)) (fun k => N - k) (fun k => k ≤ N) ?_ 0 (by omega) ?_
    · intro k hk A back
      have hw3 := wrap_succ (k := k) (by omega)
      have hw2 : IntKind.i64.wrap (10 + IntKind.i64.wrap (12 * (k : Int))) = 10 + 12 * k := by rw [wrap_id (n := 12 * (k : Int)) (by omega) (by omega), wrap_id (by omega) (by omega)]
      have ln1 : (tabA l k).Ln := ⟨phTo_len l k, rfl, flTo_len k⟩
      have ln2 : ({ tabA l k with phases := (tabA l k).phases.set k (phaseOf l (10 + 12 * k)) } : Tb).Ln := ⟨by simp [phTo_len, tabA], rfl, flTo_len k⟩
      try simp only [I, B, D, RY, ↓ KW, seval]
      refine cd_split (fun h => ?_) (fun h => ?_) <;> try simp only [I, B, D, RY, ↓ KW, seval, h]
      · have hkN : k < N := by have := of_decide_eq_true h; omega
        have hlt : k < 8 := by omega
        have hs1 := ln1.set_phase hlt (phaseOf l (10 + 12 * k))
        have hs2 := ln2.set_flash hlt 1
        have hs3 : ({ ({ tabA l k with phases := (tabA l k).phases.set k (phaseOf l (10 + 12 * k)) } : Tb) with flash := ({ tabA l k with phases := (tabA l k).phases.set k (phaseOf l (10 + 12 * k)) } : Tb).flash.set k 1 } : Tb) = tabA l (k + 1) := rfl
        rw [hs3] at hs2
        have hl1 := ln1.len
        have hl2 := ln2.len
        generalize ({ tabA l k with phases := (tabA l k).phases.set k (phaseOf l (10 + 12 * k)) } : Tb) = T at *
        refine call_is (hP _ _) ?_
        try simp only [I, B, D, RY, ↓ KW, seval, hw2, hs1]
        exact ⟨by omega, Ph.len _, by omega, by omega, by omega, by refine back (k + 1) _ (by omega) (by omega) (le_tok2 (by decide) ?_ ?_ ?_ ?_) <;> simp [LX, I, B, D, hs2, hw3]⟩
      · have : k = N := by have := of_decide_eq_false h; omega
        subst this
        refine cut_at () trivial ?_
        refine le_tok2 (by decide) ?_ ?_ ?_ ?_ <;> simp [LX, I, B, D]
    · refine le_tok2 (by decide) ?_ ?_ ?_ ?_ <;> simp [LX, I, B, D]
  · intro _ _
    try simp only [I, B, D, RY, ↓ KW, seval]
    generalize ht1 : ({ Tb0 with groups := some (rowsOf' l).1 } : Tb) = t1 at *
    have hA : tabA l N = tabB l (confTo t1 l 0) := by subst hNe; rfl
    refine aw_cut (.exit 2) (fun _ : Unit => (⟨[(4, .dat (I N) none), (3, .ptr 5 0), (0, .dat (slAV intRow l) none), (2, .ptr 4 0)], [(5, ⟨(tabB l (confTo t1 l N)).cells, []⟩), (4, ⟨Tb0.cells, []⟩)], [], 400⟩ : S)) (fun _ => True) (fun _ => rfl) ?_ ?_
    · refine aw_loop' (fun p : Nat => (⟨[(6, .dat (I p) none), (4, .dat (I N) none), (3, .ptr 5 0), (0, .dat (slAV intRow l) none), (2, .ptr 4 0)], [(5, ⟨(tabB l (confTo t1 l p)).cells, []⟩), (4, ⟨Tb0.cells, []⟩)], [], 400⟩ : S)) (fun p => N - p) (fun p => p ≤ N) ?_ 0 (by omega) ?_
      · intro p hp A back
        have hw3 := wrap_succ (k := p) (by omega)
        try simp only [I, B, D, RY, ↓ KW, seval]
        refine cd_split (fun h => ?_) (fun h => ?_) <;> try simp only [I, B, D, RY, ↓ KW, seval, h]
        · have hpN : p < N := by have := of_decide_eq_true h; omega
          have hlt : p < 8 := by omega
          have hcl : confTo t1 l (p + 1) = confRow t1 l p p (confTo t1 l p) := rfl
          have hcl8 := confTo_len (t := t1) (l := l) p
          generalize confTo t1 l p = c0 at *
          refine aw_loop' (fun q : Nat => (⟨[(7, .dat (I q) none), (6, .dat (I p) none), (4, .dat (I N) none), (3, .ptr 5 0), (0, .dat (slAV intRow l) none), (2, .ptr 4 0)], [(5, ⟨(tabB l (confRow t1 l p q c0)).cells, []⟩), (4, ⟨Tb0.cells, []⟩)], [], 400⟩ : S)) (fun q => p - q) (fun q => q ≤ p) ?_ 0 (by omega) ?_
          · intro q hq A2 back2
            have hw4 := wrap_succ (k := q) (by omega)
            have hst : confRow t1 l p (q + 1) c0 = confStep t1 l p q (confRow t1 l p q c0) := rfl
            have hc8 : (confRow t1 l p q c0).length = 8 := by rw [confRow_len, hcl8]
            generalize hce : confRow t1 l p q c0 = c at *
            have okB : (tabB l c).Ok := ok_of rfl (phTo_len l _) hc8 (flTo_len _) (by simp [tabB, tabA, Tb0]) (by simp [tabB, tabA, Tb0]) (by simp [tabB, tabA, Tb0])
            have hwh := okB.ln.whole
            have hln := okB.ln.len
            have hbs : besideR (tabB l c) p q = besideR t1 p q := by subst ht1; rfl
            have hix : IntKind.i64.wrap (IntKind.i64.wrap (110 + IntKind.i64.wrap (8 * (p : Int))) + q) = 110 + 8 * p + q := by
              rw [wrap_id (n := 8 * (p : Int)) (by omega) (by omega), wrap_id (n := 110 + 8 * (p : Int)) (by omega) (by omega), wrap_id (by omega) (by omega)]
            try simp only [I, B, D, RY, ↓ KW, seval]
            refine cd_split (fun h2 => ?_) (fun h2 => ?_) <;> try simp only [I, B, D, RY, ↓ KW, seval, hwh, h2]
            · have hq8 : q < p := by have := of_decide_eq_true h2; omega
              refine call_is (hB _ _ _ okB) ?_
              try simp only [I, B, D, RY, ↓ KW, seval, hbs]
              repeat' (first | (refine call_is (hF _ _ _ (by decide)) ?_; try simp only [I, B, D, RY, ↓ KW, seval, hix]) | (((first | refine gd_split ?_ ?_ | refine cd_split ?_ ?_ | refine pk_split ?_ ?_) <;> intro h) <;> try simp only [I, B, D, RY, ↓ KW, seval, hix, h]))
              · have hb : besideR t1 p q = false := by simp_all
                have hcc : clashes t1 l p q = true := by simp only [clashes, hb]; simpa using h
                have hcs : confStep t1 l p q c = (c.set p (withR (cAt c p) q)).set q (withR (cAt (c.set p (withR (cAt c p) q)) q) p) := by simp only [confStep, hcc, if_true]
                have g1 : c[p]? = some (cAt c p) := by simp [cAt, show p < c.length by omega]
                have g2 : (c.set p (withR (cAt c p) q))[q]? = some (cAt (c.set p (withR (cAt c p) q)) q) := by simp [cAt, show q < c.length by omega]
                have ln2 : (tabB l (c.set p (withR (cAt c p) q))).Ln := ⟨phTo_len l _, by simp [tabB, hc8], flTo_len _⟩
                have l1 := okB.ln.conflict_at (t := tabB l c) g1
                have l2 := ln2.conflict_at g2
                have hs1 : setCells (tabB l c).cells (105 + p) [I (withR (cAt c p) q)] = (tabB l (c.set p (withR (cAt c p) q))).cells := okB.ln.set_conflict hlt _
                have hs2 : setCells (tabB l (c.set p (withR (cAt c p) q))).cells (105 + q) [I (withR (cAt (c.set p (withR (cAt c p) q)) q) p)] = (tabB l (confStep t1 l p q c)).cells := by rw [hcs]; exact ln2.set_conflict (by omega) _
                have hln2 := ln2.len
                rw [← hst] at hs2
                simp only [I] at hs1 hs2
                generalize cAt (c.set p (withR (cAt c p) q)) q = v2 at *
                generalize cAt c p = v1 at *
                generalize c.set p (withR v1 q) = c2 at *
                refine ⟨by omega, ?_⟩
                try simp only [I, B, D, RY, ↓ KW, seval, l1]
                refine call_is (hW _ _) ?_
                try simp only [I, B, D, RY, ↓ KW, seval, hs1]
                refine ⟨by omega, by omega, by omega, ?_⟩
                try simp only [I, B, D, RY, ↓ KW, seval, l2, hs1]
                refine call_is (hW _ _) ?_
                try simp only [I, B, D, RY, ↓ KW, seval, hs1, hs2]
                exact ⟨by omega, by omega, by refine back2 (q + 1) _ (by omega) (by omega) (le_tok2 (by decide) ?_ ?_ ?_ ?_) <;> simp [LX, I, B, D, hw4]⟩
              · have hcs : confStep t1 l p q c = c := by
                  have hcc : clashes t1 l p q = false := by simp only [clashes]; simp_all
                  simp [confStep, hcc]
                refine back2 (q + 1) _ (by omega) (by omega) (le_tok2 (by decide) ?_ ?_ ?_ ?_) <;> simp [LX, I, B, D, hst, hcs, hw4]
              · have hcs : confStep t1 l p q c = c := by
                  have hcc : clashes t1 l p q = false := by simp only [clashes]; simp_all
                  simp [confStep, hcc]
                refine back2 (q + 1) _ (by omega) (by omega) (le_tok2 (by decide) ?_ ?_ ?_ ?_) <;> simp [LX, I, B, D, hst, hcs, hw4]
            · have : q = p := by have := of_decide_eq_false h2; omega
              subst this
              refine back (q + 1) _ (by omega) (by omega) (le_tok2 (by decide) ?_ ?_ ?_ ?_) <;> simp [LX, I, B, D, hcl, hce, hw3]
          · refine le_tok2 (by decide) ?_ ?_ ?_ ?_ <;> simp [LX, I, B, D, confRow]
        · have : p = N := by have := of_decide_eq_false h; omega
          subst this
          refine cut_at () trivial ?_
          refine le_tok2 (by decide) ?_ ?_ ?_ ?_ <;> simp [LX, I, B, D]
      · refine le_tok2 (by decide) ?_ ?_ ?_ ?_ <;> simp [LX, I, B, D, hA]
    · intro _ _
      have hn1 : IntKind.i64.wrap ((N : Int) + 1) = N + 1 := wrap_succ (by omega)
      have hq := frm_range l 174 (n := (N : Int) + 1) (by omega) (by omega)
      have okB : (tabB l (confTo t1 l N)).Ok := ok_of rfl (phTo_len l _) (confTo_len _) (flTo_len _) (by simp [tabB, tabA, Tb0]) (by simp [tabB, tabA, Tb0]) (by simp [tabB, tabA, Tb0])
      have hln := okB.ln.len
      have hpre : (tabPre l).flash = if frm l 174 (N + 1) < N then (flTo N).set (frm l 174 (N + 1)).toNat 2 else flTo N := by subst hNe; rfl
      have hC : tabC l = { tabB l (confTo t1 l N) with flash := (tabPre l).flash } := by subst hNe; subst ht1; rfl
      have hfB : (tabB l (confTo t1 l N)).flash = flTo N := by subst hNe; rfl
      rw [r_join]
      refine aw_cut .normal (fun _ : Unit => (⟨[(4, .dat (I N) none), (3, .ptr 5 0), (0, .dat (slAV intRow l) none), (2, .ptr 4 0)], [(5, ⟨(tabC l).cells, []⟩), (4, ⟨Tb0.cells, []⟩)], [], 400⟩ : S)) (fun _ => True) (fun _ => rfl) ?_ ?_
      · try simp only [I, B, D, RY, ↓ KW, seval]
        refine call_is (hF _ _ _ (by omega)) ?_
        rw [hn1]
        generalize frm l 174 (N + 1) = q at *
        try simp only [I, B, D, RY, ↓ KW, seval]
        refine cd_split (fun h => ?_) (fun h => ?_) <;> try simp only [I, B, D, RY, ↓ KW, seval, h]
        · have hqN : q < N := of_decide_eq_true h
          rw [if_pos hqN] at hpre
          have hs1 := okB.ln.set_flash (i := q.toNat) (by omega) 2
          have e : ({ tabB l (confTo t1 l N) with flash := (tabB l (confTo t1 l N)).flash.set q.toNat 2 } : Tb) = tabC l := by rw [hC, hfB, hpre]
          rw [e] at hs1
          simp only [I] at hs1
          refine ⟨by omega, by omega, ?_⟩
          refine cut_at () trivial ?_
          refine le_tok2 (by decide) ?_ ?_ ?_ ?_ <;> simp [LX, I, B, D, hs1]
        · have hqN : ¬ q < N := of_decide_eq_false h
          rw [if_neg hqN] at hpre
          have e : tabB l (confTo t1 l N) = tabC l := by rw [hC, hpre, ← hfB]
          refine cut_at () trivial ?_
          refine le_tok2 (by decide) ?_ ?_ ?_ ?_ <;> simp [LX, I, B, D, e]
      · intro _ _
        have hd := frm_range l 175 (n := 9) (by decide) (by decide)
        have hD0 : tabC l = tabD l [] := rfl
        have hDe : tabD l (detTo l N (frm l 175 9) (frm l 175 9).toNat) = tabE l [] := by subst hNe; rfl
        try simp only [I, B, D, RY, ↓ KW, seval]
        refine call_is (hF _ _ _ (by decide)) ?_
        generalize frm l 175 9 = d at *
        try simp only [I, B, D, RY, ↓ KW, seval]
        refine aw_cut (.exit 6) (fun _ : Unit => (⟨[(4, .dat (I N) none), (3, .ptr 5 0), (0, .dat (slAV intRow l) none), (2, .ptr 4 0)], [(5, ⟨(tabD l (detTo l N d d.toNat)).cells, []⟩), (4, ⟨Tb0.cells, []⟩)], [], 400⟩ : S)) (fun _ => True) (fun _ => rfl) ?_ ?_
        · refine aw_loop' (fun j : Nat => (⟨[(9, .dat (I (d - j)) none), (4, .dat (I N) none), (3, .ptr 5 0), (0, .dat (slAV intRow l) none), (2, .ptr 4 0)], [(5, ⟨(tabD l (detTo l N d j)).cells, if detTo l N d j = [] then [] else [(113, 0)]⟩), (4, ⟨Tb0.cells, []⟩)], ownL (detTo l N d j) 0 eD, 400⟩ : S)) (fun j => d.toNat - j) (fun j => j ≤ d.toNat) ?_ 0 (by omega) ?_
          · intro j hj A back
            have hw3 : IntKind.i64.wrap (d - j - 1) = d - ((j + 1 : Nat) : Int) := by rw [wrap_id (by omega) (by omega)]; omega
            have hix : IntKind.i64.wrap (180 + IntKind.i64.wrap (8 * (d - (j : Int)))) = 180 + 8 * (d - j) := by rw [wrap_id (n := 8 * (d - (j : Int))) (by omega) (by omega), wrap_id (by omega) (by omega)]
            have hnext := detTo_next  l N d j
            have hlen : (detTo l N d j).length = j := detTo_len ..
            generalize hL : detTo l N d j = L at *
            generalize hx : detectorOf l (180 + 8 * (d - j)) N = x at *
            have okT : (tabD l L).Ok := ok_of rfl (phTo_len l _) (confTo_len _) (tabPre_flash l) (by simp [tabD, tabC, tabB, tabA, Tb0, mkO_getD, tabPre_dets]; try omega) (by simp [tabD, tabC, tabB, tabA, Tb0, mkO_getD, tabPre_rails]; try omega) (by simp [tabD, tabC, tabB, tabA, Tb0, mkO_getD]; try omega)
            have ln := okT.ln
            have hln := ln.len
            have hwh := ln.whole
            have hat := ln.at113
            have hset : setCells (tabD l L).cells 113 [slAV Det.cells (some (L ++ [x]))] = (tabD l (L ++ [x])).cells := by rw [ln.set_dets (some (L ++ [x]))]; simp [tabD, mkO]
            have hatr : (tabD l L).detectors = mkO L := rfl
            rw [hatr] at hat
            simp only [slAV_some, List.map_append, List.map_cons, List.map_nil] at hset
            cases L with
            | nil =>
              simp only [List.map_nil, List.nil_append, mkO, if_true, slAV_none] at hset hat hnext
              try simp only [I, B, D, RY, ↓ KW, seval, mkO, ownL]
              refine cd_split (fun h => ?_) (fun h => ?_) <;> try simp only [I, B, D, RY, ↓ KW, seval, hat, hwh, h]
              · have hj1 : (0 : Int) < d - j := of_decide_eq_true h
                refine call_is (hD _ _ _ (by omega)) ?_
                try simp only [I, B, D, RY, ↓ KW, seval, hix, hx, Det.len]
                try simp only [I, B, D, RY, ↓ KW, seval, hset]
                refine ⟨by omega, ?_⟩
                refine back (j + 1) _ (by omega) (by omega) (le_tok2 (by decide) ?_ ?_ ?_ ?_) <;> simp [LX, I, B, D, hnext, hw3, mkO]
              · have hj1 : ¬ (0 : Int) < d - j := of_decide_eq_false h
                have : j = d.toNat := by omega
                rw [← this, hL]
                refine cut_at () trivial ?_
                refine le_tok2 (by decide) ?_ ?_ ?_ ?_ <;> simp [LX, I, B, D, mkO]
            | cons y ys =>
              simp only [mkO, reduceCtorEq, if_false, slAV_some] at hset hat hnext
              try simp only [I, B, D, RY, ↓ KW, seval, mkO, ownL]
              refine cd_split (fun h => ?_) (fun h => ?_) <;> try simp only [I, B, D, RY, ↓ KW, seval, hat, hwh, h]
              · have hj1 : (0 : Int) < d - j := of_decide_eq_true h
                refine call_is (hD _ _ _ (by omega)) ?_
                try simp only [I, B, D, RY, ↓ KW, seval, hix, hx, Det.len]
                try simp only [I, B, D, RY, ↓ KW, seval, hset, Det.len]
                refine ⟨by simp at hlen ⊢; omega, by omega, ?_⟩
                refine back (j + 1) _ (by omega) (by omega) (le_tok2 (by decide) ?_ ?_ ?_ ?_) <;> simp [LX, I, B, D, hnext, hw3, mkO]
              · have hj1 : ¬ (0 : Int) < d - j := of_decide_eq_false h
                have : j = d.toNat := by omega
                rw [← this, hL]
                refine cut_at () trivial ?_
                refine le_tok2 (by decide) ?_ ?_ ?_ ?_ <;> simp [LX, I, B, D, mkO]
          · refine le_tok2 (by decide) ?_ ?_ ?_ ?_ <;> simp [LX, I, B, D, hD0, detTo, mkO]
        · intro _ _
          have hr4 := frm_range l 176 (n := 4) (by decide) (by decide)
          have hr3 := Int.tmod_lt_of_pos (frm l 176 4) (b := 3) (by decide)
          have hr0 := Int.tmod_nonneg 3 hr4.1
          have hEe : tabE l (railTo t1 l N ((frm l 176 4).tmod 3) ((frm l 176 4).tmod 3).toNat) = tabF l [] := by subst hNe; subst ht1; rfl
          have hRl : (tabPre l).rails = mkO (railTo t1 l N ((frm l 176 4).tmod 3) ((frm l 176 4).tmod 3).toNat) := by subst hNe; subst ht1; rfl
          have hTab : tableOf l = tabW l (if railTo t1 l N ((frm l 176 4).tmod 3) ((frm l 176 4).tmod 3).toNat = [] then 0 else winTo (tabPre l) N) := by subst hNe; subst ht1; rfl
          try simp only [I, B, D, RY, ↓ KW, seval]
          refine call_is (hF _ _ _ (by decide)) ?_
          try simp only [I, B, D, RY, ↓ KW, seval]
          generalize (frm l 176 4).tmod 3 = r at *
          refine aw_cut (.exit 8) (fun _ : Unit => (⟨[(4, .dat (I N) none), (3, .ptr 5 0), (0, .dat (slAV intRow l) none), (2, .ptr 4 0)], [(5, ⟨(tabE l (railTo t1 l N r r.toNat)).cells, []⟩), (4, ⟨Tb0.cells, []⟩)], [], 400⟩ : S)) (fun _ => True) (fun _ => rfl) ?_ ?_
          · refine aw_loop' (fun j : Nat => (⟨[(10, .dat (I (r - j)) none), (4, .dat (I N) none), (3, .ptr 5 0), (0, .dat (slAV intRow l) none), (2, .ptr 4 0)], [(5, ⟨(tabE l (railTo t1 l N r j)).cells, if railTo t1 l N r j = [] then [] else [(114, 0)]⟩), (4, ⟨Tb0.cells, []⟩)], ownL (railTo t1 l N r j) 0 eR, 400⟩ : S)) (fun j => r.toNat - j) (fun j => j ≤ r.toNat) ?_ 0 (by omega) ?_
            · intro j hj A back
              have hw3 : IntKind.i64.wrap (r - j - 1) = r - ((j + 1 : Nat) : Int) := by rw [wrap_id (by omega) (by omega)]; omega
              have hix : IntKind.i64.wrap (260 + IntKind.i64.wrap (16 * (r - (j : Int)))) = 260 + 16 * (r - j) := by rw [wrap_id (n := 16 * (r - (j : Int))) (by omega) (by omega), wrap_id (by omega) (by omega)]
              have hro : ∀ L', railOf (tabE l L') l (260 + 16 * (r - j)) N = railOf t1 l (260 + 16 * (r - j)) N := fun _ => by subst ht1; rfl
              have hnext := railTo_next  t1 l N r j
              have hlen : (railTo t1 l N r j).length = j := railTo_len ..
              generalize hL : railTo t1 l N r j = L at *
              generalize hx : railOf t1 l (260 + 16 * (r - j)) N = x at *
              have okT : (tabE l L).Ok := ok_of rfl (phTo_len l _) (confTo_len _) (tabPre_flash l) (by simp [tabE, tabC, tabB, tabA, Tb0, mkO_getD, tabPre_dets]; try omega) (by simp [tabE, tabC, tabB, tabA, Tb0, mkO_getD, tabPre_rails]; try omega) (by simp [tabE, tabC, tabB, tabA, Tb0, mkO_getD]; try omega)
              have ln := okT.ln
              have hln := ln.len
              have hwh := ln.whole
              have hat := ln.at114
              have hset : setCells (tabE l L).cells 114 [slAV Rl.cells (some (L ++ [x]))] = (tabE l (L ++ [x])).cells := by rw [ln.set_rails (some (L ++ [x]))]; simp [tabE, mkO]
              have hatr : (tabE l L).rails = mkO L := rfl
              rw [hatr] at hat
              simp only [slAV_some, List.map_append, List.map_cons, List.map_nil] at hset
              cases L with
              | nil =>
                simp only [List.map_nil, List.nil_append, mkO, if_true, slAV_none] at hset hat hnext
                try simp only [I, B, D, RY, ↓ KW, seval, mkO, ownL]
                refine cd_split (fun h => ?_) (fun h => ?_) <;> try simp only [I, B, D, RY, ↓ KW, seval, hat, hwh, h]
                · have hj1 : (0 : Int) < r - j := of_decide_eq_true h
                  refine call_is (hr _ _ _ _ okT (by omega) (by omega)) ?_
                  try simp only [I, B, D, RY, ↓ KW, seval, hix, hro, hx, Rl.len]
                  try simp only [I, B, D, RY, ↓ KW, seval, hset]
                  refine ⟨by omega, ?_⟩
                  refine back (j + 1) _ (by omega) (by omega) (le_tok2 (by decide) ?_ ?_ ?_ ?_) <;> simp [LX, I, B, D, hnext, hw3, mkO]
                · have hj1 : ¬ (0 : Int) < r - j := of_decide_eq_false h
                  have : j = r.toNat := by omega
                  rw [← this, hL]
                  refine cut_at () trivial ?_
                  refine le_tok2 (by decide) ?_ ?_ ?_ ?_ <;> simp [LX, I, B, D, mkO]
              | cons y ys =>
                simp only [mkO, reduceCtorEq, if_false, slAV_some] at hset hat hnext
                try simp only [I, B, D, RY, ↓ KW, seval, mkO, ownL]
                refine cd_split (fun h => ?_) (fun h => ?_) <;> try simp only [I, B, D, RY, ↓ KW, seval, hat, hwh, h]
                · have hj1 : (0 : Int) < r - j := of_decide_eq_true h
                  refine call_is (hr _ _ _ _ okT (by omega) (by omega)) ?_
                  try simp only [I, B, D, RY, ↓ KW, seval, hix, hro, hx, Rl.len]
                  try simp only [I, B, D, RY, ↓ KW, seval, hset, Rl.len]
                  refine ⟨by simp at hlen ⊢; omega, by omega, ?_⟩
                  refine back (j + 1) _ (by omega) (by omega) (le_tok2 (by decide) ?_ ?_ ?_ ?_) <;> simp [LX, I, B, D, hnext, hw3, mkO]
                · have hj1 : ¬ (0 : Int) < r - j := of_decide_eq_false h
                  have : j = r.toNat := by omega
                  rw [← this, hL]
                  refine cut_at () trivial ?_
                  refine le_tok2 (by decide) ?_ ?_ ?_ ?_ <;> simp [LX, I, B, D, mkO]
            · refine le_tok2 (by decide) ?_ ?_ ?_ ?_ <;> simp [LX, I, B, D, hDe, railTo, mkO]
          · intro _ _
            have hb3 := frm_range l 177 (n := 3) (by decide) (by decide)
            have hFe : tabF l (busTo l N (frm l 177 3) (frm l 177 3).toNat) = { tabPre l with extend := 0, budget := 0, start := 0, revert := 0, least := 0, share := 0 } := by subst hNe; rfl
            have hu : 0 ≤ IntKind.u64.wrap (N : Int) := by rw [IntKind.wrap]; simp [IntKind.signed]; omega
            try simp only [I, B, D, RY, ↓ KW, seval]
            refine call_is (hF _ _ _ (by decide)) ?_
            generalize frm l 177 3 = b at *
            try simp only [I, B, D, RY, ↓ KW, seval]
            refine aw_cut (.exit 10) (fun _ : Unit => (⟨[(4, .dat (I N) none), (3, .ptr 5 0), (0, .dat (slAV intRow l) none), (2, .ptr 4 0)], [(5, ⟨(tabF l (busTo l N b b.toNat)).cells, []⟩), (4, ⟨Tb0.cells, []⟩)], [], 400⟩ : S)) (fun _ => True) (fun _ => rfl) ?_ ?_
            · refine aw_loop' (fun j : Nat => (⟨[(11, .dat (I (b - j)) none), (4, .dat (I N) none), (3, .ptr 5 0), (0, .dat (slAV intRow l) none), (2, .ptr 4 0)], [(5, ⟨(tabF l (busTo l N b j)).cells, if busTo l N b j = [] then [] else [(115, 0)]⟩), (4, ⟨Tb0.cells, []⟩)], ownL (busTo l N b j) 0 eB, 400⟩ : S)) (fun j => b.toNat - j) (fun j => j ≤ b.toNat) ?_ 0 (by omega) ?_
              · intro j hj A back
                have hw3 : IntKind.i64.wrap (b - j - 1) = b - ((j + 1 : Nat) : Int) := by rw [wrap_id (by omega) (by omega)]; omega
                have hi1 : IntKind.i64.wrap (330 + IntKind.i64.wrap (2 * (b - (j : Int)))) = 330 + 2 * (b - j) := by rw [wrap_id (n := 2 * (b - (j : Int))) (by omega) (by omega), wrap_id (by omega) (by omega)]
                have hi2 : IntKind.i64.wrap (331 + IntKind.i64.wrap (2 * (b - (j : Int)))) = 331 + 2 * (b - j) := by rw [wrap_id (n := 2 * (b - (j : Int))) (by omega) (by omega), wrap_id (by omega) (by omega)]
                have hbx : (busOf l N (b - j)).cells = [AV.int .i64 (if bAnd .i64 (frm l (330 + 2 * (b - j)) 256) (IntKind.i64.wrap (IntKind.i64.wrap (1 * 2 ^ min (IntKind.u64.wrap (N : Int)).toNat IntKind.i64.bits) - 1)) > 1 then bAnd .i64 (frm l (330 + 2 * (b - j)) 256) (IntKind.i64.wrap (IntKind.i64.wrap (1 * 2 ^ min (IntKind.u64.wrap (N : Int)).toNat IntKind.i64.bits) - 1)) else 1), AV.int .i64 (IntKind.i64.wrap (1 + frm l (331 + 2 * (b - j)) 30))] := rfl
                have hnext := busTo_next  l N b j
                have hlen : (busTo l N b j).length = j := busTo_len ..
                generalize hL : busTo l N b j = L at *
                generalize hx : busOf l N (b - j) = x at *
                have okT : (tabF l L).Ok := ok_of rfl (phTo_len l _) (confTo_len _) (tabPre_flash l) (by simp [tabF, tabC, tabB, tabA, Tb0, mkO_getD, tabPre_dets]; try omega) (by simp [tabF, tabC, tabB, tabA, Tb0, mkO_getD, tabPre_rails]; try omega) (by simp [tabF, tabC, tabB, tabA, Tb0, mkO_getD]; try omega)
                have ln := okT.ln
                have hln := ln.len
                have hwh := ln.whole
                have hat := ln.at115
                have hset : setCells (tabF l L).cells 115 [slAV Bs.cells (some (L ++ [x]))] = (tabF l (L ++ [x])).cells := by rw [ln.set_buses (some (L ++ [x]))]; simp [tabF, mkO]
                have hatr : (tabF l L).buses = mkO L := rfl
                rw [hatr] at hat
                simp only [slAV_some, List.map_append, List.map_cons, List.map_nil] at hset
                cases L with
                | nil =>
                  simp only [List.map_nil, List.nil_append, mkO, if_true, slAV_none] at hset hat hnext
                  try simp only [I, B, D, RY, ↓ KW, seval, mkO, ownL]
                  refine cd_split (fun h => ?_) (fun h => ?_) <;> try simp only [I, B, D, RY, ↓ KW, seval, hat, hwh, h]
                  · have hj1 : (0 : Int) < b - j := of_decide_eq_true h
                    refine call_is (hF _ _ _ (by decide)) ?_
                    try simp only [I, B, D, RY, ↓ KW, seval, hi1]
                    refine ⟨hu, ?_⟩
                    refine call_is (hF _ _ _ (by decide)) ?_
                    try simp only [I, B, D, RY, ↓ KW, seval, hi2, hi1]
                    simp only [gt_iff_lt] at hbx ⊢
                    rw [hbx] at hset
                    try simp only [I, B, D, RY, ↓ KW, seval, hset]
                    refine ⟨by omega, ?_⟩
                    refine back (j + 1) _ (by omega) (by omega) (le_tok2 (by decide) ?_ ?_ ?_ ?_) <;> simp [LX, I, B, D, hnext, hw3, mkO]
                  · have hj1 : ¬ (0 : Int) < b - j := of_decide_eq_false h
                    have : j = b.toNat := by omega
                    rw [← this, hL]
                    refine cut_at () trivial ?_
                    refine le_tok2 (by decide) ?_ ?_ ?_ ?_ <;> simp [LX, I, B, D, mkO]
                | cons y ys =>
                  simp only [mkO, reduceCtorEq, if_false, slAV_some] at hset hat hnext
                  try simp only [I, B, D, RY, ↓ KW, seval, mkO, ownL]
                  refine cd_split (fun h => ?_) (fun h => ?_) <;> try simp only [I, B, D, RY, ↓ KW, seval, hat, hwh, h]
                  · have hj1 : (0 : Int) < b - j := of_decide_eq_true h
                    refine call_is (hF _ _ _ (by decide)) ?_
                    try simp only [I, B, D, RY, ↓ KW, seval, hi1]
                    refine ⟨hu, ?_⟩
                    refine call_is (hF _ _ _ (by decide)) ?_
                    try simp only [I, B, D, RY, ↓ KW, seval, hi2, hi1]
                    simp only [gt_iff_lt] at hbx ⊢
                    rw [hbx] at hset
                    try simp only [I, B, D, RY, ↓ KW, seval, hset, Bs.len]
                    refine ⟨by simp at hlen ⊢; omega, by omega, ?_⟩
                    refine back (j + 1) _ (by omega) (by omega) (le_tok2 (by decide) ?_ ?_ ?_ ?_) <;> simp [LX, I, B, D, hnext, hw3, mkO]
                  · have hj1 : ¬ (0 : Int) < b - j := of_decide_eq_false h
                    have : j = b.toNat := by omega
                    rw [← this, hL]
                    refine cut_at () trivial ?_
                    refine le_tok2 (by decide) ?_ ?_ ?_ ?_ <;> simp [LX, I, B, D, mkO]
              · refine le_tok2 (by decide) ?_ ?_ ?_ ?_ <;> simp [LX, I, B, D, hEe, busTo, mkO]
            · intro _ _
              have n0 : ({ tabPre l with extend := 0, budget := 0, start := 0, revert := 0, least := 0, share := 0 } : Tb).Ln := ⟨phTo_len l _, confTo_len _, tabPre_flash l⟩
              have n1 : ({ tabPre l with budget := 0, start := 0, revert := 0, least := 0, share := 0 } : Tb).Ln := ⟨phTo_len l _, confTo_len _, tabPre_flash l⟩
              have n2 : ({ tabPre l with start := 0, revert := 0, least := 0, share := 0 } : Tb).Ln := ⟨phTo_len l _, confTo_len _, tabPre_flash l⟩
              have n3 : ({ tabPre l with revert := 0, least := 0, share := 0 } : Tb).Ln := ⟨phTo_len l _, confTo_len _, tabPre_flash l⟩
              have n4 : ({ tabPre l with least := 0, share := 0 } : Tb).Ln := ⟨phTo_len l _, confTo_len _, tabPre_flash l⟩
              have n5 : ({ tabPre l with share := 0 } : Tb).Ln := ⟨phTo_len l _, confTo_len _, tabPre_flash l⟩
              have s0 : setCells ({ tabPre l with extend := 0, budget := 0, start := 0, revert := 0, least := 0, share := 0 } : Tb).cells 116 [AV.int .i64 (frm l 178 12)] = ({ tabPre l with budget := 0, start := 0, revert := 0, least := 0, share := 0 } : Tb).cells := (n0.set_nums (frm l 178 12)).1
              have s1 : setCells ({ tabPre l with budget := 0, start := 0, revert := 0, least := 0, share := 0 } : Tb).cells 117 [AV.int .i64 (frm l 179 40)] = ({ tabPre l with start := 0, revert := 0, least := 0, share := 0 } : Tb).cells := (n1.set_nums (frm l 179 40)).2.1
              have s2 : setCells ({ tabPre l with start := 0, revert := 0, least := 0, share := 0 } : Tb).cells 118 [AV.int .i64 (frm l 180 8)] = ({ tabPre l with revert := 0, least := 0, share := 0 } : Tb).cells := (n2.set_nums (frm l 180 8)).2.2.1
              have s3 : setCells ({ tabPre l with revert := 0, least := 0, share := 0 } : Tb).cells 119 [AV.int .i64 (frm l 181 8)] = ({ tabPre l with least := 0, share := 0 } : Tb).cells := (n3.set_nums (frm l 181 8)).2.2.2.1
              have s4 : setCells ({ tabPre l with least := 0, share := 0 } : Tb).cells 120 [AV.int .i64 (frm l 182 12)] = ({ tabPre l with share := 0 } : Tb).cells := (n4.set_nums (frm l 182 12)).2.2.2.2
              have s5 : setCells ({ tabPre l with share := 0 } : Tb).cells 130 [AV.int .i64 (frm l 183 4)] = (tabPre l).cells := (n5.set_last (frm l 183 4)).2
              have k0 := n0.len
              have k1 := n1.len
              have k2 := n2.len
              have k3 := n3.len
              have k4 := n4.len
              have k5 := n5.len
              rw [hFe]
              generalize ({ tabPre l with extend := 0, budget := 0, start := 0, revert := 0, least := 0, share := 0 } : Tb) = T0 at *
              generalize ({ tabPre l with budget := 0, start := 0, revert := 0, least := 0, share := 0 } : Tb) = T1 at *
              generalize ({ tabPre l with start := 0, revert := 0, least := 0, share := 0 } : Tb) = T2 at *
              generalize ({ tabPre l with revert := 0, least := 0, share := 0 } : Tb) = T3 at *
              generalize ({ tabPre l with least := 0, share := 0 } : Tb) = T4 at *
              generalize ({ tabPre l with share := 0 } : Tb) = T5 at *
              have c0 : 117 ≤ T0.cells.length := by omega
              have c1 : 118 ≤ T1.cells.length := by omega
              have c2 : 119 ≤ T2.cells.length := by omega
              have c3 : 120 ≤ T3.cells.length := by omega
              have c4 : 121 ≤ T4.cells.length := by omega
              have c5 : 131 ≤ T5.cells.length := by omega
              try simp only [I, B, D, RY, ↓ KW, seval]
              refine call_is (hF _ _ _ (by decide)) ?_
              try simp only [I, B, D, RY, ↓ KW, seval, s0, s1, s2, s3, s4, s5, c0, c1, c2, c3, c4, c5]
              refine call_is (hF _ _ _ (by decide)) ?_
              try simp only [I, B, D, RY, ↓ KW, seval, s0, s1, s2, s3, s4, s5, c0, c1, c2, c3, c4, c5]
              refine call_is (hF _ _ _ (by decide)) ?_
              try simp only [I, B, D, RY, ↓ KW, seval, s0, s1, s2, s3, s4, s5, c0, c1, c2, c3, c4, c5]
              refine call_is (hF _ _ _ (by decide)) ?_
              try simp only [I, B, D, RY, ↓ KW, seval, s0, s1, s2, s3, s4, s5, c0, c1, c2, c3, c4, c5]
              refine call_is (hF _ _ _ (by decide)) ?_
              try simp only [I, B, D, RY, ↓ KW, seval, s0, s1, s2, s3, s4, s5, c0, c1, c2, c3, c4, c5]
              refine call_is (hF _ _ _ (by decide)) ?_
              try simp only [I, B, D, RY, ↓ KW, seval, s0, s1, s2, s3, s4, s5, c0, c1, c2, c3, c4, c5]
              have hT : tableOf l = tabW l (if railTo t1 l N r r.toNat = [] then 0 else winTo (tabPre l) N) := hTab
              have hW0 : tabPre l = tabW l (if railTo t1 l N r r.toNat = [] then 0 else winTo (tabPre l) 0) := by
                have : (if railTo t1 l N r r.toNat = [] then (0 : Int) else winTo (tabPre l) 0) = 0 := by split <;> rfl
                rw [this]; rfl
              replace hW0 := congrArg Tb.cells hW0
              generalize railTo t1 l N r r.toNat = R at *
              refine aw_cut (.exit 12) (fun _ : Unit => (⟨[(3, .ptr 5 0), (2, .ptr 4 0)], [(5, ⟨(tableOf l).cells, []⟩), (4, ⟨Tb0.cells, []⟩)], [], 400⟩ : S)) (fun _ => True) (fun _ => rfl) ?_ ?_
              · refine aw_loop' (fun k : Nat => (⟨[(12, .dat (I k) none), (4, .dat (I N) none), (3, .ptr 5 0), (2, .ptr 4 0)], [(5, ⟨(tabW l (if R = [] then 0 else winTo (tabPre l) k)).cells, []⟩), (4, ⟨Tb0.cells, []⟩)], [], 400⟩ : S)) (fun k => N - k) (fun k => k ≤ N ∧ (R = [] → k = 0)) ?_ 0 (by simp) ?_
                · intro k ⟨hk, hR0⟩ A back
                  have hw3 := wrap_succ (k := k) (by omega)
                  have hwt : ∀ w, waitI (tabW l w) k = waitI (tabPre l) k := fun _ => rfl
                  have hnx : winTo (tabPre l) (k + 1) = if waitI (tabPre l) k > winTo (tabPre l) k then waitI (tabPre l) k else winTo (tabPre l) k := rfl
                  generalize hwv : (if R = [] then (0 : Int) else winTo (tabPre l) k) = wv at *
                  have okW : (tabW l wv).Ok := ok_of rfl (phTo_len l _) (confTo_len _) (tabPre_flash l) (tabPre_dets l) (tabPre_rails l) (by have := frm_range l 177 (n := 3) (by decide) (by decide); simp only [tabW, tabPre, mkO_getD, busTo_len]; omega)
                  have ln := okW.ln
                  have hln := ln.len
                  have hwh := ln.whole
                  have hat := ln.at114
                  have hat2 := ln.at129
                  have hrr : (tabW l wv).rails = mkO R := hRl
                  have hww : (tabW l wv).window = wv := rfl
                  rw [hrr] at hat
                  rw [hww] at hat2
                  have hset : setCells (tabW l wv).cells 129 [AV.int .i64 (if waitI (tabPre l) k > wv then waitI (tabPre l) k else wv)] = (tabW l (if waitI (tabPre l) k > wv then waitI (tabPre l) k else wv)).cells := (ln.set_last _).1
                  have hmk := mkO_getD R
                  try simp only [I, B, D, RY, ↓ KW, seval]
                  repeat' (((first | refine gd_split ?_ ?_ | refine cd_split ?_ ?_ | refine pk_split ?_ ?_) <;> intro h) <;> try simp only [I, B, D, RY, ↓ KW, seval, hat, hmk, h])
                  · have hRl0 := of_decide_eq_true h
                    have hkN : (k : Int) < N := by rename_i h1; exact of_decide_eq_true h1
                    have hne : R ≠ [] := by intro e; rw [e] at hRl0; simp at hRl0
                    rw [if_neg hne] at hwv
                    subst hwv
                    rw [← hnx] at hset
                    try simp only [I, B, D, RY, ↓ KW, seval, hat2, hwh]
                    refine call_is (hw _ _ okW) ?_
                    try simp only [I, B, D, RY, ↓ KW, seval, hwt, ← hnx, hset, gt_iff_lt]
                    refine ⟨by omega, ?_⟩
                    refine back (k + 1) _ ⟨by omega, fun e => absurd e hne⟩ (by omega) ?_
                    refine le_tok2 (by decide) ?_ ?_ ?_ ?_ <;> simp [LX, I, B, D, hne, hw3]
                  · have hRl0 := of_decide_eq_false h
                    have hR0' : R = [] := List.eq_nil_of_length_eq_zero (by omega)
                    rw [if_pos hR0'] at hwv hT
                    subst hwv
                    refine cut_at () trivial ?_
                    refine le_tok2 (by decide) ?_ ?_ ?_ ?_ <;> simp [LX, I, B, D, hT]
                  · have hkN : k = N := by have := of_decide_eq_false h; omega
                    rw [← hkN, hwv] at hT
                    refine cut_at () trivial ?_
                    refine le_tok2 (by decide) ?_ ?_ ?_ ?_ <;> simp [LX, I, B, D, hT]
                · refine le_tok2 (by decide) ?_ ?_ ?_ ?_ <;> simp [LX, I, B, D, hW0]
              · intro _ _
                have okZ : (tableOf l).Ok := tableOf_ok l
                have hlz := okZ.ln.len
                have hwz := okZ.ln.whole
                have hl0 := ok0.ln.len
                have hsz : setCells Tb0.cells 0 (tableOf l).cells = (tableOf l).cells := set_all (by omega)
                try simp only [I, B, D, RY, ↓ KW, seval, hwz, hlz, hl0, hsz]
end
end Go.Eng
namespace Go.Eng
set_option linter.unusedVariables false
set_option linter.unusedSimpArgs false
set_option linter.unnecessarySimpa false
open Go
set_option linter.unusedVariables false
set_option linter.unusedSimpArgs false
set_option maxRecDepth 10000
set_option maxHeartbeats 4000000
def bv (s : Int) : BitVec 64 := BitVec.ofInt 64 s
def tb (s : Int) (i : Nat) : Bool := (bv s).getLsbD i
theorem wrap_mod (n : Int) : IntKind.i64.wrap n % 18446744073709551616 = n % 18446744073709551616 := by
  simp only [IntKind.wrap, IntKind.bits, IntKind.signed]
  simp
  split <;> omega
theorem bv_wrap (n : Int) : bv (IntKind.i64.wrap n) = bv n := by
  unfold bv
  apply BitVec.eq_of_toNat_eq
  have := wrap_mod n
  simp only [BitVec.toNat_ofInt]
  have e : ((2 ^ 64 : Nat) : Int) = 18446744073709551616 := by decide
  rw [e, this]
theorem bv_nat (b : BitVec 64) : bv (b.toNat : Int) = b := by
  unfold bv
  rw [BitVec.ofInt_natCast]; simp
theorem bv_and (x y : Int) : bv (bAnd .i64 x y) = bv x &&& bv y := by
  simp only [bAnd, bv_wrap]; exact bv_nat _
theorem bv_or (x y : Int) : bv (bOr .i64 x y) = bv x ||| bv y := by
  simp only [bOr, bv_wrap]; exact bv_nat _
theorem bv_andNot (x y : Int) : bv (bAndNot .i64 x y) = bv x &&& ~~~(bv y) := by
  simp only [bAndNot, bv_wrap]; exact bv_nat _
theorem wrap_zero {b : BitVec 64} : IntKind.i64.wrap (b.toNat : Int) = 0 ↔ b = 0 := by
  constructor
  · intro h
    have := wrap_mod (b.toNat : Int)
    rw [h] at this
    have h2 := b.isLt
    apply BitVec.eq_of_toNat_eq
    simp only [BitVec.toNat_zero, BitVec.ofNat_eq_ofNat] at *
    omega
  · rintro rfl; decide
theorem and_zero {x y : Int} : bAnd .i64 x y = 0 ↔ ∀ i, i < 64 → (tb x i && tb y i) = false := by
  rw [show bAnd .i64 x y = IntKind.i64.wrap ((bv x &&& bv y).toNat : Int) from rfl, wrap_zero]
  constructor
  · intro h i hi; have := congrArg (fun b => b.getLsbD i) h; simpa [tb] using this
  · intro h; apply BitVec.eq_of_getLsbD_eq; intro i hi; simpa [tb] using h i hi
theorem andNot_zero {x y : Int} : bAndNot .i64 x y = 0 ↔ ∀ i, i < 64 → (tb x i && !tb y i) = false := by
  rw [show bAndNot .i64 x y = IntKind.i64.wrap ((bv x &&& ~~~(bv y)).toNat : Int) from rfl, wrap_zero]
  constructor
  · intro h i hi; have := congrArg (fun b => b.getLsbD i) h; simpa [tb, hi] using this
  · intro h; apply BitVec.eq_of_getLsbD_eq; intro i hi; simpa [tb, hi] using h i hi
theorem tb_and (x y : Int) (i : Nat) : tb (bAnd .i64 x y) i = (tb x i && tb y i) := by simp [tb, bv_and]
theorem tb_or (x y : Int) (i : Nat) : tb (bOr .i64 x y) i = (tb x i || tb y i) := by simp [tb, bv_or]
theorem tb_andNot (x y : Int) (i : Nat) (h : i < 64) : tb (bAndNot .i64 x y) i = (tb x i && !tb y i) := by simp [tb, bv_andNot, h]
theorem tb_zero (i : Nat) : tb 0 i = false := by simp [tb, bv]
theorem tb_255 (i : Nat) : tb 255 i = decide (i < 8) := by
  have : bv 255 = 255#64 := rfl
  simp only [tb, this, BitVec.getLsbD_ofNat]
  by_cases h : i < 8
  · have : i = 0 ∨ i = 1 ∨ i = 2 ∨ i = 3 ∨ i = 4 ∨ i = 5 ∨ i = 6 ∨ i = 7 := by omega
    rcases this with rfl | rfl | rfl | rfl | rfl | rfl | rfl | rfl <;> decide
  · simp only [h, decide_false, Bool.and_eq_false_imp]
    intro _
    apply Nat.testBit_lt_two_pow
    exact Nat.lt_of_lt_of_le (by decide : 255 < 2 ^ 8) (Nat.pow_le_pow_right (by decide) (by omega))
theorem tb_pow {p : Nat} (hp : p < 8) (i : Nat) : tb (2 ^ p) i = decide (i = p) := by
  have e : bv (2 ^ p) = BitVec.twoPow 64 p := by
    have : p = 0 ∨ p = 1 ∨ p = 2 ∨ p = 3 ∨ p = 4 ∨ p = 5 ∨ p = 6 ∨ p = 7 := by omega
    rcases this with rfl | rfl | rfl | rfl | rfl | rfl | rfl | rfl <;> rfl
  simp only [tb, e, BitVec.getLsbD_twoPow]
  by_cases h : i = p <;> simp [h]
  · omega
  · omega
theorem tb_bit {p : Nat} (hp : p < 8) (i : Nat) : tb (bitI p) i = decide (i = p) := by
  have : bitI p = 2 ^ p := by simp [bitI]; omega
  rw [this, tb_pow hp]
theorem hasS_tb {s : Int} {p : Nat} (hp : p < 8) : hasS s p = tb s p := by
  have h : hasS s p = !(bAnd .i64 s (bitI p) == 0) := rfl
  rw [h]
  cases ht : tb s p with
  | true =>
    have : ¬ bAnd .i64 s (bitI p) = 0 := by
      rw [and_zero]; intro h; have := h p (by omega); rw [ht, tb_bit hp] at this; simp at this
    simp [this]
  | false =>
    have : bAnd .i64 s (bitI p) = 0 := by
      rw [and_zero]; intro i _
      by_cases hi : i = p
      · subst hi; rw [ht]; rfl
      · rw [tb_bit hp]; simp [hi]
    simp [this]
theorem tb_with {s : Int} {p : Nat} (hp : p < 8) (i : Nat) : tb (withS s p) i = (tb s i && decide (i < 8) || decide (i = p)) := by
  simp only [withS, tb_or, tb_and, tb_255, tb_bit hp]
theorem tb_ofTo (l : List Int) : ∀ k, k ≤ 8 → ∀ i, tb (ofTo l k) i = (decide (i < k) && decide ((i : Int) ∈ l))
  | 0, _, i => by simp [ofTo, tb_zero]
  | k + 1, h, i => by
    have ih := tb_ofTo l k (by omega) i
    simp only [ofTo]
    split
    · rename_i hk
      rw [tb_or, ih, tb_pow (by omega)]
      by_cases e : i = k
      · subst e; simp [hk]
      · have : (i < k + 1) ↔ i < k := by omega
        simp [e, this]
    · rename_i hk
      rw [ih]
      by_cases e : i = k
      · subst e; simp [hk]
      · have : (i < k + 1) ↔ i < k := by omega
        simp [this]
theorem tb_of (l : List Int) (i : Nat) : tb (ofI l) i = (decide (i < 8) && decide ((i : Int) ∈ l)) := tb_ofTo l 8 (by omega) i
theorem tb_num (s : Int) {p : Nat} (hp : p < 64) : tb s p = decide (s.fdiv (2 ^ p) % 2 = 1) := by
  have e : (bv s).toNat = (s % 18446744073709551616).toNat := by
    simp only [bv, BitVec.toNat_ofInt]; rfl
  have h1 : tb s p = (bv s).toNat.testBit p := rfl
  rw [h1, e, Nat.testBit_eq_decide_div_mod_eq]
  congr 1
  have hf : s.fdiv (2 ^ p) = s / 2 ^ p := Int.fdiv_eq_ediv_of_nonneg _ (Int.le_of_lt (Int.pow_pos (by decide)))
  rw [hf, eq_iff_iff]
  have h0 : 0 ≤ s % 18446744073709551616 := Int.emod_nonneg _ (by decide)
  have hc : (((s % 18446744073709551616).toNat / 2 ^ p % 2 : Nat) : Int) = (s % 18446744073709551616) / 2 ^ p % 2 := by
    push_cast [Int.toNat_of_nonneg h0]; rfl
  have key : (s % 18446744073709551616) / 2 ^ p % 2 = s / 2 ^ p % 2 := by
    have hpw : (18446744073709551616 : Int) = 2 ^ p * (2 * 2 ^ (63 - p)) := by
      rw [show (2 : Int) ^ p * (2 * 2 ^ (63 - p)) = 2 ^ (p + (1 + (63 - p))) by rw [Int.pow_add, Int.pow_add]; rfl, show p + (1 + (63 - p)) = 64 by omega]; rfl
    have h2 : s = s % 18446744073709551616 + 2 ^ p * (2 * 2 ^ (63 - p) * (s / 18446744073709551616)) := by
      have := Int.emod_add_mul_ediv s 18446744073709551616
      rw [← Int.mul_assoc, ← Int.mul_assoc, Int.mul_assoc (2 ^ p), ← hpw]; omega
    conv => rhs; rw [h2]
    rw [Int.add_mul_ediv_left _ _ (Int.ne_of_gt (Int.pow_pos (by decide))), Int.mul_assoc, Int.add_mul_emod_self_left]
  rw [← key, ← hc]
  omega
theorem bAnd_one (x : Int) : bAnd .i64 x 1 = if tb x 0 then 1 else 0 := by
  have e : bAnd .i64 x 1 = IntKind.i64.wrap ((bv x &&& 1#64).toNat : Int) := rfl
  have e2 : bv x &&& 1#64 = if tb x 0 then 1#64 else 0#64 := by
    apply BitVec.eq_of_getLsbD_eq
    intro i hi
    simp only [BitVec.getLsbD_and, BitVec.getLsbD_one]
    by_cases h : i = 0
    · subst h; cases hx : tb x 0 <;> simp [tb] at hx ⊢ <;> simp [hx]
    · split <;> simp [h, BitVec.getLsbD_one]
  rw [e, e2]; split <;> decide
theorem hasR_tb {s : Int} {p : Nat} (hp : p < 8) : hasR s p = tb s p := by
  have h1 : tb (s.fdiv (2 ^ p)) 0 = tb s p := by
    rw [tb_num _ (by omega), tb_num _ (by omega)]
    simp
  simp only [hasR, Int.toNat_natCast, bAnd_one, h1]
  have : (p : Int) < 8 := by omega
  cases tb s p <;> simp [this]
theorem rows_len {α : Type} {l : List α} {f : α → List AV} {n : Nat} (h : ∀ k, (f k).length = n) : ∀ x ∈ l.map f, x.length = n := by
  intro x hx; obtain ⟨k, _, rfl⟩ := List.mem_map.1 hx; exact h k
theorem map_at {α : Type} {l : List α} {f : α → List AV} {i : Nat} {x : List AV} (h : (l.map f)[i]? = some x) : ∃ k, l[i]? = some k ∧ x = f k := by
  rw [List.getElem?_map, Option.map_eq_some_iff] at h; obtain ⟨k, h1, h2⟩ := h; exact ⟨k, h1, h2.symm⟩
theorem aw_rfor' {C : Con} {g : Opd} {ps wr : List Nat} {as bd : CCode} {Q : Exit → S → Prop} {s : S} {gv : AV} {xs : List (List AV)} {α : Type} (hd : α → S) (I : Nat → α → Prop)
    (hit : C.i gv xs) (hg : opdA s g = some gv) (hlen : ∀ x ∈ xs, x.length = ps.length) (hgd : ∀ y, opdA (hd y) g = some gv)
    (round : ∀ i x y, xs[i]? = some x → I i y → ∀ F : S → Prop, (∀ z s, I (i + 1) z → Le s (hd z) → Eng.down F s) → aw C as (onlyN (aw C bd (rfQ wr F Q))) (putPs ps x (hd y)))
    (fin : ∀ y, I xs.length y → Q .normal (hd y)) (y0 : α) (hI0 : I 0 y0) (h0 : Le s (hd y0)) : aw C (.rfor g ps wr as bd) Q s :=
  aw_rfor hd I hg hit hlen (.inl h0) hI0 hgd (fun i x y hx hy => round i x y hx hy _ fun z s hz hle => ⟨hd z, .inl ⟨hle, z, rfl, hz⟩⟩) fin
end Go.Eng
namespace Go.Eng
set_option linter.unusedVariables false
set_option linter.unusedSimpArgs false
set_option linter.unnecessarySimpa false
open Go
section
open Z
set_option linter.unusedVariables false
def z96_20145 : List AV := [.int .i64 0,.int .i64 0,.int .i64 0,.int .i64 0,.int .i64 0,.int .i64 0,.int .i64 0,.bool false,.bool false,.int .i64 0,.int .i64 0,.int .i64 0,.int .i64 0,.int .i64 0,.int .i64 0,.int .i64 0,.int .i64 0,.int .i64 0,.int .i64 0,.bool false,.bool false,.int .i64 0,.int .i64 0,.int .i64 0,.int .i64 0,.int .i64 0,.int .i64 0,.int .i64 0,.int .i64 0,.int .i64 0,.int .i64 0,.bool false,.bool false,.int .i64 0,.int .i64 0,.int .i64 0,.int .i64 0,.int .i64 0,.int .i64 0,.int .i64 0,.int .i64 0,.int .i64 0,.int .i64 0,.bool false,.bool false,.int .i64 0,.int .i64 0,.int .i64 0,.int .i64 0,.int .i64 0,.int .i64 0,.int .i64 0,.int .i64 0,.int .i64 0,.int .i64 0,.bool false,.bool false,.int .i64 0,.int .i64 0,.int .i64 0,.int .i64 0,.int .i64 0,.int .i64 0,.int .i64 0,.int .i64 0,.int .i64 0,.int .i64 0,.bool false,.bool false,.int .i64 0,.int .i64 0,.int .i64 0,.int .i64 0,.int .i64 0,.int .i64 0,.int .i64 0,.int .i64 0,.int .i64 0,.int .i64 0,.bool false,.bool false,.int .i64 0,.int .i64 0,.int .i64 0,.int .i64 0,.int .i64 0,.int .i64 0,.int .i64 0,.int .i64 0,.int .i64 0,.int .i64 0,.bool false,.bool false,.int .i64 0,.int .i64 0,.int .i64 0]
def cc_ref19_Green (g0 : Nat) : CFn := ⟨18,[.tmp 2],r [o 1 (w 0),V 2 (i 0)] (r [V 3 (i 0)] (j (r [V 4 (i 0)] (u 0 (.loop (j (r [M 5 4,o 6 (bb .lss 5 (i 8))] (c 6 z (.exit 0))) (j (u 1 (r [M 9 4,o 10 (A 1 9 8 12),o 11 (f 10 0),o 12 (l 11),o 13 (bb .eql 12 (i 1))] (c 13 (R [M 14 3,M 15 4,o 16 (.call g0 [t 14,t 15]),M 3 16]) z))) (R [M 7 4,o 8 (bb .add 7 (i 1)),M 4 8])))))) (r [M 17 3,M 2 17] y)))⟩
end
end Go.Eng
namespace Go.Eng
set_option linter.unusedVariables false
set_option linter.unusedSimpArgs false
set_option linter.unnecessarySimpa false
open Go
set_option linter.unusedVariables false
set_option linter.unusedSimpArgs false
set_option maxRecDepth 10000
set_option maxHeartbeats 4000000
structure Rd where
  lock : List Int
  was : Int
  spent : Int
  deriving Inhabited, DecidableEq
def Rd.cells (s : Rd) : List AV := s.lock.map I ++ [I s.was, I s.spent]
structure Rn where
  colour : Int
  time : Int
  fst : Int
  ftime : Int
  left : Int
  press : Int
  extra : Int
  done : Bool
  maxed : Bool
  limit : Int
  up : Int
  down : Int
  deriving Inhabited, DecidableEq
def Rn.cells (r : Rn) : List AV := [I r.colour, I r.time, I r.fst, I r.ftime, I r.left, I r.press, I r.extra, B r.done, B r.maxed, I r.limit, I r.up, I r.down]
theorem Rn.len (r : Rn) : r.cells.length = 12 := rfl
def runsC (l : List Rn) : List AV := l.flatMap Rn.cells
theorem runsC_len {l : List Rn} (h : l.length = 8) : (runsC l).length = 96 := by rw [runsC, flatMap_len Rn.len, h]
def lockAt (s : Rd) (k : Nat) : Int := s.lock.getD k 0
def busAt (t : Tb) (k : Nat) : Bs := (t.buses.getD []).getD k default
def nBus (t : Tb) : Nat := min (t.buses.getD []).length 4
def eachK (t : Tb) (s : Int) : List Nat := (List.range (nBus t)).filter fun k => tb s k
def busRow (t : Tb) (k : Nat) : List AV := [I k, .agg (busAt t k).cells]
theorem Rd.len {s : Rd} (h : s.lock.length = 4) : s.cells.length = 6 := by simp [Rd.cells, h]
theorem Rd.whole {s : Rd} (h : s.lock.length = 4) : partA s.cells 0 (some 6) = some (.agg s.cells) := by
  have := Rd.len h
  simp [partA, this]
  rw [← this, List.take_length]
theorem runs_whole {l : List Rn} (h : l.length = 8) : partA (runsC l) 0 (some 96) = some (.agg (runsC l)) := by
  have := runsC_len h
  simp [partA, this]
  rw [← this, List.take_length]
theorem runs_at {l : List Rn} {k : Nat} (h : l.length = 8) (hk : k < 8) : partA (runsC l) (k * 12) (some 12) = some (.agg (l.getD k default).cells) := by
  have hget : l[k]? = some (l.getD k default) := by
    have : k < l.length := by omega
    simp [this]
  rw [runsC, flatMap_at hget]
  exact part_mid (by rw [flatMap_len Rn.len, take_len hget]) rfl
section
variable {P : Program} (hm : P.follows .mixedOrders = true) {f : Nat}
include hm
def each1.Spec (C : Con) (f : Nat) : Prop := ∀ (t : Tb) (s : Int), t.Ok → C.i (.fn (.func f) [] [.ref t.cells, .ref [I s]]) ((eachK t s).map (busRow t))
end
theorem shr_and (x : Int) {k : Nat} (hk : k < 8) : bAnd .i64 (x.fdiv (2 ^ min k IntKind.i64.bits)) 1 = if tb x k then 1 else 0 := by
  have e : min k IntKind.i64.bits = k := by have : IntKind.i64.bits = 64 := rfl; omega
  have h1 : tb (x.fdiv (2 ^ k)) 0 = tb x k := by
    rw [tb_num _ (by omega), tb_num _ (by omega)]
    simp
  rw [e, bAnd_one, h1]
section
variable {P : Program} (hm : P.follows .mixedOrders = true) {f : Nat}
include hm
def greenTo (l : List Rn) : Nat → Int
  | 0 => 0
  | k + 1 => if (l.getD k default).colour = 1 then withR (greenTo l k) k else greenTo l k
def green19.Spec (C : Con) (f : Nat) : Prop := ∀ (l : List Rn), l.length = 8 → C.c f [.agg (runsC l)] (I (greenTo l 8)) none
omit hm in
theorem run_colour {l : List Rn} {k : Nat} (h : l.length = 8) (hk : k < 8) : (runsC l)[k * 12]? = some (AV.int .i64 (l.getD k default).colour) := by
  have hget : l[k]? = some (l.getD k default) := by
    have : k < l.length := by omega
    simp [this]
  rw [runsC, flatMap_at hget, List.getElem?_append_right (by rw [flatMap_len Rn.len, take_len hget]; omega), flatMap_len Rn.len, take_len hget]
  simp [Rn.cells]
theorem green19.ok {fW : Nat} (hc : cFn P f = some (cc_ref19_Green fW)) (hW : refWith.Spec (Pure P) fW) : green19.Spec (Pure P) f := by
  intro l hl
  refine pure_of hm hc (by show 1 ≤ 18; decide) (aw_flat (keep := []) (i := 0) ?_)
  try simp only [I, B, D, RX, ↓ KW, seval, cc_ref19_Green, Z.H]
  refine aw_loop' (fun k : Nat => (⟨[(4, .dat (I k) none), (1, .ptr 4 0), (3, .dat (I (greenTo l k)) none)], [(4, ⟨runsC l, []⟩)], [], 400⟩ : S)) (fun k => 8 - k) (fun k => k ≤ 8) ?_ 0 (by omega) ?_
  · intro k hk A back
    have hw := wrap_succ (k := k) (by omega)
    try simp only [I, B, D, RX, ↓ KW, seval]
    refine cd_split (fun h => ?_) (fun h => ?_) <;> try simp only [I, B, D, RX, ↓ KW, seval, h]
    · have h8 : k < 8 := by have := of_decide_eq_true h; omega
      have hat := run_colour hl h8
      have hn : greenTo l (k + 1) = if (l.getD k default).colour = 1 then withR (greenTo l k) k else greenTo l k := rfl
      generalize l.getD k default = r at *
      refine ⟨by omega, ?_⟩
      try simp only [I, B, D, RX, ↓ KW, seval, hat]
      refine cd_split (fun h2 => ?_) (fun h2 => ?_) <;> try simp only [I, B, D, RX, ↓ KW, seval, h2]
      · have h2' : r.colour = 1 := by simpa using h2
        refine call_is (hW _ _) ?_
        try simp only [I, B, D, RX, ↓ KW, seval]
        refine back (k + 1) _ (by omega) (by omega) (le_tok2 (by decide) ?_ ?_ ?_ ?_) <;> simp [LX, I, B, D, hw, hn, h2']
      · have h2' : ¬ r.colour = 1 := by simpa using h2
        refine back (k + 1) _ (by omega) (by omega) (le_tok2 (by decide) ?_ ?_ ?_ ?_) <;> simp [LX, I, B, D, hw, hn, h2']
    · have : k = 8 := by have := of_decide_eq_false h; omega
      subst this
      try simp only [I, B, D, RX, ↓ KW, seval]
  · refine le_tok2 (by decide) ?_ ?_ ?_ ?_ <;> simp [LX, I, B, D, greenTo]
end
end Go.Eng
namespace Go.Eng
set_option linter.unusedVariables false
set_option linter.unusedSimpArgs false
set_option linter.unnecessarySimpa false
open Go
section
open Z
set_option linter.unusedVariables false
def cc_law00_Clash (g0 : Nat) : CFn := ⟨21,[.tmp 6],r [o 3 (w 0),V 6 (F)] (r [M 7 1,o 8 (f 3 105),o 9 (A 8 7 8 1),o 10 (l 9),M 11 2,o 12 (.call g0 [t 10,t 11]),M 13 12,q 14 (m 2) 13,q 15 (f 3 105) 13,q 16 (A 15 14 8 1) 13,q 17 (l 16) 13,q 18 (m 1) 13,q 19 (.call g0 [t 17,t 18]) 13,o 20 (Q 13 19),M 6 20] y)⟩
def cc_set_Each (g0 : Nat) : CFn := ⟨4,[.tmp 2],r [o 1 (w 0),V 2 .nilfn] (r [o 3 (.mkf (.func g0) [] [t 1]),M 2 3] y)⟩
end
end Go.Eng
namespace Go.Eng
set_option linter.unusedVariables false
set_option linter.unusedSimpArgs false
set_option linter.unnecessarySimpa false
open Go
set_option linter.unusedVariables false
set_option linter.unusedSimpArgs false
set_option maxRecDepth 10000
set_option maxHeartbeats 4000000
structure Sh where
  colour : List Int
  time : List Int
  foot : List Int
  ftime : List Int
  entry : Bool
  deriving Inhabited, DecidableEq
def Sh.cells (s : Sh) : List AV := s.colour.map I ++ (s.time.map I ++ (s.foot.map I ++ (s.ftime.map I ++ [B s.entry])))
structure Sh.Ok (s : Sh) : Prop where
  colour : s.colour.length = 8
  time : s.time.length = 8
  foot : s.foot.length = 8
  ftime : s.ftime.length = 8
def Sh.c (s : Sh) (p : Nat) : Int := s.colour.getD p 0
def Sh.t (s : Sh) (p : Nat) : Int := s.time.getD p 0
def Sh.f (s : Sh) (p : Nat) : Int := s.foot.getD p 0
theorem Sh.len {s : Sh} (h : s.Ok) : s.cells.length = 33 := by simp [Sh.cells, h.colour, h.time, h.foot, h.ftime]
theorem Sh.whole {s : Sh} (h : s.Ok) : partA s.cells 0 (some 33) = some (.agg s.cells) := by
  have := Sh.len h
  simp [partA, this]
  rw [← this, List.take_length]
structure StOk (t : Tb) (a b : Sh) : Prop where
  t : t.Ln
  a : a.Ok
  b : b.Ok
def conAt (t : Tb) (p : Nat) : Int := t.conflict.getD p 0
theorem Tb.Ln.con_at {t : Tb} (h : t.Ln) {p : Nat} (hp : p < 8) : t.cells[105 + p]? = some (I (conAt t p)) := by
  refine h.conflict_at ?_
  have : p < t.conflict.length := by rw [h.conflict]; exact hp
  simp [conAt, this]
def moreE (n : Int) : Int := IntKind.i64.wrap (cutI n 0 9999 + 1)
def each27.Spec (C : Con) (f : Nat) : Prop := ∀ s : Int, ∃ g, C.c f [I s] (.fn (.func g) [] [.ref [I s]]) none ∧ C.i (.fn (.func g) [] [.ref [I s]]) (((List.range 8).filter fun p => tb s p).map fun (p : Nat) => [I p])
def setEach1.Spec (C : Con) (f : Nat) : Prop := ∀ s : Int, C.i (.fn (.func f) [] [.ref [I s]]) (((List.range 8).filter fun p => tb s p).map fun (p : Nat) => [I p])
section
variable {P : Program} (hm : P.follows .mixedOrders = true) {f : Nat}
include hm
theorem setEach.ok {f1 : Nat} (hc : cFn P f = some (cc_set_Each f1)) (h1 : setEach1.Spec (Pure P) f1) : each27.Spec (Pure P) f := by
  intro s
  refine ⟨f1, ?_, h1 s⟩
  refine pure_of hm hc (by show 1 ≤ 4; decide) (aw_flat (keep := []) (i := 0) ?_)
  try simp only [I, B, D, RX, ↓ KW, Nat.reduceBEq, Nat.reduceAdd, Nat.reduceLeDiff, Int.reduceNe, Int.reduceBEq, Int.reduceEq, reduceCtorEq, Nat.reduceMul, Int.reduceLT, Int.reduceLE, Int.reduceToNat, cc_set_Each, Z.H]
  simp
end
end Go.Eng
namespace Go.Eng
set_option linter.unusedVariables false
set_option linter.unusedSimpArgs false
set_option linter.unnecessarySimpa false
open Go
set_option linter.unusedVariables false
set_option linter.unusedSimpArgs false
set_option maxRecDepth 10000
set_option maxHeartbeats 4000000
def Sh.setT (s : Sh) (k : Nat) (x : Int) : Sh := { s with time := s.time.set k x }
section
variable {s : Sh} (h : s.Ok) {k : Nat} (hk : k < 8) (x : Int)
include h
theorem Sh.okT : (s.setT k x).Ok := ⟨h.colour, by simp [Sh.setT, h.time], h.foot, h.ftime⟩
include hk
end
structure Rng where
  group : Int
  a0 : Int
  a1 : Int
  cross : Bool
  deriving Inhabited, DecidableEq
def Rng.cells (r : Rng) : List AV := [I r.group, I r.a0, I r.a1, B r.cross]
structure Pr where
  stage : Int
  which : Int
  time : Int
  held : List Int
  spent : Int
  deriving Inhabited, DecidableEq
def Pr.cells (p : Pr) : List AV := I p.stage :: I p.which :: I p.time :: (p.held.map I ++ [I p.spent])
structure Ch where
  on : Bool
  bad : Int
  won : Int
  woff : Int
  held : Int
  tail : Int
  out : Bool
  deriving Inhabited, DecidableEq
def Ch.cells (c : Ch) : List AV := [B c.on, I c.bad, I c.won, I c.woff, I c.held, I c.tail, B c.out]
structure Stt where
  runs : List Rn
  rings : Rng
  ride : Rd
  pre : Pr
  calls : Cs
  chans : Option (List Ch)
  deriving Inhabited, DecidableEq
def Stt.cells (s : Stt) : List AV := runsC s.runs ++ (s.rings.cells ++ (s.ride.cells ++ (s.pre.cells ++ (s.calls.cells ++ [slAV Ch.cells s.chans]))))
structure Stt.Ok (s : Stt) : Prop where
  runs : s.runs.length = 8
  lock : s.ride.lock.length = 4
  held : s.pre.held.length = 4
section
variable {s : Stt} (h : s.Ok)
include h
theorem Stt.len : s.cells.length = 117 := by
  simp [Stt.cells, runsC_len h.runs, Rng.cells, Rd.cells, Pr.cells, Cs.cells, h.lock, h.held]
theorem Stt.whole : partA s.cells 0 (some 117) = some (.agg s.cells) := by
  have := Stt.len h
  simp [partA, this]
  rw [← this, List.take_length]
end
theorem place_range {v n : Int} (hn : 0 < n) (h2 : n < 1000) : 0 ≤ place v n ∧ place v n < n := by
  have h := Int.tmod_lt_of_pos v hn
  have h3 : -n < v.tmod n := by have := Int.lt_tmod_of_pos v hn; omega
  simp only [place]
  split
  · rw [w64, wrap_id (by omega) (by omega)]; omega
  · omega
end Go.Eng
namespace Go.Eng
set_option linter.unusedVariables false
set_option linter.unusedSimpArgs false
set_option linter.unnecessarySimpa false
open Go
set_option linter.unusedVariables false
set_option linter.unusedSimpArgs false
set_option maxRecDepth 10000
set_option maxHeartbeats 4000000
def clashB (t : Tb) (p q : Nat) : Bool := hasR (conAt t p) q || hasR (conAt t q) p
def clash00.Spec (C : Con) (f : Nat) : Prop := ∀ (t : Tb) (p q : Nat), t.Ln → p < 8 → q < 8 → C.c f [.agg t.cells, I p, I q] (B (clashB t p q)) none
section
variable {P : Program} (hm : P.follows .mixedOrders = true) {f : Nat}
include hm
theorem clash00.ok {fH : Nat} (hc : cFn P f = some (cc_law00_Clash fH)) (hH : refHas.Spec (Pure P) fH) : clash00.Spec (Pure P) f := by
  intro t p q ht hp hq
  have c1 := ht.con_at hp
  have c2 := ht.con_at hq
  have hl := ht.len
  have hx : 0 ≤ (p : Int) ∧ (p : Int) < (8 : Nat) := by omega
  have hy : 0 ≤ (q : Int) ∧ (q : Int) < (8 : Nat) := by omega
  refine pure_of hm hc (by show 3 ≤ 21; decide) (aw_flat (keep := []) (i := 0) ?_)
  try simp only [I, B, D, RX, ↓ KW, Nat.reduceBEq, Nat.reduceAdd, Nat.reduceLeDiff, Int.reduceNe, Int.reduceBEq, Int.reduceEq, reduceCtorEq, Nat.reduceMul, Int.reduceLT, Int.reduceLE, Int.reduceToNat, cc_law00_Clash, Z.H, hl, hx, hy, c1, c2]
  refine call_is (hH _ _) ?_
  try simp only [I, B, D, RX, ↓ KW, Nat.reduceBEq, Nat.reduceAdd, Nat.reduceLeDiff, Int.reduceNe, Int.reduceBEq, Int.reduceEq, reduceCtorEq, Nat.reduceMul, Int.reduceLT, Int.reduceLE, Int.reduceToNat, hx, hy, c1, c2]
  cases h1 : hasR (conAt t p) q
  · try simp only [I, B, D, RX, ↓ KW, Nat.reduceBEq, Nat.reduceAdd, Nat.reduceLeDiff, Int.reduceNe, Int.reduceBEq, Int.reduceEq, reduceCtorEq, Nat.reduceMul, Int.reduceLT, Int.reduceLE, Int.reduceToNat, hx, hy, c1, c2]
    refine call_is (hH _ _) ?_
    try simp only [I, B, D, RX, ↓ KW, Nat.reduceBEq, Nat.reduceAdd, Nat.reduceLeDiff, Int.reduceNe, Int.reduceBEq, Int.reduceEq, reduceCtorEq, Nat.reduceMul, Int.reduceLT, Int.reduceLE, Int.reduceToNat]
    simp [clashB, h1]
  · try simp only [I, B, D, RX, ↓ KW, Nat.reduceBEq, Nat.reduceAdd, Nat.reduceLeDiff, Int.reduceNe, Int.reduceBEq, Int.reduceEq, reduceCtorEq, Nat.reduceMul, Int.reduceLT, Int.reduceLE, Int.reduceToNat, hx, hy, c1, c2]
    simp [clashB, h1]
end
end Go.Eng
namespace Go.Eng
set_option linter.unusedVariables false
set_option linter.unusedSimpArgs false
set_option linter.unnecessarySimpa false
open Go
set_option linter.unusedVariables false
set_option linter.unusedSimpArgs false
set_option maxRecDepth 10000
set_option maxHeartbeats 4000000
open Go.RowKit
def cntF (p : Nat → Bool) (k : Nat) : Nat := ((List.range k).filter p).length
theorem cntF_succ (p : Nat → Bool) (k : Nat) : cntF p (k + 1) = if p k then cntF p k + 1 else cntF p k := by
  simp only [cntF, List.range_succ, List.filter_append, List.filter_cons, List.filter_nil]
  split <;> simp
theorem cntF_at (p : Nat → Bool) {k : Nat} (hp : p k = true) : ∀ n, k < n → ((List.range n).filter p)[cntF p k]? = some k
  | n + 1, h => by
    simp only [List.range_succ, List.filter_append]
    by_cases hk : k < n
    · have ih := cntF_at p hp n hk
      rw [List.getElem?_append_left (List.getElem?_eq_some_iff.1 ih).1, ih]
    · obtain rfl : k = n := by omega
      rw [List.getElem?_append_right (by simp [cntF])]
      simp [cntF, hp]
theorem bits_one (s : Int) {k : Nat} (hk : k < 8) : (bits .and .i64 (s / 2 ^ k) 1 = 1) ↔ tb s k = true := by
  have h := shr_and s hk
  have e : min k IntKind.i64.bits = k := by have : IntKind.i64.bits = 64 := rfl; omega
  rw [e, Int.fdiv_eq_ediv_of_nonneg _ (by exact Int.pow_nonneg (by decide))] at h
  have h' : bits .and .i64 (s / 2 ^ k) 1 = if tb s k then 1 else 0 := h
  rw [h']
  cases tb s k <;> simp
def EachSome (P : Program) (fn : Nat) : Prop := ∀ (l B1 o1 B2 o2 b off len cap : Nat) (s : Int) (f : Nat → Nat → Int) (J : Nat → World → Prop) (Jx : World → Prop) (W : World) (cnt : Nat → Nat), cnt 0 = 0 →
    (∀ k, k < 4 → bits .and .i64 (s / 2 ^ k) 1 = 1 → cnt (k + 1) = cnt k + 1) → (∀ k, k < 4 → ¬ bits .and .i64 (s / 2 ^ k) 1 = 1 → cnt (k + 1) = cnt k) → len ≤ cap →
    W.cell? ⟨B1, o1 + 115, none⟩ = some (.slice (some ⟨b, off, none⟩) len cap) →
    (∀ i wr, J i wr → (∀ k, k < min len 4 → wr.cell? ⟨b, off + k * 2, none⟩ = some (.int .i64 (f k 0)) ∧ wr.cell? ⟨b, off + k * 2 + 1, none⟩ = some (.int .i64 (f k 1))) ∧ wr.cell? ⟨B2, o2, none⟩ = some (.int .i64 s)) →
    (∀ i wr o, J i wr → J i (wr.alloc o)) → (∀ wr o, Jx wr → Jx (wr.alloc o)) →
    (∀ n k wr, k < min len 4 → bits .and .i64 (s / 2 ^ k) 1 = 1 → J (cnt k) wr → YieldAt Fence.wide n P l #[.int .i64 k, .agg #[.int .i64 (f k 0), .int .i64 (f k 1)]] wr fun e W' => (e = .returned (.bool true) ∧ J (cnt k + 1) W') ∨ (e = .returned (.bool false) ∧ Jx W')) →
    J 0 W →
    Calls P fn #[.func (.yield l) #[] #[], .pointer (some ⟨B1, o1, none⟩), .pointer (some ⟨B2, o2, none⟩)] W fun e W' => (∃ v, e = .returned v) ∧ (J (cnt (min len 4)) W' ∨ Jx W')
def EachNone (P : Program) (fn : Nat) : Prop := ∀ (x : Option Addr) (l B1 o1 B2 o2 : Nat) (J : World → Prop) (W : World), W.cell? ⟨B1, o1 + 115, none⟩ = some (.slice x 0 0) → (∀ wr o, J wr → J (wr.alloc o)) → J W →
    Calls P fn #[.func (.yield l) #[] #[], .pointer (some ⟨B1, o1, none⟩), .pointer (some ⟨B2, o2, none⟩)] W fun e W' => (∃ v, e = .returned v) ∧ J W'
theorem below_alloc (w : World) (o : Obj) : Below w.heap.size w (w.alloc o) := (Below.refl _ w).alloc (Nat.le_refl _) o
theorem dv_int {w : World} {π : Nat → Nat → Prop} {k : IntKind} {n : Int} {v : Value} (h : DV w π (.int k n) v) : v = .int k n := by cases h; rfl
theorem each1.of {P : Program} {fn : Nat} (hca : callable P fn = true) (hS : EachSome P fn) (hN : EachNone P fn) : each1.Spec (Pure P) fn := by
  intro t s ht
  refine ⟨fn, _, rfl, hca, ?_, ?_⟩
  · intro x hx a ha
    obtain ⟨k, _, rfl⟩ := List.mem_map.1 hx
    simp only [busRow, List.mem_cons, List.not_mem_nil, or_false] at ha
    rcases ha with rfl | rfl <;> simp [flatV, flat1, Bs.cells, I]
  intro l J Jx W π vs hπ dv hJk hJb hJxb hY h0
  obtain ⟨hlen, hdv⟩ := dv
  match vs, hlen with
  | [v0, v1], _ =>
  have d0 := hdv 0 _ _ rfl rfl
  have d1 := hdv 1 _ _ rfl rfl
  cases d0 with
  | ref _ B1 o1 g1 a1 a2 a3 a4 =>
  cases d1 with
  | ref _ B2 o2 g2 b1 b2 b3 b4 =>
  have hsl := a3 115 _ (Tb.buses_at ht)
  have hdb := a4 115 _ (Tb.buses_at ht)
  have hs0 := b3 0 (I s) rfl
  rw [dv_int (b4 0 (I s) rfl), Nat.add_zero] at hs0
  have hp2 : π B2 o2 := by have := b2 0 (I s) rfl; rwa [Nat.add_zero] at this
  have hst : ∀ i wr o, J i wr → J i (World.alloc wr o) := fun i wr o h => hJb i _ _ h (below_alloc _ _)
  have hstx : ∀ wr o, Jx wr → Jx (World.alloc wr o) := fun wr o h => hJxb _ _ h (below_alloc _ _)
  generalize hgv : g1 115 = gv at hsl hdb
  cases hbb : t.buses with
  | none =>
    rw [hbb] at hdb
    cases hdb
    have he : eachK t s = [] := by simp [eachK, nBus, hbb]
    refine (hN none l B1 o1 B2 o2 (J 0) W hsl (fun wr o => hst 0 wr o) h0).mono ?_
    rintro e W' ⟨h1, h2⟩
    exact ⟨h1, .inl (by rw [he]; exact h2)⟩
  | some L =>
    rw [hbb] at hdb
    generalize hxs : L.map Bs.cells = xs at hdb
    have hdb' : DV W π (.sl xs) gv := by rw [← hxs]; exact hdb
    cases hdb' with
    | sl0 a =>
      have hL : L = [] := by simpa using hxs
      have he : eachK t s = [] := by simp [eachK, nBus, hbb, hL]
      refine (hN (some a) l B1 o1 B2 o2 (J 0) W hsl (fun wr o => hst 0 wr o) h0).mono ?_
      rintro e W' ⟨h1, h2⟩
      exact ⟨h1, .inl (by rw [he]; exact h2)⟩
    | sl _ B off cap z f c1 c2 c3 c4 c5 c6 =>
    have hxl : xs.length = L.length := by rw [← hxs]; simp
    have hrow : ∀ k, k < L.length → xs[k]? = some (busAt t k).cells := fun k hk => by
      rw [← hxs]; simp [busAt, hbb, hk]
    have hz : ∀ k, k < L.length → z = 2 := fun k hk => (c2 k _ (hrow k hk)).symm
    have hcell : ∀ k, k < L.length → (W.cell? ⟨B, off + k * 2, none⟩ = some (.int .i64 (busAt t k).set) ∧ W.cell? ⟨B, off + k * 2 + 1, none⟩ = some (.int .i64 (busAt t k).lock)) ∧ π B (off + k * 2) ∧ π B (off + k * 2 + 1) := fun k hk => by
      have hz' := hz k hk
      subst hz'
      have e0 := c5 k 0 _ _ (hrow k hk) rfl
      have e1 := c5 k 1 _ _ (hrow k hk) rfl
      rw [dv_int (c6 k 0 _ _ (hrow k hk) rfl)] at e0
      rw [dv_int (c6 k 1 _ _ (hrow k hk) rfl)] at e1
      exact ⟨⟨e0, e1⟩, c4 k 0 _ _ (hrow k hk) rfl, c4 k 1 _ _ (hrow k hk) rfl⟩
    have hnb : nBus t = min xs.length 4 := by simp [nBus, hbb, hxl]
    have hek : ((eachK t s).map (busRow t)).length = cntF (fun k => tb s k) (min xs.length 4) := by simp [eachK, cntF, hnb]
    rw [hek]
    refine hS l B1 o1 B2 o2 B off xs.length cap s (fun k c => if c = 0 then (busAt t k).set else (busAt t k).lock) J Jx W (cntF fun k => tb s k) rfl ?_ ?_ c1 hsl ?_ hst hstx ?_ h0
    · intro k hk hb; rw [cntF_succ, if_pos ((bits_one s (by omega)).1 hb)]
    · intro k hk hb; rw [cntF_succ, if_neg (fun h => hb ((bits_one s (by omega)).2 h))]
    · intro i wr hJ
      refine ⟨fun k hk => ?_, ?_⟩
      · obtain ⟨⟨e0, e1⟩, p0, p1⟩ := hcell k (by omega)
        simp only [if_true, if_neg (show ¬ (1 : Nat) = 0 by decide)]
        exact ⟨(hJk i wr hJ _ _ p0).trans e0, (hJk i wr hJ _ _ p1).trans e1⟩
      · exact (hJk i wr hJ _ _ hp2).trans hs0
    · intro n k wr hk hb hJ
      have hb' := (bits_one s (by omega)).1 hb
      have hat := cntF_at (fun k => tb s k) hb' (nBus t) (by omega)
      have hx : ((eachK t s).map (busRow t))[cntF (fun k => tb s k) k]? = some (busRow t k) := by rw [List.getElem?_map, eachK, hat]; rfl
      exact hY n _ _ wr hx hJ
end Go.Eng
namespace Go.Eng
set_option linter.unusedVariables false
set_option linter.unusedSimpArgs false
set_option linter.unnecessarySimpa false
open Go
set_option linter.unusedVariables false
set_option linter.unusedSimpArgs false
set_option maxRecDepth 10000
set_option maxHeartbeats 4000000
open Go.RowKit
def HasCall (P : Program) (fH : Nat) : Prop := ∀ (s p : Int) (w : World), Calls P fH #[.int .i64 s, .int .i64 p] w fun e w' => e = .returned (.bool (hasS s p)) ∧ Below w.heap.size w w'
theorem HasCall.of {P : Program} {fH : Nat} (h : setHas.Spec (Pure P) fH) : HasCall P fH := by
  intro s p w
  refine ((h s p).2 w (fun _ _ => False) [.int .i64 s, .int .i64 p] (fun _ _ h => h.elim) ⟨rfl, ?_⟩).mono fun e w' ⟨v, π', he, hb, _, _, _, hdv, _⟩ => ?_
  · intro i a v ha hv
    match i with
    | 0 => simp at ha hv; subst ha; subst hv; exact .int _ _
    | 1 => simp at ha hv; subst ha; subst hv; exact .int _ _
    | i + 2 => simp at ha
  cases hdv
  exact ⟨he, hb⟩
def SetEach (P : Program) (fn : Nat) : Prop := ∀ (l B2 o2 : Nat) (s : Int) (J : Nat → World → Prop) (Jx : World → Prop) (W : World) (cnt : Nat → Nat), cnt 0 = 0 →
    (∀ k : Nat, k < 8 → hasS s k = true → cnt (k + 1) = cnt k + 1) → (∀ k : Nat, k < 8 → hasS s k = false → cnt (k + 1) = cnt k) →
    (∀ i wr, J i wr → wr.cell? ⟨B2, o2, none⟩ = some (.int .i64 s)) →
    (∀ i wr wr', J i wr → Below wr.heap.size wr wr' → J i wr') → (∀ wr wr', Jx wr → Below wr.heap.size wr wr' → Jx wr') →
    (∀ (n k : Nat) wr, k < 8 → hasS s k = true → J (cnt k) wr → YieldAt Fence.wide n P l #[.int .i64 k] wr fun e W' => (e = .returned (.bool true) ∧ J (cnt k + 1) W') ∨ (e = .returned (.bool false) ∧ Jx W')) →
    J 0 W →
    Calls P fn #[.func (.yield l) #[] #[], .pointer (some ⟨B2, o2, none⟩)] W fun e W' => (∃ v, e = .returned v) ∧ (J (cnt 8) W' ∨ Jx W')
theorem setEach1.of {P : Program} {fn : Nat} (hca : callable P fn = true) (hS : SetEach P fn) : setEach1.Spec (Pure P) fn := by
  intro s
  refine ⟨fn, _, rfl, hca, ?_, ?_⟩
  · intro x hx a ha
    obtain ⟨k, _, rfl⟩ := List.mem_map.1 hx
    simp only [List.mem_cons, List.not_mem_nil, or_false] at ha
    subst ha; simp [flatV, flat1, I]
  intro l J Jx W π vs hπ dv hJk hJb hJxb hY h0
  obtain ⟨hlen, hdv⟩ := dv
  match vs, hlen with
  | [v1], _ =>
  have d1 := hdv 0 _ _ rfl rfl
  cases d1 with
  | ref _ B2 o2 g2 b1 b2 b3 b4 =>
  have hs0 := b3 0 (I s) rfl
  rw [dv_int (b4 0 (I s) rfl), Nat.add_zero] at hs0
  have hp2 : π B2 o2 := by have := b2 0 (I s) rfl; rwa [Nat.add_zero] at this
  have hek : (((List.range 8).filter fun p => tb s p).map fun (p : Nat) => [I p]).length = cntF (fun k => tb s k) 8 := by simp [cntF]
  rw [hek]
  refine hS l B2 o2 s J Jx W (cntF fun k => tb s k) rfl ?_ ?_ ?_ (fun i wr wr' h hb => hJb i _ _ h hb) (fun wr wr' h hb => hJxb _ _ h hb) ?_ h0
  · intro k hk hb; rw [hasS_tb (by omega)] at hb; rw [cntF_succ, if_pos hb]
  · intro k hk hb; rw [hasS_tb (by omega)] at hb; rw [cntF_succ, if_neg (by rw [hb]; simp)]
  · intro i wr hJ
    exact (hJk i wr hJ _ _ hp2).trans hs0
  · intro n k wr hk hb hJ
    rw [hasS_tb (by omega)] at hb
    have hat := cntF_at (fun k => tb s k) hb 8 (by omega)
    have hx : (((List.range 8).filter fun p => tb s p).map fun (p : Nat) => [I p])[cntF (fun k => tb s k) k]? = some [I k] := by rw [List.getElem?_map, hat]; rfl
    exact hY n _ _ wr hx hJ
end Go.Eng
namespace Go.Eng
set_option linter.unusedVariables false
set_option linter.unusedSimpArgs false
set_option linter.unnecessarySimpa false
open Ieee
set_option linter.unusedVariables false
set_option linter.unusedSimpArgs false
set_option exponentiation.threshold 4000
def rnd (n d : Nat) : Nat := n / 2 ^ d + (if 2 ^ d < 2 * (n % 2 ^ d) ∨ (2 ^ d = 2 * (n % 2 ^ d) ∧ n / 2 ^ d % 2 = 1) then 1 else 0)
theorem pow_pos2 (d : Nat) : 0 < 2 ^ d := Nat.two_pow_pos d
theorem rnd_le (n d : Nat) : rnd n d ≤ n / 2 ^ d + 1 := by unfold rnd; split <;> omega
theorem le_rnd (n d : Nat) : n / 2 ^ d ≤ rnd n d := by unfold rnd; omega
theorem rnd_zero (n : Nat) : rnd n 0 = n := by simp [rnd, Nat.mod_one]
theorem rnd_scale (n d k : Nat) : rnd (n * 2 ^ k) (d + k) = rnd n d := by
  unfold rnd
  rw [Nat.pow_add, Nat.mul_div_mul_right _ _ (pow_pos2 k), Nat.mul_mod_mul_right]
  have hk := pow_pos2 k
  have e1 : (2 ^ d * 2 ^ k < 2 * (n % 2 ^ d * 2 ^ k)) ↔ (2 ^ d < 2 * (n % 2 ^ d)) := by
    rw [← Nat.mul_assoc]; exact Nat.mul_lt_mul_right hk
  have e2 : (2 ^ d * 2 ^ k = 2 * (n % 2 ^ d * 2 ^ k)) ↔ (2 ^ d = 2 * (n % 2 ^ d)) := by
    rw [← Nat.mul_assoc]; exact Nat.mul_left_inj (by omega)
  simp only [e1, e2]
theorem rnd_mono {n n' : Nat} (h : n ≤ n') (d : Nat) : rnd n d ≤ rnd n' d := by
  have hp := pow_pos2 d
  have hq : n / 2 ^ d ≤ n' / 2 ^ d := Nat.div_le_div_right h
  by_cases he : n / 2 ^ d = n' / 2 ^ d
  · unfold rnd
    rw [he]
    have h1 := Nat.div_add_mod n (2 ^ d)
    have h2 := Nat.div_add_mod n' (2 ^ d)
    rw [he] at h1
    have hr : n % 2 ^ d ≤ n' % 2 ^ d := by omega
    split <;> split <;> omega
  · have h1 := rnd_le n d
    have h2 := le_rnd n' d
    omega
theorem rnd_exact {n d : Nat} (q : Nat) : rnd (q * 2 ^ d) d = q := by
  have := rnd_scale q 0 d
  rw [Nat.zero_add, rnd_zero] at this
  exact this
theorem log2_lt' (n : Nat) : n < 2 ^ (n.log2 + 1) := Nat.lt_log2_self
theorem cut_even (s : Bool) (n d : Nat) : Toward.even.cut s n d = rnd n d := by
  unfold Toward.cut
  simp only [Nat.one_shiftLeft]
  by_cases hd : d ≤ n.log2 + 2
  · rw [Nat.min_eq_left hd]
    unfold rnd
    congr 1
    by_cases h1 : 2 ^ d < 2 * (n % 2 ^ d)
    · simp [h1]
    · by_cases h2 : 2 ^ d = 2 * (n % 2 ^ d)
      · by_cases h3 : n / 2 ^ d % 2 = 1
        · simp [← h2, h3]
        · simp [← h2, h3]
      · simp [h1, h2]
  · rw [Nat.min_eq_right (by omega)]
    have hl := log2_lt' n
    have h2 : 2 ^ (n.log2 + 2) = 2 * 2 ^ (n.log2 + 1) := by rw [Nat.pow_succ, Nat.mul_comm]
    have hd2 : 2 ^ (n.log2 + 2) ≤ 2 ^ d := Nat.pow_le_pow_right (by omega) (by omega)
    have e1 : n / 2 ^ (n.log2 + 2) = 0 := Nat.div_eq_of_lt (by omega)
    have e2 : n % 2 ^ (n.log2 + 2) = n := Nat.mod_eq_of_lt (by omega)
    have e3 : n / 2 ^ d = 0 := Nat.div_eq_of_lt (by omega)
    have e4 : n % 2 ^ d = n := Nat.mod_eq_of_lt (by omega)
    unfold rnd
    rw [e1, e2, e3, e4]
    have c1 : ¬ (2 ^ (n.log2 + 2) < 2 * n) := by omega
    have c2 : ¬ (2 ^ (n.log2 + 2) = 2 * n) := by omega
    have c3 : ¬ (2 ^ d < 2 * n) := by omega
    have c4 : ¬ (2 ^ d = 2 * n) := by omega
    simp [c1, c2, c3, c4]
def rV (r : Nat) : Nat := if r < 2 ^ 52 then r else (2 ^ 52 + r % 2 ^ 52) * 2 ^ (r / 2 ^ 52 - 1)
theorem rV_mono {r r' : Nat} (h : r ≤ r') : rV r ≤ rV r' := by
  unfold rV
  have hd : r / 2 ^ 52 ≤ r' / 2 ^ 52 := Nat.div_le_div_right h
  have hm := Nat.mod_lt r (pow_pos2 52)
  have hm' := Nat.mod_lt r' (pow_pos2 52)
  split
  · split
    · exact h
    · have : 1 ≤ 2 ^ (r' / 2 ^ 52 - 1) := pow_pos2 _
      calc r ≤ 2 ^ 52 + r' % 2 ^ 52 := by omega
        _ = (2 ^ 52 + r' % 2 ^ 52) * 1 := by omega
        _ ≤ _ := Nat.mul_le_mul_left _ this
  · split
    · omega
    · by_cases he : r / 2 ^ 52 = r' / 2 ^ 52
      · rw [he]
        have h1 := Nat.div_add_mod r (2 ^ 52)
        have h2 := Nat.div_add_mod r' (2 ^ 52)
        rw [he] at h1
        exact Nat.mul_le_mul_right _ (by omega)
      · have h0 : 1 ≤ r / 2 ^ 52 := by
          have : 2 ^ 52 ≤ r := by omega
          exact (Nat.le_div_iff_mul_le (pow_pos2 52)).2 (by omega)
        calc (2 ^ 52 + r % 2 ^ 52) * 2 ^ (r / 2 ^ 52 - 1) ≤ 2 ^ 53 * 2 ^ (r / 2 ^ 52 - 1) := Nat.mul_le_mul_right _ (by omega)
          _ = 2 ^ 52 * 2 ^ (r / 2 ^ 52) := by rw [← Nat.pow_add, ← Nat.pow_add]; congr 1; omega
          _ ≤ 2 ^ 52 * 2 ^ (r' / 2 ^ 52 - 1) := Nat.mul_le_mul_left _ (Nat.pow_le_pow_right (by omega) (by omega))
          _ ≤ _ := Nat.mul_le_mul_right _ (by omega)
def Lg (N : Nat) : Nat := max (N.log2 - 52) 1126
def Rg (N : Nat) : Nat := if N = 0 then 0 else min ((Lg N - 1126) * 2 ^ 52 + rnd N (Lg N)) (2047 * 2 ^ 52)
theorem Lg_le {N N' : Nat} (h0 : N ≠ 0) (h : N ≤ N') : Lg N ≤ Lg N' := by
  have : N.log2 ≤ N'.log2 := (Nat.le_log2 (by omega)).2 (Nat.le_trans (Nat.log2_self_le h0) h)
  unfold Lg; omega
theorem Lg_lt (N : Nat) : N < 2 ^ (Lg N + 53) := Nat.lt_of_lt_of_le (log2_lt' N) (Nat.pow_le_pow_right (by omega) (by unfold Lg; omega))
theorem Lg_q (N : Nat) : N / 2 ^ Lg N < 2 ^ 53 := by
  rw [Nat.div_lt_iff_lt_mul (pow_pos2 _), ← Nat.pow_add, Nat.add_comm]; exact Lg_lt N
theorem Lg_ge {N : Nat} (h : N ≠ 0) (hL : 1126 < Lg N) : 2 ^ 52 ≤ N / 2 ^ Lg N := by
  rw [Nat.le_div_iff_mul_le (pow_pos2 _), ← Nat.pow_add]
  refine Nat.le_trans (Nat.pow_le_pow_right (by omega) ?_) (Nat.log2_self_le h)
  unfold Lg at hL ⊢; omega
theorem Rg_mono {N N' : Nat} (h : N ≤ N') : Rg N ≤ Rg N' := by
  unfold Rg
  by_cases h0 : N = 0
  · simp [h0]
  · have h0' : N' ≠ 0 := by omega
    rw [if_neg h0, if_neg h0']
    have hL := Lg_le h0 h
    suffices (Lg N - 1126) * 2 ^ 52 + rnd N (Lg N) ≤ (Lg N' - 1126) * 2 ^ 52 + rnd N' (Lg N') by omega
    by_cases he : Lg N = Lg N'
    · rw [he]; have := rnd_mono h (Lg N'); omega
    · have h1 := Lg_q N
      have h2 := rnd_le N (Lg N)
      have h3 : 2 ^ 52 ≤ N' / 2 ^ Lg N' := Lg_ge h0' (by unfold Lg at he hL ⊢; omega)
      have h4 := le_rnd N' (Lg N')
      have h5 : (Lg N - 1126) + 1 ≤ Lg N' - 1126 := by unfold Lg at he hL ⊢; omega
      omega
theorem Rg_exact {N : Nat} (q : Nat) (h : N = q * 2 ^ Lg N) (hb : N < 2 ^ 3150) : Rg N < 2047 * 2 ^ 52 ∧ rV (Rg N) * 2 ^ 1126 = N := by
  by_cases h0 : N = 0
  · subst h0; simp [Rg, rV]
  · have hp := pow_pos2 (Lg N)
    have hq : N / 2 ^ Lg N = q := by
      have : q * 2 ^ Lg N / 2 ^ Lg N = q := Nat.mul_div_cancel _ hp
      rw [← h] at this; exact this
    have hr : rnd N (Lg N) = q := by
      have : rnd (q * 2 ^ Lg N) (Lg N) = q := rnd_exact (n := 0) q
      rw [← h] at this; exact this
    have hq53 := Lg_q N
    rw [hq] at hq53
    have hL : Lg N ≤ 3098 := by
      have : N.log2 < 3150 := (Nat.log2_lt h0).2 hb
      unfold Lg; omega
    have hlt : (Lg N - 1126) * 2 ^ 52 + q < 2047 * 2 ^ 52 := by omega
    have hRg : Rg N = (Lg N - 1126) * 2 ^ 52 + q := by unfold Rg; rw [if_neg h0, hr]; omega
    rw [hRg]
    refine ⟨hlt, ?_⟩
    have key : rV ((Lg N - 1126) * 2 ^ 52 + q) = q * 2 ^ (Lg N - 1126) := by
      by_cases hLe : Lg N = 1126
      · rw [hLe]
        simp only [Nat.sub_self, Nat.zero_mul, Nat.zero_add, Nat.pow_zero, Nat.mul_one]
        unfold rV
        split
        · rfl
        · have e1 : q / 2 ^ 52 = 1 := by omega
          have e2 : q % 2 ^ 52 = q - 2 ^ 52 := by omega
          rw [e1, e2]; omega
      · have hL1 : 1126 < Lg N := by unfold Lg at hLe ⊢; omega
        have h52 := Lg_ge h0 hL1
        rw [hq] at h52
        unfold rV
        have e1 : ((Lg N - 1126) * 2 ^ 52 + q) / 2 ^ 52 - 1 = Lg N - 1126 := by omega
        have e2 : 2 ^ 52 + ((Lg N - 1126) * 2 ^ 52 + q) % 2 ^ 52 = q := by omega
        rw [if_neg (by omega), e1, e2]
    rw [key, Nat.mul_assoc, ← Nat.pow_add]
    have : Lg N - 1126 + 1126 = Lg N := by have : 1126 ≤ Lg N := by unfold Lg; omega
                                           omega
    rw [this]; exact h.symm
theorem Rg_small {m k : Nat} (hm : m < 2 ^ 53) (hk : 1126 ≤ k) (hk2 : k ≤ 3090) : Rg (m * 2 ^ k) < 2047 * 2 ^ 52 ∧ rV (Rg (m * 2 ^ k)) * 2 ^ 1126 = m * 2 ^ k := by
  by_cases h0 : m = 0
  · subst h0; simp [Rg, rV]
  · have hl : (m * 2 ^ k).log2 = m.log2 + k := by
      have h1 : m * 2 ^ k ≠ 0 := Nat.mul_ne_zero h0 (by have := pow_pos2 k; omega)
      apply Nat.le_antisymm
      · have : (m * 2 ^ k).log2 < m.log2 + k + 1 := (Nat.log2_lt h1).2 (by
          rw [show m.log2 + k + 1 = (m.log2 + 1) + k by omega, Nat.pow_add]
          exact Nat.mul_lt_mul_of_pos_right (log2_lt' m) (pow_pos2 k))
        omega
      · exact (Nat.le_log2 h1).2 (by rw [Nat.pow_add]; exact Nat.mul_le_mul_right _ (Nat.log2_self_le h0))
    have hm52 : m.log2 ≤ 52 := by have := (Nat.log2_lt h0).2 hm; omega
    have hLk : Lg (m * 2 ^ k) ≤ k := by unfold Lg; omega
    refine Rg_exact (m * 2 ^ (k - Lg (m * 2 ^ k))) ?_ ?_
    · rw [Nat.mul_assoc, ← Nat.pow_add]; congr 2; omega
    · have := log2_lt' (m * 2 ^ k)
      refine Nat.lt_of_lt_of_le this (Nat.pow_le_pow_right (by omega) (by omega))
end Go.Eng
namespace Go.Eng
set_option linter.unusedVariables false
set_option linter.unusedSimpArgs false
set_option linter.unnecessarySimpa false
open Ieee
set_option linter.unusedVariables false
set_option linter.unusedSimpArgs false
set_option exponentiation.threshold 4000
abbrev DF : Format := Ieee.double
theorem df_binade : DF.binade = 2 ^ 52 := rfl
theorem df_sign : DF.signWeight = 2 ^ 63 := rfl
theorem df_inf : DF.infRung = 2047 * 2 ^ 52 := rfl
theorem df_least : DF.leastPlace = -1074 := by decide
theorem df_frac : DF.fractionBits = 52 := rfl
def dig (r : Nat) : Nat := if r < 2 ^ 52 then r else 2 ^ 52 + r % 2 ^ 52
def plc (r : Nat) : Nat := if r < 2 ^ 52 then 0 else r / 2 ^ 52 - 1
theorem rV_dig (r : Nat) : rV r = dig r * 2 ^ plc r := by unfold rV dig plc; split <;> simp
theorem dig_lt (r : Nat) : dig r < 2 ^ 53 := by unfold dig; split <;> omega
theorem read_pos {r : Nat} (h : r < 2047 * 2 ^ 52) : DF.read r = .number false (dig r) (-1074 + (plc r : Int)) := by
  have h1 : r / 2 ^ 63 % 2 = 0 := by omega
  have h2 : r % 2 ^ 63 = r := by omega
  unfold Format.read
  simp only [df_binade, df_sign, df_inf, df_least, h1, h2]
  unfold dig plc
  split
  · simp
  · simp [h]
theorem read_neg {r : Nat} (h : r < 2047 * 2 ^ 52) : DF.read (2 ^ 63 + r) = .number true (dig r) (-1074 + (plc r : Int)) := by
  have h1 : (2 ^ 63 + r) / 2 ^ 63 % 2 = 1 := by omega
  have h2 : (2 ^ 63 + r) % 2 ^ 63 = r := by omega
  unfold Format.read
  simp only [df_binade, df_sign, df_inf, df_least, h1, h2]
  unfold dig plc
  split
  · simp
  · simp [h]
theorem nearest_Rg (s : Bool) (m : Nat) (p : Int) (hp : -2200 ≤ p) : DF.nearest s m p = DF.word s (Rg (m * 2 ^ (p + 2200).toNat)) := by
  unfold Format.nearest
  by_cases h0 : m = 0
  · simp [h0, Rg]
  · rw [if_neg h0]
    obtain ⟨k, hk⟩ : ∃ k : Nat, p = (k : Int) - 2200 := ⟨(p + 2200).toNat, by omega⟩
    subst hk
    have ek : ((k : Int) - 2200 + 2200).toNat = k := by omega
    rw [ek]
    have h1 : m * 2 ^ k ≠ 0 := Nat.mul_ne_zero h0 (by have := pow_pos2 k; omega)
    have hl : (m * 2 ^ k).log2 = m.log2 + k := by
      apply Nat.le_antisymm
      · have : (m * 2 ^ k).log2 < m.log2 + k + 1 := (Nat.log2_lt h1).2 (by
          rw [show m.log2 + k + 1 = (m.log2 + 1) + k by omega, Nat.pow_add]
          exact Nat.mul_lt_mul_of_pos_right (log2_lt' m) (pow_pos2 k))
        omega
      · exact (Nat.le_log2 h1).2 (by rw [Nat.pow_add]; exact Nat.mul_le_mul_right _ (Nat.log2_self_le h0))
    have hlast : max ((k : Int) - 2200 + m.log2 - (DF.fractionBits : Nat)) DF.leastPlace = (Lg (m * 2 ^ k) : Int) - 2200 := by
      rw [df_least, df_frac]; unfold Lg; rw [hl]; omega
    simp only [hlast]
    simp only [cut_even, df_least, df_binade, df_inf]
    have hg : 1126 ≤ Lg (m * 2 ^ k) := by unfold Lg; omega
    have e1 : ((Lg (m * 2 ^ k) : Int) - 2200 - -1074).toNat = Lg (m * 2 ^ k) - 1126 := by omega
    have e2 : rnd (m <<< ((k : Int) - 2200 - ((Lg (m * 2 ^ k) : Int) - 2200)).toNat) ((Lg (m * 2 ^ k) : Int) - 2200 - ((k : Int) - 2200)).toNat = rnd (m * 2 ^ k) (Lg (m * 2 ^ k)) := by
      rw [Nat.shiftLeft_eq]
      generalize Lg (m * 2 ^ k) = L
      by_cases hLk : L ≤ k
      · have a1 : ((k : Int) - 2200 - ((L : Int) - 2200)).toNat = k - L := by omega
        have a2 : ((L : Int) - 2200 - ((k : Int) - 2200)).toNat = 0 := by omega
        rw [a1, a2]
        have := rnd_scale (m * 2 ^ (k - L)) 0 L
        rw [Nat.zero_add, Nat.mul_assoc, ← Nat.pow_add, Nat.sub_add_cancel hLk] at this
        exact this.symm
      · have a1 : ((k : Int) - 2200 - ((L : Int) - 2200)).toNat = 0 := by omega
        have a2 : ((L : Int) - 2200 - ((k : Int) - 2200)).toNat = L - k := by omega
        rw [a1, a2, Nat.pow_zero, Nat.mul_one]
        have := rnd_scale m (L - k) k
        rw [Nat.sub_add_cancel (by omega)] at this
        exact this.symm
    rw [e1, e2]
    unfold Rg
    rw [if_neg h1]
theorem word_pos (r : Nat) : DF.word false r = r := by unfold Format.word; simp
theorem write_pos (m : Nat) (p : Int) (hp : -2200 ≤ p) : DF.write (.number false m p) = Rg (m * 2 ^ (p + 2200).toNat) := by
  show DF.nearest false m p = _
  rw [nearest_Rg _ _ _ hp, word_pos]
def Fin (r : Nat) : Prop := r < 2047 * 2 ^ 52
def w10 : Nat := 4621819117588971520
theorem read_10 : DF.read w10 = .number false (5 * 2 ^ 50) (-49) := by decide
theorem sum_pos (m n a b : Nat) : (Datum.number false m (-1074 + (a : Int))).sum (.number false n (-1074 + (b : Int))) = some (.number false (m * 2 ^ (a - min a b) + n * 2 ^ (b - min a b)) (-1074 + (min a b : Nat))) := by
  have e0 : min (-1074 + (a : Int)) (-1074 + (b : Int)) = -1074 + ((min a b : Nat) : Int) := by omega
  have e1 : ((-1074 + (a : Int)) - (-1074 + ((min a b : Nat) : Int))).toNat = a - min a b := by omega
  have e2 : ((-1074 + (b : Int)) - (-1074 + ((min a b : Nat) : Int))).toNat = b - min a b := by omega
  simp only [Datum.sum, e0, e1, e2, signed, Bool.false_eq_true, if_false, Nat.shiftLeft_eq]
  generalize m * 2 ^ (a - min a b) = x
  generalize n * 2 ^ (b - min a b) = y
  have h1 : ¬ ((x : Int) + (y : Int) < 0) := by omega
  have h2 : ((x : Int) + (y : Int)).natAbs = x + y := by omega
  rw [h2]
  simp [h1]
theorem sum_sub (m n a b : Nat) (h : n * 2 ^ b ≤ m * 2 ^ a) : (Datum.number false m (-1074 + (a : Int))).sum (.number true n (-1074 + (b : Int))) = some (.number false (m * 2 ^ (a - min a b) - n * 2 ^ (b - min a b)) (-1074 + (min a b : Nat))) := by
  have e0 : min (-1074 + (a : Int)) (-1074 + (b : Int)) = -1074 + ((min a b : Nat) : Int) := by omega
  have e1 : ((-1074 + (a : Int)) - (-1074 + ((min a b : Nat) : Int))).toNat = a - min a b := by omega
  have e2 : ((-1074 + (b : Int)) - (-1074 + ((min a b : Nat) : Int))).toNat = b - min a b := by omega
  simp only [Datum.sum, e0, e1, e2, signed, Bool.false_eq_true, if_false, if_true, Nat.shiftLeft_eq]
  have hxy : n * 2 ^ (b - min a b) ≤ m * 2 ^ (a - min a b) := by
    have hp := pow_pos2 (min a b)
    refine Nat.le_of_mul_le_mul_right ?_ hp
    rw [Nat.mul_assoc, Nat.mul_assoc, ← Nat.pow_add, ← Nat.pow_add, Nat.sub_add_cancel (by omega), Nat.sub_add_cancel (by omega)]
    exact h
  generalize m * 2 ^ (a - min a b) = x at *
  generalize n * 2 ^ (b - min a b) = y at *
  have h1 : ¬ ((x : Int) + -(y : Int) < 0) := by omega
  have h2 : ((x : Int) + -(y : Int)).natAbs = x - y := by omega
  rw [h2]
  simp [h1]
theorem scl (m a c : Nat) (h : c ≤ a) : m * 2 ^ (a - c) * 2 ^ (c + 1126) = m * 2 ^ a * 2 ^ 1126 := by
  rw [Nat.mul_assoc, ← Nat.pow_add, Nat.mul_assoc, ← Nat.pow_add, show a - c + (c + 1126) = a + 1126 by omega]
theorem add_pos {x y : Nat} (hx : Fin x) (hy : Fin y) : DF.add x y = some (Rg ((rV x + rV y) * 2 ^ 1126)) := by
  unfold Format.add
  rw [read_pos hx, read_pos hy, sum_pos, Option.map_some, write_pos _ _ (by omega)]
  have e : ((-1074 + ((min (plc x) (plc y) : Nat) : Int)) + 2200).toNat = min (plc x) (plc y) + 1126 := by omega
  rw [e, Nat.add_mul, scl _ _ _ (by omega), scl _ _ _ (by omega), ← rV_dig, ← rV_dig, ← Nat.add_mul]
theorem sub_pos {x y : Nat} (hx : Fin x) (hy : Fin y) (h : rV y ≤ rV x) : DF.sub x y = some (Rg ((rV x - rV y) * 2 ^ 1126)) := by
  unfold Format.sub
  rw [read_pos hx, read_pos hy]
  simp only [Datum.opposite, Bool.not_false]
  rw [rV_dig, rV_dig] at h
  rw [sum_sub _ _ _ _ h, Option.map_some, write_pos _ _ (by omega)]
  have e : ((-1074 + ((min (plc x) (plc y) : Nat) : Int)) + 2200).toNat = min (plc x) (plc y) + 1126 := by omega
  rw [e, Nat.sub_mul, scl _ _ _ (by omega), scl _ _ _ (by omega), ← rV_dig, ← rV_dig, ← Nat.sub_mul]
def ofN (n : Nat) : Nat := Rg (n * 2 ^ 2200)
theorem ofN_fin {n : Nat} (h : n < 2 ^ 53) : Fin (ofN n) ∧ rV (ofN n) = n * 2 ^ 1074 := by
  have h2200 : (1126 : Nat) ≤ 2200 := by decide
  obtain ⟨h1, h2⟩ := Rg_small (m := n) (k := 2200) h (by omega) (by omega)
  refine ⟨h1, ?_⟩
  unfold ofN
  have hp := pow_pos2 1126
  refine Nat.eq_of_mul_eq_mul_right hp ?_
  rw [h2, Nat.mul_assoc, ← Nat.pow_add]
theorem grid {a : Nat} (h : a < 2 ^ 53) : Fin (Rg (a * 2 ^ 1064 * 2 ^ 1126)) ∧ rV (Rg (a * 2 ^ 1064 * 2 ^ 1126)) = a * 2 ^ 1064 := by
  have e : a * 2 ^ 1064 * 2 ^ 1126 = a * 2 ^ 2190 := by rw [Nat.mul_assoc, ← Nat.pow_add]
  obtain ⟨h1, h2⟩ := Rg_small (k := 2190) h (by omega) (by omega)
  rw [e]
  refine ⟨h1, ?_⟩
  have hp := pow_pos2 1126
  refine Nat.eq_of_mul_eq_mul_right hp ?_
  rw [h2, e]
theorem Rg_grid {N a b : Nat} (ha : a * 2 ^ 1064 * 2 ^ 1126 ≤ N) (hb : N ≤ b * 2 ^ 1064 * 2 ^ 1126) (h : b < 2 ^ 53) : Fin (Rg N) ∧ a * 2 ^ 1064 ≤ rV (Rg N) ∧ rV (Rg N) ≤ b * 2 ^ 1064 := by
  have hab : a < 2 ^ 53 := by
    have : a * (2 ^ 1064 * 2 ^ 1126) ≤ b * (2 ^ 1064 * 2 ^ 1126) := by rw [← Nat.mul_assoc, ← Nat.mul_assoc]; exact Nat.le_trans ha hb
    have := Nat.le_of_mul_le_mul_right this (Nat.mul_pos (pow_pos2 _) (pow_pos2 _))
    omega
  obtain ⟨f1, f2⟩ := grid hab
  obtain ⟨f3, f4⟩ := grid h
  have m1 := Rg_mono ha
  have m2 := Rg_mono hb
  refine ⟨?_, ?_, ?_⟩
  · unfold Fin at f3 ⊢; omega
  · rw [← f2]; exact rV_mono m1
  · rw [← f4]; exact rV_mono m2
def key (x : Nat) : Option Int :=
  match DF.read x with
  | .nan .. => none
  | .infinity s => some (if s then -(2 ^ 2200 : Nat) else (2 ^ 2200 : Nat))
  | .number s m i => some (signed s m (i + 1074).toNat)
theorem read_bounds (x : Nat) {s : Bool} {m : Nat} {i : Int} (h : DF.read x = .number s m i) : -1074 ≤ i ∧ i ≤ 971 ∧ m < 2 ^ 53 := by
  unfold Format.read at h
  dsimp only at h
  split at h
  · rename_i h1
    cases h
    rw [df_sign, df_binade] at h1
    rw [df_sign, df_least]
    omega
  · split at h
    · rename_i h1 h2
      cases h
      rw [df_sign, df_inf] at h2
      rw [df_sign, df_least, df_binade]
      omega
    · split at h <;> cases h
theorem signed_scale (s : Bool) (m a b : Nat) : signed s m (a + b) = signed s m a * ((2 ^ b : Nat) : Int) := by
  have e : ((m <<< (a + b) : Nat) : Int) = ((m <<< a : Nat) : Int) * ((2 ^ b : Nat) : Int) := by
    rw [Nat.shiftLeft_eq, Nat.shiftLeft_eq, Nat.pow_add, ← Nat.mul_assoc, Int.natCast_mul]
  unfold signed
  cases s
  · simp only [Bool.false_eq_true, if_false]; exact e
  · simp only [if_true, e, Int.neg_mul]
theorem cmp_scale (a b : Int) (k : Nat) : compare (a * ((2 ^ k : Nat) : Int)) (b * ((2 ^ k : Nat) : Int)) = compare a b := by
  have hp : (0 : Int) < ((2 ^ k : Nat) : Int) := by have := pow_pos2 k; omega
  have h1 : (a * ((2 ^ k : Nat) : Int) < b * ((2 ^ k : Nat) : Int)) ↔ a < b := Int.mul_lt_mul_right hp
  have h2 : (a * ((2 ^ k : Nat) : Int) = b * ((2 ^ k : Nat) : Int)) ↔ a = b := ⟨fun h => Int.eq_of_mul_eq_mul_right (by omega) h, fun h => by rw [h]⟩
  simp only [compare, compareOfLessAndEq, h1, h2]
theorem signed_lt {s : Bool} {m a : Nat} (hm : m < 2 ^ 53) (ha : a ≤ 2045) : -((2 ^ 2200 : Nat) : Int) < signed s m a ∧ signed s m a < ((2 ^ 2200 : Nat) : Int) := by
  have h1 : m * 2 ^ a < 2 ^ 53 * 2 ^ 2045 := Nat.lt_of_lt_of_le (Nat.mul_lt_mul_of_pos_right hm (pow_pos2 a)) (Nat.mul_le_mul_left _ (Nat.pow_le_pow_right (by omega) ha))
  have h2 : 2 ^ 53 * 2 ^ 2045 ≤ 2 ^ 2200 := by rw [← Nat.pow_add]; exact Nat.pow_le_pow_right (by omega) (by omega)
  have h3 : m * 2 ^ a < 2 ^ 2200 := Nat.lt_of_lt_of_le h1 h2
  unfold signed
  rw [Nat.shiftLeft_eq]
  generalize m * 2 ^ a = z at *
  generalize 2 ^ 2200 = w at *
  cases s <;> simp <;> omega
def kcmp : Option Int → Option Int → Option Ordering
  | some a, some b => some (compare a b)
  | _, _ => none
theorem cmp_lt {a b : Int} (h : a < b) : compare a b = .lt := by simp [compare, compareOfLessAndEq, h]
theorem cmp_gt {a b : Int} (h : b < a) : compare a b = .gt := by
  have h1 : ¬ a < b := by omega
  have h2 : ¬ a = b := by omega
  simp [compare, compareOfLessAndEq, h1, h2]
theorem cmp_eq {a b : Int} (h : a = b) : compare a b = .eq := by simp [compare, compareOfLessAndEq, h]
theorem order_key (x y : Nat) : DF.order x y = kcmp (key x) (key y) := by
  have big : (0 : Int) < ((2 ^ 2200 : Nat) : Int) := by have := pow_pos2 2200; omega
  unfold Format.order key
  cases hx : DF.read x with
  | nan s t => cases DF.read y <;> rfl
  | infinity s =>
    cases hy : DF.read y with
    | nan _ _ => rfl
    | infinity t =>
      simp only [Datum.order, kcmp]
      generalize ((2 ^ 2200 : Nat) : Int) = w at *
      cases s <;> cases t <;> simp only [Bool.false_eq_true, if_false, if_true]
      · rw [cmp_eq rfl]; rfl
      · rw [cmp_gt (by omega)]; rfl
      · rw [cmp_lt (by omega)]; rfl
      · rw [cmp_eq rfl]; rfl
    | number t n j =>
      obtain ⟨b1, b2, b3⟩ := read_bounds y hy
      obtain ⟨c1, c2⟩ := signed_lt (s := t) (a := (j + 1074).toNat) b3 (by omega)
      simp only [Datum.order, kcmp]
      generalize ((2 ^ 2200 : Nat) : Int) = w at *
      cases s <;> simp only [Bool.false_eq_true, if_false, if_true]
      · rw [cmp_gt c2]
      · rw [cmp_lt c1]
  | number s m i =>
    obtain ⟨b1, b2, b3⟩ := read_bounds x hx
    cases hy : DF.read y with
    | nan _ _ => rfl
    | infinity t =>
      obtain ⟨c1, c2⟩ := signed_lt (s := s) (a := (i + 1074).toNat) b3 (by omega)
      simp only [Datum.order, kcmp]
      generalize ((2 ^ 2200 : Nat) : Int) = w at *
      cases t <;> simp only [Bool.false_eq_true, if_false, if_true]
      · rw [cmp_lt c2]
      · rw [cmp_gt c1]
    | number t n j =>
      obtain ⟨d1, d2, d3⟩ := read_bounds y hy
      simp only [Datum.order, kcmp]
      have e1 : (i + 1074).toNat = (i - min i j).toNat + (min i j + 1074).toNat := by omega
      have e2 : (j + 1074).toNat = (j - min i j).toNat + (min i j + 1074).toNat := by omega
      rw [e1, e2, signed_scale, signed_scale, cmp_scale]
theorem key_pos {r : Nat} (h : Fin r) : key r = some (rV r : Int) := by
  unfold key
  rw [read_pos h]
  simp only [signed, Bool.false_eq_true, if_false, Nat.shiftLeft_eq]
  rw [rV_dig, show ((-1074 + (plc r : Int)) + 1074).toNat = plc r by omega]
theorem key_neg {r : Nat} (h : Fin r) : key (2 ^ 63 + r) = some (-(rV r : Int)) := by
  unfold key
  rw [read_neg h]
  simp only [signed, if_true, Nat.shiftLeft_eq]
  rw [rV_dig, show ((-1074 + (plc r : Int)) + 1074).toNat = plc r by omega]
end Go.Eng
namespace Go.Eng
set_option linter.unusedVariables false
set_option linter.unusedSimpArgs false
set_option linter.unnecessarySimpa false
open Ieee
set_option linter.unusedVariables false
set_option linter.unusedSimpArgs false
set_option exponentiation.threshold 4000
def w999 : Nat := 4652006429231887155
def w003 : Nat := 4584304132692975288
def geF (x y : Nat) : Bool := DF.order x y == some .gt || DF.order x y == some .eq
def leF (x y : Nat) : Bool := DF.order x y == some .lt || DF.order x y == some .eq
def ltF (x y : Nat) : Bool := DF.order x y == some .lt
def gtF (x y : Nat) : Bool := DF.order x y == some .gt
def kle : Option Int → Option Int → Bool
  | some a, some b => decide (a ≤ b)
  | _, _ => false
def klt : Option Int → Option Int → Bool
  | some a, some b => decide (a < b)
  | _, _ => false
theorem leF_key (x y : Nat) : leF x y = kle (key x) (key y) := by
  unfold leF
  rw [order_key]
  cases key x <;> cases key y <;> try rfl
  rename_i a b
  simp only [kcmp, kle]
  rcases Int.lt_trichotomy a b with h | h | h
  · rw [cmp_lt h]; simp; omega
  · rw [cmp_eq h]; simp; omega
  · rw [cmp_gt h]; simp; omega
theorem geF_key (x y : Nat) : geF x y = kle (key y) (key x) := by
  unfold geF
  rw [order_key]
  cases key x <;> cases key y <;> try rfl
  rename_i a b
  simp only [kcmp, kle]
  rcases Int.lt_trichotomy a b with h | h | h
  · rw [cmp_lt h]; simp; omega
  · rw [cmp_eq h]; simp; omega
  · rw [cmp_gt h]; simp; omega
theorem ltF_key (x y : Nat) : ltF x y = klt (key x) (key y) := by
  unfold ltF
  rw [order_key]
  cases key x <;> cases key y <;> try rfl
  rename_i a b
  simp only [kcmp, klt]
  rcases Int.lt_trichotomy a b with h | h | h
  · rw [cmp_lt h]; simp; omega
  · rw [cmp_eq h]; simp; omega
  · rw [cmp_gt h]; simp; omega
theorem gtF_key (x y : Nat) : gtF x y = klt (key y) (key x) := by
  unfold gtF
  rw [order_key]
  cases key x <;> cases key y <;> try rfl
  rename_i a b
  simp only [kcmp, klt]
  rcases Int.lt_trichotomy a b with h | h | h
  · rw [cmp_lt h]; simp; omega
  · rw [cmp_eq h]; simp; omega
  · rw [cmp_gt h]; simp; omega
theorem fin_0 : Fin 0 := by unfold Fin; omega
theorem fin_999 : Fin w999 := by unfold Fin w999; omega
theorem fin_003 : Fin w003 := by unfold Fin w003; omega
theorem rV_0 : rV 0 = 0 := by simp [rV]
theorem key_0 : key 0 = some 0 := by rw [key_pos fin_0, rV_0]; rfl
theorem key_999 : key w999 = some (rV w999 : Int) := key_pos fin_999
def X10 (a : Nat) : Nat := Rg (10 * a * 2 ^ 1126)
def tkN (a : Nat) : Nat := rnd (rV (X10 a)) 1074
theorem tkN_0 : tkN 0 = 0 := by decide +kernel
def inR (s : Nat) : Bool := geF s 0 && leF s w999
def tk (s : Nat) : Nat := tkN ((key s).getD 0).toNat
theorem inR_iff {s : Nat} : inR s = true ↔ ∃ a : Nat, key s = some (a : Int) ∧ a ≤ rV w999 := by
  unfold inR
  rw [geF_key, leF_key, key_0, key_999]
  cases hk : key s with
  | none => simp [kle]
  | some a =>
    simp only [kle, Bool.and_eq_true, decide_eq_true_eq, Option.some.injEq]
    constructor
    · rintro ⟨h1, h2⟩; exact ⟨a.toNat, by omega, by omega⟩
    · rintro ⟨b, rfl, h⟩; omega
theorem tk_of {s a : Nat} (h : key s = some (a : Int)) : tk s = tkN a := by simp [tk, h]
theorem sub_le' {a b c d : Nat} (h : a ≤ b) (h' : d ≤ c) : a - c ≤ b - d := by omega
theorem le_scale {x y c : Nat} (h : x * 2 ^ c ≤ y * 2 ^ c) : x ≤ y := Nat.le_of_mul_le_mul_right h (pow_pos2 c)
theorem div_10 {k a : Nat} (hk : 1 ≤ k) (hk2 : k ≤ 9999) (h1 : 10 * a ≤ 1024 * k) (h2 : 1024 * k ≤ 10 * (a + 1)) : ∃ s, DF.div (ofN k) w10 = some s ∧ Fin s ∧ a * 2 ^ 1064 ≤ rV s ∧ rV s ≤ (a + 1) * 2 ^ 1064 := by
  obtain ⟨f1, f2⟩ := ofN_fin (n := k) (by omega)
  generalize ofN k = r at *
  have hd := dig_lt r
  rw [rV_dig] at f2
  -- the number is a normal one
  have hr52 : 2 ^ 52 ≤ r := by
    refine Nat.le_of_not_lt fun h => ?_
    have e1 : dig r = r := by unfold dig; rw [if_pos h]
    have e2 : plc r = 0 := by unfold plc; rw [if_pos h]
    rw [e1, e2, Nat.pow_zero, Nat.mul_one] at f2
    have : 1 * 2 ^ 1074 ≤ k * 2 ^ 1074 := Nat.mul_le_mul_right _ hk
    have : (2 : Nat) ^ 52 ≤ 2 ^ 1074 := Nat.pow_le_pow_right (by omega) (by omega)
    omega
  have hd52 : 2 ^ 52 ≤ dig r := by unfold dig; rw [if_neg (by omega)]; omega
  have hlog : (dig r).log2 = 52 := by
    have h0 : dig r ≠ 0 := by omega
    have a1 : (dig r).log2 < 53 := (Nat.log2_lt h0).2 hd
    have a2 : 52 ≤ (dig r).log2 := (Nat.le_log2 h0).2 hd52
    omega
  have hp : plc r ≤ 1036 := by
    refine Nat.le_of_not_lt fun h => ?_
    have b1 : 2 ^ 52 * 2 ^ 1037 ≤ dig r * 2 ^ plc r := Nat.mul_le_mul hd52 (Nat.pow_le_pow_right (by omega) h)
    rw [f2, ← Nat.pow_add] at b1
    have b2 : k * 2 ^ 1074 < 2 ^ 15 * 2 ^ 1074 := Nat.mul_lt_mul_of_pos_right (by omega) (pow_pos2 _)
    rw [← Nat.pow_add] at b2
    omega
  have hl10 : (5 * 2 ^ 50 : Nat).log2 = 52 := by decide
  have hmore : 54 + (5 * 2 ^ 50 : Nat).log2 - (dig r).log2 = 54 := by rw [hlog, hl10]
  have hdiv : DF.div r w10 = some (Rg ((2 * (dig r * 2 ^ 54 / (5 * 2 ^ 50)) + (dig r * 2 ^ 54 % (5 * 2 ^ 50) != 0).toNat) * 2 ^ (plc r + 1120))) := by
    unfold Format.div
    rw [read_10, read_pos f1]
    have hfb : DF.fractionBits + 2 = 54 := rfl
    rw [hfb]
    unfold Datum.quotient
    dsimp only
    rw [if_neg (by omega), hmore, Nat.shiftLeft_eq, Option.map_some]
    have : ((-1074 + (plc r : Int)) - -49 - (54 : Nat) - 1 + 2200).toNat = plc r + 1120 := by omega
    rw [show (false ^^ false) = false from rfl, write_pos _ _ (by omega), this]
  obtain ⟨n, hn⟩ : ∃ n : Nat, n = 5 * 2 ^ 50 := ⟨_, rfl⟩
  rw [← hn] at hdiv
  obtain ⟨D, hDD⟩ : ∃ D : Nat, D = dig r * 2 ^ 54 := ⟨_, rfl⟩
  rw [← hDD] at hdiv
  refine ⟨_, hdiv, ?_⟩
  -- the floor against a grid number
  have grid5 : ∀ z : Nat, (z * 2 ^ (1069 - plc r)) * n * 2 ^ plc r = 5 * z * 2 ^ 1119 := by
    intro z
    rw [hn]
    have : z * 2 ^ (1069 - plc r) * (5 * 2 ^ 50) * 2 ^ plc r = 5 * z * (2 ^ (1069 - plc r) * 2 ^ 50 * 2 ^ plc r) := by
      simp only [Nat.mul_assoc, Nat.mul_left_comm, Nat.mul_comm]
    rw [this, ← Nat.pow_add, ← Nat.pow_add]
    rw [show 1069 - plc r + 50 + plc r = 1119 by omega]
  have hD : D * 2 ^ plc r = 512 * k * 2 ^ 1119 := by
    rw [hDD]
    have : dig r * 2 ^ 54 * 2 ^ plc r = dig r * 2 ^ plc r * 2 ^ 54 := by simp only [Nat.mul_assoc, Nat.mul_left_comm, Nat.mul_comm]
    rw [this, f2, Nat.mul_assoc, ← Nat.pow_add, show 1074 + 54 = 9 + 1119 by omega, Nat.pow_add, ← Nat.mul_assoc, Nat.mul_comm k]
  have hn0 : 0 < n := by omega
  have lo : ∀ z, 5 * z ≤ 512 * k → z * 2 ^ (1069 - plc r) ≤ D / n := by
    intro z hz
    rw [Nat.le_div_iff_mul_le hn0]
    refine le_scale (c := plc r) ?_
    rw [grid5, hD]; exact Nat.mul_le_mul_right _ hz
  have hi : ∀ z, 512 * k ≤ 5 * z → 2 * (D / n) + (D % n != 0).toNat ≤ 2 * (z * 2 ^ (1069 - plc r)) := by
    intro z hz
    have hle : D ≤ z * 2 ^ (1069 - plc r) * n := by
      refine le_scale (c := plc r) ?_
      rw [grid5, hD]; exact Nat.mul_le_mul_right _ hz
    generalize z * 2 ^ (1069 - plc r) = Z at *
    have hdm := Nat.div_add_mod D n
    have h3 : D / n ≤ Z := by
      rw [← Nat.mul_div_cancel Z hn0]; exact Nat.div_le_div_right hle
    by_cases h0 : D % n = 0
    · simp [h0]; omega
    · have h4 : D / n < Z := by
        refine Nat.lt_of_le_of_ne h3 fun e => ?_
        rw [e, Nat.mul_comm] at hdm
        omega
      have h5 : (D % n != 0).toNat = 1 := by simp [h0]
      omega
  have sc : ∀ z : Nat, z * 2 ^ 1064 * 2 ^ 1126 = 2 * (z * 2 ^ (1069 - plc r)) * 2 ^ (plc r + 1120) := by
    intro z
    have : 2 * (z * 2 ^ (1069 - plc r)) * 2 ^ (plc r + 1120) = z * (2 ^ 1 * 2 ^ (1069 - plc r) * 2 ^ (plc r + 1120)) := by
      simp only [Nat.mul_assoc, Nat.mul_left_comm, Nat.mul_comm, Nat.pow_one]
    rw [this, ← Nat.pow_add, ← Nat.pow_add, Nat.mul_assoc, ← Nat.pow_add]
    rw [show 1 + (1069 - plc r) + (plc r + 1120) = 1064 + 1126 by omega]
  have hlo : a * 2 ^ 1064 * 2 ^ 1126 ≤ (2 * (D / n) + (D % n != 0).toNat) * 2 ^ (plc r + 1120) := by
    rw [sc]
    have := lo a (by omega)
    exact Nat.mul_le_mul_right _ (by omega)
  have hhi : (2 * (D / n) + (D % n != 0).toNat) * 2 ^ (plc r + 1120) ≤ (a + 1) * 2 ^ 1064 * 2 ^ 1126 := by
    rw [sc]
    exact Nat.mul_le_mul_right _ (hi (a + 1) (by omega))
  have hb : a + 1 < 2 ^ 53 := by omega
  exact Rg_grid hlo hhi hb
theorem rnd_grid {c k : Nat} (h1 : 1024 * k < c + 512) (h2 : c < 1024 * k + 512) : rnd c 10 = k := by
  unfold rnd; split <;> omega
theorem rnd_1064 (c : Nat) : rnd (c * 2 ^ 1064) 1074 = rnd c 10 := rnd_scale c 10 1064
theorem tk_grid {v a b k : Nat} (h1 : a * 2 ^ 1064 ≤ v) (h2 : v ≤ b * 2 ^ 1064) (hb : b < 2 ^ 40) (h3 : 1024 * k < 10 * a + 512) (h4 : 10 * b < 1024 * k + 512) : tkN v = k := by
  have e : ∀ z : Nat, 10 * (z * 2 ^ 1064) = 10 * z * 2 ^ 1064 := fun z => by rw [Nat.mul_assoc]
  have hx := Rg_grid (N := 10 * v * 2 ^ 1126) (a := 10 * a) (b := 10 * b) (by rw [← e]; exact Nat.mul_le_mul_right _ (Nat.mul_le_mul_left _ h1)) (by rw [← e]; exact Nat.mul_le_mul_right _ (Nat.mul_le_mul_left _ h2)) (by omega)
  obtain ⟨_, g1, g2⟩ := hx
  have m1 := rnd_mono g1 1074
  have m2 := rnd_mono g2 1074
  rw [rnd_1064] at m1 m2
  have hab : a ≤ b := le_scale (Nat.le_trans h1 h2)
  have r1 := rnd_grid (c := 10 * a) (k := k) (by omega) (by omega)
  have r2 := rnd_grid (c := 10 * b) (k := k) (by omega) (by omega)
  have : tkN v = rnd (rV (Rg (10 * v * 2 ^ 1126))) 1074 := rfl
  omega
theorem g003_lo : 30 * 2 ^ 1064 ≤ rV w003 := by decide +kernel
theorem g003_hi : rV w003 ≤ 31 * 2 ^ 1064 := by decide +kernel
theorem g999 : 1023897 * 2 ^ 1064 ≤ rV w999 := by decide +kernel
theorem div_9999 : DF.div (ofN 9999) w10 = some w999 := by decide +kernel
theorem div_0 : DF.div (ofN 0) w10 = some 0 := by decide +kernel
theorem tkN_003 : tkN (rV w003) = 0 := by decide +kernel
def near (off k : Nat) : Prop := ltF off 0 = false → gtF off w999 = false → inR off = true ∧ tk off = k
theorem near_of {v : Nat} {k : Nat} (hf : Fin v) (ht : tkN (rV v) = k) : near v k := by
  intro h1 h2
  rw [gtF_key, key_pos hf, key_999] at h2
  simp only [klt, decide_eq_false_iff_not] at h2
  exact ⟨inR_iff.2 ⟨rV v, key_pos hf, by omega⟩, by rw [tk_of (key_pos hf)]; exact ht⟩
theorem back {k : Nat} (hk : k ≤ 9999) : ∃ s u d, DF.div (ofN k) w10 = some s ∧ DF.add s w003 = some u ∧ DF.sub s w003 = some d ∧ s < 2 ^ 64 ∧ u < 2 ^ 64 ∧ inR s = true ∧ tk s = k ∧ near u k ∧ near d k ∧ d < 2 ^ 64 := by
  by_cases h0 : k = 0
  · subst h0
    have hd : DF.sub 0 w003 = some (2 ^ 63 + w003) := by decide +kernel
    have hu : DF.add 0 w003 = some w003 := by decide +kernel
    refine ⟨0, w003, 2 ^ 63 + w003, div_0, hu, hd, by omega, by unfold w003; omega, inR_iff.2 ⟨0, key_0, by omega⟩, by rw [tk_of (a := 0) key_0]; exact tkN_0, near_of fin_003 tkN_003, ?_, by unfold w003; omega⟩
    intro h1
    rw [ltF_key, key_neg fin_003, key_0] at h1
    simp only [klt, decide_eq_false_iff_not] at h1
    have : 0 < rV w003 := by decide +kernel
    omega
  · obtain ⟨s, h1, h2, h3, h4⟩ := div_10 (k := k) (a := 1024 * k / 10) (by omega) hk (by omega) (by omega)
    generalize ha : 1024 * k / 10 = a at *
    have ha1 : 10 * a ≤ 1024 * k := by omega
    have ha2 : 1024 * k ≤ 10 * a + 9 := by omega
    have hs999 : rV s ≤ rV w999 := by
      by_cases h9 : k = 9999
      · subst h9
        rw [div_9999] at h1
        cases h1
        exact Nat.le_refl _
      · refine Nat.le_trans h4 (Nat.le_trans (Nat.mul_le_mul_right _ (by omega)) g999)
    have hts : tkN (rV s) = k := tk_grid h3 h4 (by omega) (by omega) (by omega)
    have hsub : rV w003 ≤ rV s := Nat.le_trans g003_hi (Nat.le_trans (Nat.mul_le_mul_right _ (by omega)) h3)
    have hU := Rg_grid (N := (rV s + rV w003) * 2 ^ 1126) (a := a + 30) (b := a + 1 + 31) (Nat.mul_le_mul_right _ (by rw [Nat.add_mul]; exact Nat.add_le_add h3 g003_lo)) (Nat.mul_le_mul_right _ (by rw [Nat.add_mul (a + 1)]; exact Nat.add_le_add h4 g003_hi)) (by omega)
    have hD := Rg_grid (N := (rV s - rV w003) * 2 ^ 1126) (a := a - 31) (b := a + 1 - 30) (Nat.mul_le_mul_right _ (by rw [Nat.sub_mul]; exact sub_le' h3 g003_hi)) (Nat.mul_le_mul_right _ (by rw [Nat.sub_mul]; exact sub_le' h4 g003_lo)) (by omega)
    refine ⟨s, _, _, h1, add_pos h2 fin_003, sub_pos h2 fin_003 hsub, ?_, ?_, inR_iff.2 ⟨rV s, key_pos h2, hs999⟩, by rw [tk_of (key_pos h2)]; exact hts, ?_, ?_, ?_⟩
    · unfold Fin at h2; omega
    · have := hU.1; unfold Fin at this; omega
    · exact near_of hU.1 (tk_grid hU.2.1 hU.2.2 (by omega) (by omega) (by omega))
    · exact near_of hD.1 (tk_grid hD.2.1 hD.2.2 (by omega) (by omega) (by omega))
    · have := hD.1; unfold Fin at this; omega
end Go.Eng
namespace Go.Eng
set_option linter.unusedVariables false
set_option linter.unusedSimpArgs false
set_option linter.unnecessarySimpa false
open Go
set_option linter.unusedVariables false
set_option linter.unusedSimpArgs false
set_option maxRecDepth 10000
set_option maxHeartbeats 4000000
abbrev Fl (x : Nat) : AV := .float .f64 x
set_option linter.defProp false
end Go.Eng
namespace Go.Eng
set_option linter.unusedVariables false
set_option linter.unusedSimpArgs false
set_option linter.unnecessarySimpa false
open Go
set_option linter.unusedVariables false
set_option linter.unusedSimpArgs false
set_option maxRecDepth 10000
set_option maxHeartbeats 4000000
def lvl (x : Nat) : Bool := gtF x 0 && leF x 4696837146684686336
def sgnB (x : Nat) : Bool := decide (IntKind.i64.wrap (x : Int) < 0)
def secsOk (x : Nat) : Bool := inR x && !sgnB x
end Go.Eng
namespace Go.Eng
set_option linter.unusedVariables false
set_option linter.unusedSimpArgs false
set_option linter.unnecessarySimpa false
open Go
set_option linter.unusedVariables false
set_option linter.unusedSimpArgs false
set_option maxRecDepth 10000
set_option maxHeartbeats 4000000
theorem tb_withR {s : Int} {p : Nat} (hp : p < 8) (i : Nat) : tb (withR s p) i = (decide (i < 8) && (tb s i || decide (i = p))) := by
  rw [withR, tb_of]
  by_cases h : i < 8
  · have : ((i : Int) ∈ listS s ++ [(p : Int)]) ↔ (tb s i = true ∨ i = p) := by
      simp only [listS, listTo, List.mem_append, List.mem_filter, List.mem_map, List.mem_range, List.mem_singleton]
      rw [hasR_tb h]
      constructor
      · rintro (⟨_, h2⟩ | h2)
        · exact .inl h2
        · exact .inr (by omega)
      · rintro (h2 | h2)
        · exact .inl ⟨⟨i, h, rfl⟩, h2⟩
        · exact .inr (by omega)
    simp [h, this]
  · simp [h]
structure DInv (t : Tb) (s : Rd) : Prop where
  len : s.lock.length = 4
  spent : s.spent = 0
  lo : ∀ k, 0 ≤ lockAt s k ∧ lockAt s k ≤ 30
  off : ∀ k, nBus t ≤ k → lockAt s k = 0
  was : ∀ k, tb s.was k = true → k < nBus t
end Go.Eng
namespace Go.Eng
set_option linter.unusedVariables false
set_option linter.unusedSimpArgs false
set_option linter.unnecessarySimpa false
open Go
set_option linter.unusedVariables false
set_option linter.unusedSimpArgs false
set_option maxRecDepth 10000
set_option maxHeartbeats 4000000
def SymC (c : List Int) : Prop := ∀ i j : Nat, i < 8 → j < 8 → tb (cAt c i) j = tb (cAt c j) i
theorem cAt_set {c : List Int} {p i : Nat} {v : Int} (hp : p < c.length) : cAt (c.set p v) i = if i = p then v else cAt c i := by
  simp only [cAt, List.getD_eq_getElem?_getD, List.getElem?_set]
  by_cases h : p = i
  · subst h; simp [hp]
  · have : ¬ i = p := fun e => h e.symm
    simp [h, this]
theorem symC_step {t : Tb} {l : Option (List Int)} {p q : Nat} {c : List Int} (hc : c.length = 8) (hp : p < 8) (hq : q < p) (h : SymC c) : SymC (confStep t l p q c) := by
  unfold confStep
  split
  · intro i j hi hj
    have hpl : p < c.length := by omega
    have hql : q < (c.set p (withR (cAt c p) q)).length := by simp; omega
    have hqp : ¬ q = p := by omega
    simp only [cAt_set hql, cAt_set hpl, hqp, if_false]
    have hs := h i j hi hj
    by_cases h1 : i = q <;> by_cases h2 : j = q <;> by_cases h3 : i = p <;> by_cases h4 : j = p <;>
      simp_all [tb_withR, show q < 8 by omega] <;> omega
  · exact h
theorem symC_row {t : Tb} {l : Option (List Int)} {p : Nat} {c : List Int} (hc : c.length = 8) (hp : p < 8) (h : SymC c) : ∀ q, q ≤ p → SymC (confRow t l p q c)
  | 0, _ => h
  | q + 1, hq => symC_step (by rw [confRow_len, hc]) hp (by omega) (symC_row hc hp h q (by omega))
theorem symC_to {t : Tb} {l : Option (List Int)} : ∀ p, p ≤ 8 → SymC (confTo t l p)
  | 0, _ => by
    intro i j hi hj
    have : ∀ i : Nat, cAt (confTo t l 0) i = 0 := by
      intro i
      simp only [cAt, confTo, List.getD_eq_getElem?_getD, List.getElem?_replicate]; split <;> rfl
    rw [this, this, tb_zero, tb_zero]
  | p + 1, hp => symC_row (confTo_len p) (by omega) (symC_to p (by omega)) p (Nat.le_refl p)
theorem table_sym (l : Option (List Int)) {p q : Nat} (hp : p < 8) (hq : q < 8) : tb (conAt (tableOf l) p) q = tb (conAt (tableOf l) q) p :=
  symC_to (rowsOf' l).2 (rowsOf_le l) p q hp hq
end Go.Eng
namespace Go.Eng
set_option linter.unusedVariables false
set_option linter.unusedSimpArgs false
set_option linter.unnecessarySimpa false
open Go
set_option linter.unusedVariables false
set_option linter.unusedSimpArgs false
set_option maxRecDepth 10000
set_option maxHeartbeats 4000000
def Can (s : Int) : Prop := 0 ≤ s ∧ s < 256
theorem can_high {s : Int} (h : Can s) {i : Nat} (h8 : 8 ≤ i) (h64 : i < 64) : tb s i = false := by
  rw [tb_num s h64]
  have hp : (2 : Int) ^ 8 ≤ 2 ^ i := by
    have e : (2 : Int) ^ i = 2 ^ 8 * 2 ^ (i - 8) := by rw [← Int.pow_add]; congr 1; omega
    have : (1 : Int) ≤ 2 ^ (i - 8) := by have := Int.pow_pos (n := (2 : Int)) (m := i - 8) (by decide); omega
    rw [e]; have h2 : (2 : Int) ^ 8 = 256 := rfl
    rw [h2]; omega
  have h2 : (2 : Int) ^ 8 = 256 := rfl
  have : s.fdiv (2 ^ i) = 0 := by
    rw [Int.fdiv_eq_ediv_of_nonneg _ (by omega)]
    exact Int.ediv_eq_zero_of_lt h.1 (by have := h.2; omega)
  rw [this]; rfl
theorem can_ext {x y : Int} (hx : Can x) (hy : Can y) (h : ∀ i, i < 8 → tb x i = tb y i) : x = y := by
  have hb : bv x = bv y := by
    apply BitVec.eq_of_getLsbD_eq
    intro i hi
    have h64 : i < 64 := hi
    rcases Nat.lt_or_ge i 8 with h8 | h8
    · exact h i h8
    · have a := can_high hx h8 h64
      have b := can_high hy h8 h64
      simp only [tb] at a b
      rw [a, b]
  have := congrArg BitVec.toNat hb
  simp only [bv, BitVec.toNat_ofInt] at this
  have hx' := hx; have hy' := hy
  unfold Can at hx' hy'
  have e : ((2 ^ 64 : Nat) : Int) = 18446744073709551616 := by decide
  rw [e] at this
  omega
theorem can_of {x : Int} (h0 : 0 ≤ x) (h1 : x < 18446744073709551616) (h : ∀ i, 8 ≤ i → i < 64 → tb x i = false) : Can x := by
  refine ⟨h0, ?_⟩
  have hn : (bv x).toNat = x.toNat := by
    simp only [bv, BitVec.toNat_ofInt]
    have e : ((2 ^ 64 : Nat) : Int) = 18446744073709551616 := by decide
    rw [e]; omega
  have : x.toNat < 2 ^ 8 := by
    apply Nat.lt_pow_two_of_testBit
    intro i hi
    rcases Nat.lt_or_ge i 64 with h64 | h64
    · have := h i hi h64
      simp only [tb, BitVec.getLsbD] at this
      rw [← hn]; exact this
    · apply Nat.testBit_lt_two_pow
      have : x.toNat < 2 ^ 64 := by have e : (2 : Nat) ^ 64 = 18446744073709551616 := by decide
                                    omega
      exact Nat.lt_of_lt_of_le this (Nat.pow_le_pow_right (by decide) h64)
  omega
theorem wrap_bv_nonneg (b : BitVec 64) (h : b.getLsbD 63 = false) : IntKind.i64.wrap (b.toNat : Int) = b.toNat ∧ (b.toNat : Int) < 9223372036854775808 := by
  have : b.toNat < 2 ^ 63 := by
    apply Nat.lt_pow_two_of_testBit
    intro i hi
    rcases Nat.lt_or_ge i 64 with h64 | h64
    · have : i = 63 := by omega
      subst this; exact h
    · apply Nat.testBit_lt_two_pow
      exact Nat.lt_of_lt_of_le b.isLt (Nat.pow_le_pow_right (by decide) h64)
  have e : (2 : Nat) ^ 63 = 9223372036854775808 := by decide
  refine ⟨wrap_id (by omega) (by omega), by omega⟩
theorem can_bits {b : BitVec 64} (h : ∀ i, 8 ≤ i → i < 64 → b.getLsbD i = false) : Can (IntKind.i64.wrap (b.toNat : Int)) := by
  obtain ⟨h1, h2⟩ := wrap_bv_nonneg b (h 63 (by decide) (by decide))
  rw [h1]
  refine can_of (by omega) (by omega) fun i h8 h64 => ?_
  simp only [tb, bv_nat]
  exact h i h8 h64
theorem can_with {s : Int} {p : Nat} (hp : p < 8) : Can (withS s p) := by
  have : withS s p = IntKind.i64.wrap (((bv (bAnd .i64 s 255)) ||| bv (bitI p)).toNat : Int) := rfl
  rw [this]
  refine can_bits fun i h8 h64 => ?_
  rw [BitVec.getLsbD_or]
  have a := tb_and s 255 i
  have b := tb_bit hp i
  simp only [tb] at a b
  rw [a, b]
  have c := tb_255 i
  simp only [tb] at c
  rw [c]
  have : ¬ i < 8 := by omega
  have h2 : ¬ i = p := by omega
  simp [this, h2]
theorem can_ofTo (l : List Int) : ∀ k, k ≤ 8 → Can (ofTo l k)
  | 0, _ => by show Can 0; exact ⟨by decide, by decide⟩
  | k + 1, h => by
    have ih := can_ofTo l k (by omega)
    simp only [ofTo]
    split
    · have e : bOr .i64 (ofTo l k) (2 ^ k) = IntKind.i64.wrap ((bv (ofTo l k) ||| bv (2 ^ k)).toNat : Int) := rfl
      rw [e]
      refine can_bits fun i h8 h64 => ?_
      rw [BitVec.getLsbD_or]
      have a := can_high ih h8 h64
      have b := tb_pow (p := k) (by omega) i
      simp only [tb] at a b
      rw [a, b]
      have : ¬ i = k := by omega
      simp [this]
    · exact ih
theorem can_of' (l : List Int) : Can (ofI l) := can_ofTo l 8 (by omega)
theorem can_withR (s p : Int) : Can (withR s p) := can_of' _
end Go.Eng
namespace Go.Eng
set_option linter.unusedVariables false
set_option linter.unusedSimpArgs false
set_option linter.unnecessarySimpa false
open Go
set_option linter.unusedVariables false
set_option linter.unusedSimpArgs false
set_option maxRecDepth 10000
set_option maxHeartbeats 4000000
def setN (s : Int) : List Nat := (List.range 8).filter fun p => tb s p
theorem setN_lt {s : Int} {p : Nat} (h : p ∈ setN s) : p < 8 := by simp only [setN, List.mem_filter, List.mem_range] at h; exact h.1
theorem setN_tb {s : Int} {p : Nat} (h : p ∈ setN s) : tb s p = true := by simp only [setN, List.mem_filter, List.mem_range] at h; exact h.2
theorem setN_mem {s : Int} {p : Nat} (h8 : p < 8) (h : tb s p = true) : p ∈ setN s := by simp only [setN, List.mem_filter, List.mem_range]; exact ⟨h8, h⟩
theorem listS_N (s : Int) : listS s = (setN s).map fun (k : Nat) => (k : Int) := by
  simp only [listS, setN, List.filter_map]
  congr 1
  apply List.filter_congr
  intro k hk
  have h8 : k < 8 := List.mem_range.1 hk
  simp only [Function.comp]
  rw [hasR_tb h8]
set_option linter.defProp false
def BNW := And.intro (show (false != false) = false from rfl) (And.intro (show (true != true) = false from rfl) (And.intro (show (true != false) = true from rfl) (And.intro (show (false != true) = true from rfl)
  (And.intro (show (false == false) = true from rfl) (And.intro (show (true == true) = true from rfl) (And.intro (show (true == false) = false from rfl) (show (false == true) = false from rfl)))))))
end Go.Eng
namespace Go.Eng
set_option linter.unusedVariables false
set_option linter.unusedSimpArgs false
set_option linter.unnecessarySimpa false
open Go
set_option linter.unusedVariables false
set_option linter.unusedSimpArgs false
set_option maxRecDepth 10000
set_option maxHeartbeats 4000000
def rlN (t : Tb) (k : Nat) : Rl := (t.rails.getD []).getD k default
end Go.Eng
namespace Go.Eng
set_option linter.unusedVariables false
set_option linter.unusedSimpArgs false
set_option linter.unnecessarySimpa false
open Go
set_option linter.unusedVariables false
set_option linter.unusedSimpArgs false
set_option maxRecDepth 10000
set_option maxHeartbeats 4000000
theorem beside_sym (t : Tb) (p q : Int) : besideR t p q = besideR t q p := by
  simp only [besideR]
  generalize (whereR t p).2 = b1
  generalize (whereR t q).2 = b2
  generalize (whereR t p).1 = s1
  generalize (whereR t q).1 = s2
  rw [Bool.and_comm b1 b2]
  congr 1
  · congr 1
    rw [Bool.eq_iff_iff]; simp only [beq_iff_eq]; exact eq_comm
  · rw [Bool.eq_iff_iff]; simp only [bne_iff_ne]; exact ne_comm
end Go.Eng
namespace Go.Eng
set_option linter.unusedVariables false
set_option linter.unusedSimpArgs false
set_option linter.unnecessarySimpa false
open Go
set_option linter.unusedVariables false
set_option linter.unusedSimpArgs false
set_option maxRecDepth 10000
set_option maxHeartbeats 4000000
theorem withR_S {s : Int} {p : Nat} (hp : p < 8) : withR s p = withS s p := by
  refine can_ext (can_withR _ _) (can_with hp) fun i hi => ?_
  rw [tb_withR hp, tb_with hp]
  simp [hi]
end Go.Eng
namespace Go.Eng
set_option linter.unusedVariables false
set_option linter.unusedSimpArgs false
set_option linter.unnecessarySimpa false
open Go
set_option linter.unusedVariables false
set_option linter.unusedSimpArgs false
set_option maxRecDepth 10000
set_option maxHeartbeats 4000000
def pre (gr : Gr) (i : Nat) : List Int := (List.range i).flatMap fun k => (gr.row k).getD []
end Go.Eng
namespace Go.Eng
set_option linter.unusedVariables false
set_option linter.unusedSimpArgs false
set_option linter.unnecessarySimpa false
open Go
set_option linter.unusedVariables false
set_option linter.unusedSimpArgs false
set_option maxRecDepth 10000
set_option maxHeartbeats 4000000
def nRl (t : Tb) : Nat := (t.rails.getD []).length
theorem find_none {α : Type} {l : List α} {p : α → Bool} (h : ∀ x ∈ l, p x = false) : l.find? p = none := by
  rw [List.find?_eq_none]; intro x hx; simp [h x hx]
end Go.Eng
namespace Go.Eng
set_option linter.unusedVariables false
set_option linter.unusedSimpArgs false
set_option linter.unnecessarySimpa false
open Go
set_option linter.unusedVariables false
set_option linter.unusedSimpArgs false
set_option maxRecDepth 10000
set_option maxHeartbeats 4000000
def ph09 : Ph := { (default : Ph) with on := true, min := 1, max := 1, top := 1, yellow := 10 }
def g9To (k : Nat) : Tb := { Tb0 with phases := (List.range 8).map (fun p => if p < k then (if p < 2 then ph09 else default) else default), conflict := (List.range 8).map (fun p => if p < k then (if p = 0 then 2 else if p = 1 then 1 else 0) else 0), flash := (List.range 8).map fun p => if p < k then 1 else 0 }
def g9 : Tb := { g9To 2 with groups := some [⟨some [0, 1], none⟩] }
theorem g9To_ln (k : Nat) : (g9To k).Ln := ⟨by simp [g9To], by simp [g9To], by simp [g9To]⟩
theorem g9_ok : g9.Ok := ⟨rfl, rfl, rfl, by simp [g9], by simp [g9], by simp [g9, g9To, Tb0], by simp [g9, g9To, Tb0], by simp [g9, g9To, Tb0]⟩
end Go.Eng
namespace Go.Eng
set_option linter.unusedVariables false
set_option linter.unusedSimpArgs false
set_option linter.unnecessarySimpa false
open Go
set_option linter.unusedVariables false
set_option linter.unusedSimpArgs false
set_option maxRecDepth 10000
set_option maxHeartbeats 4000000
theorem w64_id {n : Int} (h1 : -9223372036854775808 ≤ n) (h2 : n ≤ 9223372036854775807) : w64 n = n := wrap_id h1 h2
structure PhGood (x : Ph) : Prop where
  min : 1 ≤ x.min ∧ x.min ≤ 12
  max : x.min ≤ x.max ∧ x.max ≤ 36
  top : x.max ≤ x.top ∧ x.top ≤ 50
  gap : 0 ≤ x.gap ∧ x.gap ≤ 8
  step : 1 ≤ x.step ∧ x.step ≤ 6
  yellow : 10 ≤ x.yellow ∧ x.yellow ≤ 13
  red : 0 ≤ x.red ∧ x.red ≤ 4
  walk : (x.walk = 0 ∧ x.blinks = 0) ∨ (1 ≤ x.walk ∧ x.walk ≤ 10 ∧ 1 ≤ x.blinks ∧ x.blinks ≤ 10)
  recall : 0 ≤ x.recall ∧ x.recall ≤ 3 ∧ (x.recall = 3 → x.walk ≠ 0)
  on : x.on = true
def nT (l : Option (List Int)) : Nat := (rowsOf' l).2
theorem nT_range (l : Option (List Int)) : 1 ≤ nT l ∧ nT l ≤ 8 := ⟨rowsOf_pos l, rowsOf_le l⟩
theorem beside_congr {t t' : Tb} (h : t.groups = t'.groups) (p q : Int) : besideR t p q = besideR t' p q := by
  simp only [besideR, whereR, spots, h]
end Go.Eng
namespace Go.Eng
set_option linter.unusedVariables false
set_option linter.unusedSimpArgs false
set_option linter.unnecessarySimpa false
open Go
set_option linter.unusedVariables false
set_option linter.unusedSimpArgs false
set_option maxRecDepth 10000
set_option maxHeartbeats 4000000
structure DtGood (n : Nat) (d : Det) : Prop where
  phase : 0 ≤ d.phase ∧ d.phase < n
  may : lvl d.on = true ∧ lvl d.off = true ∧ secsOk d.delay = true ∧ secsOk d.extend = true
  most : 0 ≤ d.maxOn ∧ d.maxOn ≤ 80 ∧ 0 ≤ d.maxOff ∧ d.maxOff ≤ 360
  order : gtF d.off d.on = false
theorem tb_one {p : Nat} (hp : p < 8) (i : Nat) : tb (ofI [(p : Int)]) i = decide (i = p) := by
  rw [tb_of]
  by_cases h : i = p
  · subst h; simp [hp]
  · have : ¬ (i : Int) = (p : Int) := by omega
    simp [h, this]
theorem tb_withT (t : Tb) {p q : Nat} (hp : p < 8) (hq : q < 8) (i : Nat) : tb (withT t p q) i = (decide (i = p) || (besideR t p q && decide (i = q))) := by
  unfold withT
  cases besideR t p q
  · rw [if_neg (by simp), tb_one hp]; simp
  · rw [if_pos rfl, tb_withR hq, tb_one hp]
    by_cases h8 : i < 8
    · simp [h8]
    · have h1 : ¬ i = p := by omega
      have h2 : ¬ i = q := by omega
      simp [h8, h1, h2]
theorem can_withT (t : Tb) (p q : Int) : Can (withT t p q) := by
  unfold withT; split
  · exact can_withR _ _
  · exact can_of' _
theorem mask_tb : ∀ n : Nat, n < 9 → 1 ≤ n → ∀ i : Nat, i < 64 → tb (w64 (w64 (1 * 2 ^ min (IntKind.u64.wrap (n : Int)).toNat 64) - 1)) i = decide (i < n) := by decide +kernel
def Tog (t : Tb) (n : Nat) (s : Int) : Prop := Can s ∧ (∀ i, i < 8 → tb s i = true → i < n) ∧ ∀ i j, i < 8 → j < 8 → tb s i = true → tb s j = true → i ≠ j → besideR t i j = true
theorem tog_with {t t' : Tb} (hg : t.groups = t'.groups) {n p q : Nat} (h8 : n ≤ 8) (hp : p < n) (hq : q < n) : Tog t n (withT t' p q) ∧ withT t' p q ≠ 0 := by
  have hb := beside_congr hg
  refine ⟨⟨can_withT _ _ _, fun i hi h => ?_, fun i j hi hj h1 h2 hne => ?_⟩, fun e => ?_⟩
  · rw [tb_withT t' (by omega) (by omega)] at h
    simp only [Bool.or_eq_true, Bool.and_eq_true, decide_eq_true_eq] at h
    omega
  · rw [tb_withT t' (by omega) (by omega)] at h1 h2
    simp only [Bool.or_eq_true, Bool.and_eq_true, decide_eq_true_eq] at h1 h2
    rw [hb]
    rcases h1 with rfl | ⟨hb1, rfl⟩
    · rcases h2 with rfl | ⟨hb2, rfl⟩
      · exact absurd rfl hne
      · exact hb2
    · rcases h2 with rfl | ⟨hb2, rfl⟩
      · rw [beside_sym]; exact hb1
      · exact absurd rfl hne
  · have := tb_withT t' (p := p) (q := q) (by omega) (by omega) p
    rw [e, tb_zero] at this; simp at this
theorem tog_zero (t : Tb) (n : Nat) : Tog t n 0 := ⟨⟨by decide, by decide⟩, (fun i _ h => by rw [tb_zero] at h; cases h), (fun i j _ _ h => by rw [tb_zero] at h; cases h)⟩
structure RlGood (t : Tb) (n : Nat) (r : Rl) : Prop where
  bars : Can r.bars ∧ ∀ i, i < 64 → tb r.bars i = true → i < n ∧ tb r.dwell i = false
  clear : Tog t n r.clear
  dwell : Tog t n r.dwell ∧ r.dwell ≠ 0
  exit : Tog t n r.exit ∧ r.exit ≠ 0
  hold : (1 ≤ r.hold ∧ r.hold ≤ 10 ∧ r.clear ≠ 0) ∨ (r.hold = 0 ∧ r.clear = 0)
  nums : 0 ≤ r.delay ∧ r.delay ≤ 3 ∧ 1 ≤ r.green ∧ r.green ≤ 6 ∧ 0 ≤ r.foot ∧ r.foot ≤ 5 ∧ 1 ≤ r.stay ∧ r.stay ≤ 15
  most : r.most = 0 ∨ (r.stay ≤ r.most ∧ r.most ≤ 44)
  limit : r.delay < r.limit ∧ r.limit ≤ 10004
theorem rl_good {t t' : Tb} (hg : t.groups = t'.groups) (l : Option (List Int)) (i : Int) {n : Nat} (hn : 1 ≤ n) (h8 : n ≤ 8) : RlGood t n (railOf t' l i n) := by
  have nat : ∀ j : Int, ∃ m : Nat, frm l j (n : Int) = m ∧ m < n := fun j => by
    have := frm_range l j (n := (n : Int)) (by omega) (by omega)
    exact ⟨(frm l j n).toNat, by omega, by omega⟩
  obtain ⟨a0, e0, k0⟩ := nat i
  obtain ⟨a1, e1, k1⟩ := nat (w64 (i + 1))
  obtain ⟨a2, e2, k2⟩ := nat (w64 (i + 2))
  obtain ⟨a3, e3, k3⟩ := nat (w64 (i + 3))
  obtain ⟨a5, e5, k5⟩ := nat (w64 (i + 5))
  have en : w64 ((n : Int) + 1) = (n : Int) + 1 := w64_id (by omega) (by omega)
  have r4 := frm_range l (w64 (i + 4)) (n := (n : Int) + 1) (by omega) (by omega)
  have r6 := frm_range l (w64 (i + 6)) (n := 10) (by decide) (by decide)
  have r7 := frm_range l (w64 (i + 7)) (n := 256) (by decide) (by decide)
  have r8 := frm_range l (w64 (i + 8)) (n := 4) (by decide) (by decide)
  have r9 := frm_range l (w64 (i + 9)) (n := 6) (by decide) (by decide)
  have ra := frm_range l (w64 (i + 10)) (n := 6) (by decide) (by decide)
  have rb := frm_range l (w64 (i + 11)) (n := 15) (by decide) (by decide)
  have rd := frm_range l (w64 (i + 13)) (n := 30) (by decide) (by decide)
  have re := frm_range l (w64 (i + 14)) (n := 3) (by decide) (by decide)
  have w6 := w64_id (n := 1 + frm l (w64 (i + 6)) 10) (by omega) (by omega)
  have w9 := w64_id (n := 1 + frm l (w64 (i + 9)) 6) (by omega) (by omega)
  have wb := w64_id (n := 1 + frm l (w64 (i + 11)) 15) (by omega) (by omega)
  have wd := w64_id (n := 1 + frm l (w64 (i + 11)) 15 + frm l (w64 (i + 13)) 30) (by omega) (by omega)
  have w8 := w64_id (n := frm l (w64 (i + 8)) 4 + 1) (by omega) (by omega)
  have hlim : ∃ v : Int, [10000, 400, 20].getD (frm l (w64 (i + 14)) 3).toNat 0 = v ∧ 20 ≤ v ∧ v ≤ 10000 := by
    have : (frm l (w64 (i + 14)) 3).toNat = 0 ∨ (frm l (w64 (i + 14)) 3).toNat = 1 ∨ (frm l (w64 (i + 14)) 3).toNat = 2 := by omega
    rcases this with h | h | h <;> rw [h]
    · exact ⟨10000, rfl, by decide, by decide⟩
    · exact ⟨400, rfl, by decide, by decide⟩
    · exact ⟨20, rfl, by decide, by decide⟩
  obtain ⟨v, hv, v1, v2⟩ := hlim
  have wl := w64_id (n := frm l (w64 (i + 8)) 4 + 1 + v) (by omega) (by omega)
  have td := tog_with hg h8 k0 k1
  have te := tog_with hg h8 k2 k3
  refine ⟨?_, ?_, ?_, ?_, ?_, ?_, ?_, ?_⟩ <;> simp only [railOf, e0, e1, e2, e3, e5, en, w6, w9, wb, wd, w8, hv, wl]
  · have hbits : ∀ j, j < 64 → tb (bAndNot .i64 (bAnd .i64 (frm l (w64 (i + 7)) 256) (w64 (w64 (1 * 2 ^ min (IntKind.u64.wrap (n : Int)).toNat 64) - 1))) (withT t' a0 a1)) j = true → j < n ∧ tb (withT t' a0 a1) j = false := by
      intro j hj h
      rw [tb_andNot _ _ _ hj, tb_and, mask_tb n (by omega) hn j hj] at h
      simp only [Bool.and_eq_true, Bool.not_eq_true', decide_eq_true_eq] at h
      exact ⟨h.1.2, h.2⟩
    refine ⟨?_, hbits⟩
    have e : bAndNot .i64 (bAnd .i64 (frm l (w64 (i + 7)) 256) (w64 (w64 (1 * 2 ^ min (IntKind.u64.wrap (n : Int)).toNat 64) - 1))) (withT t' a0 a1) = IntKind.i64.wrap ((bv (bAnd .i64 (frm l (w64 (i + 7)) 256) (w64 (w64 (1 * 2 ^ min (IntKind.u64.wrap (n : Int)).toNat 64) - 1))) &&& ~~~ bv (withT t' a0 a1)).toNat : Int) := rfl
    rw [e]
    refine can_bits fun j h1 h2 => ?_
    have h3 := tb_andNot (bAnd .i64 (frm l (w64 (i + 7)) 256) (w64 (w64 (1 * 2 ^ min (IntKind.u64.wrap (n : Int)).toNat 64) - 1))) (withT t' a0 a1) j h2
    have h4 := mask_tb n (by omega) hn j h2
    have h5 : ¬ j < n := by omega
    have h6 := tb_and (frm l (w64 (i + 7)) 256) (w64 (w64 (1 * 2 ^ min (IntKind.u64.wrap (n : Int)).toNat 64) - 1)) j
    rw [h4] at h6
    simp only [h5, decide_false, Bool.and_false] at h6
    simp only [tb] at h6
    rw [BitVec.getLsbD_and, h6]; rfl
  · split
    · rename_i hp
      obtain ⟨p, hpn⟩ : ∃ p : Nat, frm l (w64 (i + 4)) ((n : Int) + 1) = p := ⟨(frm l (w64 (i + 4)) ((n : Int) + 1)).toNat, by omega⟩
      rw [hpn] at hp ⊢
      exact (tog_with hg h8 (by omega) k5).1
    · exact tog_zero _ _
  · exact td
  · exact te
  · split
    · rename_i hp
      obtain ⟨p, hpn⟩ : ∃ p : Nat, frm l (w64 (i + 4)) ((n : Int) + 1) = p := ⟨(frm l (w64 (i + 4)) ((n : Int) + 1)).toNat, by omega⟩
      rw [hpn] at hp ⊢
      exact .inl ⟨by omega, by omega, (tog_with hg h8 (by omega) k5).2⟩
    · exact .inr ⟨rfl, rfl⟩
  · omega
  · split
    · right; omega
    · left; rfl
  · omega
theorem tRails (l : Option (List Int)) : ((tableOf l).rails.getD []).length ≤ 2 ∧ ∀ r ∈ (tableOf l).rails.getD [], RlGood (tableOf l) (nT l) r := by
  have e : (tableOf l).rails = mkO (railTo { Tb0 with groups := some (rowsOf' l).1 } l (rowsOf' l).2 ((frm l 176 4).tmod 3) ((frm l 176 4).tmod 3).toNat) := rfl
  have h := Int.tmod_lt_of_pos (frm l 176 4) (b := 3) (by decide)
  rw [e, mkO_getD]
  refine ⟨by rw [railTo_len]; omega, fun d hd => ?_⟩
  rw [railTo, List.mem_map] at hd
  obtain ⟨k, _, rfl⟩ := hd
  exact rl_good rfl _ _ (nT_range l).1 (nT_range l).2
end Go.Eng
namespace Go.Eng
set_option linter.unusedVariables false
set_option linter.unusedSimpArgs false
set_option linter.unnecessarySimpa false
open Go
section
open Z
set_option linter.unusedVariables false
def z12_29848 : List AV := [.nilfn,.nilfn,.nilfn,.nilfn,.nilfn,.nilfn,.nilfn,.nilfn,.nilfn,.nilfn,.nilfn,.nilfn]
def z235_36812 : List AV := [.bool false,.int .i64 0,.int .i64 0,.int .i64 0,.int .i64 0,.int .i64 0,.int .i64 0,.int .i64 0,.int .i64 0,.int .i64 0,.int .i64 0,.bool false,.bool false,.bool false,.int .i64 0,.int .i64 0,.int .i64 0,.int .i64 0,.int .i64 0,.int .i64 0,.int .i64 0,.int .i64 0,.int .i64 0,.int .i64 0,.bool false,.bool false,.bool false,.int .i64 0,.int .i64 0,.int .i64 0,.int .i64 0,.int .i64 0,.int .i64 0,.int .i64 0,.int .i64 0,.int .i64 0,.int .i64 0,.bool false,.bool false,.bool false,.int .i64 0,.int .i64 0,.int .i64 0,.int .i64 0,.int .i64 0,.int .i64 0,.int .i64 0,.int .i64 0,.int .i64 0,.int .i64 0,.bool false,.bool false,.bool false,.int .i64 0,.int .i64 0,.int .i64 0,.int .i64 0,.int .i64 0,.int .i64 0,.int .i64 0,.int .i64 0,.int .i64 0,.int .i64 0,.bool false,.bool false,.bool false,.int .i64 0,.int .i64 0,.int .i64 0,.int .i64 0,.int .i64 0,.int .i64 0,.int .i64 0,.int .i64 0,.int .i64 0,.int .i64 0,.bool false,.bool false,.bool false,.int .i64 0,.int .i64 0,.int .i64 0,.int .i64 0,.int .i64 0,.int .i64 0,.int .i64 0,.int .i64 0,.int .i64 0,.int .i64 0,.bool false,.bool false,.bool false,.int .i64 0,.int .i64 0,.int .i64 0,.int .i64 0,.int .i64 0,.int .i64 0,.int .i64 0,.int .i64 0,.int .i64 0,.int .i64 0,.bool false,.bool false,.nils,.int .i64 0,.int .i64 0,.int .i64 0,.int .i64 0,.int .i64 0,.int .i64 0,.int .i64 0,.int .i64 0,.nils,.nils,.nils,.int .i64 0,.int .i64 0,.int .i64 0,.int .i64 0,.int .i64 0,.int .i64 0,.int .i64 0,.int .i64 0,.int .i64 0,.int .i64 0,.int .i64 0,.int .i64 0,.int .i64 0,.int .i64 0,.int .i64 0,.int .i64 0,.int .i64 0,.int .i64 0,.int .i64 0,.int .i64 0,.int .i64 0,.int .i64 0,.int .i64 0,.int .i64 0,.int .i64 0,.int .i64 0,.int .i64 0,.int .i64 0,.int .i64 0,.int .i64 0,.bool false,.bool false,.int .i64 0,.int .i64 0,.int .i64 0,.int .i64 0,.int .i64 0,.int .i64 0,.int .i64 0,.int .i64 0,.int .i64 0,.int .i64 0,.bool false,.bool false,.int .i64 0,.int .i64 0,.int .i64 0,.int .i64 0,.int .i64 0,.int .i64 0,.int .i64 0,.int .i64 0,.int .i64 0,.int .i64 0,.bool false,.bool false,.int .i64 0,.int .i64 0,.int .i64 0,.int .i64 0,.int .i64 0,.int .i64 0,.int .i64 0,.int .i64 0,.int .i64 0,.int .i64 0,.bool false,.bool false,.int .i64 0,.int .i64 0,.int .i64 0,.int .i64 0,.int .i64 0,.int .i64 0,.int .i64 0,.int .i64 0,.int .i64 0,.int .i64 0,.bool false,.bool false,.int .i64 0,.int .i64 0,.int .i64 0,.int .i64 0,.int .i64 0,.int .i64 0,.int .i64 0,.int .i64 0,.int .i64 0,.int .i64 0,.bool false,.bool false,.int .i64 0,.int .i64 0,.int .i64 0,.int .i64 0,.int .i64 0,.int .i64 0,.int .i64 0,.int .i64 0,.int .i64 0,.int .i64 0,.bool false,.bool false,.int .i64 0,.int .i64 0,.int .i64 0,.int .i64 0,.int .i64 0,.int .i64 0,.int .i64 0,.int .i64 0,.int .i64 0,.int .i64 0,.bool false,.bool false,.int .i64 0,.int .i64 0,.int .i64 0]
def cc_law21_RailStages (g0 g1 g2 g3 g4 g5 : Nat) : CFn := ⟨137,[.tmp 8],r [o 5 (w 1),o 7 (w 3),V 8 (F)] (r [M 15 0,o 16 (.call g0 [t 15]),o 9 (.alloc z131_45020),n (s 9 16 131)] (r [o 17 (L 9 131),o 18 (L 5 8),o 19 (.call g1 [t 17,t 18]),o 10 (.alloc [i 0,i 0,i 0,i 0,i 0,i 0,i 0,i 0]),n (s 10 19 8)] (r [o 21 (L 9 131),o 22 (L 10 8),M 23 2,o 24 (L 7 96),o 25 (.call g2 [t 21,t 22,t 23,t 24]),M 20 25,o 26 (e 20 0),o 27 (e 20 1),o 11 (.alloc [i 0,i 0,i 0,i 0,i 0,i 0,i 0,i 0]),o 12 (.alloc [i 0,i 0,i 0,F,F]),n (s 11 26 8),n (s 12 27 5)] (j (r [o 28 (f 12 3),o 29 (l 28),o 30 (f 11 0),o 31 (l 30),o 32 (bb .eql 31 (i 0)),M 33 32,p 34 (f 12 4) 33,p 35 (l 34) 33,p 36 (.un .not (t 35)) 33,o 37 (P 33 36),o 38 (.bb true (t 29) (t 37)),M 39 38,q 40 (f 12 4) 39,q 41 (l 40) 39,q 42 (f 10 0) 39,q 43 (l 42) 39,q 44 (bb .eql 43 (i 5)) 39,q 45 (m 44) 39,p 46 (f 11 0) 45,p 47 (l 46) 45,p 48 (bb .eql 47 (i 0)) 45,q 49 (P 45 48) 39,q 50 (.bb true (t 41) (t 49)) 39,o 51 (Q 39 50)] (c 51 (r [V 8 (F)] y) z)) (j (r [o 52 (f 11 0),o 53 (l 52),o 54 (bb .eql 53 (i 1)),M 55 54,p 56 (f 10 0) 55,p 57 (l 56) 55,p 58 (bb .neq 57 (i 1)) 55,p 59 (m 58) 55,q 60 (f 11 1) 59,q 61 (l 60) 59,q 62 (f 10 1) 59,q 63 (l 62) 59,q 64 (b .neq 61 63) 59,p 65 (Q 59 64) 55,o 66 (P 55 65)] (c 66 (r [o 67 (L 9 131),o 68 (L 11 8),o 69 (.call g3 [t 67,t 68]),M 13 69] (r [o 70 (f 10 0),o 71 (l 70),o 72 (bb .eql 71 (i 0)),M 73 72,q 74 (f 10 0) 73,q 75 (l 74) 73,q 76 (bb .eql 75 (i 5)) 73,o 77 (Q 73 76),M 78 77,q 79 (f 10 0) 78,q 80 (l 79) 78,q 81 (bb .eql 80 (i 4)) 78,o 82 (Q 78 81),M 83 82,q 84 (f 11 1) 83,q 85 (l 84) 83,q 86 (f 10 1) 83,q 87 (l 86) 83,q 88 (b .lss 85 87) 83,o 89 (Q 83 88),M 14 89] (r [M 90 13,o 91 (f 11 1),o 92 (l 91),o 93 (b .eql 90 92),M 94 93,p 95 (f 11 2) 94,p 96 (l 95) 94,p 97 (bb .eql 96 (i 0)) 94,o 98 (P 94 97),M 99 98,p 100 (m 14) 99,o 101 (P 99 100),M 102 101,p 103 (.call g4 []) 102,o 104 (P 102 103),M 8 104] y))) z)) (r [o 105 (f 10 0),o 106 (l 105),o 107 (f 11 0),o 108 (l 107),o 109 (.call g5 [t 106,t 108]),M 110 109,p 111 (f 11 1) 110,p 112 (l 111) 110,p 113 (f 10 1) 110,p 114 (l 113) 110,p 115 (b .eql 112 114) 110,p 116 (m 115) 110,q 117 (f 11 0) 116,q 118 (l 117) 116,q 119 (bb .eql 118 (i 0)) 116,p 120 (Q 116 119) 110,o 121 (P 110 120),M 122 121,p 123 (f 11 0) 122,p 124 (l 123) 122,p 125 (f 10 0) 122,p 126 (l 125) 122,p 127 (b .eql 124 126) 122,p 128 (m 127) 122,q 129 (f 11 2) 128,q 130 (l 129) 128,q 131 (bb .eql 130 (i 0)) 128,p 132 (Q 128 131) 122,o 133 (P 122 132),M 134 133,p 135 (.call g4 []) 134,o 136 (P 134 135),M 8 136] y))))))⟩
def cc_law21_RailActs (g0 g1 g2 g3 g4 g5 g6 g7 g8 : Nat) : CFn := ⟨171,[.tmp 8],r [o 5 (w 1),o 7 (w 3),V 8 (F)] (r [M 21 0,o 22 (.call g0 [t 21]),o 9 (.alloc z131_45020),n (s 9 22 131)] (r [o 23 (L 9 131),o 24 (L 5 8),o 25 (.call g1 [t 23,t 24]),o 10 (.alloc [i 0,i 0,i 0,i 0,i 0,i 0,i 0,i 0]),n (s 10 25 8)] (r [o 27 (L 9 131),o 28 (L 10 8),M 29 2,o 30 (L 7 96),o 31 (.call g2 [t 27,t 28,t 29,t 30]),M 26 31,o 32 (e 26 0),o 33 (e 26 1),o 11 (.alloc [i 0,i 0,i 0,i 0,i 0,i 0,i 0,i 0]),o 12 (.alloc [i 0,i 0,i 0,F,F]),n (s 11 32 8),n (s 12 33 5)] (r [o 34 (L 7 96),o 35 (.call g3 [t 34]),M 13 35] (j (r [o 36 (f 12 3),o 37 (l 36),M 38 37,q 39 (f 12 4) 38,q 40 (l 39) 38,o 41 (Q 38 40)] (c 41 (r [o 42 (f 12 1),o 43 (l 42),o 44 (bb .eql 43 (i 0)),M 45 44,p 46 (f 12 2) 45,p 47 (l 46) 45,p 48 (bb .eql 47 (i 0)) 45,o 49 (P 45 48),M 50 49,p 51 (f 12 4) 50,p 52 (l 51) 50,p 53 (m 52) 50,q 54 (f 12 0) 53,q 55 (l 54) 53,q 56 (bb .eql 55 (i 0)) 53,p 57 (Q 53 56) 50,o 58 (P 50 57),M 59 58,p 60 (.call g4 []) 59,o 61 (P 59 60),M 8 61] y) z)) (j (r [o 62 (f 11 1),o 63 (l 62),o 64 (bb .lss 63 (i 0)),M 65 64,q 66 (f 11 1) 65,q 67 (l 66) 65,q 68 (f 9 114) 65,q 69 (l 68) 65,q 70 (h 69) 65,q 71 (b .geq 67 70) 65,o 72 (Q 65 71)] (c 72 (r [V 8 (F)] y) z)) (r [o 73 (f 9 114),o 74 (l 73),o 75 (f 11 1),o 76 (l 75),o 77 (a 74 76 11),o 78 (L 77 11),o 14 (.alloc z11_58867),n (s 14 78 11)] (r [o 79 (f 14 3),o 80 (l 79),M 15 80] (j (r [o 81 (f 11 0),o 82 (l 81)] (u 0 (j (r [o 84 (bb .eql 82 (i 1)),M 83 84] (c 83 z (R [o 85 (bb .eql 82 (i 2)),M 83 85]))) (c 83 (r [o 86 (f 14 1),o 87 (l 86),M 15 87] (r [o 88 (f 14 1),o 89 (l 88),o 90 (bb .eql 89 (i 0))] (c 90 (R [o 91 (f 14 2),o 92 (l 91),M 15 92]) z))) (j (r [o 94 (bb .eql 82 (i 3)),M 93 94] (c 93 z (R [o 95 (bb .eql 82 (i 4)),M 93 95]))) (c 93 (R [o 96 (f 14 2),o 97 (l 96),M 15 97]) z)))))) (j (r [o 98 (f 12 0),o 99 (l 98),o 100 (.call g5 [t 99]),o 101 (h 100),V 102 (i 0)] (u 1 (.loop (r [o 103 (b .lss 102 101)] (j (c 103 z (.exit 1)) (j (u 2 (r [o 104 (a 100 102 1),o 105 (l 104),M 17 105] (r [V 18 (i 0)] (u 3 (.loop (j (r [M 106 18,o 107 (bb .lss 106 (i 8))] (c 107 z (.exit 3))) (j (u 4 (r [M 110 18,M 111 17,o 112 (b .eql 110 111),M 113 112,q 114 (L 9 131) 113,q 115 (m 17) 113,q 116 (m 18) 113,q 117 (.call g6 [t 114,t 115,t 116]) 113,o 118 (Q 113 117),M 119 118,p 120 (L 7 96) 119,p 121 (.call g7 [t 120]) 119,p 122 (m 18) 119,p 123 (.call g8 [t 121,t 122]) 119,p 124 (.un .not (t 123)) 119,o 125 (P 119 124)] (c 125 (r [V 8 (F)] y) z))) (R [M 108 18,o 109 (bb .add 108 (i 1)),M 18 109])))))))) (R [o 126 (bb .add 102 (i 1)),M 102 126]))))))) (j (r [o 127 (f 12 2),o 128 (l 127),o 129 (.call g5 [t 128]),o 130 (h 129),V 131 (i 0)] (u 5 (.loop (r [o 132 (b .lss 131 130)] (j (c 132 z (.exit 5)) (j (u 6 (r [o 133 (a 129 131 1),o 134 (l 133),M 20 134] (r [M 135 20,o 136 (A 7 135 8 12),o 137 (f 136 2),o 138 (f 137 0),o 139 (l 138),o 140 (bb .neq 139 (i 1))] (c 140 (r [V 8 (F)] y) z)))) (R [o 141 (bb .add 131 (i 1)),M 131 141]))))))) (r [o 142 (f 12 0),o 143 (l 142),M 144 15,o 145 (b .andNot 143 144),o 146 (bb .eql 145 (i 0)),M 147 146,p 148 (f 12 1) 147,p 149 (l 148) 147,p 150 (m 13) 147,p 151 (b .andNot 149 150) 147,p 152 (bb .eql 151 (i 0)) 147,o 153 (P 147 152),M 154 153,p 155 (f 12 1) 154,p 156 (l 155) 154,p 157 (m 15) 154,p 158 (b .and 156 157) 154,p 159 (bb .eql 158 (i 0)) 154,o 160 (P 154 159),M 161 160,p 162 (f 12 2) 161,p 163 (l 162) 161,p 164 (m 15) 161,p 165 (b .and 163 164) 161,p 166 (bb .eql 165 (i 0)) 161,o 167 (P 161 166),M 168 167,p 169 (.call g4 []) 168,o 170 (P 168 169),M 8 170] y))))))))))))⟩
def cc_law21_RailCounts (g0 g1 g2 g3 g4 : Nat) : CFn := ⟨103,[.tmp 4],r [V 4 (F)] (r [M 12 0,o 13 (.call g0 [t 12]),o 5 (.alloc z131_45020),n (s 5 13 131)] (j (r [M 14 1,o 15 (h 14),o 16 (bb .gtr 15 (i 200))] (c 16 (r [o 17 (.call g1 []),M 4 17] y) z)) (r [o 6 (.alloc [i 0,i 0,i 0,i 0,i 0,i 0,i 0,i 0])] (r [o 7 (.alloc [i 0,i 0,i 0,i 0])] (j (r [V 8 (i 0)] (u 0 (.loop (j (r [M 18 8,M 19 1,o 20 (h 19),o 21 (b .lss 18 20)] (c 21 z (.exit 0))) (j (u 1 (r [o 24 (L 5 131),o 25 (L 6 8),M 26 1,M 27 8,o 28 (a 26 27 1),o 29 (l 28),o 30 (.call g2 [t 24,t 25,t 29]),n (s 6 30 8)] (r [V 9 (i (-1))] (r [V 10 (F)] (j (r [o 31 (f 5 114),o 32 (l 31),o 33 (h 32),o 34 (bb .sub 33 (i 1)),M 11 34] (u 2 (.loop (j (r [M 35 11,o 36 (bb .geq 35 (i 0))] (c 36 z (.exit 2))) (j (u 3 (r [M 39 11,o 40 (A 7 39 4 1),o 41 (l 40),o 42 (bb .add 41 (i 1)),o 43 (A 7 39 4 1),n (s 43 42 1)] (j (r [M 44 1,M 45 8,o 46 (a 44 45 1),o 47 (l 46),M 48 11,o 49 (.cvII .u64 (t 48)),o 50 (b .shr 47 49),o 51 (bb .and 50 (i 1)),o 52 (bb .eql 51 (i 0))] (c 52 (R [M 53 11,o 54 (A 7 53 4 1),n (ss 54 (i 0) 1)]) z)) (j (r [M 55 11,o 56 (A 7 55 4 1),o 57 (l 56),o 58 (f 5 114),o 59 (l 58),M 60 11,o 61 (a 59 60 11),o 62 (f 61 4),o 63 (l 62),o 64 (b .gtr 57 63)] (c 64 (R [M 65 11,M 9 65]) z)) (R [M 66 10,M 67 66,q 68 (m 11) 67,q 69 (A 7 68 4 1) 67,q 70 (l 69) 67,q 71 (f 5 114) 67,q 72 (l 71) 67,q 73 (m 11) 67,q 74 (a 72 73 11) 67,q 75 (f 74 10) 67,q 76 (l 75) 67,q 77 (b .gtr 70 76) 67,o 78 (Q 67 77),M 10 78]))))) (R [M 37 11,o 38 (bb .sub 37 (i 1)),M 11 38])))))) (r [o 79 (f 6 3),o 80 (L 79 4),o 81 (L 7 4),o 82 (.eqc [.i,.i,.i,.i] true (t 80) (t 81)),M 83 82,q 84 (f 6 7) 83,q 85 (l 84) 83,q 86 (bb .neq 85 (i 0)) 83,o 87 (Q 83 86),M 88 87,q 89 (L 5 131) 88,q 90 (L 6 8) 88,q 91 (.call g3 [t 89,t 90]) 88,q 92 (m 9) 88,q 93 (b .neq 91 92) 88,o 94 (Q 88 93),M 95 94,q 96 (L 5 131) 95,q 97 (L 6 8) 95,q 98 (.call g4 [t 96,t 97]) 95,q 99 (m 10) 95,q 100 (.bb true (t 98) (t 99)) 95,o 101 (Q 95 100)] (c 101 (r [V 4 (F)] y) z))))))) (R [M 22 8,o 23 (bb .add 22 (i 1)),M 8 23])))))) (r [o 102 (.call g1 []),M 4 102] y))))))⟩
def cc_law00_Pre (g0 : Nat) : CFn := ⟨30,[.cell 4 (some 8)],r [o 2 (w 0),o 3 (w 1),o 4 (.alloc [i 0,i 0,i 0,i 0,i 0,i 0,i 0,i 0])] (r [o 6 (L 3 8),o 5 (.alloc [i 0,i 0,i 0,i 0,i 0,i 0,i 0,i 0]),n (s 5 6 8)] (r [o 7 (f 3 0),o 8 (l 7),o 9 (.call g0 [t 8,k (i 6)]),o 10 (f 5 0),n (s 10 9 1)] (j (r [o 11 (f 2 114),o 12 (l 11),o 13 (h 12),o 14 (bb .eql 13 (i 0))] (c 14 (R [o 15 (f 5 0),n (ss 15 (i 0) 1)]) z)) (j (r [o 16 (f 5 0),o 17 (l 16),o 18 (bb .eql 17 (i 0))] (c 18 (r [o 19 (f 5 1),n (ss 19 (i 0) 1)] (r [o 20 (f 5 2),n (ss 20 (i 0) 1)] (r [o 21 (L 5 8),n (s 4 21 8)] y))) z)) (r [o 22 (f 3 1),o 23 (l 22),o 24 (f 2 114),o 25 (l 24),o 26 (h 25),o 27 (.call g0 [t 23,t 26]),o 28 (f 5 1),n (s 28 27 1)] (r [o 29 (L 5 8),n (s 4 29 8)] y))))))⟩
def cc_preempt_Step (g0 g1 g2 g3 g4 g5 : Nat) : CFn := ⟨147,[.cell 8 (some 8),.cell 9 (some 5)],r [o 4 (w 0),o 5 (w 1),o 7 (w 3),o 8 (.alloc [i 0,i 0,i 0,i 0,i 0,i 0,i 0,i 0]),o 9 (.alloc [i 0,i 0,i 0,F,F])] (r [o 16 (L 4 131),o 17 (L 4 131),o 18 (L 5 8),M 19 2,o 20 (.call g0 [t 17,t 18,t 19]),o 21 (L 7 96),o 22 (.build z235_36812 [(0,131,t 16),(131,8,t 20),(139,96,t 21)]),o 23 (w 22),M 10 23] (r [o 24 (.call g1 []),o 11 (.alloc z12_29848),n (s 11 24 12)] (j (r [M 25 10,o 26 (.nc (t 25)),o 27 (f 26 131),o 28 (f 27 0),o 29 (l 28),o 30 (bb .lss 29 (i 0)),M 31 30,q 32 (m 10) 31,q 33 (.nc (t 32)) 31,q 34 (f 33 131) 31,q 35 (f 34 0) 31,q 36 (l 35) 31,q 37 (bb .geq 36 (i 6)) 31,o 38 (Q 31 37)] (c 38 (R [M 39 10,o 40 (.nc (t 39)),o 41 (f 40 131),o 42 (f 41 0),n (ss 42 (i 0) 1)]) z)) (r [M 43 10,o 44 (.nc (t 43)),o 45 (f 44 131),o 46 (f 45 0),o 47 (l 46),M 12 47] (j (r [o 48 (L 4 131),M 49 10,o 50 (.nc (t 49)),o 51 (f 50 131),o 52 (L 51 8),o 53 (.call g2 [t 48,t 52]),M 13 53] (r [M 54 13,o 55 (bb .geq 54 (i 0)),M 56 55,p 57 (m 12) 56,p 58 (bb .eql 57 (i 0)) 56,p 59 (m 58) 56,q 60 (m 12) 59,q 61 (bb .eql 60 (i 5)) 59,p 62 (Q 59 61) 56,p 63 (m 62) 56,q 64 (m 13) 63,q 65 (m 10) 63,q 66 (.nc (t 65)) 63,q 67 (f 66 131) 63,q 68 (f 67 1) 63,q 69 (l 68) 63,q 70 (b .lss 64 69) 63,p 71 (Q 63 70) 56,o 72 (P 56 71)] (c 72 (r [M 73 10,M 74 10,M 75 10,M 76 13,o 77 (.nc (t 73)),o 78 (f 77 131),o 79 (f 78 0),n (ss 79 (i 1) 1),o 80 (.nc (t 74)),o 81 (f 80 131),o 82 (f 81 1),n (s 82 76 1),o 83 (.nc (t 75)),o 84 (f 83 131),o 85 (f 84 2),n (ss 85 (i 0) 1)] (.seq (.regD [M 86 10,o 87 (.nc (t 86)),o 88 (f 87 131),o 89 (L 88 8),M 90 10,o 91 (.callp g3 [t 90]),n (s 8 89 8),n (s 9 91 5)] [(3,5)]) y)) z))) (r [M 92 12,o 93 (A 11 92 6 2),o 94 (f 93 0),o 95 (l 94),M 96 10,o 97 (.callvp (t 95) [t 96]),M 14 97] (j (r [M 98 12,o 99 (bb .eql 98 (i 5)),M 100 99,p 101 (m 14) 100,p 102 (bb .eql 101 (i 0)) 100,o 103 (P 100 102)] (c 103 (r [M 104 10,o 105 (.callp g4 [t 104]),o 15 (.alloc [i 0,i 0,i 0,F,F]),n (s 15 105 5)] (r [M 106 10,M 107 10,M 108 10,o 109 (.nc (t 106)),o 110 (f 109 131),o 111 (f 110 0),n (ss 111 (i 0) 1),o 112 (.nc (t 107)),o 113 (f 112 131),o 114 (f 113 1),n (ss 114 (i 0) 1),o 115 (.nc (t 108)),o 116 (f 115 131),o 117 (f 116 2),n (ss 117 (i 0) 1)] (.seq (.regD [M 118 10,o 119 (.nc (t 118)),o 120 (f 119 131),o 121 (L 120 8),o 122 (L 15 5),n (s 8 121 8),n (s 9 122 5)] [(4,5)]) y))) z)) (r [M 123 10,M 124 14,o 125 (.nc (t 123)),o 126 (f 125 131),o 127 (f 126 0),n (s 127 124 1)] (r [M 128 10,M 129 10,M 130 14,M 131 12,o 132 (b .neq 130 131),o 133 (.callp g5 [t 129,t 132]),o 134 (.nc (t 128)),o 135 (f 134 131),o 136 (f 135 2),n (s 136 133 1)] (.seq (.regD [M 137 10,o 138 (.nc (t 137)),o 139 (f 138 131),o 140 (L 139 8),M 141 14,o 142 (A 11 141 6 2),o 143 (f 142 1),o 144 (l 143),M 145 10,o 146 (.callvp (t 144) [t 145]),n (s 8 140 8),n (s 9 146 5)] [(3,9)]) y))))))))))⟩
def cc_preempt_Ready (g0 : Nat) : CFn := ⟨32,[.tmp 4],r [o 2 (w 0),o 3 (w 1),V 4 (i 0)] (j (r [o 7 (L 2 131),o 8 (.call g0 [t 7]),o 9 (h 8),V 10 (i 0)] (u 0 (.loop (r [o 11 (b .lss 10 9)] (j (c 11 z (.exit 0)) (j (u 1 (r [M 12 10,o 13 (a 8 10 11),o 14 (L 13 11),o 6 (.alloc z11_58867),M 5 12,n (s 6 14 11)] (r [M 15 5,o 16 (f 3 3),o 17 (A 16 15 4 1),o 18 (l 17),o 19 (f 6 4),o 20 (l 19),o 21 (b .gtr 18 20),M 22 21,p 23 (f 3 7) 22,p 24 (l 23) 22,p 25 (m 5) 22,p 26 (b .shr 24 25) 22,p 27 (bb .and 26 (i 1)) 22,p 28 (bb .eql 27 (i 0)) 22,o 29 (P 22 28)] (c 29 (r [M 30 5,M 4 30] y) z)))) (R [o 31 (bb .add 10 (i 1)),M 10 31]))))))) (r [V 4 (i (-1))] y))⟩
def cc_law21_awake (g0 g1 g2 : Nat) : CFn := ⟨59,[.tmp 0],r [V 0 (F)] (r [o 9 (.call g0 []),o 1 (.alloc z131_45020),n (s 1 9 131)] (r [o 2 (.alloc z96_20145)] (r [o 11 (L 1 131),o 12 (.build [i 0,i 0,i 0,i 0,i 0,i 0,i 0,i 0] []),o 13 (L 2 96),o 14 (.call g1 [t 11,t 12,k (i 0),t 13]),M 10 14,o 15 (e 10 0),o 16 (e 10 1),o 3 (.alloc [i 0,i 0,i 0,i 0,i 0,i 0,i 0,i 0]),o 4 (.alloc [i 0,i 0,i 0,F,F]),n (s 3 15 8),n (s 4 16 5)] (r [o 18 (L 1 131),o 19 (L 3 8),o 20 (L 2 96),o 21 (.call g1 [t 18,t 19,k (i 1),t 20]),M 17 21,o 22 (e 17 0),o 23 (e 17 1),o 5 (.alloc [i 0,i 0,i 0,i 0,i 0,i 0,i 0,i 0]),o 6 (.alloc [i 0,i 0,i 0,F,F]),n (s 5 22 8),n (s 6 23 5)] (r [o 25 (L 1 131),o 26 (L 5 8),o 27 (L 2 96),o 28 (.call g1 [t 25,t 26,k (i 1),t 27]),M 24 28,o 29 (e 24 0),o 30 (e 24 1),o 7 (.alloc [i 0,i 0,i 0,i 0,i 0,i 0,i 0,i 0]),o 8 (.alloc [i 0,i 0,i 0,F,F]),n (s 7 29 8),n (s 8 30 5)] (r [o 31 (f 4 3),o 32 (l 31),M 33 32,p 34 (f 5 0) 33,p 35 (l 34) 33,p 36 (bb .eql 35 (i 1)) 33,o 37 (P 33 36),M 38 37,p 39 (f 6 3) 38,p 40 (l 39) 38,p 41 (.un .not (t 40)) 38,o 42 (P 38 41),M 43 42,p 44 (f 7 0) 43,p 45 (l 44) 43,p 46 (bb .eql 45 (i 4)) 43,o 47 (P 43 46),M 48 47,p 49 (f 8 0) 48,p 50 (l 49) 48,p 51 (bb .eql 50 (i 1)) 48,o 52 (P 48 51),M 53 52,p 54 (L 1 131) 53,p 55 (L 7 8) 53,p 56 (.call g2 [t 54,t 55]) 53,p 57 (bb .eql 56 (i 0)) 53,o 58 (P 53 57),M 0 58] y))))))⟩
def cc_law21_may : CFn := ⟨52,[.tmp 4],r [V 4 (F)] (j (r [M 5 0] (u 0 (r [o 7 (bb .eql 5 (i 0)),M 6 7] (c 6 (r [M 8 1,o 9 (bb .eql 8 (i 0)),M 4 9] y) (r [o 11 (bb .eql 5 (i 1)),M 10 11] (c 10 (r [M 12 1,o 13 (bb .eql 12 (i 1)),M 14 13,q 15 (m 1) 14,q 16 (bb .eql 15 (i 2)) 14,o 17 (Q 14 16),M 18 17,q 19 (m 1) 18,q 20 (bb .eql 19 (i 4)) 18,o 21 (Q 18 20),M 4 21] y) (r [o 23 (bb .eql 5 (i 2)),M 22 23] (c 22 (r [M 24 1,o 25 (bb .eql 24 (i 2)),M 26 25,q 27 (m 1) 26,q 28 (bb .eql 27 (i 3)) 26,o 29 (Q 26 28),M 4 29] y) (r [o 31 (bb .eql 5 (i 3)),M 30 31] (c 30 (r [M 32 1,o 33 (bb .eql 32 (i 3)),M 34 33,q 35 (m 1) 34,q 36 (bb .eql 35 (i 4)) 34,o 37 (Q 34 36),M 4 37] y) (r [o 39 (bb .eql 5 (i 4)),M 38 39] (c 38 (r [M 40 1,o 41 (bb .eql 40 (i 4)),M 42 41,q 43 (m 1) 42,q 44 (bb .eql 43 (i 5)) 42,o 45 (Q 42 44),M 4 45] y) z)))))))))))) (r [M 46 1,o 47 (bb .eql 46 (i 5)),M 48 47,q 49 (m 1) 48,q 50 (bb .eql 49 (i 0)) 48,o 51 (Q 48 50),M 4 51] y))⟩
def cc_ref19_Reds (g0 g1 : Nat) : CFn := ⟨17,[.tmp 2],r [o 1 (w 0),V 2 (i 0)] (r [V 3 (i 0)] (j (r [V 4 (i 0)] (u 0 (.loop (j (r [M 5 4,o 6 (bb .lss 5 (i 8))] (c 6 z (.exit 0))) (j (u 1 (r [M 9 4,o 10 (A 1 9 8 12),o 11 (L 10 12),o 12 (.call g0 [t 11])] (c 12 (R [M 13 3,M 14 4,o 15 (.call g1 [t 13,t 14]),M 3 15]) z))) (R [M 7 4,o 8 (bb .add 7 (i 1)),M 4 8])))))) (r [M 16 3,M 2 16] y)))⟩
def cc_preempt_Lines (g0 : Nat) : CFn := ⟨43,[.cell 6 (some 8)],r [o 3 (w 0),o 4 (w 1),o 6 (.alloc [i 0,i 0,i 0,i 0,i 0,i 0,i 0,i 0])] (r [V 7 (i 0)] (r [o 8 (.alloc [i 0,i 0,i 0,i 0])] (j (r [o 10 (L 3 131),o 11 (.call g0 [t 10]),o 12 (h 11),V 13 (i 0)] (u 0 (.loop (r [o 14 (b .lss 13 12)] (j (c 14 z (.exit 0)) (j (u 1 (r [M 15 13,M 9 15] (r [M 16 2,M 17 9,o 18 (b .shr 16 17),o 19 (bb .and 18 (i 1)),o 20 (bb .eql 19 (i 1))] (c 20 (r [M 21 7,M 22 9,o 23 (.bin .shl (k (i 1)) (t 22)),o 24 (b .or 21 23),M 7 24] (R [M 25 9,M 26 9,o 27 (f 4 3),o 28 (A 27 26 4 1),o 29 (l 28),o 30 (.mm true [t 29,k (i 0)]),o 31 (.mm false [t 30,k (i 2147483646)]),o 32 (bb .add 31 (i 1)),o 33 (A 8 25 4 1),n (s 33 32 1)])) z)))) (R [o 34 (bb .add 13 (i 1)),M 13 34]))))))) (r [o 35 (L 8 4),o 36 (f 4 7),o 37 (l 36),M 38 7,o 39 (b .and 37 38),o 40 (f 4 3),n (s 40 35 4),o 41 (f 4 7),n (s 41 39 1)] (r [o 42 (L 4 8),n (s 6 42 8)] y)))))⟩
def cc_preempt_Stuck (g0 : Nat) : CFn := ⟨23,[.tmp 4],r [o 2 (w 0),o 3 (w 1),V 4 (F)] (j (r [o 7 (L 2 131),o 8 (.call g0 [t 7]),o 9 (h 8),V 10 (i 0)] (u 0 (.loop (r [o 11 (b .lss 10 9)] (j (c 11 z (.exit 0)) (j (u 1 (r [M 12 10,o 13 (a 8 10 11),o 14 (L 13 11),o 6 (.alloc z11_58867),M 5 12,n (s 6 14 11)] (r [M 15 5,o 16 (f 3 3),o 17 (A 16 15 4 1),o 18 (l 17),o 19 (f 6 10),o 20 (l 19),o 21 (b .gtr 18 20)] (c 21 (r [V 4 (T)] y) z)))) (R [o 22 (bb .add 10 (i 1)),M 10 22]))))))) (r [V 4 (F)] y))⟩
def cc_preempt_stages (g0 g1 g2 g3 g4 g5 g6 g7 g8 g9 g10 g11 : Nat) : CFn := ⟨8,[.cell 0 (some 12)],r [o 0 (.alloc z12_29848)] (r [o 1 (.build [.nilfn,.nilfn] [(0,1,k (.fn (.func g0) [] [])),(1,1,k (.fn (.func g1) [] []))]),o 2 (.build [.nilfn,.nilfn] [(0,1,k (.fn (.func g2) [] [])),(1,1,k (.fn (.func g3) [] []))]),o 3 (.build [.nilfn,.nilfn] [(0,1,k (.fn (.func g4) [] [])),(1,1,k (.fn (.func g5) [] []))]),o 4 (.build [.nilfn,.nilfn] [(0,1,k (.fn (.func g6) [] [])),(1,1,k (.fn (.func g7) [] []))]),o 5 (.build [.nilfn,.nilfn] [(0,1,k (.fn (.func g8) [] [])),(1,1,k (.fn (.func g9) [] []))]),o 6 (.build [.nilfn,.nilfn] [(0,1,k (.fn (.func g10) [] [])),(1,1,k (.fn (.func g11) [] []))]),o 7 (.build z12_29848 [(0,2,t 1),(2,2,t 2),(4,2,t 3),(6,2,t 4),(8,2,t 5),(10,2,t 6)]),n (s 0 7 12)] y)⟩
def cc_preempt_way_entry (g0 g1 g2 : Nat) : CFn := ⟨10,[.cell 2 (some 5)],r [o 2 (.alloc [i 0,i 0,i 0,F,F])] (r [M 3 0,M 4 0,o 5 (.callp g0 [t 4]),M 6 0,o 7 (.callp g1 [t 6]),o 8 (.fld (t 7) 5 none),o 9 (.callp g2 [t 3,t 5,t 8]),n (s 2 9 5)] y)⟩
def cc_preempt_way_back (g0 g1 g2 : Nat) : CFn := ⟨9,[.cell 2 (some 5)],r [o 2 (.alloc [i 0,i 0,i 0,F,F])] (r [M 3 0,M 4 0,o 5 (.callp g0 [t 4]),o 6 (.fld (t 5) 3 none),o 7 (.callp g1 [t 3,t 6,k (.fn (.func g2) [] [])]),o 8 (.build [i 0,i 0,i 0,F,F] [(4,1,k (T)),(0,1,t 7)]),n (s 2 8 5)] y)⟩
def cc_preempt_way_time (g0 g1 g2 : Nat) : CFn := ⟨53,[.tmp 4],r [V 4 (i 0)] (j (u 0 (j (r [M 6 1,M 5 6] (c 5 z (R [M 7 0,o 8 (.nc (t 7)),o 9 (f 8 131),o 10 (f 9 0),o 11 (l 10),o 12 (bb .eql 11 (i 0)),M 5 12]))) (c 5 (r [V 4 (i 0)] y) (j (r [M 14 0,o 15 (.nc (t 14)),o 16 (f 15 131),o 17 (f 16 0),o 18 (l 17),o 19 (bb .eql 18 (i 2)),M 20 19,p 21 (m 0) 20,p 22 (m 0) 20,p 23 (.callp g0 [t 22]) 20,p 24 (.fld (t 23) 1 none) 20,p 25 (.callp g1 [t 21,t 24]) 20,p 26 (.un .not (t 25)) 20,o 27 (P 20 26),M 13 27] (c 13 z (R [M 28 0,o 29 (.nc (t 28)),o 30 (f 29 131),o 31 (f 30 0),o 32 (l 31),o 33 (bb .eql 32 (i 4)),M 34 33,p 35 (m 0) 34,p 36 (m 0) 34,p 37 (.callp g0 [t 36]) 34,p 38 (.fld (t 37) 2 none) 34,p 39 (.callp g1 [t 35,t 38]) 34,p 40 (.un .not (t 39)) 34,o 41 (P 34 40),M 13 41]))) (c 13 (r [M 42 0,o 43 (.nc (t 42)),o 44 (f 43 131),o 45 (f 44 2),o 46 (l 45),M 4 46] y) z))))) (r [M 47 0,o 48 (.nc (t 47)),o 49 (f 48 131),o 50 (f 49 2),o 51 (l 50),o 52 (.call g2 [t 51]),M 4 52] y))⟩
def cc_preempt_rails : CFn := ⟨10,[.tmp 2],r [o 1 (w 0),V 2 .nils] (r [o 3 (f 1 114),o 4 (l 3),o 5 (f 1 114),o 6 (l 5),o 7 (h 6),o 8 (.mm false [t 7,k (i 4)]),o 9 (.slS 11 (t 4) none (some (t 8))),M 2 9] y)⟩
def cc_law21_one (g0 g1 g2 : Nat) : CFn := ⟨28,[.cell 0 (some 131)],r [o 0 (.alloc z131_45020)] (r [o 1 (.alloc z131_45020)] (j (r [V 2 (i 0)] (u 0 (.loop (j (r [M 3 2,o 4 (bb .lss 3 (i 2))] (c 4 z (.exit 0))) (j (u 1 (r [M 7 2,o 8 (.build z13_14216 [(0,1,k (T)),(1,1,k (i 1)),(3,1,k (i 1)),(4,1,k (i 1)),(6,1,k (i 10))]),o 9 (f 1 0),o 10 (A 9 7 8 13),n (s 10 8 13)] (r [M 11 2,M 12 2,o 13 (.cvII .u64 (t 12)),o 14 (.bin .shr (k (i 2)) (t 13)),o 15 (f 1 105),o 16 (A 15 11 8 1),n (s 16 14 1)] (R [M 17 2,o 18 (f 1 121),o 19 (A 18 17 8 1),n (ss 19 (i 1) 1)])))) (R [M 5 2,o 6 (bb .add 5 (i 1)),M 2 6])))))) (r [o 20 (.bsl g0 1 [k (i 0),k (i 1)]),o 21 (.build [.nils,.nils] [(0,1,t 20),(1,1,k .nils)]),o 22 (.bsl g1 2 [t 21]),o 23 (f 1 104),n (s 23 22 1)] (r [o 24 (.build z11_58867 [(0,1,k (i 2)),(2,1,k (i 1)),(3,1,k (i 2)),(5,1,k (i 1)),(8,1,k (i 1)),(10,1,k (i 9))]),o 25 (.bsl g2 11 [t 24]),o 26 (f 1 114),n (s 26 25 1)] (r [o 27 (L 1 131),n (s 0 27 131)] y)))))⟩
def cc_ref19_red : CFn := ⟨16,[.tmp 2],r [o 1 (w 0),V 2 (F)] (r [o 3 (f 1 0),o 4 (l 3),o 5 (bb .neq 4 (i 1)),M 6 5,p 7 (f 1 0) 6,p 8 (l 7) 6,p 9 (bb .neq 8 (i 2)) 6,o 10 (P 6 9),M 11 10,p 12 (f 1 0) 11,p 13 (l 12) 11,p 14 (bb .neq 13 (i 3)) 11,o 15 (P 11 14),M 2 15] y)⟩
def cc_preempt_way_idle : CFn := ⟨3,[.tmp 2],r [V 2 (i 0)] (r [V 2 (i 0)] y)⟩
def cc_preempt_way_free : CFn := ⟨4,[.cell 2 (some 5)],r [o 2 (.alloc [i 0,i 0,i 0,F,F])] (r [o 3 (.build [i 0,i 0,i 0,F,F] [(3,1,k (T))]),n (s 2 3 5)] y)⟩
def cc_preempt_way_enters (g0 g1 g2 : Nat) : CFn := ⟨15,[.tmp 2],r [V 2 (i 0)] (j (u 0 (r [M 4 0,M 5 0,o 6 (.callp g0 [t 5]),o 7 (.bin .andNot (k (i 255)) (t 6)),o 8 (.callp g1 [t 4,t 7]),o 9 (.un .not (t 8)),M 3 9] (c 3 (r [V 2 (i 1)] y) (r [M 11 0,o 12 (.callp g2 [t 11]),o 13 (.fld (t 12) 1 none),o 14 (bb .neq 13 (i 0)),M 10 14] (c 10 (r [V 2 (i 2)] y) z))))) (r [V 2 (i 4)] y))⟩
def cc_preempt_way_clears (g0 : Nat) : CFn := ⟨12,[.tmp 2],r [V 2 (i 0)] (j (.seq (.regD [M 3 0,o 4 (.nc (t 3)),o 5 (f 4 131),o 6 (f 5 2),o 7 (l 6),M 8 0,o 9 (.callp g0 [t 8]),o 10 (.fld (t 9) 7 none),o 11 (b .geq 7 10)] [(4,6)]) (c 11 (r [V 2 (i 3)] y) z)) (r [V 2 (i 2)] y))⟩
def cc_preempt_way_track (g0 g1 : Nat) : CFn := ⟨9,[.cell 2 (some 5)],r [o 2 (.alloc [i 0,i 0,i 0,F,F])] (r [M 3 0,M 4 0,o 5 (.callp g0 [t 4]),o 6 (.fld (t 5) 1 none),o 7 (.callp g1 [t 3,t 6]),o 8 (.build [i 0,i 0,i 0,F,F] [(0,1,t 7)]),n (s 2 8 5)] y)⟩
def cc_preempt_way_betweens (g0 g1 : Nat) : CFn := ⟨9,[.tmp 2],r [V 2 (i 0)] (j (r [M 3 0,M 4 0,o 5 (.callp g0 [t 4]),o 6 (.fld (t 5) 2 none),o 7 (.bin .andNot (k (i 255)) (t 6)),o 8 (.callp g1 [t 3,t 7])] (c 8 (r [V 2 (i 4)] y) z)) (r [V 2 (i 3)] y))⟩
def cc_preempt_way_between (g0 g1 g2 g3 : Nat) : CFn := ⟨18,[.cell 2 (some 5)],r [o 1 (w 0),o 2 (.alloc [i 0,i 0,i 0,F,F])] (.seq (.regD [o 4 (l 1),o 5 (l 1),o 6 (.callp g0 [t 5]),o 7 (.fld (t 6) 2 none),o 8 (.callp g1 [t 4,t 7,k (i 0)]),o 3 (.alloc [i 0,i 0,i 0,F,F]),n (s 3 8 5)] [(0,2)]) (.seq (.regD [o 9 (l 1),o 10 (l 1),o 11 (.callp g0 [t 10]),o 12 (.fld (t 11) 2 none),o 13 (.bin .andNot (k (i 255)) (t 12)),o 14 (.mkf (.func g2) [] [t 1]),o 15 (.callp g3 [t 9,t 13,t 14]),o 16 (f 3 1),n (s 16 15 1)] [(0,2),(0,5),(1,5),(2,5),(3,5),(4,5)]) (r [o 17 (L 3 5),n (s 2 17 5)] y)))⟩
def cc_preempt_way_dwells (g0 g1 : Nat) : CFn := ⟨100,[.tmp 2],r [V 2 (i 0)] (.seq (.regD [M 7 0,o 8 (.callp g0 [t 7]),M 9 0,o 10 (.nc (t 9)),o 11 (f 10 131),o 12 (f 11 1),o 13 (l 12),o 14 (bb .geq 13 (i 0)),M 15 14,p 16 (m 0) 15,p 17 (.nc (t 16)) 15,p 18 (f 17 131) 15,p 19 (f 18 1) 15,p 20 (l 19) 15,p 21 (bb .lss 20 (i 4)) 15,o 22 (P 15 21),M 23 22,p 24 (m 0) 23,p 25 (m 0) 23,p 26 (.nc (t 25)) 23,p 27 (f 26 131) 23,p 28 (f 27 1) 23,p 29 (l 28) 23,p 30 (.nc (t 24)) 23,p 31 (f 30 131) 23,p 32 (f 31 3) 23,p 33 (A 32 29 4 1) 23,p 34 (l 33) 23,p 35 (bb .gtr 34 (i 0)) 23,o 36 (P 23 35),o 3 (.alloc z11_58867),n (s 3 8 11),M 4 36] [(1,6),(1,22),(1,27),(6,31),(13,31),(22,31),(27,31)]) (r [o 37 (f 3 9),o 38 (l 37),o 39 (bb .gtr 38 (i 0)),M 40 39,p 41 (m 0) 40,p 42 (.nc (t 41)) 40,p 43 (f 42 131) 40,p 44 (f 43 2) 40,p 45 (l 44) 40,p 46 (f 3 9) 40,p 47 (l 46) 40,p 48 (b .geq 45 47) 40,o 49 (P 40 48),M 5 49] (j (r [M 50 5,o 51 (.un .not (t 50)),M 52 51,p 53 (m 4) 52,p 54 (m 53) 52,q 55 (m 0) 54,q 56 (.nc (t 55)) 54,q 57 (f 56 131) 54,q 58 (f 57 2) 54,q 59 (l 58) 54,q 60 (f 3 8) 54,q 61 (l 60) 54,q 62 (b .lss 59 61) 54,p 63 (Q 54 62) 52,o 64 (P 52 63)] (c 64 (r [V 2 (i 4)] y) z)) (j (r [M 65 5,M 66 65,p 67 (m 4) 66,o 68 (P 66 67)] (c 68 (R [M 69 0,o 70 (.nc (t 69)),o 71 (f 70 131),o 72 (f 71 7),o 73 (l 72),M 74 0,o 75 (.nc (t 74)),o 76 (f 75 131),o 77 (f 76 1),o 78 (l 77),o 79 (.bin .shl (k (i 1)) (t 78)),o 80 (b .or 73 79),o 81 (.nc (t 69)),o 82 (f 81 131),o 83 (f 82 7),n (s 83 80 1)]) z)) (j (r [M 84 0,o 85 (.nc (t 84)),o 86 (f 85 0),o 87 (L 86 131),M 88 0,o 89 (.nc (t 88)),o 90 (f 89 131),o 91 (L 90 8),o 92 (.call g1 [t 87,t 91]),M 6 92] (r [M 93 6,o 94 (bb .geq 93 (i 0))] (c 94 (r [M 95 0,M 96 6,o 97 (.nc (t 95)),o 98 (f 97 131),o 99 (f 98 1),n (s 99 96 1)] (r [V 2 (i 1)] y)) z))) (r [V 2 (i 5)] y))))))⟩
def cc_preempt_way_dwell (g0 g1 : Nat) : CFn := ⟨9,[.cell 2 (some 5)],r [o 2 (.alloc [i 0,i 0,i 0,F,F])] (r [M 3 0,M 4 0,o 5 (.callp g0 [t 4]),o 6 (.fld (t 5) 2 none),o 7 (.callp g1 [t 3,t 6]),o 8 (.build [i 0,i 0,i 0,F,F] [(0,1,t 7)]),n (s 2 8 5)] y)⟩
def cc_preempt_way_leaves (g0 g1 g2 g3 : Nat) : CFn := ⟨22,[.tmp 2],r [o 1 (w 0),V 2 (i 0)] (r [o 5 (l 1),o 6 (.callp g0 [t 5]),o 7 (.fld (t 6) 3 none),M 3 7] (r [o 8 (l 1),M 9 3,o 10 (.mkf (.func g1) [] [t 1]),o 11 (.callp g2 [t 8,t 9,t 10]),M 4 11] (j (r [o 12 (l 1),M 13 3,o 14 (.bin .andNot (k (i 255)) (t 13)),o 15 (.callp g3 [t 12,t 14]),M 16 15,p 17 (m 4) 16,p 18 (m 3) 16,p 19 (bb .and 18 (i 255)) 16,p 20 (b .eql 17 19) 16,o 21 (P 16 20)] (c 21 (r [V 2 (i 0)] y) z)) (r [V 2 (i 5)] y))))⟩
def cc_preempt_way_leave (g0 g1 g2 : Nat) : CFn := ⟨11,[.cell 2 (some 5)],r [o 1 (w 0),o 2 (.alloc [i 0,i 0,i 0,F,F])] (.seq (.regD [o 3 (l 1),o 4 (l 1),o 5 (.callp g0 [t 4]),o 6 (.fld (t 5) 3 none),o 7 (.bin .andNot (k (i 255)) (t 6)),o 8 (.mkf (.func g1) [] [t 1]),o 9 (.callp g2 [t 3,t 7,t 8]),o 10 (.build [i 0,i 0,i 0,F,F] [(1,1,t 9)]),n (s 2 10 5)] [(0,2),(0,5),(1,5),(2,5),(3,5),(4,5)]) y)⟩
def cc_preempt_way_ends (g0 g1 g2 : Nat) : CFn := ⟨17,[.cell 6 (some 5)],r [o 3 (w 0),o 5 (w 2),o 6 (.alloc [i 0,i 0,i 0,F,F])] (.seq (.regD [o 7 (l 3),M 8 1,o 9 (.bin .andNot (k (i 255)) (t 8)),o 10 (.mkf (.func g0) [] [t 5,t 3]),o 11 (.callp g1 [t 7,t 9,t 10]),o 12 (l 3),M 13 1,o 14 (.bin .andNot (k (i 255)) (t 13)),o 15 (.callp g1 [t 12,t 14,k (.fn (.func g2) [] [])]),o 16 (.build [i 0,i 0,i 0,F,F] [(1,1,t 11),(2,1,t 15)]),n (s 6 16 5)] [(0,3),(1,3),(2,3),(3,5),(3,6),(3,7),(4,5)]) y)⟩
def cc_preempt_way_target (g0 : Nat) : CFn := ⟨13,[.tmp 2],r [V 2 (i 0)] (r [M 4 0,o 5 (.callp g0 [t 4]),o 3 (.alloc z11_58867),n (s 3 5 11)] (j (r [o 6 (f 3 1),o 7 (l 6),o 8 (bb .neq 7 (i 0))] (c 8 (r [o 9 (f 3 1),o 10 (l 9),M 2 10] y) z)) (r [o 11 (f 3 2),o 12 (l 11),M 2 12] y)))⟩
def cc_preempt_way_rail (g0 : Nat) : CFn := ⟨34,[.cell 2 (some 11)],r [o 2 (.alloc z11_58867)] (j (r [M 4 0,o 5 (.nc (t 4)),o 6 (f 5 0),o 7 (L 6 131),o 8 (.call g0 [t 7]),M 3 8] (r [M 9 0,o 10 (.nc (t 9)),o 11 (f 10 131),o 12 (f 11 1),o 13 (l 12),o 14 (bb .geq 13 (i 0)),M 15 14,p 16 (m 0) 15,p 17 (.nc (t 16)) 15,p 18 (f 17 131) 15,p 19 (f 18 1) 15,p 20 (l 19) 15,p 21 (m 3) 15,p 22 (h 21) 15,p 23 (b .lss 20 22) 15,o 24 (P 15 23)] (c 24 (r [M 25 3,M 26 0,o 27 (.nc (t 26)),o 28 (f 27 131),o 29 (f 28 1),o 30 (l 29),o 31 (a 25 30 11),o 32 (L 31 11),n (s 2 32 11)] y) z))) (r [o 33 (.build z11_58867 []),n (s 2 33 11)] y))⟩
def cc_preempt_way_those (g0 g1 : Nat) : CFn := ⟨25,[.tmp 6],r [o 3 (w 0),o 5 (w 2),V 6 (i 0)] (r [o 7 (.alloc [i 0]),n (ss 7 (i 0) 1)] (j (r [M 9 1,o 10 (.call g0 [t 9])] (u 0 (.rfor (t 10) [11] [11,8,12,13,14,15,16,17,18,19,20,21,22,23] (R [M 8 11]) (u 1 (r [o 12 (l 5),M 13 8,o 14 (l 3),M 15 8,o 16 (.nc (t 14)),o 17 (f 16 139),o 18 (A 17 15 8 12),o 19 (L 18 12),o 20 (.callv (t 12) [t 13,t 19])] (c 20 (R [o 21 (l 7),M 22 8,o 23 (.call g1 [t 21,t 22]),n (s 7 23 1)]) z)))))) (r [o 24 (l 7),M 6 24] y)))⟩
def cc_preempt_isRed (g0 : Nat) : CFn := ⟨7,[.tmp 4],r [o 3 (w 1),V 4 (F)] (r [o 5 (L 3 12),o 6 (.call g0 [t 5]),M 4 6] y)⟩
def cc_preempt_way_greens (g0 g1 : Nat) : CFn := ⟨11,[.tmp 4],r [V 4 (F)] (r [M 5 0,M 6 1,o 7 (.callp g0 [t 5,t 6,k (.fn (.func g1) [] [])]),M 8 1,o 9 (bb .and 8 (i 255)),o 10 (b .eql 7 9),M 4 10] y)⟩
def cc_preempt_more : CFn := ⟨7,[.tmp 2],r [V 2 (i 0)] (r [M 3 0,o 4 (.mm true [t 3,k (i 0)]),o 5 (.mm false [t 4,k (i 9999)]),o 6 (bb .add 5 (i 1)),M 2 6] y)⟩
def cc_preempt_way_reds (g0 g1 : Nat) : CFn := ⟨11,[.tmp 4],r [V 4 (F)] (r [M 5 0,M 6 1,o 7 (.callp g0 [t 5,t 6,k (.fn (.func g1) [] [])]),M 8 1,o 9 (bb .and 8 (i 255)),o 10 (b .eql 7 9),M 4 10] y)⟩
def cc_preempt_way_begins (g0 g1 : Nat) : CFn := ⟨9,[.tmp 4],r [o 2 (w 0),V 4 (i 0)] (r [o 5 (l 2),M 6 1,o 7 (.mkf (.func g0) [] [t 2]),o 8 (.callp g1 [t 5,t 6,t 7]),M 4 8] y)⟩
def cc_preempt_way_between_1 (g0 : Nat) : CFn := ⟨15,[.tmp 5],r [o 4 (w 1),V 5 (F)] (r [o 6 (f 4 0),o 7 (l 6),o 8 (bb .eql 7 (i 1)),M 9 8,p 10 (l 2) 9,p 11 (f 4 2) 9,p 12 (L 11 2) 9,p 13 (.callp g0 [t 10,t 12]) 9,o 14 (P 9 13),M 5 14] y)⟩
def cc_preempt_way_over (g0 : Nat) : CFn := ⟨21,[.tmp 4],r [o 3 (w 1),V 4 (F)] (.seq (.regD [o 5 (f 3 0),o 6 (l 5),o 7 (bb .neq 6 (i 1)),M 8 7,p 9 (f 3 0) 8,p 10 (l 9) 8,p 11 (bb .neq 10 (i 2)) 8,p 12 (m 11) 8,q 13 (f 3 1) 12,q 14 (l 13) 12,q 15 (m 0) 12,q 16 (.callp g0 [t 15]) 12,q 17 (.fld (t 16) 6 none) 12,q 18 (b .geq 14 17) 12,p 19 (Q 12 18) 8,o 20 (P 8 19),M 4 20] [(1,11),(5,11),(9,11)]) y)⟩
def cc_preempt_way_leaves_1 (g0 : Nat) : CFn := ⟨23,[.tmp 5],r [o 4 (w 1),V 5 (F)] (r [o 6 (f 4 0),o 7 (l 6),o 8 (bb .eql 7 (i 1)),M 9 8,q 10 (L 4 12) 9,q 11 (.call g0 [t 10]) 9,q 12 (m 11) 9,p 13 (f 4 1) 12,p 14 (l 13) 12,p 15 (l 2) 12,p 16 (.nc (t 15)) 12,p 17 (f 16 0) 12,p 18 (f 17 119) 12,p 19 (l 18) 12,p 20 (b .geq 14 19) 12,q 21 (P 12 20) 9,o 22 (Q 9 21),M 5 22] y)⟩
def cc_preempt_red : CFn := ⟨16,[.tmp 2],r [o 1 (w 0),V 2 (F)] (r [o 3 (f 1 0),o 4 (l 3),o 5 (bb .neq 4 (i 1)),M 6 5,p 7 (f 1 0) 6,p 8 (l 7) 6,p 9 (bb .neq 8 (i 2)) 6,o 10 (P 6 9),M 11 10,p 12 (f 1 0) 11,p 13 (l 12) 11,p 14 (bb .neq 13 (i 3)) 11,o 15 (P 11 14),M 2 15] y)⟩
def cc_preempt_way_leave_1 : CFn := ⟨37,[.tmp 5],r [o 4 (w 1),V 5 (F)] (r [o 7 (f 4 2),o 8 (f 7 0),o 9 (l 8),o 10 (bb .eql 9 (i 1)),M 11 10,q 12 (f 4 2) 11,q 13 (f 12 0) 11,q 14 (l 13) 11,q 15 (bb .eql 14 (i 2)) 11,o 16 (Q 11 15),M 6 16] (r [o 17 (f 4 0),o 18 (l 17),o 19 (bb .eql 18 (i 1)),M 20 19,p 21 (f 4 1) 20,p 22 (l 21) 20,p 23 (l 2) 20,p 24 (m 0) 20,p 25 (.nc (t 23)) 20,p 26 (f 25 0) 20,p 27 (f 26 0) 20,p 28 (A 27 24 8 13) 20,p 29 (f 28 1) 20,p 30 (l 29) 20,p 31 (b .geq 22 30) 20,o 32 (P 20 31),M 33 32,p 34 (m 6) 33,p 35 (.un .not (t 34)) 33,o 36 (P 33 35),M 5 36] y))⟩
def cc_preempt_way_ends_1 (g0 : Nat) : CFn := ⟨22,[.tmp 6],r [o 5 (w 1),V 6 (F)] (r [o 7 (f 5 0),o 8 (l 7),o 9 (bb .eql 8 (i 1)),M 10 9,p 11 (f 5 1) 10,p 12 (l 11) 10,p 13 (l 2) 10,p 14 (b .geq 12 13) 10,o 15 (P 10 14),M 16 15,p 17 (l 3) 16,p 18 (f 5 2) 16,p 19 (L 18 2) 16,p 20 (.callp g0 [t 17,t 19]) 16,o 21 (P 16 20),M 6 21] y)⟩
def cc_preempt_isWalk : CFn := ⟨9,[.tmp 4],r [o 3 (w 1),V 4 (F)] (r [o 5 (f 3 2),o 6 (f 5 0),o 7 (l 6),o 8 (bb .eql 7 (i 1)),M 4 8] y)⟩
def cc_preempt_isGreen : CFn := ⟨8,[.tmp 4],r [o 3 (w 1),V 4 (F)] (r [o 5 (f 3 0),o 6 (l 5),o 7 (bb .eql 6 (i 1)),M 4 7] y)⟩
def cc_preempt_way_begins_1 (g0 g1 : Nat) : CFn := ⟨29,[.tmp 5],r [o 4 (w 1),V 5 (F)] (.seq (.regD [o 6 (L 4 12),o 7 (.call g0 [t 6]),M 8 7,p 9 (f 4 1) 8,p 10 (l 9) 8,p 11 (l 2) 8,p 12 (.nc (t 11)) 8,p 13 (f 12 0) 8,p 14 (f 13 119) 8,p 15 (l 14) 8,p 16 (b .geq 10 15) 8,o 17 (P 8 16),M 18 17,p 19 (l 2) 18,p 20 (l 2) 18,p 21 (m 0) 18,p 22 (.nc (t 20)) 18,p 23 (f 22 0) 18,p 24 (f 23 105) 18,p 25 (A 24 21 8 1) 18,p 26 (l 25) 18,p 27 (.callp g1 [t 19,t 26]) 18,o 28 (P 18 27),M 5 28] [(0,21),(4,21),(5,21),(9,21),(14,21)]) y)⟩
end
end Go.Eng
