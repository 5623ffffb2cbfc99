/- ENGINE, PART 16: regions. -/
import Derived.Test.YtmdlpepjodcjeaaEng15
namespace Go.Eng
set_option linter.unnecessarySimpa false
open Go
set_option linter.unusedVariables false
set_option linter.unusedSimpArgs false

theorem getD_both {listed : Array Bool} {i : Nat} (h : listed.getD i true = false) : listed.getD i false = false := by
  rcases Nat.lt_or_ge i listed.size with h' | h'
  · simp [h'] at h ⊢; exact h
  · simp [Array.getElem?_eq_none h'] at h
theorem getD_in {listed : Array Bool} {i : Nat} (hi : i < listed.size) (h : listed.getD i false = false) : listed.getD i true = false := by
  simp [hi] at h ⊢; exact h

def aAny (C : Con) (base : Nat) (ops : Array Oper) (cos : List CO) (K : S → Prop) : Nat → Array Bool → S → Prop
  | 0, l, s => Region.ready .any ops l = [] ∧ K s
  | f + 1, l, s => (Region.ready .any ops l = [] → K s) ∧ ∀ i ∈ Region.ready .any ops l, ∃ o, cos[i]? = some o ∧ astep C (base + i) o (aAny C base ops cos K f (l.setIfInBounds i true)) s

/-- the numbers that are in use when those of l are done -/
def UL (base : Nat) (l : Array Bool) : Nat → Prop := fun n => n < base ∨ ∃ i, n = base + i ∧ l.getD i false = true

section
variable {C : Con} {base : Nat} {ops : Array Oper} {cos : List CO} {K : S → Prop}

theorem aAny_congr (hK : ∀ s s2, SEq s s2 → K s → K s2) : ∀ (f : Nat) (l : Array Bool) (s s2 : S), SEq s s2 → aAny C base ops cos K f l s → aAny C base ops cos K f l s2
  | 0, l, s, s2, he, h => ⟨h.1, hK _ _ he h.2⟩
  | f + 1, l, s, s2, he, h => ⟨fun h0 => hK _ _ he (h.1 h0), fun i hi => by
      obtain ⟨o, ho, hs⟩ := h.2 i hi
      refine ⟨o, ho, ?_⟩
      obtain ⟨v, d, hd, hk, _⟩ := astep_path hs
      exact hd.2 s2 he.agr _ (aAny_congr hK f _ _ _ ((he.app d _).put _ _) hk)⟩

theorem UL_not {l : Array Bool} {i : Nat} (h : l.getD i true = false) : ¬ UL base l (base + i) := by
  rintro (h' | ⟨k, hk, hl⟩)
  · omega
  · have : k = i := by omega
    subst this
    rw [getD_both h] at hl
    cases hl

theorem UL_set {l : Array Bool} {i : Nat} (hi : i < l.size) {n : Nat} (h : also (UL base l) (base + i) n) : UL base (l.setIfInBounds i true) n := by
  rcases h with (h | ⟨k, hk, hl⟩) | h
  · exact .inl h
  · exact .inr ⟨k, hk, getD_set_true hl⟩
  · exact .inr ⟨i, h, by simp [hi]⟩

theorem lt_of_ready {md : Region.Mode} {l : Array Bool} {i : Nat} (h : i ∈ Region.ready md ops l) : i < l.size := by
  have h0 := (mem_ready.1 h).1
  rcases Nat.lt_or_ge i l.size with h' | h'
  · exact h'
  · simp [Array.getElem?_eq_none h'] at h0

/-- what is listed has what it waits for listed -/
def Closed (ops : Array Oper) (l : Array Bool) : Prop := ∀ k ok, ops[k]? = some ok → l.getD k false = true → ∀ e ∈ ok.after, Region.binds .any e = true → l.getD e.on false = true

theorem Closed.set {l : Array Bool} (h : Closed ops l) {i : Nat} (hi : i ∈ Region.ready .any ops l) : Closed ops (l.setIfInBounds i true) := by
  obtain ⟨_, oi, hoi, hall⟩ := mem_ready.1 hi
  intro k ok hk hl e he hb
  by_cases hik : i = k
  · subst hik
    have : ok = oi := Option.some.inj (hk.symm.trans hoi)
    subst this
    exact getD_set_true (hall e he hb)
  · rw [getD_set_ne false hik] at hl
    exact getD_set_true (h k ok hk hl e he hb)

/-- one that is not listed lies in the way of none that comes behind it -/
theorem waits_not {l : Array Bool} (hc : Closed ops l) {i j : Nat} (hi : l.getD i true = false) (hj : j ∈ Region.ready .any ops l) {oj : Oper} (hoj : ops[j]? = some oj) :
    oj.after.any (fun e => Region.binds .any e && e.on == i) = false ∧ waits ops.toList i oj = false := by
  obtain ⟨_, oj', hoj', hall⟩ := mem_ready.1 hj
  have : oj' = oj := Option.some.inj (hoj'.symm.trans hoj)
  subst this
  have hif := getD_both hi
  constructor
  · rw [Bool.eq_false_iff]
    intro h
    obtain ⟨e, he, hb⟩ := Array.any_eq_true'.1 h
    simp only [Bool.and_eq_true, beq_iff_eq] at hb
    have := hall e he hb.1
    rw [hb.2, hif] at this; cases this
  · rw [Bool.eq_false_iff]
    intro h
    obtain ⟨e, he, hb⟩ := Array.any_eq_true'.1 h
    simp only [Bool.and_eq_true, Bool.or_eq_true, beq_iff_eq] at hb
    have h1 := hall e he hb.1
    rcases hb.2 with h2 | h2
    · rw [h2, hif] at h1; cases h1
    · split at h2
      · rename_i ok hok
        obtain ⟨e', he', hb'⟩ := Array.any_eq_true'.1 h2
        simp only [Bool.and_eq_true, beq_iff_eq] at hb'
        have h3 := hc e.on ok (by simpa using hok) h1 e' he' hb'.1
        rw [hb'.2, hif] at h3; cases h3
      · cases h2

end

/-- no pointer leads elsewhere than the table says -/
def Rooted (T : List (Nat × Tag)) (s : S) : Prop := ∀ t b off, lk t s.slots = some (.ptr b off) → (look T t).okT b = true
theorem rooted_step {C : Con} {T : List (Nat × Tag)} {id : Nat} {o : CO} {s : S} {v : SV} {d : Delta} (hd : Does C id o s v d) (hs : stepOk T id o = true) (hR : Rooted T s) : Rooted T ((d.app' id s).put o.dst v) := by
  intro t b off hl
  rw [lk_put] at hl
  split at hl
  · rename_i e
    cases hl
    unfold stepOk at hs
    rw [e] at hs
    simp only at hs
    cases hz : look T t with
    | none => rfl
    | some z =>
      rw [hz] at hs
      simp only at hs
      rcases hd.1.2 b off rfl with ⟨rfl, ha⟩ | ⟨u, hu, off', hlu⟩
      · rw [if_pos ha] at hs
        simpa [Tag.okT] using hs
      · have hna : ¬ o.op.isAl = true := fun ha => by
          revert hu ha; cases o.op <;> simp [COp.ptrSrc, COp.isAl]
        rw [if_neg hna] at hs
        have h1 := List.all_eq_true.1 hs u hu
        have h2 := hR u b off' hlu
        cases hzu : look T u with
        | none => rw [hzu] at h1; cases h1
        | some z' =>
          rw [hzu] at h1 h2
          simp only [Bool.or_eq_true, beq_iff_eq] at h1
          simp only [Tag.okT, beq_iff_eq] at h2 ⊢
          rcases h1 with h1 | h1
          · rw [h1] at h2; cases h2
          · rw [← h1]; exact h2
  · rw [app_slots'] at hl
    cases hv : lk t s.slots with
    | none => rw [hv] at hl; cases hl
    | some w =>
      rw [hv] at hl
      simp only [Option.map_some, Option.some.injEq] at hl
      rcases fz_shape d w with h | ⟨cs, b', o', _, _, _, _, _, h⟩
      · rw [h] at hl; subst hl; exact hR t b off hv
      · rw [h] at hl; cases hl
theorem dis_ok {z z' : Tag} {b : Nat} (h : z.dis z' = true) (h1 : z.okT b = true) (h2 : z'.okT b = true) : False := by
  cases z with
  | none => cases z' with
    | none => cases h
    | some z' => cases z' with
      | none => simp [Tag.okT] at h2
      | some b' => cases h
  | some z => cases z with
    | none => simp [Tag.okT] at h1
    | some a => cases z' with
      | none => cases h
      | some z' => cases z' with
        | none => simp [Tag.okT] at h2
        | some b' =>
          simp [Tag.okT] at h1 h2
          subst h1; subst h2
          simp [Tag.dis] at h
theorem clear_of {T : List (Nat × Tag)} {x y : CO} {s : S} (h : x.half T y = true) (hR : Rooted T s) : Clear x y s := by
  rintro b ⟨t, ht, off, hl⟩
  have h := List.all_eq_true.1 h t ht
  simp only [Bool.and_eq_true, Bool.or_eq_true, Bool.not_eq_true'] at h
  refine ⟨fun u hu off' hlu => ?_, fun hf u hu off' hlu => ?_⟩
  · exact dis_ok (List.all_eq_true.1 h.1 u hu) (hR t b off hl) (hR u b off' hlu)
  · rcases h.2 with h2 | h2
    · rw [hf] at h2; cases h2
    · exact dis_ok (List.all_eq_true.1 h2 u hu) (hR t b off hl) (hR u b off' hlu)
theorem half_mono {T : List (Nat × Tag)} {x y : CO} (h : x.half [] y = true) : x.half T y = true := by
  unfold CO.half at h ⊢
  rw [List.all_eq_true] at h ⊢
  intro t ht
  have h := h t ht
  simp only [Bool.and_eq_true, Bool.or_eq_true, List.all_eq_true] at h ⊢
  refine ⟨fun u hu => ?_, h.2.imp id fun h2 u hu => ?_⟩
  · have := h.1 u hu; cases this
  · have := h2 u hu; cases this
theorem apart_mono {T : List (Nat × Tag)} {x y : CO} (h : x.apart y = true) : x.apartT T y = true := by
  unfold CO.apart CO.apartT at *
  simp only [Bool.and_eq_true] at h ⊢
  exact ⟨⟨h.1.1, half_mono h.1.2⟩, half_mono h.2⟩
theorem badOk_spec {T : List (Nat × Tag)} {ops : List CO} {i j : Nat} {x y : CO} (hi : ops[i]? = some x) (hj : ops[j]? = some y) : ∀ {bad : List (Nat × Nat)}, badOk T ops bad = true → bad.contains (i, j) = true → x.apartT T y = true
  | [], _, h => by cases h
  | (k, l) :: r, h, hm => by
    simp only [badOk, Bool.and_eq_true] at h
    rw [List.contains_cons, Bool.or_eq_true] at hm
    rcases hm with hm | hm
    · have e : (i, j) = (k, l) := by simpa using hm
      cases e
      have := h.1
      rw [hi, hj] at this
      exact this
    · exact badOk_spec hi hj h.2 hm
theorem stepsOk_spec {T : List (Nat × Tag)} {base : Nat} : ∀ {l : List CO} {i : Nat}, stepsOk T base i l = true → ∀ (k : Nat) (o : CO), l[k]? = some o → stepOk T (base + (i + k)) o = true
  | [], i, h, k, o, hk => by simp at hk
  | a :: l, i, h, k, o, hk => by
    simp only [stepsOk, Bool.and_eq_true] at h
    cases k with
    | zero => simp at hk; subst hk; exact h.1
    | succ k =>
      have := stepsOk_spec h.2 k o (by simpa using hk)
      rw [show i + (k + 1) = i + 1 + k by omega]; exact this
theorem stepsOk_nil {base : Nat} : ∀ {l : List CO} {i : Nat}, stepsOk [] base i l = true
  | [], i => rfl
  | a :: l, i => by
    simp only [stepsOk, Bool.and_eq_true]
    refine ⟨?_, stepsOk_nil⟩
    unfold stepOk
    split <;> rfl
theorem entryOk_spec {T : List (Nat × Tag)} : ∀ {sl : List (Nat × SV)}, entryOk T sl = true → ∀ t b off, lk t sl = some (.ptr b off) → (look T t).okT b = true
  | [], _, t, b, off, hl => by cases hl
  | (m, v) :: r, h, t, b, off, hl => by
    simp only [lk, cbeq] at hl
    split at hl
    · rename_i e
      cases hl
      subst e
      simp only [entryOk, Bool.and_eq_true] at h
      exact h.1
    · refine entryOk_spec (sl := r) ?_ t b off hl
      cases v <;> first | exact h | (simp only [entryOk, Bool.and_eq_true] at h; exact h.2)

section
variable {C : Con} {base : Nat} {ops : Array Oper} {cos : List CO} {K : S → Prop} {T : List (Nat × Tag)}
theorem aAny_first (hT : ∀ k ok, cos[k]? = some ok → stepOk T (base + k) ok = true) (hK : ∀ s s2, SEq s s2 → K s → K s2) (hlen : cos.length = ops.size) {i : Nat} {oi : CO} (hi : cos[i]? = some oi) :
    ∀ (f : Nat) (l : Array Bool) (s : S),
      (∀ j pj oj, ops[j]? = some pj → cos[j]? = some oj → j ≠ i → l.getD j true = false → pj.after.any (fun e => Region.binds .any e && e.on == i) = false → waits ops.toList i pj = false → oi.apartT T oj = true) →
      Closed ops l → i ∈ Region.ready .any ops l → s.inU (UL base l) → Rooted T s → astep C (base + i) oi (aAny C base ops cos K f (l.setIfInBounds i true)) s → aAny C base ops cos K (f + 1) l s := by
  intro f
  induction f with
  | zero =>
    intro l s _ _ hr hU hR H
    refine ⟨fun h => (by rw [h] at hr; cases hr), fun j hj => ?_⟩
    by_cases hji : j = i
    · subst hji; exact ⟨oi, hi, H⟩
    · obtain ⟨v, d, hd, hk, _⟩ := astep_path H
      have := ready_mono hj hji
      rw [hk.1] at this
      cases this
  | succ f ih =>
    intro l s hfree hcl hr hU hR H
    refine ⟨fun h => (by rw [h] at hr; cases hr), fun j hj => ?_⟩
    by_cases hji : j = i
    · subst hji; exact ⟨oi, hi, H⟩
    · obtain ⟨vi, di, hdi, hki, hUi⟩ := astep_path H
      obtain ⟨oj, hoj, hsj⟩ := hki.2 j (ready_mono hj hji)
      obtain ⟨vj, dj, hdj, hkj, hUj⟩ := astep_path hsj
      have hjun := (mem_ready.1 hj).1
      have hiun := (mem_ready.1 hr).1
      obtain ⟨pj, hpj, _⟩ := (mem_ready.1 hj).2
      obtain ⟨w1, w2⟩ := waits_not hcl hiun hj hpj
      have hap := hfree j pj oj hpj hoj hji hjun w1 w2
      unfold CO.apartT at hap
      simp only [Bool.and_eq_true] at hap
      obtain ⟨a1, a2, a3⟩ := commute hap.1.1 hU (UL_not hiun) (UL_not hjun) (by omega) (clear_of hap.1.2 hR) (clear_of hap.2 hR) hdi hdj
      -- the state behind j
      have hsj0 : astep C (base + j) oj (fun s3 => s3 = (dj.app' (base + j) s).put oj.dst vj) s := hdj.2 s a1 _ rfl
      have hUj0 : ((dj.app' (base + j) s).put oj.dst vj).inU (UL base (l.setIfInBounds j true)) := by
        obtain ⟨v', d', _, hk', hU'⟩ := astep_path hsj0
        have := hU' _ hU
        rw [hk'] at this
        exact inU_sub (fun n hn => UL_set (lt_of_ready hj) hn) this
      have hRj0 : Rooted T ((dj.app' (base + j) s).put oj.dst vj) := by
        obtain ⟨v', d', hd', hk', _⟩ := astep_path hsj0
        have := rooted_step hd' (hT j oj hoj) hR
        rw [hk'] at this
        exact this
      refine ⟨oj, hoj, hdj.2 s a1 _ ?_⟩
      refine ih (l.setIfInBounds j true) _ ?_ (hcl.set hj) (ready_mono hr (Ne.symm hji)) hUj0 hRj0 ?_
      · intro k pk ok hpk hok hki' hun hno hno2
        refine hfree k pk ok hpk hok hki' ?_ hno hno2
        by_cases hjk : j = k
        · subst hjk; exact hjun
        · rw [getD_set_ne true hjk] at hun; exact hun
      · refine hdi.2 _ a2 _ ?_
        rw [Array.setIfInBounds_comm _ _ hji]
        exact aAny_congr hK f _ _ _ a3 hkj

end

theorem drawRow_spec {bad : List (Nat × Nat)} {ops : List Oper} {i : Nat} {x : CO} : ∀ {os : List Oper} {ys : List CO} {k : Nat}, drawRow bad ops i x k os ys = true → ∀ (j : Nat) (pj : Oper) (oj : CO), os[j]? = some pj → ys[j]? = some oj → i < k + j →
    pj.after.any (fun e => Region.binds .any e && e.on == i) = true ∨ x.apart oj = true ∨ waits ops i pj = true ∨ bad.contains (i, k + j) = true
  | [], ys, k, h, j, pj, oj, h1, h2, h3 => by simp at h1
  | o :: os, [], k, h, j, pj, oj, h1, h2, h3 => by simp at h2
  | o :: os, y :: ys, k, h, j, pj, oj, h1, h2, h3 => by
    simp only [drawRow, Bool.and_eq_true, Bool.or_eq_true, decide_eq_true_eq] at h
    cases j with
    | zero =>
      simp at h1 h2
      subst h1; subst h2
      rcases h.1 with (((h | h) | h) | h) | h
      · omega
      · exact .inl h
      · exact .inr (.inl h)
      · exact .inr (.inr (.inl h))
      · exact .inr (.inr (.inr h))
    | succ j =>
      have := drawRow_spec h.2 j pj oj (by simpa using h1) (by simpa using h2) (by omega)
      rw [show k + 1 + j = k + (j + 1) by omega] at this
      exact this

theorem drawRows_spec {bad : List (Nat × Nat)} {ops : List Oper} {cos : List CO} : ∀ {os : List Oper} {ys : List CO} {k : Nat}, drawRows bad ops cos k os ys = true → ∀ (i : Nat) (pi : Oper) (oi : CO), os[i]? = some pi → ys[i]? = some oi →
    (∀ e ∈ pi.after, Region.binds .any e = true → e.on < k + i) ∧ drawRow bad ops (k + i) oi 0 ops cos = true
  | [], ys, k, h, j, pj, oj, h1, h2 => by simp at h1
  | o :: os, [], k, h, j, pj, oj, h1, h2 => by simp at h2
  | o :: os, y :: ys, k, h, j, pj, oj, h1, h2 => by
    simp only [drawRows, Bool.and_eq_true] at h
    cases j with
    | zero =>
      simp at h1 h2
      subst h1; subst h2
      refine ⟨fun e he hb => ?_, h.1.2⟩
      have := Array.all_eq_true_iff_forall_mem.1 h.1.1 e he
      simpa [hb] using this
    | succ j =>
      have := drawRows_spec h.2 j pj oj (by simpa using h1) (by simpa using h2)
      rw [show k + 1 + j = k + (j + 1) by omega] at this
      exact this

section
variable {C : Con} {base : Nat} {ops : Array Oper} {cos : List CO} {K : S → Prop}

/-- the text's order answers for every order -/
theorem any_of_text {T : List (Nat × Tag)} {bad : List (Nat × Nat)} (hT : ∀ k ok, cos[k]? = some ok → stepOk T (base + k) ok = true) (hbad : badOk T cos bad = true) (hK : ∀ s s2, SEq s s2 → K s → K s2) (hlen : cos.length = ops.size) (hok : drawOk bad ops.toList cos = true) :
    ∀ (rest : List CO) (i : Nat) (l : Array Bool) (s : S), cos.drop i = rest → i + rest.length = ops.size → l.size = ops.size → (∀ j, j < ops.size → l.getD j false = decide (j < i)) →
      s.inU (UL base l) → Rooted T s → aops C base i rest K s → aAny C base ops cos K rest.length l s
  | [], i, l, s, hd, hn, hl, hl', hU, hR, h => by
    refine ⟨?_, h⟩
    rw [List.eq_nil_iff_forall_not_mem]
    intro j hj
    have h1 := (mem_ready.1 hj).1
    have h2 := lt_of_ready hj
    have h3 := hl' j (by omega)
    rw [getD_both h1] at h3
    simp at hn h3
    omega
  | o :: rest, i, l, s, hd, hn, hl, hl', hU, hR, h => by
    have hio : cos[i]? = some o := by
      have : (cos.drop i)[0]? = some o := by rw [hd]; rfl
      simpa using this
    have hilt : i < ops.size := by simp at hn; omega
    have hpi : ops[i]? = some ops[i] := by simp [hilt]
    obtain ⟨hedge, hrow⟩ := drawRows_spec hok i ops[i] o (by simpa using hpi) hio
    simp only [Nat.zero_add] at hedge hrow
    have hiun : l.getD i true = false := by
      have := hl' i hilt
      simp at this
      exact getD_in (by omega) (by simpa using this)
    have hcl : Closed ops l := by
      intro k ok hk hlk e he hb
      have hkn : k < ops.size := (Array.getElem?_eq_some_iff.1 hk).1
      rw [hl' k hkn] at hlk
      simp at hlk
      obtain ⟨ok', hok'⟩ : ∃ x, cos[k]? = some x := ⟨cos[k]'(by omega), by simp [hlen, hkn]⟩
      have := (drawRows_spec hok k ok ok' (by simpa using hk) hok').1 e he hb
      rw [hl' e.on (by omega)]
      simp; omega
    have hr : i ∈ Region.ready .any ops l := by
      rw [mem_ready]
      refine ⟨hiun, ops[i], hpi, fun e he hb => ?_⟩
      have := hedge e he hb
      rw [hl' e.on (by omega)]
      simpa using this
    refine aAny_first hT hK hlen hio rest.length l s ?_ hcl hr hU hR ?_
    · intro j pj oj hpj hoj hji hjun hno hno2
      have hjn : j < ops.size := (Array.getElem?_eq_some_iff.1 hpj).1
      have hlj := hl' j hjn
      rw [getD_both hjun] at hlj
      simp at hlj
      have hij : i < 0 + j := by omega
      rcases drawRow_spec hrow j pj oj (by simpa using hpj) hoj hij with h | h | h | h
      · rw [hno] at h; cases h
      · exact apart_mono h
      · rw [hno2] at h; cases h
      · rw [Nat.zero_add] at h; exact badOk_spec hio hoj hbad h
    · rw [aops_cons] at h
      obtain ⟨v, d, hdoes, hs', hi'⟩ := astep_path h
      have hU' := hi' _ hU
      have hR' := rooted_step hdoes (hT i o hio) hR
      refine hdoes.2 s .refl _ ?_
      generalize (d.app' (base + i) s).put o.dst v = s' at hs' hU' hR'
      have hlsz : (l.setIfInBounds i true).size = ops.size := by simp [hl]
      refine any_of_text hT hbad hK hlen hok rest (i + 1) _ s' ?_ (by simp at hn ⊢; omega) hlsz (fun j hj => ?_) (inU_sub (fun n hn => UL_set (by omega) hn) hU') hR' hs'
      · rw [← List.tail_drop, hd]; rfl
      · by_cases hij : i = j
        · subst hij; simp [hl, hilt]
        · rw [getD_set_ne false hij, hl' j hj]
          by_cases hlt : j < i
          · simp [hlt]; omega
          · simp [hlt]; omega
end

section
variable {P : Program} {nt : Nat} {n0 : Fen} {w0 : World} {π0 : Nat → Nat → Prop} {U : Nat → Prop} {s : S} {a : Act} {w : World} {β : Nat → Nat} {τ : Nat → Value} {π : Nat → Nat → Prop}

theorem Rel.inU (R : Rel P nt n0 w0 π0 U s a w β τ π) : s.inU U :=
  ⟨fun t v hv => (R.slots t v hv).2, fun b x hb => ⟨(R.boxes b x hb).1, fun o q hq => (R.boxes b x hb).2.2.2 o q hq⟩, fun q e hq => (R.live q e hq).1⟩

theorem Rel.seq (R : Rel P nt n0 w0 π0 U s a w β τ π) {s2 : S} (h : SEq s s2) : Rel P nt n0 w0 π0 U s2 a w β τ π where
  size := R.size
  slots := fun t v hv => R.slots t v (by rw [← h.slots]; exact hv)
  boxes := fun b x hb => R.boxes b x (by rw [← h.boxes]; exact hb)
  inj := fun b b' x x' hb hb' => R.inj b b' x x' (by rw [← h.boxes]; exact hb) (by rw [← h.boxes]; exact hb')
  live := fun q e hq => R.live q e (by rw [← h.live]; exact hq)
  liveInj := fun q q' e e' B hq hq' => R.liveInj q q' e e' B (by rw [← h.live]; exact hq) (by rw [← h.live]; exact hq')
  liveBox := fun q e b x hq hb => R.liveBox q e b x (by rw [← h.live]; exact hq) (by rw [← h.boxes]; exact hb)
  below := R.below
  n0le := R.n0le
  prot := R.prot
  prot0 := R.prot0
  protOld := R.protOld
  fore := R.fore
  foreU := R.foreU
  kept := R.kept

theorem Rel.nx (R : Rel P nt n0 w0 π0 U s a w β τ π) (n : Nat) : Rel P nt n0 w0 π0 U { s with nx := n } a w β τ π :=
  R.seq ⟨fun _ => rfl, fun _ => rfl, fun _ => rfl⟩

theorem cGuard_spec {ops : Array Oper} {g : Option (Nat × Bool)} {g' : Option (Nat × Bool)} (h : cGuard ops g = some g') : (g = none ∧ g' = none) ∨ ∃ j w t, g = some (j, w) ∧ (ops[j]?).bind (·.dst) = some t ∧ g' = some (t, w) := by
  unfold cGuard at h
  split at h
  · cases h; exact .inl ⟨rfl, rfl⟩
  · rename_i j w
    split at h
    · rename_i t ht
      cases h
      exact .inr ⟨j, w, t, rfl, ht, rfl⟩
    · cases h

theorem step_sound (R : Rel P nt n0 w0 π0 U s a w β τ π) {ops : Array Oper} {o : Oper} {c : CO} {id : Nat} (hid : ¬ U id) (hc : cOper P ops o = some c) (hfit : ∀ d, c.dst = some d → d < nt) {K : S → Prop} (h : astep (Pure P) id c K s)
    {next : Act → World → Prop} {Q : Exit → Act → World → Prop}
    (hn : ∀ s' x w' β' τ' π', K s' → Rel P nt n0 w0 π0 (also U id) s' (a.put o.dst x) w' β' τ' π' → next (a.put o.dst x) w') :
    if Region.wanted o (yielded ops a.tmps) then o.wp P a w next Q else next (a.put o.dst undef) w := by
  unfold cOper at hc
  split at hc <;> try (cases hc; done)
  rename_i cop g hop hg
  cases hc
  simp only at hfit
  have run : aop (Pure P) id cop (fun v s' => K (s'.put o.dst v)) s → o.wp P a w next Q := fun h =>
    aop_sound R hid hop h fun v s' x w' β' τ' π' hK hv hu R' => hn _ _ _ _ _ _ hK (R'.put o.dst hfit hv hu)
  have skip : K (s.put o.dst .undef) → next (a.put o.dst undef) w := fun h =>
    hn _ _ _ _ _ _ h ((R.sub fun n h => .inl h).put o.dst hfit rfl trivial)
  unfold astep aguard at h
  rcases cGuard_spec hg with ⟨h1, h2⟩ | ⟨j, want, t, h1, h2, h3⟩
  · subst h2
    simp only at h
    simp only [Region.wanted, h1, if_true]
    exact run h
  · subst h3
    simp only at h
    cases hl : lk t s.slots with
    | none => simp [hl] at h
    | some v =>
      obtain ⟨⟨x, hx, hrv⟩, hui⟩ := R.slots t v hl
      simp only [hl] at h
      have hy : ∀ b, x = .bool b → yielded ops a.tmps j = some b := fun b hb => by
        unfold yielded; rw [h2]; simp [hx, hb]
      cases v with
      | ptr b o => exact h.elim
      | rp cs => exact h.elim
      | undef =>
        have hxu : x = undef := hrv
        have hy' : yielded ops a.tmps j = none := by
          unfold yielded; rw [h2]; simp [hx, hxu, undef]
        simp only [Region.wanted, h1, hy']
        exact skip h
      | dat av q =>
        cases av <;> try (exact h.elim)
        rename_i b
        have hxb : x = .bool b := hrv.1.bool_inv
        simp only [Region.wanted, h1, hy b hxb]
        by_cases hb : b = want
        · subst hb; simp; exact run (h.1 rfl)
        · have hb' : b = !want := by cases b <;> cases want <;> first | rfl | exact absurd rfl hb
          have : (some b == some want) = false := by subst hb'; cases want <;> rfl
          rw [this]
          exact skip (h.2 hb')

/-- the wide fence, in a round or not -/
def FW (r : Option Nat) : Fence := { Fence.wide with round := r }
theorem callsIn_FW {r : Option Nat} {n : Nat} {f : FuncId} {args : Array Value} {w : World} {R : Ending → World → Prop} : CallsIn (FW r) n P f args w R ↔ Calls P f args w R :=
  ⟨fun h => callsIn_wide.1 (show CallsIn Fence.wide n P f args w R from h), fun h => (show CallsIn Fence.wide n P f args w R from callsIn_wide.2 h)⟩
theorem rowsIn_FW {r : Option Nat} {n : Nat} {row : String} {args : Array Value} {w : World} {R : Value → World → Prop} (h : Rows P row args w R) : RowsIn (FW r) n P row args w R :=
  fun c cs _ => let ⟨v, w', hr, s⟩ := h c cs; ⟨v, w', hr, (show StepsIn (Machine.fenced P Fence.wide) P _ _ from stepsIn_wide.2 s)⟩
theorem op_in {r : Option Nat} {n : Nat} {o : Oper} {a : Act} {w : World} {K : Act → World → Prop} {Q : Exit → Act → World → Prop} (h : o.wp P a w K Q) (hd : ∀ c, o.op ≠ .defer c) : o.wpIn (FW r) n P a w K Q := by
  refine ⟨fun _ _ => trivial, ?_⟩
  rw [Oper.semAt_eq _ _ _ hd]
  unfold Oper.wp at h
  generalize (execOp a.eval o).run P w = res at h ⊢
  cases res with
  | ok x w' =>
    cases x <;> simp only [Oper.upon, Oper.uponIn] at h ⊢ <;> first
      | exact h
      | exact h.elim
      | exact ⟨fun hd => by simp [FW, Fence.wide] at hd, callsIn_FW.2 h⟩
      | exact ⟨fun hd => by simp [FW, Fence.wide] at hd, rowsIn_FW h⟩
  | halt x w' => cases x <;> simp only [Oper.upon, Oper.uponIn] at h ⊢ <;> first | exact h | exact h.elim

/-- what the operations do to the activation: their own slots are written, no others -/
def Puts (T : Nat → Prop) (a0 a : Act) : Prop := a.defers = a0.defers ∧ ∀ t, T t → a.tmps[t]? = a0.tmps[t]?
theorem Puts.refl (T : Nat → Prop) (a : Act) : Puts T a a := ⟨rfl, fun _ _ => rfl⟩
theorem Puts.put {T : Nat → Prop} {a0 a : Act} (h : Puts T a0 a) {d : Option Nat} (hd : ∀ t, d = some t → ¬ T t) (x : Value) : Puts T a0 (a.put d x) := by
  cases d with
  | none => exact h
  | some d =>
    refine ⟨h.1, fun t ht => ?_⟩
    have hne : t ≠ d := fun e => hd d rfl (e ▸ ht)
    simp only [Act.put]
    rw [Array.getElem?_setIfInBounds_ne (Ne.symm hne)]
    exact h.2 t ht

theorem wpOp_sound (R : Rel P nt n0 w0 π0 U s a w β τ π) {ops : Array Oper} {o : Oper} {c : CO} {i id : Nat} (ho : ops[i]? = some o) (hid : ¬ U id) (hc : cOper P ops o = some c) (hfit : ∀ d, c.dst = some d → d < nt) {K : S → Prop} (h : astep (Pure P) id c K s)
    {next : Act → World → Prop} {Q : Exit → Act → World → Prop}
    (hn : ∀ s' x w' β' τ' π', K s' → Rel P nt n0 w0 π0 (also U id) s' (a.put o.dst x) w' β' τ' π' → next (a.put o.dst x) w') {r : Option Nat} {n : Nat} : wpOpIn (FW r) n P ops Q i next a w := by
  have := step_sound R hid hc hfit h (Q := Q) hn
  have hnd : ∀ c, o.op ≠ .defer c := by
    intro c' e
    unfold cOper at hc
    rw [e] at hc
    simp [cOp] at hc
  unfold wpOpIn
  simp only [ho]
  split
  · rename_i hw; rw [if_pos hw] at this; exact op_in this hnd
  · rename_i hw; rw [if_neg hw] at this; exact ⟨fun _ _ => trivial, this⟩
theorem cOper_dst {ops : Array Oper} {o : Oper} {c : CO} (hc : cOper P ops o = some c) : c.dst = o.dst := by
  unfold cOper at hc
  split at hc <;> try (cases hc; done)
  cases hc; rfl

theorem cOpers_spec {ops : Array Oper} : ∀ {l : List Oper} {cs : List CO}, cOpers P ops l = some cs → cs.length = l.length ∧ ∀ (i : Nat) (o : Oper) (c : CO), l[i]? = some o → cs[i]? = some c → cOper P ops o = some c
  | [], cs, h => by simp [cOpers] at h; subst h; exact ⟨rfl, fun i o c h => by simp at h⟩
  | o :: l, cs, h => by
    unfold cOpers at h
    split at h <;> try (cases h; done)
    rename_i c cs' h1 h2
    cases h
    obtain ⟨e, hs⟩ := cOpers_spec h2
    refine ⟨by simp [e], fun i o' c' ho hc => ?_⟩
    cases i with
    | zero => simp at ho hc; subst ho; subst hc; exact h1
    | succ i => exact hs i o' c' (by simpa using ho) (by simpa using hc)

theorem dstFits_spec {n : Nat} : ∀ {l : List CO}, dstFits n l = true → ∀ (i : Nat) (c : CO) (d : Nat), l[i]? = some c → c.dst = some d → d < n
  | [], h, i, c, d, hi, hd => by simp at hi
  | o :: l, h, i, c, d, hi, hd => by
    simp only [dstFits, Bool.and_eq_true] at h
    cases i with
    | zero =>
      simp at hi; subst hi
      have := h.1
      rw [hd] at this
      simpa using this
    | succ i => exact dstFits_spec h.2 i c d (by simpa using hi) hd

/-- the order of the text -/
theorem text_sound {ops : Array Oper} {cos : List CO} {base : Nat} (hlen : cos.length = ops.size) (hcos : ∀ (i : Nat) (o : Oper) (c : CO), ops[i]? = some o → cos[i]? = some c → cOper P ops o = some c) (hfit : ∀ (i : Nat) (c : CO) (d : Nat), cos[i]? = some c → c.dst = some d → d < nt)
    {T : Nat → Prop} {a0 : Act} (hT : ∀ (i : Nat) (c : CO) (d : Nat), cos[i]? = some c → c.dst = some d → ¬ T d) {r : Option Nat} {m : Nat}
    {K : S → Prop} {Q : Exit → Act → World → Prop} (hQ : ∀ s a w β τ π U, (∀ n, U n → n < base + ops.size) → K s → Puts T a0 a → Rel P nt n0 w0 π0 U s a w β τ π → Q .normal a w) :
    ∀ (rest : List CO) (i : Nat) (s : S) (a : Act) (w : World) (β : Nat → Nat) (τ : Nat → Value) (π : Nat → Nat → Prop) (U : Nat → Prop), cos.drop i = rest → i + rest.length = ops.size → (∀ n, U n → n < base + i) → Puts T a0 a → Rel P nt n0 w0 π0 U s a w β τ π →
      aops (Pure P) base i rest K s → wpOpsIn (FW r) m P ops Q (List.range' i rest.length) a w
  | [], i, s, a, w, β, τ, π, U, hd, hn, hU, hp, R, h => hQ s a w β τ π U (fun n h => by have := hU n h; simp at hn; omega) h hp R
  | o :: rest, i, s, a, w, β, τ, π, U, hd, hn, hU, hp, R, h => by
    have hio : cos[i]? = some o := by
      have : (cos.drop i)[0]? = some o := by rw [hd]; rfl
      simpa using this
    have hilt : i < ops.size := by simp at hn; omega
    have hpi : ops[i]? = some ops[i] := by simp [hilt]
    rw [aops_cons] at h
    simp only [List.length_cons, List.range'_succ]
    rw [wpOpsIn_cons]
    refine wpOp_sound R hpi (fun h => by have := hU _ h; omega) (hcos i _ o hpi hio) (hfit i o · hio) h fun s' x w' β' τ' π' hK R' => ?_
    refine text_sound hlen hcos hfit hT hQ rest (i + 1) s' _ w' β' τ' π' _ ?_ (by simp at hn; omega) (fun n h => ?_) (hp.put (fun d hd => hT i o d hio (by rw [cOper_dst (hcos i _ o hpi hio)]; exact hd)) x) R' hK
    · rw [← List.tail_drop, hd]; rfl
    · rcases h with h | h
      · have := hU n h; omega
      · omega

theorem any_sound {ops : Array Oper} {cos : List CO} {base : Nat} (hcos : ∀ (i : Nat) (o : Oper) (c : CO), ops[i]? = some o → cos[i]? = some c → cOper P ops o = some c) (hfit : ∀ (i : Nat) (c : CO) (d : Nat), cos[i]? = some c → c.dst = some d → d < nt)
    {T : Nat → Prop} {a0 : Act} (hT : ∀ (i : Nat) (c : CO) (d : Nat), cos[i]? = some c → c.dst = some d → ¬ T d) {r : Option Nat} {m : Nat}
    {K : S → Prop} {Q : Exit → Act → World → Prop} (hQ : ∀ s a w β τ π U, (∀ n, U n → n < base + ops.size) → K s → Puts T a0 a → Rel P nt n0 w0 π0 U s a w β τ π → Q .normal a w) :
    ∀ (f : Nat) (l : Array Bool) (s : S) (a : Act) (w : World) (β : Nat → Nat) (τ : Nat → Value) (π : Nat → Nat → Prop), l.size = ops.size → Puts T a0 a → Rel P nt n0 w0 π0 (UL base l) s a w β τ π →
      aAny (Pure P) base ops cos K f l s → wpAnyIn (FW r) m P .any ops Q f l a w := by
  have small : ∀ l : Array Bool, l.size = ops.size → ∀ n, UL base l n → n < base + ops.size := by
    rintro l hl n (h | ⟨i, hi, h⟩)
    · omega
    · have : i < l.size := by
        rcases Nat.lt_or_ge i l.size with h' | h'
        · exact h'
        · simp [Array.getElem?_eq_none h'] at h
      omega
  intro f
  induction f with
  | zero => intro l s a w β τ π hl hp R h; exact ⟨h.1, hQ s a w β τ π _ (small l hl) h.2 hp R⟩
  | succ f ih =>
    intro l s a w β τ π hl hp R h
    refine ⟨fun h0 => hQ s a w β τ π _ (small l hl) (h.1 h0) hp R, fun i hi => ?_⟩
    obtain ⟨o, ho, hs⟩ := h.2 i hi
    obtain ⟨hun, pi, hpi, _⟩ := mem_ready.1 hi
    refine wpOp_sound R hpi (UL_not hun) (hcos i pi o hpi ho) (hfit i o · ho) hs fun s' x w' β' τ' π' hK R' => ?_
    exact ih _ s' _ w' β' τ' π' (by simp [hl]) (hp.put (fun d hd => hT i o d ho (by rw [cOper_dst (hcos i pi o hpi ho)]; exact hd)) x) (R'.sub fun n hn => UL_set (lt_of_ready hi) hn) hK

theorem dstsOf_mem {c : CO} {d : Nat} : ∀ {l : List CO}, c ∈ l → c.dst = some d → d ∈ dstsOf l
  | o :: l, h, hd => by
    simp only [dstsOf, List.mem_append]
    rcases List.mem_cons.1 h with rfl | h
    · exact .inl (by rw [hd]; simp)
    · exact .inr (dstsOf_mem h hd)
theorem region_sound (hm : P.follows .mixedOrders = true) {id : Nat} {ops : Array Oper} {draws : Bool} {cos : List CO} (hc : cOpers P ops ops.toList = some cos) (hd : draws = true → ∃ bad T, drawOk bad ops.toList cos = true ∧ badOk T cos bad = true ∧ stepsOk T s.nx 0 cos = true ∧ Rooted T s) (hfit : dstFits nt cos = true)
    (R : Rel P nt n0 w0 π0 U s a w β τ π) (hU : ∀ n, U n → n < s.nx) {K : S → Prop} {Q : Exit → Act → World → Prop} (h : aops (Pure P) s.nx 0 cos K s)
    {T : Nat → Prop} (hT : ∀ d, d ∈ dstsOf cos → ¬ T d) {r : Option Nat} {m : Nat}
    (hQ : ∀ s' a' w β τ π U, (∀ n, U n → n < s.nx + cos.length) → K s' → Puts T a a' → Rel P nt n0 w0 π0 U s' a' w β τ π → Q .normal a' w) : (Code.region id ops draws).wpIn (FW r) m P Q a w := by
  have hT : ∀ (i : Nat) (c : CO) (d : Nat), cos[i]? = some c → c.dst = some d → ¬ T d := fun i c d hi hd => hT d (dstsOf_mem (List.mem_of_getElem? hi) hd)
  obtain ⟨hlen, hcos⟩ := cOpers_spec hc
  have hlen : cos.length = ops.size := by simpa using hlen
  have hcos : ∀ (i : Nat) (o : Oper) (c : CO), ops[i]? = some o → cos[i]? = some c → cOper P ops o = some c := fun i o c h1 h2 => hcos i o c (by simpa using h1) h2
  have hfit := dstFits_spec hfit
  rw [hlen] at hQ
  cases draws with
  | false =>
    refine wpIn_region ?_
    have := text_sound (r := r) (m := m) hlen hcos hfit hT hQ cos 0 s a w β τ π U rfl (by simpa using hlen) (by simpa using hU) (.refl _ _) R h
    rw [hlen] at this
    rw [List.range_eq_range']
    exact this
  | true =>
    obtain ⟨bad, Tb, hok, hbad, hst, hRt⟩ := hd rfl
    have hst' : ∀ k ok, cos[k]? = some ok → stepOk Tb (s.nx + k) ok = true := fun k ok hk => by have := stepsOk_spec hst k ok hk; rwa [Nat.zero_add] at this
    refine wpIn_region_any hm ?_
    have R' : Rel P nt n0 w0 π0 (UL s.nx (Array.replicate ops.size false)) s a w.drew β τ π := R.draw.sub fun n hn => .inl (hU n hn)
    have h2 : aops (Pure P) s.nx 0 cos (fun s2 => ∃ s1, SEq s1 s2 ∧ K s1) s := by
      clear hQ
      have gen : ∀ (base' : Nat) (r : List CO) (i : Nat) (s : S) {K' : S → Prop}, (∀ s, K s → K' s) → aops (Pure P) base' i r K s → aops (Pure P) base' i r K' s := by
        intro base' r
        induction r with
        | nil => intro i s K' hk h; exact hk s h
        | cons o r ih =>
          intro i s K' hk h
          rw [aops_cons] at h ⊢
          obtain ⟨v, d, hd, hk', _⟩ := astep_path h
          exact hd.2 s .refl _ (ih _ _ hk hk')
      exact gen s.nx cos 0 s (fun s h => ⟨s, .refl, h⟩) h
    have h3 := any_of_text hst' hbad (fun s s2 he ⟨s1, h1, hk⟩ => ⟨s1, h1.trans he, hk⟩) hlen hok cos 0 (Array.replicate ops.size false) s rfl (by simpa using hlen) (by simp) (fun j hj => by simp [hj]) R'.inU hRt h2
    rw [hlen] at h3
    refine any_sound hcos hfit hT ?_ ops.size _ s a w.drew β τ π (by simp) (.refl _ _) R' h3
    rintro s2 a w β τ π U hU ⟨s1, he, hk⟩ hp R2
    exact hQ s1 a w β τ π U hU hk hp (R2.seq he.symm)
end
end Go.Eng
