/- ENGINE, PART 15: whatever order is drawn. -/
import Derived.Test.YtklkmmgbcmeinaaEng14
namespace Go.Eng
set_option linter.unnecessarySimpa false
open Go
set_option linter.unusedVariables false
set_option linter.unusedSimpArgs false

theorem cbeq {α : Type} (n m : Nat) (x y : α) : (bif n == m then x else y) = if n = m then x else y := by
  by_cases h : n = m
  · simp [h]
  · have h' : (n == m) = false := by simpa using h
    simp [h, h']

def astep (C : Con) (id : Nat) (o : CO) (K : S → Prop) (s : S) : Prop :=
  aguard s o.g (aop C id o.op (fun v s' => K (s'.put o.dst v)) s) (K (s.put o.dst .undef))

theorem aops_cons {C : Con} {base i : Nat} {o : CO} {r : List CO} {K : S → Prop} {s : S} : aops C base i (o :: r) K s = astep C (base + i) o (aops C base (i + 1) r K) s := rfl

theorem Agr.refl {l : List Nat} {ap : Bool} {s : S} : Agr l ap s s := ⟨fun _ _ => rfl, fun _ _ _ _ _ _ h => h, fun _ _ _ _ _ _ _ h => h⟩
theorem Agr.trans {l : List Nat} {ap : Bool} {s s2 s3 : S} (h : Agr l ap s s2) (k : Agr l ap s2 s3) : Agr l ap s s3 :=
  ⟨fun t ht => (k.slots t ht).trans (h.slots t ht), fun t ht b off x hv hb => k.boxes t ht b off x (by rw [h.slots t ht]; exact hv) (h.boxes t ht b off x hv hb),
   fun e t ht a q e' hv hq => k.live e t ht a q e' (by rw [h.slots t ht]; exact hv) (h.live e t ht a q e' hv hq)⟩

theorem lk_put {s : S} {d : Option Nat} {v : SV} {t : Nat} : lk t (s.put d v).slots = if d = some t then some v else lk t s.slots := by
  cases d with
  | none => simp [S.put]
  | some d =>
    simp only [S.put, lk, cbeq]
    by_cases h : t = d
    · subst h; simp
    · have h2 : ¬ (some d = some t) := fun e => h (Option.some.inj e).symm
      rw [if_neg h, if_neg h2]
theorem put_boxes {s : S} {d : Option Nat} {v : SV} : (s.put d v).boxes = s.boxes := by cases d <;> rfl
theorem put_live {s : S} {d : Option Nat} {v : SV} : (s.put d v).live = s.live := by cases d <;> rfl
theorem app_slots {d : Delta} {id : Nat} {s : S} (h : ∀ i c, d ≠ .frz i c) : (d.app' id s).slots = s.slots := by
  cases d with
  | frz i c => exact absurd rfl (h i c)
  | _ => rfl

theorem lkB_setB' {m : Nat} {b : Box} : ∀ {l : List (Nat × Box)} {n : Nat}, lkB n (setB m b l) = if n = m then (lkB m l).map fun _ => b else lkB n l
  | [], n => by simp [setB, lkB]
  | (k, v) :: r, n => by
    have ih := lkB_setB' (m := m) (b := b) (l := r) (n := n)
    simp only [setB, cbeq]
    by_cases hmk : m = k
    · subst hmk
      simp only [if_true, lkB, cbeq]
      by_cases hn : n = m
      · simp [hn]
      · simp [hn]
    · simp only [hmk, if_false, lkB, cbeq, ih]
      by_cases hnk : n = k
      · have : ¬ n = m := fun e => hmk (e.symm.trans hnk)
        simp [hnk, Ne.symm hmk]
      · simp only [hnk, if_false]

theorem lkN_delN' {m : Nat} : ∀ {l : List (Nat × Nat)} {n : Nat}, lkN n (delN m l) = if n = m then none else lkN n l
  | [], n => by simp [delN, lkN]
  | (k, v) :: r, n => by
    have ih := lkN_delN' (m := m) (l := r) (n := n)
    simp only [delN, cbeq]
    by_cases hmk : m = k
    · subst hmk
      simp only [if_true, lkN, cbeq, ih]
      by_cases hn : n = m
      · simp [hn]
      · simp [hn]
    · simp only [hmk, if_false, lkN, cbeq, ih]
      by_cases hnk : n = k
      · simp [hnk, Ne.symm hmk]
      · simp only [hnk, if_false]

/-- the same answers -/
structure SEq (s s2 : S) : Prop where
  slots : ∀ t, lk t s2.slots = lk t s.slots
  boxes : ∀ b, lkB b s2.boxes = lkB b s.boxes
  live : ∀ q, lkN q s2.live = lkN q s.live

theorem SEq.refl {s : S} : SEq s s := ⟨fun _ => rfl, fun _ => rfl, fun _ => rfl⟩
theorem SEq.symm {s s2 : S} (h : SEq s s2) : SEq s2 s := ⟨fun t => (h.slots t).symm, fun t => (h.boxes t).symm, fun t => (h.live t).symm⟩
theorem SEq.trans {s s2 s3 : S} (h : SEq s s2) (k : SEq s2 s3) : SEq s s3 := ⟨fun t => (k.slots t).trans (h.slots t), fun t => (k.boxes t).trans (h.boxes t), fun t => (k.live t).trans (h.live t)⟩
theorem SEq.agr {s s2 : S} (h : SEq s s2) {l : List Nat} {ap : Bool} : Agr l ap s s2 :=
  ⟨fun t _ => h.slots t, fun t _ b off x _ hb => by rw [h.boxes]; exact hb, fun _ t _ a q e _ hq => by rw [h.live]; exact hq⟩
theorem SEq.put {s s2 : S} (h : SEq s s2) (d : Option Nat) (v : SV) : SEq (s.put d v) (s2.put d v) :=
  ⟨fun t => by rw [lk_put, lk_put, h.slots], fun b => by rw [put_boxes, put_boxes]; exact h.boxes b, fun b => by rw [put_live, put_live]; exact h.live b⟩
theorem setBs_congr : ∀ {ids : List Nat} {css : List (List AV)} {l l2 : List (Nat × Box)}, (∀ b, lkB b l2 = lkB b l) → ∀ b, lkB b (setBs ids css l2) = lkB b (setBs ids css l)
  | [], css, l, l2, h, b => by cases css <;> exact h b
  | i :: ids, [], l, l2, h, b => h b
  | i :: ids, cs :: css, l, l2, h, b => by
    simp only [setBs]
    exact setBs_congr (fun b => by simp only [lkB_setB', h]) b
theorem SEq.frzs {ids : List Nat} : ∀ {css : List (List AV)} {s s2 : S}, SEq s s2 → SEq (frzs ids css s) (frzs ids css s2) := by
  induction ids with
  | nil => intro css s s2 h; cases css <;> exact h
  | cons b ids ih =>
    intro css s s2 h
    cases css with
    | nil => exact h
    | cons cs css =>
      exact ih ⟨fun t => by simp only [lk_frzL, h.slots], fun c => by simp only [lkB_delB, h.boxes], h.live⟩
theorem SEq.app {s s2 : S} (h : SEq s s2) (d : Delta) (id : Nat) : SEq (d.app' id s) (d.app' id s2) := by
  cases d with
  | frz ids css => exact h.frzs
  | no => exact h
  | box b => exact ⟨h.slots, fun c => by simp only [Delta.app', lkB, h.boxes], h.live⟩
  | live e => exact ⟨h.slots, h.boxes, fun q => by simp only [Delta.app', lkN, h.live]⟩
  | app q0 e => exact ⟨h.slots, h.boxes, fun q => by simp only [Delta.app', lkN, h.live, lkN_delN']⟩
  | st b x => exact ⟨h.slots, fun c => by simp only [Delta.app', h.boxes, lkB_setB'], h.live⟩
  | calls ids css fr => exact ⟨h.slots, setBs_congr h.boxes, fun q => by cases fr <;> simp only [Delta.app', lkN, h.live]⟩
theorem SEq.inU {s s2 : S} (h : SEq s s2) {U : Nat → Prop} (hs : s.inU U) : s2.inU U :=
  ⟨fun t v hv => hs.slots t v (by rw [← h.slots]; exact hv), fun b x hb => hs.boxes b x (by rw [← h.boxes]; exact hb), fun q e hq => hs.live q e (by rw [← h.live]; exact hq)⟩

/-- o, at s, yields v and does d; and so at every state that answers alike -/
def Does (C : Con) (id : Nat) (o : CO) (s : S) (v : SV) (d : Delta) : Prop :=
  d.ok o.op s ∧ ∀ s2, Agr o.rd o.op.isApp s s2 → ∀ K', K' ((d.app' id s2).put o.dst v) → astep C id o K' s2

theorem inU_put {s : S} {U : Nat → Prop} (h : s.inU U) {d : Option Nat} {v : SV} (hv : v.inU U) : (s.put d v).inU U := by
  refine ⟨fun t u hu => ?_, fun b x hb => h.boxes b x (by rwa [put_boxes] at hb), fun q e hq => h.live q e (by rwa [put_live] at hq)⟩
  rw [lk_put] at hu
  split at hu
  · cases hu; exact hv
  · exact h.slots t u hu

theorem inU_sub {s : S} {U U' : Nat → Prop} (hU : ∀ n, U n → U' n) (h : s.inU U) : s.inU U' :=
  ⟨fun t v hv => SV.inU_mono hU (h.slots t v hv), fun b x hb => ⟨hU _ (h.boxes b x hb).1, fun o q hq => hU _ ((h.boxes b x hb).2 o q hq)⟩, fun q e hq => hU _ (h.live q e hq)⟩

theorem setBs_inU : ∀ {ids : List Nat} {css : List (List AV)} {l : List (Nat × Box)} {U : Nat → Prop}, (∀ b x, lkB b l = some x → U b ∧ x.inU U) → (∀ b ∈ ids, U b) → ∀ b x, lkB b (setBs ids css l) = some x → U b ∧ x.inU U
  | [], css, l, U, h, hi, b, x, hb => by cases css <;> exact h b x hb
  | i :: ids, [], l, U, h, hi, b, x, hb => h b x hb
  | i :: ids, cs :: css, l, U, h, hi, b, x, hb => by
    simp only [setBs] at hb
    refine setBs_inU (fun b x hx => ?_) (fun b hb => hi b (List.mem_cons_of_mem _ hb)) b x hb
    rw [lkB_setB'] at hx
    split at hx
    · rename_i e
      cases hl : lkB i l with
      | none => simp [hl] at hx
      | some y =>
        simp [hl] at hx; subst hx
        exact ⟨e ▸ hi i (List.mem_cons_self ..), fun o q hq => by cases hq⟩
    · exact h b x hx

theorem frzs_inU {ids : List Nat} {U : Nat → Prop} : ∀ {css : List (List AV)} {s : S}, s.inU U → (frzs ids css s).inU U := by
  induction ids with
  | nil => intro css s h; cases css <;> exact h
  | cons b ids ih =>
    intro css s h
    cases css with
    | nil => exact h
    | cons cs css =>
      refine ih ⟨fun t v hv => ?_, fun c x hc => ?_, h.live⟩
      · simp only [lk_frzL, Option.map_eq_some_iff] at hv
        obtain ⟨u, hu, rfl⟩ := hv
        have hi := h.slots t u hu
        cases u with
        | ptr c o =>
          simp only [frzV, cbeq]
          split
          · trivial
          · exact hi
        | dat a q => exact hi
        | rp cs => exact hi
        | undef => exact hi
      · simp only [lkB_delB] at hc
        split at hc
        · cases hc
        · exact h.boxes c x hc

theorem inU_app {s : S} {U : Nat → Prop} (h : s.inU U) {d : Delta} {id : Nat} (hd : d.inU U) : (d.app' id s).inU (also U id) := by
  have h' : s.inU (also U id) := inU_sub (fun n hn => .inl hn) h
  cases d with
  | no => exact h'
  | frz ids css => exact frzs_inU h'
  | box b =>
    refine ⟨h'.slots, fun b' x hb => ?_, h'.live⟩
    simp only [Delta.app', lkB] at hb
    by_cases he : b' = id
    · subst he
      simp at hb; subst hb
      exact ⟨.inr rfl, fun o q hq => .inl (hd o q hq)⟩
    · have he' : (b' == id) = false := by simpa using he
      rw [he'] at hb; exact h'.boxes b' x hb
  | live e =>
    refine ⟨h'.slots, h'.boxes, fun q e' hq => ?_⟩
    simp only [Delta.app', lkN] at hq
    by_cases he : q = id
    · subst he; exact .inr rfl
    · have he' : (q == id) = false := by simpa using he
      rw [he'] at hq; exact h'.live q e' hq
  | app q0 e =>
    refine ⟨h'.slots, h'.boxes, fun q e' hq => ?_⟩
    simp only [Delta.app', lkN] at hq
    by_cases he : q = id
    · subst he; exact .inr rfl
    · have he' : (q == id) = false := by simpa using he
      rw [he', lkN_delN'] at hq
      simp only [cond_false] at hq
      split at hq
      · cases hq
      · exact h'.live q e' hq
  | st b0 x0 =>
    refine ⟨h'.slots, fun b x hb => ?_, h'.live⟩
    simp only [Delta.app', lkB_setB'] at hb
    split at hb
    · rename_i he
      cases hl : lkB b0 s.boxes with
      | none => simp [hl] at hb
      | some y =>
        simp [hl] at hb; subst hb
        exact ⟨.inl (he ▸ hd.1), fun o q hq => .inl (hd.2 o q hq)⟩
    · exact h'.boxes b x hb
  | calls ids css fr =>
    refine ⟨h'.slots, setBs_inU h'.boxes (fun b hb => .inl (hd b hb)), fun q e' hq => ?_⟩
    cases fr with
    | none => exact h'.live q e' hq
    | some e =>
      simp only [Delta.app', lkN, cbeq] at hq
      split at hq
      · rename_i he; subst he; exact .inr rfl
      · exact h'.live q e' hq

section
variable {C : Con} {id : Nat} {o : CO} {K : S → Prop} {s : S}

theorem CO.rd_op {o : CO} {t : Nat} (h : t ∈ o.op.rd) : t ∈ o.rd := by simp [CO.rd, h]

theorem astep_path (h : astep C id o K s) : ∃ v d, Does C id o s v d ∧ K ((d.app' id s).put o.dst v) ∧ ∀ U, s.inU U → ((d.app' id s).put o.dst v).inU (also U id) := by
  have main : ∀ {K : S → Prop}, aop C id o.op (fun v s' => K (s'.put o.dst v)) s → ∃ (v : SV) (d : Delta), d.ok o.op s ∧ (∀ s2, Agr o.rd o.op.isApp s s2 → ∀ K' : S → Prop, K' ((d.app' id s2).put o.dst v) → aop C id o.op (fun v s' => K' (s'.put o.dst v)) s2) ∧ K ((d.app' id s).put o.dst v) ∧ ∀ U, s.inU U → ((d.app' id s).put o.dst v).inU (also U id) := by
    intro K h
    obtain ⟨v, d, hK, hok, hU, hs⟩ := aop_path h
    exact ⟨v, d, hok, fun s2 ag K' hk => hs s2 (ag.sub fun t ht => CO.rd_op ht) _ hk, hK, fun U hU' => inU_put (inU_app hU' (hU U hU').2) (hU U hU').1⟩
  have skip : K (s.put o.dst .undef) → (∀ s2, Agr o.rd o.op.isApp s s2 → ∀ K', K' (s2.put o.dst .undef) → astep C id o K' s2) → ∃ v d, Does C id o s v d ∧ K ((d.app' id s).put o.dst v) ∧ ∀ U, s.inU U → ((d.app' id s).put o.dst v).inU (also U id) := by
    intro hK hs
    exact ⟨.undef, .no, ⟨trivial, hs⟩, hK, fun U hU => inU_put (inU_sub (fun n h => .inl h) hU) trivial⟩
  unfold astep aguard at h
  cases hg : o.g with
  | none =>
    simp only [hg] at h
    obtain ⟨v, d, h1, h2, h3, h4⟩ := main h
    exact ⟨v, d, ⟨h1, fun s2 ag K' hk => by unfold astep aguard; simp only [hg]; exact h2 s2 ag K' hk⟩, h3, h4⟩
  | some p =>
    obtain ⟨t, want⟩ := p
    have htm : t ∈ o.rd := by simp [CO.rd, hg]
    simp only [hg] at h
    cases hl : lk t s.slots with
    | none => simp [hl] at h
    | some v =>
      have hl2 : ∀ s2, Agr o.rd o.op.isApp s s2 → lk t s2.slots = some v := fun s2 ag => by rw [ag.slots t htm, hl]
      simp only [hl] at h
      cases v with
      | ptr b o => exact h.elim
      | rp cs => exact h.elim
      | undef => exact skip h fun s2 ag K' hk => by unfold astep aguard; simp only [hg, hl2 s2 ag]; exact hk
      | dat a q =>
        cases a <;> try (exact h.elim)
        rename_i b
        by_cases hb : b = want
        · obtain ⟨v, d, h1, h2, h3, h4⟩ := main (h.1 hb)
          exact ⟨v, d, ⟨h1, fun s2 ag K' hk => by
            unfold astep aguard; simp only [hg, hl2 s2 ag]
            exact ⟨fun _ => h2 s2 ag K' hk, fun hn => by subst hb; cases b <;> cases hn⟩⟩, h3, h4⟩
        · have hb' : b = !want := by cases b <;> cases want <;> simp_all
          exact skip (h.2 hb') fun s2 ag K' hk => by
            unfold astep aguard; simp only [hg, hl2 s2 ag]
            exact ⟨fun e => absurd e hb, fun _ => hk⟩

theorem astep_mono {K' : S → Prop} {U : Nat → Prop} (h : astep C id o K s) (hU : s.inU U) (hk : ∀ s', K s' → s'.inU (also U id) → K' s') : astep C id o K' s := by
  obtain ⟨v, d, hd, hK, hi⟩ := astep_path h
  exact hd.2 s .refl K' (hk _ hK (hi U hU))
end

theorem apart_spec {x y : CO} (h : x.apart y = true) : (∀ d, x.dst = some d → d ∉ y.rd ∧ y.dst ≠ some d) ∧ (∀ d, y.dst = some d → d ∉ x.rd) ∧ x.op.isSt = false ∧ y.op.isSt = false ∧ (x.op.isApp = true → y.op.isApp = false) := by
  unfold CO.apart at h
  simp only [Bool.and_eq_true, Bool.not_eq_true'] at h
  obtain ⟨⟨⟨⟨h1, h2⟩, h3⟩, h4⟩, h5⟩ := h
  refine ⟨fun d hd => ?_, fun d hd => ?_, h3, h4, fun hx => ?_⟩
  · rw [hd] at h1
    simp at h1
    exact ⟨h1.1, h1.2⟩
  · rw [hd] at h2
    simpa using h2
  · rw [hx] at h5
    simpa using h5

theorem commute {C : Con} {x y : CO} (hap : x.apart y = true) {U : Nat → Prop} {s : S} (hU : s.inU U) {i j : Nat} (hi : ¬ U i) (hj : ¬ U j) (hij : i ≠ j)
    {vx vy : SV} {dx dy : Delta} (hx : Does C i x s vx dx) (hy : Does C j y ((dx.app' i s).put x.dst vx) vy dy) :
    Agr y.rd y.op.isApp ((dx.app' i s).put x.dst vx) s ∧ Agr x.rd x.op.isApp s ((dy.app' j s).put y.dst vy) ∧
      SEq ((dy.app' j ((dx.app' i s).put x.dst vx)).put y.dst vy) ((dx.app' i ((dy.app' j s).put y.dst vy)).put x.dst vx) := by
  obtain ⟨h1, h2, h3, h4, h5⟩ := apart_spec hap
  have okx2 : ∀ b z, dx ≠ .frz b z := fun b z e => by have := hx.1; rw [e] at this; simp only [Delta.ok] at this; rw [h3] at this; cases this
  have oky2 : ∀ b z, dy ≠ .frz b z := fun b z e => by have := hy.1; rw [e] at this; simp only [Delta.ok] at this; rw [h4] at this; cases this
  have sy : ∀ t ∈ y.rd, lk t ((dx.app' i s).put x.dst vx).slots = lk t s.slots := fun t ht => by
    rw [lk_put, if_neg (fun e => (h1 t e).1 ht), app_slots okx2]
  have sx : ∀ t ∈ x.rd, lk t ((dy.app' j s).put y.dst vy).slots = lk t s.slots := fun t ht => by
    rw [lk_put, if_neg (fun e => h2 t e ht), app_slots oky2]
  have okx : ∀ b z, dx ≠ .st b z := fun b z e => by have := hx.1; rw [e] at this; simp only [Delta.ok] at this; rw [h3] at this; cases this
  have oky : ∀ b z, dy ≠ .st b z := fun b z e => by have := hy.1; rw [e] at this; simp only [Delta.ok] at this; rw [h4] at this; cases this
  have okx' : ∀ b z f, dx ≠ .calls b z f := fun b z f e => by have := hx.1; rw [e] at this; simp only [Delta.ok] at this; rw [h3] at this; cases this
  have oky' : ∀ b z f, dy ≠ .calls b z f := fun b z f e => by have := hy.1; rw [e] at this; simp only [Delta.ok] at this; rw [h4] at this; cases this
  have boxx : ∀ b, b ≠ i → lkB b (dx.app' i s).boxes = lkB b s.boxes := fun b hb => by
    have hb' : (b == i) = false := by simpa using hb
    cases hdx : dx <;> simp only [Delta.app', lkB, hb', cond_false]
    · exact absurd hdx (okx _ _)
    · exact absurd hdx (okx' _ _ _)
    · exact absurd hdx (okx2 _ _)
  have boxy : ∀ b, b ≠ j → lkB b (dy.app' j s).boxes = lkB b s.boxes := fun b hb => by
    have hb' : (b == j) = false := by simpa using hb
    cases hdy : dy <;> simp only [Delta.app', lkB, hb', cond_false]
    · exact absurd hdy (oky _ _)
    · exact absurd hdy (oky' _ _ _)
    · exact absurd hdy (oky2 _ _)
  refine ⟨⟨fun t ht => (sy t ht).symm, fun t ht b off z hv hb => ?_, fun hap' t ht a q e hv hq => ?_⟩, ⟨sx, fun t ht b off z hv hb => ?_, fun hap' t ht a q e hv hq => ?_⟩, ?_⟩
  · rw [sy t ht] at hv
    have hUb : U b := hU.slots t _ hv
    rw [put_boxes, boxx b (fun e => hi (e ▸ hUb))] at hb
    exact hb
  · rw [sy t ht] at hv
    have hUq : U q := hU.slots t _ hv
    have hqi : q ≠ i := fun e => hi (e ▸ hUq)
    have hq' : (q == i) = false := by simpa using hqi
    rw [put_live] at hq
    cases hdx : dx <;> rw [hdx] at hq <;> simp only [Delta.app', lkN, hq', cond_false] at hq
    · exact hq
    · exact hq
    · exact hq
    · rw [lkN_delN'] at hq
      split at hq
      · cases hq
      · exact hq
    · exact hq
    · exact absurd hdx (okx' _ _ _)
    · exact absurd hdx (okx2 _ _)
  · have hUb : U b := hU.slots t _ hv
    rw [put_boxes, boxy b (fun e => hj (e ▸ hUb))]
    exact hb
  · have hUq : U q := hU.slots t _ hv
    have hqj : q ≠ j := fun e => hj (e ▸ hUq)
    have hq' : (q == j) = false := by simpa using hqj
    rw [put_live]
    have hny : y.op.isApp = false := h5 hap'
    cases hdy : dy <;> simp only [Delta.app', lkN, hq', cond_false]
    · exact hq
    · exact hq
    · exact hq
    · have := hy.1
      rw [hdy] at this
      simp only [Delta.ok] at this
      rw [hny] at this
      cases this.1
    · exact hq
    · exact absurd hdy (oky' _ _ _)
    · exact absurd hdy (oky2 _ _)
  · refine ⟨fun t => ?_, fun b => ?_, fun q => ?_⟩
    · simp only [lk_put, app_slots okx2, app_slots oky2]
      by_cases ex : x.dst = some t
      · have ey : y.dst ≠ some t := (h1 t ex).2
        simp [ex, ey]
      · simp [ex]
    · have e1 : ((dy.app' j ((dx.app' i s).put x.dst vx)).put y.dst vy).boxes = (dy.app' j (dx.app' i s)).boxes := by
        rw [put_boxes]; cases hdy : dy <;> first | exact absurd hdy (oky2 _ _) | simp only [Delta.app', put_boxes]
      have e2 : ((dx.app' i ((dy.app' j s).put y.dst vy)).put x.dst vx).boxes = (dx.app' i (dy.app' j s)).boxes := by
        rw [put_boxes]; cases hdx : dx <;> first | exact absurd hdx (okx2 _ _) | simp only [Delta.app', put_boxes]
      rw [e1, e2]
      cases hdx : dx <;> cases hdy : dy <;> first
        | exact absurd hdx (okx _ _)
        | exact absurd hdy (oky _ _)
        | exact absurd hdx (okx2 _ _)
        | exact absurd hdy (oky2 _ _)
        | exact absurd hdx (okx' _ _ _)
        | exact absurd hdy (oky' _ _ _)
        | rfl
        | (simp only [Delta.app', lkB, cbeq]
           by_cases hbi : b = i
           · simp [hbi, hij]
           · simp [hbi])
    · have e1 : ((dy.app' j ((dx.app' i s).put x.dst vx)).put y.dst vy).live = (dy.app' j (dx.app' i s)).live := by
        rw [put_live]; cases hdy : dy <;> first | exact absurd hdy (oky2 _ _) | simp only [Delta.app', put_live]
      have e2 : ((dx.app' i ((dy.app' j s).put y.dst vy)).put x.dst vx).live = (dx.app' i (dy.app' j s)).live := by
        rw [put_live]; cases hdx : dx <;> first | exact absurd hdx (okx2 _ _) | simp only [Delta.app', put_live]
      rw [e1, e2]
      -- a token that is taken is an old one
      have tx : ∀ q0 e, dx = .app q0 e → U q0 := fun q0 e hd => by
        have := hx.1; rw [hd] at this
        obtain ⟨_, t, ht, a, hl⟩ := this
        exact hU.slots t _ hl
      have ty : ∀ q0 e, dy = .app q0 e → U q0 := fun q0 e hd => by
        have := hy.1; rw [hd] at this
        obtain ⟨_, t, ht, a, hl⟩ := this
        rw [sy t (CO.rd_op ht)] at hl
        exact hU.slots t _ hl
      have nb : ∀ q0 e q1 e1, dx = .app q0 e → dy = .app q1 e1 → False := fun q0 e q1 e1 hd hd' => by
        have h := hx.1; rw [hd] at h
        have h' := hy.1; rw [hd'] at h'
        have := h5 h.1
        rw [h'.1] at this
        cases this
      have hlt : ∀ (n m : Nat), (n == m) = decide (n = m) := fun n m => rfl
      cases hdx : dx <;> cases hdy : dy <;> first
        | exact absurd hdx (okx _ _)
        | exact absurd hdy (oky _ _)
        | exact absurd hdx (okx2 _ _)
        | exact absurd hdy (oky2 _ _)
        | exact absurd hdx (okx' _ _ _)
        | exact absurd hdy (oky' _ _ _)
        | exact (nb _ _ _ _ hdx hdy).elim
        | rfl
        | (simp only [Delta.app', lkN, lkN_delN', cbeq]
           have tx' := fun q0 e h => fun (hh : q0 = j) => hj (hh ▸ tx q0 e h)
           have ty' := fun q0 e h => fun (hh : q0 = i) => hi (hh ▸ ty q0 e h)
           by_cases hqi : q = i
           · simp_all
             try (intro hh; exact absurd hh.symm (by assumption))
           · by_cases hqj : q = j
             · simp_all
               try (intro hh; exact absurd hh.symm (by assumption))
             · simp [hqi, hqj])
end Go.Eng
