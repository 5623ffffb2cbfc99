/- ENGINE, PART 15: whatever order is drawn. -/
import Derived.Test.YtmdlpepjodcjeaaEng14
namespace Go.Eng
set_option linter.unnecessarySimpa false
open Go
set_option linter.unusedVariables false
set_option linter.unusedSimpArgs false

theorem cbeq {α : Type} (n m : Nat) (x y : α) : (bif n == m then x else y) = if n = m then x else y := by
  by_cases h : n = m
  · simp [h]
  · have h' : (n == m) = false := by simpa using h
    simp [h, h']

def astep (C : Con) (id : Nat) (o : CO) (K : S → Prop) (s : S) : Prop :=
  aguard s o.g (aop C id o.op (fun v s' => K (s'.put o.dst v)) s) (K (s.put o.dst .undef))

theorem aops_cons {C : Con} {base i : Nat} {o : CO} {r : List CO} {K : S → Prop} {s : S} : aops C base i (o :: r) K s = astep C (base + i) o (aops C base (i + 1) r K) s := rfl

theorem Agr.refl {l lb : List Nat} {ap : Bool} {s : S} : Agr l lb ap s s := ⟨fun _ _ => rfl, fun _ _ _ _ _ _ h => h, fun _ _ _ _ _ _ _ h => h⟩
theorem Agr.trans {l lb : List Nat} {ap : Bool} {s s2 s3 : S} (hl : ∀ t ∈ lb, t ∈ l) (h : Agr l lb ap s s2) (k : Agr l lb ap s2 s3) : Agr l lb ap s s3 :=
  ⟨fun t ht => (k.slots t ht).trans (h.slots t ht), fun t ht b off x hv hb => k.boxes t ht b off x (by rw [h.slots t (hl t ht)]; exact hv) (h.boxes t ht b off x hv hb),
   fun e t ht a q e' hv hq => k.live e t ht a q e' (by rw [h.slots t ht]; exact hv) (h.live e t ht a q e' hv hq)⟩

theorem lk_put {s : S} {d : Option Nat} {v : SV} {t : Nat} : lk t (s.put d v).slots = if d = some t then some v else lk t s.slots := by
  cases d with
  | none => simp [S.put]
  | some d =>
    simp only [S.put, lk, cbeq]
    by_cases h : t = d
    · subst h; simp
    · have h2 : ¬ (some d = some t) := fun e => h (Option.some.inj e).symm
      rw [if_neg h, if_neg h2]
theorem put_boxes {s : S} {d : Option Nat} {v : SV} : (s.put d v).boxes = s.boxes := by cases d <;> rfl
theorem put_live {s : S} {d : Option Nat} {v : SV} : (s.put d v).live = s.live := by cases d <;> rfl
theorem app_slots {d : Delta} {id : Nat} {s : S} (h : ∀ i c, d ≠ .frz i c) : (d.app' id s).slots = s.slots := by
  cases d with
  | frz i c => exact absurd rfl (h i c)
  | _ => rfl

theorem lkB_setB' {m : Nat} {b : Box} : ∀ {l : List (Nat × Box)} {n : Nat}, lkB n (setB m b l) = if n = m then (lkB m l).map fun _ => b else lkB n l
  | [], n => by simp [setB, lkB]
  | (k, v) :: r, n => by
    have ih := lkB_setB' (m := m) (b := b) (l := r) (n := n)
    simp only [setB, cbeq]
    by_cases hmk : m = k
    · subst hmk
      simp only [if_true, lkB, cbeq]
      by_cases hn : n = m
      · simp [hn]
      · simp [hn]
    · simp only [hmk, if_false, lkB, cbeq, ih]
      by_cases hnk : n = k
      · have : ¬ n = m := fun e => hmk (e.symm.trans hnk)
        simp [hnk, Ne.symm hmk]
      · simp only [hnk, if_false]

theorem lkN_delN' {m : Nat} : ∀ {l : List (Nat × Nat)} {n : Nat}, lkN n (delN m l) = if n = m then none else lkN n l
  | [], n => by simp [delN, lkN]
  | (k, v) :: r, n => by
    have ih := lkN_delN' (m := m) (l := r) (n := n)
    simp only [delN, cbeq]
    by_cases hmk : m = k
    · subst hmk
      simp only [if_true, lkN, cbeq, ih]
      by_cases hn : n = m
      · simp [hn]
      · simp [hn]
    · simp only [hmk, if_false, lkN, cbeq, ih]
      by_cases hnk : n = k
      · simp [hnk, Ne.symm hmk]
      · simp only [hnk, if_false]

/-- the same answers -/
structure SEq (s s2 : S) : Prop where
  slots : ∀ t, lk t s2.slots = lk t s.slots
  boxes : ∀ b, lkB b s2.boxes = lkB b s.boxes
  live : ∀ q, lkN q s2.live = lkN q s.live

theorem SEq.refl {s : S} : SEq s s := ⟨fun _ => rfl, fun _ => rfl, fun _ => rfl⟩
theorem SEq.symm {s s2 : S} (h : SEq s s2) : SEq s2 s := ⟨fun t => (h.slots t).symm, fun t => (h.boxes t).symm, fun t => (h.live t).symm⟩
theorem SEq.trans {s s2 s3 : S} (h : SEq s s2) (k : SEq s2 s3) : SEq s s3 := ⟨fun t => (k.slots t).trans (h.slots t), fun t => (k.boxes t).trans (h.boxes t), fun t => (k.live t).trans (h.live t)⟩
theorem SEq.agr {s s2 : S} (h : SEq s s2) {l lb : List Nat} {ap : Bool} : Agr l lb ap s s2 :=
  ⟨fun t _ => h.slots t, fun t _ b off x _ hb => by rw [h.boxes]; exact hb, fun _ t _ a q e _ hq => by rw [h.live]; exact hq⟩
theorem SEq.put {s s2 : S} (h : SEq s s2) (d : Option Nat) (v : SV) : SEq (s.put d v) (s2.put d v) :=
  ⟨fun t => by rw [lk_put, lk_put, h.slots], fun b => by rw [put_boxes, put_boxes]; exact h.boxes b, fun b => by rw [put_live, put_live]; exact h.live b⟩
theorem setBs_congr : ∀ {ids : List Nat} {css : List (List AV)} {l l2 : List (Nat × Box)}, (∀ b, lkB b l2 = lkB b l) → ∀ b, lkB b (setBs ids css l2) = lkB b (setBs ids css l)
  | [], css, l, l2, h, b => by cases css <;> exact h b
  | i :: ids, [], l, l2, h, b => h b
  | i :: ids, cs :: css, l, l2, h, b => by
    simp only [setBs]
    exact setBs_congr (fun b => by simp only [lkB_setB', h]) b
theorem SEq.frzs {ids : List Nat} : ∀ {css : List (List AV)} {s s2 : S}, SEq s s2 → SEq (frzs ids css s) (frzs ids css s2) := by
  induction ids with
  | nil => intro css s s2 h; cases css <;> exact h
  | cons b ids ih =>
    intro css s s2 h
    cases css with
    | nil => exact h
    | cons cs css =>
      exact ih ⟨fun t => by simp only [lk_frzL, h.slots], fun c => by simp only [lkB_delB, h.boxes], h.live⟩
theorem SEq.app {s s2 : S} (h : SEq s s2) (d : Delta) (id : Nat) : SEq (d.app' id s) (d.app' id s2) := by
  cases d with
  | frz ids css => exact h.frzs
  | no => exact h
  | box b => exact ⟨h.slots, fun c => by simp only [Delta.app', lkB, h.boxes], h.live⟩
  | live e => exact ⟨h.slots, h.boxes, fun q => by simp only [Delta.app', lkN, h.live]⟩
  | app q0 e => exact ⟨h.slots, h.boxes, fun q => by simp only [Delta.app', lkN, h.live, lkN_delN']⟩
  | st b x => exact ⟨h.slots, fun c => by simp only [Delta.app', h.boxes, lkB_setB'], h.live⟩
  | calls ids css fr => exact ⟨h.slots, setBs_congr h.boxes, fun q => by cases fr <;> simp only [Delta.app', lkN, h.live]⟩
theorem SEq.inU {s s2 : S} (h : SEq s s2) {U : Nat → Prop} (hs : s.inU U) : s2.inU U :=
  ⟨fun t v hv => hs.slots t v (by rw [← h.slots]; exact hv), fun b x hb => hs.boxes b x (by rw [← h.boxes]; exact hb), fun q e hq => hs.live q e (by rw [← h.live]; exact hq)⟩

/-- o, at s, yields v and does d; and so at every state that answers alike -/
def Does (C : Con) (id : Nat) (o : CO) (s : S) (v : SV) (d : Delta) : Prop :=
  (d.ok o.op s ∧ FromP id o.op s v) ∧ ∀ s2, Agr o.rd o.op.rdB o.op.isApp s s2 → ∀ K', K' ((d.app' id s2).put o.dst v) → astep C id o K' s2

theorem inU_put {s : S} {U : Nat → Prop} (h : s.inU U) {d : Option Nat} {v : SV} (hv : v.inU U) : (s.put d v).inU U := by
  refine ⟨fun t u hu => ?_, fun b x hb => h.boxes b x (by rwa [put_boxes] at hb), fun q e hq => h.live q e (by rwa [put_live] at hq)⟩
  rw [lk_put] at hu
  split at hu
  · cases hu; exact hv
  · exact h.slots t u hu

theorem inU_sub {s : S} {U U' : Nat → Prop} (hU : ∀ n, U n → U' n) (h : s.inU U) : s.inU U' :=
  ⟨fun t v hv => SV.inU_mono hU (h.slots t v hv), fun b x hb => ⟨hU _ (h.boxes b x hb).1, fun o q hq => hU _ ((h.boxes b x hb).2 o q hq)⟩, fun q e hq => hU _ (h.live q e hq)⟩

theorem setBs_inU : ∀ {ids : List Nat} {css : List (List AV)} {l : List (Nat × Box)} {U : Nat → Prop}, (∀ b x, lkB b l = some x → U b ∧ x.inU U) → (∀ b ∈ ids, U b) → ∀ b x, lkB b (setBs ids css l) = some x → U b ∧ x.inU U
  | [], css, l, U, h, hi, b, x, hb => by cases css <;> exact h b x hb
  | i :: ids, [], l, U, h, hi, b, x, hb => h b x hb
  | i :: ids, cs :: css, l, U, h, hi, b, x, hb => by
    simp only [setBs] at hb
    refine setBs_inU (fun b x hx => ?_) (fun b hb => hi b (List.mem_cons_of_mem _ hb)) b x hb
    rw [lkB_setB'] at hx
    split at hx
    · rename_i e
      cases hl : lkB i l with
      | none => simp [hl] at hx
      | some y =>
        simp [hl] at hx; subst hx
        exact ⟨e ▸ hi i (List.mem_cons_self ..), fun o q hq => by cases hq⟩
    · exact h b x hx

theorem frzs_inU {ids : List Nat} {U : Nat → Prop} : ∀ {css : List (List AV)} {s : S}, s.inU U → (frzs ids css s).inU U := by
  induction ids with
  | nil => intro css s h; cases css <;> exact h
  | cons b ids ih =>
    intro css s h
    cases css with
    | nil => exact h
    | cons cs css =>
      refine ih ⟨fun t v hv => ?_, fun c x hc => ?_, h.live⟩
      · simp only [lk_frzL, Option.map_eq_some_iff] at hv
        obtain ⟨u, hu, rfl⟩ := hv
        have hi := h.slots t u hu
        cases u with
        | ptr c o =>
          simp only [frzV, cbeq]
          split
          · trivial
          · exact hi
        | dat a q => exact hi
        | rp cs => exact hi
        | undef => exact hi
      · simp only [lkB_delB] at hc
        split at hc
        · cases hc
        · exact h.boxes c x hc

theorem inU_app {s : S} {U : Nat → Prop} (h : s.inU U) {d : Delta} {id : Nat} (hd : d.inU U) : (d.app' id s).inU (also U id) := by
  have h' : s.inU (also U id) := inU_sub (fun n hn => .inl hn) h
  cases d with
  | no => exact h'
  | frz ids css => exact frzs_inU h'
  | box b =>
    refine ⟨h'.slots, fun b' x hb => ?_, h'.live⟩
    simp only [Delta.app', lkB] at hb
    by_cases he : b' = id
    · subst he
      simp at hb; subst hb
      exact ⟨.inr rfl, fun o q hq => .inl (hd o q hq)⟩
    · have he' : (b' == id) = false := by simpa using he
      rw [he'] at hb; exact h'.boxes b' x hb
  | live e =>
    refine ⟨h'.slots, h'.boxes, fun q e' hq => ?_⟩
    simp only [Delta.app', lkN] at hq
    by_cases he : q = id
    · subst he; exact .inr rfl
    · have he' : (q == id) = false := by simpa using he
      rw [he'] at hq; exact h'.live q e' hq
  | app q0 e =>
    refine ⟨h'.slots, h'.boxes, fun q e' hq => ?_⟩
    simp only [Delta.app', lkN] at hq
    by_cases he : q = id
    · subst he; exact .inr rfl
    · have he' : (q == id) = false := by simpa using he
      rw [he', lkN_delN'] at hq
      simp only [cond_false] at hq
      split at hq
      · cases hq
      · exact h'.live q e' hq
  | st b0 x0 =>
    refine ⟨h'.slots, fun b x hb => ?_, h'.live⟩
    simp only [Delta.app', lkB_setB'] at hb
    split at hb
    · rename_i he
      cases hl : lkB b0 s.boxes with
      | none => simp [hl] at hb
      | some y =>
        simp [hl] at hb; subst hb
        exact ⟨.inl (he ▸ hd.1), fun o q hq => .inl (hd.2 o q hq)⟩
    · exact h'.boxes b x hb
  | calls ids css fr =>
    refine ⟨h'.slots, setBs_inU h'.boxes (fun b hb => .inl (hd b hb)), fun q e' hq => ?_⟩
    cases fr with
    | none => exact h'.live q e' hq
    | some e =>
      simp only [Delta.app', lkN, cbeq] at hq
      split at hq
      · rename_i he; subst he; exact .inr rfl
      · exact h'.live q e' hq

section
variable {C : Con} {id : Nat} {o : CO} {K : S → Prop} {s : S}

theorem CO.rd_op {o : CO} {t : Nat} (h : t ∈ o.op.rd) : t ∈ o.rd := by simp [CO.rd, h]

theorem astep_path (h : astep C id o K s) : ∃ v d, Does C id o s v d ∧ K ((d.app' id s).put o.dst v) ∧ ∀ U, s.inU U → ((d.app' id s).put o.dst v).inU (also U id) := by
  have main : ∀ {K : S → Prop}, aop C id o.op (fun v s' => K (s'.put o.dst v)) s → ∃ (v : SV) (d : Delta), (d.ok o.op s ∧ FromP id o.op s v) ∧ (∀ s2, Agr o.rd o.op.rdB o.op.isApp s s2 → ∀ K' : S → Prop, K' ((d.app' id s2).put o.dst v) → aop C id o.op (fun v s' => K' (s'.put o.dst v)) s2) ∧ K ((d.app' id s).put o.dst v) ∧ ∀ U, s.inU U → ((d.app' id s).put o.dst v).inU (also U id) := by
    intro K h
    obtain ⟨v, d, hK, hok, hU, hfp, hs⟩ := aop_path h
    exact ⟨v, d, ⟨hok, hfp⟩, fun s2 ag K' hk => hs s2 (ag.sub fun t ht => CO.rd_op ht) _ hk, hK, fun U hU' => inU_put (inU_app hU' (hU U hU').2) (hU U hU').1⟩
  have skip : K (s.put o.dst .undef) → (∀ s2, Agr o.rd o.op.rdB o.op.isApp s s2 → ∀ K', K' (s2.put o.dst .undef) → astep C id o K' s2) → ∃ v d, Does C id o s v d ∧ K ((d.app' id s).put o.dst v) ∧ ∀ U, s.inU U → ((d.app' id s).put o.dst v).inU (also U id) := by
    intro hK hs
    exact ⟨.undef, .no, ⟨⟨trivial, .undef⟩, hs⟩, hK, fun U hU => inU_put (inU_sub (fun n h => .inl h) hU) trivial⟩
  unfold astep aguard at h
  cases hg : o.g with
  | none =>
    simp only [hg] at h
    obtain ⟨v, d, h1, h2, h3, h4⟩ := main h
    exact ⟨v, d, ⟨h1, fun s2 ag K' hk => by unfold astep aguard; simp only [hg]; exact h2 s2 ag K' hk⟩, h3, h4⟩
  | some p =>
    obtain ⟨t, want⟩ := p
    have htm : t ∈ o.rd := by simp [CO.rd, hg]
    simp only [hg] at h
    cases hl : lk t s.slots with
    | none => simp [hl] at h
    | some v =>
      have hl2 : ∀ s2, Agr o.rd o.op.rdB o.op.isApp s s2 → lk t s2.slots = some v := fun s2 ag => by rw [ag.slots t htm, hl]
      simp only [hl] at h
      cases v with
      | ptr b o => exact h.elim
      | rp cs => exact h.elim
      | undef => exact skip h fun s2 ag K' hk => by unfold astep aguard; simp only [hg, hl2 s2 ag]; exact hk
      | dat a q =>
        cases a <;> try (exact h.elim)
        rename_i b
        by_cases hb : b = want
        · obtain ⟨v, d, h1, h2, h3, h4⟩ := main (h.1 hb)
          exact ⟨v, d, ⟨h1, fun s2 ag K' hk => by
            unfold astep aguard; simp only [hg, hl2 s2 ag]
            exact ⟨fun _ => h2 s2 ag K' hk, fun hn => by subst hb; cases b <;> cases hn⟩⟩, h3, h4⟩
        · have hb' : b = !want := by cases b <;> cases want <;> simp_all
          exact skip (h.2 hb') fun s2 ag K' hk => by
            unfold astep aguard; simp only [hg, hl2 s2 ag]
            exact ⟨fun e => absurd e hb, fun _ => hk⟩

theorem astep_mono {K' : S → Prop} {U : Nat → Prop} (h : astep C id o K s) (hU : s.inU U) (hk : ∀ s', K s' → s'.inU (also U id) → K' s') : astep C id o K' s := by
  obtain ⟨v, d, hd, hK, hi⟩ := astep_path h
  exact hd.2 s .refl K' (hk _ hK (hi U hU))
end


/-! ### two operations that are apart may change places -/
structure EB (α : Type) where
  tgt : Nat
  g : Option α → Option α
def EB.ap {α : Type} (e : EB α) (f : Nat → Option α) : Nat → Option α := fun c => if c = e.tgt then e.g (f c) else f c
def apE {α : Type} (l : List (EB α)) (f : Nat → Option α) : Nat → Option α := l.foldl (fun f e => e.ap f) f
theorem EB.comm {α : Type} {e e' : EB α} (h : e.tgt ≠ e'.tgt) (f : Nat → Option α) : e.ap (e'.ap f) = e'.ap (e.ap f) := by
  funext c
  simp only [EB.ap]
  by_cases h1 : c = e.tgt
  · have h2 : c ≠ e'.tgt := fun e2 => h (h1.symm.trans e2)
    simp [h1, h2]
    have : ¬ e.tgt = e'.tgt := h
    simp [this]
  · simp [h1]
theorem apE_comm1 {α : Type} {e : EB α} : ∀ {l : List (EB α)} {f : Nat → Option α}, (∀ e' ∈ l, e.tgt ≠ e'.tgt) → apE l (e.ap f) = e.ap (apE l f)
  | [], f, _ => rfl
  | a :: l, f, h => by
    show apE l (a.ap (e.ap f)) = e.ap (apE l (a.ap f))
    rw [← EB.comm (h a List.mem_cons_self)]
    exact apE_comm1 fun e' he' => h e' (List.mem_cons_of_mem _ he')
theorem apE_comm {α : Type} {l' : List (EB α)} : ∀ {l : List (EB α)} {f : Nat → Option α}, (∀ e ∈ l, ∀ e' ∈ l', e.tgt ≠ e'.tgt) → apE l (apE l' f) = apE l' (apE l f)
  | [], f, _ => rfl
  | e :: l, f, h => by
    show apE l (e.ap (apE l' f)) = apE l' (apE l (e.ap f))
    rw [← apE_comm1 (h e List.mem_cons_self)]
    exact apE_comm fun a ha => h a (List.mem_cons_of_mem _ ha)
theorem apE_other {α : Type} {c : Nat} : ∀ {l : List (EB α)} {f : Nat → Option α}, (∀ e ∈ l, e.tgt ≠ c) → apE l f c = f c
  | [], f, _ => rfl
  | e :: l, f, h => by
    show apE l (e.ap f) c = f c
    rw [apE_other fun a ha => h a (List.mem_cons_of_mem _ ha)]
    exact if_neg (fun e2 => h e List.mem_cons_self e2.symm)

def wB : Delta → List Nat
  | .st b _ => [b]
  | .calls ids _ _ => ids
  | .frz ids _ => ids
  | _ => []
def eB (d : Delta) (id : Nat) : List (EB Box) :=
  match d with
  | .box b => [⟨id, fun _ => some b⟩]
  | .st b x => [⟨b, Option.map fun _ => x⟩]
  | .calls ids css _ => (ids.zip css).map fun p => ⟨p.1, Option.map fun _ => ⟨p.2, []⟩⟩
  | .frz ids css => (ids.zip css).map fun p => ⟨p.1, fun _ => none⟩
  | _ => []
def eL (d : Delta) (id : Nat) : List (EB Nat) :=
  match d with
  | .live e => [⟨id, fun _ => some e⟩]
  | .app q e => [⟨q, fun _ => none⟩, ⟨id, fun _ => some e⟩]
  | .calls _ _ (some e) => [⟨id, fun _ => some e⟩]
  | _ => []
def fz (d : Delta) : SV → SV :=
  match d with
  | .frz ids css => fun v => (ids.zip css).foldl (fun v p => frzV p.1 p.2 v) v
  | _ => fun v => v

theorem setBs_apE : ∀ {ids : List Nat} {css : List (List AV)} {l : List (Nat × Box)}, (fun b => lkB b (setBs ids css l)) = apE ((ids.zip css).map fun p => (⟨p.1, Option.map fun _ => ⟨p.2, []⟩⟩ : EB Box)) (fun b => lkB b l)
  | [], css, l => by cases css <;> rfl
  | i :: ids, [], l => rfl
  | i :: ids, cs :: css, l => by
    show (fun b => lkB b (setBs ids css (setB i ⟨cs, []⟩ l))) = _
    rw [setBs_apE (ids := ids) (css := css)]
    refine congrArg (apE _) (funext fun b => ?_)
    rw [lkB_setB']
    show _ = if b = i then _ else _
    split
    · rename_i e; subst e; rfl
    · rfl
theorem frzs_apE : ∀ {ids : List Nat} {css : List (List AV)} {s : S}, (fun b => lkB b (frzs ids css s).boxes) = apE ((ids.zip css).map fun p => (⟨p.1, fun _ => none⟩ : EB Box)) (fun b => lkB b s.boxes)
  | [], css, s => by cases css <;> rfl
  | i :: ids, [], s => rfl
  | i :: ids, cs :: css, s => by
    show (fun b => lkB b (frzs ids css { s with slots := frzL i cs s.slots, boxes := delB i s.boxes }).boxes) = _
    rw [frzs_apE (ids := ids) (css := css)]
    refine congrArg (apE _) (funext fun b => ?_)
    rw [lkB_delB]
    rfl
theorem frzs_slots : ∀ {ids : List Nat} {css : List (List AV)} {s : S} (t : Nat), lk t (frzs ids css s).slots = (lk t s.slots).map fun v => (ids.zip css).foldl (fun v p => frzV p.1 p.2 v) v
  | [], css, s, t => by cases css <;> simp [frzs]
  | i :: ids, [], s, t => by simp [frzs]
  | i :: ids, cs :: css, s, t => by
    show lk t (frzs ids css { s with slots := frzL i cs s.slots, boxes := delB i s.boxes }).slots = _
    rw [frzs_slots (ids := ids) (css := css) t, lk_frzL, Option.map_map]
    rfl
theorem app_boxes' (d : Delta) (id : Nat) (s : S) : (fun b => lkB b (d.app' id s).boxes) = apE (eB d id) (fun b => lkB b s.boxes) := by
  cases d with
  | box b => funext c; simp only [Delta.app', lkB, cbeq]; show _ = if c = id then _ else _; rfl
  | st b x =>
    funext c; simp only [Delta.app', lkB_setB']
    show _ = if c = b then _ else _
    split
    · rename_i e; subst e; rfl
    · rfl
  | calls ids css fr => exact setBs_apE
  | frz ids css => exact frzs_apE
  | _ => rfl
theorem app_live' (d : Delta) (id : Nat) (s : S) : (fun b => lkN b (d.app' id s).live) = apE (eL d id) (fun b => lkN b s.live) := by
  cases d with
  | live e => funext c; simp only [Delta.app', lkN, cbeq]; rfl
  | app q e => funext c; simp only [Delta.app', lkN, cbeq, lkN_delN']; show _ = if c = id then _ else if c = q then _ else _; rfl
  | calls ids css fr => cases fr with
    | none => rfl
    | some e => funext c; simp only [Delta.app', lkN, cbeq]; rfl
  | frz ids css => simp only [Delta.app', frzs_live]; rfl
  | _ => rfl
theorem app_slots' (d : Delta) (id : Nat) (s : S) (t : Nat) : lk t (d.app' id s).slots = (lk t s.slots).map (fz d) := by
  cases d with
  | frz ids css => exact frzs_slots t
  | _ => simp [Delta.app', fz]

theorem eB_tgt {d : Delta} {id : Nat} {e : EB Box} (h : e ∈ eB d id) : e.tgt = id ∨ e.tgt ∈ wB d := by
  cases d with
  | box b => simp [eB] at h; subst h; exact .inl rfl
  | st b x => simp [eB] at h; subst h; exact .inr (by simp [wB])
  | calls ids css fr =>
    simp only [eB, List.mem_map] at h
    obtain ⟨p, hm, rfl⟩ := h; exact .inr (List.of_mem_zip hm).1
  | frz ids css =>
    simp only [eB, List.mem_map] at h
    obtain ⟨p, hm, rfl⟩ := h; exact .inr (List.of_mem_zip hm).1
  | _ => simp [eB] at h

theorem frz_fold : ∀ {l : List (Nat × List AV)} {v : SV}, l.foldl (fun v p => frzV p.1 p.2 v) v = v ∨ ∃ cs b o, v = .ptr b o ∧ b ∈ l.map (·.1) ∧ l.foldl (fun v p => frzV p.1 p.2 v) v = .rp cs
  | [], v => .inl rfl
  | p :: l, v => by
    simp only [List.foldl_cons]
    cases v with
    | ptr b o =>
      by_cases e : b = p.1
      · refine .inr ⟨p.2.drop o, b, o, rfl, by simp [e], ?_⟩
        have : frzV p.1 p.2 (.ptr b o) = .rp (p.2.drop o) := by simp [frzV, e]
        rw [this]
        rcases frz_fold (l := l) (v := .rp (p.2.drop o)) with h | ⟨_, _, _, h, _⟩
        · exact h
        · cases h
      · have : frzV p.1 p.2 (.ptr b o) = .ptr b o := by have e' : (b == p.1) = false := by simpa using e
                                                        simp [frzV, e']
        rw [this]
        rcases frz_fold (l := l) (v := .ptr b o) with h | ⟨cs, b', o', h, hm, h2⟩
        · exact .inl h
        · cases h; exact .inr ⟨cs, b, o, rfl, List.mem_cons_of_mem _ hm, h2⟩
    | _ =>
      show l.foldl _ _ = _ ∨ _
      rcases frz_fold (l := l) (v := _) with h | ⟨_, _, _, h, _⟩
      · exact .inl h
      · cases h
theorem fz_shape (d : Delta) (v : SV) : fz d v = v ∨ ∃ cs b o ids css, d = .frz ids css ∧ v = .ptr b o ∧ b ∈ wB d ∧ fz d v = .rp cs := by
  cases d with
  | frz ids css =>
    rcases frz_fold (l := ids.zip css) (v := v) with h | ⟨cs, b, o, h1, h2, h3⟩
    · exact .inl h
    · refine .inr ⟨cs, b, o, ids, css, rfl, h1, ?_, h3⟩
      obtain ⟨p, hp, rfl⟩ := List.mem_map.1 h2
      exact (List.of_mem_zip hp).1
  | _ => exact .inl rfl
theorem fz_rp (d : Delta) (cs : List AV) : fz d (.rp cs) = .rp cs := by
  rcases fz_shape d (.rp cs) with h | ⟨_, _, _, _, _, _, h, _⟩
  · exact h
  · cases h
theorem fz_comm {dx dy : Delta} (hd : ∀ b ∈ wB dx, b ∉ wB dy) (v : SV) : fz dy (fz dx v) = fz dx (fz dy v) := by
  rcases fz_shape dx v with h | ⟨cs, b, o, _, _, _, rfl, hb, h⟩
  · rw [h]
    rcases fz_shape dy v with k | ⟨cs', b', o', _, _, _, rfl, hb', k⟩
    · rw [k, h]
    · rw [k, fz_rp]
  · rcases fz_shape dy (.ptr b o) with k | ⟨cs', b', o', _, _, _, e, hb', k⟩
    · rw [k, h, fz_rp]
    · cases e; exact absurd hb' (hd b hb)

def isFrzD : Delta → Bool
  | .frz _ _ => true
  | _ => false
theorem wB_src {C : Con} {id : Nat} {o : CO} {s : S} {v : SV} {d : Delta} (h : Does C id o s v d) : ∀ b ∈ wB d, ∃ t ∈ o.op.wrB, ∃ off, lk t s.slots = some (.ptr b off) := by
  intro b hb
  have h := h.1.1
  cases d <;> simp [wB] at hb
  · subst hb; exact h.2
  · exact h.2 b hb
  · exact h.2 b hb
theorem frz_src {C : Con} {id : Nat} {o : CO} {s : S} {v : SV} {d : Delta} (h : Does C id o s v d) (hf : isFrzD d = true) : o.op.isFrz = true := by
  have h := h.1.1
  cases d <;> first | (cases hf; done) | exact h.1
theorem wrB_rdB {o : COp} {t : Nat} (h : t ∈ o.wrB) : t ∈ o.rdB := by cases o <;> first | exact h | (simp [COp.wrB] at h; done)
theorem rdB_rd {o : COp} {t : Nat} (h : t ∈ o.rdB) : t ∈ o.rd := by cases o <;> simp [COp.rdB] at h <;> simp [COp.rd, h]
theorem ptrSrc_rd {o : COp} {t : Nat} (h : t ∈ o.ptrSrc) : t ∈ o.rd := by
  cases o <;> simp [COp.ptrSrc] at h <;> first | (simp [COp.rd, h]; done) | (rcases h with h | h <;> simp [COp.rd, h])

/-- at this state, x writes no box that y looks into -/
def Clear (x y : CO) (s : S) : Prop := ∀ b, (∃ t ∈ x.op.wrB, ∃ off, lk t s.slots = some (.ptr b off)) →
  (∀ t ∈ y.op.rdB, ∀ off, lk t s.slots ≠ some (.ptr b off)) ∧ (x.op.isFrz = true → ∀ t ∈ y.rd, ∀ off, lk t s.slots ≠ some (.ptr b off))

theorem indep_spec {x y : CO} (h : x.indep y = true) : (∀ d, x.dst = some d → d ∉ y.rd ∧ y.dst ≠ some d) ∧ (∀ d, y.dst = some d → d ∉ x.rd) ∧ (x.op.isApp = true → y.op.isApp = false) := by
  unfold CO.indep at h
  simp only [Bool.and_eq_true, Bool.not_eq_true'] at h
  obtain ⟨⟨h1, h2⟩, h5⟩ := h
  refine ⟨fun d hd => ?_, fun d hd => ?_, fun hx => ?_⟩
  · rw [hd] at h1
    simp at h1
    exact ⟨h1.1, h1.2⟩
  · rw [hd] at h2
    simpa using h2
  · rw [hx] at h5
    simpa using h5

theorem commute {C : Con} {x y : CO} (hap : x.indep y = true) {U : Nat → Prop} {s : S} (hU : s.inU U) {i j : Nat} (hi : ¬ U i) (hj : ¬ U j) (hij : i ≠ j) (cx : Clear x y s) (cy : Clear y x s)
    {vx vy : SV} {dx dy : Delta} (hx : Does C i x s vx dx) (hy : Does C j y ((dx.app' i s).put x.dst vx) vy dy) :
    Agr y.rd y.op.rdB y.op.isApp ((dx.app' i s).put x.dst vx) s ∧ Agr x.rd x.op.rdB x.op.isApp s ((dy.app' j s).put y.dst vy) ∧
      SEq ((dy.app' j ((dx.app' i s).put x.dst vx)).put y.dst vy) ((dx.app' i ((dy.app' j s).put y.dst vy)).put x.dst vx) := by
  obtain ⟨h1, h2, h5⟩ := indep_spec hap
  have wx := wB_src hx
  have wxU : ∀ b ∈ wB dx, U b := fun b hb => by obtain ⟨t, _, off, hl⟩ := wx b hb; exact hU.slots t _ hl
  -- what y looks at
  have sy : ∀ t ∈ y.rd, lk t ((dx.app' i s).put x.dst vx).slots = lk t s.slots := fun t ht => by
    rw [lk_put, if_neg (fun e => (h1 t e).1 ht), app_slots']
    cases hl : lk t s.slots with
    | none => rfl
    | some v =>
      simp only [Option.map_some]
      rcases fz_shape dx v with h | ⟨cs, b, o, ids, css, hd, rfl, hb, h⟩
      · rw [h]
      · exact absurd hl ((cx b (wx b hb)).2 (frz_src hx (by rw [hd]; rfl)) t ht o)
  have wy : ∀ b ∈ wB dy, ∃ t ∈ y.op.wrB, ∃ off, lk t s.slots = some (.ptr b off) := fun b hb => by
    obtain ⟨t, ht, off, hl⟩ := wB_src hy b hb
    rw [sy t (CO.rd_op (rdB_rd (wrB_rdB ht)))] at hl
    exact ⟨t, ht, off, hl⟩
  have wyU : ∀ b ∈ wB dy, U b := fun b hb => by obtain ⟨t, _, off, hl⟩ := wy b hb; exact hU.slots t _ hl
  have hdis : ∀ b ∈ wB dx, b ∉ wB dy := fun b hb hb' => by
    obtain ⟨t, ht, off, hl⟩ := wy b hb'
    exact (cx b (wx b hb)).1 t (wrB_rdB ht) off hl
  have sx : ∀ t ∈ x.rd, lk t ((dy.app' j s).put y.dst vy).slots = lk t s.slots := fun t ht => by
    rw [lk_put, if_neg (fun e => h2 t e ht), app_slots']
    cases hl : lk t s.slots with
    | none => rfl
    | some v =>
      simp only [Option.map_some]
      rcases fz_shape dy v with h | ⟨cs, b, o, ids, css, hd, rfl, hb, h⟩
      · rw [h]
      · exact absurd hl ((cy b (wy b hb)).2 (frz_src hy (by rw [hd]; rfl)) t ht o)
  -- tokens
  have tx : ∀ q0 e, dx = .app q0 e → U q0 ∧ x.op.isApp = true := fun q0 e hd => by
    have := hx.1.1; rw [hd] at this
    obtain ⟨h, t, ht, a, hl⟩ := this
    exact ⟨hU.slots t _ hl, h⟩
  have ty : ∀ q0 e, dy = .app q0 e → U q0 ∧ y.op.isApp = true := fun q0 e hd => by
    have := hy.1.1; rw [hd] at this
    obtain ⟨h, t, ht, a, hl⟩ := this
    rw [sy t (CO.rd_op ht)] at hl
    exact ⟨hU.slots t _ hl, h⟩
  have lx : ∀ e ∈ eL dx i, e.tgt = i ∨ (U e.tgt ∧ x.op.isApp = true) := fun e he => by
    cases hdx : dx <;> rw [hdx] at he <;> simp [eL] at he
    · subst he; exact .inl rfl
    · rcases he with rfl | rfl
      · exact .inr (tx _ _ hdx)
      · exact .inl rfl
    · rename_i fr; cases fr <;> simp at he; subst he; exact .inl rfl
  have ly : ∀ e ∈ eL dy j, e.tgt = j ∨ (U e.tgt ∧ y.op.isApp = true) := fun e he => by
    cases hdy : dy <;> rw [hdy] at he <;> simp [eL] at he
    · subst he; exact .inl rfl
    · rcases he with rfl | rfl
      · exact .inr (ty _ _ hdy)
      · exact .inl rfl
    · rename_i fr; cases fr <;> simp at he; subst he; exact .inl rfl
  have bxs : ∀ (d : Delta) (id : Nat) (s : S) (b : Nat), lkB b (d.app' id s).boxes = apE (eB d id) (fun b => lkB b s.boxes) b := fun d id s b => congrFun (app_boxes' d id s) b
  have lvs : ∀ (d : Delta) (id : Nat) (s : S) (b : Nat), lkN b (d.app' id s).live = apE (eL d id) (fun b => lkN b s.live) b := fun d id s b => congrFun (app_live' d id s) b
  refine ⟨⟨fun t ht => (sy t ht).symm, fun t ht b off z hv hb => ?_, fun hap' t ht a q e hv hq => ?_⟩, ⟨sx, fun t ht b off z hv hb => ?_, fun hap' t ht a q e hv hq => ?_⟩, ?_⟩
  · rw [sy t (CO.rd_op (rdB_rd ht))] at hv
    have hUb : U b := hU.slots t _ hv
    rw [put_boxes, bxs, apE_other] at hb
    · exact hb
    · intro e he hee
      rcases eB_tgt he with h | h
      · exact hi (by rw [← h, hee]; exact hUb)
      · exact (cx _ (wx _ h)).1 t ht off (by rw [hee]; exact hv)
  · rw [sy t ht] at hv
    have hUq : U q := hU.slots t _ hv
    rw [put_live, lvs, apE_other] at hq
    · exact hq
    · intro e he hee
      rcases lx e he with h | ⟨_, h⟩
      · exact hi (by rw [← h, hee]; exact hUq)
      · have := h5 h; rw [hap'] at this; cases this
  · have hUb : U b := hU.slots t _ hv
    rw [put_boxes, bxs, apE_other]
    · exact hb
    · intro e he hee
      rcases eB_tgt he with h | h
      · exact hj (by rw [← h, hee]; exact hUb)
      · exact (cy _ (wy _ h)).1 t ht off (by rw [hee]; exact hv)
  · have hUq : U q := hU.slots t _ hv
    rw [put_live, lvs, apE_other]
    · exact hq
    · intro e he hee
      rcases ly e he with h | ⟨_, h⟩
      · exact hj (by rw [← h, hee]; exact hUq)
      · have := h5 hap'; rw [h] at this; cases this
  · have vxs : fz dy vx = vx := by
      rcases fz_shape dy vx with h | ⟨cs, b, o, ids, css, hd, hv, hb, h⟩
      · exact h
      · exfalso
        rcases hx.1.2 b o hv with ⟨rfl, _⟩ | ⟨t, ht, off, hl⟩
        · exact hi (wyU _ hb)
        · exact (cy b (wy b hb)).2 (frz_src hy (by rw [hd]; rfl)) t (CO.rd_op (ptrSrc_rd ht)) off hl
    have vys : fz dx vy = vy := by
      rcases fz_shape dx vy with h | ⟨cs, b, o, ids, css, hd, hv, hb, h⟩
      · exact h
      · exfalso
        rcases hy.1.2 b o hv with ⟨rfl, _⟩ | ⟨t, ht, off, hl⟩
        · exact hj (wxU _ hb)
        · rw [sy t (CO.rd_op (ptrSrc_rd ht))] at hl
          exact (cx b (wx b hb)).2 (frz_src hx (by rw [hd]; rfl)) t (CO.rd_op (ptrSrc_rd ht)) off hl
    refine ⟨fun t => ?_, fun b => ?_, fun q => ?_⟩
    · simp only [lk_put, app_slots']
      by_cases ex : x.dst = some t
      · have ey : y.dst ≠ some t := (h1 t ex).2
        simp [ex, ey, vxs]
      · by_cases ey : y.dst = some t
        · simp [ex, ey, vys]
        · simp only [ex, ey, if_false, Option.map_map]
          congr 1
          funext v
          exact (fz_comm hdis v).symm
    · rw [put_boxes, put_boxes, bxs, bxs]
      have e1 : (fun b => lkB b ((dx.app' i s).put x.dst vx).boxes) = apE (eB dx i) (fun b => lkB b s.boxes) := by rw [put_boxes]; exact app_boxes' dx i s
      have e2 : (fun b => lkB b ((dy.app' j s).put y.dst vy).boxes) = apE (eB dy j) (fun b => lkB b s.boxes) := by rw [put_boxes]; exact app_boxes' dy j s
      rw [e1, e2]
      refine congrFun (apE_comm (fun e he e' he' h => ?_)) b
      rcases eB_tgt he with k | k <;> rcases eB_tgt he' with k' | k'
      · exact hij (by rw [← k, ← k', h])
      · exact hi (wyU i (by rw [← k, h]; exact k'))
      · exact hj (wxU j (by rw [← k', ← h]; exact k))
      · exact hdis _ k (by rw [h]; exact k')
    · rw [put_live, put_live, lvs, lvs]
      have e1 : (fun b => lkN b ((dx.app' i s).put x.dst vx).live) = apE (eL dx i) (fun b => lkN b s.live) := by rw [put_live]; exact app_live' dx i s
      have e2 : (fun b => lkN b ((dy.app' j s).put y.dst vy).live) = apE (eL dy j) (fun b => lkN b s.live) := by rw [put_live]; exact app_live' dy j s
      rw [e1, e2]
      refine congrFun (apE_comm (fun e he e' he' h => ?_)) q
      rcases lx e he with k | ⟨k, kk⟩ <;> rcases ly e' he' with k' | ⟨k', kk'⟩
      · exact hij (by rw [← k, ← k', h])
      · exact hi (by rw [← k, h]; exact k')
      · exact hj (by rw [← k', ← h]; exact k)
      · have := h5 kk; rw [kk'] at this; cases this
end Go.Eng
