/- ENGINE, PART 17: code. -/
import Derived.Test.YtklkmmgbcmeinaaEng16
import Derived.LoopN
namespace Go.Eng
set_option linter.unnecessarySimpa false
open Go
set_option linter.unusedVariables false
set_option linter.unusedSimpArgs false

theorem lk_mem : ∀ {l : List (Nat × SV)} {t : Nat} {v : SV}, lk t l = some v → (t, v) ∈ l
  | [], t, v, h => by cases h
  | (m, u) :: r, t, v, h => by
    simp only [lk, cbeq] at h
    split at h
    · rename_i e; cases h; subst e; exact List.mem_cons_self ..
    · exact List.mem_cons_of_mem _ (lk_mem h)
theorem lkB_mem : ∀ {l : List (Nat × Box)} {t : Nat} {v : Box}, lkB t l = some v → (t, v) ∈ l
  | [], t, v, h => by cases h
  | (m, u) :: r, t, v, h => by
    simp only [lkB, cbeq] at h
    split at h
    · rename_i e; cases h; subst e; exact List.mem_cons_self ..
    · exact List.mem_cons_of_mem _ (lkB_mem h)
theorem lkN_mem : ∀ {l : List (Nat × Nat)} {t : Nat} {v : Nat}, lkN t l = some v → (t, v) ∈ l
  | [], t, v, h => by cases h
  | (m, u) :: r, t, v, h => by
    simp only [lkN, cbeq] at h
    split at h
    · rename_i e; cases h; subst e; exact List.mem_cons_self ..
    · exact List.mem_cons_of_mem _ (lkN_mem h)

theorem leSlots_mem {m : List (Nat × Nat)} {nx : Nat} {a : List (Nat × SV)} : ∀ {l : List (Nat × SV)}, leSlots m nx a l → ∀ t v, (t, v) ∈ l → ∃ u, lk t a = some u ∧ leSV m nx u v
  | [], h, t, v, hm => by cases hm
  | (t0, v0) :: r, h, t, v, hm => by
    rcases List.mem_cons.1 hm with e | e
    · cases e; exact withV_inv h.1
    · exact leSlots_mem h.2 t v e
theorem leTags_mem {m : List (Nat × Nat)} {nx : Nat} {a : List (Nat × Nat)} : ∀ {l : List (Nat × Nat)}, leTags m nx a l → ∀ o q, (o, q) ∈ l → lkN o a = some (ren m q) ∧ q < nx
  | [], h, t, v, hm => by cases hm
  | (t0, v0) :: r, h, t, v, hm => by
    rcases List.mem_cons.1 hm with e | e
    · cases e; exact h.1
    · exact leTags_mem h.2 t v e
theorem leBoxes_mem {m : List (Nat × Nat)} {nx : Nat} {a : List (Nat × Box)} : ∀ {l : List (Nat × Box)}, leBoxes m nx a l → ∀ b x, (b, x) ∈ l → ∃ y, lkB b a = some y ∧ y.cells = x.cells ∧ leTags m nx y.tags x.tags ∧ b < nx
  | [], h, t, v, hm => by cases hm
  | (t0, v0) :: r, h, t, v, hm => by
    rcases List.mem_cons.1 hm with e | e
    · cases e; obtain ⟨y, h1, h2⟩ := withV_inv h.1; exact ⟨y, h1, h2⟩
    · exact leBoxes_mem h.2 t v e
theorem leLive_mem {m : List (Nat × Nat)} {nx : Nat} {a : List (Nat × Nat)} : ∀ {l : List (Nat × Nat)}, leLive m nx a l → ∀ q e, (q, e) ∈ l → lkN (ren m q) a = some e ∧ q < nx
  | [], h, t, v, hm => by cases hm
  | (t0, v0) :: r, h, t, v, hm => by
    rcases List.mem_cons.1 hm with e | e
    · cases e; exact h.1
    · exact leLive_mem h.2 t v e

theorem nodup_inj {α : Type} {f : α → Nat} : ∀ {l : List α}, (l.map f).Nodup → ∀ x y, x ∈ l → y ∈ l → f x = f y → x = y
  | [], h, x, y, hx, hy, e => by cases hx
  | a :: l, h, x, y, hx, hy, e => by
    simp only [List.map_cons, List.nodup_cons] at h
    rcases List.mem_cons.1 hx with kx | kx <;> rcases List.mem_cons.1 hy with ky | ky
    · rw [kx, ky]
    · exact absurd (by rw [← kx, e]; exact List.mem_map_of_mem ky) h.1
    · exact absurd (by rw [← ky, ← e]; exact List.mem_map_of_mem kx) h.1
    · exact nodup_inj h.2 x y kx ky e

section
variable {P : Program} {nt : Nat} {n0 : Fen} {w0 : World} {π0 : Nat → Nat → Prop} {s s1 : S} {a : Act} {w : World}

def RelN (P : Program) (nt : Nat) (n0 : Fen) (w0 : World) (π0 : Nat → Nat → Prop) (s : S) (a : Act) (w : World) : Prop :=
  4 ≤ s.nx ∧ ∃ β τ π U, (∀ n, U n → n < s.nx) ∧ Rel P nt n0 w0 π0 U s a w β τ π

theorem Rel.le {U : Nat → Prop} {β : Nat → Nat} {τ : Nat → Value} {π : Nat → Nat → Prop} (R : Rel P nt n0 w0 π0 U s a w β τ π) (h : Le s s1) : RelN P nt n0 w0 π0 s1 a w := by
  obtain ⟨h0, m, h1, h2, h3, h4⟩ := h
  refine ⟨h0, β, fun q => τ (ren m q), π, fun n => n < s1.nx, fun n h => h, ?_⟩
  refine { size := R.size, defers := R.defers, slots := ?_, boxes := ?_, inj := ?_, live := ?_, liveInj := ?_, liveBox := ?_, below := R.below, n0le := R.n0le, prot := R.prot, prot0 := R.prot0, protOld := R.protOld, fore := R.fore, foreU := fun k hk => by show k < s1.nx; omega }
  · intro t v hv
    obtain ⟨u, hu, hle⟩ := leSlots_mem h1 t v (lk_mem hv)
    obtain ⟨⟨x, hx, hr⟩, hU⟩ := R.slots t u hu
    cases u with
    | dat au qu =>
      cases v with
      | dat av qv =>
        cases qv with
        | none =>
          have e : au = av := by cases qu <;> exact hle
          subst e
          exact ⟨⟨x, hx, hr.1, fun t ht => by cases ht⟩, trivial⟩
        | some q =>
          cases qu with
          | none => exact hle.elim
          | some q0 =>
            obtain ⟨e, e2, hq⟩ := hle
            subst e
            refine ⟨⟨x, hx, hr.1, fun t ht => ?_⟩, hq⟩
            cases ht
            show x = τ (ren m q)
            rw [← e2]; exact hr.2 q0 rfl
      | _ => cases qu <;> exact hle.elim
    | ptr b o =>
      cases v with
      | ptr b' o' =>
        obtain ⟨e1, e2, e3⟩ := hle
        subst e1 e2
        exact ⟨⟨x, hx, hr⟩, e3⟩
      | _ => exact hle.elim
    | rp cs =>
      cases v with
      | rp cs' =>
        have e : cs = cs' := hle
        subst e
        exact ⟨⟨x, hx, hr⟩, trivial⟩
      | _ => exact hle.elim
    | undef =>
      cases v with
      | undef => exact ⟨⟨x, hx, hr⟩, trivial⟩
      | _ => exact hle.elim
  · intro b x hb
    obtain ⟨y, hy, hcs, htg, hlt⟩ := leBoxes_mem h2 b x (lkB_mem hb)
    obtain ⟨_, hn, ⟨cur, el, c1, c2, c3, c4, c5⟩, hq⟩ := R.boxes b y hy
    refine ⟨hlt, hn, ⟨cur, el, c1, by rw [← hcs]; exact c2, by rw [← hcs]; exact c3, fun o q ho => ?_, c5⟩, fun o q ho => ?_⟩
    · exact c4 o _ (leTags_mem htg o q (lkN_mem ho)).1
    · exact (leTags_mem htg o q (lkN_mem ho)).2
  · intro b b' x x' hb hb' e
    obtain ⟨y, hy, _⟩ := leBoxes_mem h2 b x (lkB_mem hb)
    obtain ⟨y', hy', _⟩ := leBoxes_mem h2 b' x' (lkB_mem hb')
    exact R.inj b b' y y' hy hy' e
  · intro q e hq
    obtain ⟨h5, h6⟩ := leLive_mem h3 q e (lkN_mem hq)
    exact ⟨h6, (R.live _ e h5).2⟩
  · intro q q' e e' B hq hq' hB hB'
    have hm := lkN_mem hq
    have hm' := lkN_mem hq'
    obtain ⟨h5, _⟩ := leLive_mem h3 q e hm
    obtain ⟨h5', _⟩ := leLive_mem h3 q' e' hm'
    have := R.liveInj _ _ e e' B h5 h5' hB hB'
    have := nodup_inj h4 _ _ hm hm' this
    exact congrArg Prod.fst this
  · intro q e b x hq hb
    obtain ⟨h5, _⟩ := leLive_mem h3 q e (lkN_mem hq)
    obtain ⟨y, hy, _⟩ := leBoxes_mem h2 b x (lkB_mem hb)
    exact R.liveBox _ e b y h5 hy

theorem RelN.down (R : RelN P nt n0 w0 π0 s a w) {F : S → Prop} (h : Eng.down F s) : ∃ s', F s' ∧ RelN P nt n0 w0 π0 s' a w := by
  obtain ⟨s1, ⟨hle, hF⟩ | hF⟩ := h
  · obtain ⟨_, β, τ, π, U, hU, R⟩ := R
    exact ⟨s1, hF, R.le hle⟩
  · exact ⟨s, hF, R⟩

/-- what holds of abstract states, of the real ones -/
def Lift (P : Program) (nt : Nat) (n0 : Fen) (w0 : World) (π0 : Nat → Nat → Prop) (QA : Exit → S → Prop) (e : Exit) (a : Act) (w : World) : Prop := ∃ s, QA e s ∧ RelN P nt n0 w0 π0 s a w

theorem aw_sound (hm : P.follows .mixedOrders = true) : ∀ (c : Code) (cc : CCode), cCode P c = some cc → cc.fits nt = true → ∀ (QA : Exit → S → Prop) (s : S) (a : Act) (w : World), RelN P nt n0 w0 π0 s a w → aw (Pure P) cc QA s →
    c.wp P (Lift P nt n0 w0 π0 QA) a w := by
  intro c
  induction c with
  | skip => intro cc hc _ QA s a w R h; cases hc; exact wp_skip ⟨s, h, R⟩
  | region id ops draws =>
    intro cc hc hf QA s a w ⟨h4, β, τ, π, U, hU, R⟩ h
    simp only [cCode] at hc
    split at hc <;> try (cases hc; done)
    rename_i cos hcos
    split at hc <;> try (cases hc; done)
    rename_i hd
    cases hc
    refine region_sound hm hcos hd hf R hU h ?_
    intro s' a' w' β' τ' π' U' hU' hK R'
    exact ⟨_, hK, by show 4 ≤ s.nx + _; omega, β', τ', π', U', hU', R'.nx _⟩
  | seq x y ihx ihy =>
    intro cc hc hf QA s a w R h
    simp only [cCode] at hc
    split at hc <;> try (cases hc; done)
    rename_i cx cy hcx hcy
    have nn : ∀ (e : Exit) (G : S → Prop) (s' : S) (a' : Act) (w' : World), e ≠ .normal → athen G QA e s' → RelN P nt n0 w0 π0 s' a' w' → Exit.then (y.wp P (Lift P nt n0 w0 π0 QA)) (Lift P nt n0 w0 π0 QA) e a' w' := by
      intro e G s' a' w' hne hq R'
      cases e with
      | normal => exact absurd rfl hne
      | _ => exact ⟨s', hq, R'⟩
    cases hc
    split at h
    · rename_i hr
      rw [if_pos hr] at hf
      simp only [CCode.fits, Bool.and_eq_true] at hf
      refine wp_seq (wp_mono (ihx cx hcx hf.1 _ s a w R h) ?_)
      rintro e a' w' ⟨s', hq, R'⟩
      cases e with
      | normal => exact ihy cy hcy hf.2 QA s' a' w' R' hq
      | _ => exact nn _ _ s' a' w' (by simp) hq R'
    · rename_i hr
      rw [if_neg hr] at hf
      simp only [CCode.fits, Bool.and_eq_true] at hf
      refine wp_seq (wp_mono (ihx cx hcx hf.1 _ s a w R h) ?_)
      rintro e a' w' ⟨s', hq, R'⟩
      cases e with
      | normal =>
        obtain ⟨s2, hF, R2⟩ := R'.down hq
        exact ihy cy hcy hf.2 QA s2 a' w' R2 hF
      | _ => exact nn _ _ s' a' w' (by simp) hq R'
  | cond c x y ihx ihy =>
    intro cc hc hf QA s a w R h
    simp only [cCode] at hc
    split at hc <;> try (cases hc; done)
    rename_i c' cx cy hcc hcx hcy
    cases hc
    simp only [CCode.fits, Bool.and_eq_true] at hf
    simp only [aw] at h
    obtain ⟨v, hv, h⟩ := withV_inv h
    obtain ⟨β, τ, π, U, hU, R0⟩ := R.2
    have hd := R0.opdA hcc hv
    cases v <;> try (exact h.elim)
    rename_i t
    exact wp_cond_split hd.bool_inv (fun e => ihx cx hcx hf.1 QA s a w R (h.1 e)) (fun e => ihy cy hcy hf.2 QA s a w R (h.2 e))
  | block id c ih =>
    intro cc hc hf QA s a w R h
    simp only [cCode, Option.map_eq_some_iff] at hc
    obtain ⟨c', hc', rfl⟩ := hc
    refine wp_block (wp_mono (ih c' hc' hf _ s a w R h) ?_)
    rintro e a' w' ⟨s', hq, R'⟩
    cases e with
    | exit id' =>
      simp only [ablock] at hq
      simp only [Exit.inBlock]
      by_cases hid : id' = id
      · rw [if_pos hid] at hq ⊢; exact ⟨s', hq, R'⟩
      · rw [if_neg hid] at hq ⊢; exact ⟨s', hq, R'⟩
    | _ => exact ⟨s', hq, R'⟩
  | loop c ih =>
    intro cc hc hf QA s a w R h
    simp only [cCode, Option.map_eq_some_iff] at hc
    obtain ⟨c', hc', rfl⟩ := hc
    obtain ⟨s0, ⟨n, hn⟩, R0⟩ := R.down h
    refine wp_loop_rounds n ?_
    have key : ∀ (n : Nat) (s : S) (a : Act) (w : World), RelN P nt n0 w0 π0 s a w → ARounds (aw (Pure P) c') QA n s → Code.rounds P c (Lift P nt n0 w0 π0 QA) n a w := by
      intro n
      induction n with
      | zero => intro s a w _ h; exact h.elim
      | succ n ihn =>
        intro s a w R h
        rw [rounds_succ]
        refine wp_mono (ih c' hc' hf _ s a w R h) ?_
        rintro e a' w' ⟨s', hq, R'⟩
        cases e with
        | normal =>
          obtain ⟨s2, hF, R2⟩ := R'.down hq
          exact ihn s2 a' w' R2 hF
        | _ => exact ⟨s', hq, R'⟩
    exact key n s0 a w R0 hn
  | exit id => intro cc hc _ QA s a w R h; cases hc; exact wp_exit ⟨s, h, R⟩
  | ret => intro cc hc _ QA s a w R h; cases hc; exact wp_ret ⟨s, h, R⟩
  | _ => intro cc hc; cases hc
end
end Go.Eng
