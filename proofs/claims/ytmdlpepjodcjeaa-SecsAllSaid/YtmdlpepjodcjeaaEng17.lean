/- ENGINE, PART 17: code. -/
import Derived.Test.YtmdlpepjodcjeaaEng16
import Derived.LoopNIn
namespace Go.Eng
set_option linter.unnecessarySimpa false
open Go
open Go.RowKit (Below)
set_option linter.unusedVariables false
set_option linter.unusedSimpArgs false

theorem lk_mem : ∀ {l : List (Nat × SV)} {t : Nat} {v : SV}, lk t l = some v → (t, v) ∈ l
  | [], t, v, h => by cases h
  | (m, u) :: r, t, v, h => by
    simp only [lk, cbeq] at h
    split at h
    · rename_i e; cases h; subst e; exact List.mem_cons_self ..
    · exact List.mem_cons_of_mem _ (lk_mem h)
theorem lkB_mem : ∀ {l : List (Nat × Box)} {t : Nat} {v : Box}, lkB t l = some v → (t, v) ∈ l
  | [], t, v, h => by cases h
  | (m, u) :: r, t, v, h => by
    simp only [lkB, cbeq] at h
    split at h
    · rename_i e; cases h; subst e; exact List.mem_cons_self ..
    · exact List.mem_cons_of_mem _ (lkB_mem h)
theorem lkN_mem : ∀ {l : List (Nat × Nat)} {t : Nat} {v : Nat}, lkN t l = some v → (t, v) ∈ l
  | [], t, v, h => by cases h
  | (m, u) :: r, t, v, h => by
    simp only [lkN, cbeq] at h
    split at h
    · rename_i e; cases h; subst e; exact List.mem_cons_self ..
    · exact List.mem_cons_of_mem _ (lkN_mem h)

theorem leSlots_mem {m : List (Nat × Nat)} {nx : Nat} {a : List (Nat × SV)} : ∀ {l : List (Nat × SV)}, leSlots m nx a l → ∀ t v, (t, v) ∈ l → ∃ u, lk t a = some u ∧ leSV m nx u v
  | [], h, t, v, hm => by cases hm
  | (t0, v0) :: r, h, t, v, hm => by
    rcases List.mem_cons.1 hm with e | e
    · cases e; exact withV_inv h.1
    · exact leSlots_mem h.2 t v e
theorem leTags_mem {m : List (Nat × Nat)} {nx : Nat} {a : List (Nat × Nat)} : ∀ {l : List (Nat × Nat)}, leTags m nx a l → ∀ o q, (o, q) ∈ l → lkN o a = some (ren m q) ∧ q < nx
  | [], h, t, v, hm => by cases hm
  | (t0, v0) :: r, h, t, v, hm => by
    rcases List.mem_cons.1 hm with e | e
    · cases e; exact h.1
    · exact leTags_mem h.2 t v e
theorem leBoxes_mem {m : List (Nat × Nat)} {nx : Nat} {a : List (Nat × Box)} : ∀ {l : List (Nat × Box)}, leBoxes m nx a l → ∀ b x, (b, x) ∈ l → ∃ y, lkB b a = some y ∧ y.cells = x.cells ∧ leTags m nx y.tags x.tags ∧ b < nx
  | [], h, t, v, hm => by cases hm
  | (t0, v0) :: r, h, t, v, hm => by
    rcases List.mem_cons.1 hm with e | e
    · cases e; obtain ⟨y, h1, h2⟩ := withV_inv h.1; exact ⟨y, h1, h2⟩
    · exact leBoxes_mem h.2 t v e
theorem leLive_mem {m : List (Nat × Nat)} {nx : Nat} {a : List (Nat × Nat)} : ∀ {l : List (Nat × Nat)}, leLive m nx a l → ∀ q e, (q, e) ∈ l → lkN (ren m q) a = some e ∧ q < nx
  | [], h, t, v, hm => by cases hm
  | (t0, v0) :: r, h, t, v, hm => by
    rcases List.mem_cons.1 hm with e | e
    · cases e; exact h.1
    · exact leLive_mem h.2 t v e

theorem nodup_inj {α : Type} {f : α → Nat} : ∀ {l : List α}, (l.map f).Nodup → ∀ x y, x ∈ l → y ∈ l → f x = f y → x = y
  | [], h, x, y, hx, hy, e => by cases hx
  | a :: l, h, x, y, hx, hy, e => by
    simp only [List.map_cons, List.nodup_cons] at h
    rcases List.mem_cons.1 hx with kx | kx <;> rcases List.mem_cons.1 hy with ky | ky
    · rw [kx, ky]
    · exact absurd (by rw [← kx, e]; exact List.mem_map_of_mem ky) h.1
    · exact absurd (by rw [← ky, ← e]; exact List.mem_map_of_mem kx) h.1
    · exact nodup_inj h.2 x y kx ky e

section
variable {P : Program} {nt : Nat} {n0 : Fen} {w0 : World} {π0 : Nat → Nat → Prop} {s s1 : S} {a : Act} {w : World}

def RelN (P : Program) (nt : Nat) (n0 : Fen) (w0 : World) (π0 : Nat → Nat → Prop) (s : S) (a : Act) (w : World) : Prop :=
  4 ≤ s.nx ∧ ∃ β τ π U, (∀ n, U n → n < s.nx) ∧ Rel P nt n0 w0 π0 U s a w β τ π

theorem Rel.le {U : Nat → Prop} {β : Nat → Nat} {τ : Nat → Value} {π : Nat → Nat → Prop} (R : Rel P nt n0 w0 π0 U s a w β τ π) (h : Le s s1) : RelN P nt n0 w0 π0 s1 a w := by
  obtain ⟨h0, m, h1, h2, h3, h4⟩ := h
  refine ⟨h0, β, fun q => τ (ren m q), π, fun n => n < s1.nx, fun n h => h, ?_⟩
  refine { size := R.size, slots := ?_, boxes := ?_, inj := ?_, live := ?_, liveInj := ?_, liveBox := ?_, below := R.below, n0le := R.n0le, prot := R.prot, prot0 := R.prot0, protOld := R.protOld, fore := R.fore, foreU := fun k hk => by show k < s1.nx; omega, kept := R.kept }
  · intro t v hv
    obtain ⟨u, hu, hle⟩ := leSlots_mem h1 t v (lk_mem hv)
    obtain ⟨⟨x, hx, hr⟩, hU⟩ := R.slots t u hu
    cases u with
    | dat au qu =>
      cases v with
      | dat av qv =>
        cases qv with
        | none =>
          have e : au = av := by cases qu <;> exact hle
          subst e
          exact ⟨⟨x, hx, hr.1, fun t ht => by cases ht⟩, trivial⟩
        | some q =>
          cases qu with
          | none => exact hle.elim
          | some q0 =>
            obtain ⟨e, e2, hq⟩ := hle
            subst e
            refine ⟨⟨x, hx, hr.1, fun t ht => ?_⟩, hq⟩
            cases ht
            show x = τ (ren m q)
            rw [← e2]; exact hr.2 q0 rfl
      | _ => cases qu <;> exact hle.elim
    | ptr b o =>
      cases v with
      | ptr b' o' =>
        obtain ⟨e1, e2, e3⟩ := hle
        subst e1 e2
        exact ⟨⟨x, hx, hr⟩, e3⟩
      | _ => exact hle.elim
    | rp cs =>
      cases v with
      | rp cs' =>
        have e : cs = cs' := hle
        subst e
        exact ⟨⟨x, hx, hr⟩, trivial⟩
      | _ => exact hle.elim
    | undef =>
      cases v with
      | undef => exact ⟨⟨x, hx, hr⟩, trivial⟩
      | _ => exact hle.elim
  · intro b x hb
    obtain ⟨y, hy, hcs, htg, hlt⟩ := leBoxes_mem h2 b x (lkB_mem hb)
    obtain ⟨_, hn, ⟨cur, el, c1, c2, c3, c4, c5⟩, hq⟩ := R.boxes b y hy
    refine ⟨hlt, hn, ⟨cur, el, c1, by rw [← hcs]; exact c2, by rw [← hcs]; exact c3, fun o q ho => ?_, c5⟩, fun o q ho => ?_⟩
    · exact c4 o _ (leTags_mem htg o q (lkN_mem ho)).1
    · exact (leTags_mem htg o q (lkN_mem ho)).2
  · intro b b' x x' hb hb' e
    obtain ⟨y, hy, _⟩ := leBoxes_mem h2 b x (lkB_mem hb)
    obtain ⟨y', hy', _⟩ := leBoxes_mem h2 b' x' (lkB_mem hb')
    exact R.inj b b' y y' hy hy' e
  · intro q e hq
    obtain ⟨h5, h6⟩ := leLive_mem h3 q e (lkN_mem hq)
    exact ⟨h6, (R.live _ e h5).2⟩
  · intro q q' e e' B hq hq' hB hB'
    have hm := lkN_mem hq
    have hm' := lkN_mem hq'
    obtain ⟨h5, _⟩ := leLive_mem h3 q e hm
    obtain ⟨h5', _⟩ := leLive_mem h3 q' e' hm'
    have := R.liveInj _ _ e e' B h5 h5' hB hB'
    have := nodup_inj h4 _ _ hm hm' this
    exact congrArg Prod.fst this
  · intro q e b x hq hb
    obtain ⟨h5, _⟩ := leLive_mem h3 q e (lkN_mem hq)
    obtain ⟨y, hy, _⟩ := leBoxes_mem h2 b x (lkB_mem hb)
    exact R.liveBox _ e b y h5 hy

/-! ### another world to look back to -/
variable {U : Nat → Prop} {β : Nat → Nat} {τ : Nat → Value} {π : Nat → Nat → Prop}
theorem Rel.rew (R : Rel P nt n0 w0 π0 U s a w β τ π) {w1 : World} (hb : Blw n0 w1 w) (hn : n0.n ≤ w1.heap.size) (hk : ∀ b o, π0 b o → w.cell? ⟨b, o, none⟩ = w1.cell? ⟨b, o, none⟩) : Rel P nt n0 w1 π0 U s a w β τ π := { R with below := hb, n0le := hn, kept := hk }
theorem Rel.reb (R : Rel P nt n0 w0 π0 U s a w β τ π) : Rel P nt n0 w π0 U s a w β τ π := R.rew (.refl _ _) (Nat.le_trans R.n0le R.below.size) (fun _ _ _ => rfl)
theorem RelN.below (R : RelN P nt n0 w0 π0 s a w) : Blw n0 w0 w := let ⟨_, _, _, _, _, _, R0⟩ := R; R0.below
theorem RelN.n0le (R : RelN P nt n0 w0 π0 s a w) : n0.n ≤ w0.heap.size := let ⟨_, _, _, _, _, _, R0⟩ := R; R0.n0le
theorem RelN.rew (R : RelN P nt n0 w0 π0 s a w) {w1 : World} (hb : Blw n0 w1 w) (hn : n0.n ≤ w1.heap.size) (hk : ∀ b o, π0 b o → w.cell? ⟨b, o, none⟩ = w1.cell? ⟨b, o, none⟩) : RelN P nt n0 w1 π0 s a w := let ⟨h, β, τ, π, U, hU, R⟩ := R; ⟨h, β, τ, π, U, hU, R.rew hb hn hk⟩
theorem RelN.kept (R : RelN P nt n0 w0 π0 s a w) : ∀ b o, π0 b o → w.cell? ⟨b, o, none⟩ = w0.cell? ⟨b, o, none⟩ := let ⟨_, _, _, _, _, _, R0⟩ := R; R0.kept
/-- back to the elder protected cells -/
theorem RelN.back {π1 : Nat → Nat → Prop} {w1 : World} (R : RelN P nt n0 w1 π1 s a w) (h1 : ∀ b o, π0 b o → π1 b o) (h2 : ∀ b o, π1 b o → π0 b o ∨ n0.n ≤ b) (hb : Blw n0 w0 w) (hn : n0.n ≤ w0.heap.size) (hk : ∀ b o, π0 b o → w.cell? ⟨b, o, none⟩ = w0.cell? ⟨b, o, none⟩) : RelN P nt n0 w0 π0 s a w :=
  let ⟨h, β, τ, π, U, hU, R⟩ := R
  ⟨h, β, τ, π, U, hU, { R with below := hb, n0le := hn, kept := hk, prot0 := fun b o h => R.prot0 b o (h1 b o h), protOld := fun b o h => (R.protOld b o h).elim (h2 b o) .inr }⟩
theorem RelN.reb (R : RelN P nt n0 w0 π0 s a w) : RelN P nt n0 w π0 s a w := let ⟨h, β, τ, π, U, hU, R⟩ := R; ⟨h, β, τ, π, U, hU, R.reb⟩
theorem RelN.acts (R : RelN P nt n0 w0 π0 s a w) {a' : Act} (h : a'.tmps = a.tmps) : RelN P nt n0 w0 π0 s a' w :=
  let ⟨h4, β, τ, π, U, hU, R⟩ := R
  ⟨h4, β, τ, π, U, hU, { R with size := by rw [h]; exact R.size, slots := fun t v hv => by rw [h]; exact R.slots t v hv }⟩
/-- nothing of what was there has turned -/
theorem RelN.old (R : RelN P nt n0 w0 π0 s a w) {w' : World} (hb : Below w.heap.size w w') : RelN P nt n0 w0 π0 s a w' :=
  let ⟨h, β, τ, π, U, hU, R⟩ := R
  ⟨h, β, τ, π, U, hU, R.frame (fun _ _ => rfl) (fun _ _ => rfl) (fun _ h => h) (fun _ _ h => h) (fun _ _ h => .inl h) (fun b o h => Nat.lt_of_lt_of_le (R.prot b o h) hb.size) hb⟩

theorem cell_putObj {w : World} {l : Nat} {o o' : Obj} (h : w.heap[l]? = some o) (hc : o.isCells = false) (hc' : o'.isCells = false) (x : Addr) : (w.putObj l o').cell? x = w.cell? x := by
  have hlt := (Array.getElem?_eq_some_iff.1 h).1
  by_cases e : x.block = l
  · unfold World.cell?
    rw [e, World.putObj_heap_same hlt, h]
    cases o <;> cases o' <;> first | (cases hc; done) | (cases hc'; done) | rfl
  · exact World.cell?_of_block (World.putObj_heap_other e)
theorem Blw.putObj {n : Fen} {w w' : World} (h : Blw n w w') {l : Nat} (hl : w.heap.size ≤ l) (hn : n.n ≤ l) (o : Obj) : Blw n w (w'.putObj l o) :=
  ⟨h.os, h.tape, h.output, by simpa using h.size, fun k hk hx => (World.putObj_heap_other (by omega)).trans (h.block k hk hx), fun k x hk hx => (World.putObj_heap_other (by have := (Array.getElem?_eq_some_iff.1 hk).1; omega)).trans (h.others k x hk hx)⟩
/-- a block that is no variables' turns -/
theorem RelN.putObj (R : RelN P nt n0 w0 π0 s a w) {l : Nat} {o o' : Obj} (h : w.heap[l]? = some o) (hc : o.isCells = false) (hc' : o'.isCells = false) : RelN P nt n0 (w.putObj l o') π0 s a (w.putObj l o') := by
  obtain ⟨h4, β, τ, π, U, hU, R⟩ := R
  have hcl : ∀ b o, π b o → (w.putObj l o').cell? ⟨b, o, none⟩ = w.cell? ⟨b, o, none⟩ := fun b x _ => cell_putObj h hc hc' _
  have hoth : ∀ (B : Nat) (cur : Array Value) (el : TypeId) (f : Nat × Nat), w.heap[B]? = some (.cells cur el f) → (w.putObj l o').heap[B]? = w.heap[B]? := fun B cur el f hB => World.putObj_heap_other (fun e => by subst e; rw [h] at hB; cases hB; cases hc)
  refine ⟨h4, β, τ, π, U, hU, { R with slots := ?_, boxes := ?_, live := ?_, below := .refl _ _, n0le := ?_, prot := ?_, kept := fun _ _ _ => rfl }⟩
  · intro t v hv
    obtain ⟨⟨x, hx, hr⟩, hu⟩ := R.slots t v hv
    exact ⟨⟨x, hx, RV.mono (fun _ _ => rfl) (fun _ _ => rfl) (fun _ _ h => h) hcl hu hr⟩, hu⟩
  · intro b x hb
    obtain ⟨g1, g2, g3, g4⟩ := R.boxes b x hb
    have g3' := g3
    obtain ⟨cur, el, hh, _, _, _, hn⟩ := g3'
    exact ⟨g1, g2, g3.keep (fun _ _ => rfl) g4 (hoth _ _ _ _ hh) (fun _ _ h => h) hcl hn, g4⟩
  · intro q e hq
    obtain ⟨g1, g2⟩ := R.live q e hq
    refine ⟨g1, g2.keep (fun B hB => ?_) (fun B o _ h => h)⟩
    rcases g2 with e | ⟨B', len, cap, cur, i, e, _, hh, _⟩
    · rw [e] at hB; cases hB
    · rw [e] at hB; cases hB; exact hoth _ _ _ _ hh
  · simpa using Nat.le_trans R.n0le R.below.size
  · intro b o hb; simpa using R.prot b o hb

theorem lk_cutL {wr : List Nat} {t : Nat} : ∀ {l : List (Nat × SV)} {v : SV}, lk t (cutL wr l) = some v → ¬ t ∈ wr ∧ lk t l = some v
  | [], v, h => by cases h
  | (m, u) :: r, v, h => by
    simp only [cutL] at h
    cases hc : wr.contains m with
    | true =>
      rw [hc] at h
      obtain ⟨h1, h2⟩ := lk_cutL (l := r) h
      refine ⟨h1, ?_⟩
      have hne : ¬ t = m := fun e => h1 (by subst e; simpa using hc)
      simp only [lk, cbeq, hne, if_false]; exact h2
    | false =>
      rw [hc] at h
      simp only [cond_false, lk, cbeq] at h ⊢
      by_cases e : t = m
      · rw [if_pos e] at h ⊢
        exact ⟨fun hm => by subst e; simp at hc; exact hc hm, h⟩
      · rw [if_neg e] at h ⊢
        exact lk_cutL (l := r) h
/-- back from a round to the activation around it -/
theorem RelN.cut (R : RelN P nt n0 w0 π0 s a w) {wr : List Nat} {a1 : Act} (hk : ∀ t, ¬ t ∈ wr → a.tmps[t]? = a1.tmps[t]?) (hs : a1.tmps.size = nt) : RelN P nt n0 w0 π0 (cutS wr s) a1 w := by
  obtain ⟨h4, β, τ, π, U, hU, R⟩ := R
  refine ⟨h4, β, τ, π, U, hU, { R with size := hs, slots := fun t v hv => ?_ }⟩
  obtain ⟨h1, h2⟩ := lk_cutL hv
  rw [← hk t h1]
  exact R.slots t v h2

theorem putPs_sound : ∀ {ps : List Nat} {xs : List AV} {s : S} {t : Array Value}, (∀ p ∈ ps, p < nt) → (∀ x ∈ xs, flatV x = true) → Rel P nt n0 w0 π0 U s { tmps := t, defers := [] } w β τ π →
    Rel P nt n0 w0 π0 U (putPs ps xs s) { tmps := (ps.zip (xs.map valA)).foldl (fun t p => t.setIfInBounds p.1 p.2) t, defers := [] } w β τ π
  | [], xs, s, t, _, _, R => by cases xs <;> exact R
  | p :: ps, [], s, t, _, _, R => R
  | p :: ps, x :: xs, s, t, hp, hx, R => by
    have R1 := R.put (some p) (v := .dat x none) (x := valA x) (fun q hq => by cases hq; exact hp p List.mem_cons_self) ⟨.flat (hx x List.mem_cons_self), fun t ht => by cases ht⟩ trivial
    exact putPs_sound (ps := ps) (xs := xs) (fun q hq => hp q (List.mem_cons_of_mem _ hq)) (fun y hy => hx y (List.mem_cons_of_mem _ hy)) R1
theorem putPs_nx : ∀ {ps : List Nat} {xs : List AV} {s : S}, (putPs ps xs s).nx = s.nx
  | [], xs, s => by cases xs <;> rfl
  | p :: ps, [], s => rfl
  | p :: ps, x :: xs, s => by rw [putPs, putPs_nx]; rfl
theorem foldl_set_other : ∀ {l : List (Nat × Value)} {t : Array Value} {k : Nat}, (∀ p ∈ l, p.1 ≠ k) → (l.foldl (fun t p => t.setIfInBounds p.1 p.2) t)[k]? = t[k]?
  | [], t, k, _ => rfl
  | p :: l, t, k, h => by
    rw [List.foldl_cons, foldl_set_other (fun q hq => h q (List.mem_cons_of_mem _ hq))]
    exact Array.getElem?_setIfInBounds_ne (h p List.mem_cons_self)

/-- the record of the loop around a round -/
def Loop1 (r : Option Nat) (w : World) : Prop := ∀ l, r = some l → ∃ r₀, w.heap[l]? = some (.loop r₀)
def mkD (D : Nat) : Deferred := { target := .collected D, args := #[] }
/-- the marks of the loops over functions that have ended -/
def Marks (n0 : Fen) (a : Act) (w : World) : Prop := ∃ Ds : List Nat, a.defers = Ds.map mkD ∧ Ds.Nodup ∧ ∀ D ∈ Ds, n0.n ≤ D ∧ w.heap[D]? = some (.deferred (some []))
def RelT (P : Program) (nt : Nat) (n0 : Fen) (w0 : World) (π0 : Nat → Nat → Prop) (r : Option Nat) (T : Nat → Prop) (a0 : Array Value) (s : S) (a : Act) (w : World) : Prop :=
  RelN P nt n0 w0 π0 s a w ∧ Loop1 r w ∧ Marks n0 a w ∧ ∀ t, T t → a.tmps[t]? = a0[t]?
/-- what holds of abstract states, of the real ones -/
def Lift (P : Program) (nt : Nat) (n0 : Fen) (w0 : World) (π0 : Nat → Nat → Prop) (r : Option Nat) (T : Nat → Prop) (a0 : Array Value) (QA : Exit → S → Prop) (e : Exit) (a : Act) (w : World) : Prop := ∃ s, QA e s ∧ RelT P nt n0 w0 π0 r T a0 s a w

theorem RelN.down (R : RelN P nt n0 w0 π0 s a w) {F : S → Prop} (h : Eng.down F s) : ∃ s', F s' ∧ RelN P nt n0 w0 π0 s' a w := by
  obtain ⟨s1, ⟨hle, hF⟩ | hF⟩ := h
  · obtain ⟨_, β, τ, π, U, hU, R⟩ := R
    exact ⟨s1, hF, R.le hle⟩
  · exact ⟨s, hF, R⟩

/-- blocks that are no variables', and lie as they lay -/
def Pins (L : List (Nat × Obj)) (w : World) : Prop := ∀ p ∈ L, w.heap[p.1]? = some p.2
theorem Pins.others {L : List (Nat × Obj)} {w w' : World} (h : Pins L w) (hc : ∀ p ∈ L, p.2.isCells = false) (ho : ∀ (k : Nat) (o : Obj), w.heap[k]? = some o → o.isCells = false → w'.heap[k]? = some o) : Pins L w' :=
  fun p hp => ho _ _ (h p hp) (hc p hp)
theorem Pins.putObj {L : List (Nat × Obj)} {w : World} (h : Pins L w) {l : Nat} (hl : ∀ p ∈ L, p.1 ≠ l) (o : Obj) : Pins L (w.putObj l o) :=
  fun p hp => (World.putObj_heap_other (hl p hp)).trans (h p hp)
theorem below_others {w w' : World} (h : Below w.heap.size w w') (k : Nat) (o : Obj) (hk : w.heap[k]? = some o) : w'.heap[k]? = some o := (h.block k (Array.getElem?_eq_some_iff.1 hk).1).trans hk

theorem Loop1.others {r : Option Nat} {w w' : World} (h : Loop1 r w) (ho : ∀ (k : Nat) (o : Obj), w.heap[k]? = some o → o.isCells = false → w'.heap[k]? = some o) : Loop1 r w' :=
  fun l hl => let ⟨r₀, hr⟩ := h l hl; ⟨r₀, ho _ _ hr rfl⟩
theorem Marks.others {n0 : Fen} {a a' : Act} {w w' : World} (h : Marks n0 a w) (ha : a'.defers = a.defers) (ho : ∀ (k : Nat) (o : Obj), w.heap[k]? = some o → o.isCells = false → w'.heap[k]? = some o) : Marks n0 a' w' :=
  let ⟨Ds, h1, h2, h3⟩ := h; ⟨Ds, ha.trans h1, h2, fun D hD => ⟨(h3 D hD).1, ho _ _ (h3 D hD).2 rfl⟩⟩

/-- how a loop over a function begins -/
theorem enter_any {P : Program} {r : Option Nat} {w : World} (hr : Loop1 r w) (fn : FuncId) (tmps : Array Value) (ps : Array Tmp) (as bd : Code) :
    ∃ (l : Nat) (Ds : List Nat) (W1 : World) (dd : Nat), (Instr.enterLoop fn tmps ps as bd r).run P w = .ok (l, Ds.map mkD) W1 ∧ w.heap.size ≤ l ∧
      W1.heap[l]? = some (.loop { state := .ready, pending := none, fn, tmps, params := ps, assign := as, body := bd, defers := dd }) ∧ Below w.heap.size w W1 ∧ Ds.Nodup ∧
      ∀ D ∈ Ds, w.heap.size ≤ D ∧ D ≠ l ∧ W1.heap[D]? = some (.deferred (some [])) := by
  cases r with
  | none =>
    refine ⟨w.heap.size + 1, [w.heap.size], _, w.heap.size, run_enterLoop_outer fn tmps ps as bd, by omega, ?_, ?_, by simp, ?_⟩
    · have := World.alloc_heap_new (w.alloc (.deferred (some []))) (.loop { state := .ready, pending := none, fn, tmps, params := ps, assign := as, body := bd, defers := w.heap.size })
      rwa [World.size_alloc] at this
    · exact (((Below.refl _ w).alloc (Nat.le_refl _) _).alloc (by simp) _)
    · intro D hD
      simp only [List.mem_singleton] at hD
      subst hD
      exact ⟨Nat.le_refl _, by omega, (Below.heap_alloc _ _ _ (by simp)).trans (World.alloc_heap_new w _)⟩
  | some l₀ =>
    obtain ⟨r₀, h⟩ := hr l₀ rfl
    exact ⟨w.heap.size, [], _, r₀.defers, run_enterLoop_inner h fn tmps ps as bd, Nat.le_refl _, World.alloc_heap_new w _, (Below.refl _ w).alloc (Nat.le_refl _) _, by simp, by simp⟩

theorem DV.fn_inv {π : Nat → Nat → Prop} {gf : Nat} {caps : List AV} {v : Value} (h : DV w π (.fn (.func gf) [] caps) v) : ∃ us : Array Value, v = .func (.func gf) #[] us ∧ DVs w π caps us.toList := by
  cases h with
  | fn f as vs bs us h1 h2 h3 h4 =>
    have : vs = #[] := by simpa using h1.symm
    subst this
    exact ⟨us, rfl, by simpa using h2, fun i a v ha hv => h4 i a v ha (by simpa using hv)⟩

section
variable {nt : Nat} {n0 : Fen} {π0 : Nat → Nat → Prop} {T : Nat → Prop} {a0 : Array Value} {r : Option Nat} {n : Nat} {QA : Exit → S → Prop}
/-- A LOOP OVER A FUNCTION -/
theorem rfor_sound {g : Operand} {ps : Array Tmp} {as bd : Code} {g' : Opd} {ca cb : CCode} {wr : List Nat} (hg : cOpd g = some g') (hps : ∀ t ∈ ps.toList, t < nt ∧ t ∈ wr) (hwa : ∀ t ∈ ca.writes, t ∈ wr) (hwb : ∀ t ∈ cb.writes, t ∈ wr)
    (ihA : ∀ (π0 : Nat → Nat → Prop) (T : Nat → Prop) (a0 : Array Value), (∀ t, T t → ¬ t ∈ ca.writes) → ∀ (r : Option Nat) (n : Nat) (w0 : World) (QA : Exit → S → Prop) (s : S) (a : Act) (w : World), RelT P nt n0 w0 π0 r T a0 s a w → aw (Pure P) ca QA s → as.wpIn (FW r) n P (Lift P nt n0 w0 π0 r T a0 QA) a w)
    (ihB : ∀ (π0 : Nat → Nat → Prop) (T : Nat → Prop) (a0 : Array Value), (∀ t, T t → ¬ t ∈ cb.writes) → ∀ (r : Option Nat) (n : Nat) (w0 : World) (QA : Exit → S → Prop) (s : S) (a : Act) (w : World), RelT P nt n0 w0 π0 r T a0 s a w → aw (Pure P) cb QA s → bd.wpIn (FW r) n P (Lift P nt n0 w0 π0 r T a0 QA) a w)
    (R : RelT P nt n0 w0 π0 r T a0 s a w) (h : aw (Pure P) (.rfor g' ps.toList wr ca cb) QA s) : (Code.rangeFunc g ps as bd).wpIn (FW r) n P (Lift P nt n0 w0 π0 r T a0 QA) a w := by
  simp only [aw] at h
  obtain ⟨gv, hgv, xs, hit, hlen, F, hF0, hFg, hround, hdone⟩ := withV_inv h
  clear h
  obtain ⟨RN, RL, ⟨Ds1, hm1, hm2, hm3⟩, RK⟩ := R
  have hsize : a.tmps.size = nt := let ⟨_, _, _, _, _, _, R⟩ := RN; R.size
  obtain ⟨gf, caps, rfl, hcall, hflat, hiter⟩ := hit
  obtain ⟨s0, hs0, RN0⟩ := RN.down hF0
  obtain ⟨π1, us, hus, husd, hπ0, hπ1, hπl, RN1⟩ : ∃ (π1 : Nat → Nat → Prop) (us : Array Value), a.eval g = .func (.func gf) #[] us ∧ DVs w π1 caps us.toList ∧ (∀ b o, π0 b o → π1 b o) ∧ (∀ b o, π1 b o → π0 b o ∨ n0.n ≤ b) ∧ (∀ b o, π1 b o → b < w.heap.size) ∧ RelN P nt n0 w π1 s0 a w := by
    obtain ⟨h4, β, τ, π, U, hU, R⟩ := RN0
    obtain ⟨us, h1, h2⟩ := DV.fn_inv (R.opdA hg (hFg 0 s0 hs0))
    exact ⟨π, us, h1, h2, R.prot0, R.protOld, R.prot, h4, β, τ, π, U, hU, { R with below := .refl _ _, n0le := Nat.le_trans R.n0le R.below.size, kept := fun _ _ _ => rfl, prot0 := fun _ _ h => h, protOld := fun _ _ h => .inl h }⟩
  refine wpIn_rangeFunc ?_
  intro fn _
  obtain ⟨l, Ds0, W1, dd, hent, hl, hrec1, hb1, hnd0, hDs0⟩ := enter_any (P := P) RL fn a.tmps ps as bd
  obtain ⟨rec, hrec⟩ : ∃ rec : LoopState → Option Code → Loop, rec = fun st pe => { state := st, pending := pe, fn, tmps := a.tmps, params := ps, assign := as, body := bd, defers := dd } := ⟨_, rfl⟩
  have hrec1 : W1.heap[l]? = some (.loop (rec .ready none)) := by rw [hrec]; exact hrec1
  -- what lies pinned
  obtain ⟨L, hL⟩ : ∃ L : List (Nat × Obj), L = (Ds0 ++ Ds1).map (fun D => (D, Obj.deferred (some []))) ++ (match r with | some l₀ => (match w.heap[l₀]? with | some o => [(l₀, o)] | none => []) | none => []) := ⟨_, rfl⟩
  have hLc : ∀ p ∈ L, p.2.isCells = false := by
    intro p hp
    rw [hL, List.mem_append] at hp
    rcases hp with hp | hp
    · obtain ⟨D, _, rfl⟩ := List.mem_map.1 hp; rfl
    · cases r with
      | none => cases hp
      | some l₀ =>
        obtain ⟨r₀, hr⟩ := RL l₀ rfl
        simp only [hr, List.mem_singleton] at hp
        subst hp; rfl
  have hLl : ∀ p ∈ L, p.1 ≠ l := by
    intro p hp
    rw [hL, List.mem_append] at hp
    rcases hp with hp | hp
    · obtain ⟨D, hD, rfl⟩ := List.mem_map.1 hp
      rcases List.mem_append.1 hD with hD | hD
      · exact (hDs0 D hD).2.1
      · have := (Array.getElem?_eq_some_iff.1 (hm3 D hD).2).1
        simp only; omega
    · cases r with
      | none => cases hp
      | some l₀ =>
        obtain ⟨r₀, hr⟩ := RL l₀ rfl
        simp only [hr, List.mem_singleton] at hp
        subst hp
        have := (Array.getElem?_eq_some_iff.1 hr).1
        simp only; omega
  have hL1 : Pins L W1 := by
    intro p hp
    rw [hL, List.mem_append] at hp
    rcases hp with hp | hp
    · obtain ⟨D, hD, rfl⟩ := List.mem_map.1 hp
      rcases List.mem_append.1 hD with hD | hD
      · exact (hDs0 D hD).2.2
      · exact below_others hb1 _ _ (hm3 D hD).2
    · cases r with
      | none => cases hp
      | some l₀ =>
        obtain ⟨r₀, hr⟩ := RL l₀ rfl
        simp only [hr, List.mem_singleton] at hp
        subst hp
        exact below_others hb1 _ _ hr
  have hLloop : ∀ W, Pins L W → Loop1 r W := by
    intro W hW l₀ e
    subst e
    obtain ⟨r₀, hr⟩ := RL l₀ rfl
    exact ⟨r₀, hW (l₀, .loop r₀) (by rw [hL]; simp [hr])⟩
  have hLmarks : ∀ W, Pins L W → Marks n0 { a with defers := Ds0.map mkD ++ a.defers } W := by
    intro W hW
    refine ⟨Ds0 ++ Ds1, by simp [hm1], ?_, fun D hD => ⟨?_, hW (D, _) (by rw [hL]; exact List.mem_append_left _ (List.mem_map.2 ⟨D, hD, rfl⟩))⟩⟩
    · refine List.nodup_append.2 ⟨hnd0, hm2, fun x hx y hy e => ?_⟩
      subst e
      have h1 := (hDs0 x hx).1
      have h2 := (Array.getElem?_eq_some_iff.1 (hm3 x hy).2).1
      omega
    · rcases List.mem_append.1 hD with hD | hD
      · exact Nat.le_trans (Nat.le_trans RN.n0le RN.below.size) (hDs0 D hD).1
      · exact (hm3 D hD).1
  have hl0 : w0.heap.size ≤ l := Nat.le_trans RN.below.size hl
  have hln : n0.n ≤ l := Nat.le_trans RN.n0le hl0
  have home : ∀ (s' : S) (W2 : World), RelN P nt n0 w π1 s' a W2 → ∀ {o : Loop}, W2.heap[l]? = some (.loop o) → ∀ (o' : Loop), RelN P nt n0 w0 π0 s' a (W2.putObj l (.loop o')) := by
    intro s' W2 R' o ho o'
    refine (R'.putObj ho rfl rfl).back hπ0 hπ1 ((RN.below.trans R'.below).putObj hl0 hln _) RN.n0le fun b x hb => ?_
    rw [cell_putObj ho rfl rfl, R'.kept b x (hπ0 b x hb)]
    exact RN.kept b x hb
  refine ⟨l, Ds0.map mkD, W1, { target := .fn (.func gf) us, args := #[.func (.yield l) #[] #[]] }, W1, gf, #[.func (.yield l) #[] #[]] ++ us, W1, hent, ?_, fun _ _ => trivial, ?_, fun h => by simp [FW, Fence.wide] at h, ?_⟩
  · simp only [resolve, hus]; simp [go_sem]
  · simp [invoke, go_sem, callFunc_run hcall]
  refine callsIn_FW.2 ?_
  have := hiter l
    (fun i W => (∃ s', F i s' ∧ RelN P nt n0 w π1 s' a W) ∧ Pins L W ∧ W.heap[l]? = some (.loop (rec .ready none)))
    (fun W => ∃ c s', ((c = .ret ∧ QA .ret s') ∨ ∃ id, c = .exit id ∧ QA (.exit id) s') ∧ RelN P nt n0 w π1 s' a W ∧ Pins L W ∧ W.heap[l]? = some (.loop (rec .done (some c))))
    W1 π1 us.toList (fun b o h => Nat.lt_of_lt_of_le (hπl b o h) hb1.size) (husd.mono (fun _ _ h => h) (fun b o h => Below.cellOld hb1 (hπl b o h))) ?_ ?_ ?_ ?_ ⟨⟨s0, hs0, RN1.old hb1⟩, hL1, hrec1⟩
  · refine (by simpa using this : Calls P gf (#[.func (.yield l) #[] #[]] ++ us) W1 _).mono ?_
    rintro e W2 ⟨⟨v, rfl⟩, ⟨⟨s', hs', R'⟩, hp, hr⟩ | ⟨c, s', hq, R', hp, hr⟩⟩
    · refine ⟨none, _, by have := run_endLoop (P := P) hr (by rw [hrec]; simp); rw [hrec] at this; exact this, s', hdone s' hs', ?_⟩
      have hp2 := hp.putObj hLl (.loop { rec .ready none with state := .exhausted })
      rw [hrec] at hp2
      exact ⟨(home _ _ R' hr _).acts rfl, hLloop _ hp2, hLmarks _ hp2, RK⟩
    · refine ⟨some c, _, by have := run_endLoop (P := P) hr (by rw [hrec]; simp); rw [hrec] at this; exact this, ?_⟩
      have hp2 := hp.putObj hLl (.loop { rec .done (some c) with state := .exhausted })
      rw [hrec] at hp2
      have RT : RelT P nt n0 w0 π0 r T a0 s' { a with defers := Ds0.map mkD ++ a.defers } (W2.putObj l (.loop { rec .done (some c) with state := .exhausted })) := by
        rw [hrec]
        exact ⟨(home _ _ R' hr _).acts rfl, hLloop _ hp2, hLmarks _ hp2, RK⟩
      rw [hrec] at RT
      rcases hq with ⟨rfl, hq⟩ | ⟨id, rfl, hq⟩
      · exact wpIn_ret ⟨s', hq, RT⟩
      · exact wpIn_exit ⟨s', hq, RT⟩
  · rintro i W ⟨⟨s', hs', R'⟩, _, _⟩ b o hb
    rw [R'.kept b o hb]
    exact (Below.cellOld hb1 (hπl b o hb)).symm
  · rintro i W W' ⟨⟨s', hs', R'⟩, hp, hr⟩ hb
    exact ⟨⟨s', hs', R'.old hb⟩, hp.others hLc (fun k o hk _ => below_others hb k o hk), below_others hb _ _ hr⟩
  · rintro W W' ⟨c, s', hq, R', hp, hr⟩ hb
    exact ⟨c, s', hq, R'.old hb, hp.others hLc (fun k o hk _ => below_others hb k o hk), below_others hb _ _ hr⟩
  · rintro m i x W hx ⟨⟨s', hs', R'⟩, hp, hr⟩
    have hxl := hlen x (List.mem_of_getElem? hx)
    have hy := run_yield (P := P) (args := (x.map valA).toArray) hr (by rw [hrec]; simpa using hxl)
    rw [hrec] at hy
    refine ⟨fn, _, as, bd, hy, roundIn_of_wpIn trivial ?_⟩
    have etm : (ps.zip (x.map valA).toArray).foldl (fun tmps p => tmps.setIfInBounds p.1 p.2) a.tmps = (ps.toList.zip (x.map valA)).foldl (fun t p => t.setIfInBounds p.1 p.2) a.tmps := by
      rw [← Array.foldl_toList]; simp [Array.toList_zip]
    have RP : RelN P nt n0 W π1 (putPs ps.toList x s') { tmps := (ps.toList.zip (x.map valA)).foldl (fun t p => t.setIfInBounds p.1 p.2) a.tmps, defers := [] } W := by
      obtain ⟨h4, β, τ, π, U, hU, R2⟩ := (R'.acts (a' := { tmps := a.tmps, defers := [] }) rfl).reb
      refine ⟨by rw [putPs_nx]; exact h4, β, τ, π, U, fun k hk => by rw [putPs_nx]; exact hU k hk, ?_⟩
      exact putPs_sound (fun p hp => (hps p hp).1) (hflat x (List.mem_of_getElem? hx)) R2
    have hkeep : ∀ t, ¬ t ∈ wr → ((ps.toList.zip (x.map valA)).foldl (fun t p => t.setIfInBounds p.1 p.2) a.tmps)[t]? = a.tmps[t]? :=
      fun t ht => foldl_set_other (fun p hp e => ht (e ▸ (hps p.1 (List.of_mem_zip hp).1).2))
    have hA := ihA π1 (fun t => ¬ t ∈ wr) a.tmps (fun t ht hw => ht (hwa t hw)) (some l) m W _ _ _ _ ⟨RP, fun l' e => by cases e; exact ⟨_, hr⟩, ⟨[], rfl, .nil, by simp⟩, hkeep⟩ (hround i x s' hx hs')
    have hA : as.wpIn (Fence.wide.inRound l) m P (Lift P nt n0 W π1 (some l) (fun t => ¬ t ∈ wr) a.tmps (onlyN (aw (Pure P) cb (rfQ wr (F (i + 1)) QA)))) { tmps := (ps.zip (x.map valA).toArray).foldl (fun tmps p => tmps.setIfInBounds p.1 p.2) a.tmps, defers := [] } W := by rw [etm]; exact hA
    refine wpIn_mono hA ?_
    rintro e a₁ w₁ ⟨s1, hq1, RN2, _, hmk1, hk1⟩
    cases e <;> try exact hq1.elim
    have hr1 := RN2.below.others _ _ hr rfl
    have hp1 := hp.others hLc RN2.below.others
    refine ⟨_, run_beginRound hr1 (by rw [hrec]), ?_⟩
    have hlt1 := (Array.getElem?_eq_some_iff.1 hr1).1
    have hr2 : (w₁.putObj l (.loop { rec .ready none with state := .busy })).heap[l]? = some (.loop { rec .ready none with state := .busy }) := World.putObj_heap_same hlt1
    have hp2 := hp1.putObj hLl (.loop { rec .ready none with state := .busy })
    have RN4 := RN2.putObj hr1 rfl (o' := .loop { rec .ready none with state := .busy }) rfl
    have hmk2 : Marks n0 a₁ (w₁.putObj l (.loop { rec .ready none with state := .busy })) := by
      obtain ⟨Ds, h1, h2, h3⟩ := hmk1
      refine ⟨Ds, h1, h2, fun D hD => ⟨(h3 D hD).1, (World.putObj_heap_other (fun e => ?_)).trans (h3 D hD).2⟩⟩
      subst e
      have := (h3 D hD).2
      rw [hr1] at this; cases this
    have hbl2 : Blw n0 w (w₁.putObj l (.loop { rec .ready none with state := .busy })) := (R'.below.trans RN2.below).putObj hl hln _
    have hB := ihB π1 (fun t => ¬ t ∈ wr) a.tmps (fun t ht hw => ht (hwb t hw)) (some l) m (w₁.putObj l (.loop { rec .ready none with state := .busy })) (rfQ wr (F (i + 1)) QA) s1 a₁ _ ⟨RN4, fun l' e => by cases e; exact ⟨_, hr2⟩, hmk2, hk1⟩ hq1
    refine wpIn_mono (show bd.wpIn (Fence.wide.inRound l) m P (Lift P nt n0 (w₁.putObj l (.loop { rec .ready none with state := .busy })) π1 (some l) (fun t => ¬ t ∈ wr) a.tmps (rfQ wr (F (i + 1)) QA)) a₁ _ from hB) ?_
    rintro e a3 W3 ⟨s3, hq3, RN3, _, _, hk3⟩
    have hr3 := RN3.below.others _ _ hr2 rfl
    have hp3 := hp2.others hLc RN3.below.others
    have hbl3 := hbl2.trans RN3.below
    have fin : ∀ (jump : Option Code), (Instr.endRound l jump).run P W3 = .ok (.bool jump.isNone) (W3.putObj l (.loop (rec (if jump.isNone then .ready else .done) jump))) ∧
        (W3.putObj l (.loop (rec (if jump.isNone then .ready else .done) jump))).heap[l]? = some (.loop (rec (if jump.isNone then .ready else .done) jump)) := fun jump => by
      have := run_endRound (P := P) jump hr3
      rw [hrec] at this ⊢
      exact ⟨this, World.putObj_heap_same (Array.getElem?_eq_some_iff.1 hr3).1⟩
    have back : ∀ (s4 : S), RelN P nt n0 (w₁.putObj l (.loop { rec .ready none with state := .busy })) π1 s4 a W3 → ∀ st pe, RelN P nt n0 w π1 s4 a (W3.putObj l (.loop (rec st pe))) := fun s4 R4 st pe =>
      (R4.putObj hr3 rfl rfl).rew (hbl3.putObj hl hln _) RN1.n0le fun b o hb => by
        rw [cell_putObj hr3 rfl rfl, R4.kept b o hb, cell_putObj hr1 rfl rfl, RN2.kept b o hb, R'.kept b o hb]
    cases e with
    | normal =>
      obtain ⟨s4, hs4, R4⟩ := (RN3.cut (wr := wr) (a1 := a) hk3 hsize).down hq3
      obtain ⟨f1, f2⟩ := fin none
      exact ⟨_, _, f1, .inl ⟨rfl, ⟨s4, hs4, back s4 R4 _ _⟩, hp3.putObj hLl _, f2⟩⟩
    | ret =>
      obtain ⟨f1, f2⟩ := fin (some .ret)
      exact ⟨_, _, f1, .inr ⟨rfl, .ret, _, .inl ⟨rfl, hq3⟩, back _ (RN3.cut (wr := wr) (a1 := a) hk3 hsize) _ _, hp3.putObj hLl _, f2⟩⟩
    | exit id =>
      obtain ⟨f1, f2⟩ := fin (some (.exit id))
      exact ⟨_, _, f1, .inr ⟨rfl, .exit id, _, .inr ⟨id, rfl, hq3⟩, back _ (RN3.cut (wr := wr) (a1 := a) hk3 hsize) _ _, hp3.putObj hLl _, f2⟩⟩
    | _ => exact hq3.elim
end

theorem RelT.sub {π0 : Nat → Nat → Prop} {r : Option Nat} {T : Nat → Prop} {a0 : Array Value} (R : RelT P nt n0 w0 π0 r T a0 s a w) {a' : Act} {w' : World} {s' : S} (hp : Puts T a a') (RN : RelN P nt n0 w π0 s' a' w') : RelT P nt n0 w0 π0 r T a0 s' a' w' :=
  ⟨RN.rew (R.1.below.trans RN.below) R.1.n0le (fun b o h => (RN.kept b o h).trans (R.1.kept b o h)), R.2.1.others RN.below.others, R.2.2.1.others hp.1 RN.below.others, fun t ht => (hp.2 t ht).trans (R.2.2.2 t ht)⟩
theorem RelT.down {π0 : Nat → Nat → Prop} {r : Option Nat} {T : Nat → Prop} {a0 : Array Value} (R : RelT P nt n0 w0 π0 r T a0 s a w) {F : S → Prop} (h : Eng.down F s) : ∃ s', F s' ∧ RelT P nt n0 w0 π0 r T a0 s' a w :=
  let ⟨s', h1, h2⟩ := R.1.down h; ⟨s', h1, h2, R.2⟩

/-- where a label stands, it stands in the compiled code -/
theorem after_some : ∀ (c : Code) (cc : CCode), cCode P c = some cc → ∀ l, (findLabel c l).isSome = (cc.after l).isSome := by
  intro c
  induction c with
  | seq x y ihx ihy =>
    intro cc hc l
    simp only [cCode] at hc
    split at hc <;> try (cases hc; done)
    rename_i cx cy hcx hcy
    have hx := ihx cx hcx l
    have hy := ihy cy hcy l
    cases hc
    have key : (findLabel (.seq x y) l).isSome = (match cx.after l with | some r => some (CCode.join r cy) | none => cy.after l).isSome := by
      simp only [findLabel]
      cases h1 : findLabel x l <;> cases h2 : cx.after l <;> simp_all
    split <;> exact key
  | label l' => intro cc hc l; cases hc; simp only [findLabel, CCode.after]; split <;> rfl
  | skip => intro cc hc l; cases hc; rfl
  | region id ops draws =>
    intro cc hc l
    simp only [cCode] at hc
    split at hc <;> try (cases hc; done)
    split at hc
    · split at hc
      · split at hc <;> try (cases hc; done)
        cases hc; rfl
      · split at hc <;> try (cases hc; done)
        cases hc; rfl
    · cases hc; rfl
  | cond cd x y ihx ihy =>
    intro cc hc l
    simp only [cCode] at hc
    split at hc <;> try (cases hc; done)
    cases hc; rfl
  | block id c ih => intro cc hc l; simp only [cCode, Option.map_eq_some_iff] at hc; obtain ⟨c', hc', rfl⟩ := hc; rfl
  | loop c ih => intro cc hc l; simp only [cCode, Option.map_eq_some_iff] at hc; obtain ⟨c', hc', rfl⟩ := hc; rfl
  | exit id => intro cc hc l; cases hc; rfl
  | ret => intro cc hc l; cases hc; rfl
  | goto l' => intro cc hc l; cases hc; rfl
  | scope c ih =>
    intro cc hc l
    simp only [cCode] at hc
    split at hc <;> try (cases hc; done)
    split at hc <;> try (cases hc; done)
    simp only [Option.map_eq_some_iff] at hc
    obtain ⟨r, _, rfl⟩ := hc
    rfl
  | rangeFunc g ps as bd ihA ihB =>
    intro cc hc l
    simp only [cCode] at hc
    split at hc <;> try (cases hc; done)
    split at hc <;> try (cases hc; done)
    cases hc; rfl
  | _ => intro cc hc; cases hc

section
variable {F : Fence} {m : Nat} {Q : Exit → Act → World → Prop}
theorem stepR_scope {b : Frame} {k : List Item} {cs : List Frame} {c : Code} : step P (lone (b.atR a (.code (.scope c) :: k)) cs w) = .next (lone (b.atR a (.code c :: .inScope c :: k)) cs w) :=
  step_lone_go (by simp [stepG, stepG.exec, Frame.atR])
theorem stepR_inScope {b : Frame} {k : List Item} {cs : List Frame} {c : Code} : step P (lone (b.atR a (.inScope c :: k)) cs w) = .next (lone (b.atR a k) cs w) :=
  step_lone_go (by simp [stepG, stepG.exec, Frame.atR])
/-- A SCOPE: what is jumped to jumps no more -/
theorem wpIn_scope {c rest : Code} {l : Nat} (hf : findLabel c l = some rest) (G : Act → World → Prop)
    (h : c.wpIn F m P (fun e a w => match e with | .goto l' => l' = l ∧ G a w | e => Q e a w) a w)
    (hr : ∀ a w, G a w → rest.wpIn F m P (Exit.noGoto Q) a w) : (Code.scope c).wpIn F m P Q a w := by
  intro b k cs hro hb hroom
  have h0 : (lone (b.atR a (.code (.scope c) :: k)) cs w).fenced P F := fenced_calm hb hroom rfl
  have leave : ∀ {e : Exit} {a₁ : Act} {w₁ : World} {m1 : Machine}, StepsIn (Machine.fenced P F) P (lone (b.atR a (.code (.scope c) :: k)) cs w) m1 → (∀ l, e ≠ .goto l) → ArrivesIn (Machine.fenced P F) P m1 b (.inScope c :: k) cs e a₁ w₁ →
      ArrivesIn (Machine.fenced P F) P (lone (b.atR a (.code (.scope c) :: k)) cs w) b k cs e a₁ w₁ := by
    intro e a₁ w₁ m1 hs hne harr
    cases e with
    | normal => exact hs.trans (StepsIn.trans harr (.one (fenced_calm hb hroom rfl) stepR_inScope))
    | exit id => exact ⟨fun k' hk => hs.trans (harr.1 k' (by simpa [exitTo] using hk)), fun hr' hk => let ⟨k₁, h1, h2⟩ := harr.2 hr' (by simpa [exitTo] using hk); ⟨k₁, h1, hs.trans h2⟩⟩
    | goto l => exact absurd rfl (hne l)
    | ret => exact .of_steps hs harr
    | panic ch => exact .of_steps hs harr
    | outgrown => exact .of_steps hs harr
  have hstart : StepsIn (Machine.fenced P F) P (lone (b.atR a (.code (.scope c) :: k)) cs w) (lone (b.atR a (.code c :: .inScope c :: k)) cs w) := .one h0 stepR_scope
  obtain ⟨e, a₁, w₁, hq, harr⟩ := h b (.inScope c :: k) cs hro hb hroom
  have other : (∀ l, e ≠ .goto l) → Q e a₁ w₁ → ∃ e a' w', Q e a' w' ∧ ArrivesIn (Machine.fenced P F) P (lone (b.atR a (.code (.scope c) :: k)) cs w) b k cs e a' w' := fun hne hq => ⟨e, a₁, w₁, hq, leave hstart hne harr⟩
  cases e with
  | goto l' =>
    obtain ⟨rfl, hG⟩ := hq
    have hto := harr.1 (.code rest :: .inScope c :: k) (by simp [gotoIn, hf])
    obtain ⟨e2, a₂, w₂, hq2, harr2⟩ := hr a₁ w₁ hG b (.inScope c :: k) cs hro hb hroom
    have other2 : (∀ l, e2 ≠ .goto l) → Q e2 a₂ w₂ → ∃ e a' w', Q e a' w' ∧ ArrivesIn (Machine.fenced P F) P (lone (b.atR a (.code (.scope c) :: k)) cs w) b k cs e a' w' := fun hne hq => ⟨e2, a₂, w₂, hq, leave (hstart.trans hto) hne harr2⟩
    cases e2 with
    | goto l2 => exact hq2.elim
    | _ => exact other2 (fun l h => by cases h) hq2
  | _ => exact other (fun l h => by cases h) hq
end

def Sound (P : Program) (nt : Nat) (n0 : Fen) (c : Code) (cc : CCode) : Prop :=
  cc.fits nt = true → ∀ (π0 : Nat → Nat → Prop) (T : Nat → Prop) (a0 : Array Value), (∀ t, T t → ¬ t ∈ cc.writes) → ∀ (r : Option Nat) (n : Nat) (w0 : World) (QA : Exit → S → Prop) (s : S) (a : Act) (w : World),
    RelT P nt n0 w0 π0 r T a0 s a w → aw (Pure P) cc QA s → c.wpIn (FW r) n P (Lift P nt n0 w0 π0 r T a0 QA) a w

theorem join_sound {x y : Code} {cx cy : CCode} (hx : Sound P nt n0 x cx) (hy : Sound P nt n0 y cy) : Sound P nt n0 (.seq x y) (.join cx cy) := by
  intro hf π0 T a0 hT r n w0 QA s a w R h
  have nn : ∀ (e : Exit) (G : S → Prop) (s' : S) (a' : Act) (w' : World), e ≠ .normal → athen G QA e s' → RelT P nt n0 w0 π0 r T a0 s' a' w' → Exit.then (y.wpIn (FW r) n P (Lift P nt n0 w0 π0 r T a0 QA)) (Lift P nt n0 w0 π0 r T a0 QA) e a' w' := by
    intro e G s' a' w' hne hq R'
    cases e with
    | normal => exact absurd rfl hne
    | _ => exact ⟨s', hq, R'⟩
  simp only [CCode.fits, Bool.and_eq_true] at hf
  simp only [CCode.writes, List.mem_append, not_or] at hT
  refine wpIn_seq (wpIn_mono (hx hf.1 π0 T a0 (fun t ht => (hT t ht).1) r n w0 _ s a w R h) ?_)
  rintro e a' w' ⟨s', hq, R'⟩
  cases e with
  | normal =>
    obtain ⟨s2, hF, R2⟩ := R'.down hq
    exact hy hf.2 π0 T a0 (fun t ht => (hT t ht).2) r n w0 QA s2 a' w' R2 hF
  | _ => exact nn _ _ s' a' w' (by simp) hq R'
theorem seq_sound {x y : Code} {cx cy : CCode} (hx : Sound P nt n0 x cx) (hy : Sound P nt n0 y cy) : Sound P nt n0 (.seq x y) (.seq cx cy) := by
  intro hf π0 T a0 hT r n w0 QA s a w R h
  simp only [CCode.fits, Bool.and_eq_true] at hf
  simp only [CCode.writes, List.mem_append, not_or] at hT
  refine wpIn_seq (wpIn_mono (hx hf.1 π0 T a0 (fun t ht => (hT t ht).1) r n w0 _ s a w R h) ?_)
  rintro e a' w' ⟨s', hq, R'⟩
  cases e with
  | normal => exact hy hf.2 π0 T a0 (fun t ht => (hT t ht).2) r n w0 QA s' a' w' R' hq
  | _ => exact ⟨s', hq, R'⟩

theorem aw_sound' (hm : P.follows .mixedOrders = true) : ∀ (c : Code), (∀ cc, cCode P c = some cc → Sound P nt n0 c cc) ∧ ∀ l rest cc ccr, findLabel c l = some rest → cCode P c = some cc → cc.after l = some ccr → Sound P nt n0 rest ccr := by
  intro c
  induction c with
  | skip =>
    refine ⟨?_, fun l rest cc ccr h => by cases h⟩
    intro cc hc _ π0 T a0 _ r n w0 QA s a w R h; cases hc; exact wpIn_skip ⟨s, h, R⟩
  | region id ops draws =>
    refine ⟨?_, fun l rest cc ccr h => by cases h⟩
    intro cc hc hf π0 T a0 hT r n w0 QA s a w R h
    obtain ⟨h4, β, τ, π, U, hU, R0⟩ := R.1
    simp only [cCode] at hc
    split at hc <;> try (cases hc; done)
    rename_i cos hcos
    have fin : (draws = true → ∃ bad T, drawOk bad ops.toList cos = true ∧ badOk T cos bad = true ∧ stepsOk T s.nx 0 cos = true ∧ Rooted T s) → dstFits nt cos = true → (∀ t, T t → ¬ t ∈ dstsOf cos) →
        aops (Pure P) s.nx 0 cos (fun s' => QA .normal { s' with nx := s.nx + cos.length }) s → (Code.region id ops draws).wpIn (FW r) n P (Lift P nt n0 w0 π0 r T a0 QA) a w := by
      intro hd hf hT h
      refine region_sound (w0 := w) hm hcos hd hf R0.reb hU h (T := T) (fun d hd ht => hT d ht hd) ?_
      intro s' a' w' β' τ' π' U' hU' hK hp R'
      exact ⟨_, hK, R.sub hp ⟨by show 4 ≤ s.nx + _; omega, β', τ', π', U', hU', R'.nx _⟩⟩
    split at hc
    · split at hc
      · split at hc <;> try (cases hc; done)
        rename_i hok
        cases hc
        exact fin (fun _ => ⟨[], [], hok, rfl, stepsOk_nil, fun _ _ _ _ => rfl⟩) hf hT h
      · split at hc <;> try (cases hc; done)
        rename_i hok
        cases hc
        rw [Bool.and_eq_true] at hok
        obtain ⟨hdyn, h⟩ := h
        simp only [dynOk, dynT, Bool.and_eq_true] at hdyn
        exact fin (fun _ => ⟨_, _, hok.1, hdyn.2, hdyn.1.2, fun t b off hl => entryOk_spec hdyn.1.1 t b off hl⟩) hf hT h
    · rename_i hdr
      cases hc
      exact fin (fun e => absurd e hdr) hf hT h
  | seq x y ihx ihy =>
    refine ⟨?_, ?_⟩
    · intro cc hc
      simp only [cCode] at hc
      split at hc <;> try (cases hc; done)
      rename_i cx cy hcx hcy
      cases hc
      split
      · exact seq_sound (ihx.1 cx hcx) (ihy.1 cy hcy)
      · exact join_sound (ihx.1 cx hcx) (ihy.1 cy hcy)
    · intro l rest cc ccr hf hc ha
      simp only [cCode] at hc
      split at hc <;> try (cases hc; done)
      rename_i cx cy hcx hcy
      cases hc
      have ha' : (match cx.after l with | some r => some (CCode.join r cy) | none => cy.after l) = some ccr := by
        split at ha <;> exact ha
      have hs := after_some x cx hcx l
      simp only [findLabel] at hf
      split at hf
      · rename_i rx hrx
        cases hf
        rw [hrx] at hs
        cases hax : cx.after l with
        | none => rw [hax] at hs; cases hs
        | some cr =>
          rw [hax] at ha'
          cases ha'
          exact join_sound (ihx.2 l rx cx cr hrx hcx hax) (ihy.1 cy hcy)
      · rename_i hrx
        rw [hrx] at hs
        cases hax : cx.after l with
        | some cr => rw [hax] at hs; cases hs
        | none =>
          rw [hax] at ha'
          exact ihy.2 l rest cy ccr hf hcy ha'
  | cond cd x y ihx ihy =>
    refine ⟨?_, fun l rest cc ccr h => by cases h⟩
    intro cc hc hf π0 T a0 hT r n w0 QA s a w R h
    simp only [cCode] at hc
    split at hc <;> try (cases hc; done)
    rename_i c' cx cy hcc hcx hcy
    cases hc
    simp only [CCode.fits, Bool.and_eq_true] at hf
    simp only [CCode.writes, List.mem_append, not_or] at hT
    simp only [aw] at h
    obtain ⟨v, hv, h⟩ := withV_inv h
    obtain ⟨β, τ, π, U, hU, R0⟩ := R.1.2
    have hd := R0.opdA hcc hv
    cases v <;> try (exact h.elim)
    rename_i t
    exact wpIn_cond_split hd.bool_inv (fun e => ihx.1 cx hcx hf.1 π0 T a0 (fun t ht => (hT t ht).1) r n w0 QA s a w R (h.1 e)) (fun e => ihy.1 cy hcy hf.2 π0 T a0 (fun t ht => (hT t ht).2) r n w0 QA s a w R (h.2 e))
  | block id c ih =>
    refine ⟨?_, fun l rest cc ccr h => by cases h⟩
    intro cc hc hf π0 T a0 hT r n w0 QA s a w R h
    simp only [cCode, Option.map_eq_some_iff] at hc
    obtain ⟨c', hc', rfl⟩ := hc
    refine wpIn_block (wpIn_mono (ih.1 c' hc' hf π0 T a0 hT r n w0 _ s a w R h) ?_)
    rintro e a' w' ⟨s', hq, R'⟩
    cases e with
    | exit id' =>
      simp only [ablock] at hq
      simp only [Exit.inBlock]
      by_cases hid : id' = id
      · rw [if_pos hid] at hq ⊢; exact ⟨s', hq, R'⟩
      · rw [if_neg hid] at hq ⊢; exact ⟨s', hq, R'⟩
    | _ => exact ⟨s', hq, R'⟩
  | loop c ih =>
    refine ⟨?_, fun l rest cc ccr h => by cases h⟩
    intro cc hc hf π0 T a0 hT r n w0 QA s a w R h
    simp only [cCode, Option.map_eq_some_iff] at hc
    obtain ⟨c', hc', rfl⟩ := hc
    obtain ⟨s0, ⟨m, hn⟩, R0⟩ := R.down h
    refine wpIn_loop_rounds m ?_
    have key : ∀ (m : Nat) (s : S) (a : Act) (w : World), RelT P nt n0 w0 π0 r T a0 s a w → ARounds (aw (Pure P) c') QA m s → Code.roundsIn (FW r) n P c (Lift P nt n0 w0 π0 r T a0 QA) m a w := by
      intro m
      induction m with
      | zero => intro s a w _ h; exact h.elim
      | succ m ihn =>
        intro s a w R h
        rw [roundsIn_succ]
        refine wpIn_mono (ih.1 c' hc' hf π0 T a0 hT r n w0 _ s a w R h) ?_
        rintro e a' w' ⟨s', hq, R'⟩
        cases e with
        | normal =>
          obtain ⟨s2, hF, R2⟩ := R'.down hq
          exact ihn s2 a' w' R2 hF
        | _ => exact ⟨s', hq, R'⟩
    exact key m s0 a w R0 hn
  | exit id =>
    refine ⟨?_, fun l rest cc ccr h => by cases h⟩
    intro cc hc _ π0 T a0 _ r n w0 QA s a w R h; cases hc; exact wpIn_exit ⟨s, h, R⟩
  | ret =>
    refine ⟨?_, fun l rest cc ccr h => by cases h⟩
    intro cc hc _ π0 T a0 _ r n w0 QA s a w R h; cases hc; exact wpIn_ret ⟨s, h, R⟩
  | rangeFunc g ps as bd ihA ihB =>
    refine ⟨?_, fun l rest cc ccr h => by cases h⟩
    intro cc hc hf π0 T a0 hT r n w0 QA s a w R h
    simp only [cCode] at hc
    split at hc <;> try (cases hc; done)
    rename_i g' ca cb hg hca hcb
    split at hc <;> try (cases hc; done)
    cases hc
    simp only [CCode.fits, Bool.and_eq_true, List.all_eq_true, decide_eq_true_eq] at hf
    obtain ⟨⟨⟨⟨⟨f1, f2⟩, f3⟩, f4⟩, f5⟩, f6⟩ := hf
    exact rfor_sound hg (fun t ht => ⟨f1 t ht, by simpa using f4 t ht⟩) (fun t ht => by simpa using f5 t ht) (fun t ht => by simpa using f6 t ht) (ihA.1 ca hca f2) (ihB.1 cb hcb f3) R h
  | label l' =>
    refine ⟨?_, ?_⟩
    · intro cc hc _ π0 T a0 _ r n w0 QA s a w R h; cases hc; exact wpIn_label ⟨s, h, R⟩
    · intro l rest cc ccr hf hc ha
      cases hc
      simp only [findLabel] at hf
      split at hf <;> try (cases hf; done)
      rename_i he
      cases hf
      simp only [CCode.after, he, if_true, Option.some.injEq] at ha
      subst ha
      intro _ π0 T a0 _ r n w0 QA s a w R h
      exact wpIn_skip ⟨s, h, R⟩
  | goto l' =>
    refine ⟨?_, fun l rest cc ccr h => by cases h⟩
    intro cc hc _ π0 T a0 _ r n w0 QA s a w R h; cases hc; exact wpIn_goto ⟨s, h, R⟩
  | scope c ih =>
    refine ⟨?_, fun l rest cc ccr h => by cases h⟩
    intro cc hc hf π0 T a0 hT r n w0 QA s a w R h
    simp only [cCode] at hc
    split at hc <;> try (cases hc; done)
    rename_i c' hc'
    split at hc <;> try (cases hc; done)
    rename_i l hl
    simp only [Option.map_eq_some_iff] at hc
    obtain ⟨cr, hcr, rfl⟩ := hc
    simp only [CCode.fits, Bool.and_eq_true] at hf
    simp only [CCode.writes, List.mem_append, not_or] at hT
    have hs := after_some c c' hc' l
    rw [hcr] at hs
    cases hfl : findLabel c l with
    | none => rw [hfl] at hs; cases hs
    | some rest =>
      refine wpIn_scope hfl (Lift P nt n0 w0 π0 r T a0 (fun _ => aw (Pure P) cr (noGo QA)) .normal) (wpIn_mono (ih.1 c' hc' hf.1 π0 T a0 (fun t ht => (hT t ht).1) r n w0 _ s a w R h) ?_) ?_
      · rintro e a' w' ⟨s', hq, R'⟩
        cases e with
        | goto l' => exact ⟨hq.1, s', hq.2, R'⟩
        | _ => exact ⟨s', hq, R'⟩
      · rintro a' w' ⟨s', hq, R'⟩
        refine wpIn_mono (ih.2 l rest c' cr hfl hc' hcr hf.2 π0 T a0 (fun t ht => (hT t ht).2) r n w0 _ s' a' w' R' hq) ?_
        rintro e a2 w2 ⟨s2, hq2, R2⟩
        cases e with
        | goto l' => exact hq2.elim
        | _ => exact ⟨s2, hq2, R2⟩
  | _ => exact ⟨fun cc hc => (by cases hc), fun l rest cc ccr h => (by cases h)⟩
theorem aw_sound (hm : P.follows .mixedOrders = true) : ∀ (c : Code) (cc : CCode), cCode P c = some cc → cc.fits nt = true → ∀ (π0 : Nat → Nat → Prop) (T : Nat → Prop) (a0 : Array Value), (∀ t, T t → ¬ t ∈ cc.writes) → ∀ (r : Option Nat) (n : Nat) (w0 : World) (QA : Exit → S → Prop) (s : S) (a : Act) (w : World),
    RelT P nt n0 w0 π0 r T a0 s a w → aw (Pure P) cc QA s → c.wpIn (FW r) n P (Lift P nt n0 w0 π0 r T a0 QA) a w := fun c cc hc => (aw_sound' hm c).1 cc hc
end
end Go.Eng
