/- ENGINE, PART 10: slices that are made. -/
import Derived.Test.YtmdlpepjodcjeaaEng9
namespace Go.Eng
set_option linter.unusedSimpArgs false
set_option linter.unnecessarySimpa false
open Go
open Go.RowKit (Below)
set_option linter.unusedVariables false

theorem flat_get {α : Type} {z : Nat} : ∀ {xs : List (List α)}, (∀ r ∈ xs, r.length = z) → ∀ {i j : Nat} {r : List α} {a : α}, xs[i]? = some r → r[j]? = some a → xs.flatten[i * z + j]? = some a
  | [], h, i, j, r, a, hr, ha => by simp at hr
  | x :: xs, h, 0, j, r, a, hr, ha => by
    simp at hr; subst hr
    have hj : j < x.length := by
      rcases Nat.lt_or_ge j x.length with h' | h'
      · exact h'
      · rw [List.getElem?_eq_none h'] at ha; cases ha
    simp only [List.flatten_cons, Nat.zero_mul, Nat.zero_add]
    rw [List.getElem?_append_left hj]; exact ha
  | x :: xs, h, i + 1, j, r, a, hr, ha => by
    have hx := h x (by simp)
    have := flat_get (xs := xs) (fun r hr => h r (by simp [hr])) (by simpa using hr) ha
    simp only [List.flatten_cons]
    rw [List.getElem?_append_right (by rw [hx, Nat.add_mul]; omega)]
    rw [hx, show (i + 1) * z + j - z = i * z + j by rw [Nat.add_mul]; omega]
    exact this

theorem flat_len {α : Type} {z : Nat} : ∀ {xs : List (List α)}, (∀ r ∈ xs, r.length = z) → xs.flatten.length = xs.length * z
  | [], h => by simp
  | x :: xs, h => by
    have hx := h x (by simp)
    have := flat_len (xs := xs) (fun r hr => h r (by simp [hr]))
    simp [hx, this, Nat.add_mul]; omega

section
variable {P : Program} {nt : Nat} {n0 : Fen} {w0 : World} {π0 : Nat → Nat → Prop} {U : Nat → Prop} {s : S} {a : Act} {w : World} {β : Nat → Nat} {τ : Nat → Value} {π : Nat → Nat → Prop}

/-- cells that are protected from now on -/
def grow (π : Nat → Nat → Prop) (B m : Nat) : Nat → Nat → Prop := fun b o => π b o ∨ (b = B ∧ o < m)

/-- a new row, its first cells protected -/
theorem Rel.newRow (R : Rel P nt n0 w0 π0 U s a w β τ π) {xs : List (List AV)} {z cap : Nat} {cs : Array Value} (e : TypeId) (hrow : ∀ r ∈ xs, r.length = z) (hcap : xs.length ≤ cap) (hlen : xs.length * z ≤ cs.size)
    (hd : ∀ (i : Nat) (x : AV) (v : Value), xs.flatten[i]? = some x → cs[i]? = some v → DV w π x v) (hs : ∀ r ∈ xs, ∀ x ∈ r, x.scalar = true) :
    Rel P nt n0 w0 π0 U s a (w.alloc (.cells cs e)) β τ (grow π w.heap.size (xs.length * z)) ∧
      DV (w.alloc (.cells cs e)) (grow π w.heap.size (xs.length * z)) (.sl xs) (.slice (some ⟨w.heap.size, 0, none⟩) xs.length cap) := by
  have hbel : Below w.heap.size w (w.alloc (.cells cs e)) := (Below.refl _ _).alloc (Nat.le_refl _) _
  refine ⟨R.frame (fun _ _ => rfl) (fun _ _ => rfl) (fun _ h => h) (fun _ _ h => .inl h) (fun b o h => ?_) (fun b o h => ?_) hbel, ?_⟩
  · rcases h with h | ⟨rfl, _⟩
    · exact .inl h
    · exact .inr (Nat.le_refl _)
  · rcases h with h | ⟨rfl, _⟩
    · have := R.prot b o h; simp; omega
    · simp
  · have hmono : ∀ {x : AV} {v : Value}, DV w π x v → DV (w.alloc (.cells cs e)) (grow π w.heap.size (xs.length * z)) x v := fun h => h.mono (fun _ _ h => .inl h) (fun b o h => Below.cellOld hbel (R.prot b o h))
    have hin : ∀ (i j : Nat) (r : List AV) (x : AV), xs[i]? = some r → r[j]? = some x → i * z + j < xs.length * z := by
      intro i j r x hr hx
      have hf := flat_get hrow hr hx
      rcases Nat.lt_or_ge (i * z + j) (xs.length * z) with h' | h'
      · exact h'
      · rw [List.getElem?_eq_none (by rw [flat_len hrow]; exact h')] at hf; cases hf
    refine .sl xs w.heap.size 0 cap z (fun i j => cs.getD (i * z + j) undef) hcap (fun i r hr => hrow r (List.mem_of_getElem? hr)) (fun i j r x hr hx => hs r (List.mem_of_getElem? hr) x (List.mem_of_getElem? hx)) ?_ ?_ ?_
    · intro i j r x hr hx
      exact .inr ⟨rfl, by have := hin i j r x hr hx; omega⟩
    · intro i j r x hr hx
      have hlt := hin i j r x hr hx
      rw [cell_of_row _ _ _ cs e (0, 0) (heap_alloc_new w _)]
      have : i * z + j < cs.size := by omega
      simp [this]
    · intro i j r x hr hx
      have hlt : i * z + j < cs.size := by have := hin i j r x hr hx; omega
      have := hd (i * z + j) x cs[i * z + j] (flat_get hrow hr hx) (Array.getElem?_eq_getElem hlt)
      have hgd : cs.getD (i * z + j) undef = cs[i * z + j] := by simp [hlt]
      rw [hgd]
      exact hmono this

theorem lkN_delN {q k e : Nat} : ∀ {l : List (Nat × Nat)}, lkN q (delN k l) = some e → lkN q l = some e ∧ q ≠ k
  | [], h => by simp [delN, lkN] at h
  | (m, v) :: r, h => by
    simp only [delN] at h
    by_cases hk : k = m
    · subst hk
      simp only [beq_self_eq_true, cond_true] at h
      obtain ⟨h1, h2⟩ := lkN_delN h
      have hf : (q == k) = false := by simpa using h2
      exact ⟨by simp [lkN, hf, h1], h2⟩
    · have hf : (k == m) = false := by simpa using hk
      simp only [hf, cond_false, lkN] at h
      by_cases hq : q = m
      · subst hq
        simp at h
        exact ⟨by simp [lkN, h], fun e => hk e.symm⟩
      · have hf' : (q == m) = false := by simpa using hq
        simp only [hf', cond_false] at h
        obtain ⟨h1, h2⟩ := lkN_delN h
        exact ⟨by simp [lkN, hf', h1], h2⟩

/-- a slice becomes one that may be appended to -/
theorem Rel.addTok (R : Rel P nt n0 w0 π0 U s a w β τ π) {id e : Nat} {v : Value} (hid : ¬ U id) (ht : Tok P w π n0.n e v)
    (hl : ∀ q e' B, lkN q s.live = some e' → ownB (τ q) = some B → ownB v ≠ some B) (hb : ∀ b x, lkB b s.boxes = some x → ownB v ≠ some (β b)) :
    Rel P nt n0 w0 π0 (also U id) { s with live := (id, e) :: s.live } a w β (upd τ id v) π := by
  have hne : ∀ b, U b → b ≠ id := fun b hb e => hid (e ▸ hb)
  have R1 : Rel P nt n0 w0 π0 (also U id) s a w β (upd τ id v) π :=
    R.frame (fun _ _ => rfl) (fun b hb => upd_ne _ _ _ (hne b hb)) (fun n h => .inl h) (fun _ _ h => h) (fun _ _ h => .inl h) R.prot (Below.refl _ _)
  have hcase : ∀ {q e'}, lkN q ((id, e) :: s.live) = some e' → (q = id ∧ e' = e) ∨ (q ≠ id ∧ lkN q s.live = some e') := by
    intro q e' h
    simp only [lkN] at h
    by_cases hq : q = id
    · subst hq; simp at h; exact .inl ⟨rfl, h.symm⟩
    · have hf : (q == id) = false := by simpa using hq
      simp only [hf, cond_false] at h; exact .inr ⟨hq, h⟩
  refine ⟨R1.size, R1.slots, R1.boxes, R1.inj, fun q e' h => ?_, fun q q' e' e'' B h h' hB hB' => ?_, fun q e' b x h h' hB => ?_, R1.below, R1.n0le, R1.prot, R1.prot0, R1.protOld, R1.fore, R1.foreU, R1.kept⟩
  · rcases hcase h with ⟨rfl, rfl⟩ | ⟨_, h⟩
    · exact ⟨.inr rfl, by rw [upd_same]; exact ht⟩
    · exact R1.live q e' h
  · rcases hcase h with ⟨k1, _⟩ | ⟨hq, k⟩ <;> rcases hcase h' with ⟨k1', _⟩ | ⟨hq', k'⟩
    · rw [k1, k1']
    · rw [k1, upd_same] at hB
      rw [upd_ne _ _ _ hq'] at hB'
      exact absurd hB (hl q' e'' B k' hB')
    · rw [k1', upd_same] at hB'
      rw [upd_ne _ _ _ hq] at hB
      exact absurd hB' (hl q e' B k hB)
    · exact R1.liveInj q q' e' e'' B k k' hB hB'
  · rcases hcase h with ⟨rfl, rfl⟩ | ⟨hq, h⟩
    · rw [upd_same] at hB; exact hb b x h' hB
    · exact R1.liveBox q e' b x h h' hB

/-- a slice may no longer be appended to -/
theorem Rel.delTok (R : Rel P nt n0 w0 π0 U s a w β τ π) (q : Nat) : Rel P nt n0 w0 π0 U { s with live := delN q s.live } a w β τ π :=
  ⟨R.size, R.slots, R.boxes, R.inj, fun k e h => R.live k e (lkN_delN h).1, fun k k' e e' B h h' => R.liveInj k k' e e' B (lkN_delN h).1 (lkN_delN h').1, fun k e b x h => R.liveBox k e b x (lkN_delN h).1, R.below, R.n0le, R.prot, R.prot0, R.protOld, R.fore, R.foreU, R.kept⟩

/-- the unread end of a row is written: nothing that is known turns -/
theorem Rel.rowWrite (R : Rel P nt n0 w0 π0 U s a w β τ π) {B m : Nat} {cur cur' : Array Value} {e : TypeId} (hB : n0.n ≤ B) (hh : w.heap[B]? = some (.cells cur e (0, 0)))
    (hsame : ∀ o, π B o → cur'[o]? = cur[o]?) (hl : ∀ q e', lkN q s.live = some e' → ownB (τ q) ≠ some B) (hb : ∀ b x, lkB b s.boxes = some x → β b ≠ B) :
    Rel P nt n0 w0 π0 U s a (w.setRow B cur') β τ (grow π B m) := by
  have hlt := heap_lt hh
  have hother : ∀ k, k ≠ B → (w.setRow B cur').heap[k]? = w.heap[k]? := fun k hk => setRow_other w _ k cur' hk
  have hc : ∀ b o, π b o → (w.setRow B cur').cell? ⟨b, o, none⟩ = w.cell? ⟨b, o, none⟩ := by
    intro b o h
    by_cases e' : b = B
    · subst e'
      rw [cell_of_row _ _ _ cur' e (0, 0) (setRow_heap w _ cur _ e _ hh), cell_of_row _ _ _ cur e (0, 0) hh]
      exact hsame o h
    · exact cell_setRow_other w _ cur' ⟨b, o, none⟩ e'
  have hp : ∀ b o, π b o → grow π B m b o := fun _ _ h => .inl h
  have hp' : ∀ b o, b ≠ B → grow π B m b o → π b o := fun b o hb h => by
    rcases h with h | ⟨h, _⟩
    · exact h
    · exact absurd h hb
  refine ⟨R.size, fun t v h => ?_, fun b x h => ?_, R.inj, fun q e' h => ?_, R.liveInj, R.liveBox, R.below.trans ⟨rfl, rfl, rfl, by simp, fun k hk hx => hother k (by omega), fun k o hk ho => (hother k (fun e => by subst e; rw [hh] at hk; cases hk; cases ho)).trans hk⟩, R.n0le, fun b o h => ?_, fun b o h => hp _ _ (R.prot0 b o h), fun b o h => ?_, R.fore, R.foreU, fun b o h => (hc b o (R.prot0 b o h)).trans (R.kept b o h)⟩
  · obtain ⟨⟨x, hx, hv⟩, hu⟩ := R.slots t v h
    exact ⟨⟨x, hx, RV.mono (fun _ _ => rfl) (fun _ _ => rfl) hp hc hu hv⟩, hu⟩
  · obtain ⟨h1, h2, h3, h4⟩ := R.boxes b x h
    refine ⟨h1, h2, h3.keep (fun _ _ => rfl) h4 (hother _ (hb b x h)) hp hc (fun o ho => ?_), h4⟩
    obtain ⟨_, _, _, _, _, _, hn⟩ := h3
    exact hn o (hp' _ o (hb b x h) ho)
  · obtain ⟨h1, h2⟩ := R.live q e' h
    exact ⟨h1, h2.keep (fun C hC => hother C (fun eC => hl q e' h (by rw [hC, eC]))) (fun C o hC ho => hp' C o (fun eC => hl q e' h (by rw [hC, eC])) ho)⟩
  · rcases h with h | ⟨rfl, _⟩
    · simpa using R.prot b o h
    · simpa using hlt
  · rcases h with h | ⟨rfl, _⟩
    · exact R.protOld b o h
    · exact .inr hB

theorem Rel.draw (R : Rel P nt n0 w0 π0 U s a w β τ π) : Rel P nt n0 w0 π0 U s a w.drew β τ π :=
  R.frame (fun _ _ => rfl) (fun _ _ => rfl) (fun _ h => h) (fun _ _ h => h) (fun _ _ h => .inl h) R.prot (Below.refl _ _).drew
end
end Go.Eng
