/- ENGINE, PART 5: how the relation of states is kept. -/
import Derived.Test.YtmdlpepjodcjeaaEng4
namespace Go.Eng
set_option linter.unusedVariables false
set_option linter.unusedSimpArgs false
set_option linter.unnecessarySimpa false
open Go
open Go.RowKit (Below)

theorem Below.cellOld {n : Nat} {w w' : World} (h : Below n w w') {b o : Nat} (hb : b < n) : w'.cell? ⟨b, o, none⟩ = w.cell? ⟨b, o, none⟩ := Below.cell h (p := ⟨b, o, none⟩) hb

theorem RV.mono {β β' : Nat → Nat} {τ τ' : Nat → Value} {w w' : World} {π π' : Nat → Nat → Prop} {U : Nat → Prop} (hβ : ∀ b, U b → β' b = β b) (hτ : ∀ b, U b → τ' b = τ b)
    (hp : ∀ b o, π b o → π' b o) (hc : ∀ b o, π b o → w'.cell? ⟨b, o, none⟩ = w.cell? ⟨b, o, none⟩) {v : SV} {x : Value} (hU : v.inU U) (h : RV β τ w π v x) : RV β' τ' w' π' v x := by
  cases v with
  | dat a q =>
    refine ⟨h.1.mono hp hc, fun t ht => ?_⟩
    subst ht
    rw [hτ t hU]; exact h.2 t rfl
  | ptr b off =>
    show x = _
    rw [hβ b hU]; exact h
  | rp cs =>
    obtain ⟨B, off, f, hx, h1, h2, h3, h4⟩ := h
    exact ⟨B, off, f, hx, h1, fun j a ha => hp _ _ (h2 j a ha), fun j a ha => (hc _ _ (h2 j a ha)).trans (h3 j a ha), fun j a ha => (h4 j a ha).mono hp hc⟩
  | undef => exact h

theorem SV.inU_mono {U U' : Nat → Prop} (hU : ∀ n, U n → U' n) {v : SV} (h : v.inU U) : v.inU U' := by
  cases v with
  | dat a q => cases q with
    | none => trivial
    | some q => exact hU _ h
  | ptr b off => exact hU _ h
  | rp cs => trivial
  | undef => trivial

theorem heap_lt {w : World} {B : Nat} {o : Obj} (h : w.heap[B]? = some o) : B < w.heap.size := (Array.getElem?_eq_some_iff.1 h).1

theorem ownB_some {v : Value} {B : Nat} (h : ownB v = some B) : ∃ a l c, v = .slice (some a) l c ∧ a.block = B := by
  cases v <;> simp [ownB] at h
  rename_i a l c
  cases a with
  | none => simp at h
  | some a => exact ⟨a, l, c, rfl, by simpa using h⟩

theorem Tok.block {P : Program} {w : World} {π : Nat → Nat → Prop} {n0 e B : Nat} {v : Value} (h : Tok P w π n0 e v) (hB : ownB v = some B) :
    n0 ≤ B ∧ B < w.heap.size := by
  rcases h with rfl | ⟨B', len, cap, cur, i, rfl, h1, h2, _⟩
  · simp [ownB] at hB
  · simp [ownB] at hB; subst hB; exact ⟨h1, heap_lt h2⟩

theorem Tok.keep {P : Program} {w w' : World} {π π' : Nat → Nat → Prop} {n0 e : Nat} {v : Value} (h : Tok P w π n0 e v)
    (hb : ∀ B, ownB v = some B → w'.heap[B]? = w.heap[B]?) (hp : ∀ B o, ownB v = some B → π' B o → π B o) : Tok P w' π' n0 e v := by
  rcases h with rfl | ⟨B', len, cap, cur, i, rfl, h1, h2, h3, h4, h5, h6, h7⟩
  · exact .inl rfl
  · exact .inr ⟨B', len, cap, cur, i, rfl, h1, (hb B' rfl).trans h2, h3, h4, h5, h6, fun o ho hc => h7 o ho (hp B' o rfl hc)⟩

theorem BoxR.keep {τ τ' : Nat → Value} {w w' : World} {π π' : Nat → Nat → Prop} {U : Nat → Prop} {B : Nat} {x : Box} (h : BoxR τ w π B x) (hτ : ∀ q, U q → τ' q = τ q) (hU : ∀ o q, lkN o x.tags = some q → U q)
    (hb : w'.heap[B]? = w.heap[B]?) (hp : ∀ b o, π b o → π' b o) (hc : ∀ b o, π b o → w'.cell? ⟨b, o, none⟩ = w.cell? ⟨b, o, none⟩) (hn : ∀ o, ¬ π' B o) : BoxR τ' w' π' B x := by
  obtain ⟨cur, el, h1, h2, h3, h4, _⟩ := h
  exact ⟨cur, el, hb.trans h1, h2.mono hp hc, h3, fun o q hq => by rw [hτ q (hU o q hq)]; exact h4 o q hq, hn⟩

section
variable {P : Program} {nt : Nat} {n0 : Fen} {w0 : World} {π0 : Nat → Nat → Prop} {U U' : Nat → Prop} {s : S} {a : Act} {w w' : World} {β β' : Nat → Nat} {τ τ' : Nat → Value} {π π' : Nat → Nat → Prop}

/-- nothing of what was there has turned -/
theorem Rel.frame (R : Rel P nt n0 w0 π0 U s a w β τ π) (hβ : ∀ b, U b → β' b = β b) (hτ : ∀ b, U b → τ' b = τ b) (hU : ∀ n, U n → U' n)
    (hp : ∀ b o, π b o → π' b o) (hp' : ∀ b o, π' b o → π b o ∨ w.heap.size ≤ b) (hpl : ∀ b o, π' b o → b < w'.heap.size) (hbel : Below w.heap.size w w') :
    Rel P nt n0 w0 π0 U' s a w' β' τ' π' := by
  have hc : ∀ b o, π b o → w'.cell? ⟨b, o, none⟩ = w.cell? ⟨b, o, none⟩ := fun b o h => Below.cellOld hbel (R.prot b o h)
  have hsz : n0.n ≤ w.heap.size := Nat.le_trans R.n0le R.below.size
  refine ⟨R.size, fun t v h => ?_, fun b x h => ?_, fun b b' x x' h h' e => ?_, fun q e h => ?_, fun q q' e e' B h h' hB hB' => ?_, fun q e b x h h' hB => ?_, R.below.trans (.of hbel hsz), R.n0le, hpl, fun b o h => hp _ _ (R.prot0 b o h), fun b o h => ?_, fun k hk => by rw [hβ k (R.foreU k hk)]; exact R.fore k hk, fun k hk => hU k (R.foreU k hk), fun b o h => (hc b o (R.prot0 b o h)).trans (R.kept b o h)⟩
  · obtain ⟨⟨x, hx, hv⟩, hu⟩ := R.slots t v h
    exact ⟨⟨x, hx, RV.mono hβ hτ hp hc hu hv⟩, SV.inU_mono hU hu⟩
  · obtain ⟨h1, h2, h3, h4⟩ := R.boxes b x h
    rw [hβ b h1]
    have hlt : β b < w.heap.size := by obtain ⟨cur, el, hh, _⟩ := h3; exact heap_lt hh
    refine ⟨hU b h1, h2, h3.keep hτ h4 (hbel.block _ hlt) hp hc (fun o ho => ?_), fun o q hq => hU _ (h4 o q hq)⟩
    rcases hp' _ _ ho with h | h
    · obtain ⟨_, _, _, _, _, _, hn⟩ := h3; exact hn o h
    · omega
  · rw [hβ b (R.boxes b x h).1, hβ b' (R.boxes b' x' h').1] at e
    exact R.inj b b' x x' h h' e
  · obtain ⟨h1, h2⟩ := R.live q e h
    rw [hτ q h1]
    refine ⟨hU q h1, h2.keep (fun B hB => hbel.block _ (h2.block hB).2) (fun B o hB ho => ?_)⟩
    rcases hp' _ _ ho with h | h
    · exact h
    · have := (h2.block hB).2; omega
  · rw [hτ q (R.live q e h).1] at hB
    rw [hτ q' (R.live q' e' h').1] at hB'
    exact R.liveInj q q' e e' B h h' hB hB'
  · rw [hτ q (R.live q e h).1, hβ b (R.boxes b x h').1] at hB
    exact R.liveBox q e b x h h' hB
  · rcases hp' b o h with h | h
    · exact R.protOld b o h
    · exact .inr (by omega)

theorem Rel.sub (R : Rel P nt n0 w0 π0 U s a w β τ π) (hU : ∀ n, U n → U' n) : Rel P nt n0 w0 π0 U' s a w β τ π :=
  R.frame (fun _ _ => rfl) (fun _ _ => rfl) hU (fun _ _ h => h) (fun _ _ h => .inl h) R.prot (Below.refl _ _)

/-- a slot is written -/
theorem Rel.put (R : Rel P nt n0 w0 π0 U s a w β τ π) (d : Option Nat) {v : SV} {x : Value} (hd : ∀ t, d = some t → t < nt) (hv : RV β τ w π v x) (hu : v.inU U) : Rel P nt n0 w0 π0 U (s.put d v) (a.put d x) w β τ π := by
  cases d with
  | none => exact R
  | some d =>
    refine ⟨by simp [Act.put, R.size], fun t u h => ?_, R.boxes, R.inj, R.live, R.liveInj, R.liveBox, R.below, R.n0le, R.prot, R.prot0, R.protOld, R.fore, R.foreU, R.kept⟩
    simp only [S.put, lk] at h
    by_cases e : t = d
    · subst e
      simp at h
      subst h
      exact ⟨⟨x, by simp [Act.put, R.size, hd t rfl], hv⟩, hu⟩
    · have : (t == d) = false := by simpa using e
      simp only [this, cond_false] at h
      obtain ⟨⟨y, hy, hr⟩, hu'⟩ := R.slots t u h
      exact ⟨⟨y, by simp [Act.put, Array.getElem?_setIfInBounds_ne (Ne.symm e), hy], hr⟩, hu'⟩

theorem Rel.opd (R : Rel P nt n0 w0 π0 U s a w β τ π) {X : Operand} {x : Opd} {v : SV} (hx : cOpd X = some x) (hv : opd s x = some v) : RV β τ w π v (a.eval X) ∧ v.inU U := by
  cases X with
  | tmp t =>
    simp [cOpd] at hx; subst hx
    obtain ⟨⟨y, hy, hr⟩, hu⟩ := R.slots t v hv
    refine ⟨?_, hu⟩
    have : a.eval (.tmp t) = y := by simp [Act.eval, hy]
    rw [this]; exact hr
  | const c =>
    simp only [cOpd, Option.map_eq_some_iff] at hx
    obtain ⟨k, hk, rfl⟩ := hx
    simp [Eng.opd] at hv; subst hv
    exact ⟨⟨ofV_DV hk, fun t ht => by cases ht⟩, trivial⟩
  | global g => simp [cOpd] at hx
  | func f =>
    simp [cOpd] at hx; subst hx
    simp [Eng.opd] at hv; subst hv
    refine ⟨⟨?_, fun t ht => by cases ht⟩, trivial⟩
    exact .fn (.func f) [] #[] [] #[] rfl rfl (fun i a v h => by simp at h) (fun i a v h => by simp at h)

theorem RV.ref {β : Nat → Nat} {τ : Nat → Value} {w : World} {π : Nat → Nat → Prop} {cs : List AV} {v : Value} : RV β τ w π (.rp cs) v ↔ DV w π (.ref cs) v := by
  constructor
  · rintro ⟨B, off, f, rfl, h1, h2, h3, h4⟩
    exact .ref cs B off f h1 h2 h3 h4
  · intro h
    cases h with
    | ref _ B off f h1 h2 h3 h4 => exact ⟨B, off, f, rfl, h1, h2, h3, h4⟩

theorem Rel.opdA (R : Rel P nt n0 w0 π0 U s a w β τ π) {X : Operand} {x : Opd} {v : AV} (hx : cOpd X = some x) (hv : Eng.opdA s x = some v) : DV w π v (a.eval X) := by
  unfold Eng.opdA at hv
  split at hv
  · rename_i b q ho
    cases hv
    exact (R.opd hx ho).1.1
  · rename_i cs ho
    cases hv
    exact RV.ref.1 (R.opd hx ho).1
  · cases hv

theorem Rel.opdsA (R : Rel P nt n0 w0 π0 U s a w β τ π) : ∀ {Xs : List Operand} {xs : List Opd} {vs : List AV}, Xs.mapM cOpd = some xs → Eng.opdsA s xs = some vs → DVs w π vs (Xs.map a.eval)
  | [], xs, vs, hx, hv => by
    simp at hx; subst hx
    simp [Eng.opdsA] at hv; subst hv
    exact .nil _ _
  | X :: Xs, xs, vs, hx, hv => by
    simp only [List.mapM_cons, Option.bind_eq_bind, Option.bind_eq_some_iff, Option.pure_def, Option.some.injEq] at hx
    obtain ⟨x, hx, xs', hxs, rfl⟩ := hx
    simp only [Eng.opdsA] at hv
    split at hv
    · rename_i a' as h1 h2
      cases hv
      exact .cons (R.opdA hx h1) (R.opdsA hxs h2)
    · cases hv

def upd {α : Type} (f : Nat → α) (n : Nat) (x : α) : Nat → α := fun m => if m = n then x else f m
theorem upd_same {α : Type} (f : Nat → α) (n : Nat) (x : α) : upd f n x n = x := by simp [upd]
theorem upd_ne {α : Type} (f : Nat → α) (n : Nat) (x : α) {m : Nat} (h : m ≠ n) : upd f n x m = f m := by simp [upd, h]
def also (U : Nat → Prop) (n : Nat) : Nat → Prop := fun m => U m ∨ m = n

/-- a new block for a variable -/
theorem Rel.newBox (R : Rel P nt n0 w0 π0 U s a w β τ π) {id : Nat} (hid : ¬ U id) {cells : List AV} {cs : Array Value} (e : TypeId) (hd : DVs w π cells cs.toList) (hs : ∀ a ∈ cells, a.scalar = true) :
    Rel P nt n0 w0 π0 (also U id) { s with boxes := (id, ⟨cells, []⟩) :: s.boxes } a (w.alloc (.cells cs e)) (upd β id w.heap.size) τ π := by
  have hne : ∀ b, U b → b ≠ id := fun b hb e => hid (e ▸ hb)
  have hbel : Below w.heap.size w (w.alloc (.cells cs e)) := (Below.refl _ _).alloc (Nat.le_refl _) _
  have R1 : Rel P nt n0 w0 π0 (also U id) s a (w.alloc (.cells cs e)) (upd β id w.heap.size) τ π :=
    R.frame (fun b hb => upd_ne _ _ _ (hne b hb)) (fun _ _ => rfl) (fun n h => .inl h) (fun _ _ h => h) (fun _ _ h => .inl h) (fun b o h => by have := R.prot b o h; simp; omega) hbel
  have hsz : n0.n ≤ w.heap.size := Nat.le_trans R.n0le R.below.size
  have hold : ∀ b x, lkB b s.boxes = some x → upd β id w.heap.size b ≠ w.heap.size := fun b x h => by
    obtain ⟨h1, _, ⟨cur, el, hh, _⟩, _⟩ := R.boxes b x h
    rw [upd_ne _ _ _ (hne b h1)]
    have := heap_lt hh
    omega
  refine ⟨R1.size, R1.slots, fun b x h => ?_, fun b b' x x' h h' e => ?_, R1.live, R1.liveInj, fun q e' b x h h' hB => ?_, R1.below, R1.n0le, R1.prot, R1.prot0, R1.protOld, R1.fore, R1.foreU, R1.kept⟩
  · simp only [lkB] at h
    by_cases hb : b = id
    · subst hb
      simp at h
      subst h
      refine ⟨.inr rfl, by rw [upd_same]; exact .inl hsz, ?_, fun o q h => by simp [lkN] at h⟩
      rw [upd_same]
      refine ⟨cs, e, heap_alloc_new w _, hd.mono (fun _ _ h => h) (fun b o h => Below.cellOld hbel (R.prot b o h)), hs, fun o q h => by simp [lkN] at h, fun o h => ?_⟩
      have := R.prot _ _ h; omega
    · have : (b == id) = false := by simpa using hb
      simp only [this, cond_false] at h
      exact R1.boxes b x h
  · simp only [lkB] at h h'
    by_cases hb : b = id
    · by_cases hb' : b' = id
      · rw [hb, hb']
      · have hf : (b' == id) = false := by simpa using hb'
        simp only [hf, cond_false] at h'
        subst hb
        rw [upd_same] at e
        exact absurd e.symm (hold b' x' h')
    · have hf : (b == id) = false := by simpa using hb
      simp only [hf, cond_false] at h
      by_cases hb' : b' = id
      · subst hb'
        rw [upd_same] at e
        exact absurd e (hold b x h)
      · have hf' : (b' == id) = false := by simpa using hb'
        simp only [hf', cond_false] at h'
        exact R1.inj b b' x x' h h' e
  · simp only [lkB] at h'
    by_cases hb : b = id
    · subst hb
      rw [upd_same] at hB
      have := ((R.live q e' h).2.block hB).2
      omega
    · have hf : (b == id) = false := by simpa using hb
      simp only [hf, cond_false] at h'
      exact R1.liveBox q e' b x h h' hB

theorem lkB_setB {n m : Nat} {b : Box} : ∀ {l : List (Nat × Box)} {x : Box}, lkB n (setB m b l) = some x → (n = m ∧ x = b ∧ ∃ y, lkB m l = some y) ∨ (n ≠ m ∧ lkB n l = some x)
  | [], x, h => by simp [setB, lkB] at h
  | (k, v) :: r, x, h => by
    simp only [setB] at h
    by_cases hk : m = k
    · subst hk
      simp only [beq_self_eq_true, cond_true, lkB] at h
      by_cases hn : n = m
      · subst hn
        simp at h
        exact .inl ⟨rfl, h.symm, v, by simp [lkB]⟩
      · have hf : (n == m) = false := by simpa using hn
        simp only [hf, cond_false] at h
        exact .inr ⟨hn, by simp [lkB, hf, h]⟩
    · have hf : (m == k) = false := by simpa using hk
      simp only [hf, cond_false, lkB] at h
      by_cases hn : n = k
      · subst hn
        simp at h
        exact .inr ⟨fun e => hk e.symm, by simp [lkB, h]⟩
      · have hf' : (n == k) = false := by simpa using hn
        simp only [hf', cond_false] at h
        rcases lkB_setB h with ⟨h1, h2, y, h3⟩ | ⟨h1, h2⟩
        · exact .inl ⟨h1, h2, y, by simp [lkB, hf, h3]⟩
        · exact .inr ⟨h1, by simp [lkB, hf', h2]⟩

/-- a store into a variable's block -/
theorem Rel.setBox (R : Rel P nt n0 w0 π0 U s a w β τ π) {b : Nat} {x y : Box} (hb : lkB b s.boxes = some x) {cur cur' : Array Value} {el : TypeId}
    (hh : w.heap[β b]? = some (.cells cur el (0, 0))) (hd : DVs w π y.cells cur'.toList) (hs : ∀ a ∈ y.cells, a.scalar = true)
    (ht : ∀ o q, lkN o y.tags = some q → cur'[o]? = some (τ q) ∧ U q) :
    Rel P nt n0 w0 π0 U { s with boxes := setB b y s.boxes } a (w.setRow (β b) cur') β τ π := by
  obtain ⟨hUb, hn0, ⟨_, _, hh', _, _, _, hnp⟩, _⟩ := R.boxes b x hb
  have hsz : n0.n ≤ w.heap.size := Nat.le_trans R.n0le R.below.size
  have hother : ∀ k, k ≠ β b → (w.setRow (β b) cur').heap[k]? = w.heap[k]? := fun k hk => setRow_other w _ k cur' hk
  have hc : ∀ B o, π B o → (w.setRow (β b) cur').cell? ⟨B, o, none⟩ = w.cell? ⟨B, o, none⟩ := fun B o h => cell_setRow_other w _ cur' ⟨B, o, none⟩ (fun e => hnp o (by simpa [← e] using h))
  have hbel : Blw n0 w (w.setRow (β b) cur') := ⟨rfl, rfl, rfl, by simp, fun k hk hx => hother k (fun e => by subst e; rcases hn0 with h | h; exact absurd h (by omega); exact hx h.2), fun k o hk ho => (hother k (fun e => by subst e; rw [hh] at hk; cases hk; cases ho)).trans hk⟩
  refine ⟨R.size, fun t v h => ?_, fun c z h => ?_, fun c c' z z' h h' e => ?_, fun q e h => ?_, R.liveInj, fun q e c z h h' hB => ?_, R.below.trans hbel, R.n0le, fun B o h => by simpa using R.prot B o h, R.prot0, R.protOld, R.fore, R.foreU, fun b o h => (hc b o (R.prot0 b o h)).trans (R.kept b o h)⟩
  · obtain ⟨⟨z, hz, hv⟩, hu⟩ := R.slots t v h
    exact ⟨⟨z, hz, RV.mono (fun _ _ => rfl) (fun _ _ => rfl) (fun _ _ h => h) hc hu hv⟩, hu⟩
  · rcases lkB_setB h with ⟨rfl, rfl, _⟩ | ⟨hne, h⟩
    · exact ⟨hUb, hn0, ⟨cur', el, setRow_heap w _ cur _ el _ hh, hd.mono (fun _ _ h => h) hc, hs, fun o q hq => (ht o q hq).1, hnp⟩, fun o q hq => (ht o q hq).2⟩
    · obtain ⟨h1, h2, h3, h4⟩ := R.boxes c z h
      refine ⟨h1, h2, h3.keep (fun _ _ => rfl) h4 (hother _ (fun e => hne (R.inj c b z x h hb e))) (fun _ _ h => h) hc ?_, h4⟩
      obtain ⟨_, _, _, _, _, _, hn⟩ := h3; exact hn
  · have : ∃ u, lkB c s.boxes = some u := by
      rcases lkB_setB h with ⟨rfl, _, _⟩ | ⟨_, h⟩
      · exact ⟨x, hb⟩
      · exact ⟨z, h⟩
    have k' : ∃ u, lkB c' s.boxes = some u := by
      rcases lkB_setB h' with ⟨rfl, _, _⟩ | ⟨_, h⟩
      · exact ⟨x, hb⟩
      · exact ⟨z', h⟩
    obtain ⟨u, hu⟩ := this
    obtain ⟨u', hu'⟩ := k'
    exact R.inj c c' u u' hu hu' e
  · obtain ⟨h1, h2⟩ := R.live q e h
    exact ⟨h1, h2.keep (fun B hB => hother B (fun eB => R.liveBox q e b x h hb (by rw [hB, eB]))) (fun B o _ h => h)⟩
  · have : ∃ u, lkB c s.boxes = some u := by
      rcases lkB_setB h' with ⟨rfl, _, _⟩ | ⟨_, h⟩
      · exact ⟨x, hb⟩
      · exact ⟨z, h⟩
    obtain ⟨u, hu⟩ := this
    exact R.liveBox q e c u h hu hB
end
end Go.Eng
