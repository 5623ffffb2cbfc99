/- ENGINE, PART 14: what an operation looks at, and what it leaves. -/
import Derived.Test.YtmdlpepjodcjeaaEng13
namespace Go.Eng
set_option linter.unnecessarySimpa false
open Go
set_option linter.unusedVariables false
set_option linter.unusedSimpArgs false

/-- s2 answers as s does, to one that looks at l -/
structure Agr (l lb : List Nat) (ap : Bool) (s s2 : S) : Prop where
  slots : ∀ t ∈ l, lk t s2.slots = lk t s.slots
  boxes : ∀ t ∈ lb, ∀ b off x, lk t s.slots = some (.ptr b off) → lkB b s.boxes = some x → lkB b s2.boxes = some x
  live : ap = true → ∀ t ∈ l, ∀ a q e, lk t s.slots = some (.dat a (some q)) → lkN q s.live = some e → lkN q s2.live = some e

section
variable {l lb : List Nat} {ap : Bool} {s s2 : S}
theorem Agr.sub (h : Agr l lb ap s s2) {l' : List Nat} (hs : ∀ t ∈ l', t ∈ l) : Agr l' lb ap s s2 :=
  ⟨fun t ht => h.slots t (hs t ht), h.boxes, fun e t ht => h.live e t (hs t ht)⟩
theorem Agr.opd (h : Agr l lb ap s s2) {x : Opd} (hx : ∀ t ∈ x.rd, t ∈ l) {v : SV} (hv : Eng.opd s x = some v) : Eng.opd s2 x = some v := by
  cases x with
  | t n => simp only [Eng.opd] at hv ⊢; rw [h.slots n (hx n (by simp [Opd.rd])), hv]
  | k v => exact hv
theorem Agr.opdA (h : Agr l lb ap s s2) {x : Opd} (hx : ∀ t ∈ x.rd, t ∈ l) {v : AV} (hv : Eng.opdA s x = some v) : Eng.opdA s2 x = some v := by
  unfold Eng.opdA at hv ⊢
  cases ho : Eng.opd s x with
  | none => rw [ho] at hv; cases hv
  | some u => rw [h.opd hx ho]; rw [ho] at hv; exact hv
theorem Agr.opdsA (h : Agr l lb ap s s2) : ∀ {xs : List Opd} (hx : ∀ t ∈ opdsRd xs, t ∈ l) {vs : List AV} (hv : Eng.opdsA s xs = some vs), Eng.opdsA s2 xs = some vs
  | [], _, vs, hv => hv
  | x :: xs, hx, vs, hv => by
    simp only [Eng.opdsA] at hv ⊢
    cases h1 : Eng.opdA s x with
    | none => simp [h1] at hv
    | some a =>
      cases h2 : Eng.opdsA s xs with
      | none => simp [h1, h2] at hv
      | some as =>
        rw [h.opdA (fun t ht => hx t (by simp [opdsRd, ht])) h1, h.opdsA (fun t ht => hx t (by simp [opdsRd, ht])) h2]
        simpa [h1, h2] using hv
theorem Agr.partsA (h : Agr l lb ap s s2) : ∀ {xs : List (Nat × Nat × Opd)} (hx : ∀ t ∈ partsRd xs, t ∈ l) {vs : List (Nat × List AV)} (hv : Eng.partsA s xs = some vs), Eng.partsA s2 xs = some vs
  | [], _, vs, hv => hv
  | (o, z, x) :: xs, hx, vs, hv => by
    simp only [Eng.partsA] at hv ⊢
    cases h1 : Eng.opdA s x with
    | none => simp [h1] at hv
    | some a =>
      cases h2 : Eng.partsA s xs with
      | none => simp [h1, h2] at hv
      | some as =>
        rw [h.opdA (fun t ht => hx t (by simp [partsRd, ht])) h1, h.partsA (fun t ht => hx t (by simp [partsRd, ht])) h2]
        simpa only [h1, h2] using hv
theorem Agr.rowsA (h : Agr l lb ap s s2) {z : Nat} : ∀ {xs : List Opd} (hx : ∀ t ∈ opdsRd xs, t ∈ l) {vs : List (List AV)} (hv : Eng.rowsA s z xs = some vs), Eng.rowsA s2 z xs = some vs
  | [], _, vs, hv => hv
  | x :: xs, hx, vs, hv => by
    simp only [Eng.rowsA] at hv ⊢
    cases h1 : Eng.opdA s x with
    | none => simp [h1] at hv
    | some a =>
      cases h2 : Eng.rowsA s z xs with
      | none => simp [h1, h2] at hv
      | some as =>
        rw [h.opdA (fun t ht => hx t (by simp [opdsRd, ht])) h1, h.rowsA (fun t ht => hx t (by simp [opdsRd, ht])) h2]
        simpa only [h1, h2] using hv
theorem Agr.bndL (h : Agr l lb ap s s2) {x : Option Opd} (hx : ∀ t ∈ optRd x, t ∈ l) {i : Int} (hv : Eng.bndL s x = some i) : Eng.bndL s2 x = some i := by
  cases x with
  | none => exact hv
  | some x =>
    simp only [Eng.bndL] at hv ⊢
    cases h1 : Eng.opdA s x with
    | none => simp [h1, Eng.idxO] at hv
    | some a => rw [h.opdA hx h1]; rw [h1] at hv; exact hv
theorem Agr.bndH (h : Agr l lb ap s s2) {xs : List (List AV)} {x : Option Opd} (hx : ∀ t ∈ optRd x, t ∈ l) {i : Int} (hv : Eng.bndH s xs x = some i) : Eng.bndH s2 xs x = some i := by
  cases x with
  | none => exact hv
  | some x =>
    simp only [Eng.bndH] at hv ⊢
    cases h1 : Eng.opdA s x with
    | none => simp [h1, Eng.idxO] at hv
    | some a => rw [h.opdA hx h1]; rw [h1] at hv; exact hv
theorem Agr.cellsA (h : Agr l lb ap s s2) : ∀ {xs : List Opd} (hx : ∀ t ∈ opdsRd xs, t ∈ l) (hx' : ∀ t ∈ opdsRd xs, t ∈ lb) {p : List (Option AV) × List Nat} (hv : Eng.svsA s xs = some p) {css : List (List AV)} (hc : Eng.cellsA s.boxes p.2 = some css), Eng.svsA s2 xs = some p ∧ Eng.cellsA s2.boxes p.2 = some css
  | [], _, _, p, hv, css, hc => by
    simp only [Eng.svsA, Option.some.injEq] at hv ⊢
    subst hv
    exact ⟨rfl, hc⟩
  | x :: xs, hx, hx', p, hv, css, hc => by
    simp only [Eng.svsA] at hv ⊢
    split at hv <;> try (cases hv; done)
    · rename_i a q as bs h1 h2
      cases hv
      obtain ⟨i1, i2⟩ := h.cellsA (fun t ht => hx t (by simp [opdsRd, ht])) (fun t ht => hx' t (by simp [opdsRd, ht])) h2 hc
      rw [h.opd (fun t ht => hx t (by simp [opdsRd, ht])) h1, i1]
      exact ⟨rfl, i2⟩
    · rename_i cs as bs h1 h2
      cases hv
      obtain ⟨i1, i2⟩ := h.cellsA (fun t ht => hx t (by simp [opdsRd, ht])) (fun t ht => hx' t (by simp [opdsRd, ht])) h2 hc
      rw [h.opd (fun t ht => hx t (by simp [opdsRd, ht])) h1, i1]
      exact ⟨rfl, i2⟩
    · rename_i b as bs h1 h2
      cases hv
      simp only [Eng.cellsA] at hc
      split at hc <;> try (cases hc; done)
      rename_i y css' hy hcs
      cases hc
      obtain ⟨i1, i2⟩ := h.cellsA (fun t ht => hx t (by simp [opdsRd, ht])) (fun t ht => hx' t (by simp [opdsRd, ht])) h2 hcs
      rw [h.opd (fun t ht => hx t (by simp [opdsRd, ht])) h1, i1]
      refine ⟨rfl, ?_⟩
      have hyb : Eng.lkB b s2.boxes = some y := by
        cases x with
        | t n => exact h.boxes n (hx' n (by simp [opdsRd, Opd.rd])) b 0 y h1 hy
        | k v => simp [Eng.opd] at h1
      simp only [Eng.cellsA, hyb, i2]
theorem Agr.lkB (h : Agr l lb ap s s2) {x : Opd} (hx : ∀ t ∈ x.rd, t ∈ lb) {b off : Nat} {bx : Box} (hv : Eng.opd s x = some (.ptr b off)) (hb : Eng.lkB b s.boxes = some bx) : Eng.lkB b s2.boxes = some bx := by
  cases x with
  | t n => exact h.boxes n (hx n (by simp [Opd.rd])) b off bx hv hb
  | k v => simp [Eng.opd] at hv
end

/-- what an operation does to the state -/
inductive Delta where
  | no
  | box (b : Box)
  | live (e : Nat)
  | app (q e : Nat)
  | st (b : Nat) (x : Box)
  | calls (ids : List Nat) (css : List (List AV)) (fr : Option Nat)
  | frz (ids : List Nat) (css : List (List AV))

def Delta.app' (d : Delta) (id : Nat) (s : S) : S :=
  match d with
  | .no => s
  | .box b => { s with boxes := (id, b) :: s.boxes }
  | .live e => { s with live := (id, e) :: s.live }
  | .app q e => { s with live := (id, e) :: delN q s.live }
  | .st b x => { s with boxes := setB b x s.boxes }
  | .calls ids css fr => { s with boxes := setBs ids css s.boxes, live := match fr with | some e => (id, e) :: s.live | none => s.live }
  | .frz ids css => frzs ids css s

def Delta.ok (d : Delta) (o : COp) (s : S) : Prop :=
  match d with
  | .st b _ => o.isFrz = false ∧ ∃ t ∈ o.wrB, ∃ off, lk t s.slots = some (.ptr b off)
  | .calls ids _ _ => o.isFrz = false ∧ ∀ b ∈ ids, ∃ t ∈ o.wrB, ∃ off, lk t s.slots = some (.ptr b off)
  | .frz ids _ => o.isFrz = true ∧ ∀ b ∈ ids, ∃ t ∈ o.wrB, ∃ off, lk t s.slots = some (.ptr b off)
  | .app q _ => o.isApp = true ∧ ∃ t ∈ o.rd, ∃ a, lk t s.slots = some (.dat a (some q))
  | _ => True

def Box.inU (U : Nat → Prop) (x : Box) : Prop := ∀ o q, lkN o x.tags = some q → U q

def Delta.inU (U : Nat → Prop) (d : Delta) : Prop :=
  match d with
  | .box b => b.inU U
  | .app q _ => U q
  | .st b x => U b ∧ x.inU U
  | .calls ids _ _ => ∀ b ∈ ids, U b
  | _ => True

structure S.inU (U : Nat → Prop) (s : S) : Prop where
  slots : ∀ t v, lk t s.slots = some v → v.inU U
  boxes : ∀ b x, lkB b s.boxes = some x → U b ∧ x.inU U
  live : ∀ q e, lkN q s.live = some e → U q

theorem S.inU.opd {U : Nat → Prop} {s : S} (h : s.inU U) {x : Opd} {v : SV} (hv : Eng.opd s x = some v) : v.inU U := by
  cases x with
  | t n => exact h.slots n v hv
  | k a => simp only [Eng.opd, Option.some.injEq] at hv; subst hv; trivial

theorem opd_ptr {s : S} {x : Opd} {b off : Nat} (h : opd s x = some (.ptr b off)) : ∃ t ∈ x.rd, ∃ off', lk t s.slots = some (.ptr b off') := by
  cases x with
  | t n => exact ⟨n, by simp [Opd.rd], off, h⟩
  | k v => simp [opd] at h
theorem svsA_ptr {s : S} : ∀ {xs : List Opd} {p : List (Option AV) × List Nat}, svsA s xs = some p → ∀ b ∈ p.2, ∃ t ∈ opdsRd xs, ∃ off, lk t s.slots = some (.ptr b off)
  | [], p, h, b, hb => by simp [svsA] at h; subst h; cases hb
  | x :: xs, p, h, b, hb => by
    unfold svsA at h
    split at h
    · rename_i h1 h2
      cases h
      obtain ⟨t, ht, hl⟩ := svsA_ptr h2 b hb
      exact ⟨t, by simp [opdsRd, ht], hl⟩
    · rename_i h1 h2
      cases h
      obtain ⟨t, ht, hl⟩ := svsA_ptr h2 b hb
      exact ⟨t, by simp [opdsRd, ht], hl⟩
    · rename_i h1 h2
      cases h
      rcases List.mem_cons.1 hb with rfl | hb
      · obtain ⟨t, ht, hl⟩ := opd_ptr h1
        exact ⟨t, by simp [opdsRd, ht], hl⟩
      · obtain ⟨t, ht, hl⟩ := svsA_ptr h2 b hb
        exact ⟨t, by simp [opdsRd, ht], hl⟩
    · cases h
/-- whence a pointer comes that is yielded -/
def FromP (id : Nat) (o : COp) (s : S) (v : SV) : Prop := ∀ b off, v = .ptr b off → (b = id ∧ o.isAl = true) ∨ ∃ t ∈ o.ptrSrc, ∃ off', lk t s.slots = some (.ptr b off')
theorem FromP.dat {id : Nat} {o : COp} {s : S} {a : AV} {q : Option Nat} : FromP id o s (.dat a q) := fun _ _ h => by cases h
theorem FromP.undef {id : Nat} {o : COp} {s : S} : FromP id o s .undef := fun _ _ h => by cases h
theorem FromP.rp {id : Nat} {o : COp} {s : S} {cs : List AV} : FromP id o s (.rp cs) := fun _ _ h => by cases h

/-- one way through an operation -/
def Path (C : Con) (id : Nat) (o : COp) (K : SV → S → Prop) (s : S) : Prop :=
  ∃ v d, K v (Delta.app' d id s) ∧ d.ok o s ∧ (∀ U, s.inU U → v.inU (also U id) ∧ d.inU U) ∧ FromP id o s v ∧ ∀ s2, Agr o.rd o.rdB o.isApp s s2 → ∀ K' : SV → S → Prop, K' v (d.app' id s2) → aop C id o K' s2

section
variable {C : Con} {id : Nat} {o : COp} {K : SV → S → Prop} {s : S}

theorem Path.val {a : AV} (hK : K (.dat a none) s) (h : ∀ s2, Agr o.rd o.rdB o.isApp s s2 → ∀ K' : SV → S → Prop, K' (.dat a none) s2 → aop C id o K' s2) : Path C id o K s :=
  ⟨.dat a none, .no, hK, trivial, fun U _ => ⟨trivial, trivial⟩, .dat, h⟩

theorem Path.sv {v : SV} (hK : K v s) (hv : ∀ U, s.inU U → v.inU U) (hp : FromP id o s v) (h : ∀ s2, Agr o.rd o.rdB o.isApp s s2 → ∀ K' : SV → S → Prop, K' v s2 → aop C id o K' s2) : Path C id o K s :=
  ⟨v, .no, hK, trivial, fun U hs => ⟨SV.inU_mono (fun n h => .inl h) (hv U hs), trivial⟩, hp, h⟩

theorem aop_path (h : aop C id o K s) : Path C id o K s := by
  cases o <;> simp only [aop] at h
  case mv x =>
    obtain ⟨v, hv, hK⟩ := withV_inv h
    exact Path.sv hK (fun U hs => hs.opd hv) (fun b off e => .inr (opd_ptr (by rw [hv, e]))) fun s2 ag K' hk => by simpa [aop, ag.opd (fun t ht => ht) hv] using hk
  case pick c a b =>
    obtain ⟨t, ht, h⟩ := withV_inv h
    cases t <;> try (exact h.elim)
    rename_i t
    obtain ⟨u, hu, h⟩ := withV_inv h
    obtain ⟨v, hv, hK1, hK2⟩ := withV_inv h
    cases t
    · exact Path.sv (hK2 rfl) (fun U hs => hs.opd hv) (fun b' off e => .inr (by obtain ⟨t, ht, hl⟩ := opd_ptr (x := b) (by rw [hv, e]); exact ⟨t, by simp [COp.ptrSrc, ht], hl⟩)) fun s2 ag K' hk => by
        simpa [aop, ag.opdA (x := c) (by simp [COp.rd]; grind) ht, ag.opd (x := a) (by simp [COp.rd]; grind) hu, ag.opd (x := b) (by simp [COp.rd]; grind) hv] using hk
    · exact Path.sv (hK1 rfl) (fun U hs => hs.opd hu) (fun b' off e => .inr (by obtain ⟨t, ht, hl⟩ := opd_ptr (x := a) (by rw [hu, e]); exact ⟨t, by simp [COp.ptrSrc, ht], hl⟩)) fun s2 ag K' hk => by
        simpa [aop, ag.opdA (x := c) (by simp [COp.rd]; grind) ht, ag.opd (x := a) (by simp [COp.rd]; grind) hu, ag.opd (x := b) (by simp [COp.rd]; grind) hv] using hk
  case alloc cs =>
    exact ⟨.ptr id 0, .box ⟨cs, []⟩, h, trivial, fun U _ => ⟨.inr rfl, fun o q hq => by cases hq⟩, fun b off e => by cases e; exact .inl ⟨rfl, rfl⟩, fun s2 ag K' hk => hk⟩
  case box x =>
    obtain ⟨a, ha, hok, hK⟩ := withV_inv h
    exact ⟨.ptr id 0, .box ⟨a.cells, []⟩, hK, trivial, fun U _ => ⟨.inr rfl, fun o q hq => by cases hq⟩, fun b off e => by cases e; exact .inl ⟨rfl, rfl⟩, fun s2 ag K' hk => by
      simpa [aop, ag.opdA (x := x) (by simp [COp.rd]) ha, hok, Delta.app'] using hk⟩
  case build zs ps =>
    obtain ⟨p, hp, hK⟩ := withV_inv h
    exact Path.val hK fun s2 ag K' hk => by simpa [aop, ag.partsA (by simp [COp.rd]) hp] using hk
  case bsl e z xs =>
    obtain ⟨p, hp, hK⟩ := withV_inv h
    exact ⟨.dat (.sl p) (some id), .live e, hK, trivial, fun U hs => ⟨.inr rfl, trivial⟩, .dat, fun s2 ag K' hk => by simpa [aop, ag.rowsA (by simp [COp.rd]) hp, Delta.app'] using hk⟩
  case ld x sz =>
    obtain ⟨p, hp, h⟩ := withV_inv h
    cases p <;> try (exact h.elim)
    · rename_i b off
      obtain ⟨bx, hb, h⟩ := withV_inv h
      obtain ⟨a, ha, hK⟩ := withV_inv h
      refine Path.sv hK (fun U hs => ?_) .dat fun s2 ag K' hk => by simpa [aop, ag.opd (x := x) (by simp [COp.rd]) hp, ag.lkB (x := x) (by simp [COp.rdB]) hp hb, ha] using hk
      cases sz with
      | some n => trivial
      | none =>
        cases hq : lkN off bx.tags with
        | none => trivial
        | some q => exact (hs.boxes b bx hb).2 off q hq
    · rename_i cs
      obtain ⟨a, ha, hK⟩ := withV_inv h
      exact Path.val hK fun s2 ag K' hk => by simpa [aop, ag.opd (x := x) (by simp [COp.rd]) hp, ha] using hk
  case st x v sz =>
    obtain ⟨p, hp, h⟩ := withV_inv h
    cases p <;> try (exact h.elim)
    rename_i b off
    obtain ⟨bx, hb, h⟩ := withV_inv h
    obtain ⟨u, hu, h⟩ := withV_inv h
    cases u <;> try (exact h.elim)
    rename_i a q
    obtain ⟨h1, h2, h3, hK⟩ := h
    refine ⟨.undef, .st b ⟨setCells bx.cells off a.cells, match (generalizing := false) q with | some q => (off, q) :: bx.tags.filter (fun p => p.1 < off || off + sz ≤ p.1) | none => bx.tags.filter (fun p => p.1 < off || off + sz ≤ p.1)⟩, hK, ⟨rfl, opd_ptr (x := x) hp⟩, fun U hs => ⟨trivial, ?_, ?_⟩, .undef, fun s2 ag K' hk => ?_⟩
    · exact (hs.boxes b bx hb).1
    · intro o q' hq'
      have hfil : ∀ q', lkN o (bx.tags.filter (fun p => p.1 < off || off + sz ≤ p.1)) = some q' → U q' := fun q' hq' =>
        (hs.boxes b bx hb).2 o q' (lkN_filter hq' (fun x => rfl)).1
      cases q with
      | none => exact hfil q' hq'
      | some q =>
        simp only [lkN] at hq'
        cases hoo : o == off
        · rw [hoo] at hq'; exact hfil q' hq'
        · rw [hoo] at hq'
          simp only [cond_true, Option.some.injEq] at hq'
          subst hq'
          exact hs.opd hu
    · simp only [aop, ag.opd (x := x) (by simp [COp.rd]; grind) hp, ag.opd (x := v) (by simp [COp.rd]; grind) hu, ag.lkB (x := x) (by simp [COp.rdB]) hp hb, withV_some]
      exact ⟨h1, h2, h3, hk⟩
  case fa x off =>
    obtain ⟨p, hp, h⟩ := withV_inv h
    cases p <;> try (exact h.elim)
    · exact Path.sv h (fun U hs => (hs.opd hp : (SV.ptr _ _).inU U)) (fun b' off' e => .inr (by cases e; exact opd_ptr (x := x) hp)) fun s2 ag K' hk => by simpa [aop, ag.opd (x := x) (by simp [COp.rd]) hp] using hk
    · exact Path.sv h (fun U hs => trivial) .rp fun s2 ag K' hk => by simpa [aop, ag.opd (x := x) (by simp [COp.rd]) hp] using hk
  case iaA x i n z =>
    obtain ⟨p, hp, h⟩ := withV_inv h
    obtain ⟨a, ha, h⟩ := withV_inv h
    obtain ⟨j, hj, hlt, h⟩ := withV_inv h
    cases p <;> try (exact h.elim)
    · exact Path.sv h (fun U hs => (hs.opd hp : (SV.ptr _ _).inU U)) (fun b' off' e => .inr (by cases e; exact opd_ptr (x := x) hp)) fun s2 ag K' hk => by simpa [aop, ag.opd (x := x) (by simp [COp.rd]; grind) hp, ag.opdA (x := i) (by simp [COp.rd]; grind) ha, hj, hlt] using hk
    · exact Path.sv h (fun U hs => trivial) .rp fun s2 ag K' hk => by simpa [aop, ag.opd (x := x) (by simp [COp.rd]; grind) hp, ag.opdA (x := i) (by simp [COp.rd]; grind) ha, hj, hlt] using hk
  case iaS x i z =>
    obtain ⟨p, hp, h⟩ := withV_inv h
    obtain ⟨a, ha, h⟩ := withV_inv h
    obtain ⟨j, hj, h⟩ := withV_inv h
    obtain ⟨xs, hxs, hlt, h⟩ := withV_inv h
    obtain ⟨row, hrow, hz, hK⟩ := withV_inv h
    refine Path.sv hK (fun U hs => trivial) .rp fun s2 ag K' hk => ?_
    simp only [aop, ag.opdA (x := x) (by simp [COp.rd]; grind) hp, ag.opdA (x := i) (by simp [COp.rd]; grind) ha, hj, hxs, hrow, withV_some]
    exact ⟨hlt, hz, hk⟩
  case fld x off sz =>
    obtain ⟨p, hp, h⟩ := withV_inv h
    cases p <;> try (exact h.elim)
    obtain ⟨a, ha, hK⟩ := withV_inv h
    exact Path.val hK fun s2 ag K' hk => by simpa [aop, ag.opdA (x := x) (by simp [COp.rd]) hp, ha] using hk
  case ixA x i n z sz =>
    obtain ⟨p, hp, h⟩ := withV_inv h
    cases p <;> try (exact h.elim)
    obtain ⟨a, ha, h⟩ := withV_inv h
    obtain ⟨j, hj, hlt, h⟩ := withV_inv h
    obtain ⟨b, hb, hK⟩ := withV_inv h
    exact Path.val hK fun s2 ag K' hk => by simpa [aop, ag.opdA (x := x) (by simp [COp.rd]; grind) hp, ag.opdA (x := i) (by simp [COp.rd]; grind) ha, hj, hlt, hb] using hk
  case bin op x y =>
    obtain ⟨a, ha, h⟩ := withV_inv h
    obtain ⟨b, hb, h⟩ := withV_inv h
    obtain ⟨v, hv, hK⟩ := withV_inv h
    exact Path.val hK fun s2 ag K' hk => by simpa [aop, ag.opdA (x := x) (by simp [COp.rd]; grind) ha, ag.opdA (x := y) (by simp [COp.rd]; grind) hb, hv] using hk
  case eqc ks neg x y =>
    obtain ⟨a, ha, h⟩ := withV_inv h
    cases a <;> try (exact h.elim)
    obtain ⟨b, hb, h⟩ := withV_inv h
    cases b <;> try (exact h.elim)
    obtain ⟨v, hv, hK⟩ := withV_inv h
    exact Path.val hK fun s2 ag K' hk => by simpa [aop, ag.opdA (x := x) (by simp [COp.rd]; grind) ha, ag.opdA (x := y) (by simp [COp.rd]; grind) hb, hv] using hk
  case bb neg x y =>
    obtain ⟨a, ha, h⟩ := withV_inv h
    obtain ⟨b, hb, h⟩ := withV_inv h
    obtain ⟨v, hv, hK⟩ := withV_inv h
    exact Path.val hK fun s2 ag K' hk => by simpa [aop, ag.opdA (x := x) (by simp [COp.rd]; grind) ha, ag.opdA (x := y) (by simp [COp.rd]; grind) hb, hv] using hk
  case un op x =>
    obtain ⟨a, ha, h⟩ := withV_inv h
    obtain ⟨v, hv, hK⟩ := withV_inv h
    exact Path.val hK fun s2 ag K' hk => by simpa [aop, ag.opdA (x := x) (by simp [COp.rd]) ha, hv] using hk
  case cvII k x =>
    obtain ⟨a, ha, h⟩ := withV_inv h
    obtain ⟨v, hv, hK⟩ := withV_inv h
    exact Path.val hK fun s2 ag K' hk => by simpa [aop, ag.opdA (x := x) (by simp [COp.rd]) ha, hv] using hk
  case cvIF k x =>
    obtain ⟨a, ha, h⟩ := withV_inv h
    obtain ⟨v, hv, hK⟩ := withV_inv h
    exact Path.val hK fun s2 ag K' hk => by simpa [aop, ag.opdA (x := x) (by simp [COp.rd]) ha, hv] using hk
  case cvFI k x =>
    obtain ⟨a, ha, h⟩ := withV_inv h
    obtain ⟨v, hv, hK⟩ := withV_inv h
    exact Path.val hK fun s2 ag K' hk => by simpa [aop, ag.opdA (x := x) (by simp [COp.rd]) ha, hv] using hk
  case cvSame x =>
    obtain ⟨v, hv, hK⟩ := withV_inv h
    exact Path.sv hK (fun U hs => hs.opd hv) (fun b off e => .inr (opd_ptr (by rw [hv, e]))) fun s2 ag K' hk => by simpa [aop, ag.opd (fun t ht => ht) hv] using hk
  case lenS x =>
    obtain ⟨a, ha, h⟩ := withV_inv h
    obtain ⟨v, hv, hK⟩ := withV_inv h
    exact Path.val hK fun s2 ag K' hk => by simpa [aop, ag.opdA (x := x) (by simp [COp.rd]) ha, hv] using hk
  case lenK n => exact Path.val h fun s2 ag K' hk => by simpa [aop] using hk
  case app e z bytes x y =>
    obtain ⟨p, hp, h⟩ := withV_inv h
    cases p <;> try (exact h.elim)
    rename_i a q
    obtain ⟨xs, hxs, h⟩ := withV_inv h
    obtain ⟨b, hb, h⟩ := withV_inv h
    obtain ⟨ys, hys, h1, h2, h3, h⟩ := withV_inv h
    have hx : ∀ t ∈ x.rd, t ∈ (COp.app e z bytes x y).rd := by simp [COp.rd]; grind
    have hy : ∀ t ∈ y.rd, t ∈ (COp.app e z bytes x y).rd := by simp [COp.rd]; grind
    cases a <;> try (exact h.elim)
    · -- nil
      simp only [] at h
      split at h
      · rename_i he
        refine Path.val h fun s2 ag K' hk => ?_
        simp only [aop, ag.opd hx hp, ag.opdA hy hb, hxs, hys, withV_some, if_pos he]
        exact ⟨h1, h2, h3, hk⟩
      · rename_i he
        refine ⟨.dat (.sl (xs ++ ys)) (some id), .live e, h, trivial, fun U hs => ⟨.inr rfl, trivial⟩, .dat, fun s2 ag K' hk => ?_⟩
        simp only [aop, ag.opd hx hp, ag.opdA hy hb, hxs, hys, withV_some, if_neg he]
        exact ⟨h1, h2, h3, hk⟩
    · cases q with
      | none => exact h.elim
      | some q =>
        obtain ⟨hq, hK⟩ := h
        have hsrc : ∃ t ∈ (COp.app e z bytes x y).rd, ∃ a, lk t s.slots = some (.dat a (some q)) := by
          cases x with
          | t n => exact ⟨n, hx n (by simp [Opd.rd]), _, hp⟩
          | k v => simp [opd] at hp
        refine ⟨.dat (.sl (xs ++ ys)) (some id), .app q e, hK, ⟨rfl, hsrc⟩, fun U hs => ⟨.inr rfl, hs.live q e hq⟩, .dat, fun s2 ag K' hk => ?_⟩
        have hq2 : lkN q s2.live = some e := by
          cases x with
          | t n => exact ag.live rfl n (hx n (by simp [Opd.rd])) _ q e hp hq
          | k v => simp [opd] at hp
        simp only [aop, ag.opd hx hp, ag.opdA hy hb, hxs, hys, withV_some]
        exact ⟨h1, h2, h3, hq2, hk⟩
  case call f args =>
    obtain ⟨as, has, r, fr, hc, hK⟩ := withV_inv h
    cases fr with
    | none => exact Path.val hK fun s2 ag K' hk => by simp only [aop, ag.opdsA (by simp [COp.rd]) has, withV_some]; exact ⟨r, none, hc, hk⟩
    | some e => exact ⟨.dat r (some id), .live e, hK, trivial, fun U hs => ⟨.inr rfl, trivial⟩, .dat, fun s2 ag K' hk => by simp only [aop, ag.opdsA (by simp [COp.rd]) has, withV_some]; exact ⟨r, some e, hc, hk⟩⟩
  case callp f args =>
    obtain ⟨p, hp, hnd, h⟩ := withV_inv h
    obtain ⟨css, hcs, r, fr, css', hc, hK⟩ := withV_inv h
    have hin : ∀ U, s.inU U → ∀ b ∈ p.2, U b := by
      intro U hs b hb
      obtain ⟨k, hk⟩ := List.mem_iff_getElem?.1 hb
      obtain ⟨x, hx, _⟩ := (cellsA_spec hcs).2 k b hk
      exact (hs.boxes b x hx).1
    have hgo : ∀ s2, Agr (COp.callp f args).rd (COp.callp f args).rdB (COp.callp f args).isApp s s2 → ∀ K' : SV → S → Prop, K' (.dat r (fr.map fun _ => id)) (Delta.app' (.calls p.2 css' fr) id s2) → aop C id (.callp f args) K' s2 := by
      intro s2 ag K' hk
      obtain ⟨h1, h2⟩ := ag.cellsA (xs := args) (by simp [COp.rd]) (by simp [COp.rdB]) hp hcs
      simp only [aop, h1, h2, withV_some]
      exact ⟨hnd, r, fr, css', hc, hk⟩
    exact ⟨.dat r (fr.map fun _ => id), .calls p.2 css' fr, hK, ⟨rfl, svsA_ptr hp⟩, fun U hs => ⟨by cases fr with | none => trivial | some e => exact .inr rfl, hin U hs⟩, .dat, hgo⟩
  case callv g args =>
    obtain ⟨a, ha, h⟩ := withV_inv h
    cases a <;> try (exact h.elim)
    rename_i fn first caps
    cases fn <;> try (exact h.elim)
    obtain ⟨as, has, r, fr, hc, hK⟩ := withV_inv h
    have hg : ∀ t ∈ g.rd, t ∈ (COp.callv g args).rd := by simp [COp.rd]; grind
    have has' : ∀ t ∈ opdsRd args, t ∈ (COp.callv g args).rd := by simp [COp.rd]; grind
    cases fr with
    | none => exact Path.val hK fun s2 ag K' hk => by simp only [aop, ag.opdA hg ha, ag.opdsA has' has, withV_some]; exact ⟨r, none, hc, hk⟩
    | some e => exact ⟨.dat r (some id), .live e, hK, trivial, fun U hs => ⟨.inr rfl, trivial⟩, .dat, fun s2 ag K' hk => by simp only [aop, ag.opdA hg ha, ag.opdsA has' has, withV_some]; exact ⟨r, some e, hc, hk⟩⟩
  case ext x i =>
    obtain ⟨a, ha, h⟩ := withV_inv h
    obtain ⟨v, hv, hK⟩ := withV_inv h
    exact Path.val hK fun s2 ag K' hk => by simpa [aop, ag.opdA (x := x) (by simp [COp.rd]) ha, hv] using hk
  case xt e x =>
    obtain ⟨a, ha, h⟩ := withV_inv h
    obtain ⟨v, hv, hK⟩ := withV_inv h
    exact Path.val hK fun s2 ag K' hk => by simpa [aop, ag.opdA (x := x) (by simp [COp.rd]) ha, hv] using hk
  case ixB x i =>
    obtain ⟨p, hp, h⟩ := withV_inv h
    cases p <;> try (exact h.elim)
    obtain ⟨a, ha, h⟩ := withV_inv h
    obtain ⟨j, hj, h⟩ := withV_inv h
    obtain ⟨b, hb, hK⟩ := withV_inv h
    exact Path.val hK fun s2 ag K' hk => by simpa [aop, ag.opdA (x := x) (by simp [COp.rd]; grind) hp, ag.opdA (x := i) (by simp [COp.rd]; grind) ha, hj, hb] using hk
  case slA x n z =>
    obtain ⟨p, hp, h⟩ := withV_inv h
    cases p <;> try (exact h.elim)
    · rename_i b off
      obtain ⟨h4, h⟩ := h
      obtain ⟨bx, hb, hlen, hK⟩ := withV_inv h
      refine ⟨_, .frz [b] [bx.cells], hK, ⟨rfl, fun b' hb' => ?_⟩, fun U hs => ⟨trivial, trivial⟩, .dat, fun s2 ag K' hk => ?_⟩
      · simp only [List.mem_singleton] at hb'; subst hb'; exact opd_ptr (x := x) hp
      · simp only [aop, ag.opd (x := x) (by simp [COp.rd]) hp, ag.lkB (x := x) (by simp [COp.rdB]) hp hb, withV_some]
        exact ⟨h4, hlen, hk⟩
    · obtain ⟨hlen, hK⟩ := h
      refine Path.val hK fun s2 ag K' hk => ?_
      simp only [aop, ag.opd (x := x) (by simp [COp.rd]) hp, withV_some]
      exact ⟨hlen, hk⟩
  case mkf fn a b =>
    obtain ⟨as, has, h⟩ := withV_inv h
    obtain ⟨p, hp, hok, h⟩ := withV_inv h
    obtain ⟨css, hcs, hK⟩ := withV_inv h
    have hgo : ∀ s2, Agr (COp.mkf fn a b).rd (COp.mkf fn a b).rdB (COp.mkf fn a b).isApp s s2 → ∀ K' : SV → S → Prop, K' (.dat (.fn fn as (fillP p.1 css)) none) (frzs p.2 css s2) → aop C id (.mkf fn a b) K' s2 := by
      intro s2 ag K' hk
      obtain ⟨h1, h2⟩ := ag.cellsA (xs := b) (by simp [COp.rd]; grind) (by simp [COp.rdB]) hp hcs
      simp only [aop, ag.opdsA (xs := a) (by simp [COp.rd]; grind) has, h1, h2, withV_some]
      exact ⟨hok, hk⟩
    cases b with
    | nil =>
      simp [svsA] at hp
      subst hp
      have e : ∀ s : S, frzs [] css s = s := fun s => by cases css <;> rfl
      simp only [e] at hK hgo
      exact Path.val hK hgo
    | cons x b => exact ⟨_, .frz p.2 css, hK, ⟨rfl, svsA_ptr hp⟩, fun U hs => ⟨trivial, trivial⟩, .dat, hgo⟩
  case slS z x lo hi =>
    obtain ⟨a, ha, h⟩ := withV_inv h
    obtain ⟨xs, hxs, h⟩ := withV_inv h
    obtain ⟨l, hl, h⟩ := withV_inv h
    obtain ⟨m, hm, h1, h2, hK⟩ := withV_inv h
    refine Path.val hK fun s2 ag K' hk => ?_
    simp only [aop, ag.opdA (x := x) (by simp [COp.rd]; grind) ha, hxs, ag.bndL (x := lo) (by simp [COp.rd]; grind) hl, ag.bndH (x := hi) (by simp [COp.rd]; grind) hm, withV_some]
    exact ⟨h1, h2, hk⟩
  case nc x =>
    obtain ⟨p, hp, h⟩ := withV_inv h
    cases p with
    | ptr b o => exact Path.sv h (fun U hs => (hs.opd hp : (SV.ptr _ _).inU U)) (fun b' off' e => .inr (by cases e; exact opd_ptr (x := x) hp)) fun s2 ag K' hk => by simpa [aop, ag.opd (x := x) (by simp [COp.rd]) hp] using hk
    | rp cs => exact Path.sv h (fun U hs => trivial) .rp fun s2 ag K' hk => by simpa [aop, ag.opd (x := x) (by simp [COp.rd]) hp] using hk
    | undef => exact h.elim
    | dat a q =>
      cases a <;> try (exact h.elim)
      rename_i fn as bs
      cases fn <;> try (exact h.elim)
      exact Path.sv h (fun U hs => hs.opd (v := .dat _ q) hp) .dat fun s2 ag K' hk => by simpa [aop, ag.opd (x := x) (by simp [COp.rd]) hp] using hk
  case mm mx args =>
    obtain ⟨as, has, h⟩ := withV_inv h
    cases as with
    | nil => exact h.elim
    | cons a r =>
      obtain ⟨v, hv, hK⟩ := withV_inv h
      exact Path.val hK fun s2 ag K' hk => by simpa [aop, ag.opdsA (xs := args) (by simp [COp.rd]) has, hv] using hk
end
end Go.Eng
