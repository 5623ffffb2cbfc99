/- ENGINE, PART 8: more operations that only compute; places in variables and rows. -/
import Derived.Test.YtmdlpepjodcjeaaEng7
namespace Go.Eng
set_option linter.unusedSimpArgs false
set_option linter.unnecessarySimpa false
open Go
open Go.RowKit (Below)
set_option linter.unusedVariables false

section
variable {P : Program} {w : World} {π : Nat → Nat → Prop}

theorem ext_run {a v : AV} {i : Nat} {x : Value} (h : extA a i = some v) (ha : DV w π a x) : ∃ u, (Instr.extract x i).run P w = .ok u w ∧ DV w π v u := by
  unfold extA at h
  split at h
  · rename_i vs
    cases ha with
    | tup as us hl hd =>
      have hi : i < vs.length := by
        rcases Nat.lt_or_ge i vs.length with h' | h'
        · exact h'
        · rw [List.getElem?_eq_none h'] at h; cases h
      have hu : us[i]? = some us[i]! := by
        have : i < us.size := by omega
        simp [this]
      exact ⟨_, by simp [Instr.extract, hu], hd i v _ h hu⟩
  · cases h

theorem part_run {t : TypeId} {sz : Option Nat} (ht : rdOf P t = some sz) {cs : List AV} {us : Array Value} {off : Nat} {v : AV} (hl : cs.length = us.size) (hs : ∀ a ∈ cs, a.scalar = true)
    (hd : ∀ (i : Nat) (a : AV) (v : Value), cs[i]? = some a → us[i]? = some v → DV w π a v) (h : partA cs off sz = some v) : ∃ u, (part t us off).run P w = .ok u w ∧ DV w π v u := by
  have hpd := part_DV (w := w) (π := π) (f := fun j => us.getD j undef) (fun j x hx => hs x (List.mem_of_getElem? hx)) (fun j x hx => by
    have hj : j < us.size := by
      rw [← hl]
      rcases Nat.lt_or_ge j cs.length with h' | h'
      · exact h'
      · rw [List.getElem?_eq_none h'] at hx; cases hx
    have hu : us[j]? = some us[j] := Array.getElem?_eq_getElem hj
    have := hd j x _ hx hu
    simpa [hj] using this) h
  cases sz with
  | none =>
    obtain ⟨d, hu, hg⟩ := rdOf_one ht
    have h1 := run_agg (w := w) hu
    have hlt : off < us.size := by have := hpd.2; omega
    exact ⟨us[off], by simp [part, h1, hg, hlt], by simpa [hlt] using hpd.1⟩
  | some n =>
    obtain ⟨d, hu, hg, hz⟩ := rdOf_agg ht
    have h1 := run_agg (w := w) hu
    have h2 := run_size (w := w) hz
    have hle : off + n ≤ us.size := by have := hpd.1; omega
    refine ⟨.agg (us.extract off (off + n)), by simp [part, h1, hg, h2], ?_⟩
    have : us.extract off (off + n) = ((List.range n).map fun j => us.getD (off + j) undef).toArray := by
      apply Array.ext
      · simp; omega
      · intro i h1 h2
        simp at h2
        have : off + i < us.size := by omega
        simp [this]
    rw [this]
    exact hpd.2

theorem mm2_run {mx : Bool} {a b v : AV} {x y : Value} (h : mmA mx a b = some v) (ha : DV w π a x) (hb : DV w π b y) :
    ∃ u, ((if mx then Builtin.max2 x y else Builtin.min2 x y) : Sem Value).run P w = .ok u w ∧ DV w π v u := by
  unfold mmA at h
  split at h
  · cases ha; cases hb; cases h
    cases mx <;> exact ⟨_, rfl, .int _ _⟩
  · split at h
    · rename_i hk
      subst hk
      cases ha; cases hb
      rename_i k x y
      split at h
      · cases h
      · rename_i ho; cases h; cases mx <;> exact ⟨_, by simp [Builtin.max2, Builtin.min2, ho], .float _ _⟩
      · rename_i ho; cases h; cases mx <;> exact ⟨_, by simp [Builtin.max2, Builtin.min2, ho], .float _ _⟩
      · rename_i ho; cases h; cases mx <;> exact ⟨_, by simp [Builtin.max2, Builtin.min2, ho], .float _ _⟩
    · cases h
  · cases h

theorem mm_run {mx : Bool} : ∀ {as : List AV} {us : List Value} {a v : AV} {x : Value}, as.foldlM (mmA mx) a = some v → DV w π a x → DVs w π as us →
    ∃ u, (us.foldlM (fun p q => if mx then Builtin.max2 p q else Builtin.min2 p q) x : Sem Value).run P w = .ok u w ∧ DV w π v u
  | [], us, a, v, x, h, ha, hs => by
    have : us = [] := List.eq_nil_of_length_eq_zero (by simpa using hs.1.symm)
    subst this
    simp at h; subst h
    exact ⟨x, rfl, ha⟩
  | b :: as, us, a, v, x, h, ha, hs => by
    cases us with
    | nil => have := hs.1; simp at this
    | cons y us =>
      simp only [List.foldlM_cons, Option.bind_eq_bind, Option.bind_eq_some_iff] at h
      obtain ⟨c, hc, h⟩ := h
      obtain ⟨u, hu, hd⟩ := mm2_run (P := P) hc ha (hs.2 0 b y rfl rfl)
      obtain ⟨u', hu', hd'⟩ := mm_run h hd (us := us) ⟨by have := hs.1; simpa using this, fun i a v h1 h2 => hs.2 (i + 1) a v (by simpa using h1) (by simpa using h2)⟩
      exact ⟨u', by simp only [List.foldlM_cons, Sem.run_bind, hu, Result.andThen_ok]; exact hu', hd'⟩
end

section ops
variable {P : Program} {nt : Nat} {n0 : Fen} {w0 : World} {π0 : Nat → Nat → Prop} {U : Nat → Prop} {s : S} {a : Act} {w : World} {β : Nat → Nat} {τ : Nat → Value} {π : Nat → Nat → Prop}

theorem withV_inv {α : Type} {o : Option α} {k : α → Prop} (h : withV o k) : ∃ x, o = some x ∧ k x := by
  cases o with
  | none => exact h.elim
  | some x => exact ⟨x, rfl, h⟩

theorem RV.rp_drop {cs : List AV} {v : Value} (h : RV β τ w π (.rp cs) v) (d : Nat) : ∃ B off, v = .pointer (some ⟨B, off, none⟩) ∧ RV β τ w π (.rp (cs.drop d)) (.pointer (some ⟨B, off + d, none⟩)) := by
  obtain ⟨B, off, f, hv, h1, h2, h3, h4⟩ := h
  refine ⟨B, off, hv, B, off + d, fun j => f (d + j), rfl, ?_, ?_, ?_, ?_⟩ <;> intro j x hx <;> rw [List.getElem?_drop] at hx
  · exact h1 _ x hx
  · have := h2 _ x hx; rwa [← Nat.add_assoc] at this
  · have := h3 _ x hx; rwa [← Nat.add_assoc] at this
  · exact h4 _ x hx

theorem Rel.fieldAddr (R : Rel P nt n0 w0 π0 U s a w β τ π) {t : TypeId} {f : Nat} {fd : Field} {X : Operand} {x : Opd} (hx : cOpd X = some x) (hf : fieldOf P t f = some fd)
    (hz : ¬ (szOf P fd.type == some 0 || (szOf P fd.type).isNone) = true) {id : Nat} {K : SV → S → Prop} (h : aop (Pure P) id (.fa x fd.offset) K s) :
    ∃ v y, (Instr.fieldAt t (a.eval X) f).run P w = .ok y w ∧ RV β τ w π v y ∧ v.inU U ∧ K v s := by
  have hu : ∃ fs : Array Field, P.underlying t = some (.struct fs) ∧ fs[f]? = some fd := by
    unfold fieldOf at hf
    split at hf
    · exact ⟨_, by assumption, hf⟩
    · cases hf
  obtain ⟨fs, hu, hfs⟩ := hu
  obtain ⟨z, hz1, hz2⟩ : ∃ z, szOf P fd.type = some z ∧ z ≠ 0 := by
    cases hs : szOf P fd.type with
    | none => simp [hs] at hz
    | some z => exact ⟨z, rfl, fun e => by subst e; simp [hs] at hz⟩
  have hsz := run_size (w := w) hz1
  have hrun : ∀ (B off : Nat), a.eval X = .pointer (some ⟨B, off, none⟩) → (Instr.fieldAt t (a.eval X) f).run P w = .ok (.pointer (some ⟨B, off + fd.offset, none⟩)) w := by
    intro B off he
    simp [Instr.fieldAt, run_underlying hu, hfs, he, Instr.sureAddr, fieldPlace, hsz, hz2, addr_add]
  simp only [aop] at h
  obtain ⟨p, hp, h⟩ := withV_inv h
  obtain ⟨hr, hU⟩ := R.opd hx hp
  cases p with
  | dat _ _ => exact h.elim
  | undef => exact h.elim
  | ptr b o => exact ⟨.ptr b (o + fd.offset), _, hrun _ _ hr, rfl, hU, h⟩
  | rp cs =>
    obtain ⟨B, off, hv, hr'⟩ := RV.rp_drop hr fd.offset
    exact ⟨.rp (cs.drop fd.offset), _, hrun _ _ hv, hr', trivial, h⟩

theorem Rel.idx (R : Rel P nt n0 w0 π0 U s a w β τ π) {X : Operand} {x : Opd} {i : Int} {b : AV} (hx : cOpd X = some x) (hb : Eng.opdA s x = some b) (hi : idxOf b = some i) : ∃ k, a.eval X = .int k i := by
  have hd := R.opdA hx hb
  unfold idxOf at hi
  split at hi
  · rename_i k n
    cases hi
    exact ⟨k, hd.int_inv⟩
  · cases hi

theorem Rel.indexArr (R : Rel P nt n0 w0 π0 U s a w β τ π) {t e : TypeId} {n z : Nat} {X I : Operand} {x i : Opd} (hx : cOpd X = some x) (hi : cOpd I = some i) (ht : P.underlying t = some (.array n e)) (hz : szOf P e = some z)
    {id : Nat} {K : SV → S → Prop} (h : aop (Pure P) id (.iaA x i n z) K s) :
    ∃ v y, (Instr.indexAt t (a.eval X) (a.eval I)).run P w = .ok y w ∧ RV β τ w π v y ∧ v.inU U ∧ K v s := by
  simp only [aop] at h
  obtain ⟨p, hp, h⟩ := withV_inv h
  obtain ⟨b, hb, h⟩ := withV_inv h
  obtain ⟨j, hj, h⟩ := withV_inv h
  obtain ⟨hlt, h⟩ := h
  obtain ⟨k, hk⟩ := R.idx hi hb hj
  obtain ⟨hr, hU⟩ := R.opd hx hp
  have hsz := run_size (w := w) hz
  have hrun : ∀ (B off : Nat), a.eval X = .pointer (some ⟨B, off, none⟩) → (Instr.indexAt t (a.eval X) (a.eval I)).run P w = .ok (.pointer (some ⟨B, off + j.toNat * z, none⟩)) w := by
    intro B off he
    simp [Instr.indexAt, hk, he, asIntOf, run_underlying ht, Instr.sureAddr, hlt, hsz, addr_add]
  cases p with
  | dat _ _ => exact h.elim
  | undef => exact h.elim
  | ptr b o => exact ⟨.ptr b (o + j.toNat * z), _, hrun _ _ hr, rfl, hU, h⟩
  | rp cs =>
    obtain ⟨B, off, hv, hr'⟩ := RV.rp_drop hr (j.toNat * z)
    exact ⟨.rp (cs.drop (j.toNat * z)), _, hrun _ _ hv, hr', trivial, h⟩

theorem Rel.indexSl (R : Rel P nt n0 w0 π0 U s a w β τ π) {t e : TypeId} {z : Nat} {X I : Operand} {x i : Opd} (hx : cOpd X = some x) (hi : cOpd I = some i) (ht : P.underlying t = some (.slice e)) (hz : szOf P e = some z)
    {id : Nat} {K : SV → S → Prop} (h : aop (Pure P) id (.iaS x i z) K s) :
    ∃ v y, (Instr.indexAt t (a.eval X) (a.eval I)).run P w = .ok y w ∧ RV β τ w π v y ∧ v.inU U ∧ K v s := by
  simp only [aop] at h
  obtain ⟨l, hl, k1⟩ := withV_inv h
  obtain ⟨b, hb, k2⟩ := withV_inv k1
  obtain ⟨j, hj, k3⟩ := withV_inv k2
  obtain ⟨xs, hxs, hlt, k4⟩ := withV_inv k3
  obtain ⟨row, hrow, hrl, hK⟩ := withV_inv k4
  obtain ⟨k, hk⟩ := R.idx hi hb hj
  have hd := R.opdA hx hl
  have hsz := run_size (w := w) hz
  have hl' : l = .sl xs := by
    cases l <;> simp only [rowsOf] at hxs <;> try (cases hxs; done)
    · cases hxs; simp at hlt; omega
    · cases hxs; rfl
  subst hl'
  generalize hv : a.eval X = v at hd
  cases hd with
  | sl _ B off cap z' f h1 h2 h3 h4 h5 h6 =>
    have hzz' : z' = z := by rw [← h2 _ _ hrow, hrl]
    subst hzz'
    refine ⟨.rp row, .pointer (some ⟨B, off + j.toNat * z', none⟩), ?_, ⟨B, off + j.toNat * z', fun m => f j.toNat m, rfl, ?_, ?_, ?_, ?_⟩, trivial, hK⟩
    · simp [Instr.indexAt, hk, asIntOf, run_underlying ht, hlt, hsz, addr_add]
    · intro m c hc; exact h3 _ m row c hrow hc
    · intro m c hc; exact h4 _ m row c hrow hc
    · intro m c hc; exact h5 _ m row c hrow hc
    · intro m c hc; exact h6 _ m row c hrow hc
end ops
end Go.Eng
