/- ENGINE, PART 9: values that are put together out of parts; slices of slices. -/
import Derived.Test.YtmdlpepjodcjeaaEng8
namespace Go.Eng
set_option linter.unusedSimpArgs false
set_option linter.unnecessarySimpa false
open Go
open Go.RowKit (Below)
set_option linter.unusedVariables false

theorem fold_set : ∀ (vs : List Value) (cells : Array Value) (off k : Nat), off + k + vs.length ≤ cells.size →
    ((vs.zipIdx k).foldl (fun cs (c, j) => cs.setIfInBounds (off + j) c) cells).toList = cells.toList.take (off + k) ++ vs ++ cells.toList.drop (off + k + vs.length)
  | [], cells, off, k, h => by simp
  | v :: vs, cells, off, k, h => by
    simp only [List.zipIdx_cons, List.foldl_cons]
    have hk : off + k < cells.size := by simp at h; omega
    rw [fold_set vs (cells.setIfInBounds (off + k) v) off (k + 1) (by simp at h ⊢; omega)]
    have e := list_seg_step cells.toList (off + k) v vs (by simp at h ⊢; omega)
    simpa [Array.toList_setIfInBounds, Nat.add_assoc] using e

theorem fill_cons {place : Nat → Option (Nat × Nat)} {cells : Array Value} {i off : Nat} {v : Value} {rest : List (Nat × Value)} (hp : place i = some (off, v.cells.size)) (hf : off + v.cells.size ≤ cells.size) :
    ∃ cells', Instr.fill place cells ((i, v) :: rest) = Instr.fill place cells' rest ∧ cells'.toList = cells.toList.take off ++ v.cells.toList ++ cells.toList.drop (off + v.cells.toList.length) ∧ cells'.size = cells.size := by
  have hl := fold_set v.cells.toList cells off 0 (by simpa using hf)
  refine ⟨(v.cells.toList.zipIdx 0).foldl (fun cs (c, j) => cs.setIfInBounds (off + j) c) cells, ?_, by simpa using hl, ?_⟩
  · simp only [Instr.fill, hp]
    have hn : ¬ (off + v.cells.size > cells.size) := by omega
    simp only [ne_eq, not_true_eq_false, decide_false, hn, Bool.or_self, Bool.false_eq_true, if_false, bne_self_eq_false]
    congr 1
    rw [← Array.foldl_toList]
    simp
  · have := congrArg List.length hl
    simp at this
    rw [← Array.length_toList, hl]
    simp; omega

section
variable {P : Program} {w : World} {π : Nat → Nat → Prop}

theorem DVs.splice {cs ps : List AV} {us vs : List Value} {off : Nat} (h : DVs w π cs us) (k : DVs w π ps vs) (hle : off + ps.length ≤ cs.length) :
    DVs w π (cs.take off ++ ps ++ cs.drop (off + ps.length)) (us.take off ++ vs ++ us.drop (off + vs.length)) := by
  have h1 := h.1
  have h2 := k.1
  refine ⟨by simp; omega, fun i c u hc hu => ?_⟩
  rw [list_splice _ _ _ hle] at hc
  rw [list_splice _ _ _ (by omega)] at hu
  rw [← h2] at hu
  split at hc
  · rename_i hi; rw [if_pos hi] at hu; exact h.2 i c u hc hu
  · rename_i hi
    rw [if_neg hi] at hu
    split at hc
    · rename_i hi2; rw [if_pos hi2] at hu; exact k.2 _ c u hc hu
    · rename_i hi2; rw [if_neg hi2] at hu; exact h.2 i c u hc hu

theorem zero_run {t : TypeId} {zs : List AV} (h : zeroOf P t = some zs) : ∃ z : Value, (zeroValue t).run P w = .ok z w ∧ DVs w π zs z.cells.toList ∧ ∀ a ∈ zs, a.scalar = true := by
  unfold zeroOf at h
  split at h
  · rename_i z hz
    simp only [Option.bind_eq_some_iff] at hz
    obtain ⟨i, hi, hz⟩ := hz
    have hm := mapM_ofV1 (w := w) (π := π) _ _ h
    exact ⟨z, by simp [zeroValue, typeInfo, hi, hz], hm.1, hm.2⟩
  · cases h
end

section ops
variable {P : Program} {nt : Nat} {n0 : Fen} {w0 : World} {π0 : Nat → Nat → Prop} {U : Nat → Prop} {s : S} {a : Act} {w : World} {β : Nat → Nat} {τ : Nat → Value} {π : Nat → Nat → Prop}

/-- the parts, filled in one behind the other -/
theorem Rel.fill (R : Rel P nt n0 w0 π0 U s a w β τ π) {t : TypeId} {place : Nat → Option (Nat × Nat)} (hpl : ∀ i o z, cPart P t i = some (o, z) → place i = some (o, z)) :
    ∀ (Xs : List (Nat × Operand)) (ps : List (Nat × Nat × Opd)) (as : List (Nat × List AV)) (cs : List AV) (us : Array Value), cParts P t Xs = some ps → partsA s ps = some as → partsFit cs.length ps = true →
      DVs w π cs us.toList → (∀ c ∈ cs, c.scalar = true) →
      ∃ us', Instr.fill place us (Xs.map fun p => (p.1, a.eval p.2)) = some us' ∧ DVs w π (fillA cs as) us'.toList ∧ ∀ c ∈ fillA cs as, c.scalar = true
  | [], ps, as, cs, us, h1, h2, h3, hd, hs => by
    simp [cParts] at h1; subst h1
    simp [partsA] at h2; subst h2
    exact ⟨us, rfl, hd, hs⟩
  | (i, X) :: Xs, ps, as, cs, us, h1, h2, h3, hd, hs => by
    simp only [cParts] at h1
    split at h1
    · rename_i o z x ps' hp hx hps
      cases h1
      simp only [partsA] at h2
      split at h2
      · rename_i av as' hav has
        split at h2
        · rename_i hz
          obtain ⟨hz, hok⟩ := hz
          cases h2
          simp only [partsFit, Bool.and_eq_true, decide_eq_true_eq] at h3
          have hdv := R.opdA hx hav
          obtain ⟨hcs, hsc⟩ := hdv.cells (fun vs e => by subst e; simp [stOk] at hok)
          have hsz : (a.eval X).cells.size = z := by have := hcs.1; simp at this; omega
          have husz : us.size = cs.length := by have := hd.1; simp at this; omega
          obtain ⟨us1, he, hl1, hs1⟩ := fill_cons (place := place) (cells := us) (i := i) (off := o) (v := a.eval X) (rest := Xs.map fun p => (p.1, a.eval p.2)) (by rw [hsz]; exact hpl i o z hp) (by omega)
          have hd1 : DVs w π (cs.take o ++ av.cells ++ cs.drop (o + av.cells.length)) us1.toList := by rw [hl1]; exact hd.splice hcs (by omega)
          have hs1' : ∀ c ∈ cs.take o ++ av.cells ++ cs.drop (o + av.cells.length), c.scalar = true := by
            intro c hc
            simp only [List.mem_append] at hc
            rcases hc with (hc | hc) | hc
            · exact hs c (List.mem_of_mem_take hc)
            · exact hsc c hc
            · exact hs c (List.mem_of_mem_drop hc)
          obtain ⟨us', hf, hd', hs'⟩ := R.fill hpl Xs ps' as' _ us1 hps has (by
            have : (cs.take o ++ av.cells ++ cs.drop (o + av.cells.length)).length = cs.length := by simp; omega
            rw [this]; exact h3.2) hd1 hs1'
          exact ⟨us', by rw [List.map_cons, he]; exact hf, hd', hs'⟩
        · cases h2
      · cases h2
    · cases h1

theorem Array_mapM_run {P : Program} {w : World} {α β : Type} (xs : Array α) (f : α → Sem β) (g : α → β) (h : ∀ x ∈ xs, (f x).run P w = .ok (g x) w) : (xs.mapM f).run P w = .ok (xs.map g) w := by
  obtain ⟨l⟩ := xs
  rw [List.mapM_toArray, Sem.run_map]
  have : ∀ l : List α, (∀ x ∈ l, (f x).run P w = .ok (g x) w) → (l.mapM f).run P w = .ok (l.map g) w := by
    intro l
    induction l with
    | nil => intro _; rfl
    | cons x l ih =>
      intro h
      simp [List.mapM_cons, Sem.run_bind, h x (by simp), ih (fun y hy => h y (by simp [hy]))]
  rw [this l (fun x hx => h x (by simpa using hx))]
  simp

theorem Rel.build (R : Rel P nt n0 w0 π0 U s a w β τ π) {t : TypeId} {Xs : Array (Nat × Operand)} {zs : List AV} {ps : List (Nat × Nat × Opd)} (hz : zeroOf P t = some zs) (hps : cParts P t Xs.toList = some ps) (hfit : partsFit zs.length ps = true) (hok : buildOk P t = true)
    {id : Nat} {K : SV → S → Prop} (h : aop (Pure P) id (.build zs ps) K s) :
    ∃ v y, (Instr.build t (Xs.map fun (i, x) => (i, a.eval x))).run P w = .ok y w ∧ RV β τ w π v y ∧ v.inU U ∧ K v s := by
  simp only [aop] at h
  obtain ⟨as, has, hK⟩ := withV_inv h
  obtain ⟨z, hzr, hzd, hzs⟩ := zero_run (P := P) (w := w) (π := π) hz
  unfold buildOk at hok
  split at hok
  · rename_i fs hu
    have hm := Array_mapM_run (P := P) (w := w) fs (fun f => do pure (f.offset, ← sizeOf f.type)) (fun f => (f.offset, (szOf P f.type).getD 0)) (by
      intro f hf
      have := (List.all_eq_true.1 hok) f (by simpa using hf)
      cases hs : szOf P f.type with
      | none => simp [hs] at this
      | some z => simp [run_size (w := w) hs])
    obtain ⟨us', hf, hd, hs⟩ := R.fill (place := ((fs.map fun f => (f.offset, (szOf P f.type).getD 0))[·]?)) (fun i o z hp => by
      unfold cPart at hp
      simp only [hu] at hp
      split at hp
      · rename_i f hfi
        simp only [Option.map_eq_some_iff] at hp
        obtain ⟨z', hz', e⟩ := hp
        cases e
        simp [hfi, hz']
      · cases hp) Xs.toList ps as zs z.cells hps has hfit hzd hzs
    refine ⟨.dat (.agg (fillA zs as)) none, .agg us', ?_, ⟨.agg _ _ (by have := hd.1; simpa using this) hs (fun i a v ha hv => hd.2 i a v ha (by simpa using hv)), fun t ht => by cases ht⟩, trivial, hK⟩
    simp only [Instr.build, Sem.run_bind, hzr, Result.andThen_ok, run_underlying hu, hm]
    have : (Xs.map fun (i, x) => (i, a.eval x)).toList = Xs.toList.map fun p => (p.1, a.eval p.2) := by simp
    rw [this, hf]
    rfl
  · rename_i n e hu
    cases hse : szOf P e with
    | none => simp [hse] at hok
    | some ze =>
      obtain ⟨us', hf, hd, hs⟩ := R.fill (place := fun i => some (i * ze, ze)) (fun i o z hp => by
        unfold cPart at hp
        simp [hu, hse] at hp
        obtain ⟨rfl, rfl⟩ := hp
        rfl) Xs.toList ps as zs z.cells hps has hfit hzd hzs
      refine ⟨.dat (.agg (fillA zs as)) none, .agg us', ?_, ⟨.agg _ _ (by have := hd.1; simpa using this) hs (fun i a v ha hv => hd.2 i a v ha (by simpa using hv)), fun t ht => by cases ht⟩, trivial, hK⟩
      simp only [Instr.build, Sem.run_bind, hzr, Result.andThen_ok, run_underlying hu, run_size (w := w) hse]
      have : (Xs.map fun (i, x) => (i, a.eval x)).toList = Xs.toList.map fun p => (p.1, a.eval p.2) := by simp
      rw [this, hf]
      rfl
  · cases hok
end ops
end Go.Eng
