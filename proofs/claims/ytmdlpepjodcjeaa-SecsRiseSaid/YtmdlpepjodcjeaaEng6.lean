/- ENGINE, PART 6: each operation of the model does what its compiled form says (values, reads, writes). -/
import Derived.Test.YtmdlpepjodcjeaaEng5
namespace Go.Eng
set_option linter.unusedVariables false
set_option linter.unusedSimpArgs false
set_option linter.unnecessarySimpa false
open Go
open Go.RowKit (Below)

theorem addr_add (B o n : Nat) : (⟨B, o, none⟩ : Addr).add n = ⟨B, o + n, none⟩ := by unfold Addr.add; split <;> simp_all

section runs
variable {P : Program} {w : World}

theorem info_of_underlying {t : TypeId} {d : TypeDesc} (h : P.underlying t = some d) : ∃ i, P.info? t = some i := by
  cases hi : P.info? t with
  | some i => exact ⟨i, rfl⟩
  | none => simp [Program.underlying, hi] at h

theorem run_size {t : TypeId} {z : Nat} (h : szOf P t = some z) : (sizeOf t).run P w = .ok z w := by
  simp only [szOf, Option.map_eq_some_iff] at h
  obtain ⟨i, hi, rfl⟩ := h
  simp [sizeOf, typeInfo, hi]

theorem run_agg {t : TypeId} {d : TypeDesc} (h : P.underlying t = some d) : (isAgg t).run P w = .ok (aggB P t) w := by
  have := run_underlying h w
  unfold isAgg aggB
  simp only [Sem.run_bind, this, Result.andThen_ok, h]
  cases d <;> rfl

theorem rdOf_agg {t : TypeId} {n : Nat} (h : rdOf P t = some (some n)) : ∃ d, P.underlying t = some d ∧ aggB P t = true ∧ szOf P t = some n := by
  unfold rdOf at h
  split at h
  · rename_i fs hu; exact ⟨_, hu, by simp [aggB, hu], by simpa using h⟩
  · rename_i k e hu; exact ⟨_, hu, by simp [aggB, hu], by simpa using h⟩
  · simp at h
  · simp at h

theorem rdOf_one {t : TypeId} (h : rdOf P t = some none) : ∃ d, P.underlying t = some d ∧ aggB P t = false := by
  unfold rdOf at h
  split at h
  · simp at h
  · simp at h
  · rename_i d h1 h2 hu
    refine ⟨d, hu, ?_⟩
    unfold aggB
    rw [hu]
    cases d <;> simp_all
  · simp at h

theorem run_loadVar_some {t : TypeId} {n : Nat} (h : rdOf P t = some (some n)) {B o : Nat} {f : Nat → Value} (hc : ∀ j, j < n → w.cell? ⟨B, o + j, none⟩ = some (f j)) :
    (loadVar t ⟨B, o, none⟩).run P w = .ok (.agg ((List.range n).map f).toArray) w := by
  obtain ⟨d, hd, ha, hs⟩ := rdOf_agg h
  have h1 := run_agg (w := w) hd
  have h2 := run_size (w := w) hs
  have h3 := run_loadCells (P := P) w ⟨B, o, none⟩ n f (fun j hj => by rw [addr_add]; exact hc j hj)
  simp only [loadVar, Sem.run_bind, h1, ha, Result.andThen_ok, if_true, h2, h3, Sem.run_pure]

theorem run_loadVar_none {t : TypeId} (h : rdOf P t = some none) {B o : Nat} {v : Value} (hc : w.cell? ⟨B, o, none⟩ = some v) :
    (loadVar t ⟨B, o, none⟩).run P w = .ok v w := by
  obtain ⟨d, hd, ha⟩ := rdOf_one h
  have h1 := run_agg (w := w) hd
  simp [loadVar, Sem.run_bind, h1, ha, Result.andThen_ok, hc]
end runs

/-- what is read out of cells that read as a list -/
theorem part_DV {w : World} {π : Nat → Nat → Prop} {cs : List AV} {f : Nat → Value} {off : Nat} {sz : Option Nat} {a : AV}
    (hs : ∀ (j : Nat) (x : AV), cs[j]? = some x → x.scalar = true) (hd : ∀ (j : Nat) (x : AV), cs[j]? = some x → DV w π x (f j)) (h : partA cs off sz = some a) :
    match sz with
    | none => DV w π a (f off) ∧ off < cs.length
    | some n => off + n ≤ cs.length ∧ DV w π a (.agg ((List.range n).map fun j => f (off + j)).toArray) := by
  cases sz with
  | none =>
    simp only [partA] at h
    refine ⟨hd _ _ h, ?_⟩
    rcases Nat.lt_or_ge off cs.length with h' | h'
    · exact h'
    · rw [List.getElem?_eq_none h'] at h; cases h
  | some n =>
    simp only [partA] at h
    split at h
    · rename_i hle
      cases h
      have hg : ∀ (i : Nat) (x : AV), ((cs.drop off).take n)[i]? = some x → i < n ∧ cs[off + i]? = some x := by
        intro i x hx
        rw [List.getElem?_take] at hx
        split at hx
        · rename_i hi; exact ⟨hi, by simpa using hx⟩
        · cases hx
      refine ⟨hle, .agg _ _ (by simp; omega) (fun x hx => ?_) (fun i x v hx hv => ?_)⟩
      · obtain ⟨i, hi⟩ := List.mem_iff_getElem?.1 hx
        exact hs _ _ (hg i x hi).2
      · obtain ⟨hi, hx'⟩ := hg i x hx
        have : v = f (off + i) := by simpa [hi] using hv.symm
        rw [this]
        exact hd _ _ hx'
    · cases h

section ops
variable {P : Program} {nt : Nat} {n0 : Fen} {w0 : World} {π0 : Nat → Nat → Prop} {U : Nat → Prop} {s : S} {a : Act} {w : World} {β : Nat → Nat} {τ : Nat → Value} {π : Nat → Nat → Prop}

/-- the cells of a box, as a function -/
theorem BoxR.cells {B : Nat} {x : Box} (h : BoxR τ w π B x) : ∃ f : Nat → Value, (∀ j, j < x.cells.length → w.cell? ⟨B, j, none⟩ = some (f j)) ∧ (∀ (j : Nat) (y : AV), x.cells[j]? = some y → y.scalar = true) ∧
    (∀ (j : Nat) (y : AV), x.cells[j]? = some y → DV w π y (f j)) ∧ ∀ o q, lkN o x.tags = some q → f o = τ q := by
  obtain ⟨cur, el, h1, h2, h3, h4, _⟩ := h
  refine ⟨fun j => cur.getD j undef, fun j hj => ?_, fun j y hy => h3 y (List.mem_of_getElem? hy), fun j y hy => ?_, fun o q hq => ?_⟩
  · have hl : j < cur.size := by have := h2.1; simp at this; omega
    rw [cell_of_row w B j cur el (0, 0) h1]
    simp [hl]
  · obtain ⟨v, hv, hd⟩ := h2.get hy
    have : cur[j]? = some v := by simpa using hv
    simp [this, hd]
  · simp [h4 o q hq]

theorem Rel.load (R : Rel P nt n0 w0 π0 U s a w β τ π) {t : TypeId} {X : Operand} {x : Opd} {sz : Option Nat} (hx : cOpd X = some x) (ht : rdOf P t = some sz) {id : Nat} {K : SV → S → Prop}
    (h : aop (Pure P) id (.ld x sz) K s) : ∃ v y, (Instr.loadAt t (a.eval X)).run P w = .ok y w ∧ RV β τ w π v y ∧ v.inU U ∧ K v s := by
  simp only [aop] at h
  cases ho : Eng.opd s x with
  | none => rw [ho] at h; exact h.elim
  | some p =>
    rw [ho] at h
    obtain ⟨hr, hu⟩ := R.opd hx ho
    cases p with
    | dat b q => exact h.elim
    | undef => exact h.elim
    | ptr b off =>
      simp only [withV_some] at h
      cases hb : lkB b s.boxes with
      | none => rw [hb] at h; exact h.elim
      | some z =>
        rw [hb] at h
        simp only [withV_some] at h
        cases hp : partA z.cells off sz with
        | none => rw [hp] at h; exact h.elim
        | some av =>
          rw [hp] at h
          obtain ⟨h1, h2, h3, h4⟩ := R.boxes b z hb
          obtain ⟨f, hf, hs, hd, htg⟩ := h3.cells
          have hpd := part_DV hs hd hp
          have he : a.eval X = .pointer (some ⟨β b, off, none⟩) := hr
          cases sz with
          | none =>
            obtain ⟨hd', hlt⟩ := hpd
            refine ⟨.dat av (lkN off z.tags), f off, by simp only [he, Instr.loadAt, Instr.sureAddr, Sem.run_bind, Sem.run_pure, Result.andThen_ok]; exact run_loadVar_none ht (hf off hlt), ⟨hd', fun q hq => htg off q hq⟩, ?_, h⟩
            cases hq : lkN off z.tags with
            | none => trivial
            | some q => exact h4 off q hq
          | some n =>
            obtain ⟨hle, hd'⟩ := hpd
            refine ⟨.dat av none, _, by simp only [he, Instr.loadAt, Instr.sureAddr, Sem.run_bind, Sem.run_pure, Result.andThen_ok]; exact run_loadVar_some ht (fun j hj => hf (off + j) (by omega)), ⟨hd', fun q hq => by cases hq⟩, trivial, h⟩
    | rp cs =>
      simp only [withV_some] at h
      cases hp : partA cs 0 sz with
      | none => rw [hp] at h; exact h.elim
      | some av =>
        rw [hp] at h
        obtain ⟨B, off, f, he, hs, _, hf, hd⟩ := hr
        have hpd := part_DV hs hd hp
        have hget : ∀ j, j < cs.length → w.cell? ⟨B, off + j, none⟩ = some (f j) := fun j hj => hf j cs[j] (List.getElem?_eq_getElem hj)
        cases sz with
        | none =>
          obtain ⟨hd', hlt⟩ := hpd
          refine ⟨.dat av none, f 0, by simp only [he, Instr.loadAt, Instr.sureAddr, Sem.run_bind, Sem.run_pure, Result.andThen_ok]; exact run_loadVar_none ht (hget 0 hlt), ⟨hd', fun q hq => by cases hq⟩, trivial, h⟩
        | some n =>
          obtain ⟨hle, hd'⟩ := hpd
          refine ⟨.dat av none, _, by simp only [he, Instr.loadAt, Instr.sureAddr, Sem.run_bind, Sem.run_pure, Result.andThen_ok]; exact run_loadVar_some ht (fun j hj => hget j (by omega)), ⟨by simpa using hd', fun q hq => by cases hq⟩, trivial, h⟩

theorem scalar_cells {w : World} {π : Nat → Nat → Prop} {av : AV} {u : Value} (h : DV w π av u) (hs : av.scalar = true) : u.cells.toList = [u] := by
  cases h <;> first | rfl | (simp [AV.scalar] at hs)

theorem list_splice {α : Type} (l ps : List α) (off : Nat) (h : off + ps.length ≤ l.length) (i : Nat) :
    (l.take off ++ ps ++ l.drop (off + ps.length))[i]? = if i < off then l[i]? else if i < off + ps.length then ps[i - off]? else l[i]? := by
  have hl : (l.take off).length = off := by simp; omega
  by_cases h1 : i < off
  · rw [if_pos h1, List.append_assoc, List.getElem?_append_left (by omega), List.getElem?_take, if_pos h1]
  · rw [if_neg h1]
    by_cases h2 : i < off + ps.length
    · rw [if_pos h2, List.append_assoc, List.getElem?_append_right (by omega), List.getElem?_append_left (by omega), hl]
    · rw [if_neg h2, List.getElem?_append_right (by simp; omega), List.getElem?_drop]
      congr 1
      simp; omega

theorem lkN_filter {l : List (Nat × Nat)} {p : Nat × Nat → Bool} {o q : Nat} (h : lkN o (l.filter p) = some q) (hp : ∀ x : Nat × Nat, p x = p (x.1, 0)) : lkN o l = some q ∧ p (o, 0) = true := by
  induction l with
  | nil => simp [lkN] at h
  | cons x r ih =>
    obtain ⟨m, v⟩ := x
    rw [List.filter_cons] at h
    by_cases hx : p (m, v) = true
    · rw [if_pos hx] at h
      simp only [lkN] at h ⊢
      by_cases e : o = m
      · subst e; simp at h ⊢; exact ⟨h, by rw [← hp (o, v)]; exact hx⟩
      · have hf : (o == m) = false := by simpa using e
        simp only [hf, cond_false] at h ⊢
        exact ih h
    · rw [if_neg hx] at h
      obtain ⟨h1, h2⟩ := ih h
      refine ⟨?_, h2⟩
      simp only [lkN]
      have e : o ≠ m := fun e => hx (by subst e; rw [hp (o, v)]; exact h2)
      have hf : (o == m) = false := by simpa using e
      simp only [hf, cond_false]; exact h1

theorem Rel.store (R : Rel P nt n0 w0 π0 U s a w β τ π) {t : TypeId} {X V : Operand} {x v : Opd} {z : Nat} (hx : cOpd X = some x) (hv : cOpd V = some v) (ht : szOf P t = some z) {id : Nat} {K : SV → S → Prop}
    (h : aop (Pure P) id (.st x v z) K s) : ∃ s' w', (Instr.storeAt t (a.eval X) (a.eval V)).run P w = .ok () w' ∧ K .undef s' ∧ Rel P nt n0 w0 π0 U s' a w' β τ π := by
  simp only [aop] at h
  cases ho : Eng.opd s x with
  | none => rw [ho] at h; exact h.elim
  | some p =>
    rw [ho] at h
    obtain ⟨hr, hu⟩ := R.opd hx ho
    cases p with
    | dat b q => exact h.elim
    | undef => exact h.elim
    | rp cs => exact h.elim
    | ptr b off =>
      simp only [withV_some] at h
      cases hb : lkB b s.boxes with
      | none => rw [hb] at h; exact h.elim
      | some y =>
        rw [hb] at h
        simp only [withV_some] at h
        cases hov : Eng.opd s v with
        | none => rw [hov] at h; exact h.elim
        | some u =>
          rw [hov] at h
          cases u with
          | undef => exact h.elim
          | rp cs => exact h.elim
          | ptr _ _ => exact h.elim
          | dat av q =>
            simp only [withV_some] at h
            obtain ⟨hok, hlen, hfit, hK⟩ := h
            obtain ⟨⟨hdv, htag⟩, huv⟩ := R.opd hv hov
            have he : a.eval X = .pointer (some ⟨β b, off, none⟩) := hr
            obtain ⟨h1, h2, ⟨cur, el, hh, hcd, hcs, hct, hnp⟩, h4⟩ := R.boxes b y hb
            have hsz : cur.size = y.cells.length := by have := hcd.1; simp at this; exact this.symm
            have htup' : ∀ vs, av ≠ .tup vs := fun vs e => by subst e; simp [stOk] at hok
            obtain ⟨hds, hsc⟩ := hdv.cells htup'
            have hvl : (a.eval V).cells.toList.length = z := by rw [← hds.1]; exact hlen
            have hone : ∀ u ∈ (a.eval V).cells.toList, u.oneCell' = true := by
              intro u hu
              obtain ⟨i, hi⟩ := List.mem_iff_getElem?.1 hu
              have hil : i < av.cells.length := by
                rw [hds.1]
                rcases Nat.lt_or_ge i (a.eval V).cells.toList.length with h | h
                · exact h
                · rw [List.getElem?_eq_none h] at hi; cases hi
              have hx' := List.getElem?_eq_getElem hil
              exact (hds.2 i _ _ hx' hi).oneCell (hsc _ (List.getElem_mem hil))
            have hst := run_storeCells_at (P := P) (β b) off el (a.eval V).cells.toList 0 cur w hh (by rw [hvl, hsz]; omega) hone
            simp only [Nat.add_zero] at hst
            have hrun : (Instr.storeAt t (a.eval X) (a.eval V)).run P w = .ok () (w.setRow (β b) (cur.toList.take off ++ (a.eval V).cells.toList ++ cur.toList.drop (off + (a.eval V).cells.toList.length)).toArray) := by
              have hz2 : (a.eval V).cells.size = z := by simpa using hvl
              simp [he, Instr.storeAt, Instr.sureAddr, storeVar, run_size (w := w) ht, hz2, hst]
            refine ⟨_, _, hrun, hK, R.setBox hb hh ?_ ?_ ?_⟩
            · -- cells
              refine ⟨?_, fun i c u hc hu => ?_⟩
              · simp [setCells, hds.1, hcd.1]
              · simp only [] at hu
                rw [list_splice _ _ _ (by rw [hvl]; simp; omega)] at hu
                simp only [setCells] at hc
                rw [list_splice _ _ _ (by omega)] at hc
                rw [hvl] at hu
                rw [hlen] at hc
                split at hc
                · rename_i hi; rw [if_pos hi] at hu; exact hcd.2 i c u hc hu
                · rename_i hi
                  rw [if_neg hi] at hu
                  split at hc
                  · rename_i hi2; rw [if_pos hi2] at hu; exact hds.2 _ c u hc hu
                  · rename_i hi2; rw [if_neg hi2] at hu; exact hcd.2 i c u hc hu
            · intro c hc
              simp only [setCells, List.mem_append] at hc
              rcases hc with (hc | hc) | hc
              · exact hcs c (List.mem_of_mem_take hc)
              · exact hsc c hc
              · exact hcs c (List.mem_of_mem_drop hc)
            · intro o q' hq'
              have hfil : ∀ (o q' : Nat), lkN o (y.tags.filter fun p => p.1 < off || off + z ≤ p.1) = some q' → (cur.toList.take off ++ (a.eval V).cells.toList ++ cur.toList.drop (off + (a.eval V).cells.toList.length)).toArray[o]? = some (τ q') ∧ U q' := by
                intro o q' hq'
                obtain ⟨hq1, hq2⟩ := lkN_filter hq' (fun x => rfl)
                refine ⟨?_, h4 o q' hq1⟩
                have := hct o q' hq1
                rw [List.getElem?_toArray, list_splice _ _ _ (by rw [hvl]; simp; omega), hvl]
                simp at hq2
                split
                · simpa using this
                · rw [if_neg (by omega)]; simpa using this
              cases q with
              | none => exact hfil o q' hq'
              | some q =>
                simp only [lkN] at hq'
                by_cases e : o = off
                · subst e
                  simp at hq'
                  subst hq'
                  have hsc1 : av.scalar = true := by cases av <;> simp_all [stOk, AV.scalar]
                  have hz1 : (a.eval V).cells.toList = [a.eval V] := scalar_cells hdv hsc1
                  refine ⟨?_, huv⟩
                  rw [List.getElem?_toArray, list_splice _ _ _ (by rw [hvl]; simp; omega), hz1]
                  simp only [List.length_singleton, Nat.lt_irrefl, if_false, Nat.lt_add_one, if_true, Nat.sub_self]
                  simpa using htag q rfl
                · have hf : (o == off) = false := by simpa using e
                  simp only [hf, cond_false] at hq'
                  exact hfil o q' hq'
end ops
end Go.Eng
