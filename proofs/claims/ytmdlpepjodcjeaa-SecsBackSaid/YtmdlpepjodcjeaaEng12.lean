/- ENGINE, PART 12: equality of structs and arrays; cuts of slices. -/
import Derived.Test.YtmdlpepjodcjeaaEng11
import Derived.ChangeKeysEq
namespace Go.Eng
set_option linter.unusedSimpArgs false
set_option linter.unnecessarySimpa false
open Go
open Go.RowKit (Below)
set_option linter.unusedVariables false

/-- a value of a plain type, as its cells -/
def Val (w : World) (π : Nat → Nat → Prop) (P : Program) (t : TypeId) (as : List AV) (v : Value) : Prop :=
  if aggB P t then ∃ xs : Array Value, v = .agg xs ∧ DVs w π as xs.toList ∧ ∀ a ∈ as, a.scalar = true
  else ∃ a, as = [a] ∧ DV w π a v

section
variable {P : Program} {w : World} {π : Nat → Nat → Prop}

theorem cellsEq_append : ∀ {ks ls : List CK} {as bs cs ds : List AV} {e : Bool}, ks.length = as.length → as.length = bs.length → cellsEq (ks ++ ls) (as ++ cs) (bs ++ ds) = some e → ∃ e1 e2, cellsEq ks as bs = some e1 ∧ cellsEq ls cs ds = some e2 ∧ e = (e1 && e2)
  | [], ls, [], [], cs, ds, e, _, _, h => ⟨true, e, rfl, h, rfl⟩
  | [], ls, [], b :: bs, _, _, _, _, h, _ => by simp at h
  | [], ls, a :: as, _, _, _, _, h, _, _ => by simp at h
  | k :: ks, ls, [], _, _, _, _, h, _, _ => by simp at h
  | k :: ks, ls, a :: as, [], _, _, _, _, h, _ => by simp at h
  | k :: ks, ls, a :: as, b :: bs, cs, ds, e, hk, hl, h => by
    simp only [List.cons_append, cellsEq] at h
    split at h
    · rename_i x y hx hy
      cases h
      obtain ⟨e1, e2, h1, h2, h3⟩ := cellsEq_append (by simpa using hk) (by simpa using hl) hy
      exact ⟨x && e1, e2, by simp [cellsEq, hx, h1], h2, by rw [h3, Bool.and_assoc]⟩
    · cases h

theorem part_Val {t : TypeId} {z : Nat} (hz : szOf P t = some z) {d : TypeDesc} (hu : P.underlying t = some d) (hone : aggB P t = false → z = 1) {as : List AV} {xs : Array Value} (hd : DVs w π as xs.toList) (hs : ∀ a ∈ as, a.scalar = true) {off : Nat} (hle : off + z ≤ as.length) :
    ∃ v, (part t xs off).run P w = .ok v w ∧ Val w π P t ((as.drop off).take z) v := by
  have h1 := run_agg (P := P) (w := w) hu
  have h2 := run_size (P := P) (w := w) hz
  have hl : xs.size = as.length := by have := hd.1; simp at this; omega
  cases hg : aggB P t with
  | true =>
    refine ⟨.agg (xs.extract off (off + z)), by simp [part, h1, hg, h2], ?_⟩
    unfold Val
    rw [if_pos hg]
    refine ⟨_, rfl, ⟨by simp; omega, fun i a v ha hv => ?_⟩, fun a ha => hs a (List.mem_of_mem_drop (List.mem_of_mem_take ha))⟩
    rw [List.getElem?_take] at ha
    split at ha
    · rename_i hi
      rw [List.getElem?_drop] at ha
      refine hd.2 (off + i) a v ha ?_
      have : xs.toList[off + i]? = (xs.extract off (off + z)).toList[i]? := by
        simp only [Array.getElem?_toList, Array.getElem?_extract]
        rw [if_pos (by omega)]
      rw [this]; exact hv
    · cases ha
  | false =>
    have hz1 := hone hg
    subst hz1
    have hlt : off < xs.size := by omega
    refine ⟨xs[off], by simp [part, h1, hg, hlt], ?_⟩
    unfold Val
    rw [if_neg (by simp [hg])]
    have hoff : off < as.length := by omega
    refine ⟨as[off], ?_, hd.2 off _ _ (List.getElem?_eq_getElem hoff) (by simp [hlt])⟩
    rw [List.drop_eq_getElem_cons hoff]
    rfl

theorem plainK_under {d t : Nat} {ks : List CK} (h : plainK P d t = some ks) : ∃ u, P.underlying t = some u ∧ (aggB P t = false → ks.length = 1) := by
  cases d with
  | zero => simp [plainK] at h
  | succ d =>
    simp only [plainK] at h
    split at h <;> first | (rename_i hu; cases h; exact ⟨_, hu, fun _ => rfl⟩) | skip
    · rename_i fs hu; exact ⟨_, hu, fun hg => by simp [aggB, hu] at hg⟩
    · rename_i k e hu; exact ⟨_, hu, fun hg => by simp [aggB, hu] at hg⟩
    · cases h

theorem cellsEq_one {k : CK} {a b : AV} {e : Bool} (h : cellsEq [k] [a] [b] = some e) : cellEq k a b = some e := by
  simp only [cellsEq] at h
  split at h
  · rename_i x y hx hy; cases h; cases hy; simp [hx]
  · cases h

theorem cellsEq_len : ∀ {ks : List CK} {as bs : List AV} {e : Bool}, cellsEq ks as bs = some e → ks.length = as.length ∧ as.length = bs.length
  | [], [], [], e, h => ⟨rfl, rfl⟩
  | [], [], b :: bs, _, h => by simp [cellsEq] at h
  | [], a :: as, _, _, h => by simp [cellsEq] at h
  | k :: ks, [], _, _, h => by simp [cellsEq] at h
  | k :: ks, a :: as, [], _, h => by simp [cellsEq] at h
  | k :: ks, a :: as, b :: bs, e, h => by
    simp only [cellsEq] at h
    split at h
    · rename_i x y hx hy
      obtain ⟨h1, h2⟩ := cellsEq_len hy
      simp [h1, h2]
    · cases h

theorem eq_run : ∀ (d : Nat) (t : TypeId) (ks : List CK), plainK P d t = some ks → ∀ (D : Nat), d ≤ D → ∀ (as bs : List AV) (x y : Value) (e : Bool), Val w π P t as x → Val w π P t bs y → cellsEq ks as bs = some e →
    (Op.equalIn D t x y).run P w = .ok e w := by
  intro d
  induction d with
  | zero => intro t ks h; simp [plainK] at h
  | succ d ih =>
    intro t ks h D hD as bs x y e hx hy he
    obtain ⟨D, rfl⟩ : ∃ D', D = D' + 1 := ⟨D - 1, by omega⟩
    obtain ⟨hla, hlb⟩ := cellsEq_len he
    simp only [plainK] at h
    -- the fields, one behind the other
    have hfields : ∀ (fs : List Field) (off : Nat) (ls : List CK), tileK P (plainK P d) fs off = some ls → ∀ (xs ys : Array Value) (e : Bool), DVs w π as xs.toList → (∀ a ∈ as, a.scalar = true) → DVs w π bs ys.toList → (∀ a ∈ bs, a.scalar = true) → cellsEq ls (as.drop off) (bs.drop off) = some e → (Op.eqFields D xs ys fs).run P w = .ok e w := by
      intro fs
      induction fs with
      | nil =>
        intro off ls ht xs ys e h1 h2 h3 h4 he
        simp [tileK] at ht
        subst ht
        obtain ⟨k1, k2⟩ := cellsEq_len he
        have n1 : as.drop off = [] := List.eq_nil_of_length_eq_zero k1.symm
        have n2 : bs.drop off = [] := List.eq_nil_of_length_eq_zero (by rw [← k2, ← k1]; rfl)
        rw [n1, n2] at he
        simp [cellsEq] at he
        subst he
        rfl
      | cons f fs ihf =>
        intro off ls ht xs ys e h1 h2 h3 h4 he
        simp only [tileK] at ht
        split at ht
        · cases ht
        · rename_i hname
          split at ht
          · rename_i ms hz
            split at ht
            · rename_i hsz
              obtain ⟨hsz, hpos⟩ := hsz
              simp only [Option.map_eq_some_iff] at ht
              obtain ⟨ls', ht, rfl⟩ := ht
              obtain ⟨k1, k2⟩ := cellsEq_len he
              simp only [List.length_append, List.length_drop] at k1 k2
              obtain ⟨u, hu, hone⟩ := plainK_under hz
              have hoff : f.offset = off := by
                have := not_or.1 hname
                simpa using this.2
              have hnm : f.name ≠ "_" := (not_or.1 hname).1
              have hma : off + ms.length ≤ as.length := by omega
              obtain ⟨va, hva, hVa⟩ := part_Val (P := P) hsz hu hone h1 h2 (off := off) (by omega)
              obtain ⟨vb, hvb, hVb⟩ := part_Val (P := P) hsz hu hone h3 h4 (off := off) (by omega)
              have hsplit : ∀ l : List AV, l.drop off = (l.drop off).take ms.length ++ l.drop (off + ms.length) := by
                intro l
                rw [← List.drop_drop, List.take_append_drop]
              rw [hsplit as, hsplit bs] at he
              obtain ⟨e1, e2, he1, he2, rfl⟩ := cellsEq_append (by simp; omega) (by simp; omega) he
              have hr := ih f.type ms hz D (by omega) _ _ va vb e1 hVa hVb he1
              have hrest := ihf (off + ms.length) ls' ht xs ys e2 h1 h2 h3 h4 he2
              simp only [Op.eqFields, if_pos hnm, hoff, Sem.run_bind, hva, hvb, Result.andThen_ok, hr]
              cases e1
              · simp
              · simpa using hrest
            · cases ht
          · cases ht
    have hscalar : aggB P t = false → ∃ a b, as = [a] ∧ bs = [b] ∧ DV w π a x ∧ DV w π b y := by
      intro hg
      simp only [Val, hg, Bool.false_eq_true, if_false] at hx hy
      obtain ⟨a, rfl, ha⟩ := hx
      obtain ⟨b, rfl, hb⟩ := hy
      exact ⟨a, b, rfl, rfl, ha, hb⟩
    split at h
    · rename_i hu
      cases h
      obtain ⟨a, b, rfl, rfl, ha, hb⟩ := hscalar (by simp [aggB, hu])
      have hc := cellsEq_one he
      cases a <;> cases b <;> simp only [cellEq] at hc <;> try (cases hc; done)
      cases ha; cases hb; cases hc
      exact run_equalIn_bool' w D t _ _ hu
    · rename_i k hu
      cases h
      obtain ⟨a, b, rfl, rfl, ha, hb⟩ := hscalar (by simp [aggB, hu])
      have hc := cellsEq_one he
      cases a <;> cases b <;> simp only [cellEq] at hc <;> try (cases hc; done)
      split at hc
      · rename_i hk
        subst hk
        cases ha; cases hb; cases hc
        exact run_equalIn_int w D t _ k _ _ hu
      · cases hc
    · rename_i k hu
      cases h
      obtain ⟨a, b, rfl, rfl, ha, hb⟩ := hscalar (by simp [aggB, hu])
      have hc := cellsEq_one he
      cases a <;> cases b <;> simp only [cellEq] at hc <;> try (cases hc; done)
      split at hc
      · rename_i hk
        subst hk
        cases ha; cases hb; cases hc
        simp [Op.equalIn, run_underlying hu, Op.floatEq]
      · cases hc
    · rename_i hu
      cases h
      obtain ⟨a, b, rfl, rfl, ha, hb⟩ := hscalar (by simp [aggB, hu])
      have hc := cellsEq_one he
      cases a <;> cases b <;> simp only [cellEq] at hc <;> try (cases hc; done)
      cases ha; cases hb; cases hc
      simp [Op.equalIn, run_underlying hu]
    · rename_i fs hu
      split at h
      · cases h
      · rename_i hst
        simp only [Val, aggB, hu, if_true] at hx hy
        obtain ⟨xs, rfl, hxd, hxs⟩ := hx
        obtain ⟨ys, rfl, hyd, hys⟩ := hy
        have hfo : P.fieldsOf t = fs := by simp [Program.fieldsOf, hu]
        rw [run_equalIn_struct w D t xs ys (by rw [hfo]; exact hu) (by simpa using hst), hfo]
        exact hfields fs.toList 0 ks h xs ys e hxd hxs hyd hys (by simpa using he)
    · rename_i k el hu
      split at h
      · rename_i ms hz
        split at h
        · rename_i hsz
          cases h
          simp only [Val, aggB, hu, if_true] at hx hy
          obtain ⟨xs, rfl, hxd, hxs⟩ := hx
          obtain ⟨ys, rfl, hyd, hys⟩ := hy
          obtain ⟨i, hi⟩ : ∃ i, P.info? el = some i := by
            simp only [szOf, Option.map_eq_some_iff] at hsz
            obtain ⟨i, hi, _⟩ := hsz
            exact ⟨i, hi⟩
          rw [run_equalIn_array w D xs ys hu hi]
          obtain ⟨u, hue, hone⟩ := plainK_under hz
          have hcz : P.cellsOf el = ms.length := by
            have := hsz
            simp only [szOf] at this
            simp [Program.cellsOf, this]
          rw [hcz]
          have hlk : as.length = k * ms.length := by rw [← hla]; simp
          -- item by item
          have hitems : ∀ (m off : Nat), off + m = k → ∀ e, cellsEq (List.replicate m ms).flatten (as.drop (off * ms.length)) (bs.drop (off * ms.length)) = some e → (Op.eqItems D el ms.length xs ys ((List.range m).map (· + off))).run P w = .ok e w := by
            intro m
            induction m with
            | zero =>
              intro off hoff e2 he2
              have hoff' : off = k := by omega
              rw [hoff'] at he2
              have n1 : as.drop (k * ms.length) = [] := List.drop_eq_nil_of_le (by omega)
              have n2 : bs.drop (k * ms.length) = [] := List.drop_eq_nil_of_le (by omega)
              rw [n1, n2] at he2
              simp [cellsEq] at he2
              subst he2
              rfl
            | succ m ihm =>
              intro off hoff e he
              have hle : off * ms.length + ms.length ≤ k * ms.length := by
                have : (off + 1) * ms.length ≤ k * ms.length := Nat.mul_le_mul_right ms.length (by omega)
                rw [Nat.add_mul] at this; omega
              obtain ⟨va, hva, hVa⟩ := part_Val (P := P) hsz hue hone hxd hxs (off := off * ms.length) (by omega)
              obtain ⟨vb, hvb, hVb⟩ := part_Val (P := P) hsz hue hone hyd hys (off := off * ms.length) (by omega)
              have hsplit : ∀ l : List AV, l.drop (off * ms.length) = (l.drop (off * ms.length)).take ms.length ++ l.drop ((off + 1) * ms.length) := by
                intro l
                rw [show (off + 1) * ms.length = off * ms.length + ms.length by rw [Nat.add_mul]; omega, ← List.drop_drop, List.take_append_drop]
              rw [hsplit as, hsplit bs, List.replicate_succ, List.flatten_cons] at he
              obtain ⟨e1, e2, he1, he2, rfl⟩ := cellsEq_append (by simp; omega) (by simp; omega) he
              have hr := ih el ms hz D (by omega) _ _ va vb e1 hVa hVb he1
              have hrest := ihm (off + 1) (by omega) e2 he2
              have hl : (List.range (m + 1)).map (· + off) = off :: (List.range m).map (· + (off + 1)) := by
                rw [List.range_succ_eq_map]
                simp
                intro q _
                omega
              rw [hl]
              simp only [Op.eqItems, Sem.run_bind, hva, hvb, Result.andThen_ok, hr]
              cases e1
              · simp
              · simpa using hrest
          have := hitems k 0 (by omega) e (by simpa using he)
          simpa using this
        · cases h
      · cases h
    · cases h
end
end Go.Eng
