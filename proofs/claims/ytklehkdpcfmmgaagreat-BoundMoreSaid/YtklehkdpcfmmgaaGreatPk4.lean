/- The engine and the library, part 4 of 7: what the proofs of this seat need of them. -/
import Derived.Test.YtklehkdpcfmmgaaGreatPk3
namespace Go.Eng
set_option linter.unusedVariables false
set_option linter.unusedSimpArgs false
set_option linter.unnecessarySimpa false
open Go
set_option linter.unusedVariables false
set_option linter.unusedSimpArgs false
set_option maxRecDepth 10000
set_option maxHeartbeats 4000000
def limN (groups g : Nat) : Nat := 8 - (groups - 1 - g)
def rowN (p m : Nat) : List Int := (List.range m).map fun (j : Nat) => ((p + j : Nat) : Int)
def cnt (l : Option (List Int)) (g k : Nat) (r0 : Nat) : Nat :=
  let n := (frm l (1 + 2 * g + k) 3).toNat
  if k = 1 ∧ n = 0 ∧ r0 = 0 then 1 else n
def fillN (n p lim : Nat) : Nat := min n (lim - p)
def rowsTo (l : Option (List Int)) (groups : Nat) : Nat → List Gr × Nat
  | 0 => ([], 0)
  | g + 1 =>
    let q := rowsTo l groups g
    let m0 := fillN (cnt l g 0 0) q.2 (limN groups g)
    let m1 := fillN (cnt l g 1 m0) (q.2 + m0) (limN groups g)
    (q.1 ++ [⟨mkO (rowN q.2 m0), mkO (rowN (q.2 + m0) m1)⟩], q.2 + m0 + m1)
def groupsN (l : Option (List Int)) : Nat := (1 + frm l 0 3).toNat
def rows.Spec (C : Con) (f : Nat) : Prop := ∀ (t : Tb) (l : Option (List Int)), t.Ok → t.groups = none → C.p f [t.cells] [none, some (slAV intRow l)] (I ((rowsTo l (groupsN l) (groupsN l)).2 : Nat)) none [({ t with groups := some (rowsTo l (groupsN l) (groupsN l)).1 } : Tb).cells]
theorem Tb.len' {t : Tb} (h1 : t.phases.length = 8) (h2 : t.conflict.length = 8) (h3 : t.flash.length = 8) : t.cells.length = 131 := by
  simp [Tb.cells, flatMap_len Ph.len, h1, h2, h3]
theorem Tb.groups_at' {t : Tb} (h : t.phases.length = 8) : t.cells[104]? = some (slAV Gr.cells t.groups) := by
  simp [Tb.cells, List.getElem?_append, flatMap_len Ph.len, h]
theorem Tb.set_groups {t : Tb} (h : t.phases.length = 8) (g : Option (List Gr)) : t.cells.take 104 ++ (slAV Gr.cells g :: t.cells.drop 105) = ({ t with groups := g } : Tb).cells := by
  have e : (t.phases.flatMap Ph.cells).length = 104 := by rw [flatMap_len Ph.len, h]
  simp only [Tb.cells]
  rw [List.take_append_of_le_length (by omega), List.take_of_length_le (by omega), List.drop_append, List.drop_of_length_le (by omega), e]
  rfl
theorem aops_ex {C : Con} {base : Nat} : ∀ {l : List CO} {i : Nat} {s : S} {K : S → Prop}, aops C base i l K s → ∃ s', K s' ∧ ∀ K' : S → Prop, K' s' → aops C base i l K' s
  | [], i, s, K, h => ⟨s, h, fun _ h => h⟩
  | o :: l, i, s, K, h => by
    rw [aops_cons] at h
    obtain ⟨v, d, hd, hk', _⟩ := astep_path h
    obtain ⟨s', h1, h2⟩ := aops_ex hk'
    refine ⟨s', h1, fun K' hK => ?_⟩
    rw [aops_cons]
    exact hd.2 s .refl _ (h2 K' hK)
theorem aw_ex {C : Con} : ∀ {c : CCode} {Q : Exit → S → Prop} {s : S}, aw C c Q s → ∃ e s', Q e s' ∧ ∀ Q' : Exit → S → Prop, Q' e s' → aw C c Q' s := by
  intro c
  induction c with
  | skip => intro Q s h; exact ⟨_, _, h, fun _ h => h⟩
  | reg ops =>
    intro Q s h
    obtain ⟨s', h1, h2⟩ := aops_ex h
    exact ⟨_, _, h1, fun Q' hq => h2 _ hq⟩
  | seq a b iha ihb =>
    intro Q s h
    obtain ⟨e, s', h1, h2⟩ := iha h
    cases e with
    | normal =>
      obtain ⟨e, s'', h3, h4⟩ := ihb h1
      exact ⟨e, s'', h3, fun Q' hq => h2 _ (h4 _ hq)⟩
    | exit i => exact ⟨_, _, h1, fun Q' hq => h2 _ hq⟩
    | ret => exact ⟨_, _, h1, fun Q' hq => h2 _ hq⟩
    | _ => exact ⟨_, _, h1, fun Q' hq => h2 _ hq⟩
  | join a b iha ihb =>
    intro Q s h
    obtain ⟨e, s', h1, h2⟩ := iha h
    cases e with
    | normal =>
      obtain ⟨s1, ⟨hl, hF⟩ | hF⟩ := h1
      · obtain ⟨e, s'', h3, h4⟩ := ihb hF
        exact ⟨e, s'', h3, fun Q' hq => h2 _ ⟨s1, .inl ⟨hl, h4 _ hq⟩⟩⟩
      · obtain ⟨e, s'', h3, h4⟩ := ihb hF
        exact ⟨e, s'', h3, fun Q' hq => h2 _ ⟨s1, .inr (h4 _ hq)⟩⟩
    | exit i => exact ⟨_, _, h1, fun Q' hq => h2 _ hq⟩
    | ret => exact ⟨_, _, h1, fun Q' hq => h2 _ hq⟩
    | _ => exact ⟨_, _, h1, fun Q' hq => h2 _ hq⟩
  | cond c a b iha ihb =>
    intro Q s h
    simp only [aw] at h ⊢
    obtain ⟨v, hv, hw⟩ := withV_inv h
    cases v <;> try (exact hw.elim)
    rename_i t
    cases t with
    | true =>
      obtain ⟨e, s', h1, h2⟩ := iha (hw.1 rfl)
      exact ⟨e, s', h1, fun Q' hq => by rw [hv]; exact ⟨fun _ => h2 _ hq, fun h => by cases h⟩⟩
    | false =>
      obtain ⟨e, s', h1, h2⟩ := ihb (hw.2 rfl)
      exact ⟨e, s', h1, fun Q' hq => by rw [hv]; exact ⟨fun h => (by cases h), fun _ => h2 _ hq⟩⟩
  | label l => intro Q s h; exact ⟨_, _, h, fun _ h => h⟩
  | goto l => intro Q s h; exact ⟨_, _, h, fun _ h => h⟩
  | scope l c r ihc ihr =>
    intro Q s h
    obtain ⟨e, s', h1, h2⟩ := ihc h
    cases e with
    | goto l' =>
      obtain ⟨hl, h1⟩ := h1
      obtain ⟨e, s'', h3, h4⟩ := ihr h1
      cases e with
      | goto l2 => exact h3.elim
      | _ => exact ⟨_, s'', h3, fun Q' hq => h2 (scopeQ l (aw C r (noGo Q')) Q') ⟨hl, h4 (noGo Q') hq⟩⟩
    | _ => exact ⟨_, _, h1, fun Q' hq => h2 (scopeQ l (aw C r (noGo Q')) Q') hq⟩
  | block id c ih =>
    intro Q s h
    obtain ⟨e, s', h1, h2⟩ := ih h
    cases e with
    | exit i =>
      simp only [ablock] at h1
      by_cases hi : i = id
      · rw [if_pos hi] at h1
        exact ⟨_, _, h1, fun Q' hq => h2 _ (by simp only [ablock, if_pos hi]; exact hq)⟩
      · rw [if_neg hi] at h1
        exact ⟨_, _, h1, fun Q' hq => h2 _ (by simp only [ablock, if_neg hi]; exact hq)⟩
    | _ => exact ⟨_, _, h1, fun Q' hq => h2 _ hq⟩
  | loop c ih =>
    have key : ∀ (n : Nat) {Q : Exit → S → Prop} {s : S}, ARounds (aw C c) Q n s → ∃ e s', Q e s' ∧ ∀ Q' : Exit → S → Prop, Q' e s' → ARounds (aw C c) Q' n s := by
      intro n
      induction n with
      | zero => intro Q s h; exact h.elim
      | succ n ihn =>
        intro Q s h
        obtain ⟨e, s', h1, h2⟩ := ih h
        cases e with
        | normal =>
          obtain ⟨s1, ⟨hl, hF⟩ | hF⟩ := h1
          · obtain ⟨e, s'', h3, h4⟩ := ihn hF
            exact ⟨e, s'', h3, fun Q' hq => h2 _ ⟨s1, .inl ⟨hl, h4 _ hq⟩⟩⟩
          · obtain ⟨e, s'', h3, h4⟩ := ihn hF
            exact ⟨e, s'', h3, fun Q' hq => h2 _ ⟨s1, .inr (h4 _ hq)⟩⟩
        | exit i => exact ⟨_, _, h1, fun Q' hq => h2 _ hq⟩
        | ret => exact ⟨_, _, h1, fun Q' hq => h2 _ hq⟩
        | _ => exact ⟨_, _, h1, fun Q' hq => h2 _ hq⟩
    intro Q s h
    obtain ⟨s1, ⟨hl, n, hF⟩ | ⟨n, hF⟩⟩ := h
    · obtain ⟨e, s'', h3, h4⟩ := key n hF
      exact ⟨e, s'', h3, fun Q' hq => ⟨s1, .inl ⟨hl, n, h4 _ hq⟩⟩⟩
    · obtain ⟨e, s'', h3, h4⟩ := key n hF
      exact ⟨e, s'', h3, fun Q' hq => ⟨s1, .inr ⟨n, h4 _ hq⟩⟩⟩
  | exit id => intro Q s h; exact ⟨_, _, h, fun _ h => h⟩
  | ret => intro Q s h; exact ⟨_, _, h, fun _ h => h⟩
  | regD ops bad =>
    intro Q s h
    obtain ⟨s', h1, h2⟩ := aops_ex h.2
    exact ⟨_, _, h1, fun Q' hq => ⟨h.1, h2 _ hq⟩⟩
  | rfor g ps wr as bd iha ihb =>
    intro Q s h
    simp only [aw] at h
    obtain ⟨gv, hgv, xs, h1, h2, F, h3, h4, h5, h6⟩ := withV_inv h
    have mono : ∀ {F F' : S → Prop} {Q : Exit → S → Prop} {t : S}, (∀ s, F s → F' s) → aw C as (onlyN (aw C bd (rfQ wr F Q))) t → aw C as (onlyN (aw C bd (rfQ wr F' Q))) t := by
      intro F F' Q t hF h
      refine aw_mono (fun e s ha => ?_) h
      cases e <;> first | exact ha.elim | skip
      refine aw_mono (fun e s hb => ?_) ha
      cases e <;> first | exact down_mono hF hb | exact hb
    have key : ∀ n i s', xs.length - i = n → i ≤ xs.length → F i s' → ∃ e s'', Q e s'' ∧ ∀ Q' : Exit → S → Prop, Q' e s'' → ∃ F' : Nat → S → Prop, F' i s' ∧ (∀ j t, F' j t → i ≤ j ∧ opdA t g = some gv) ∧
        (∀ j x t, xs[j]? = some x → F' j t → aw C as (onlyN (aw C bd (rfQ wr (F' (j + 1)) Q'))) (putPs ps x t)) ∧ ∀ t, F' xs.length t → Q' .normal t := by
      intro n
      induction n with
      | zero =>
        intro i s' hn hi hF
        have hi : i = xs.length := by omega
        subst hi
        exact ⟨.normal, s', h6 s' hF, fun Q' hq => ⟨fun j t => j = xs.length ∧ t = s', ⟨rfl, rfl⟩, fun j t ⟨e, e'⟩ => by subst e; subst e'; exact ⟨Nat.le_refl _, h4 _ _ hF⟩,
          fun j x t hx ⟨e, _⟩ => by subst e; simp at hx, fun t ⟨_, e⟩ => by subst e; exact hq⟩⟩
      | succ n ih =>
        intro i s' hn hi hF
        have hlt : i < xs.length := by omega
        have hx : xs[i]? = some xs[i] := by simp [hlt]
        obtain ⟨e1, s1, k1, k2⟩ := iha (h5 i _ s' hx hF)
        cases e1 <;> try exact k1.elim
        obtain ⟨e2, s2, k3, k4⟩ := ihb k1
        have stop : ∀ (e : Exit) (s'' : S), Q e s'' → (∀ (F' : S → Prop) (Q' : Exit → S → Prop), Q' e s'' → rfQ wr F' Q' e2 s2) → ∃ e s'', Q e s'' ∧ ∀ Q' : Exit → S → Prop, Q' e s'' → ∃ F' : Nat → S → Prop, F' i s' ∧ (∀ j t, F' j t → i ≤ j ∧ opdA t g = some gv) ∧
            (∀ j x t, xs[j]? = some x → F' j t → aw C as (onlyN (aw C bd (rfQ wr (F' (j + 1)) Q'))) (putPs ps x t)) ∧ ∀ t, F' xs.length t → Q' .normal t := by
          intro e s'' hq hr
          refine ⟨e, s'', hq, fun Q' hq' => ⟨fun j t => j = i ∧ t = s', ⟨rfl, rfl⟩, fun j t ⟨e, e'⟩ => by subst e; subst e'; exact ⟨Nat.le_refl _, h4 _ _ hF⟩, fun j x t hx' ⟨e, e'⟩ => ?_, fun t ⟨e, _⟩ => by omega⟩⟩
          subst e; subst e'
          rw [hx] at hx'; cases hx'
          exact k2 _ (k4 _ (hr _ _ hq'))
        cases e2 with
        | normal =>
          obtain ⟨s3, hs3⟩ : ∃ s3, F (i + 1) s3 ∧ (Le (cutS wr s2) s3 ∨ s3 = cutS wr s2) := by
            obtain ⟨s3, ⟨hl, hf⟩ | hf⟩ := (show Eng.down (F (i + 1)) (cutS wr s2) from k3)
            · exact ⟨s3, hf, .inl hl⟩
            · exact ⟨_, hf, .inr rfl⟩
          obtain ⟨e, s'', hq, hre⟩ := ih (i + 1) s3 (by omega) (by omega) hs3.1
          refine ⟨e, s'', hq, fun Q' hq' => ?_⟩
          obtain ⟨F'', g1, g2, g3, g4⟩ := hre Q' hq'
          refine ⟨fun j t => (j = i ∧ t = s') ∨ F'' j t, .inl ⟨rfl, rfl⟩, fun j t ht => ?_, fun j x t hx' ht => ?_, fun t ht => ?_⟩
          · rcases ht with ⟨rfl, rfl⟩ | ht
            · exact ⟨Nat.le_refl _, h4 _ _ hF⟩
            · exact ⟨by have := (g2 j t ht).1; omega, (g2 j t ht).2⟩
          · rcases ht with ⟨rfl, rfl⟩ | ht
            · rw [hx] at hx'; cases hx'
              refine k2 _ (k4 _ (show Eng.down _ _ from ?_))
              rcases hs3.2 with hl | hl
              · exact ⟨s3, .inl ⟨hl, .inr g1⟩⟩
              · rw [← hl]; exact down_refl (.inr g1)
            · exact mono (fun _ h => .inr h) (g3 j x t hx' ht)
          · rcases ht with ⟨e, _⟩ | ht
            · omega
            · exact g4 t ht
        | ret => exact stop .ret _ k3 fun _ _ h => h
        | exit id => exact stop (.exit id) _ k3 fun _ _ h => h
        | _ => exact k3.elim
    obtain ⟨s0, h0⟩ : ∃ s0, F 0 s0 ∧ (Le s s0 ∨ s0 = s) := by
      obtain ⟨s0, ⟨hl, hf⟩ | hf⟩ := h3
      · exact ⟨s0, hf, .inl hl⟩
      · exact ⟨_, hf, .inr rfl⟩
    obtain ⟨e, s'', hq, hre⟩ := key _ 0 s0 rfl (Nat.zero_le _) h0.1
    refine ⟨e, s'', hq, fun Q' hq' => ?_⟩
    obtain ⟨F', g1, g2, g3, g4⟩ := hre Q' hq'
    simp only [aw, hgv]
    refine ⟨xs, h1, h2, F', ?_, fun j t ht => (g2 j t ht).2, g3, g4⟩
    rcases h0.2 with hl | hl
    · exact ⟨s0, .inl ⟨hl, g1⟩⟩
    · rw [← hl]; exact down_refl g1
theorem aw_unroll {C : Con} {c : CCode} {Q : Exit → S → Prop} {s : S} (h : aw C c (athen (aw C (.loop c) Q) Q) s) : aw C (.loop c) Q s := by
  obtain ⟨e, s', h1, h2⟩ := aw_ex h
  cases e with
  | normal =>
    obtain ⟨s1, ⟨hl, n, hF⟩ | ⟨n, hF⟩⟩ := h1
    · exact down_refl ⟨n + 1, h2 _ ⟨s1, .inl ⟨hl, hF⟩⟩⟩
    · exact down_refl ⟨n + 1, h2 _ ⟨s1, .inr hF⟩⟩
  | exit i => exact down_refl ⟨1, h2 _ h1⟩
  | ret => exact down_refl ⟨1, h2 _ h1⟩
  | _ => exact down_refl ⟨1, h2 _ h1⟩
theorem rowN_succ (p i : Nat) : rowN p (i + 1) = rowN p i ++ [((p + i : Nat) : Int)] := by simp [rowN, List.range_succ]
theorem rowsTo_le (l : Option (List Int)) (G : Nat) : ∀ g, (rowsTo l G g).2 ≤ 8
  | 0 => by simp [rowsTo]
  | g + 1 => by
    have := rowsTo_le l G g
    simp only [rowsTo, fillN, limN]
    omega
theorem rowsTo_len (l : Option (List Int)) (G : Nat) : ∀ g, (rowsTo l G g).1.length = g
  | 0 => by simp [rowsTo]
  | g + 1 => by
    have := rowsTo_len l G g
    simp only [rowsTo, List.length_append, List.length_cons, List.length_nil]
    omega
def Cut {α : Type} (ex : Exit) (st : α → S) (J : α → Prop) (e : Exit) (s : S) : Prop := e = ex ∧ ∃ y, J y ∧ Le s (st y)
theorem cut_at {α : Type} {ex : Exit} {st : α → S} {J : α → Prop} {s : S} (y : α) (hy : J y) (hle : Le s (st y)) : Cut ex st J ex s := ⟨rfl, y, hy, hle⟩
theorem aw_cut {C : Con} {c : CCode} {Q : Exit → S → Prop} {s : S} {F : S → Prop} {α : Type} (ex : Exit) (st : α → S) (J : α → Prop) (hQ : ∀ s', Q ex s' = down F s') (h1 : aw C c (Cut ex st J) s) (h2 : ∀ y, J y → F (st y)) : aw C c Q s := by
  refine aw_mono ?_ h1
  rintro e s' ⟨rfl, y, hy, hle⟩
  rw [hQ]
  exact ⟨st y, .inl ⟨hle, h2 y hy⟩⟩
theorem wrap_01 : IntKind.i64.wrap (0 + 1) = 1 := by decide
theorem wrap_11 : IntKind.i64.wrap (1 + 1) = 2 := by decide
theorem slAV_none {α : Type} (f : α → List AV) : slAV f none = .nils := rfl
theorem slAV_some {α : Type} (f : α → List AV) (l : List α) : slAV f (some l) = .sl (l.map f) := rfl
section
variable {P : Program} (hm : P.follows .mixedOrders = true) {f : Nat}
include hm
theorem rows.ok {fF e eR : Nat} (hc : cFn P f = some (cc_law00_rows fF e eR)) (hF : from.Spec (Pure P) fF) : rows.Spec (Pure P) f := by
  intro t l ht hg0
  have hl := Tb.len ht
  have hp := Tb.whole ht
  refine pureB_of hm hc (by show 2 ≤ 78; decide) rfl (by simp) (aw_flat (keep := [3,5]) (i := 0) ?_)
  try simp only [I, B, D, RX, ↓ KW, Nat.reduceBEq, Nat.reduceAdd, Nat.reduceLeDiff, Int.reduceNe, Int.reduceBEq, Int.reduceEq, reduceCtorEq, Nat.reduceMul, Int.reduceLT, Int.reduceLE, Int.reduceToNat, cc_law00_rows, Z.H]
  have hgr := frm_range l 0 (n := 3) (by decide) (by decide)
  refine call_is (hF _ _ _ (by decide)) ?_
  try simp only [I, B, D, RX, ↓ KW, Nat.reduceBEq, Nat.reduceAdd, Nat.reduceLeDiff, Int.reduceNe, Int.reduceBEq, Int.reduceEq, reduceCtorEq, Nat.reduceMul, Int.reduceLT, Int.reduceLE, Int.reduceToNat]
  have hgn : IntKind.i64.wrap (1 + frm l 0 3) = (groupsN l : Nat) := by
    rw [wrap_id (by omega) (by omega), groupsN]; omega
  have hg3 : 1 ≤ groupsN l ∧ groupsN l ≤ 3 := by unfold groupsN; omega
  rw [hgn]
  generalize groupsN l = G at *
  refine aw_loop' (fun g : Nat => (⟨[(7, .dat (I g) none), (5, .dat (I G) none), (1, .dat (slAV intRow l) none), (6, .dat (I (rowsTo l G g).2) none), (0, .ptr 0 0)], [(0, ⟨({ t with groups := mkO (rowsTo l G g).1 } : Tb).cells, if (rowsTo l G g).1 = [] then [] else [(104, 0)]⟩)], ownL (rowsTo l G g).1 0 eR, 400⟩ : S)) (fun g => G - g) (fun g => g ≤ G) ?_ 0 (by omega) ?_
  · intro g hg A back
    have hw := wrap_succ (k := g) (by omega)
    have hn2 : rowsTo l G (g + 1) = ((rowsTo l G g).1 ++ [⟨mkO (rowN (rowsTo l G g).2 (fillN (cnt l g 0 0) (rowsTo l G g).2 (limN G g))), mkO (rowN ((rowsTo l G g).2 + fillN (cnt l g 0 0) (rowsTo l G g).2 (limN G g)) (fillN (cnt l g 1 (fillN (cnt l g 0 0) (rowsTo l G g).2 (limN G g))) ((rowsTo l G g).2 + fillN (cnt l g 0 0) (rowsTo l G g).2 (limN G g)) (limN G g)))⟩], (rowsTo l G g).2 + fillN (cnt l g 0 0) (rowsTo l G g).2 (limN G g) + fillN (cnt l g 1 (fillN (cnt l g 0 0) (rowsTo l G g).2 (limN G g))) ((rowsTo l G g).2 + fillN (cnt l g 0 0) (rowsTo l G g).2 (limN G g)) (limN G g)) := rfl
    have hp8 : (rowsTo l G g).2 ≤ 8 := rowsTo_le l G g
    have hgl : (rowsTo l G g).1.length = g := rowsTo_len l G g
    generalize hR : rowsTo l G g = R at *
    obtain ⟨gs, p⟩ := R
    simp only at hn2 hp8 hgl
    have hc0 : frm l (1 + 2 * (g : Int) + 0) 3 = (cnt l g 0 0 : Nat) := by
      have := frm_range l (1 + 2 * (g : Int) + 0) (n := 3) (by decide) (by decide)
      have hc : cnt l g 0 0 = (frm l (1 + 2 * (g : Int) + 0) 3).toNat := by simp [cnt]
      rw [hc]; omega
    have hw1 : IntKind.i64.wrap (IntKind.i64.wrap (1 + IntKind.i64.wrap (2 * (g : Int))) + 0) = 1 + 2 * (g : Int) + 0 := by
      rw [wrap_id (n := 2 * (g : Int)) (by omega) (by omega), wrap_id (n := 1 + 2 * (g : Int)) (by omega) (by omega), wrap_id (by omega) (by omega)]
    have hw2 : IntKind.i64.wrap (IntKind.i64.wrap (1 + IntKind.i64.wrap (2 * (g : Int))) + 1) = 1 + 2 * (g : Int) + 1 := by
      rw [wrap_id (n := 2 * (g : Int)) (by omega) (by omega), wrap_id (n := 1 + 2 * (g : Int)) (by omega) (by omega), wrap_id (by omega) (by omega)]
    have hlim : IntKind.i64.wrap (8 - IntKind.i64.wrap (IntKind.i64.wrap ((G : Int) - 1) - (g : Int))) = if g < G then ((limN G g : Nat) : Int) else (8 - ((G : Int) - 1 - g) : Int) := by
      rw [wrap_id (n := (G : Int) - 1) (by omega) (by omega), wrap_id (n := (G : Int) - 1 - g) (by omega) (by omega), wrap_id (by omega) (by omega)]
      split <;> simp [limN] <;> omega
    by_cases hgs : gs = []
    all_goals
      try simp only [I, B, D, RX, ↓ KW, Nat.reduceBEq, Nat.reduceAdd, Nat.reduceLeDiff, Int.reduceNe, Int.reduceBEq, Int.reduceEq, reduceCtorEq, Nat.reduceMul, Int.reduceLT, Int.reduceLE, Int.reduceToNat, hgs, ownL, mkO]
      refine cd_split (fun h => ?_) (fun h => ?_) <;> try simp only [I, B, D, RX, ↓ KW, Nat.reduceBEq, Nat.reduceAdd, Nat.reduceLeDiff, Int.reduceNe, Int.reduceBEq, Int.reduceEq, reduceCtorEq, Nat.reduceMul, Int.reduceLT, Int.reduceLE, Int.reduceToNat, hgs, ownL, mkO, h]
      · have hlt : g < G := by have := of_decide_eq_true h; omega
        rw [if_pos hlt] at hlim
        generalize hc0' : cnt l g 0 0 = n0 at *
        refine aw_cut (.exit 2) (fun _ : Unit => (⟨[(6, .dat (I (p + fillN n0 p (limN G g) + fillN (cnt l g 1 (fillN n0 p (limN G g))) (p + fillN n0 p (limN G g)) (limN G g) : Nat)) none), (5, .dat (I G) none), (7, .dat (I g) none), (8, .ptr 403 0), (1, .dat (slAV intRow l) none), (0, .ptr 0 0)], [(403, ⟨[slAV intRow (mkO (rowN p (fillN n0 p (limN G g)))), slAV intRow (mkO (rowN (p + fillN n0 p (limN G g)) (fillN (cnt l g 1 (fillN n0 p (limN G g))) (p + fillN n0 p (limN G g)) (limN G g))))], []⟩), (0, ⟨({ t with groups := mkO gs } : Tb).cells, if gs = [] then [] else [(104, 0)]⟩)], ownL gs 0 eR, 1000⟩ : S)) (fun _ => True) (fun _ => rfl) ?_ ?_
        · refine aw_unroll ?_
          try simp only [I, B, D, RX, ↓ KW, Nat.reduceBEq, Nat.reduceAdd, Nat.reduceLeDiff, Int.reduceNe, Int.reduceBEq, Int.reduceEq, reduceCtorEq, Nat.reduceMul, Int.reduceLT, Int.reduceLE, Int.reduceToNat, hgs]
          refine call_is (hF _ _ _ (by decide)) ?_
          try simp only [I, B, D, RX, ↓ KW, Nat.reduceBEq, Nat.reduceAdd, Nat.reduceLeDiff, Int.reduceNe, Int.reduceBEq, Int.reduceEq, reduceCtorEq, Nat.reduceMul, Int.reduceLT, Int.reduceLE, Int.reduceToNat, hw1, hc0, hgs]
          refine aw_cut (.exit 4) (fun _ : Unit => (⟨[(9, .dat (I 0) none), (6, .dat (I (p + fillN n0 (p) (limN G g) : Nat)) none), (5, .dat (I G) none), (7, .dat (I g) none), (8, .ptr 403 0), (1, .dat (slAV intRow l) none), (0, .ptr 0 0)], [(403, ⟨[slAV intRow (mkO (rowN (p) (fillN n0 (p) (limN G g)))), .nils], []⟩), (0, ⟨({ t with groups := mkO gs } : Tb).cells, if gs = [] then [] else [(104, 0)]⟩)], ownL gs 0 eR, 1000⟩ : S)) (fun _ => True) (fun _ => rfl) ?_ ?_
          · refine aw_loop' (fun i : Nat => (⟨[(11, .dat (I i) none), (10, .dat (I n0) none), (6, .dat (I (p + i : Nat)) none), (5, .dat (I G) none), (7, .dat (I g) none), (9, .dat (I 0) none), (8, .ptr 403 0), (1, .dat (slAV intRow l) none), (0, .ptr 0 0)], [(403, ⟨[slAV intRow (mkO (rowN (p) i)), .nils], if rowN (p) i = [] then [] else [(0, 1)]⟩), (0, ⟨({ t with groups := mkO gs } : Tb).cells, if gs = [] then [] else [(104, 0)]⟩)], ownL (rowN (p) i) 1 e ++ ownL gs 0 eR, 1000⟩ : S)) (fun i => fillN n0 (p) (limN G g) - i) (fun i => i ≤ fillN n0 (p) (limN G g)) ?_ 0 (by omega) ?_
            · intro i hi A1 back1
              have hfl : fillN n0 (p) (limN G g) ≤ 8 := by simp only [fillN, limN]; omega
              have hw3 := wrap_succ (k := i) (by omega)
              have hf : fillN n0 (p) (limN G g) = min n0 (limN G g - (p)) := rfl
              have hp1 : IntKind.i64.wrap (((p + i : Nat) : Int) + 1) = ((p + (i + 1) : Nat) : Int) := by rw [wrap_id (by omega) (by omega)]; omega
              have hrl : (rowN (p) i).length = i := by simp [rowN]
              by_cases hl : rowN (p) i = []
              · try simp only [I, B, D, RX, ↓ KW, Nat.reduceBEq, Nat.reduceAdd, Nat.reduceLeDiff, Int.reduceNe, Int.reduceBEq, Int.reduceEq, reduceCtorEq, Nat.reduceMul, Int.reduceLT, Int.reduceLE, Int.reduceToNat, hl, ownL, mkO, hlim, hgs]
                repeat' (((first | refine gd_split ?_ ?_ | refine cd_split ?_ ?_ | refine pk_split ?_ ?_) <;> intro h) <;> try simp only [I, B, D, RX, ↓ KW, Nat.reduceBEq, Nat.reduceAdd, Nat.reduceLeDiff, Int.reduceNe, Int.reduceBEq, Int.reduceEq, reduceCtorEq, Nat.reduceMul, Int.reduceLT, Int.reduceLE, Int.reduceToNat, slAV_none, slAV_some, hlim, hl, hgs, hp1, h])
                · have h1 := of_decide_eq_true h
                  refine ⟨by decide, ?_⟩
                  refine ⟨by decide, ?_⟩
                  have h2 : (i : Int) < n0 := by rename_i h2; exact of_decide_eq_true h2
                  refine back1 (i + 1) _ (by omega) (by omega) (le_tok2 (by decide) ?_ ?_ ?_ ?_) <;> simp [LX, I, B, D, hw3, rowN_succ, hl, mkO, slAV_none, slAV_some, hgs]
                · have h1 := of_decide_eq_false h
                  have : i = fillN n0 (p) (limN G g) := by omega
                  rw [← this]
                  refine cut_at () trivial ?_
                  refine le_tok2 (by decide) ?_ ?_ ?_ ?_ <;> simp [LX, I, B, D, hl, mkO, slAV_none, slAV_some, hgs]
                · have h1 := of_decide_eq_false h
                  have : i = fillN n0 (p) (limN G g) := by omega
                  rw [← this]
                  refine cut_at () trivial ?_
                  refine le_tok2 (by decide) ?_ ?_ ?_ ?_ <;> simp [LX, I, B, D, hl, mkO, slAV_none, slAV_some, hgs]
              · try simp only [I, B, D, RX, ↓ KW, Nat.reduceBEq, Nat.reduceAdd, Nat.reduceLeDiff, Int.reduceNe, Int.reduceBEq, Int.reduceEq, reduceCtorEq, Nat.reduceMul, Int.reduceLT, Int.reduceLE, Int.reduceToNat, hl, ownL, mkO, hlim, hgs]
                repeat' (((first | refine gd_split ?_ ?_ | refine cd_split ?_ ?_ | refine pk_split ?_ ?_) <;> intro h) <;> try simp only [I, B, D, RX, ↓ KW, Nat.reduceBEq, Nat.reduceAdd, Nat.reduceLeDiff, Int.reduceNe, Int.reduceBEq, Int.reduceEq, reduceCtorEq, Nat.reduceMul, Int.reduceLT, Int.reduceLE, Int.reduceToNat, slAV_none, slAV_some, hlim, hl, hgs, hp1, h])
                · have h1 := of_decide_eq_true h
                  refine ⟨by decide, by omega, by decide, ?_⟩
                  have h2 : (i : Int) < n0 := by rename_i h2; exact of_decide_eq_true h2
                  refine back1 (i + 1) _ (by omega) (by omega) (le_tok2 (by decide) ?_ ?_ ?_ ?_) <;> simp [LX, I, B, D, hw3, rowN_succ, hl, mkO, slAV_none, slAV_some, hgs]
                · have h1 := of_decide_eq_false h
                  have : i = fillN n0 (p) (limN G g) := by omega
                  rw [← this]
                  refine cut_at () trivial ?_
                  refine le_tok2 (by decide) ?_ ?_ ?_ ?_ <;> simp [LX, I, B, D, hl, mkO, slAV_none, slAV_some, hgs]
                · have h1 := of_decide_eq_false h
                  have : i = fillN n0 (p) (limN G g) := by omega
                  rw [← this]
                  refine cut_at () trivial ?_
                  refine le_tok2 (by decide) ?_ ?_ ?_ ?_ <;> simp [LX, I, B, D, hl, mkO, slAV_none, slAV_some, hgs]
            · refine le_tok2 (by decide) ?_ ?_ ?_ ?_ <;> simp [LX, I, B, D, rowN, mkO, slAV_none, slAV_some, hgs]
          · intro _ _
            generalize hm0 : fillN n0 p (limN G g) = m0 at *
            have hrow0 : (mkO (rowN p m0)).getD [] = rowN p m0 := mkO_getD _
            have hrl0 : (rowN p m0).length = m0 := by simp [rowN]
            have hm8 : m0 ≤ 8 := by rw [← hm0]; simp only [fillN, limN]; omega
            try simp only [I, B, D, RX, ↓ KW, Nat.reduceBEq, Nat.reduceAdd, Nat.reduceLeDiff, Int.reduceNe, Int.reduceBEq, Int.reduceEq, reduceCtorEq, Nat.reduceMul, Int.reduceLT, Int.reduceLE, Int.reduceToNat, hgs]
            refine aw_unroll ?_
            try simp only [I, B, D, RX, ↓ KW, Nat.reduceBEq, Nat.reduceAdd, Nat.reduceLeDiff, Int.reduceNe, Int.reduceBEq, Int.reduceEq, reduceCtorEq, Nat.reduceMul, Int.reduceLT, Int.reduceLE, Int.reduceToNat, hgs, wrap_01]
            refine call_is (hF _ _ _ (by decide)) ?_
            try simp only [I, B, D, RX, ↓ KW, Nat.reduceBEq, Nat.reduceAdd, Nat.reduceLeDiff, Int.reduceNe, Int.reduceBEq, Int.reduceEq, reduceCtorEq, Nat.reduceMul, Int.reduceLT, Int.reduceLE, Int.reduceToNat, hw2, hgs]
            have hr2 := frm_range l (1 + 2 * (g : Int) + 1) (n := 3) (by decide) (by decide)
            have hcn0 : cnt l g 1 m0 = if (frm l (1 + 2 * (g : Int) + 1) 3).toNat = 0 ∧ m0 = 0 then 1 else (frm l (1 + 2 * (g : Int) + 1) 3).toNat := by simp [cnt]
            generalize frm l (1 + 2 * (g : Int) + 1) 3 = fr1 at *
            generalize hn1 : cnt l g 1 m0 = n1 at *
            repeat' (((first | refine gd_split ?_ ?_ | refine cd_split ?_ ?_ | refine pk_split ?_ ?_) <;> intro h) <;> try simp only [I, B, D, RX, ↓ KW, Nat.reduceBEq, Nat.reduceAdd, Nat.reduceLeDiff, Int.reduceNe, Int.reduceBEq, Int.reduceEq, reduceCtorEq, Nat.reduceMul, Int.reduceLT, Int.reduceLE, Int.reduceToNat, hrow0, hrl0, hgs, h])
            · have hfr : fr1 = 0 := by simpa using h
              refine ⟨by decide, ?_⟩
              refine cd_split (fun hz => ?_) (fun hz => ?_) <;> try simp only [I, B, D, RX, ↓ KW, Nat.reduceBEq, Nat.reduceAdd, Nat.reduceLeDiff, Int.reduceNe, Int.reduceBEq, Int.reduceEq, reduceCtorEq, Nat.reduceMul, Int.reduceLT, Int.reduceLE, Int.reduceToNat, hgs, hz]
              · have hz : m0 = 0 := by simpa using hz
                have hcn : (n1 : Int) = 1 := by rw [hcn0, if_pos ⟨by omega, hz⟩]; rfl
                refine aw_cut (.exit 4) (fun _ : Unit => (⟨[(9, .dat (I 1) none), (6, .dat (I (p + m0 + fillN n1 (p + m0) (limN G g) : Nat)) none), (5, .dat (I G) none), (7, .dat (I g) none), (8, .ptr 403 0), (1, .dat (slAV intRow l) none), (0, .ptr 0 0)], [(403, ⟨[slAV intRow (mkO (rowN p m0)), slAV intRow (mkO (rowN (p + m0) (fillN n1 (p + m0) (limN G g))))], []⟩), (0, ⟨({ t with groups := mkO gs } : Tb).cells, if gs = [] then [] else [(104, 0)]⟩)], ownL gs 0 eR, 1000⟩ : S)) (fun _ => True) (fun _ => rfl) ?_ ?_
                · refine aw_loop' (fun i : Nat => (⟨[(11, .dat (I i) none), (10, .dat (I n1) none), (6, .dat (I (p + m0 + i : Nat)) none), (5, .dat (I G) none), (7, .dat (I g) none), (9, .dat (I 1) none), (8, .ptr 403 0), (1, .dat (slAV intRow l) none), (0, .ptr 0 0)], [(403, ⟨[slAV intRow (mkO (rowN p m0)), slAV intRow (mkO (rowN (p + m0) i))], if rowN (p + m0) i = [] then [] else [(1, 1)]⟩), (0, ⟨({ t with groups := mkO gs } : Tb).cells, if gs = [] then [] else [(104, 0)]⟩)], ownL (rowN (p + m0) i) 1 e ++ ownL gs 0 eR, 1000⟩ : S)) (fun i => fillN n1 (p + m0) (limN G g) - i) (fun i => i ≤ fillN n1 (p + m0) (limN G g)) ?_ 0 (by omega) ?_
                  · intro i hi A1 back1
                    have hfl : fillN n1 (p + m0) (limN G g) ≤ 8 := by simp only [fillN, limN]; omega
                    have hw3 := wrap_succ (k := i) (by omega)
                    have hf : fillN n1 (p + m0) (limN G g) = min n1 (limN G g - (p + m0)) := rfl
                    have hp1 : IntKind.i64.wrap (((p + m0 + i : Nat) : Int) + 1) = ((p + m0 + (i + 1) : Nat) : Int) := by rw [wrap_id (by omega) (by omega)]; omega
                    have hrl : (rowN (p + m0) i).length = i := by simp [rowN]
                    by_cases hl : rowN (p + m0) i = []
                    · try simp only [I, B, D, RX, ↓ KW, Nat.reduceBEq, Nat.reduceAdd, Nat.reduceLeDiff, Int.reduceNe, Int.reduceBEq, Int.reduceEq, reduceCtorEq, Nat.reduceMul, Int.reduceLT, Int.reduceLE, Int.reduceToNat, hl, ownL, mkO, hlim, hgs, hrow0]
                      repeat' (((first | refine gd_split ?_ ?_ | refine cd_split ?_ ?_ | refine pk_split ?_ ?_) <;> intro h) <;> try simp only [I, B, D, RX, ↓ KW, Nat.reduceBEq, Nat.reduceAdd, Nat.reduceLeDiff, Int.reduceNe, Int.reduceBEq, Int.reduceEq, reduceCtorEq, Nat.reduceMul, Int.reduceLT, Int.reduceLE, Int.reduceToNat, slAV_none, slAV_some, hlim, hl, hgs, hp1, hrow0, h])
                      · have h1 := of_decide_eq_true h
                        refine ⟨by decide, ?_⟩
                        refine ⟨by decide, ?_⟩
                        have h2 : (i : Int) < n1 := by rename_i h2; exact of_decide_eq_true h2
                        refine back1 (i + 1) _ (by omega) (by omega) (le_tok2 (by decide) ?_ ?_ ?_ ?_) <;> simp [LX, I, B, D, hw3, rowN_succ, hl, mkO, slAV_none, slAV_some, hgs, hrow0]
                      · have h1 := of_decide_eq_false h
                        have : i = fillN n1 (p + m0) (limN G g) := by omega
                        rw [← this]
                        refine cut_at () trivial ?_
                        refine le_tok2 (by decide) ?_ ?_ ?_ ?_ <;> simp [LX, I, B, D, hl, mkO, slAV_none, slAV_some, hgs, hrow0]
                      · have h1 := of_decide_eq_false h
                        have : i = fillN n1 (p + m0) (limN G g) := by omega
                        rw [← this]
                        refine cut_at () trivial ?_
                        refine le_tok2 (by decide) ?_ ?_ ?_ ?_ <;> simp [LX, I, B, D, hl, mkO, slAV_none, slAV_some, hgs, hrow0]
                    · try simp only [I, B, D, RX, ↓ KW, Nat.reduceBEq, Nat.reduceAdd, Nat.reduceLeDiff, Int.reduceNe, Int.reduceBEq, Int.reduceEq, reduceCtorEq, Nat.reduceMul, Int.reduceLT, Int.reduceLE, Int.reduceToNat, hl, ownL, mkO, hlim, hgs, hrow0]
                      repeat' (((first | refine gd_split ?_ ?_ | refine cd_split ?_ ?_ | refine pk_split ?_ ?_) <;> intro h) <;> try simp only [I, B, D, RX, ↓ KW, Nat.reduceBEq, Nat.reduceAdd, Nat.reduceLeDiff, Int.reduceNe, Int.reduceBEq, Int.reduceEq, reduceCtorEq, Nat.reduceMul, Int.reduceLT, Int.reduceLE, Int.reduceToNat, slAV_none, slAV_some, hlim, hl, hgs, hp1, hrow0, h])
                      · have h1 := of_decide_eq_true h
                        refine ⟨by decide, by omega, by decide, ?_⟩
                        have h2 : (i : Int) < n1 := by rename_i h2; exact of_decide_eq_true h2
                        refine back1 (i + 1) _ (by omega) (by omega) (le_tok2 (by decide) ?_ ?_ ?_ ?_) <;> simp [LX, I, B, D, hw3, rowN_succ, hl, mkO, slAV_none, slAV_some, hgs, hrow0]
                      · have h1 := of_decide_eq_false h
                        have : i = fillN n1 (p + m0) (limN G g) := by omega
                        rw [← this]
                        refine cut_at () trivial ?_
                        refine le_tok2 (by decide) ?_ ?_ ?_ ?_ <;> simp [LX, I, B, D, hl, mkO, slAV_none, slAV_some, hgs, hrow0]
                      · have h1 := of_decide_eq_false h
                        have : i = fillN n1 (p + m0) (limN G g) := by omega
                        rw [← this]
                        refine cut_at () trivial ?_
                        refine le_tok2 (by decide) ?_ ?_ ?_ ?_ <;> simp [LX, I, B, D, hl, mkO, slAV_none, slAV_some, hgs, hrow0]
                  · refine le_tok2 (by decide) ?_ ?_ ?_ ?_ <;> simp [LX, I, B, D, rowN, mkO, slAV_none, slAV_some, hgs, hrow0, hcn]
                · intro _ _
                  try simp only [I, B, D, RX, ↓ KW, Nat.reduceBEq, Nat.reduceAdd, Nat.reduceLeDiff, Int.reduceNe, Int.reduceBEq, Int.reduceEq, reduceCtorEq, Nat.reduceMul, Int.reduceLT, Int.reduceLE, Int.reduceToNat, hgs, mkO, hrow0]
                  refine aw_unroll ?_
                  try simp only [I, B, D, RX, ↓ KW, Nat.reduceBEq, Nat.reduceAdd, Nat.reduceLeDiff, Int.reduceNe, Int.reduceBEq, Int.reduceEq, reduceCtorEq, Nat.reduceMul, Int.reduceLT, Int.reduceLE, Int.reduceToNat, hgs, wrap_11]
                  refine cut_at () trivial ?_
                  refine le_tok2 (by decide) ?_ ?_ ?_ ?_ <;> simp [LX, I, B, D, hgs, mkO, slAV_none, slAV_some]
              · have hz : ¬ m0 = 0 := by simpa using hz
                have hcn : fr1 = (n1 : Int) := by rw [hcn0, if_neg (fun hh => hz hh.2)]; omega
                refine aw_cut (.exit 4) (fun _ : Unit => (⟨[(9, .dat (I 1) none), (6, .dat (I (p + m0 + fillN n1 (p + m0) (limN G g) : Nat)) none), (5, .dat (I G) none), (7, .dat (I g) none), (8, .ptr 403 0), (1, .dat (slAV intRow l) none), (0, .ptr 0 0)], [(403, ⟨[slAV intRow (mkO (rowN p m0)), slAV intRow (mkO (rowN (p + m0) (fillN n1 (p + m0) (limN G g))))], []⟩), (0, ⟨({ t with groups := mkO gs } : Tb).cells, if gs = [] then [] else [(104, 0)]⟩)], ownL gs 0 eR, 1000⟩ : S)) (fun _ => True) (fun _ => rfl) ?_ ?_
                · refine aw_loop' (fun i : Nat => (⟨[(11, .dat (I i) none), (10, .dat (I n1) none), (6, .dat (I (p + m0 + i : Nat)) none), (5, .dat (I G) none), (7, .dat (I g) none), (9, .dat (I 1) none), (8, .ptr 403 0), (1, .dat (slAV intRow l) none), (0, .ptr 0 0)], [(403, ⟨[slAV intRow (mkO (rowN p m0)), slAV intRow (mkO (rowN (p + m0) i))], if rowN (p + m0) i = [] then [] else [(1, 1)]⟩), (0, ⟨({ t with groups := mkO gs } : Tb).cells, if gs = [] then [] else [(104, 0)]⟩)], ownL (rowN (p + m0) i) 1 e ++ ownL gs 0 eR, 1000⟩ : S)) (fun i => fillN n1 (p + m0) (limN G g) - i) (fun i => i ≤ fillN n1 (p + m0) (limN G g)) ?_ 0 (by omega) ?_
                  · intro i hi A1 back1
                    have hfl : fillN n1 (p + m0) (limN G g) ≤ 8 := by simp only [fillN, limN]; omega
                    have hw3 := wrap_succ (k := i) (by omega)
                    have hf : fillN n1 (p + m0) (limN G g) = min n1 (limN G g - (p + m0)) := rfl
                    have hp1 : IntKind.i64.wrap (((p + m0 + i : Nat) : Int) + 1) = ((p + m0 + (i + 1) : Nat) : Int) := by rw [wrap_id (by omega) (by omega)]; omega
                    have hrl : (rowN (p + m0) i).length = i := by simp [rowN]
                    by_cases hl : rowN (p + m0) i = []
                    · try simp only [I, B, D, RX, ↓ KW, Nat.reduceBEq, Nat.reduceAdd, Nat.reduceLeDiff, Int.reduceNe, Int.reduceBEq, Int.reduceEq, reduceCtorEq, Nat.reduceMul, Int.reduceLT, Int.reduceLE, Int.reduceToNat, hl, ownL, mkO, hlim, hgs, hrow0]
                      repeat' (((first | refine gd_split ?_ ?_ | refine cd_split ?_ ?_ | refine pk_split ?_ ?_) <;> intro h) <;> try simp only [I, B, D, RX, ↓ KW, Nat.reduceBEq, Nat.reduceAdd, Nat.reduceLeDiff, Int.reduceNe, Int.reduceBEq, Int.reduceEq, reduceCtorEq, Nat.reduceMul, Int.reduceLT, Int.reduceLE, Int.reduceToNat, slAV_none, slAV_some, hlim, hl, hgs, hp1, hrow0, h])
                      · have h1 := of_decide_eq_true h
                        refine ⟨by decide, ?_⟩
                        refine ⟨by decide, ?_⟩
                        have h2 : (i : Int) < n1 := by rename_i h2; exact of_decide_eq_true h2
                        refine back1 (i + 1) _ (by omega) (by omega) (le_tok2 (by decide) ?_ ?_ ?_ ?_) <;> simp [LX, I, B, D, hw3, rowN_succ, hl, mkO, slAV_none, slAV_some, hgs, hrow0]
                      · have h1 := of_decide_eq_false h
                        have : i = fillN n1 (p + m0) (limN G g) := by omega
                        rw [← this]
                        refine cut_at () trivial ?_
                        refine le_tok2 (by decide) ?_ ?_ ?_ ?_ <;> simp [LX, I, B, D, hl, mkO, slAV_none, slAV_some, hgs, hrow0]
                      · have h1 := of_decide_eq_false h
                        have : i = fillN n1 (p + m0) (limN G g) := by omega
                        rw [← this]
                        refine cut_at () trivial ?_
                        refine le_tok2 (by decide) ?_ ?_ ?_ ?_ <;> simp [LX, I, B, D, hl, mkO, slAV_none, slAV_some, hgs, hrow0]
                    · try simp only [I, B, D, RX, ↓ KW, Nat.reduceBEq, Nat.reduceAdd, Nat.reduceLeDiff, Int.reduceNe, Int.reduceBEq, Int.reduceEq, reduceCtorEq, Nat.reduceMul, Int.reduceLT, Int.reduceLE, Int.reduceToNat, hl, ownL, mkO, hlim, hgs, hrow0]
                      repeat' (((first | refine gd_split ?_ ?_ | refine cd_split ?_ ?_ | refine pk_split ?_ ?_) <;> intro h) <;> try simp only [I, B, D, RX, ↓ KW, Nat.reduceBEq, Nat.reduceAdd, Nat.reduceLeDiff, Int.reduceNe, Int.reduceBEq, Int.reduceEq, reduceCtorEq, Nat.reduceMul, Int.reduceLT, Int.reduceLE, Int.reduceToNat, slAV_none, slAV_some, hlim, hl, hgs, hp1, hrow0, h])
                      · have h1 := of_decide_eq_true h
                        refine ⟨by decide, by omega, by decide, ?_⟩
                        have h2 : (i : Int) < n1 := by rename_i h2; exact of_decide_eq_true h2
                        refine back1 (i + 1) _ (by omega) (by omega) (le_tok2 (by decide) ?_ ?_ ?_ ?_) <;> simp [LX, I, B, D, hw3, rowN_succ, hl, mkO, slAV_none, slAV_some, hgs, hrow0]
                      · have h1 := of_decide_eq_false h
                        have : i = fillN n1 (p + m0) (limN G g) := by omega
                        rw [← this]
                        refine cut_at () trivial ?_
                        refine le_tok2 (by decide) ?_ ?_ ?_ ?_ <;> simp [LX, I, B, D, hl, mkO, slAV_none, slAV_some, hgs, hrow0]
                      · have h1 := of_decide_eq_false h
                        have : i = fillN n1 (p + m0) (limN G g) := by omega
                        rw [← this]
                        refine cut_at () trivial ?_
                        refine le_tok2 (by decide) ?_ ?_ ?_ ?_ <;> simp [LX, I, B, D, hl, mkO, slAV_none, slAV_some, hgs, hrow0]
                  · refine le_tok2 (by decide) ?_ ?_ ?_ ?_ <;> simp [LX, I, B, D, rowN, mkO, slAV_none, slAV_some, hgs, hrow0, hcn]
                · intro _ _
                  try simp only [I, B, D, RX, ↓ KW, Nat.reduceBEq, Nat.reduceAdd, Nat.reduceLeDiff, Int.reduceNe, Int.reduceBEq, Int.reduceEq, reduceCtorEq, Nat.reduceMul, Int.reduceLT, Int.reduceLE, Int.reduceToNat, hgs, mkO, hrow0]
                  refine aw_unroll ?_
                  try simp only [I, B, D, RX, ↓ KW, Nat.reduceBEq, Nat.reduceAdd, Nat.reduceLeDiff, Int.reduceNe, Int.reduceBEq, Int.reduceEq, reduceCtorEq, Nat.reduceMul, Int.reduceLT, Int.reduceLE, Int.reduceToNat, hgs, wrap_11]
                  refine cut_at () trivial ?_
                  refine le_tok2 (by decide) ?_ ?_ ?_ ?_ <;> simp [LX, I, B, D, hgs, mkO, slAV_none, slAV_some]
            · have hfr : ¬ fr1 = 0 := by simpa using h
              have hcn : fr1 = (n1 : Int) := by rw [hcn0, if_neg (fun hh => hfr (by omega))]; omega
              refine aw_cut (.exit 4) (fun _ : Unit => (⟨[(9, .dat (I 1) none), (6, .dat (I (p + m0 + fillN n1 (p + m0) (limN G g) : Nat)) none), (5, .dat (I G) none), (7, .dat (I g) none), (8, .ptr 403 0), (1, .dat (slAV intRow l) none), (0, .ptr 0 0)], [(403, ⟨[slAV intRow (mkO (rowN p m0)), slAV intRow (mkO (rowN (p + m0) (fillN n1 (p + m0) (limN G g))))], []⟩), (0, ⟨({ t with groups := mkO gs } : Tb).cells, if gs = [] then [] else [(104, 0)]⟩)], ownL gs 0 eR, 1000⟩ : S)) (fun _ => True) (fun _ => rfl) ?_ ?_
              · refine aw_loop' (fun i : Nat => (⟨[(11, .dat (I i) none), (10, .dat (I n1) none), (6, .dat (I (p + m0 + i : Nat)) none), (5, .dat (I G) none), (7, .dat (I g) none), (9, .dat (I 1) none), (8, .ptr 403 0), (1, .dat (slAV intRow l) none), (0, .ptr 0 0)], [(403, ⟨[slAV intRow (mkO (rowN p m0)), slAV intRow (mkO (rowN (p + m0) i))], if rowN (p + m0) i = [] then [] else [(1, 1)]⟩), (0, ⟨({ t with groups := mkO gs } : Tb).cells, if gs = [] then [] else [(104, 0)]⟩)], ownL (rowN (p + m0) i) 1 e ++ ownL gs 0 eR, 1000⟩ : S)) (fun i => fillN n1 (p + m0) (limN G g) - i) (fun i => i ≤ fillN n1 (p + m0) (limN G g)) ?_ 0 (by omega) ?_
                · intro i hi A1 back1
                  have hfl : fillN n1 (p + m0) (limN G g) ≤ 8 := by simp only [fillN, limN]; omega
                  have hw3 := wrap_succ (k := i) (by omega)
                  have hf : fillN n1 (p + m0) (limN G g) = min n1 (limN G g - (p + m0)) := rfl
                  have hp1 : IntKind.i64.wrap (((p + m0 + i : Nat) : Int) + 1) = ((p + m0 + (i + 1) : Nat) : Int) := by rw [wrap_id (by omega) (by omega)]; omega
                  have hrl : (rowN (p + m0) i).length = i := by simp [rowN]
                  by_cases hl : rowN (p + m0) i = []
                  · try simp only [I, B, D, RX, ↓ KW, Nat.reduceBEq, Nat.reduceAdd, Nat.reduceLeDiff, Int.reduceNe, Int.reduceBEq, Int.reduceEq, reduceCtorEq, Nat.reduceMul, Int.reduceLT, Int.reduceLE, Int.reduceToNat, hl, ownL, mkO, hlim, hgs, hrow0]
                    repeat' (((first | refine gd_split ?_ ?_ | refine cd_split ?_ ?_ | refine pk_split ?_ ?_) <;> intro h) <;> try simp only [I, B, D, RX, ↓ KW, Nat.reduceBEq, Nat.reduceAdd, Nat.reduceLeDiff, Int.reduceNe, Int.reduceBEq, Int.reduceEq, reduceCtorEq, Nat.reduceMul, Int.reduceLT, Int.reduceLE, Int.reduceToNat, slAV_none, slAV_some, hlim, hl, hgs, hp1, hrow0, h])
                    · have h1 := of_decide_eq_true h
                      refine ⟨by decide, ?_⟩
                      refine ⟨by decide, ?_⟩
                      have h2 : (i : Int) < n1 := by rename_i h2; exact of_decide_eq_true h2
                      refine back1 (i + 1) _ (by omega) (by omega) (le_tok2 (by decide) ?_ ?_ ?_ ?_) <;> simp [LX, I, B, D, hw3, rowN_succ, hl, mkO, slAV_none, slAV_some, hgs, hrow0]
                    · have h1 := of_decide_eq_false h
                      have : i = fillN n1 (p + m0) (limN G g) := by omega
                      rw [← this]
                      refine cut_at () trivial ?_
                      refine le_tok2 (by decide) ?_ ?_ ?_ ?_ <;> simp [LX, I, B, D, hl, mkO, slAV_none, slAV_some, hgs, hrow0]
                    · have h1 := of_decide_eq_false h
                      have : i = fillN n1 (p + m0) (limN G g) := by omega
                      rw [← this]
                      refine cut_at () trivial ?_
                      refine le_tok2 (by decide) ?_ ?_ ?_ ?_ <;> simp [LX, I, B, D, hl, mkO, slAV_none, slAV_some, hgs, hrow0]
                  · try simp only [I, B, D, RX, ↓ KW, Nat.reduceBEq, Nat.reduceAdd, Nat.reduceLeDiff, Int.reduceNe, Int.reduceBEq, Int.reduceEq, reduceCtorEq, Nat.reduceMul, Int.reduceLT, Int.reduceLE, Int.reduceToNat, hl, ownL, mkO, hlim, hgs, hrow0]
                    repeat' (((first | refine gd_split ?_ ?_ | refine cd_split ?_ ?_ | refine pk_split ?_ ?_) <;> intro h) <;> try simp only [I, B, D, RX, ↓ KW, Nat.reduceBEq, Nat.reduceAdd, Nat.reduceLeDiff, Int.reduceNe, Int.reduceBEq, Int.reduceEq, reduceCtorEq, Nat.reduceMul, Int.reduceLT, Int.reduceLE, Int.reduceToNat, slAV_none, slAV_some, hlim, hl, hgs, hp1, hrow0, h])
                    · have h1 := of_decide_eq_true h
                      refine ⟨by decide, by omega, by decide, ?_⟩
                      have h2 : (i : Int) < n1 := by rename_i h2; exact of_decide_eq_true h2
                      refine back1 (i + 1) _ (by omega) (by omega) (le_tok2 (by decide) ?_ ?_ ?_ ?_) <;> simp [LX, I, B, D, hw3, rowN_succ, hl, mkO, slAV_none, slAV_some, hgs, hrow0]
                    · have h1 := of_decide_eq_false h
                      have : i = fillN n1 (p + m0) (limN G g) := by omega
                      rw [← this]
                      refine cut_at () trivial ?_
                      refine le_tok2 (by decide) ?_ ?_ ?_ ?_ <;> simp [LX, I, B, D, hl, mkO, slAV_none, slAV_some, hgs, hrow0]
                    · have h1 := of_decide_eq_false h
                      have : i = fillN n1 (p + m0) (limN G g) := by omega
                      rw [← this]
                      refine cut_at () trivial ?_
                      refine le_tok2 (by decide) ?_ ?_ ?_ ?_ <;> simp [LX, I, B, D, hl, mkO, slAV_none, slAV_some, hgs, hrow0]
                · refine le_tok2 (by decide) ?_ ?_ ?_ ?_ <;> simp [LX, I, B, D, rowN, mkO, slAV_none, slAV_some, hgs, hrow0, hcn]
              · intro _ _
                try simp only [I, B, D, RX, ↓ KW, Nat.reduceBEq, Nat.reduceAdd, Nat.reduceLeDiff, Int.reduceNe, Int.reduceBEq, Int.reduceEq, reduceCtorEq, Nat.reduceMul, Int.reduceLT, Int.reduceLE, Int.reduceToNat, hgs, mkO, hrow0]
                refine aw_unroll ?_
                try simp only [I, B, D, RX, ↓ KW, Nat.reduceBEq, Nat.reduceAdd, Nat.reduceLeDiff, Int.reduceNe, Int.reduceBEq, Int.reduceEq, reduceCtorEq, Nat.reduceMul, Int.reduceLT, Int.reduceLE, Int.reduceToNat, hgs, wrap_11]
                refine cut_at () trivial ?_
                refine le_tok2 (by decide) ?_ ?_ ?_ ?_ <;> simp [LX, I, B, D, hgs, mkO, slAV_none, slAV_some]
        · intro _ _
          have hgc := Tb.groups_at' (t := { t with groups := mkO gs }) ht.phases
          have hln := Tb.len' (t := { t with groups := mkO gs }) ht.phases ht.conflict ht.flash
          have hset := Tb.set_groups (t := { t with groups := mkO gs }) ht.phases (some (gs ++ [⟨mkO (rowN p (fillN n0 p (limN G g))), mkO (rowN (p + fillN n0 p (limN G g)) (fillN (cnt l g 1 (fillN n0 p (limN G g))) (p + fillN n0 p (limN G g)) (limN G g)))⟩]))
          simp only [hgs, mkO, if_true, if_false] at hgc hln hset
          try simp only [I, B, D, RX, ↓ KW, Nat.reduceBEq, Nat.reduceAdd, Nat.reduceLeDiff, Int.reduceNe, Int.reduceBEq, Int.reduceEq, reduceCtorEq, Nat.reduceMul, Int.reduceLT, Int.reduceLE, Int.reduceToNat, hgc, slAV_none, slAV_some, Gr.len, hgl, hgs, mkO]
          try refine ⟨by omega, ?_⟩
          try refine ⟨by simp [ownL, hgs, lkN], ?_⟩
          try refine ⟨by omega, ?_⟩
          simp [slAV_some, Gr.cells, hgs] at hset
          refine back (g + 1) _ (by omega) (by omega) (le_tok2 (by decide) ?_ ?_ ?_ ?_) <;> simp [LX, I, B, D, hn2, hw, hgs, mkO, slAV_some, slAV_none, Gr.cells, hset]
          trace_state
      · have hgG : g = G := by have := of_decide_eq_false h; omega
        subst hgG
        first
          | (exfalso; rw [hgs] at hgl; simp at hgl; omega)
          | exact ⟨by rw [hR], by rw [hR]⟩
  · have : ({ t with groups := none } : Tb) = t := by cases t; simp_all
    refine le_tok2 (by decide) ?_ ?_ ?_ ?_ <;> simp [LX, I, B, D, rowsTo, mkO, this]
end
end Go.Eng
namespace Go.Eng
set_option linter.unusedVariables false
set_option linter.unusedSimpArgs false
set_option linter.unnecessarySimpa false
open Go
set_option linter.unusedVariables false
set_option linter.unusedSimpArgs false
set_option maxRecDepth 10000
set_option maxHeartbeats 4000000
structure Tb.Ln (t : Tb) : Prop where
  phases : t.phases.length = 8
  conflict : t.conflict.length = 8
  flash : t.flash.length = 8
theorem Tb.Ok.ln {t : Tb} (h : t.Ok) : t.Ln := ⟨h.phases, h.conflict, h.flash⟩
section
variable {t : Tb} (h : t.Ln)
include h
theorem Tb.Ln.len : t.cells.length = 131 := by
  simp [Tb.cells, flatMap_len Ph.len, h.phases, h.conflict, h.flash]
theorem Tb.Ln.whole : partA t.cells 0 (some 131) = some (.agg t.cells) := by
  have hl := h.len
  rw [p_some _ _ _ (by omega), List.drop_zero, ← hl, List.take_length]
theorem Tb.Ln.at113 : t.cells[113]? = some (slAV Det.cells t.detectors) := by
  simp [Tb.cells, List.getElem?_append, flatMap_len Ph.len, h.phases, h.conflict, h.flash, List.getElem?_cons]
theorem Tb.Ln.at114 : t.cells[114]? = some (slAV Rl.cells t.rails) := by
  simp [Tb.cells, List.getElem?_append, flatMap_len Ph.len, h.phases, h.conflict, h.flash, List.getElem?_cons]
theorem Tb.Ln.at115 : t.cells[115]? = some (slAV Bs.cells t.buses) := by
  simp [Tb.cells, List.getElem?_append, flatMap_len Ph.len, h.phases, h.conflict, h.flash, List.getElem?_cons]
theorem Tb.Ln.at129 : t.cells[129]? = some (I t.window) := by
  simp [Tb.cells, List.getElem?_append, flatMap_len Ph.len, h.phases, h.conflict, h.flash, List.getElem?_cons]
theorem Tb.Ln.conflict_at {i : Nat} {c : Int} (hc : t.conflict[i]? = some c) : t.cells[105 + i]? = some (I c) := by
  have hi : i < 8 := by have := (List.getElem?_eq_some_iff.1 hc).1; rw [h.conflict] at this; exact this
  have e : (t.phases.flatMap Ph.cells).length = 104 := by rw [flatMap_len Ph.len, h.phases]
  unfold Tb.cells
  rw [List.getElem?_append_right (by omega), e, show 105 + i - 104 = i + 1 by omega, List.getElem?_cons_succ, List.getElem?_append_left (by simp [h.conflict, hi]), List.getElem?_map, hc]; rfl
def Tb.rest (t : Tb) : List AV := slAV Gr.cells t.groups :: (t.conflict.map I ++ (slAV Det.cells t.detectors :: slAV Rl.cells t.rails :: slAV Bs.cells t.buses ::
    I t.extend :: I t.budget :: I t.start :: I t.revert :: I t.least :: (t.flash.map I ++ [I t.window, I t.share])))
omit h in
theorem set_right {pre post ps : List AV} {off : Nat} (hle : pre.length ≤ off) : setCells (pre ++ post) off ps = pre ++ setCells post (off - pre.length) ps := by
  simp only [setCells, List.take_append, List.drop_append, List.append_assoc]
  rw [List.take_of_length_le hle, List.drop_of_length_le (by omega), show off + ps.length - pre.length = off - pre.length + ps.length by omega]
  rfl
omit h in
theorem set_left {pre post ps : List AV} {off : Nat} (hle : off + ps.length ≤ pre.length) : setCells (pre ++ post) off ps = setCells pre off ps ++ post := by
  simp only [setCells]
  rw [List.take_append_of_le_length (by omega), List.drop_append_of_le_length hle]
  simp
omit h in
theorem set_one {l : List Int} {i : Nat} {v : Int} (hi : i < l.length) : setCells (l.map I) i [I v] = (l.set i v).map I := by
  simp only [setCells, List.length_cons, List.length_nil]
  rw [List.set_eq_take_append_cons_drop, if_pos hi]
  simp [List.map_take, List.map_drop]
omit h in
theorem set_skip (c : AV) (cs ps : List AV) (k : Nat) : setCells (c :: cs) (k + 1) ps = c :: setCells cs k ps := by
  simp only [setCells, List.take_succ_cons, List.cons_append, show k + 1 + ps.length = (k + ps.length) + 1 by omega, List.drop_succ_cons]
theorem Tb.Ln.set_phase {i : Nat} (hi : i < 8) (q : Ph) : setCells t.cells (i * 13) q.cells = ({ t with phases := t.phases.set i q } : Tb).cells := by
  obtain ⟨p, hp⟩ : ∃ p, t.phases[i]? = some p := ⟨_, List.getElem?_eq_getElem (by rw [h.phases]; exact hi)⟩
  exact Tb.phase_set hp
theorem Tb.Ln.set_conflict {i : Nat} (hi : i < 8) (v : Int) : setCells t.cells (105 + i) [I v] = ({ t with conflict := t.conflict.set i v } : Tb).cells := by
  have e : (t.phases.flatMap Ph.cells).length = 104 := by rw [flatMap_len Ph.len, h.phases]
  unfold Tb.cells
  rw [set_right (by omega), e, show 105 + i - 104 = i + 1 by omega, set_skip, set_left (by simp [h.conflict]; omega), set_one (by rw [h.conflict]; exact hi)]
theorem Tb.Ln.set_flash {i : Nat} (hi : i < 8) (v : Int) : setCells t.cells (121 + i) [I v] = ({ t with flash := t.flash.set i v } : Tb).cells := by
  have e : (t.phases.flatMap Ph.cells).length = 104 := by rw [flatMap_len Ph.len, h.phases]
  unfold Tb.cells
  rw [set_right (by omega), e, show 121 + i - 104 = (i + 16) + 1 by omega, set_skip, set_right (by simp [h.conflict]), show i + 16 - (t.conflict.map I).length = i + 8 by simp [h.conflict]]
  simp only [set_skip]
  rw [set_left (by simp [h.flash]; omega), set_one (by rw [h.flash]; exact hi)]
theorem Tb.Ln.set_dets (d : Option (List Det)) : setCells t.cells 113 [slAV Det.cells d] = ({ t with detectors := d } : Tb).cells := by
  have e : (t.phases.flatMap Ph.cells).length = 104 := by rw [flatMap_len Ph.len, h.phases]
  have e2 : (t.conflict.map I).length = 8 := by simp [h.conflict]
  unfold Tb.cells
  rw [set_right (by omega), e, show 113 - 104 = 8 + 1 by omega, set_skip, set_right (by omega), e2]
  rfl
theorem Tb.Ln.set_rails (d : Option (List Rl)) : setCells t.cells 114 [slAV Rl.cells d] = ({ t with rails := d } : Tb).cells := by
  have e : (t.phases.flatMap Ph.cells).length = 104 := by rw [flatMap_len Ph.len, h.phases]
  have e2 : (t.conflict.map I).length = 8 := by simp [h.conflict]
  unfold Tb.cells
  rw [set_right (by omega), e, show 114 - 104 = 9 + 1 by omega, set_skip, set_right (by omega), e2]
  rfl
theorem Tb.Ln.set_buses (d : Option (List Bs)) : setCells t.cells 115 [slAV Bs.cells d] = ({ t with buses := d } : Tb).cells := by
  have e : (t.phases.flatMap Ph.cells).length = 104 := by rw [flatMap_len Ph.len, h.phases]
  have e2 : (t.conflict.map I).length = 8 := by simp [h.conflict]
  unfold Tb.cells
  rw [set_right (by omega), e, show 115 - 104 = 10 + 1 by omega, set_skip, set_right (by omega), e2]
  rfl
theorem Tb.Ln.set_nums (v : Int) : setCells t.cells 116 [I v] = ({ t with extend := v } : Tb).cells ∧ setCells t.cells 117 [I v] = ({ t with budget := v } : Tb).cells ∧ setCells t.cells 118 [I v] = ({ t with start := v } : Tb).cells ∧
    setCells t.cells 119 [I v] = ({ t with revert := v } : Tb).cells ∧ setCells t.cells 120 [I v] = ({ t with least := v } : Tb).cells := by
  have e : (t.phases.flatMap Ph.cells).length = 104 := by rw [flatMap_len Ph.len, h.phases]
  have e2 : (t.conflict.map I).length = 8 := by simp [h.conflict]
  unfold Tb.cells
  refine ⟨?_, ?_, ?_, ?_, ?_⟩
  · rw [set_right (by omega), e, show 116 - 104 = 11 + 1 by omega, set_skip, set_right (by omega), e2]; rfl
  · rw [set_right (by omega), e, show 117 - 104 = 12 + 1 by omega, set_skip, set_right (by omega), e2]; rfl
  · rw [set_right (by omega), e, show 118 - 104 = 13 + 1 by omega, set_skip, set_right (by omega), e2]; rfl
  · rw [set_right (by omega), e, show 119 - 104 = 14 + 1 by omega, set_skip, set_right (by omega), e2]; rfl
  · rw [set_right (by omega), e, show 120 - 104 = 15 + 1 by omega, set_skip, set_right (by omega), e2]; rfl
theorem Tb.Ln.set_last (v : Int) : setCells t.cells 129 [I v] = ({ t with window := v } : Tb).cells ∧ setCells t.cells 130 [I v] = ({ t with share := v } : Tb).cells := by
  have e : (t.phases.flatMap Ph.cells).length = 104 := by rw [flatMap_len Ph.len, h.phases]
  have e2 : (t.conflict.map I).length = 8 := by simp [h.conflict]
  have e3 : (t.flash.map I).length = 8 := by simp [h.flash]
  unfold Tb.cells
  refine ⟨?_, ?_⟩
  · rw [set_right (by omega), e, show 129 - 104 = 24 + 1 by omega, set_skip, set_right (by omega), e2]
    simp only [Nat.reduceSub, set_skip]
    rw [set_right (by omega), e3]; rfl
  · rw [set_right (by omega), e, show 130 - 104 = 25 + 1 by omega, set_skip, set_right (by omega), e2]
    simp only [Nat.reduceSub, set_skip]
    rw [set_right (by omega), e3]; rfl
end
end Go.Eng
namespace Go.Eng
set_option linter.unusedVariables false
set_option linter.unusedSimpArgs false
set_option linter.unnecessarySimpa false
open Go
set_option linter.unusedVariables false
set_option linter.unusedSimpArgs false
set_option maxRecDepth 10000
set_option maxHeartbeats 4000000
def Tb0 : Tb := ⟨List.replicate 8 default, none, List.replicate 8 0, none, none, none, 0, 0, 0, 0, 0, List.replicate 8 0, 0, 0⟩
theorem z131_is : z131_45020 = Tb0.cells := rfl
def phTo (l : Option (List Int)) : Nat → List Ph
  | 0 => List.replicate 8 default
  | k + 1 => (phTo l k).set k (phaseOf l (10 + 12 * k))
def flTo : Nat → List Int
  | 0 => List.replicate 8 0
  | k + 1 => (flTo k).set k 1
theorem phTo_len (l : Option (List Int)) : ∀ k, (phTo l k).length = 8
  | 0 => by simp [phTo]
  | k + 1 => by simp [phTo, phTo_len l k]
theorem flTo_len : ∀ k, (flTo k).length = 8
  | 0 => by simp [flTo]
  | k + 1 => by simp [flTo, flTo_len k]
def cAt (c : List Int) (i : Nat) : Int := c.getD i 0
def clashes (t : Tb) (l : Option (List Int)) (p q : Nat) : Bool := !besideR t p q && frm l (110 + 8 * p + q) 9 != 1
def confStep (t : Tb) (l : Option (List Int)) (p q : Nat) (c : List Int) : List Int :=
  if clashes t l p q then
    let c1 := c.set p (withR (cAt c p) q)
    c1.set q (withR (cAt c1 q) p)
  else c
def confRow (t : Tb) (l : Option (List Int)) (p : Nat) : Nat → List Int → List Int
  | 0, c => c
  | q + 1, c => confStep t l p q (confRow t l p q c)
def confTo (t : Tb) (l : Option (List Int)) : Nat → List Int
  | 0 => List.replicate 8 0
  | p + 1 => confRow t l p p (confTo t l p)
theorem confStep_len {t : Tb} {l : Option (List Int)} {p q : Nat} {c : List Int} : (confStep t l p q c).length = c.length := by
  unfold confStep; split <;> simp
theorem confRow_len {t : Tb} {l : Option (List Int)} {p : Nat} {c : List Int} : ∀ q, (confRow t l p q c).length = c.length
  | 0 => rfl
  | q + 1 => by rw [confRow, confStep_len, confRow_len q]
theorem confTo_len {t : Tb} {l : Option (List Int)} : ∀ p, (confTo t l p).length = 8
  | 0 => by simp [confTo]
  | p + 1 => by rw [confTo, confRow_len, confTo_len p]
def detTo (l : Option (List Int)) (n d : Int) (j : Nat) : List Det := (List.range j).map fun (k : Nat) => detectorOf l (180 + 8 * (d - k)) n
def railTo (t : Tb) (l : Option (List Int)) (n r : Int) (j : Nat) : List Rl := (List.range j).map fun (k : Nat) => railOf t l (260 + 16 * (r - k)) n
def busOf (l : Option (List Int)) (n i : Int) : Bs :=
  let x := bAnd .i64 (frm l (330 + 2 * i) 256) (w64 (w64 (1 * 2 ^ min (IntKind.u64.wrap n).toNat 64) - 1))
  ⟨if x > 1 then x else 1, w64 (1 + frm l (331 + 2 * i) 30)⟩
def busTo (l : Option (List Int)) (n b : Int) (j : Nat) : List Bs := (List.range j).map fun (k : Nat) => busOf l n (b - k)
def winTo (t : Tb) : Nat → Int
  | 0 => 0
  | k + 1 => if waitI t k > winTo t k then waitI t k else winTo t k
def rowsOf' (l : Option (List Int)) : List Gr × Nat := rowsTo l (groupsN l) (groupsN l)
def tabPre (l : Option (List Int)) : Tb :=
  let n := (rowsOf' l).2
  let t1 : Tb := { Tb0 with groups := some (rowsOf' l).1 }
  let q := frm l 174 (n + 1)
  { phases := phTo l n
    groups := some (rowsOf' l).1
    conflict := confTo t1 l n
    detectors := mkO (detTo l n (frm l 175 9) (frm l 175 9).toNat)
    rails := mkO (railTo t1 l n ((frm l 176 4).tmod 3) ((frm l 176 4).tmod 3).toNat)
    buses := mkO (busTo l n (frm l 177 3) (frm l 177 3).toNat)
    extend := frm l 178 12
    budget := frm l 179 40
    start := frm l 180 8
    revert := frm l 181 8
    least := frm l 182 12
    flash := if q < n then (flTo n).set q.toNat 2 else flTo n
    window := 0
    share := frm l 183 4 }
def tableOf (l : Option (List Int)) : Tb :=
  { tabPre l with window := if (railTo { Tb0 with groups := some (rowsOf' l).1 } l (rowsOf' l).2 ((frm l 176 4).tmod 3) ((frm l 176 4).tmod 3).toNat) = [] then 0 else winTo (tabPre l) (rowsOf' l).2 }
def Table.Spec (C : Con) (f : Nat) : Prop := ∀ l : Option (List Int), C.c f [slAV intRow l] (.agg (tableOf l).cells) none
def tabA (l : Option (List Int)) (k : Nat) : Tb := { Tb0 with groups := some (rowsOf' l).1, phases := phTo l k, flash := flTo k }
def tabB (l : Option (List Int)) (c : List Int) : Tb := { tabA l (rowsOf' l).2 with conflict := c }
def tabC (l : Option (List Int)) : Tb := { tabB l (confTo { Tb0 with groups := some (rowsOf' l).1 } l (rowsOf' l).2) with flash := (tabPre l).flash }
def tabD (l : Option (List Int)) (d : List Det) : Tb := { tabC l with detectors := mkO d }
def tabE (l : Option (List Int)) (r : List Rl) : Tb := { tabC l with detectors := (tabPre l).detectors, rails := mkO r }
def tabF (l : Option (List Int)) (b : List Bs) : Tb := { tabC l with detectors := (tabPre l).detectors, rails := (tabPre l).rails, buses := mkO b }
def tabW (l : Option (List Int)) (w : Int) : Tb := { tabPre l with window := w }
theorem rowN_len (p m : Nat) : (rowN p m).length = m := by simp [rowN]
theorem rowsTo_small (l : Option (List Int)) (G : Nat) : ∀ g, ∀ x ∈ (rowsTo l G g).1, (x.a.getD []).length ≤ 8 ∧ (x.b.getD []).length ≤ 8
  | 0, x, hx => by simp [rowsTo] at hx
  | g + 1, x, hx => by
    simp only [rowsTo, List.mem_append, List.mem_singleton] at hx
    rcases hx with hx | rfl
    · exact rowsTo_small l G g x hx
    · simp only [mkO_getD, rowN_len, fillN, limN]
      omega
theorem rowsOf_le (l : Option (List Int)) : (rowsOf' l).2 ≤ 8 := rowsTo_le _ _ _
theorem rowsTo_mono (l : Option (List Int)) (G : Nat) : ∀ g, 1 ≤ g → g ≤ G → G ≤ 3 → 1 ≤ (rowsTo l G g).2
  | 0, h, _, _ => by omega
  | 1, _, h1, h3 => by
    simp only [rowsTo, fillN, limN, cnt]
    split <;> split <;> simp_all <;> omega
  | g + 2, _, h1, h3 => by
    have := rowsTo_mono l G (g + 1) (by omega) (by omega) h3
    rw [rowsTo]
    simp only
    omega
theorem groupsN_le (l : Option (List Int)) : 1 ≤ groupsN l ∧ groupsN l ≤ 3 := by
  have := frm_range l 0 (n := 3) (by decide) (by decide)
  unfold groupsN; omega
theorem rowsOf_pos (l : Option (List Int)) : 1 ≤ (rowsOf' l).2 := rowsTo_mono l _ _ (groupsN_le l).1 (Nat.le_refl _) (groupsN_le l).2
theorem ok_of {l : Option (List Int)} {t : Tb} (hg : t.groups = some (rowsOf' l).1) (h1 : t.phases.length = 8) (h2 : t.conflict.length = 8) (h3 : t.flash.length = 8) (h4 : (t.detectors.getD []).length ≤ 1048576) (h5 : (t.rails.getD []).length ≤ 1048576) (h6 : (t.buses.getD []).length ≤ 1048576) : t.Ok := by
  refine ⟨h1, h2, h3, ?_, ?_, h4, h5, h6⟩
  · rw [hg]; simp only [Option.getD_some, rowsOf', rowsTo_len]; have := groupsN_le l; omega
  · rw [hg]; simp only [Option.getD_some]
    intro g hg'
    have := rowsTo_small _ _ _ g hg'
    omega
theorem detTo_next (l : Option (List Int)) (n d : Int) (j : Nat) : detTo l n d (j + 1) = detTo l n d j ++ [detectorOf l (180 + 8 * (d - j)) n] := by simp [detTo, List.range_succ]
theorem detTo_len (l : Option (List Int)) (n d : Int) (j : Nat) : (detTo l n d j).length = j := by simp [detTo]
theorem railTo_next (t : Tb) (l : Option (List Int)) (n d : Int) (j : Nat) : railTo t l n d (j + 1) = railTo t l n d j ++ [railOf t l (260 + 16 * (d - j)) n] := by simp [railTo, List.range_succ]
theorem railTo_len (t : Tb) (l : Option (List Int)) (n d : Int) (j : Nat) : (railTo t l n d j).length = j := by simp [railTo]
theorem busTo_next (l : Option (List Int)) (n d : Int) (j : Nat) : busTo l n d (j + 1) = busTo l n d j ++ [busOf l n (d - j)] := by simp [busTo, List.range_succ]
theorem busTo_len (l : Option (List Int)) (n d : Int) (j : Nat) : (busTo l n d j).length = j := by simp [busTo]
theorem Det.len (d : Det) : d.cells.length = 7 := rfl
theorem Bs.len (d : Bs) : d.cells.length = 2 := rfl
theorem tabPre_flash (l : Option (List Int)) : (tabPre l).flash.length = 8 := by
  unfold tabPre; simp only; split <;> simp [flTo_len]
theorem tabPre_dets (l : Option (List Int)) : ((tabPre l).detectors.getD []).length ≤ 1048576 := by
  have := frm_range l 175 (n := 9) (by decide) (by decide)
  simp only [tabPre, mkO_getD, detTo_len]; omega
theorem tabPre_rails (l : Option (List Int)) : ((tabPre l).rails.getD []).length ≤ 1048576 := by
  have h := Int.tmod_lt_of_pos (frm l 176 4) (b := 3) (by decide)
  simp only [tabPre, mkO_getD, railTo_len]; omega
theorem tabPre_buses (l : Option (List Int)) : ((tabPre l).buses.getD []).length ≤ 1048576 := by
  have := frm_range l 177 (n := 3) (by decide) (by decide)
  simp only [tabPre, mkO_getD, busTo_len]; omega
theorem tableOf_ok (l : Option (List Int)) : (tableOf l).Ok := ok_of rfl (phTo_len l _) (confTo_len _) (tabPre_flash l) (tabPre_dets l) (tabPre_rails l) (tabPre_buses l)
section
variable {P : Program} (hm : P.follows .mixedOrders = true) {f : Nat}
include hm
theorem Table.ok {fR fP fB fF fW fD eD fr eR eB fw : Nat} (hc : cFn P f = some (cc_law00_Table fR fP fB fF fW fD eD fr eR eB fw)) (hR : rows.Spec (Pure P) fR) (hP : phase.Spec (Pure P) fP) (hB : beside.Spec (Pure P) fB) (hF : from.Spec (Pure P) fF) (hW : refWith.Spec (Pure P) fW)
    (hD : detector.Spec (Pure P) fD) (hr : rail.Spec (Pure P) fr) (hw : wait.Spec (Pure P) fw) : Table.Spec (Pure P) f := by
  intro l
  refine pure_of hm hc (by show 1 ≤ 186; decide) (aw_flat (keep := [0,3,8,9,12,15,18]) (i := 0) ?_)
  try simp only [I, B, D, RY, ↓ KW, seval, cc_law00_Table, Z.H, z131_is]
  have ok0 : Tb0.Ok := ⟨rfl, rfl, rfl, by simp [Tb0], by simp [Tb0], by simp [Tb0], by simp [Tb0], by simp [Tb0]⟩
  refine ⟨rfl, callp_is (hR Tb0 l ok0 rfl) ?_⟩
  have hN := rowsOf_le l
  have hN1 := rowsOf_pos l
  try simp only [I, B, D, RY, ↓ KW, seval]
  change aw _ _ _ (⟨[(5, _), (4, .dat (I ((rowsOf' l).2 : Nat)) none), (14, _), (13, _), (3, _), (2, _), (0, _)], [(5, ⟨(tabA l 0).cells, []⟩), _], _, _⟩ : S)
  generalize hNe : (rowsOf' l).2 = N at *
  refine aw_cut (.exit 0) (fun _ : Unit => (⟨[(4, .dat (I N) none), (3, .ptr 5 0), (0, .dat (slAV intRow l) none), (2, .ptr 4 0)], [(5, ⟨(tabA l N).cells, []⟩), (4, ⟨Tb0.cells, []⟩)], [], 400⟩ : S)) (fun _ => True) (fun _ => rfl) ?_ ?_
  · refine aw_loop' (fun k : Nat => (⟨[(5, .dat (I k) none), (4, .dat (I N) none), (3, .ptr 5 0), (0, .dat (slAV intRow l) none), (2, .ptr 4 0)], [(5, ⟨(tabA l k).cells, []⟩), (4, ⟨Tb0.cells, []⟩)], [], 400⟩ : S)) (fun k => N - k) (fun k => k ≤ N) ?_ 0 (by omega) ?_
    · intro k hk A back
      have hw3 := wrap_succ (k := k) (by omega)
      have hw2 : IntKind.i64.wrap (10 + IntKind.i64.wrap (12 * (k : Int))) = 10 + 12 * k := by rw [wrap_id (n := 12 * (k : Int)) (by omega) (by omega), wrap_id (by omega) (by omega)]
      have ln1 : (tabA l k).Ln := ⟨phTo_len l k, rfl, flTo_len k⟩
      have ln2 : ({ tabA l k with phases := (tabA l k).phases.set k (phaseOf l (10 + 12 * k)) } : Tb).Ln := ⟨by simp [phTo_len, tabA], rfl, flTo_len k⟩
      try simp only [I, B, D, RY, ↓ KW, seval]
      refine cd_split (fun h => ?_) (fun h => ?_) <;> try simp only [I, B, D, RY, ↓ KW, seval, h]
      · have hkN : k < N := by have := of_decide_eq_true h; omega
        have hlt : k < 8 := by omega
        have hs1 := ln1.set_phase hlt (phaseOf l (10 + 12 * k))
        have hs2 := ln2.set_flash hlt 1
        have hs3 : ({ ({ tabA l k with phases := (tabA l k).phases.set k (phaseOf l (10 + 12 * k)) } : Tb) with flash := ({ tabA l k with phases := (tabA l k).phases.set k (phaseOf l (10 + 12 * k)) } : Tb).flash.set k 1 } : Tb) = tabA l (k + 1) := rfl
        rw [hs3] at hs2
        have hl1 := ln1.len
        have hl2 := ln2.len
        generalize ({ tabA l k with phases := (tabA l k).phases.set k (phaseOf l (10 + 12 * k)) } : Tb) = T at *
        refine call_is (hP _ _) ?_
        try simp only [I, B, D, RY, ↓ KW, seval, hw2, hs1]
        exact ⟨by omega, Ph.len _, by omega, by omega, by omega, by refine back (k + 1) _ (by omega) (by omega) (le_tok2 (by decide) ?_ ?_ ?_ ?_) <;> simp [LX, I, B, D, hs2, hw3]⟩
      · have : k = N := by have := of_decide_eq_false h; omega
        subst this
        refine cut_at () trivial ?_
        refine le_tok2 (by decide) ?_ ?_ ?_ ?_ <;> simp [LX, I, B, D]
    · refine le_tok2 (by decide) ?_ ?_ ?_ ?_ <;> simp [LX, I, B, D]
  · intro _ _
    try simp only [I, B, D, RY, ↓ KW, seval]
    generalize ht1 : ({ Tb0 with groups := some (rowsOf' l).1 } : Tb) = t1 at *
    have hA : tabA l N = tabB l (confTo t1 l 0) := by subst hNe; rfl
    refine aw_cut (.exit 2) (fun _ : Unit => (⟨[(4, .dat (I N) none), (3, .ptr 5 0), (0, .dat (slAV intRow l) none), (2, .ptr 4 0)], [(5, ⟨(tabB l (confTo t1 l N)).cells, []⟩), (4, ⟨Tb0.cells, []⟩)], [], 400⟩ : S)) (fun _ => True) (fun _ => rfl) ?_ ?_
    · refine aw_loop' (fun p : Nat => (⟨[(6, .dat (I p) none), (4, .dat (I N) none), (3, .ptr 5 0), (0, .dat (slAV intRow l) none), (2, .ptr 4 0)], [(5, ⟨(tabB l (confTo t1 l p)).cells, []⟩), (4, ⟨Tb0.cells, []⟩)], [], 400⟩ : S)) (fun p => N - p) (fun p => p ≤ N) ?_ 0 (by omega) ?_
      · intro p hp A back
        have hw3 := wrap_succ (k := p) (by omega)
        try simp only [I, B, D, RY, ↓ KW, seval]
        refine cd_split (fun h => ?_) (fun h => ?_) <;> try simp only [I, B, D, RY, ↓ KW, seval, h]
        · have hpN : p < N := by have := of_decide_eq_true h; omega
          have hlt : p < 8 := by omega
          have hcl : confTo t1 l (p + 1) = confRow t1 l p p (confTo t1 l p) := rfl
          have hcl8 := confTo_len (t := t1) (l := l) p
          generalize confTo t1 l p = c0 at *
          refine aw_loop' (fun q : Nat => (⟨[(7, .dat (I q) none), (6, .dat (I p) none), (4, .dat (I N) none), (3, .ptr 5 0), (0, .dat (slAV intRow l) none), (2, .ptr 4 0)], [(5, ⟨(tabB l (confRow t1 l p q c0)).cells, []⟩), (4, ⟨Tb0.cells, []⟩)], [], 400⟩ : S)) (fun q => p - q) (fun q => q ≤ p) ?_ 0 (by omega) ?_
          · intro q hq A2 back2
            have hw4 := wrap_succ (k := q) (by omega)
            have hst : confRow t1 l p (q + 1) c0 = confStep t1 l p q (confRow t1 l p q c0) := rfl
            have hc8 : (confRow t1 l p q c0).length = 8 := by rw [confRow_len, hcl8]
            generalize hce : confRow t1 l p q c0 = c at *
            have okB : (tabB l c).Ok := ok_of rfl (phTo_len l _) hc8 (flTo_len _) (by simp [tabB, tabA, Tb0]) (by simp [tabB, tabA, Tb0]) (by simp [tabB, tabA, Tb0])
            have hwh := okB.ln.whole
            have hln := okB.ln.len
            have hbs : besideR (tabB l c) p q = besideR t1 p q := by subst ht1; rfl
            have hix : IntKind.i64.wrap (IntKind.i64.wrap (110 + IntKind.i64.wrap (8 * (p : Int))) + q) = 110 + 8 * p + q := by
              rw [wrap_id (n := 8 * (p : Int)) (by omega) (by omega), wrap_id (n := 110 + 8 * (p : Int)) (by omega) (by omega), wrap_id (by omega) (by omega)]
            try simp only [I, B, D, RY, ↓ KW, seval]
            refine cd_split (fun h2 => ?_) (fun h2 => ?_) <;> try simp only [I, B, D, RY, ↓ KW, seval, hwh, h2]
            · have hq8 : q < p := by have := of_decide_eq_true h2; omega
              refine call_is (hB _ _ _ okB) ?_
              try simp only [I, B, D, RY, ↓ KW, seval, hbs]
              repeat' (first | (refine call_is (hF _ _ _ (by decide)) ?_; try simp only [I, B, D, RY, ↓ KW, seval, hix]) | (((first | refine gd_split ?_ ?_ | refine cd_split ?_ ?_ | refine pk_split ?_ ?_) <;> intro h) <;> try simp only [I, B, D, RY, ↓ KW, seval, hix, h]))
              · have hb : besideR t1 p q = false := by simp_all
                have hcc : clashes t1 l p q = true := by simp only [clashes, hb]; simpa using h
                have hcs : confStep t1 l p q c = (c.set p (withR (cAt c p) q)).set q (withR (cAt (c.set p (withR (cAt c p) q)) q) p) := by simp only [confStep, hcc, if_true]
                have g1 : c[p]? = some (cAt c p) := by simp [cAt, show p < c.length by omega]
                have g2 : (c.set p (withR (cAt c p) q))[q]? = some (cAt (c.set p (withR (cAt c p) q)) q) := by simp [cAt, show q < c.length by omega]
                have ln2 : (tabB l (c.set p (withR (cAt c p) q))).Ln := ⟨phTo_len l _, by simp [tabB, hc8], flTo_len _⟩
                have l1 := okB.ln.conflict_at (t := tabB l c) g1
                have l2 := ln2.conflict_at g2
                have hs1 : setCells (tabB l c).cells (105 + p) [I (withR (cAt c p) q)] = (tabB l (c.set p (withR (cAt c p) q))).cells := okB.ln.set_conflict hlt _
                have hs2 : setCells (tabB l (c.set p (withR (cAt c p) q))).cells (105 + q) [I (withR (cAt (c.set p (withR (cAt c p) q)) q) p)] = (tabB l (confStep t1 l p q c)).cells := by rw [hcs]; exact ln2.set_conflict (by omega) _
                have hln2 := ln2.len
                rw [← hst] at hs2
                simp only [I] at hs1 hs2
                generalize cAt (c.set p (withR (cAt c p) q)) q = v2 at *
                generalize cAt c p = v1 at *
                generalize c.set p (withR v1 q) = c2 at *
                refine ⟨by omega, ?_⟩
                try simp only [I, B, D, RY, ↓ KW, seval, l1]
                refine call_is (hW _ _) ?_
                try simp only [I, B, D, RY, ↓ KW, seval, hs1]
                refine ⟨by omega, by omega, by omega, ?_⟩
                try simp only [I, B, D, RY, ↓ KW, seval, l2, hs1]
                refine call_is (hW _ _) ?_
                try simp only [I, B, D, RY, ↓ KW, seval, hs1, hs2]
                exact ⟨by omega, by omega, by refine back2 (q + 1) _ (by omega) (by omega) (le_tok2 (by decide) ?_ ?_ ?_ ?_) <;> simp [LX, I, B, D, hw4]⟩
              · have hcs : confStep t1 l p q c = c := by
                  have hcc : clashes t1 l p q = false := by simp only [clashes]; simp_all
                  simp [confStep, hcc]
                refine back2 (q + 1) _ (by omega) (by omega) (le_tok2 (by decide) ?_ ?_ ?_ ?_) <;> simp [LX, I, B, D, hst, hcs, hw4]
              · have hcs : confStep t1 l p q c = c := by
                  have hcc : clashes t1 l p q = false := by simp only [clashes]; simp_all
                  simp [confStep, hcc]
                refine back2 (q + 1) _ (by omega) (by omega) (le_tok2 (by decide) ?_ ?_ ?_ ?_) <;> simp [LX, I, B, D, hst, hcs, hw4]
            · have : q = p := by have := of_decide_eq_false h2; omega
              subst this
              refine back (q + 1) _ (by omega) (by omega) (le_tok2 (by decide) ?_ ?_ ?_ ?_) <;> simp [LX, I, B, D, hcl, hce, hw3]
          · refine le_tok2 (by decide) ?_ ?_ ?_ ?_ <;> simp [LX, I, B, D, confRow]
        · have : p = N := by have := of_decide_eq_false h; omega
          subst this
          refine cut_at () trivial ?_
          refine le_tok2 (by decide) ?_ ?_ ?_ ?_ <;> simp [LX, I, B, D]
      · refine le_tok2 (by decide) ?_ ?_ ?_ ?_ <;> simp [LX, I, B, D, hA]
    · intro _ _
      have hn1 : IntKind.i64.wrap ((N : Int) + 1) = N + 1 := wrap_succ (by omega)
      have hq := frm_range l 174 (n := (N : Int) + 1) (by omega) (by omega)
      have okB : (tabB l (confTo t1 l N)).Ok := ok_of rfl (phTo_len l _) (confTo_len _) (flTo_len _) (by simp [tabB, tabA, Tb0]) (by simp [tabB, tabA, Tb0]) (by simp [tabB, tabA, Tb0])
      have hln := okB.ln.len
      have hpre : (tabPre l).flash = if frm l 174 (N + 1) < N then (flTo N).set (frm l 174 (N + 1)).toNat 2 else flTo N := by subst hNe; rfl
      have hC : tabC l = { tabB l (confTo t1 l N) with flash := (tabPre l).flash } := by subst hNe; subst ht1; rfl
      have hfB : (tabB l (confTo t1 l N)).flash = flTo N := by subst hNe; rfl
      rw [r_join]
      refine aw_cut .normal (fun _ : Unit => (⟨[(4, .dat (I N) none), (3, .ptr 5 0), (0, .dat (slAV intRow l) none), (2, .ptr 4 0)], [(5, ⟨(tabC l).cells, []⟩), (4, ⟨Tb0.cells, []⟩)], [], 400⟩ : S)) (fun _ => True) (fun _ => rfl) ?_ ?_
      · try simp only [I, B, D, RY, ↓ KW, seval]
        refine call_is (hF _ _ _ (by omega)) ?_
        rw [hn1]
        generalize frm l 174 (N + 1) = q at *
        try simp only [I, B, D, RY, ↓ KW, seval]
        refine cd_split (fun h => ?_) (fun h => ?_) <;> try simp only [I, B, D, RY, ↓ KW, seval, h]
        · have hqN : q < N := of_decide_eq_true h
          rw [if_pos hqN] at hpre
          have hs1 := okB.ln.set_flash (i := q.toNat) (by omega) 2
          have e : ({ tabB l (confTo t1 l N) with flash := (tabB l (confTo t1 l N)).flash.set q.toNat 2 } : Tb) = tabC l := by rw [hC, hfB, hpre]
          rw [e] at hs1
          simp only [I] at hs1
          refine ⟨by omega, by omega, ?_⟩
          refine cut_at () trivial ?_
          refine le_tok2 (by decide) ?_ ?_ ?_ ?_ <;> simp [LX, I, B, D, hs1]
        · have hqN : ¬ q < N := of_decide_eq_false h
          rw [if_neg hqN] at hpre
          have e : tabB l (confTo t1 l N) = tabC l := by rw [hC, hpre, ← hfB]
          refine cut_at () trivial ?_
          refine le_tok2 (by decide) ?_ ?_ ?_ ?_ <;> simp [LX, I, B, D, e]
      · intro _ _
        have hd := frm_range l 175 (n := 9) (by decide) (by decide)
        have hD0 : tabC l = tabD l [] := rfl
        have hDe : tabD l (detTo l N (frm l 175 9) (frm l 175 9).toNat) = tabE l [] := by subst hNe; rfl
        try simp only [I, B, D, RY, ↓ KW, seval]
        refine call_is (hF _ _ _ (by decide)) ?_
        generalize frm l 175 9 = d at *
        try simp only [I, B, D, RY, ↓ KW, seval]
        refine aw_cut (.exit 6) (fun _ : Unit => (⟨[(4, .dat (I N) none), (3, .ptr 5 0), (0, .dat (slAV intRow l) none), (2, .ptr 4 0)], [(5, ⟨(tabD l (detTo l N d d.toNat)).cells, []⟩), (4, ⟨Tb0.cells, []⟩)], [], 400⟩ : S)) (fun _ => True) (fun _ => rfl) ?_ ?_
        · refine aw_loop' (fun j : Nat => (⟨[(9, .dat (I (d - j)) none), (4, .dat (I N) none), (3, .ptr 5 0), (0, .dat (slAV intRow l) none), (2, .ptr 4 0)], [(5, ⟨(tabD l (detTo l N d j)).cells, if detTo l N d j = [] then [] else [(113, 0)]⟩), (4, ⟨Tb0.cells, []⟩)], ownL (detTo l N d j) 0 eD, 400⟩ : S)) (fun j => d.toNat - j) (fun j => j ≤ d.toNat) ?_ 0 (by omega) ?_
          · intro j hj A back
            have hw3 : IntKind.i64.wrap (d - j - 1) = d - ((j + 1 : Nat) : Int) := by rw [wrap_id (by omega) (by omega)]; omega
            have hix : IntKind.i64.wrap (180 + IntKind.i64.wrap (8 * (d - (j : Int)))) = 180 + 8 * (d - j) := by rw [wrap_id (n := 8 * (d - (j : Int))) (by omega) (by omega), wrap_id (by omega) (by omega)]
            have hnext := detTo_next  l N d j
            have hlen : (detTo l N d j).length = j := detTo_len ..
            generalize hL : detTo l N d j = L at *
            generalize hx : detectorOf l (180 + 8 * (d - j)) N = x at *
            have okT : (tabD l L).Ok := ok_of rfl (phTo_len l _) (confTo_len _) (tabPre_flash l) (by simp [tabD, tabC, tabB, tabA, Tb0, mkO_getD, tabPre_dets]; try omega) (by simp [tabD, tabC, tabB, tabA, Tb0, mkO_getD, tabPre_rails]; try omega) (by simp [tabD, tabC, tabB, tabA, Tb0, mkO_getD]; try omega)
            have ln := okT.ln
            have hln := ln.len
            have hwh := ln.whole
            have hat := ln.at113
            have hset : setCells (tabD l L).cells 113 [slAV Det.cells (some (L ++ [x]))] = (tabD l (L ++ [x])).cells := by rw [ln.set_dets (some (L ++ [x]))]; simp [tabD, mkO]
            have hatr : (tabD l L).detectors = mkO L := rfl
            rw [hatr] at hat
            simp only [slAV_some, List.map_append, List.map_cons, List.map_nil] at hset
            cases L with
            | nil =>
              simp only [List.map_nil, List.nil_append, mkO, if_true, slAV_none] at hset hat hnext
              try simp only [I, B, D, RY, ↓ KW, seval, mkO, ownL]
              refine cd_split (fun h => ?_) (fun h => ?_) <;> try simp only [I, B, D, RY, ↓ KW, seval, hat, hwh, h]
              · have hj1 : (0 : Int) < d - j := of_decide_eq_true h
                refine call_is (hD _ _ _ (by omega)) ?_
                try simp only [I, B, D, RY, ↓ KW, seval, hix, hx, Det.len]
                try simp only [I, B, D, RY, ↓ KW, seval, hset]
                refine ⟨by omega, ?_⟩
                refine back (j + 1) _ (by omega) (by omega) (le_tok2 (by decide) ?_ ?_ ?_ ?_) <;> simp [LX, I, B, D, hnext, hw3, mkO]
              · have hj1 : ¬ (0 : Int) < d - j := of_decide_eq_false h
                have : j = d.toNat := by omega
                rw [← this, hL]
                refine cut_at () trivial ?_
                refine le_tok2 (by decide) ?_ ?_ ?_ ?_ <;> simp [LX, I, B, D, mkO]
            | cons y ys =>
              simp only [mkO, reduceCtorEq, if_false, slAV_some] at hset hat hnext
              try simp only [I, B, D, RY, ↓ KW, seval, mkO, ownL]
              refine cd_split (fun h => ?_) (fun h => ?_) <;> try simp only [I, B, D, RY, ↓ KW, seval, hat, hwh, h]
              · have hj1 : (0 : Int) < d - j := of_decide_eq_true h
                refine call_is (hD _ _ _ (by omega)) ?_
                try simp only [I, B, D, RY, ↓ KW, seval, hix, hx, Det.len]
                try simp only [I, B, D, RY, ↓ KW, seval, hset, Det.len]
                refine ⟨by simp at hlen ⊢; omega, by omega, ?_⟩
                refine back (j + 1) _ (by omega) (by omega) (le_tok2 (by decide) ?_ ?_ ?_ ?_) <;> simp [LX, I, B, D, hnext, hw3, mkO]
              · have hj1 : ¬ (0 : Int) < d - j := of_decide_eq_false h
                have : j = d.toNat := by omega
                rw [← this, hL]
                refine cut_at () trivial ?_
                refine le_tok2 (by decide) ?_ ?_ ?_ ?_ <;> simp [LX, I, B, D, mkO]
          · refine le_tok2 (by decide) ?_ ?_ ?_ ?_ <;> simp [LX, I, B, D, hD0, detTo, mkO]
        · intro _ _
          have hr4 := frm_range l 176 (n := 4) (by decide) (by decide)
          have hr3 := Int.tmod_lt_of_pos (frm l 176 4) (b := 3) (by decide)
          have hr0 := Int.tmod_nonneg 3 hr4.1
          have hEe : tabE l (railTo t1 l N ((frm l 176 4).tmod 3) ((frm l 176 4).tmod 3).toNat) = tabF l [] := by subst hNe; subst ht1; rfl
          have hRl : (tabPre l).rails = mkO (railTo t1 l N ((frm l 176 4).tmod 3) ((frm l 176 4).tmod 3).toNat) := by subst hNe; subst ht1; rfl
          have hTab : tableOf l = tabW l (if railTo t1 l N ((frm l 176 4).tmod 3) ((frm l 176 4).tmod 3).toNat = [] then 0 else winTo (tabPre l) N) := by subst hNe; subst ht1; rfl
          try simp only [I, B, D, RY, ↓ KW, seval]
          refine call_is (hF _ _ _ (by decide)) ?_
          try simp only [I, B, D, RY, ↓ KW, seval]
          generalize (frm l 176 4).tmod 3 = r at *
          refine aw_cut (.exit 8) (fun _ : Unit => (⟨[(4, .dat (I N) none), (3, .ptr 5 0), (0, .dat (slAV intRow l) none), (2, .ptr 4 0)], [(5, ⟨(tabE l (railTo t1 l N r r.toNat)).cells, []⟩), (4, ⟨Tb0.cells, []⟩)], [], 400⟩ : S)) (fun _ => True) (fun _ => rfl) ?_ ?_
          · refine aw_loop' (fun j : Nat => (⟨[(10, .dat (I (r - j)) none), (4, .dat (I N) none), (3, .ptr 5 0), (0, .dat (slAV intRow l) none), (2, .ptr 4 0)], [(5, ⟨(tabE l (railTo t1 l N r j)).cells, if railTo t1 l N r j = [] then [] else [(114, 0)]⟩), (4, ⟨Tb0.cells, []⟩)], ownL (railTo t1 l N r j) 0 eR, 400⟩ : S)) (fun j => r.toNat - j) (fun j => j ≤ r.toNat) ?_ 0 (by omega) ?_
            · intro j hj A back
              have hw3 : IntKind.i64.wrap (r - j - 1) = r - ((j + 1 : Nat) : Int) := by rw [wrap_id (by omega) (by omega)]; omega
              have hix : IntKind.i64.wrap (260 + IntKind.i64.wrap (16 * (r - (j : Int)))) = 260 + 16 * (r - j) := by rw [wrap_id (n := 16 * (r - (j : Int))) (by omega) (by omega), wrap_id (by omega) (by omega)]
              have hro : ∀ L', railOf (tabE l L') l (260 + 16 * (r - j)) N = railOf t1 l (260 + 16 * (r - j)) N := fun _ => by subst ht1; rfl
              have hnext := railTo_next  t1 l N r j
              have hlen : (railTo t1 l N r j).length = j := railTo_len ..
              generalize hL : railTo t1 l N r j = L at *
              generalize hx : railOf t1 l (260 + 16 * (r - j)) N = x at *
              have okT : (tabE l L).Ok := ok_of rfl (phTo_len l _) (confTo_len _) (tabPre_flash l) (by simp [tabE, tabC, tabB, tabA, Tb0, mkO_getD, tabPre_dets]; try omega) (by simp [tabE, tabC, tabB, tabA, Tb0, mkO_getD, tabPre_rails]; try omega) (by simp [tabE, tabC, tabB, tabA, Tb0, mkO_getD]; try omega)
              have ln := okT.ln
              have hln := ln.len
              have hwh := ln.whole
              have hat := ln.at114
              have hset : setCells (tabE l L).cells 114 [slAV Rl.cells (some (L ++ [x]))] = (tabE l (L ++ [x])).cells := by rw [ln.set_rails (some (L ++ [x]))]; simp [tabE, mkO]
              have hatr : (tabE l L).rails = mkO L := rfl
              rw [hatr] at hat
              simp only [slAV_some, List.map_append, List.map_cons, List.map_nil] at hset
              cases L with
              | nil =>
                simp only [List.map_nil, List.nil_append, mkO, if_true, slAV_none] at hset hat hnext
                try simp only [I, B, D, RY, ↓ KW, seval, mkO, ownL]
                refine cd_split (fun h => ?_) (fun h => ?_) <;> try simp only [I, B, D, RY, ↓ KW, seval, hat, hwh, h]
                · have hj1 : (0 : Int) < r - j := of_decide_eq_true h
                  refine call_is (hr _ _ _ _ okT (by omega) (by omega)) ?_
                  try simp only [I, B, D, RY, ↓ KW, seval, hix, hro, hx, Rl.len]
                  try simp only [I, B, D, RY, ↓ KW, seval, hset]
                  refine ⟨by omega, ?_⟩
                  refine back (j + 1) _ (by omega) (by omega) (le_tok2 (by decide) ?_ ?_ ?_ ?_) <;> simp [LX, I, B, D, hnext, hw3, mkO]
                · have hj1 : ¬ (0 : Int) < r - j := of_decide_eq_false h
                  have : j = r.toNat := by omega
                  rw [← this, hL]
                  refine cut_at () trivial ?_
                  refine le_tok2 (by decide) ?_ ?_ ?_ ?_ <;> simp [LX, I, B, D, mkO]
              | cons y ys =>
                simp only [mkO, reduceCtorEq, if_false, slAV_some] at hset hat hnext
                try simp only [I, B, D, RY, ↓ KW, seval, mkO, ownL]
                refine cd_split (fun h => ?_) (fun h => ?_) <;> try simp only [I, B, D, RY, ↓ KW, seval, hat, hwh, h]
                · have hj1 : (0 : Int) < r - j := of_decide_eq_true h
                  refine call_is (hr _ _ _ _ okT (by omega) (by omega)) ?_
                  try simp only [I, B, D, RY, ↓ KW, seval, hix, hro, hx, Rl.len]
                  try simp only [I, B, D, RY, ↓ KW, seval, hset, Rl.len]
                  refine ⟨by simp at hlen ⊢; omega, by omega, ?_⟩
                  refine back (j + 1) _ (by omega) (by omega) (le_tok2 (by decide) ?_ ?_ ?_ ?_) <;> simp [LX, I, B, D, hnext, hw3, mkO]
                · have hj1 : ¬ (0 : Int) < r - j := of_decide_eq_false h
                  have : j = r.toNat := by omega
                  rw [← this, hL]
                  refine cut_at () trivial ?_
                  refine le_tok2 (by decide) ?_ ?_ ?_ ?_ <;> simp [LX, I, B, D, mkO]
            · refine le_tok2 (by decide) ?_ ?_ ?_ ?_ <;> simp [LX, I, B, D, hDe, railTo, mkO]
          · intro _ _
            have hb3 := frm_range l 177 (n := 3) (by decide) (by decide)
            have hFe : tabF l (busTo l N (frm l 177 3) (frm l 177 3).toNat) = { tabPre l with extend := 0, budget := 0, start := 0, revert := 0, least := 0, share := 0 } := by subst hNe; rfl
            have hu : 0 ≤ IntKind.u64.wrap (N : Int) := by rw [IntKind.wrap]; simp [IntKind.signed]; omega
            try simp only [I, B, D, RY, ↓ KW, seval]
            refine call_is (hF _ _ _ (by decide)) ?_
            generalize frm l 177 3 = b at *
            try simp only [I, B, D, RY, ↓ KW, seval]
            refine aw_cut (.exit 10) (fun _ : Unit => (⟨[(4, .dat (I N) none), (3, .ptr 5 0), (0, .dat (slAV intRow l) none), (2, .ptr 4 0)], [(5, ⟨(tabF l (busTo l N b b.toNat)).cells, []⟩), (4, ⟨Tb0.cells, []⟩)], [], 400⟩ : S)) (fun _ => True) (fun _ => rfl) ?_ ?_
            · refine aw_loop' (fun j : Nat => (⟨[(11, .dat (I (b - j)) none), (4, .dat (I N) none), (3, .ptr 5 0), (0, .dat (slAV intRow l) none), (2, .ptr 4 0)], [(5, ⟨(tabF l (busTo l N b j)).cells, if busTo l N b j = [] then [] else [(115, 0)]⟩), (4, ⟨Tb0.cells, []⟩)], ownL (busTo l N b j) 0 eB, 400⟩ : S)) (fun j => b.toNat - j) (fun j => j ≤ b.toNat) ?_ 0 (by omega) ?_
              · intro j hj A back
                have hw3 : IntKind.i64.wrap (b - j - 1) = b - ((j + 1 : Nat) : Int) := by rw [wrap_id (by omega) (by omega)]; omega
                have hi1 : IntKind.i64.wrap (330 + IntKind.i64.wrap (2 * (b - (j : Int)))) = 330 + 2 * (b - j) := by rw [wrap_id (n := 2 * (b - (j : Int))) (by omega) (by omega), wrap_id (by omega) (by omega)]
                have hi2 : IntKind.i64.wrap (331 + IntKind.i64.wrap (2 * (b - (j : Int)))) = 331 + 2 * (b - j) := by rw [wrap_id (n := 2 * (b - (j : Int))) (by omega) (by omega), wrap_id (by omega) (by omega)]
                have hbx : (busOf l N (b - j)).cells = [AV.int .i64 (if bAnd .i64 (frm l (330 + 2 * (b - j)) 256) (IntKind.i64.wrap (IntKind.i64.wrap (1 * 2 ^ min (IntKind.u64.wrap (N : Int)).toNat IntKind.i64.bits) - 1)) > 1 then bAnd .i64 (frm l (330 + 2 * (b - j)) 256) (IntKind.i64.wrap (IntKind.i64.wrap (1 * 2 ^ min (IntKind.u64.wrap (N : Int)).toNat IntKind.i64.bits) - 1)) else 1), AV.int .i64 (IntKind.i64.wrap (1 + frm l (331 + 2 * (b - j)) 30))] := rfl
                have hnext := busTo_next  l N b j
                have hlen : (busTo l N b j).length = j := busTo_len ..
                generalize hL : busTo l N b j = L at *
                generalize hx : busOf l N (b - j) = x at *
                have okT : (tabF l L).Ok := ok_of rfl (phTo_len l _) (confTo_len _) (tabPre_flash l) (by simp [tabF, tabC, tabB, tabA, Tb0, mkO_getD, tabPre_dets]; try omega) (by simp [tabF, tabC, tabB, tabA, Tb0, mkO_getD, tabPre_rails]; try omega) (by simp [tabF, tabC, tabB, tabA, Tb0, mkO_getD]; try omega)
                have ln := okT.ln
                have hln := ln.len
                have hwh := ln.whole
                have hat := ln.at115
                have hset : setCells (tabF l L).cells 115 [slAV Bs.cells (some (L ++ [x]))] = (tabF l (L ++ [x])).cells := by rw [ln.set_buses (some (L ++ [x]))]; simp [tabF, mkO]
                have hatr : (tabF l L).buses = mkO L := rfl
                rw [hatr] at hat
                simp only [slAV_some, List.map_append, List.map_cons, List.map_nil] at hset
                cases L with
                | nil =>
                  simp only [List.map_nil, List.nil_append, mkO, if_true, slAV_none] at hset hat hnext
                  try simp only [I, B, D, RY, ↓ KW, seval, mkO, ownL]
                  refine cd_split (fun h => ?_) (fun h => ?_) <;> try simp only [I, B, D, RY, ↓ KW, seval, hat, hwh, h]
                  · have hj1 : (0 : Int) < b - j := of_decide_eq_true h
                    refine call_is (hF _ _ _ (by decide)) ?_
                    try simp only [I, B, D, RY, ↓ KW, seval, hi1]
                    refine ⟨hu, ?_⟩
                    refine call_is (hF _ _ _ (by decide)) ?_
                    try simp only [I, B, D, RY, ↓ KW, seval, hi2, hi1]
                    simp only [gt_iff_lt] at hbx ⊢
                    rw [hbx] at hset
                    try simp only [I, B, D, RY, ↓ KW, seval, hset]
                    refine ⟨by omega, ?_⟩
                    refine back (j + 1) _ (by omega) (by omega) (le_tok2 (by decide) ?_ ?_ ?_ ?_) <;> simp [LX, I, B, D, hnext, hw3, mkO]
                  · have hj1 : ¬ (0 : Int) < b - j := of_decide_eq_false h
                    have : j = b.toNat := by omega
                    rw [← this, hL]
                    refine cut_at () trivial ?_
                    refine le_tok2 (by decide) ?_ ?_ ?_ ?_ <;> simp [LX, I, B, D, mkO]
                | cons y ys =>
                  simp only [mkO, reduceCtorEq, if_false, slAV_some] at hset hat hnext
                  try simp only [I, B, D, RY, ↓ KW, seval, mkO, ownL]
                  refine cd_split (fun h => ?_) (fun h => ?_) <;> try simp only [I, B, D, RY, ↓ KW, seval, hat, hwh, h]
                  · have hj1 : (0 : Int) < b - j := of_decide_eq_true h
                    refine call_is (hF _ _ _ (by decide)) ?_
                    try simp only [I, B, D, RY, ↓ KW, seval, hi1]
                    refine ⟨hu, ?_⟩
                    refine call_is (hF _ _ _ (by decide)) ?_
                    try simp only [I, B, D, RY, ↓ KW, seval, hi2, hi1]
                    simp only [gt_iff_lt] at hbx ⊢
                    rw [hbx] at hset
                    try simp only [I, B, D, RY, ↓ KW, seval, hset, Bs.len]
                    refine ⟨by simp at hlen ⊢; omega, by omega, ?_⟩
                    refine back (j + 1) _ (by omega) (by omega) (le_tok2 (by decide) ?_ ?_ ?_ ?_) <;> simp [LX, I, B, D, hnext, hw3, mkO]
                  · have hj1 : ¬ (0 : Int) < b - j := of_decide_eq_false h
                    have : j = b.toNat := by omega
                    rw [← this, hL]
                    refine cut_at () trivial ?_
                    refine le_tok2 (by decide) ?_ ?_ ?_ ?_ <;> simp [LX, I, B, D, mkO]
              · refine le_tok2 (by decide) ?_ ?_ ?_ ?_ <;> simp [LX, I, B, D, hEe, busTo, mkO]
            · intro _ _
              have n0 : ({ tabPre l with extend := 0, budget := 0, start := 0, revert := 0, least := 0, share := 0 } : Tb).Ln := ⟨phTo_len l _, confTo_len _, tabPre_flash l⟩
              have n1 : ({ tabPre l with budget := 0, start := 0, revert := 0, least := 0, share := 0 } : Tb).Ln := ⟨phTo_len l _, confTo_len _, tabPre_flash l⟩
              have n2 : ({ tabPre l with start := 0, revert := 0, least := 0, share := 0 } : Tb).Ln := ⟨phTo_len l _, confTo_len _, tabPre_flash l⟩
              have n3 : ({ tabPre l with revert := 0, least := 0, share := 0 } : Tb).Ln := ⟨phTo_len l _, confTo_len _, tabPre_flash l⟩
              have n4 : ({ tabPre l with least := 0, share := 0 } : Tb).Ln := ⟨phTo_len l _, confTo_len _, tabPre_flash l⟩
              have n5 : ({ tabPre l with share := 0 } : Tb).Ln := ⟨phTo_len l _, confTo_len _, tabPre_flash l⟩
              have s0 : setCells ({ tabPre l with extend := 0, budget := 0, start := 0, revert := 0, least := 0, share := 0 } : Tb).cells 116 [AV.int .i64 (frm l 178 12)] = ({ tabPre l with budget := 0, start := 0, revert := 0, least := 0, share := 0 } : Tb).cells := (n0.set_nums (frm l 178 12)).1
              have s1 : setCells ({ tabPre l with budget := 0, start := 0, revert := 0, least := 0, share := 0 } : Tb).cells 117 [AV.int .i64 (frm l 179 40)] = ({ tabPre l with start := 0, revert := 0, least := 0, share := 0 } : Tb).cells := (n1.set_nums (frm l 179 40)).2.1
              have s2 : setCells ({ tabPre l with start := 0, revert := 0, least := 0, share := 0 } : Tb).cells 118 [AV.int .i64 (frm l 180 8)] = ({ tabPre l with revert := 0, least := 0, share := 0 } : Tb).cells := (n2.set_nums (frm l 180 8)).2.2.1
              have s3 : setCells ({ tabPre l with revert := 0, least := 0, share := 0 } : Tb).cells 119 [AV.int .i64 (frm l 181 8)] = ({ tabPre l with least := 0, share := 0 } : Tb).cells := (n3.set_nums (frm l 181 8)).2.2.2.1
              have s4 : setCells ({ tabPre l with least := 0, share := 0 } : Tb).cells 120 [AV.int .i64 (frm l 182 12)] = ({ tabPre l with share := 0 } : Tb).cells := (n4.set_nums (frm l 182 12)).2.2.2.2
              have s5 : setCells ({ tabPre l with share := 0 } : Tb).cells 130 [AV.int .i64 (frm l 183 4)] = (tabPre l).cells := (n5.set_last (frm l 183 4)).2
              have k0 := n0.len
              have k1 := n1.len
              have k2 := n2.len
              have k3 := n3.len
              have k4 := n4.len
              have k5 := n5.len
              rw [hFe]
              generalize ({ tabPre l with extend := 0, budget := 0, start := 0, revert := 0, least := 0, share := 0 } : Tb) = T0 at *
              generalize ({ tabPre l with budget := 0, start := 0, revert := 0, least := 0, share := 0 } : Tb) = T1 at *
              generalize ({ tabPre l with start := 0, revert := 0, least := 0, share := 0 } : Tb) = T2 at *
              generalize ({ tabPre l with revert := 0, least := 0, share := 0 } : Tb) = T3 at *
              generalize ({ tabPre l with least := 0, share := 0 } : Tb) = T4 at *
              generalize ({ tabPre l with share := 0 } : Tb) = T5 at *
              have c0 : 117 ≤ T0.cells.length := by omega
              have c1 : 118 ≤ T1.cells.length := by omega
              have c2 : 119 ≤ T2.cells.length := by omega
              have c3 : 120 ≤ T3.cells.length := by omega
              have c4 : 121 ≤ T4.cells.length := by omega
              have c5 : 131 ≤ T5.cells.length := by omega
              try simp only [I, B, D, RY, ↓ KW, seval]
              refine call_is (hF _ _ _ (by decide)) ?_
              try simp only [I, B, D, RY, ↓ KW, seval, s0, s1, s2, s3, s4, s5, c0, c1, c2, c3, c4, c5]
              refine call_is (hF _ _ _ (by decide)) ?_
              try simp only [I, B, D, RY, ↓ KW, seval, s0, s1, s2, s3, s4, s5, c0, c1, c2, c3, c4, c5]
              refine call_is (hF _ _ _ (by decide)) ?_
              try simp only [I, B, D, RY, ↓ KW, seval, s0, s1, s2, s3, s4, s5, c0, c1, c2, c3, c4, c5]
              refine call_is (hF _ _ _ (by decide)) ?_
              try simp only [I, B, D, RY, ↓ KW, seval, s0, s1, s2, s3, s4, s5, c0, c1, c2, c3, c4, c5]
              refine call_is (hF _ _ _ (by decide)) ?_
              try simp only [I, B, D, RY, ↓ KW, seval, s0, s1, s2, s3, s4, s5, c0, c1, c2, c3, c4, c5]
              refine call_is (hF _ _ _ (by decide)) ?_
              try simp only [I, B, D, RY, ↓ KW, seval, s0, s1, s2, s3, s4, s5, c0, c1, c2, c3, c4, c5]
              have hT : tableOf l = tabW l (if railTo t1 l N r r.toNat = [] then 0 else winTo (tabPre l) N) := hTab
              have hW0 : tabPre l = tabW l (if railTo t1 l N r r.toNat = [] then 0 else winTo (tabPre l) 0) := by
                have : (if railTo t1 l N r r.toNat = [] then (0 : Int) else winTo (tabPre l) 0) = 0 := by split <;> rfl
                rw [this]; rfl
              replace hW0 := congrArg Tb.cells hW0
              generalize railTo t1 l N r r.toNat = R at *
              refine aw_cut (.exit 12) (fun _ : Unit => (⟨[(3, .ptr 5 0), (2, .ptr 4 0)], [(5, ⟨(tableOf l).cells, []⟩), (4, ⟨Tb0.cells, []⟩)], [], 400⟩ : S)) (fun _ => True) (fun _ => rfl) ?_ ?_
              · refine aw_loop' (fun k : Nat => (⟨[(12, .dat (I k) none), (4, .dat (I N) none), (3, .ptr 5 0), (2, .ptr 4 0)], [(5, ⟨(tabW l (if R = [] then 0 else winTo (tabPre l) k)).cells, []⟩), (4, ⟨Tb0.cells, []⟩)], [], 400⟩ : S)) (fun k => N - k) (fun k => k ≤ N ∧ (R = [] → k = 0)) ?_ 0 (by simp) ?_
                · intro k ⟨hk, hR0⟩ A back
                  have hw3 := wrap_succ (k := k) (by omega)
                  have hwt : ∀ w, waitI (tabW l w) k = waitI (tabPre l) k := fun _ => rfl
                  have hnx : winTo (tabPre l) (k + 1) = if waitI (tabPre l) k > winTo (tabPre l) k then waitI (tabPre l) k else winTo (tabPre l) k := rfl
                  generalize hwv : (if R = [] then (0 : Int) else winTo (tabPre l) k) = wv at *
                  have okW : (tabW l wv).Ok := ok_of rfl (phTo_len l _) (confTo_len _) (tabPre_flash l) (tabPre_dets l) (tabPre_rails l) (by have := frm_range l 177 (n := 3) (by decide) (by decide); simp only [tabW, tabPre, mkO_getD, busTo_len]; omega)
                  have ln := okW.ln
                  have hln := ln.len
                  have hwh := ln.whole
                  have hat := ln.at114
                  have hat2 := ln.at129
                  have hrr : (tabW l wv).rails = mkO R := hRl
                  have hww : (tabW l wv).window = wv := rfl
                  rw [hrr] at hat
                  rw [hww] at hat2
                  have hset : setCells (tabW l wv).cells 129 [AV.int .i64 (if waitI (tabPre l) k > wv then waitI (tabPre l) k else wv)] = (tabW l (if waitI (tabPre l) k > wv then waitI (tabPre l) k else wv)).cells := (ln.set_last _).1
                  have hmk := mkO_getD R
                  try simp only [I, B, D, RY, ↓ KW, seval]
                  repeat' (((first | refine gd_split ?_ ?_ | refine cd_split ?_ ?_ | refine pk_split ?_ ?_) <;> intro h) <;> try simp only [I, B, D, RY, ↓ KW, seval, hat, hmk, h])
                  · have hRl0 := of_decide_eq_true h
                    have hkN : (k : Int) < N := by rename_i h1; exact of_decide_eq_true h1
                    have hne : R ≠ [] := by intro e; rw [e] at hRl0; simp at hRl0
                    rw [if_neg hne] at hwv
                    subst hwv
                    rw [← hnx] at hset
                    try simp only [I, B, D, RY, ↓ KW, seval, hat2, hwh]
                    refine call_is (hw _ _ okW) ?_
                    try simp only [I, B, D, RY, ↓ KW, seval, hwt, ← hnx, hset, gt_iff_lt]
                    refine ⟨by omega, ?_⟩
                    refine back (k + 1) _ ⟨by omega, fun e => absurd e hne⟩ (by omega) ?_
                    refine le_tok2 (by decide) ?_ ?_ ?_ ?_ <;> simp [LX, I, B, D, hne, hw3]
                  · have hRl0 := of_decide_eq_false h
                    have hR0' : R = [] := List.eq_nil_of_length_eq_zero (by omega)
                    rw [if_pos hR0'] at hwv hT
                    subst hwv
                    refine cut_at () trivial ?_
                    refine le_tok2 (by decide) ?_ ?_ ?_ ?_ <;> simp [LX, I, B, D, hT]
                  · have hkN : k = N := by have := of_decide_eq_false h; omega
                    rw [← hkN, hwv] at hT
                    refine cut_at () trivial ?_
                    refine le_tok2 (by decide) ?_ ?_ ?_ ?_ <;> simp [LX, I, B, D, hT]
                · refine le_tok2 (by decide) ?_ ?_ ?_ ?_ <;> simp [LX, I, B, D, hW0]
              · intro _ _
                have okZ : (tableOf l).Ok := tableOf_ok l
                have hlz := okZ.ln.len
                have hwz := okZ.ln.whole
                have hl0 := ok0.ln.len
                have hsz : setCells Tb0.cells 0 (tableOf l).cells = (tableOf l).cells := set_all (by omega)
                try simp only [I, B, D, RY, ↓ KW, seval, hwz, hlz, hl0, hsz]
end
end Go.Eng
namespace Go.Eng
set_option linter.unusedVariables false
set_option linter.unusedSimpArgs false
set_option linter.unnecessarySimpa false
open Go
section
open Z
set_option linter.unusedVariables false
def cc_secs_Ticks : CFn := ⟨15,[.tmp 2,.tmp 3],r [V 2 (i 0),V 3 (F)] (j (r [M 4 0,o 5 (bb .geq 4 (.float .f64 0)),M 6 5,p 7 (m 0) 6,p 8 (bb .leq 7 (.float .f64 4652006429231887155)) 6,o 9 (P 6 8),o 10 (.un .not (t 9))] (c 10 (r [V 2 (i 0),V 3 (F)] y) z)) (r [M 11 0,o 12 (.bin .mul (k (.float .f64 4621819117588971520)) (t 11)),o 13 (.xt .rte (t 12)),o 14 (.cvFI .i64 (t 13)),M 2 14,V 3 (T)] y))⟩
def cc_ref01_Ticks : CFn := ⟨36,[.tmp 2,.tmp 3],r [V 2 (i 0),V 3 (F)] (j (r [M 7 0,o 8 (bb .geq 7 (.float .f64 0)),M 9 8,p 10 (m 0) 9,p 11 (bb .leq 10 (.float .f64 4652006429231887155)) 9,o 12 (P 9 11),o 13 (.un .not (t 12))] (c 13 (r [V 2 (i 0),V 3 (F)] y) z)) (r [M 14 0,o 15 (bb .mul 14 (.float .f64 4621819117588971520)),M 4 15] (r [M 16 4,o 17 (.cvFI .i64 (t 16)),M 5 17] (r [M 18 4,M 19 5,o 20 (.cvIF .f64 (t 19)),o 21 (b .sub 18 20),M 6 21] (j (r [M 22 6,o 23 (bb .gtr 22 (.float .f64 4602678819172646912)),M 24 23,q 25 (m 6) 24,q 26 (bb .eql 25 (.float .f64 4602678819172646912)) 24,q 27 (m 26) 24,p 28 (m 5) 27,p 29 (bb .rem 28 (i 2)) 27,p 30 (bb .eql 29 (i 1)) 27,q 31 (P 27 30) 24,o 32 (Q 24 31)] (c 32 (R [M 33 5,o 34 (bb .add 33 (i 1)),M 5 34]) z)) (r [M 35 5,M 2 35,V 3 (T)] y))))))⟩
end
end Go.Eng
namespace Go.Eng
set_option linter.unusedVariables false
set_option linter.unusedSimpArgs false
set_option linter.unnecessarySimpa false
open Ieee
set_option linter.unusedVariables false
set_option linter.unusedSimpArgs false
set_option exponentiation.threshold 4000
def rnd (n d : Nat) : Nat := n / 2 ^ d + (if 2 ^ d < 2 * (n % 2 ^ d) ∨ (2 ^ d = 2 * (n % 2 ^ d) ∧ n / 2 ^ d % 2 = 1) then 1 else 0)
theorem pow_pos2 (d : Nat) : 0 < 2 ^ d := Nat.two_pow_pos d
theorem rnd_le (n d : Nat) : rnd n d ≤ n / 2 ^ d + 1 := by unfold rnd; split <;> omega
theorem le_rnd (n d : Nat) : n / 2 ^ d ≤ rnd n d := by unfold rnd; omega
theorem rnd_zero (n : Nat) : rnd n 0 = n := by simp [rnd, Nat.mod_one]
theorem rnd_scale (n d k : Nat) : rnd (n * 2 ^ k) (d + k) = rnd n d := by
  unfold rnd
  rw [Nat.pow_add, Nat.mul_div_mul_right _ _ (pow_pos2 k), Nat.mul_mod_mul_right]
  have hk := pow_pos2 k
  have e1 : (2 ^ d * 2 ^ k < 2 * (n % 2 ^ d * 2 ^ k)) ↔ (2 ^ d < 2 * (n % 2 ^ d)) := by
    rw [← Nat.mul_assoc]; exact Nat.mul_lt_mul_right hk
  have e2 : (2 ^ d * 2 ^ k = 2 * (n % 2 ^ d * 2 ^ k)) ↔ (2 ^ d = 2 * (n % 2 ^ d)) := by
    rw [← Nat.mul_assoc]; exact Nat.mul_left_inj (by omega)
  simp only [e1, e2]
theorem rnd_mono {n n' : Nat} (h : n ≤ n') (d : Nat) : rnd n d ≤ rnd n' d := by
  have hp := pow_pos2 d
  have hq : n / 2 ^ d ≤ n' / 2 ^ d := Nat.div_le_div_right h
  by_cases he : n / 2 ^ d = n' / 2 ^ d
  · unfold rnd
    rw [he]
    have h1 := Nat.div_add_mod n (2 ^ d)
    have h2 := Nat.div_add_mod n' (2 ^ d)
    rw [he] at h1
    have hr : n % 2 ^ d ≤ n' % 2 ^ d := by omega
    split <;> split <;> omega
  · have h1 := rnd_le n d
    have h2 := le_rnd n' d
    omega
theorem rnd_exact {n d : Nat} (q : Nat) : rnd (q * 2 ^ d) d = q := by
  have := rnd_scale q 0 d
  rw [Nat.zero_add, rnd_zero] at this
  exact this
theorem log2_lt' (n : Nat) : n < 2 ^ (n.log2 + 1) := Nat.lt_log2_self
theorem cut_even (s : Bool) (n d : Nat) : Toward.even.cut s n d = rnd n d := by
  unfold Toward.cut
  simp only [Nat.one_shiftLeft]
  by_cases hd : d ≤ n.log2 + 2
  · rw [Nat.min_eq_left hd]
    unfold rnd
    congr 1
    by_cases h1 : 2 ^ d < 2 * (n % 2 ^ d)
    · simp [h1]
    · by_cases h2 : 2 ^ d = 2 * (n % 2 ^ d)
      · by_cases h3 : n / 2 ^ d % 2 = 1
        · simp [← h2, h3]
        · simp [← h2, h3]
      · simp [h1, h2]
  · rw [Nat.min_eq_right (by omega)]
    have hl := log2_lt' n
    have h2 : 2 ^ (n.log2 + 2) = 2 * 2 ^ (n.log2 + 1) := by rw [Nat.pow_succ, Nat.mul_comm]
    have hd2 : 2 ^ (n.log2 + 2) ≤ 2 ^ d := Nat.pow_le_pow_right (by omega) (by omega)
    have e1 : n / 2 ^ (n.log2 + 2) = 0 := Nat.div_eq_of_lt (by omega)
    have e2 : n % 2 ^ (n.log2 + 2) = n := Nat.mod_eq_of_lt (by omega)
    have e3 : n / 2 ^ d = 0 := Nat.div_eq_of_lt (by omega)
    have e4 : n % 2 ^ d = n := Nat.mod_eq_of_lt (by omega)
    unfold rnd
    rw [e1, e2, e3, e4]
    have c1 : ¬ (2 ^ (n.log2 + 2) < 2 * n) := by omega
    have c2 : ¬ (2 ^ (n.log2 + 2) = 2 * n) := by omega
    have c3 : ¬ (2 ^ d < 2 * n) := by omega
    have c4 : ¬ (2 ^ d = 2 * n) := by omega
    simp [c1, c2, c3, c4]
def rV (r : Nat) : Nat := if r < 2 ^ 52 then r else (2 ^ 52 + r % 2 ^ 52) * 2 ^ (r / 2 ^ 52 - 1)
theorem rV_mono {r r' : Nat} (h : r ≤ r') : rV r ≤ rV r' := by
  unfold rV
  have hd : r / 2 ^ 52 ≤ r' / 2 ^ 52 := Nat.div_le_div_right h
  have hm := Nat.mod_lt r (pow_pos2 52)
  have hm' := Nat.mod_lt r' (pow_pos2 52)
  split
  · split
    · exact h
    · have : 1 ≤ 2 ^ (r' / 2 ^ 52 - 1) := pow_pos2 _
      calc r ≤ 2 ^ 52 + r' % 2 ^ 52 := by omega
        _ = (2 ^ 52 + r' % 2 ^ 52) * 1 := by omega
        _ ≤ _ := Nat.mul_le_mul_left _ this
  · split
    · omega
    · by_cases he : r / 2 ^ 52 = r' / 2 ^ 52
      · rw [he]
        have h1 := Nat.div_add_mod r (2 ^ 52)
        have h2 := Nat.div_add_mod r' (2 ^ 52)
        rw [he] at h1
        exact Nat.mul_le_mul_right _ (by omega)
      · have h0 : 1 ≤ r / 2 ^ 52 := by
          have : 2 ^ 52 ≤ r := by omega
          exact (Nat.le_div_iff_mul_le (pow_pos2 52)).2 (by omega)
        calc (2 ^ 52 + r % 2 ^ 52) * 2 ^ (r / 2 ^ 52 - 1) ≤ 2 ^ 53 * 2 ^ (r / 2 ^ 52 - 1) := Nat.mul_le_mul_right _ (by omega)
          _ = 2 ^ 52 * 2 ^ (r / 2 ^ 52) := by rw [← Nat.pow_add, ← Nat.pow_add]; congr 1; omega
          _ ≤ 2 ^ 52 * 2 ^ (r' / 2 ^ 52 - 1) := Nat.mul_le_mul_left _ (Nat.pow_le_pow_right (by omega) (by omega))
          _ ≤ _ := Nat.mul_le_mul_right _ (by omega)
def Lg (N : Nat) : Nat := max (N.log2 - 52) 1126
def Rg (N : Nat) : Nat := if N = 0 then 0 else min ((Lg N - 1126) * 2 ^ 52 + rnd N (Lg N)) (2047 * 2 ^ 52)
theorem Lg_le {N N' : Nat} (h0 : N ≠ 0) (h : N ≤ N') : Lg N ≤ Lg N' := by
  have : N.log2 ≤ N'.log2 := (Nat.le_log2 (by omega)).2 (Nat.le_trans (Nat.log2_self_le h0) h)
  unfold Lg; omega
theorem Lg_lt (N : Nat) : N < 2 ^ (Lg N + 53) := Nat.lt_of_lt_of_le (log2_lt' N) (Nat.pow_le_pow_right (by omega) (by unfold Lg; omega))
theorem Lg_q (N : Nat) : N / 2 ^ Lg N < 2 ^ 53 := by
  rw [Nat.div_lt_iff_lt_mul (pow_pos2 _), ← Nat.pow_add, Nat.add_comm]; exact Lg_lt N
theorem Lg_ge {N : Nat} (h : N ≠ 0) (hL : 1126 < Lg N) : 2 ^ 52 ≤ N / 2 ^ Lg N := by
  rw [Nat.le_div_iff_mul_le (pow_pos2 _), ← Nat.pow_add]
  refine Nat.le_trans (Nat.pow_le_pow_right (by omega) ?_) (Nat.log2_self_le h)
  unfold Lg at hL ⊢; omega
theorem Rg_mono {N N' : Nat} (h : N ≤ N') : Rg N ≤ Rg N' := by
  unfold Rg
  by_cases h0 : N = 0
  · simp [h0]
  · have h0' : N' ≠ 0 := by omega
    rw [if_neg h0, if_neg h0']
    have hL := Lg_le h0 h
    suffices (Lg N - 1126) * 2 ^ 52 + rnd N (Lg N) ≤ (Lg N' - 1126) * 2 ^ 52 + rnd N' (Lg N') by omega
    by_cases he : Lg N = Lg N'
    · rw [he]; have := rnd_mono h (Lg N'); omega
    · have h1 := Lg_q N
      have h2 := rnd_le N (Lg N)
      have h3 : 2 ^ 52 ≤ N' / 2 ^ Lg N' := Lg_ge h0' (by unfold Lg at he hL ⊢; omega)
      have h4 := le_rnd N' (Lg N')
      have h5 : (Lg N - 1126) + 1 ≤ Lg N' - 1126 := by unfold Lg at he hL ⊢; omega
      omega
theorem Rg_exact {N : Nat} (q : Nat) (h : N = q * 2 ^ Lg N) (hb : N < 2 ^ 3150) : Rg N < 2047 * 2 ^ 52 ∧ rV (Rg N) * 2 ^ 1126 = N := by
  by_cases h0 : N = 0
  · subst h0; simp [Rg, rV]
  · have hp := pow_pos2 (Lg N)
    have hq : N / 2 ^ Lg N = q := by
      have : q * 2 ^ Lg N / 2 ^ Lg N = q := Nat.mul_div_cancel _ hp
      rw [← h] at this; exact this
    have hr : rnd N (Lg N) = q := by
      have : rnd (q * 2 ^ Lg N) (Lg N) = q := rnd_exact (n := 0) q
      rw [← h] at this; exact this
    have hq53 := Lg_q N
    rw [hq] at hq53
    have hL : Lg N ≤ 3098 := by
      have : N.log2 < 3150 := (Nat.log2_lt h0).2 hb
      unfold Lg; omega
    have hlt : (Lg N - 1126) * 2 ^ 52 + q < 2047 * 2 ^ 52 := by omega
    have hRg : Rg N = (Lg N - 1126) * 2 ^ 52 + q := by unfold Rg; rw [if_neg h0, hr]; omega
    rw [hRg]
    refine ⟨hlt, ?_⟩
    have key : rV ((Lg N - 1126) * 2 ^ 52 + q) = q * 2 ^ (Lg N - 1126) := by
      by_cases hLe : Lg N = 1126
      · rw [hLe]
        simp only [Nat.sub_self, Nat.zero_mul, Nat.zero_add, Nat.pow_zero, Nat.mul_one]
        unfold rV
        split
        · rfl
        · have e1 : q / 2 ^ 52 = 1 := by omega
          have e2 : q % 2 ^ 52 = q - 2 ^ 52 := by omega
          rw [e1, e2]; omega
      · have hL1 : 1126 < Lg N := by unfold Lg at hLe ⊢; omega
        have h52 := Lg_ge h0 hL1
        rw [hq] at h52
        unfold rV
        have e1 : ((Lg N - 1126) * 2 ^ 52 + q) / 2 ^ 52 - 1 = Lg N - 1126 := by omega
        have e2 : 2 ^ 52 + ((Lg N - 1126) * 2 ^ 52 + q) % 2 ^ 52 = q := by omega
        rw [if_neg (by omega), e1, e2]
    rw [key, Nat.mul_assoc, ← Nat.pow_add]
    have : Lg N - 1126 + 1126 = Lg N := by have : 1126 ≤ Lg N := by unfold Lg; omega
                                           omega
    rw [this]; exact h.symm
theorem Rg_small {m k : Nat} (hm : m < 2 ^ 53) (hk : 1126 ≤ k) (hk2 : k ≤ 3090) : Rg (m * 2 ^ k) < 2047 * 2 ^ 52 ∧ rV (Rg (m * 2 ^ k)) * 2 ^ 1126 = m * 2 ^ k := by
  by_cases h0 : m = 0
  · subst h0; simp [Rg, rV]
  · have hl : (m * 2 ^ k).log2 = m.log2 + k := by
      have h1 : m * 2 ^ k ≠ 0 := Nat.mul_ne_zero h0 (by have := pow_pos2 k; omega)
      apply Nat.le_antisymm
      · have : (m * 2 ^ k).log2 < m.log2 + k + 1 := (Nat.log2_lt h1).2 (by
          rw [show m.log2 + k + 1 = (m.log2 + 1) + k by omega, Nat.pow_add]
          exact Nat.mul_lt_mul_of_pos_right (log2_lt' m) (pow_pos2 k))
        omega
      · exact (Nat.le_log2 h1).2 (by rw [Nat.pow_add]; exact Nat.mul_le_mul_right _ (Nat.log2_self_le h0))
    have hm52 : m.log2 ≤ 52 := by have := (Nat.log2_lt h0).2 hm; omega
    have hLk : Lg (m * 2 ^ k) ≤ k := by unfold Lg; omega
    refine Rg_exact (m * 2 ^ (k - Lg (m * 2 ^ k))) ?_ ?_
    · rw [Nat.mul_assoc, ← Nat.pow_add]; congr 2; omega
    · have := log2_lt' (m * 2 ^ k)
      refine Nat.lt_of_lt_of_le this (Nat.pow_le_pow_right (by omega) (by omega))
end Go.Eng
namespace Go.Eng
set_option linter.unusedVariables false
set_option linter.unusedSimpArgs false
set_option linter.unnecessarySimpa false
open Ieee
set_option linter.unusedVariables false
set_option linter.unusedSimpArgs false
set_option exponentiation.threshold 4000
abbrev DF : Format := Ieee.double
theorem df_binade : DF.binade = 2 ^ 52 := rfl
theorem df_sign : DF.signWeight = 2 ^ 63 := rfl
theorem df_inf : DF.infRung = 2047 * 2 ^ 52 := rfl
theorem df_least : DF.leastPlace = -1074 := by decide
theorem df_frac : DF.fractionBits = 52 := rfl
def dig (r : Nat) : Nat := if r < 2 ^ 52 then r else 2 ^ 52 + r % 2 ^ 52
def plc (r : Nat) : Nat := if r < 2 ^ 52 then 0 else r / 2 ^ 52 - 1
theorem rV_dig (r : Nat) : rV r = dig r * 2 ^ plc r := by unfold rV dig plc; split <;> simp
theorem dig_lt (r : Nat) : dig r < 2 ^ 53 := by unfold dig; split <;> omega
theorem read_pos {r : Nat} (h : r < 2047 * 2 ^ 52) : DF.read r = .number false (dig r) (-1074 + (plc r : Int)) := by
  have h1 : r / 2 ^ 63 % 2 = 0 := by omega
  have h2 : r % 2 ^ 63 = r := by omega
  unfold Format.read
  simp only [df_binade, df_sign, df_inf, df_least, h1, h2]
  unfold dig plc
  split
  · simp
  · simp [h]
theorem read_neg {r : Nat} (h : r < 2047 * 2 ^ 52) : DF.read (2 ^ 63 + r) = .number true (dig r) (-1074 + (plc r : Int)) := by
  have h1 : (2 ^ 63 + r) / 2 ^ 63 % 2 = 1 := by omega
  have h2 : (2 ^ 63 + r) % 2 ^ 63 = r := by omega
  unfold Format.read
  simp only [df_binade, df_sign, df_inf, df_least, h1, h2]
  unfold dig plc
  split
  · simp
  · simp [h]
theorem nearest_Rg (s : Bool) (m : Nat) (p : Int) (hp : -2200 ≤ p) : DF.nearest s m p = DF.word s (Rg (m * 2 ^ (p + 2200).toNat)) := by
  unfold Format.nearest
  by_cases h0 : m = 0
  · simp [h0, Rg]
  · rw [if_neg h0]
    obtain ⟨k, hk⟩ : ∃ k : Nat, p = (k : Int) - 2200 := ⟨(p + 2200).toNat, by omega⟩
    subst hk
    have ek : ((k : Int) - 2200 + 2200).toNat = k := by omega
    rw [ek]
    have h1 : m * 2 ^ k ≠ 0 := Nat.mul_ne_zero h0 (by have := pow_pos2 k; omega)
    have hl : (m * 2 ^ k).log2 = m.log2 + k := by
      apply Nat.le_antisymm
      · have : (m * 2 ^ k).log2 < m.log2 + k + 1 := (Nat.log2_lt h1).2 (by
          rw [show m.log2 + k + 1 = (m.log2 + 1) + k by omega, Nat.pow_add]
          exact Nat.mul_lt_mul_of_pos_right (log2_lt' m) (pow_pos2 k))
        omega
      · exact (Nat.le_log2 h1).2 (by rw [Nat.pow_add]; exact Nat.mul_le_mul_right _ (Nat.log2_self_le h0))
    have hlast : max ((k : Int) - 2200 + m.log2 - (DF.fractionBits : Nat)) DF.leastPlace = (Lg (m * 2 ^ k) : Int) - 2200 := by
      rw [df_least, df_frac]; unfold Lg; rw [hl]; omega
    simp only [hlast]
    simp only [cut_even, df_least, df_binade, df_inf]
    have hg : 1126 ≤ Lg (m * 2 ^ k) := by unfold Lg; omega
    have e1 : ((Lg (m * 2 ^ k) : Int) - 2200 - -1074).toNat = Lg (m * 2 ^ k) - 1126 := by omega
    have e2 : rnd (m <<< ((k : Int) - 2200 - ((Lg (m * 2 ^ k) : Int) - 2200)).toNat) ((Lg (m * 2 ^ k) : Int) - 2200 - ((k : Int) - 2200)).toNat = rnd (m * 2 ^ k) (Lg (m * 2 ^ k)) := by
      rw [Nat.shiftLeft_eq]
      generalize Lg (m * 2 ^ k) = L
      by_cases hLk : L ≤ k
      · have a1 : ((k : Int) - 2200 - ((L : Int) - 2200)).toNat = k - L := by omega
        have a2 : ((L : Int) - 2200 - ((k : Int) - 2200)).toNat = 0 := by omega
        rw [a1, a2]
        have := rnd_scale (m * 2 ^ (k - L)) 0 L
        rw [Nat.zero_add, Nat.mul_assoc, ← Nat.pow_add, Nat.sub_add_cancel hLk] at this
        exact this.symm
      · have a1 : ((k : Int) - 2200 - ((L : Int) - 2200)).toNat = 0 := by omega
        have a2 : ((L : Int) - 2200 - ((k : Int) - 2200)).toNat = L - k := by omega
        rw [a1, a2, Nat.pow_zero, Nat.mul_one]
        have := rnd_scale m (L - k) k
        rw [Nat.sub_add_cancel (by omega)] at this
        exact this.symm
    rw [e1, e2]
    unfold Rg
    rw [if_neg h1]
theorem word_pos (r : Nat) : DF.word false r = r := by unfold Format.word; simp
theorem write_pos (m : Nat) (p : Int) (hp : -2200 ≤ p) : DF.write (.number false m p) = Rg (m * 2 ^ (p + 2200).toNat) := by
  show DF.nearest false m p = _
  rw [nearest_Rg _ _ _ hp, word_pos]
def Fin (r : Nat) : Prop := r < 2047 * 2 ^ 52
def w10 : Nat := 4621819117588971520
theorem read_10 : DF.read w10 = .number false (5 * 2 ^ 50) (-49) := by decide
theorem mul_10 {r : Nat} (h : Fin r) : DF.mul w10 r = some (Rg (10 * rV r * 2 ^ 1126)) ∧ DF.mul r w10 = some (Rg (10 * rV r * 2 ^ 1126)) := by
  have e : 5 * 2 ^ 50 * dig r * 2 ^ ((-49 + (-1074 + (plc r : Int))) + 2200).toNat = 10 * rV r * 2 ^ 1126 := by
    have : ((-49 + (-1074 + (plc r : Int))) + 2200).toNat = plc r + 1077 := by omega
    rw [this, rV_dig, show (2 : Nat) ^ 1126 = 2 ^ 49 * 2 ^ 1077 by rw [← Nat.pow_add], Nat.pow_add, show 5 * 2 ^ 50 = 10 * 2 ^ 49 by decide]
    simp only [Nat.mul_assoc, Nat.mul_left_comm, Nat.mul_comm]
  constructor
  · unfold Format.mul
    rw [read_10, read_pos h]
    simp only [Datum.product, Option.map_some, Bool.false_bne, Bool.xor_false]
    rw [write_pos _ _ (by omega), e]
  · unfold Format.mul
    rw [read_10, read_pos h]
    simp only [Datum.product, Option.map_some, Bool.false_bne, Bool.xor_false]
    rw [write_pos _ _ (by omega), Nat.mul_comm (dig r), Int.add_comm (-1074 + (plc r : Int)) (-49), e]
theorem sum_pos (m n a b : Nat) : (Datum.number false m (-1074 + (a : Int))).sum (.number false n (-1074 + (b : Int))) = some (.number false (m * 2 ^ (a - min a b) + n * 2 ^ (b - min a b)) (-1074 + (min a b : Nat))) := by
  have e0 : min (-1074 + (a : Int)) (-1074 + (b : Int)) = -1074 + ((min a b : Nat) : Int) := by omega
  have e1 : ((-1074 + (a : Int)) - (-1074 + ((min a b : Nat) : Int))).toNat = a - min a b := by omega
  have e2 : ((-1074 + (b : Int)) - (-1074 + ((min a b : Nat) : Int))).toNat = b - min a b := by omega
  simp only [Datum.sum, e0, e1, e2, signed, Bool.false_eq_true, if_false, Nat.shiftLeft_eq]
  generalize m * 2 ^ (a - min a b) = x
  generalize n * 2 ^ (b - min a b) = y
  have h1 : ¬ ((x : Int) + (y : Int) < 0) := by omega
  have h2 : ((x : Int) + (y : Int)).natAbs = x + y := by omega
  rw [h2]
  simp [h1]
theorem sum_sub (m n a b : Nat) (h : n * 2 ^ b ≤ m * 2 ^ a) : (Datum.number false m (-1074 + (a : Int))).sum (.number true n (-1074 + (b : Int))) = some (.number false (m * 2 ^ (a - min a b) - n * 2 ^ (b - min a b)) (-1074 + (min a b : Nat))) := by
  have e0 : min (-1074 + (a : Int)) (-1074 + (b : Int)) = -1074 + ((min a b : Nat) : Int) := by omega
  have e1 : ((-1074 + (a : Int)) - (-1074 + ((min a b : Nat) : Int))).toNat = a - min a b := by omega
  have e2 : ((-1074 + (b : Int)) - (-1074 + ((min a b : Nat) : Int))).toNat = b - min a b := by omega
  simp only [Datum.sum, e0, e1, e2, signed, Bool.false_eq_true, if_false, if_true, Nat.shiftLeft_eq]
  have hxy : n * 2 ^ (b - min a b) ≤ m * 2 ^ (a - min a b) := by
    have hp := pow_pos2 (min a b)
    refine Nat.le_of_mul_le_mul_right ?_ hp
    rw [Nat.mul_assoc, Nat.mul_assoc, ← Nat.pow_add, ← Nat.pow_add, Nat.sub_add_cancel (by omega), Nat.sub_add_cancel (by omega)]
    exact h
  generalize m * 2 ^ (a - min a b) = x at *
  generalize n * 2 ^ (b - min a b) = y at *
  have h1 : ¬ ((x : Int) + -(y : Int) < 0) := by omega
  have h2 : ((x : Int) + -(y : Int)).natAbs = x - y := by omega
  rw [h2]
  simp [h1]
theorem scl (m a c : Nat) (h : c ≤ a) : m * 2 ^ (a - c) * 2 ^ (c + 1126) = m * 2 ^ a * 2 ^ 1126 := by
  rw [Nat.mul_assoc, ← Nat.pow_add, Nat.mul_assoc, ← Nat.pow_add, show a - c + (c + 1126) = a + 1126 by omega]
theorem add_pos {x y : Nat} (hx : Fin x) (hy : Fin y) : DF.add x y = some (Rg ((rV x + rV y) * 2 ^ 1126)) := by
  unfold Format.add
  rw [read_pos hx, read_pos hy, sum_pos, Option.map_some, write_pos _ _ (by omega)]
  have e : ((-1074 + ((min (plc x) (plc y) : Nat) : Int)) + 2200).toNat = min (plc x) (plc y) + 1126 := by omega
  rw [e, Nat.add_mul, scl _ _ _ (by omega), scl _ _ _ (by omega), ← rV_dig, ← rV_dig, ← Nat.add_mul]
theorem sub_pos {x y : Nat} (hx : Fin x) (hy : Fin y) (h : rV y ≤ rV x) : DF.sub x y = some (Rg ((rV x - rV y) * 2 ^ 1126)) := by
  unfold Format.sub
  rw [read_pos hx, read_pos hy]
  simp only [Datum.opposite, Bool.not_false]
  rw [rV_dig, rV_dig] at h
  rw [sum_sub _ _ _ _ h, Option.map_some, write_pos _ _ (by omega)]
  have e : ((-1074 + ((min (plc x) (plc y) : Nat) : Int)) + 2200).toNat = min (plc x) (plc y) + 1126 := by omega
  rw [e, Nat.sub_mul, scl _ _ _ (by omega), scl _ _ _ (by omega), ← rV_dig, ← rV_dig, ← Nat.sub_mul]
def ofN (n : Nat) : Nat := Rg (n * 2 ^ 2200)
theorem nearest_ofN (n : Nat) : Go.FloatKind.f64.nearest (n : Int) = ofN n := by
  show DF.write (.number (decide ((n : Int) < 0)) (n : Int).natAbs 0) = _
  have h1 : decide ((n : Int) < 0) = false := by simp
  rw [h1, Int.natAbs_natCast, write_pos _ _ (by omega), show ((0 : Int) + 2200).toNat = 2200 by omega]
  unfold ofN; with_reducible rfl
theorem ofN_fin {n : Nat} (h : n < 2 ^ 53) : Fin (ofN n) ∧ rV (ofN n) = n * 2 ^ 1074 := by
  have h2200 : (1126 : Nat) ≤ 2200 := by decide
  obtain ⟨h1, h2⟩ := Rg_small (m := n) (k := 2200) h (by omega) (by omega)
  refine ⟨h1, ?_⟩
  unfold ofN
  have hp := pow_pos2 1126
  refine Nat.eq_of_mul_eq_mul_right hp ?_
  rw [h2, Nat.mul_assoc, ← Nat.pow_add]
theorem grid {a : Nat} (h : a < 2 ^ 53) : Fin (Rg (a * 2 ^ 1064 * 2 ^ 1126)) ∧ rV (Rg (a * 2 ^ 1064 * 2 ^ 1126)) = a * 2 ^ 1064 := by
  have e : a * 2 ^ 1064 * 2 ^ 1126 = a * 2 ^ 2190 := by rw [Nat.mul_assoc, ← Nat.pow_add]
  obtain ⟨h1, h2⟩ := Rg_small (k := 2190) h (by omega) (by omega)
  rw [e]
  refine ⟨h1, ?_⟩
  have hp := pow_pos2 1126
  refine Nat.eq_of_mul_eq_mul_right hp ?_
  rw [h2, e]
theorem Rg_grid {N a b : Nat} (ha : a * 2 ^ 1064 * 2 ^ 1126 ≤ N) (hb : N ≤ b * 2 ^ 1064 * 2 ^ 1126) (h : b < 2 ^ 53) : Fin (Rg N) ∧ a * 2 ^ 1064 ≤ rV (Rg N) ∧ rV (Rg N) ≤ b * 2 ^ 1064 := by
  have hab : a < 2 ^ 53 := by
    have : a * (2 ^ 1064 * 2 ^ 1126) ≤ b * (2 ^ 1064 * 2 ^ 1126) := by rw [← Nat.mul_assoc, ← Nat.mul_assoc]; exact Nat.le_trans ha hb
    have := Nat.le_of_mul_le_mul_right this (Nat.mul_pos (pow_pos2 _) (pow_pos2 _))
    omega
  obtain ⟨f1, f2⟩ := grid hab
  obtain ⟨f3, f4⟩ := grid h
  have m1 := Rg_mono ha
  have m2 := Rg_mono hb
  refine ⟨?_, ?_, ?_⟩
  · unfold Fin at f3 ⊢; omega
  · rw [← f2]; exact rV_mono m1
  · rw [← f4]; exact rV_mono m2
theorem sh_pos (m a : Nat) : rnd (m <<< (-1074 + (a : Int)).toNat) (-(-1074 + (a : Int))).toNat = rnd (m * 2 ^ a) 1074 := by
  rw [Nat.shiftLeft_eq]
  by_cases h : 1074 ≤ a
  · have e1 : (-1074 + (a : Int)).toNat = a - 1074 := by omega
    have e2 : (-(-1074 + (a : Int))).toNat = 0 := by omega
    rw [e1, e2]
    have := rnd_scale (m * 2 ^ (a - 1074)) 0 1074
    rw [Nat.zero_add, Nat.mul_assoc, ← Nat.pow_add, Nat.sub_add_cancel h] at this
    exact this.symm
  · have e1 : (-1074 + (a : Int)).toNat = 0 := by omega
    have e2 : (-(-1074 + (a : Int))).toNat = 1074 - a := by omega
    rw [e1, e2, Nat.pow_zero, Nat.mul_one]
    have := rnd_scale m (1074 - a) a
    rw [Nat.sub_add_cancel (by omega)] at this
    exact this.symm
theorem rte_pos {r : Nat} (h : Fin r) : DF.write ((DF.read r).integral .even) = ofN (rnd (rV r) 1074) := by
  rw [read_pos h]
  simp only [Datum.integral, cut_even, sh_pos]
  rw [write_pos _ _ (by omega), ← rV_dig, show ((0 : Int) + 2200).toNat = 2200 by omega]
  unfold ofN; with_reducible rfl
theorem cut_zero (s : Bool) (n d : Nat) : Toward.zero.cut s n d = n / 2 ^ d := by
  unfold Toward.cut
  simp only [Nat.one_shiftLeft, Bool.toNat_false, Nat.add_zero]
  by_cases hd : d ≤ n.log2 + 2
  · rw [Nat.min_eq_left hd]
  · rw [Nat.min_eq_right (by omega)]
    have hl := log2_lt' n
    have h2 : 2 ^ (n.log2 + 2) = 2 * 2 ^ (n.log2 + 1) := by rw [Nat.pow_succ, Nat.mul_comm]
    have hd2 : 2 ^ (n.log2 + 2) ≤ 2 ^ d := Nat.pow_le_pow_right (by omega) (by omega)
    rw [Nat.div_eq_of_lt (by omega), Nat.div_eq_of_lt (by omega)]
theorem toInt_pos {r : Nat} (h : Fin r) : (DF.read r).toInt .zero = some ((rV r / 2 ^ 1074 : Nat) : Int) := by
  rw [read_pos h, rV_dig]
  unfold Datum.toInt
  simp only [Datum.integral, cut_zero, Nat.shiftLeft_eq, signed, Bool.false_eq_true, if_false, Nat.pow_zero, Nat.mul_one]
  congr 2
  generalize plc r = a
  generalize dig r = m
  by_cases h : 1074 ≤ a
  · have e1 : (-1074 + (a : Int)).toNat = a - 1074 := by omega
    have e2 : (-(-1074 + (a : Int))).toNat = 0 := by omega
    rw [e1, e2, Nat.pow_zero, Nat.div_one]
    have : m * 2 ^ a = m * 2 ^ (a - 1074) * 2 ^ 1074 := by rw [Nat.mul_assoc, ← Nat.pow_add, Nat.sub_add_cancel h]
    rw [this, Nat.mul_div_cancel _ (pow_pos2 _)]
  · have e1 : (-1074 + (a : Int)).toNat = 0 := by omega
    have e2 : (-(-1074 + (a : Int))).toNat = 1074 - a := by omega
    rw [e1, e2, Nat.pow_zero, Nat.mul_one]
    have : m * 2 ^ a / 2 ^ 1074 = m * 2 ^ a / (2 ^ (1074 - a) * 2 ^ a) := by rw [← Nat.pow_add, Nat.sub_add_cancel (by omega)]
    rw [this, Nat.mul_div_mul_right _ _ (pow_pos2 _)]
theorem toInt_ofN {n : Nat} (h : n < 2 ^ 53) : (DF.read (ofN n)).toInt .zero = some (n : Int) := by
  obtain ⟨h1, h2⟩ := ofN_fin h
  rw [toInt_pos h1, h2, Nat.mul_div_cancel _ (pow_pos2 _)]
def key (x : Nat) : Option Int :=
  match DF.read x with
  | .nan .. => none
  | .infinity s => some (if s then -(2 ^ 2200 : Nat) else (2 ^ 2200 : Nat))
  | .number s m i => some (signed s m (i + 1074).toNat)
theorem read_bounds (x : Nat) {s : Bool} {m : Nat} {i : Int} (h : DF.read x = .number s m i) : -1074 ≤ i ∧ i ≤ 971 ∧ m < 2 ^ 53 := by
  unfold Format.read at h
  dsimp only at h
  split at h
  · rename_i h1
    cases h
    rw [df_sign, df_binade] at h1
    rw [df_sign, df_least]
    omega
  · split at h
    · rename_i h1 h2
      cases h
      rw [df_sign, df_inf] at h2
      rw [df_sign, df_least, df_binade]
      omega
    · split at h <;> cases h
theorem signed_scale (s : Bool) (m a b : Nat) : signed s m (a + b) = signed s m a * ((2 ^ b : Nat) : Int) := by
  have e : ((m <<< (a + b) : Nat) : Int) = ((m <<< a : Nat) : Int) * ((2 ^ b : Nat) : Int) := by
    rw [Nat.shiftLeft_eq, Nat.shiftLeft_eq, Nat.pow_add, ← Nat.mul_assoc, Int.natCast_mul]
  unfold signed
  cases s
  · simp only [Bool.false_eq_true, if_false]; exact e
  · simp only [if_true, e, Int.neg_mul]
theorem cmp_scale (a b : Int) (k : Nat) : compare (a * ((2 ^ k : Nat) : Int)) (b * ((2 ^ k : Nat) : Int)) = compare a b := by
  have hp : (0 : Int) < ((2 ^ k : Nat) : Int) := by have := pow_pos2 k; omega
  have h1 : (a * ((2 ^ k : Nat) : Int) < b * ((2 ^ k : Nat) : Int)) ↔ a < b := Int.mul_lt_mul_right hp
  have h2 : (a * ((2 ^ k : Nat) : Int) = b * ((2 ^ k : Nat) : Int)) ↔ a = b := ⟨fun h => Int.eq_of_mul_eq_mul_right (by omega) h, fun h => by rw [h]⟩
  simp only [compare, compareOfLessAndEq, h1, h2]
theorem signed_lt {s : Bool} {m a : Nat} (hm : m < 2 ^ 53) (ha : a ≤ 2045) : -((2 ^ 2200 : Nat) : Int) < signed s m a ∧ signed s m a < ((2 ^ 2200 : Nat) : Int) := by
  have h1 : m * 2 ^ a < 2 ^ 53 * 2 ^ 2045 := Nat.lt_of_lt_of_le (Nat.mul_lt_mul_of_pos_right hm (pow_pos2 a)) (Nat.mul_le_mul_left _ (Nat.pow_le_pow_right (by omega) ha))
  have h2 : 2 ^ 53 * 2 ^ 2045 ≤ 2 ^ 2200 := by rw [← Nat.pow_add]; exact Nat.pow_le_pow_right (by omega) (by omega)
  have h3 : m * 2 ^ a < 2 ^ 2200 := Nat.lt_of_lt_of_le h1 h2
  unfold signed
  rw [Nat.shiftLeft_eq]
  generalize m * 2 ^ a = z at *
  generalize 2 ^ 2200 = w at *
  cases s <;> simp <;> omega
def kcmp : Option Int → Option Int → Option Ordering
  | some a, some b => some (compare a b)
  | _, _ => none
theorem cmp_lt {a b : Int} (h : a < b) : compare a b = .lt := by simp [compare, compareOfLessAndEq, h]
theorem cmp_gt {a b : Int} (h : b < a) : compare a b = .gt := by
  have h1 : ¬ a < b := by omega
  have h2 : ¬ a = b := by omega
  simp [compare, compareOfLessAndEq, h1, h2]
theorem cmp_eq {a b : Int} (h : a = b) : compare a b = .eq := by simp [compare, compareOfLessAndEq, h]
theorem order_key (x y : Nat) : DF.order x y = kcmp (key x) (key y) := by
  have big : (0 : Int) < ((2 ^ 2200 : Nat) : Int) := by have := pow_pos2 2200; omega
  unfold Format.order key
  cases hx : DF.read x with
  | nan s t => cases DF.read y <;> rfl
  | infinity s =>
    cases hy : DF.read y with
    | nan _ _ => rfl
    | infinity t =>
      simp only [Datum.order, kcmp]
      generalize ((2 ^ 2200 : Nat) : Int) = w at *
      cases s <;> cases t <;> simp only [Bool.false_eq_true, if_false, if_true]
      · rw [cmp_eq rfl]; rfl
      · rw [cmp_gt (by omega)]; rfl
      · rw [cmp_lt (by omega)]; rfl
      · rw [cmp_eq rfl]; rfl
    | number t n j =>
      obtain ⟨b1, b2, b3⟩ := read_bounds y hy
      obtain ⟨c1, c2⟩ := signed_lt (s := t) (a := (j + 1074).toNat) b3 (by omega)
      simp only [Datum.order, kcmp]
      generalize ((2 ^ 2200 : Nat) : Int) = w at *
      cases s <;> simp only [Bool.false_eq_true, if_false, if_true]
      · rw [cmp_gt c2]
      · rw [cmp_lt c1]
  | number s m i =>
    obtain ⟨b1, b2, b3⟩ := read_bounds x hx
    cases hy : DF.read y with
    | nan _ _ => rfl
    | infinity t =>
      obtain ⟨c1, c2⟩ := signed_lt (s := s) (a := (i + 1074).toNat) b3 (by omega)
      simp only [Datum.order, kcmp]
      generalize ((2 ^ 2200 : Nat) : Int) = w at *
      cases t <;> simp only [Bool.false_eq_true, if_false, if_true]
      · rw [cmp_lt c2]
      · rw [cmp_gt c1]
    | number t n j =>
      obtain ⟨d1, d2, d3⟩ := read_bounds y hy
      simp only [Datum.order, kcmp]
      have e1 : (i + 1074).toNat = (i - min i j).toNat + (min i j + 1074).toNat := by omega
      have e2 : (j + 1074).toNat = (j - min i j).toNat + (min i j + 1074).toNat := by omega
      rw [e1, e2, signed_scale, signed_scale, cmp_scale]
theorem key_pos {r : Nat} (h : Fin r) : key r = some (rV r : Int) := by
  unfold key
  rw [read_pos h]
  simp only [signed, Bool.false_eq_true, if_false, Nat.shiftLeft_eq]
  rw [rV_dig, show ((-1074 + (plc r : Int)) + 1074).toNat = plc r by omega]
theorem key_neg {r : Nat} (h : Fin r) : key (2 ^ 63 + r) = some (-(rV r : Int)) := by
  unfold key
  rw [read_neg h]
  simp only [signed, if_true, Nat.shiftLeft_eq]
  rw [rV_dig, show ((-1074 + (plc r : Int)) + 1074).toNat = plc r by omega]
end Go.Eng
namespace Go.Eng
set_option linter.unusedVariables false
set_option linter.unusedSimpArgs false
set_option linter.unnecessarySimpa false
open Ieee
set_option linter.unusedVariables false
set_option linter.unusedSimpArgs false
set_option exponentiation.threshold 4000
def w999 : Nat := 4652006429231887155
def w003 : Nat := 4584304132692975288
def w05 : Nat := 4602678819172646912
def geF (x y : Nat) : Bool := DF.order x y == some .gt || DF.order x y == some .eq
def leF (x y : Nat) : Bool := DF.order x y == some .lt || DF.order x y == some .eq
def ltF (x y : Nat) : Bool := DF.order x y == some .lt
def gtF (x y : Nat) : Bool := DF.order x y == some .gt
def eqF (x y : Nat) : Bool := DF.order x y == some .eq
def kle : Option Int → Option Int → Bool
  | some a, some b => decide (a ≤ b)
  | _, _ => false
def klt : Option Int → Option Int → Bool
  | some a, some b => decide (a < b)
  | _, _ => false
theorem leF_key (x y : Nat) : leF x y = kle (key x) (key y) := by
  unfold leF
  rw [order_key]
  cases key x <;> cases key y <;> try rfl
  rename_i a b
  simp only [kcmp, kle]
  rcases Int.lt_trichotomy a b with h | h | h
  · rw [cmp_lt h]; simp; omega
  · rw [cmp_eq h]; simp; omega
  · rw [cmp_gt h]; simp; omega
theorem geF_key (x y : Nat) : geF x y = kle (key y) (key x) := by
  unfold geF
  rw [order_key]
  cases key x <;> cases key y <;> try rfl
  rename_i a b
  simp only [kcmp, kle]
  rcases Int.lt_trichotomy a b with h | h | h
  · rw [cmp_lt h]; simp; omega
  · rw [cmp_eq h]; simp; omega
  · rw [cmp_gt h]; simp; omega
theorem ltF_key (x y : Nat) : ltF x y = klt (key x) (key y) := by
  unfold ltF
  rw [order_key]
  cases key x <;> cases key y <;> try rfl
  rename_i a b
  simp only [kcmp, klt]
  rcases Int.lt_trichotomy a b with h | h | h
  · rw [cmp_lt h]; simp; omega
  · rw [cmp_eq h]; simp; omega
  · rw [cmp_gt h]; simp; omega
theorem gtF_key (x y : Nat) : gtF x y = klt (key y) (key x) := by
  unfold gtF
  rw [order_key]
  cases key x <;> cases key y <;> try rfl
  rename_i a b
  simp only [kcmp, klt]
  rcases Int.lt_trichotomy a b with h | h | h
  · rw [cmp_lt h]; simp; omega
  · rw [cmp_eq h]; simp; omega
  · rw [cmp_gt h]; simp; omega
theorem fin_0 : Fin 0 := by unfold Fin; omega
theorem fin_999 : Fin w999 := by unfold Fin w999; omega
theorem fin_003 : Fin w003 := by unfold Fin w003; omega
theorem fin_05 : Fin w05 := by unfold Fin w05; omega
theorem rV_0 : rV 0 = 0 := by simp [rV]
theorem rV_05 : rV w05 = 2 ^ 1073 := by decide +kernel
theorem key_0 : key 0 = some 0 := by rw [key_pos fin_0, rV_0]; rfl
theorem key_999 : key w999 = some (rV w999 : Int) := key_pos fin_999
theorem rV_eq_0 {r : Nat} (h : rV r = 0) : r = 0 := by
  unfold rV at h
  split at h
  · exact h
  · have := Nat.mul_pos (show 0 < 2 ^ 52 + r % 2 ^ 52 by omega) (pow_pos2 (r / 2 ^ 52 - 1))
    omega
theorem inR_word {s : Nat} (hs : s < 2 ^ 64) {a : Int} (hk : key s = some a) (h0 : 0 ≤ a) (h1 : a ≤ (rV w999 : Int)) : (Fin s ∧ a = (rV s : Int)) ∨ (s = 2 ^ 63 ∧ a = 0) := by
  have big : (rV w999 : Int) < ((2 ^ 2200 : Nat) : Int) := by
    have : rV w999 < 2 ^ 2200 := by decide +kernel
    omega
  by_cases hlt : s < 2 ^ 63
  · by_cases hf : Fin s
    · left
      rw [key_pos hf] at hk
      exact ⟨hf, (Option.some.inj hk).symm⟩
    · exfalso
      unfold Fin at hf
      unfold key Format.read at hk
      dsimp only at hk
      have e1 : s % DF.signWeight = s := by rw [df_sign]; omega
      have e2 : s / DF.signWeight % 2 = 0 := by rw [df_sign]; omega
      rw [e1, e2, df_binade, df_inf] at hk
      rw [if_neg (by omega), if_neg hf] at hk
      split at hk
      · cases hk
      · rename_i s' hh
        split at hh <;> try (cases hh; done)
        cases hh
        cases hk
        simp only [show ((0 : Nat) == 1) = false from rfl, Bool.false_eq_true, if_false] at h1
        omega
      · rename_i hh
        split at hh <;> cases hh
  · obtain ⟨r, rfl⟩ : ∃ r, s = 2 ^ 63 + r := ⟨s - 2 ^ 63, by omega⟩
    by_cases hf : Fin r
    · right
      rw [key_neg hf] at hk
      have := Option.some.inj hk
      have h3 : rV r = 0 := by omega
      have := rV_eq_0 h3
      subst this
      exact ⟨rfl, by omega⟩
    · exfalso
      unfold Fin at hf
      unfold key Format.read at hk
      dsimp only at hk
      have e1 : (2 ^ 63 + r) % DF.signWeight = r := by rw [df_sign]; omega
      have e2 : (2 ^ 63 + r) / DF.signWeight % 2 = 1 := by rw [df_sign]; omega
      rw [e1, e2, df_binade, df_inf] at hk
      rw [if_neg (by omega), if_neg hf] at hk
      split at hk
      · cases hk
      · rename_i s' hh
        split at hh <;> try (cases hh; done)
        cases hh
        cases hk
        simp only [show ((1 : Nat) == 1) = true from rfl, if_true] at h0
        have := pow_pos2 2200
        omega
      · rename_i hh
        split at hh <;> cases hh
def X10 (a : Nat) : Nat := Rg (10 * a * 2 ^ 1126)
def tkN (a : Nat) : Nat := rnd (rV (X10 a)) 1074
theorem X10_mono {a b : Nat} (h : a ≤ b) : X10 a ≤ X10 b := Rg_mono (Nat.mul_le_mul_right _ (Nat.mul_le_mul_left _ h))
theorem tkN_mono {a b : Nat} (h : a ≤ b) : tkN a ≤ tkN b := rnd_mono (rV_mono (X10_mono h)) _
theorem tkN_999 : tkN (rV w999) = 9999 := by decide +kernel
theorem X10_999 : X10 (rV w999) < 2047 * 2 ^ 52 := by decide +kernel
theorem X10_fin {a : Nat} (h : a ≤ rV w999) : Fin (X10 a) := by
  have h1 := X10_mono h
  have h2 := X10_999
  unfold Fin; omega
theorem tkN_le {a : Nat} (h : a ≤ rV w999) : tkN a ≤ 9999 := by rw [← tkN_999]; exact tkN_mono h
theorem tkN_0 : tkN 0 = 0 := by decide +kernel
def inR (s : Nat) : Bool := geF s 0 && leF s w999
def tk (s : Nat) : Nat := tkN ((key s).getD 0).toNat
theorem inR_iff {s : Nat} : inR s = true ↔ ∃ a : Nat, key s = some (a : Int) ∧ a ≤ rV w999 := by
  unfold inR
  rw [geF_key, leF_key, key_0, key_999]
  cases hk : key s with
  | none => simp [kle]
  | some a =>
    simp only [kle, Bool.and_eq_true, decide_eq_true_eq, Option.some.injEq]
    constructor
    · rintro ⟨h1, h2⟩; exact ⟨a.toNat, by omega, by omega⟩
    · rintro ⟨b, rfl, h⟩; omega
theorem tk_of {s a : Nat} (h : key s = some (a : Int)) : tk s = tkN a := by simp [tk, h]
theorem rte_is {x : Nat} (h : Fin x) : rteA x = some (.float .f64 (ofN (rnd (rV x) 1074))) := by
  have hr : FloatKind.f64.decode x = .number false (dig x) (-1074 + (plc x : Int)) := read_pos h
  unfold rteA
  rw [hr]
  dsimp only
  have := rte_pos h
  rw [read_pos h] at this
  exact congrArg (fun n => some (AV.float .f64 n)) this
theorem cvFI_is {x n : Nat} (h : (DF.read x).toInt .zero = some (n : Int)) (hn : n < 2 ^ 53) : cvFIA .i64 (.float .f64 x) = some (.int .i64 n) := by
  have h' : (FloatKind.f64.decode x).toInt .zero = some (n : Int) := h
  simp only [cvFIA, h']
  rw [if_pos]
  constructor
  · have : IntKind.i64.min = -(2 ^ 63) := by decide
    omega
  · have : IntKind.i64.max = 2 ^ 63 - 1 := by decide
    omega
theorem z_1 : DF.mul w10 (2 ^ 63) = some (2 ^ 63) := by decide +kernel
theorem z_2 : DF.mul (2 ^ 63) w10 = some (2 ^ 63) := by decide +kernel
theorem z_4 : (DF.read (2 ^ 63)).toInt .zero = some ((0 : Nat) : Int) := by decide +kernel
theorem z_5 : DF.sub (2 ^ 63) (ofN 0) = some (2 ^ 63) := by decide +kernel
theorem z_6 : DF.order (2 ^ 63) w05 = some .lt := by decide +kernel
theorem z_h1 : FloatKind.f64.decode (2 ^ 63) = .number true 0 (-1074) := by decide +kernel
theorem z_h2 : FloatKind.f64.encode ((Datum.number true 0 (-1074)).integral .even) = 2 ^ 63 := by decide +kernel
theorem z_3 : rteA (2 ^ 63) = some (.float .f64 (2 ^ 63)) := by
  unfold rteA
  rw [z_h1]
  show some (AV.float .f64 (FloatKind.f64.encode ((Datum.number true 0 (-1074)).integral .even))) = _
  rw [z_h2]
theorem ticks_run {s : Nat} (hs : s < 2 ^ 64) (h : inR s = true) : ∃ x y, DF.mul w10 s = some x ∧ rteA x = some (.float .f64 y) ∧ cvFIA .i64 (.float .f64 y) = some (.int .i64 (tk s)) := by
  obtain ⟨a, h1, h2⟩ := inR_iff.1 h
  have ht := tk_of h1
  rcases inR_word hs h1 (by omega) (by omega) with ⟨hf, ha⟩ | ⟨rfl, ha⟩
  · have ha : a = rV s := by omega
    subst ha
    have hX := X10_fin h2
    have hle := tkN_le h2
    refine ⟨X10 (rV s), ofN (rnd (rV (X10 (rV s))) 1074), (mul_10 hf).1, rte_is hX, ?_⟩
    rw [ht]
    exact cvFI_is (toInt_ofN (by unfold tkN at hle; omega)) (by omega)
  · have ha : a = 0 := by omega
    subst ha
    refine ⟨2 ^ 63, 2 ^ 63, z_1, z_3, ?_⟩
    rw [ht, tkN_0]
    exact cvFI_is z_4 (by omega)
theorem frac_exact {x : Nat} (h : Fin x) : Fin (Rg (rV x % 2 ^ 1074 * 2 ^ 1126)) ∧ rV (Rg (rV x % 2 ^ 1074 * 2 ^ 1126)) = rV x % 2 ^ 1074 := by
  have hd := dig_lt x
  have key : ∃ m k, m < 2 ^ 53 ∧ 1126 ≤ k ∧ k ≤ 3090 ∧ rV x % 2 ^ 1074 * 2 ^ 1126 = m * 2 ^ k := by
    rw [rV_dig]
    by_cases hp : 1074 ≤ plc x
    · refine ⟨0, 1126, by omega, by omega, by omega, ?_⟩
      have : dig x * 2 ^ plc x = dig x * 2 ^ (plc x - 1074) * 2 ^ 1074 := by rw [Nat.mul_assoc, ← Nat.pow_add, Nat.sub_add_cancel hp]
      rw [this, Nat.mul_mod_left, Nat.zero_mul]
    · refine ⟨dig x % 2 ^ (1074 - plc x), plc x + 1126, ?_, by omega, by omega, ?_⟩
      · exact Nat.lt_of_le_of_lt (Nat.mod_le _ _) hd
      · have : (2 : Nat) ^ 1074 = 2 ^ (1074 - plc x) * 2 ^ plc x := by rw [← Nat.pow_add, Nat.sub_add_cancel (by omega)]
        rw [this, Nat.mul_mod_mul_right, Nat.mul_assoc, ← Nat.pow_add]
  obtain ⟨m, k, h1, h2, h3, h4⟩ := key
  obtain ⟨f1, f2⟩ := Rg_small h1 h2 h3
  rw [← h4] at f1 f2
  exact ⟨f1, Nat.eq_of_mul_eq_mul_right (pow_pos2 1126) f2⟩
theorem rnd_cases (X : Nat) {d w : Nat} (h : 2 ^ d = 2 * w) : rnd X d = (if kcmp (some ((X % 2 ^ d : Nat) : Int)) (some (w : Int)) == some .gt || (kcmp (some ((X % 2 ^ d : Nat) : Int)) (some (w : Int)) == some .eq && X / 2 ^ d % 2 == 1) then X / 2 ^ d + 1 else X / 2 ^ d) := by
  unfold rnd
  generalize X / 2 ^ d = q
  generalize X % 2 ^ d = r
  rw [h]
  rcases Nat.lt_trichotomy w r with hc | hc | hc
  · have hc' : ((w : Nat) : Int) < (r : Int) := by omega
    simp only [kcmp, cmp_gt hc']; rw [if_pos (Or.inl (by omega))]; simp
  · have hc' : ((r : Nat) : Int) = (w : Int) := by omega
    simp only [kcmp, cmp_eq hc']
    by_cases hm : q % 2 = 1
    · rw [if_pos (Or.inr ⟨by omega, hm⟩)]; simp [hm]
    · rw [if_neg (by omega)]; simp [hm]
  · have hc' : ((r : Nat) : Int) < (w : Int) := by omega
    simp only [kcmp, cmp_lt hc']; rw [if_neg (by omega)]; simp
theorem pow1074 : (2 : Nat) ^ 1074 = 2 * 2 ^ 1073 := Nat.pow_succ' ..
theorem ref_run {s : Nat} (hs : s < 2 ^ 64) (h : inR s = true) : ∃ (x n f : Nat), DF.mul s w10 = some x ∧ cvFIA .i64 (.float .f64 x) = some (.int .i64 n) ∧ DF.sub x (FloatKind.f64.nearest (n : Int)) = some f ∧ n ≤ 9999 ∧
    tk s = (if DF.order f w05 == some .gt || (DF.order f w05 == some .eq && n % 2 == 1) then n + 1 else n) := by
  obtain ⟨a, h1, h2⟩ := inR_iff.1 h
  have ht := tk_of h1
  rcases inR_word hs h1 (by omega) (by omega) with ⟨hf, ha⟩ | ⟨rfl, ha⟩
  · have ha : a = rV s := by omega
    subst ha
    have hX := X10_fin h2
    have hle := tkN_le h2
    generalize hx : X10 (rV s) = x at *
    have hn : rV x / 2 ^ 1074 ≤ 9999 := by
      have := le_rnd (rV x) 1074
      unfold tkN at hle; rw [hx] at hle; omega
    obtain ⟨g1, g2⟩ := ofN_fin (n := rV x / 2 ^ 1074) (by omega)
    have hdm := Nat.div_add_mod (rV x) (2 ^ 1074)
    rw [Nat.mul_comm] at hdm
    obtain ⟨f1, f2⟩ := frac_exact hX
    refine ⟨x, rV x / 2 ^ 1074, Rg (rV x % 2 ^ 1074 * 2 ^ 1126), ?_, ?_, ?_, hn, ?_⟩
    · rw [← hx]; exact (mul_10 hf).2
    · exact cvFI_is (toInt_pos hX) (by omega)
    · rw [nearest_ofN, sub_pos hX g1 (by rw [g2]; omega), g2]
      have e : rV x - rV x / 2 ^ 1074 * 2 ^ 1074 = rV x % 2 ^ 1074 := by omega
      rw [e]
    · rw [ht]
      have e : tkN (rV s) = rnd (rV x) 1074 := by unfold tkN; rw [hx]
      have hk : DF.order (Rg (rV x % 2 ^ 1074 * 2 ^ 1126)) w05 = kcmp (some ((rV x % 2 ^ 1074 : Nat) : Int)) (some ((2 ^ 1073 : Nat) : Int)) := by
        rw [order_key, key_pos f1, key_pos fin_05, f2, rV_05]
      rw [e, hk]
      exact rnd_cases (rV x) pow1074
  · have ha : a = 0 := by omega
    subst ha
    refine ⟨2 ^ 63, 0, 2 ^ 63, z_2, cvFI_is z_4 (by omega), ?_, by omega, ?_⟩
    · rw [nearest_ofN]; exact z_5
    · rw [ht, tkN_0, z_6]; rfl
theorem sub_le' {a b c d : Nat} (h : a ≤ b) (h' : d ≤ c) : a - c ≤ b - d := by omega
theorem le_scale {x y c : Nat} (h : x * 2 ^ c ≤ y * 2 ^ c) : x ≤ y := Nat.le_of_mul_le_mul_right h (pow_pos2 c)
theorem div_10 {k a : Nat} (hk : 1 ≤ k) (hk2 : k ≤ 9999) (h1 : 10 * a ≤ 1024 * k) (h2 : 1024 * k ≤ 10 * (a + 1)) : ∃ s, DF.div (ofN k) w10 = some s ∧ Fin s ∧ a * 2 ^ 1064 ≤ rV s ∧ rV s ≤ (a + 1) * 2 ^ 1064 := by
  obtain ⟨f1, f2⟩ := ofN_fin (n := k) (by omega)
  generalize ofN k = r at *
  have hd := dig_lt r
  rw [rV_dig] at f2
  -- the number is a normal one
  have hr52 : 2 ^ 52 ≤ r := by
    refine Nat.le_of_not_lt fun h => ?_
    have e1 : dig r = r := by unfold dig; rw [if_pos h]
    have e2 : plc r = 0 := by unfold plc; rw [if_pos h]
    rw [e1, e2, Nat.pow_zero, Nat.mul_one] at f2
    have : 1 * 2 ^ 1074 ≤ k * 2 ^ 1074 := Nat.mul_le_mul_right _ hk
    have : (2 : Nat) ^ 52 ≤ 2 ^ 1074 := Nat.pow_le_pow_right (by omega) (by omega)
    omega
  have hd52 : 2 ^ 52 ≤ dig r := by unfold dig; rw [if_neg (by omega)]; omega
  have hlog : (dig r).log2 = 52 := by
    have h0 : dig r ≠ 0 := by omega
    have a1 : (dig r).log2 < 53 := (Nat.log2_lt h0).2 hd
    have a2 : 52 ≤ (dig r).log2 := (Nat.le_log2 h0).2 hd52
    omega
  have hp : plc r ≤ 1036 := by
    refine Nat.le_of_not_lt fun h => ?_
    have b1 : 2 ^ 52 * 2 ^ 1037 ≤ dig r * 2 ^ plc r := Nat.mul_le_mul hd52 (Nat.pow_le_pow_right (by omega) h)
    rw [f2, ← Nat.pow_add] at b1
    have b2 : k * 2 ^ 1074 < 2 ^ 15 * 2 ^ 1074 := Nat.mul_lt_mul_of_pos_right (by omega) (pow_pos2 _)
    rw [← Nat.pow_add] at b2
    omega
  have hl10 : (5 * 2 ^ 50 : Nat).log2 = 52 := by decide
  have hmore : 54 + (5 * 2 ^ 50 : Nat).log2 - (dig r).log2 = 54 := by rw [hlog, hl10]
  have hdiv : DF.div r w10 = some (Rg ((2 * (dig r * 2 ^ 54 / (5 * 2 ^ 50)) + (dig r * 2 ^ 54 % (5 * 2 ^ 50) != 0).toNat) * 2 ^ (plc r + 1120))) := by
    unfold Format.div
    rw [read_10, read_pos f1]
    have hfb : DF.fractionBits + 2 = 54 := rfl
    rw [hfb]
    unfold Datum.quotient
    dsimp only
    rw [if_neg (by omega), hmore, Nat.shiftLeft_eq, Option.map_some]
    have : ((-1074 + (plc r : Int)) - -49 - (54 : Nat) - 1 + 2200).toNat = plc r + 1120 := by omega
    rw [show (false ^^ false) = false from rfl, write_pos _ _ (by omega), this]
  obtain ⟨n, hn⟩ : ∃ n : Nat, n = 5 * 2 ^ 50 := ⟨_, rfl⟩
  rw [← hn] at hdiv
  obtain ⟨D, hDD⟩ : ∃ D : Nat, D = dig r * 2 ^ 54 := ⟨_, rfl⟩
  rw [← hDD] at hdiv
  refine ⟨_, hdiv, ?_⟩
  -- the floor against a grid number
  have grid5 : ∀ z : Nat, (z * 2 ^ (1069 - plc r)) * n * 2 ^ plc r = 5 * z * 2 ^ 1119 := by
    intro z
    rw [hn]
    have : z * 2 ^ (1069 - plc r) * (5 * 2 ^ 50) * 2 ^ plc r = 5 * z * (2 ^ (1069 - plc r) * 2 ^ 50 * 2 ^ plc r) := by
      simp only [Nat.mul_assoc, Nat.mul_left_comm, Nat.mul_comm]
    rw [this, ← Nat.pow_add, ← Nat.pow_add]
    rw [show 1069 - plc r + 50 + plc r = 1119 by omega]
  have hD : D * 2 ^ plc r = 512 * k * 2 ^ 1119 := by
    rw [hDD]
    have : dig r * 2 ^ 54 * 2 ^ plc r = dig r * 2 ^ plc r * 2 ^ 54 := by simp only [Nat.mul_assoc, Nat.mul_left_comm, Nat.mul_comm]
    rw [this, f2, Nat.mul_assoc, ← Nat.pow_add, show 1074 + 54 = 9 + 1119 by omega, Nat.pow_add, ← Nat.mul_assoc, Nat.mul_comm k]
  have hn0 : 0 < n := by omega
  have lo : ∀ z, 5 * z ≤ 512 * k → z * 2 ^ (1069 - plc r) ≤ D / n := by
    intro z hz
    rw [Nat.le_div_iff_mul_le hn0]
    refine le_scale (c := plc r) ?_
    rw [grid5, hD]; exact Nat.mul_le_mul_right _ hz
  have hi : ∀ z, 512 * k ≤ 5 * z → 2 * (D / n) + (D % n != 0).toNat ≤ 2 * (z * 2 ^ (1069 - plc r)) := by
    intro z hz
    have hle : D ≤ z * 2 ^ (1069 - plc r) * n := by
      refine le_scale (c := plc r) ?_
      rw [grid5, hD]; exact Nat.mul_le_mul_right _ hz
    generalize z * 2 ^ (1069 - plc r) = Z at *
    have hdm := Nat.div_add_mod D n
    have h3 : D / n ≤ Z := by
      rw [← Nat.mul_div_cancel Z hn0]; exact Nat.div_le_div_right hle
    by_cases h0 : D % n = 0
    · simp [h0]; omega
    · have h4 : D / n < Z := by
        refine Nat.lt_of_le_of_ne h3 fun e => ?_
        rw [e, Nat.mul_comm] at hdm
        omega
      have h5 : (D % n != 0).toNat = 1 := by simp [h0]
      omega
  have sc : ∀ z : Nat, z * 2 ^ 1064 * 2 ^ 1126 = 2 * (z * 2 ^ (1069 - plc r)) * 2 ^ (plc r + 1120) := by
    intro z
    have : 2 * (z * 2 ^ (1069 - plc r)) * 2 ^ (plc r + 1120) = z * (2 ^ 1 * 2 ^ (1069 - plc r) * 2 ^ (plc r + 1120)) := by
      simp only [Nat.mul_assoc, Nat.mul_left_comm, Nat.mul_comm, Nat.pow_one]
    rw [this, ← Nat.pow_add, ← Nat.pow_add, Nat.mul_assoc, ← Nat.pow_add]
    rw [show 1 + (1069 - plc r) + (plc r + 1120) = 1064 + 1126 by omega]
  have hlo : a * 2 ^ 1064 * 2 ^ 1126 ≤ (2 * (D / n) + (D % n != 0).toNat) * 2 ^ (plc r + 1120) := by
    rw [sc]
    have := lo a (by omega)
    exact Nat.mul_le_mul_right _ (by omega)
  have hhi : (2 * (D / n) + (D % n != 0).toNat) * 2 ^ (plc r + 1120) ≤ (a + 1) * 2 ^ 1064 * 2 ^ 1126 := by
    rw [sc]
    exact Nat.mul_le_mul_right _ (hi (a + 1) (by omega))
  have hb : a + 1 < 2 ^ 53 := by omega
  exact Rg_grid hlo hhi hb
theorem rnd_grid {c k : Nat} (h1 : 1024 * k < c + 512) (h2 : c < 1024 * k + 512) : rnd c 10 = k := by
  unfold rnd; split <;> omega
theorem rnd_1064 (c : Nat) : rnd (c * 2 ^ 1064) 1074 = rnd c 10 := rnd_scale c 10 1064
theorem tk_grid {v a b k : Nat} (h1 : a * 2 ^ 1064 ≤ v) (h2 : v ≤ b * 2 ^ 1064) (hb : b < 2 ^ 40) (h3 : 1024 * k < 10 * a + 512) (h4 : 10 * b < 1024 * k + 512) : tkN v = k := by
  have e : ∀ z : Nat, 10 * (z * 2 ^ 1064) = 10 * z * 2 ^ 1064 := fun z => by rw [Nat.mul_assoc]
  have hx := Rg_grid (N := 10 * v * 2 ^ 1126) (a := 10 * a) (b := 10 * b) (by rw [← e]; exact Nat.mul_le_mul_right _ (Nat.mul_le_mul_left _ h1)) (by rw [← e]; exact Nat.mul_le_mul_right _ (Nat.mul_le_mul_left _ h2)) (by omega)
  obtain ⟨_, g1, g2⟩ := hx
  have m1 := rnd_mono g1 1074
  have m2 := rnd_mono g2 1074
  rw [rnd_1064] at m1 m2
  have hab : a ≤ b := le_scale (Nat.le_trans h1 h2)
  have r1 := rnd_grid (c := 10 * a) (k := k) (by omega) (by omega)
  have r2 := rnd_grid (c := 10 * b) (k := k) (by omega) (by omega)
  have : tkN v = rnd (rV (Rg (10 * v * 2 ^ 1126))) 1074 := rfl
  omega
theorem g003_lo : 30 * 2 ^ 1064 ≤ rV w003 := by decide +kernel
theorem g003_hi : rV w003 ≤ 31 * 2 ^ 1064 := by decide +kernel
theorem g999 : 1023897 * 2 ^ 1064 ≤ rV w999 := by decide +kernel
theorem div_9999 : DF.div (ofN 9999) w10 = some w999 := by decide +kernel
theorem div_0 : DF.div (ofN 0) w10 = some 0 := by decide +kernel
theorem tkN_003 : tkN (rV w003) = 0 := by decide +kernel
def near (off k : Nat) : Prop := ltF off 0 = false → gtF off w999 = false → inR off = true ∧ tk off = k
theorem near_of {v : Nat} {k : Nat} (hf : Fin v) (ht : tkN (rV v) = k) : near v k := by
  intro h1 h2
  rw [gtF_key, key_pos hf, key_999] at h2
  simp only [klt, decide_eq_false_iff_not] at h2
  exact ⟨inR_iff.2 ⟨rV v, key_pos hf, by omega⟩, by rw [tk_of (key_pos hf)]; exact ht⟩
theorem back {k : Nat} (hk : k ≤ 9999) : ∃ s u d, DF.div (ofN k) w10 = some s ∧ DF.add s w003 = some u ∧ DF.sub s w003 = some d ∧ s < 2 ^ 64 ∧ u < 2 ^ 64 ∧ inR s = true ∧ tk s = k ∧ near u k ∧ near d k ∧ d < 2 ^ 64 := by
  by_cases h0 : k = 0
  · subst h0
    have hd : DF.sub 0 w003 = some (2 ^ 63 + w003) := by decide +kernel
    have hu : DF.add 0 w003 = some w003 := by decide +kernel
    refine ⟨0, w003, 2 ^ 63 + w003, div_0, hu, hd, by omega, by unfold w003; omega, inR_iff.2 ⟨0, key_0, by omega⟩, by rw [tk_of (a := 0) key_0]; exact tkN_0, near_of fin_003 tkN_003, ?_, by unfold w003; omega⟩
    intro h1
    rw [ltF_key, key_neg fin_003, key_0] at h1
    simp only [klt, decide_eq_false_iff_not] at h1
    have : 0 < rV w003 := by decide +kernel
    omega
  · obtain ⟨s, h1, h2, h3, h4⟩ := div_10 (k := k) (a := 1024 * k / 10) (by omega) hk (by omega) (by omega)
    generalize ha : 1024 * k / 10 = a at *
    have ha1 : 10 * a ≤ 1024 * k := by omega
    have ha2 : 1024 * k ≤ 10 * a + 9 := by omega
    have hs999 : rV s ≤ rV w999 := by
      by_cases h9 : k = 9999
      · subst h9
        rw [div_9999] at h1
        cases h1
        exact Nat.le_refl _
      · refine Nat.le_trans h4 (Nat.le_trans (Nat.mul_le_mul_right _ (by omega)) g999)
    have hts : tkN (rV s) = k := tk_grid h3 h4 (by omega) (by omega) (by omega)
    have hsub : rV w003 ≤ rV s := Nat.le_trans g003_hi (Nat.le_trans (Nat.mul_le_mul_right _ (by omega)) h3)
    have hU := Rg_grid (N := (rV s + rV w003) * 2 ^ 1126) (a := a + 30) (b := a + 1 + 31) (Nat.mul_le_mul_right _ (by rw [Nat.add_mul]; exact Nat.add_le_add h3 g003_lo)) (Nat.mul_le_mul_right _ (by rw [Nat.add_mul (a + 1)]; exact Nat.add_le_add h4 g003_hi)) (by omega)
    have hD := Rg_grid (N := (rV s - rV w003) * 2 ^ 1126) (a := a - 31) (b := a + 1 - 30) (Nat.mul_le_mul_right _ (by rw [Nat.sub_mul]; exact sub_le' h3 g003_hi)) (Nat.mul_le_mul_right _ (by rw [Nat.sub_mul]; exact sub_le' h4 g003_lo)) (by omega)
    refine ⟨s, _, _, h1, add_pos h2 fin_003, sub_pos h2 fin_003 hsub, ?_, ?_, inR_iff.2 ⟨rV s, key_pos h2, hs999⟩, by rw [tk_of (key_pos h2)]; exact hts, ?_, ?_, ?_⟩
    · unfold Fin at h2; omega
    · have := hU.1; unfold Fin at this; omega
    · exact near_of hU.1 (tk_grid hU.2.1 hU.2.2 (by omega) (by omega) (by omega))
    · exact near_of hD.1 (tk_grid hD.2.1 hD.2.2 (by omega) (by omega) (by omega))
    · have := hD.1; unfold Fin at this; omega
end Go.Eng
namespace Go.Eng
set_option linter.unusedVariables false
set_option linter.unusedSimpArgs false
set_option linter.unnecessarySimpa false
open Go
set_option linter.unusedVariables false
set_option linter.unusedSimpArgs false
set_option maxRecDepth 10000
set_option maxHeartbeats 4000000
abbrev Fl (x : Nat) : AV := .float .f64 x
theorem f_geq (x y : Nat) : binA .geq (.float .f64 x) (.float .f64 y) = some (.bool (geF x y)) := rfl
theorem f_leq (x y : Nat) : binA .leq (.float .f64 x) (.float .f64 y) = some (.bool (leF x y)) := rfl
theorem f_gtr (x y : Nat) : binA .gtr (.float .f64 x) (.float .f64 y) = some (.bool (gtF x y)) := rfl
theorem f_lss (x y : Nat) : binA .lss (.float .f64 x) (.float .f64 y) = some (.bool (ltF x y)) := rfl
theorem f_eql (x y : Nat) : binA .eql (.float .f64 x) (.float .f64 y) = some (.bool (eqF x y)) := rfl
theorem f_neq (x y : Nat) : binA .neq (.float .f64 x) (.float .f64 y) = some (.bool (!eqF x y)) := rfl
theorem f_mul (x y : Nat) : binA .mul (.float .f64 x) (.float .f64 y) = (DF.mul x y).map (.float .f64) := rfl
theorem f_sub (x y : Nat) : binA .sub (.float .f64 x) (.float .f64 y) = (DF.sub x y).map (.float .f64) := rfl
theorem f_add (x y : Nat) : binA .add (.float .f64 x) (.float .f64 y) = (DF.add x y).map (.float .f64) := rfl
theorem f_quo (x y : Nat) : binA .quo (.float .f64 x) (.float .f64 y) = (DF.div x y).map (.float .f64) := rfl
theorem f_neg (x : Nat) : unA .neg (.float .f64 x) = some (.float .f64 (Op.negFloat .f64 x)) := rfl
set_option linter.defProp false
def FLW := And.intro @f_geq (And.intro @f_leq (And.intro @f_gtr (And.intro @f_lss (And.intro @f_eql (And.intro @f_neq (And.intro @f_mul (And.intro @f_sub (And.intro @f_add (And.intro @f_quo @f_neg)))))))))
def tkAV (s : Nat) : AV := .tup [I (if inR s then (tk s : Int) else 0), B (inR s)]
def sTicks.Spec (C : Con) (f : Nat) : Prop := ∀ s : Nat, s < 2 ^ 64 → C.c f [Fl s] (tkAV s) none
def rTicks.Spec (C : Con) (f : Nat) : Prop := ∀ s : Nat, s < 2 ^ 64 → C.c f [Fl s] (tkAV s) none
section
variable {P : Program} (hm : P.follows .mixedOrders = true) {f : Nat}
include hm
theorem sTicks.ok (hc : cFn P f = some cc_secs_Ticks) : sTicks.Spec (Pure P) f := by
  intro s hs
  have h1 : inR s = (geF s 0 && leF s 4652006429231887155) := rfl
  obtain ⟨b1, hb1⟩ : ∃ b, geF s 0 = b := ⟨_, rfl⟩
  obtain ⟨b2, hb2⟩ : ∃ b, leF s 4652006429231887155 = b := ⟨_, rfl⟩
  rw [hb1, hb2] at h1
  have hrun := fun h => ticks_run (s := s) hs h
  clear hs
  refine pure_of hm hc (by show 1 ≤ 15; decide) (aw_flat (keep := []) (i := 0) ?_)
  try simp only [I, B, D, RX, ↓ KW, seval, cc_secs_Ticks, Z.H, FLW]
  cases b1 <;> cases b2
  · try simp only [I, B, D, RX, ↓ KW, seval, FLW, hb1, hb2]
    rw [tkAV, h1]; rfl
  · try simp only [I, B, D, RX, ↓ KW, seval, FLW, hb1, hb2]
    rw [tkAV, h1]; rfl
  · try simp only [I, B, D, RX, ↓ KW, seval, FLW, hb1, hb2]
    rw [tkAV, h1]; rfl
  · obtain ⟨x, y, e1, e2, e3⟩ := hrun h1
    have e1' : DF.mul 4621819117588971520 s = some x := e1
    try simp only [I, B, D, RX, ↓ KW, seval, FLW, hb1, hb2, e1', e2, e3]
    rw [tkAV, h1]; rfl
theorem rTicks.ok (hc : cFn P f = some cc_ref01_Ticks) : rTicks.Spec (Pure P) f := by
  intro s hs
  have h1 : inR s = (geF s 0 && leF s 4652006429231887155) := rfl
  obtain ⟨b1, hb1⟩ : ∃ b, geF s 0 = b := ⟨_, rfl⟩
  obtain ⟨b2, hb2⟩ : ∃ b, leF s 4652006429231887155 = b := ⟨_, rfl⟩
  rw [hb1, hb2] at h1
  have hrun := fun h => ref_run (s := s) hs h
  clear hs
  refine pure_of hm hc (by show 1 ≤ 36; decide) (aw_flat (keep := []) (i := 0) ?_)
  try simp only [I, B, D, RX, ↓ KW, seval, cc_ref01_Ticks, Z.H, FLW]
  cases b1 <;> cases b2
  · try simp only [I, B, D, RX, ↓ KW, seval, FLW, hb1, hb2]
    rw [tkAV, h1]; rfl
  · try simp only [I, B, D, RX, ↓ KW, seval, FLW, hb1, hb2]
    rw [tkAV, h1]; rfl
  · try simp only [I, B, D, RX, ↓ KW, seval, FLW, hb1, hb2]
    rw [tkAV, h1]; rfl
  · obtain ⟨x, n, y, e1, e2, e3, e4, e5⟩ := hrun h1
    have e1' : DF.mul s 4621819117588971520 = some x := e1
    have e3' : DF.sub x (FloatKind.f64.nearest (n : Int)) = some y := e3
    obtain ⟨b3, hb3⟩ : ∃ b, gtF y 4602678819172646912 = b := ⟨_, rfl⟩
    obtain ⟨b4, hb4⟩ : ∃ b, eqF y 4602678819172646912 = b := ⟨_, rfl⟩
    have e6 : tk s = (if b3 || (b4 && n % 2 == 1) then n + 1 else n) := by rw [← hb3, ← hb4]; exact e5
    have hw : IntKind.i64.wrap ((n : Int) + 1) = ((n + 1 : Nat) : Int) := wrap_succ (by omega)
    have hmod : (n : Int).tmod 2 = ((n % 2 : Nat) : Int) := by rw [Int.tmod_eq_emod_of_nonneg (by omega)]; rfl
    have hmb : (((n % 2 : Nat) : Int) == 1) = (n % 2 == 1) := by rw [Bool.eq_iff_iff, beq_iff_eq, beq_iff_eq]; omega
    obtain ⟨b5, hb5⟩ : ∃ b, (n % 2 == 1) = b := ⟨_, rfl⟩
    rw [hb5] at hmb e6
    cases b3 <;> cases b4 <;> cases b5
    all_goals
      try simp only [I, B, D, RX, ↓ KW, seval, FLW, hb1, hb2, e1', e2, e3', hw, hmod, hb3, hb4, hmb]
      rw [tkAV, h1, e6]; rfl
end
end Go.Eng
namespace Go.Eng
set_option linter.unusedVariables false
set_option linter.unusedSimpArgs false
set_option linter.unnecessarySimpa false
open Go
set_option linter.unusedVariables false
set_option linter.unusedSimpArgs false
set_option maxRecDepth 10000
set_option maxHeartbeats 4000000
def bv (s : Int) : BitVec 64 := BitVec.ofInt 64 s
def tb (s : Int) (i : Nat) : Bool := (bv s).getLsbD i
theorem wrap_mod (n : Int) : IntKind.i64.wrap n % 18446744073709551616 = n % 18446744073709551616 := by
  simp only [IntKind.wrap, IntKind.bits, IntKind.signed]
  simp
  split <;> omega
theorem bv_wrap (n : Int) : bv (IntKind.i64.wrap n) = bv n := by
  unfold bv
  apply BitVec.eq_of_toNat_eq
  have := wrap_mod n
  simp only [BitVec.toNat_ofInt]
  have e : ((2 ^ 64 : Nat) : Int) = 18446744073709551616 := by decide
  rw [e, this]
theorem bv_nat (b : BitVec 64) : bv (b.toNat : Int) = b := by
  unfold bv
  rw [BitVec.ofInt_natCast]; simp
theorem bv_and (x y : Int) : bv (bAnd .i64 x y) = bv x &&& bv y := by
  simp only [bAnd, bv_wrap]; exact bv_nat _
theorem bv_or (x y : Int) : bv (bOr .i64 x y) = bv x ||| bv y := by
  simp only [bOr, bv_wrap]; exact bv_nat _
theorem bv_andNot (x y : Int) : bv (bAndNot .i64 x y) = bv x &&& ~~~(bv y) := by
  simp only [bAndNot, bv_wrap]; exact bv_nat _
theorem wrap_zero {b : BitVec 64} : IntKind.i64.wrap (b.toNat : Int) = 0 ↔ b = 0 := by
  constructor
  · intro h
    have := wrap_mod (b.toNat : Int)
    rw [h] at this
    have h2 := b.isLt
    apply BitVec.eq_of_toNat_eq
    simp only [BitVec.toNat_zero, BitVec.ofNat_eq_ofNat] at *
    omega
  · rintro rfl; decide
theorem and_zero {x y : Int} : bAnd .i64 x y = 0 ↔ ∀ i, i < 64 → (tb x i && tb y i) = false := by
  rw [show bAnd .i64 x y = IntKind.i64.wrap ((bv x &&& bv y).toNat : Int) from rfl, wrap_zero]
  constructor
  · intro h i hi; have := congrArg (fun b => b.getLsbD i) h; simpa [tb] using this
  · intro h; apply BitVec.eq_of_getLsbD_eq; intro i hi; simpa [tb] using h i hi
theorem andNot_zero {x y : Int} : bAndNot .i64 x y = 0 ↔ ∀ i, i < 64 → (tb x i && !tb y i) = false := by
  rw [show bAndNot .i64 x y = IntKind.i64.wrap ((bv x &&& ~~~(bv y)).toNat : Int) from rfl, wrap_zero]
  constructor
  · intro h i hi; have := congrArg (fun b => b.getLsbD i) h; simpa [tb, hi] using this
  · intro h; apply BitVec.eq_of_getLsbD_eq; intro i hi; simpa [tb, hi] using h i hi
theorem tb_and (x y : Int) (i : Nat) : tb (bAnd .i64 x y) i = (tb x i && tb y i) := by simp [tb, bv_and]
theorem tb_or (x y : Int) (i : Nat) : tb (bOr .i64 x y) i = (tb x i || tb y i) := by simp [tb, bv_or]
theorem tb_andNot (x y : Int) (i : Nat) (h : i < 64) : tb (bAndNot .i64 x y) i = (tb x i && !tb y i) := by simp [tb, bv_andNot, h]
theorem tb_zero (i : Nat) : tb 0 i = false := by simp [tb, bv]
theorem tb_255 (i : Nat) : tb 255 i = decide (i < 8) := by
  have : bv 255 = 255#64 := rfl
  simp only [tb, this, BitVec.getLsbD_ofNat]
  by_cases h : i < 8
  · have : i = 0 ∨ i = 1 ∨ i = 2 ∨ i = 3 ∨ i = 4 ∨ i = 5 ∨ i = 6 ∨ i = 7 := by omega
    rcases this with rfl | rfl | rfl | rfl | rfl | rfl | rfl | rfl <;> decide
  · simp only [h, decide_false, Bool.and_eq_false_imp]
    intro _
    apply Nat.testBit_lt_two_pow
    exact Nat.lt_of_lt_of_le (by decide : 255 < 2 ^ 8) (Nat.pow_le_pow_right (by decide) (by omega))
theorem tb_pow {p : Nat} (hp : p < 8) (i : Nat) : tb (2 ^ p) i = decide (i = p) := by
  have e : bv (2 ^ p) = BitVec.twoPow 64 p := by
    have : p = 0 ∨ p = 1 ∨ p = 2 ∨ p = 3 ∨ p = 4 ∨ p = 5 ∨ p = 6 ∨ p = 7 := by omega
    rcases this with rfl | rfl | rfl | rfl | rfl | rfl | rfl | rfl <;> rfl
  simp only [tb, e, BitVec.getLsbD_twoPow]
  by_cases h : i = p <;> simp [h]
  · omega
  · omega
theorem tb_bit {p : Nat} (hp : p < 8) (i : Nat) : tb (bitI p) i = decide (i = p) := by
  have : bitI p = 2 ^ p := by simp [bitI]; omega
  rw [this, tb_pow hp]
theorem hasS_tb {s : Int} {p : Nat} (hp : p < 8) : hasS s p = tb s p := by
  have h : hasS s p = !(bAnd .i64 s (bitI p) == 0) := rfl
  rw [h]
  cases ht : tb s p with
  | true =>
    have : ¬ bAnd .i64 s (bitI p) = 0 := by
      rw [and_zero]; intro h; have := h p (by omega); rw [ht, tb_bit hp] at this; simp at this
    simp [this]
  | false =>
    have : bAnd .i64 s (bitI p) = 0 := by
      rw [and_zero]; intro i _
      by_cases hi : i = p
      · subst hi; rw [ht]; rfl
      · rw [tb_bit hp]; simp [hi]
    simp [this]
theorem tb_with {s : Int} {p : Nat} (hp : p < 8) (i : Nat) : tb (withS s p) i = (tb s i && decide (i < 8) || decide (i = p)) := by
  simp only [withS, tb_or, tb_and, tb_255, tb_bit hp]
theorem tb_ofTo (l : List Int) : ∀ k, k ≤ 8 → ∀ i, tb (ofTo l k) i = (decide (i < k) && decide ((i : Int) ∈ l))
  | 0, _, i => by simp [ofTo, tb_zero]
  | k + 1, h, i => by
    have ih := tb_ofTo l k (by omega) i
    simp only [ofTo]
    split
    · rename_i hk
      rw [tb_or, ih, tb_pow (by omega)]
      by_cases e : i = k
      · subst e; simp [hk]
      · have : (i < k + 1) ↔ i < k := by omega
        simp [e, this]
    · rename_i hk
      rw [ih]
      by_cases e : i = k
      · subst e; simp [hk]
      · have : (i < k + 1) ↔ i < k := by omega
        simp [this]
theorem tb_of (l : List Int) (i : Nat) : tb (ofI l) i = (decide (i < 8) && decide ((i : Int) ∈ l)) := tb_ofTo l 8 (by omega) i
theorem tb_num (s : Int) {p : Nat} (hp : p < 64) : tb s p = decide (s.fdiv (2 ^ p) % 2 = 1) := by
  have e : (bv s).toNat = (s % 18446744073709551616).toNat := by
    simp only [bv, BitVec.toNat_ofInt]; rfl
  have h1 : tb s p = (bv s).toNat.testBit p := rfl
  rw [h1, e, Nat.testBit_eq_decide_div_mod_eq]
  congr 1
  have hf : s.fdiv (2 ^ p) = s / 2 ^ p := Int.fdiv_eq_ediv_of_nonneg _ (Int.le_of_lt (Int.pow_pos (by decide)))
  rw [hf, eq_iff_iff]
  have h0 : 0 ≤ s % 18446744073709551616 := Int.emod_nonneg _ (by decide)
  have hc : (((s % 18446744073709551616).toNat / 2 ^ p % 2 : Nat) : Int) = (s % 18446744073709551616) / 2 ^ p % 2 := by
    push_cast [Int.toNat_of_nonneg h0]; rfl
  have key : (s % 18446744073709551616) / 2 ^ p % 2 = s / 2 ^ p % 2 := by
    have hpw : (18446744073709551616 : Int) = 2 ^ p * (2 * 2 ^ (63 - p)) := by
      rw [show (2 : Int) ^ p * (2 * 2 ^ (63 - p)) = 2 ^ (p + (1 + (63 - p))) by rw [Int.pow_add, Int.pow_add]; rfl, show p + (1 + (63 - p)) = 64 by omega]; rfl
    have h2 : s = s % 18446744073709551616 + 2 ^ p * (2 * 2 ^ (63 - p) * (s / 18446744073709551616)) := by
      have := Int.emod_add_mul_ediv s 18446744073709551616
      rw [← Int.mul_assoc, ← Int.mul_assoc, Int.mul_assoc (2 ^ p), ← hpw]; omega
    conv => rhs; rw [h2]
    rw [Int.add_mul_ediv_left _ _ (Int.ne_of_gt (Int.pow_pos (by decide))), Int.mul_assoc, Int.add_mul_emod_self_left]
  rw [← key, ← hc]
  omega
theorem bAnd_one (x : Int) : bAnd .i64 x 1 = if tb x 0 then 1 else 0 := by
  have e : bAnd .i64 x 1 = IntKind.i64.wrap ((bv x &&& 1#64).toNat : Int) := rfl
  have e2 : bv x &&& 1#64 = if tb x 0 then 1#64 else 0#64 := by
    apply BitVec.eq_of_getLsbD_eq
    intro i hi
    simp only [BitVec.getLsbD_and, BitVec.getLsbD_one]
    by_cases h : i = 0
    · subst h; cases hx : tb x 0 <;> simp [tb] at hx ⊢ <;> simp [hx]
    · split <;> simp [h, BitVec.getLsbD_one]
  rw [e, e2]; split <;> decide
theorem hasR_tb {s : Int} {p : Nat} (hp : p < 8) : hasR s p = tb s p := by
  have h1 : tb (s.fdiv (2 ^ p)) 0 = tb s p := by
    rw [tb_num _ (by omega), tb_num _ (by omega)]
    simp
  simp only [hasR, Int.toNat_natCast, bAnd_one, h1]
  have : (p : Int) < 8 := by omega
  cases tb s p <;> simp [this]
theorem tb_onTo (t : Tb) (i : Nat) : tb (onI t) i = (decide (i < 8) && (phAt t i).on) := by
  rw [onI, tb_of]
  by_cases h : i < 8
  · have : ((i : Int) ∈ onTo t 8) ↔ (phAt t i).on = true := by
      simp only [onTo, List.mem_filter, List.mem_map, List.mem_range]
      exact ⟨fun h => h.2, fun h' => ⟨⟨i, h, rfl⟩, h'⟩⟩
    simp [h, this]
  · simp [h]
theorem phAt_D (t : Tb) (i : Nat) : t.phases.getD i default = phAt t i := by simp [phAt]
theorem rows_len {α : Type} {l : List α} {f : α → List AV} {n : Nat} (h : ∀ k, (f k).length = n) : ∀ x ∈ l.map f, x.length = n := by
  intro x hx; obtain ⟨k, _, rfl⟩ := List.mem_map.1 hx; exact h k
theorem map_at {α : Type} {l : List α} {f : α → List AV} {i : Nat} {x : List AV} (h : (l.map f)[i]? = some x) : ∃ k, l[i]? = some k ∧ x = f k := by
  rw [List.getElem?_map, Option.map_eq_some_iff] at h; obtain ⟨k, h1, h2⟩ := h; exact ⟨k, h1, h2.symm⟩
theorem aw_rfor' {C : Con} {g : Opd} {ps wr : List Nat} {as bd : CCode} {Q : Exit → S → Prop} {s : S} {gv : AV} {xs : List (List AV)} {α : Type} (hd : α → S) (I : Nat → α → Prop)
    (hit : C.i gv xs) (hg : opdA s g = some gv) (hlen : ∀ x ∈ xs, x.length = ps.length) (hgd : ∀ y, opdA (hd y) g = some gv)
    (round : ∀ i x y, xs[i]? = some x → I i y → ∀ F : S → Prop, (∀ z s, I (i + 1) z → Le s (hd z) → Eng.down F s) → aw C as (onlyN (aw C bd (rfQ wr F Q))) (putPs ps x (hd y)))
    (fin : ∀ y, I xs.length y → Q .normal (hd y)) (y0 : α) (hI0 : I 0 y0) (h0 : Le s (hd y0)) : aw C (.rfor g ps wr as bd) Q s :=
  aw_rfor hd I hg hit hlen (.inl h0) hI0 hgd (fun i x y hx hy => round i x y hx hy _ fun z s hz hle => ⟨hd z, .inl ⟨hle, z, rfl, hz⟩⟩) fin
end Go.Eng
namespace Go.Eng
set_option linter.unusedVariables false
set_option linter.unusedSimpArgs false
set_option linter.unnecessarySimpa false
open Go
section
open Z
set_option linter.unusedVariables false
def cc_set_Each (g0 : Nat) : CFn := ⟨4,[.tmp 2],r [o 1 (w 0),V 2 .nilfn] (r [o 3 (.mkf (.func g0) [] [t 1]),M 2 3] y)⟩
end
end Go.Eng
namespace Go.Eng
set_option linter.unusedVariables false
set_option linter.unusedSimpArgs false
set_option linter.unnecessarySimpa false
open Go
set_option linter.unusedVariables false
set_option linter.unusedSimpArgs false
set_option maxRecDepth 10000
set_option maxHeartbeats 4000000
structure Sh where
  colour : List Int
  time : List Int
  foot : List Int
  ftime : List Int
  entry : Bool
  deriving Inhabited, DecidableEq
def Sh.cells (s : Sh) : List AV := s.colour.map I ++ (s.time.map I ++ (s.foot.map I ++ (s.ftime.map I ++ [B s.entry])))
structure Sh.Ok (s : Sh) : Prop where
  colour : s.colour.length = 8
  time : s.time.length = 8
  foot : s.foot.length = 8
  ftime : s.ftime.length = 8
def Sh.c (s : Sh) (p : Nat) : Int := s.colour.getD p 0
def Sh.t (s : Sh) (p : Nat) : Int := s.time.getD p 0
def Sh.f (s : Sh) (p : Nat) : Int := s.foot.getD p 0
theorem Sh.len {s : Sh} (h : s.Ok) : s.cells.length = 33 := by simp [Sh.cells, h.colour, h.time, h.foot, h.ftime]
theorem Sh.whole {s : Sh} (h : s.Ok) : partA s.cells 0 (some 33) = some (.agg s.cells) := by
  have := Sh.len h
  simp [partA, this]
  rw [← this, List.take_length]
structure StOk (t : Tb) (a b : Sh) : Prop where
  t : t.Ln
  a : a.Ok
  b : b.Ok
theorem Tb.Ln.ph_get {t : Tb} (h : t.Ln) {k : Nat} (hk : k < 8) : t.phases[k]? = some (phAt t k) := by
  have : k < t.phases.length := by rw [h.phases]; exact hk
  simp [phAt, this]
def conAt (t : Tb) (p : Nat) : Int := t.conflict.getD p 0
theorem Tb.Ln.con_at {t : Tb} (h : t.Ln) {p : Nat} (hp : p < 8) : t.cells[105 + p]? = some (I (conAt t p)) := by
  refine h.conflict_at ?_
  have : p < t.conflict.length := by rw [h.conflict]; exact hp
  simp [conAt, this]
def each27.Spec (C : Con) (f : Nat) : Prop := ∀ s : Int, ∃ g, C.c f [I s] (.fn (.func g) [] [.ref [I s]]) none ∧ C.i (.fn (.func g) [] [.ref [I s]]) (((List.range 8).filter fun p => tb s p).map fun (p : Nat) => [I p])
def setEach1.Spec (C : Con) (f : Nat) : Prop := ∀ s : Int, C.i (.fn (.func f) [] [.ref [I s]]) (((List.range 8).filter fun p => tb s p).map fun (p : Nat) => [I p])
section
variable {P : Program} (hm : P.follows .mixedOrders = true) {f : Nat}
include hm
theorem setEach.ok {f1 : Nat} (hc : cFn P f = some (cc_set_Each f1)) (h1 : setEach1.Spec (Pure P) f1) : each27.Spec (Pure P) f := by
  intro s
  refine ⟨f1, ?_, h1 s⟩
  refine pure_of hm hc (by show 1 ≤ 4; decide) (aw_flat (keep := []) (i := 0) ?_)
  try simp only [I, B, D, RX, ↓ KW, Nat.reduceBEq, Nat.reduceAdd, Nat.reduceLeDiff, Int.reduceNe, Int.reduceBEq, Int.reduceEq, reduceCtorEq, Nat.reduceMul, Int.reduceLT, Int.reduceLE, Int.reduceToNat, cc_set_Each, Z.H]
  simp
end
end Go.Eng
namespace Go.Eng
set_option linter.unusedVariables false
set_option linter.unusedSimpArgs false
set_option linter.unnecessarySimpa false
open Go
set_option linter.unusedVariables false
set_option linter.unusedSimpArgs false
set_option maxRecDepth 10000
set_option maxHeartbeats 4000000
structure Rd where
  lock : List Int
  was : Int
  spent : Int
  deriving Inhabited, DecidableEq
def Rd.cells (s : Rd) : List AV := s.lock.map I ++ [I s.was, I s.spent]
structure Rn where
  colour : Int
  time : Int
  fst : Int
  ftime : Int
  left : Int
  press : Int
  extra : Int
  done : Bool
  maxed : Bool
  limit : Int
  up : Int
  down : Int
  deriving Inhabited, DecidableEq
def Rn.cells (r : Rn) : List AV := [I r.colour, I r.time, I r.fst, I r.ftime, I r.left, I r.press, I r.extra, B r.done, B r.maxed, I r.limit, I r.up, I r.down]
theorem Rn.len (r : Rn) : r.cells.length = 12 := rfl
def runsC (l : List Rn) : List AV := l.flatMap Rn.cells
theorem runsC_len {l : List Rn} (h : l.length = 8) : (runsC l).length = 96 := by rw [runsC, flatMap_len Rn.len, h]
def lockAt (s : Rd) (k : Nat) : Int := s.lock.getD k 0
def busAt (t : Tb) (k : Nat) : Bs := (t.buses.getD []).getD k default
def nBus (t : Tb) : Nat := min (t.buses.getD []).length 4
def eachK (t : Tb) (s : Int) : List Nat := (List.range (nBus t)).filter fun k => tb s k
def busRow (t : Tb) (k : Nat) : List AV := [I k, .agg (busAt t k).cells]
theorem Rd.len {s : Rd} (h : s.lock.length = 4) : s.cells.length = 6 := by simp [Rd.cells, h]
theorem Rd.whole {s : Rd} (h : s.lock.length = 4) : partA s.cells 0 (some 6) = some (.agg s.cells) := by
  have := Rd.len h
  simp [partA, this]
  rw [← this, List.take_length]
section
variable {P : Program} (hm : P.follows .mixedOrders = true) {f : Nat}
include hm
def each1.Spec (C : Con) (f : Nat) : Prop := ∀ (t : Tb) (s : Int), t.Ok → C.i (.fn (.func f) [] [.ref t.cells, .ref [I s]]) ((eachK t s).map (busRow t))
end
theorem shr_and (x : Int) {k : Nat} (hk : k < 8) : bAnd .i64 (x.fdiv (2 ^ min k IntKind.i64.bits)) 1 = if tb x k then 1 else 0 := by
  have e : min k IntKind.i64.bits = k := by have : IntKind.i64.bits = 64 := rfl; omega
  have h1 : tb (x.fdiv (2 ^ k)) 0 = tb x k := by
    rw [tb_num _ (by omega), tb_num _ (by omega)]
    simp
  rw [e, bAnd_one, h1]
end Go.Eng
namespace Go.Eng
set_option linter.unusedVariables false
set_option linter.unusedSimpArgs false
set_option linter.unnecessarySimpa false
open Go
set_option linter.unusedVariables false
set_option linter.unusedSimpArgs false
set_option maxRecDepth 10000
set_option maxHeartbeats 4000000
def Sh.setT (s : Sh) (k : Nat) (x : Int) : Sh := { s with time := s.time.set k x }
section
variable {s : Sh} (h : s.Ok) {k : Nat} (hk : k < 8) (x : Int)
include h
theorem Sh.okT : (s.setT k x).Ok := ⟨h.colour, by simp [Sh.setT, h.time], h.foot, h.ftime⟩
include hk
end
structure Rng where
  group : Int
  a0 : Int
  a1 : Int
  cross : Bool
  deriving Inhabited, DecidableEq
def Rng.cells (r : Rng) : List AV := [I r.group, I r.a0, I r.a1, B r.cross]
structure Pr where
  stage : Int
  which : Int
  time : Int
  held : List Int
  spent : Int
  deriving Inhabited, DecidableEq
def Pr.cells (p : Pr) : List AV := I p.stage :: I p.which :: I p.time :: (p.held.map I ++ [I p.spent])
structure Ch where
  on : Bool
  bad : Int
  won : Int
  woff : Int
  held : Int
  tail : Int
  out : Bool
  deriving Inhabited, DecidableEq
def Ch.cells (c : Ch) : List AV := [B c.on, I c.bad, I c.won, I c.woff, I c.held, I c.tail, B c.out]
structure Stt where
  runs : List Rn
  rings : Rng
  ride : Rd
  pre : Pr
  calls : Cs
  chans : Option (List Ch)
  deriving Inhabited, DecidableEq
def Stt.cells (s : Stt) : List AV := runsC s.runs ++ (s.rings.cells ++ (s.ride.cells ++ (s.pre.cells ++ (s.calls.cells ++ [slAV Ch.cells s.chans]))))
structure Stt.Ok (s : Stt) : Prop where
  runs : s.runs.length = 8
  lock : s.ride.lock.length = 4
  held : s.pre.held.length = 4
section
variable {s : Stt} (h : s.Ok)
include h
theorem Stt.len : s.cells.length = 117 := by
  simp [Stt.cells, runsC_len h.runs, Rng.cells, Rd.cells, Pr.cells, Cs.cells, h.lock, h.held]
theorem Stt.whole : partA s.cells 0 (some 117) = some (.agg s.cells) := by
  have := Stt.len h
  simp [partA, this]
  rw [← this, List.take_length]
end
theorem place_range {v n : Int} (hn : 0 < n) (h2 : n < 1000) : 0 ≤ place v n ∧ place v n < n := by
  have h := Int.tmod_lt_of_pos v hn
  have h3 : -n < v.tmod n := by have := Int.lt_tmod_of_pos v hn; omega
  simp only [place]
  split
  · rw [w64, wrap_id (by omega) (by omega)]; omega
  · omega
end Go.Eng
namespace Go.Eng
set_option linter.unusedVariables false
set_option linter.unusedSimpArgs false
set_option linter.unnecessarySimpa false
open Go
set_option linter.unusedVariables false
set_option linter.unusedSimpArgs false
set_option maxRecDepth 10000
set_option maxHeartbeats 4000000
open Go.RowKit
def cntF (p : Nat → Bool) (k : Nat) : Nat := ((List.range k).filter p).length
theorem cntF_succ (p : Nat → Bool) (k : Nat) : cntF p (k + 1) = if p k then cntF p k + 1 else cntF p k := by
  simp only [cntF, List.range_succ, List.filter_append, List.filter_cons, List.filter_nil]
  split <;> simp
theorem cntF_at (p : Nat → Bool) {k : Nat} (hp : p k = true) : ∀ n, k < n → ((List.range n).filter p)[cntF p k]? = some k
  | n + 1, h => by
    simp only [List.range_succ, List.filter_append]
    by_cases hk : k < n
    · have ih := cntF_at p hp n hk
      rw [List.getElem?_append_left (List.getElem?_eq_some_iff.1 ih).1, ih]
    · obtain rfl : k = n := by omega
      rw [List.getElem?_append_right (by simp [cntF])]
      simp [cntF, hp]
theorem bits_one (s : Int) {k : Nat} (hk : k < 8) : (bits .and .i64 (s / 2 ^ k) 1 = 1) ↔ tb s k = true := by
  have h := shr_and s hk
  have e : min k IntKind.i64.bits = k := by have : IntKind.i64.bits = 64 := rfl; omega
  rw [e, Int.fdiv_eq_ediv_of_nonneg _ (by exact Int.pow_nonneg (by decide))] at h
  have h' : bits .and .i64 (s / 2 ^ k) 1 = if tb s k then 1 else 0 := h
  rw [h']
  cases tb s k <;> simp
def EachSome (P : Program) (fn : Nat) : Prop := ∀ (l B1 o1 B2 o2 b off len cap : Nat) (s : Int) (f : Nat → Nat → Int) (J : Nat → World → Prop) (Jx : World → Prop) (W : World) (cnt : Nat → Nat), cnt 0 = 0 →
    (∀ k, k < 4 → bits .and .i64 (s / 2 ^ k) 1 = 1 → cnt (k + 1) = cnt k + 1) → (∀ k, k < 4 → ¬ bits .and .i64 (s / 2 ^ k) 1 = 1 → cnt (k + 1) = cnt k) → len ≤ cap →
    W.cell? ⟨B1, o1 + 115, none⟩ = some (.slice (some ⟨b, off, none⟩) len cap) →
    (∀ i wr, J i wr → (∀ k, k < min len 4 → wr.cell? ⟨b, off + k * 2, none⟩ = some (.int .i64 (f k 0)) ∧ wr.cell? ⟨b, off + k * 2 + 1, none⟩ = some (.int .i64 (f k 1))) ∧ wr.cell? ⟨B2, o2, none⟩ = some (.int .i64 s)) →
    (∀ i wr o, J i wr → J i (wr.alloc o)) → (∀ wr o, Jx wr → Jx (wr.alloc o)) →
    (∀ n k wr, k < min len 4 → bits .and .i64 (s / 2 ^ k) 1 = 1 → J (cnt k) wr → YieldAt Fence.wide n P l #[.int .i64 k, .agg #[.int .i64 (f k 0), .int .i64 (f k 1)]] wr fun e W' => (e = .returned (.bool true) ∧ J (cnt k + 1) W') ∨ (e = .returned (.bool false) ∧ Jx W')) →
    J 0 W →
    Calls P fn #[.func (.yield l) #[] #[], .pointer (some ⟨B1, o1, none⟩), .pointer (some ⟨B2, o2, none⟩)] W fun e W' => (∃ v, e = .returned v) ∧ (J (cnt (min len 4)) W' ∨ Jx W')
def EachNone (P : Program) (fn : Nat) : Prop := ∀ (x : Option Addr) (l B1 o1 B2 o2 : Nat) (J : World → Prop) (W : World), W.cell? ⟨B1, o1 + 115, none⟩ = some (.slice x 0 0) → (∀ wr o, J wr → J (wr.alloc o)) → J W →
    Calls P fn #[.func (.yield l) #[] #[], .pointer (some ⟨B1, o1, none⟩), .pointer (some ⟨B2, o2, none⟩)] W fun e W' => (∃ v, e = .returned v) ∧ J W'
theorem below_alloc (w : World) (o : Obj) : Below w.heap.size w (w.alloc o) := (Below.refl _ w).alloc (Nat.le_refl _) o
theorem dv_int {w : World} {π : Nat → Nat → Prop} {k : IntKind} {n : Int} {v : Value} (h : DV w π (.int k n) v) : v = .int k n := by cases h; rfl
theorem each1.of {P : Program} {fn : Nat} (hca : callable P fn = true) (hS : EachSome P fn) (hN : EachNone P fn) : each1.Spec (Pure P) fn := by
  intro t s ht
  refine ⟨fn, _, rfl, hca, ?_, ?_⟩
  · intro x hx a ha
    obtain ⟨k, _, rfl⟩ := List.mem_map.1 hx
    simp only [busRow, List.mem_cons, List.not_mem_nil, or_false] at ha
    rcases ha with rfl | rfl <;> simp [flatV, flat1, Bs.cells, I]
  intro l J Jx W π vs hπ dv hJk hJb hJxb hY h0
  obtain ⟨hlen, hdv⟩ := dv
  match vs, hlen with
  | [v0, v1], _ =>
  have d0 := hdv 0 _ _ rfl rfl
  have d1 := hdv 1 _ _ rfl rfl
  cases d0 with
  | ref _ B1 o1 g1 a1 a2 a3 a4 =>
  cases d1 with
  | ref _ B2 o2 g2 b1 b2 b3 b4 =>
  have hsl := a3 115 _ (Tb.buses_at ht)
  have hdb := a4 115 _ (Tb.buses_at ht)
  have hs0 := b3 0 (I s) rfl
  rw [dv_int (b4 0 (I s) rfl), Nat.add_zero] at hs0
  have hp2 : π B2 o2 := by have := b2 0 (I s) rfl; rwa [Nat.add_zero] at this
  have hst : ∀ i wr o, J i wr → J i (World.alloc wr o) := fun i wr o h => hJb i _ _ h (below_alloc _ _)
  have hstx : ∀ wr o, Jx wr → Jx (World.alloc wr o) := fun wr o h => hJxb _ _ h (below_alloc _ _)
  generalize hgv : g1 115 = gv at hsl hdb
  cases hbb : t.buses with
  | none =>
    rw [hbb] at hdb
    cases hdb
    have he : eachK t s = [] := by simp [eachK, nBus, hbb]
    refine (hN none l B1 o1 B2 o2 (J 0) W hsl (fun wr o => hst 0 wr o) h0).mono ?_
    rintro e W' ⟨h1, h2⟩
    exact ⟨h1, .inl (by rw [he]; exact h2)⟩
  | some L =>
    rw [hbb] at hdb
    generalize hxs : L.map Bs.cells = xs at hdb
    have hdb' : DV W π (.sl xs) gv := by rw [← hxs]; exact hdb
    cases hdb' with
    | sl0 a =>
      have hL : L = [] := by simpa using hxs
      have he : eachK t s = [] := by simp [eachK, nBus, hbb, hL]
      refine (hN (some a) l B1 o1 B2 o2 (J 0) W hsl (fun wr o => hst 0 wr o) h0).mono ?_
      rintro e W' ⟨h1, h2⟩
      exact ⟨h1, .inl (by rw [he]; exact h2)⟩
    | sl _ B off cap z f c1 c2 c3 c4 c5 c6 =>
    have hxl : xs.length = L.length := by rw [← hxs]; simp
    have hrow : ∀ k, k < L.length → xs[k]? = some (busAt t k).cells := fun k hk => by
      rw [← hxs]; simp [busAt, hbb, hk]
    have hz : ∀ k, k < L.length → z = 2 := fun k hk => (c2 k _ (hrow k hk)).symm
    have hcell : ∀ k, k < L.length → (W.cell? ⟨B, off + k * 2, none⟩ = some (.int .i64 (busAt t k).set) ∧ W.cell? ⟨B, off + k * 2 + 1, none⟩ = some (.int .i64 (busAt t k).lock)) ∧ π B (off + k * 2) ∧ π B (off + k * 2 + 1) := fun k hk => by
      have hz' := hz k hk
      subst hz'
      have e0 := c5 k 0 _ _ (hrow k hk) rfl
      have e1 := c5 k 1 _ _ (hrow k hk) rfl
      rw [dv_int (c6 k 0 _ _ (hrow k hk) rfl)] at e0
      rw [dv_int (c6 k 1 _ _ (hrow k hk) rfl)] at e1
      exact ⟨⟨e0, e1⟩, c4 k 0 _ _ (hrow k hk) rfl, c4 k 1 _ _ (hrow k hk) rfl⟩
    have hnb : nBus t = min xs.length 4 := by simp [nBus, hbb, hxl]
    have hek : ((eachK t s).map (busRow t)).length = cntF (fun k => tb s k) (min xs.length 4) := by simp [eachK, cntF, hnb]
    rw [hek]
    refine hS l B1 o1 B2 o2 B off xs.length cap s (fun k c => if c = 0 then (busAt t k).set else (busAt t k).lock) J Jx W (cntF fun k => tb s k) rfl ?_ ?_ c1 hsl ?_ hst hstx ?_ h0
    · intro k hk hb; rw [cntF_succ, if_pos ((bits_one s (by omega)).1 hb)]
    · intro k hk hb; rw [cntF_succ, if_neg (fun h => hb ((bits_one s (by omega)).2 h))]
    · intro i wr hJ
      refine ⟨fun k hk => ?_, ?_⟩
      · obtain ⟨⟨e0, e1⟩, p0, p1⟩ := hcell k (by omega)
        simp only [if_true, if_neg (show ¬ (1 : Nat) = 0 by decide)]
        exact ⟨(hJk i wr hJ _ _ p0).trans e0, (hJk i wr hJ _ _ p1).trans e1⟩
      · exact (hJk i wr hJ _ _ hp2).trans hs0
    · intro n k wr hk hb hJ
      have hb' := (bits_one s (by omega)).1 hb
      have hat := cntF_at (fun k => tb s k) hb' (nBus t) (by omega)
      have hx : ((eachK t s).map (busRow t))[cntF (fun k => tb s k) k]? = some (busRow t k) := by rw [List.getElem?_map, eachK, hat]; rfl
      exact hY n _ _ wr hx hJ
end Go.Eng
namespace Go.Eng
set_option linter.unusedVariables false
set_option linter.unusedSimpArgs false
set_option linter.unnecessarySimpa false
open Go
set_option linter.unusedVariables false
set_option linter.unusedSimpArgs false
set_option maxRecDepth 10000
set_option maxHeartbeats 4000000
open Go.RowKit
def HasCall (P : Program) (fH : Nat) : Prop := ∀ (s p : Int) (w : World), Calls P fH #[.int .i64 s, .int .i64 p] w fun e w' => e = .returned (.bool (hasS s p)) ∧ Below w.heap.size w w'
theorem HasCall.of {P : Program} {fH : Nat} (h : setHas.Spec (Pure P) fH) : HasCall P fH := by
  intro s p w
  refine ((h s p).2 w (fun _ _ => False) [.int .i64 s, .int .i64 p] (fun _ _ h => h.elim) ⟨rfl, ?_⟩).mono fun e w' ⟨v, π', he, hb, _, _, _, hdv, _⟩ => ?_
  · intro i a v ha hv
    match i with
    | 0 => simp at ha hv; subst ha; subst hv; exact .int _ _
    | 1 => simp at ha hv; subst ha; subst hv; exact .int _ _
    | i + 2 => simp at ha
  cases hdv
  exact ⟨he, hb⟩
def SetEach (P : Program) (fn : Nat) : Prop := ∀ (l B2 o2 : Nat) (s : Int) (J : Nat → World → Prop) (Jx : World → Prop) (W : World) (cnt : Nat → Nat), cnt 0 = 0 →
    (∀ k : Nat, k < 8 → hasS s k = true → cnt (k + 1) = cnt k + 1) → (∀ k : Nat, k < 8 → hasS s k = false → cnt (k + 1) = cnt k) →
    (∀ i wr, J i wr → wr.cell? ⟨B2, o2, none⟩ = some (.int .i64 s)) →
    (∀ i wr wr', J i wr → Below wr.heap.size wr wr' → J i wr') → (∀ wr wr', Jx wr → Below wr.heap.size wr wr' → Jx wr') →
    (∀ (n k : Nat) wr, k < 8 → hasS s k = true → J (cnt k) wr → YieldAt Fence.wide n P l #[.int .i64 k] wr fun e W' => (e = .returned (.bool true) ∧ J (cnt k + 1) W') ∨ (e = .returned (.bool false) ∧ Jx W')) →
    J 0 W →
    Calls P fn #[.func (.yield l) #[] #[], .pointer (some ⟨B2, o2, none⟩)] W fun e W' => (∃ v, e = .returned v) ∧ (J (cnt 8) W' ∨ Jx W')
theorem setEach1.of {P : Program} {fn : Nat} (hca : callable P fn = true) (hS : SetEach P fn) : setEach1.Spec (Pure P) fn := by
  intro s
  refine ⟨fn, _, rfl, hca, ?_, ?_⟩
  · intro x hx a ha
    obtain ⟨k, _, rfl⟩ := List.mem_map.1 hx
    simp only [List.mem_cons, List.not_mem_nil, or_false] at ha
    subst ha; simp [flatV, flat1, I]
  intro l J Jx W π vs hπ dv hJk hJb hJxb hY h0
  obtain ⟨hlen, hdv⟩ := dv
  match vs, hlen with
  | [v1], _ =>
  have d1 := hdv 0 _ _ rfl rfl
  cases d1 with
  | ref _ B2 o2 g2 b1 b2 b3 b4 =>
  have hs0 := b3 0 (I s) rfl
  rw [dv_int (b4 0 (I s) rfl), Nat.add_zero] at hs0
  have hp2 : π B2 o2 := by have := b2 0 (I s) rfl; rwa [Nat.add_zero] at this
  have hek : (((List.range 8).filter fun p => tb s p).map fun (p : Nat) => [I p]).length = cntF (fun k => tb s k) 8 := by simp [cntF]
  rw [hek]
  refine hS l B2 o2 s J Jx W (cntF fun k => tb s k) rfl ?_ ?_ ?_ (fun i wr wr' h hb => hJb i _ _ h hb) (fun wr wr' h hb => hJxb _ _ h hb) ?_ h0
  · intro k hk hb; rw [hasS_tb (by omega)] at hb; rw [cntF_succ, if_pos hb]
  · intro k hk hb; rw [hasS_tb (by omega)] at hb; rw [cntF_succ, if_neg (by rw [hb]; simp)]
  · intro i wr hJ
    exact (hJk i wr hJ _ _ hp2).trans hs0
  · intro n k wr hk hb hJ
    rw [hasS_tb (by omega)] at hb
    have hat := cntF_at (fun k => tb s k) hb 8 (by omega)
    have hx : (((List.range 8).filter fun p => tb s p).map fun (p : Nat) => [I p])[cntF (fun k => tb s k) k]? = some [I k] := by rw [List.getElem?_map, hat]; rfl
    exact hY n _ _ wr hx hJ
end Go.Eng
namespace Go.Eng
set_option linter.unusedVariables false
set_option linter.unusedSimpArgs false
set_option linter.unnecessarySimpa false
open Go
section
open Z
set_option linter.unusedVariables false
def cc_check_Check (g0 g1 g2 g3 g4 g5 g6 g7 g8 g9 g10 g11 : Nat) : CFn := ⟨36,[.cell 2 (some 2)],r [o 1 (w 0),o 2 (.alloc [i 0,i 0])] (j (r [o 9 (L 1 131),o 10 (.call g0 [t 9]),o 11 (.un .not (t 10))] (c 11 (r [o 12 (.call g1 [k (i 4),k (i 0)]),n (s 2 12 2)] y) z)) (r [o 13 (L 1 131),o 14 (.call g2 [t 13]),o 3 (.alloc [i 0]),n (s 3 14 1)] (r [o 15 (.mkf (.func g3) [] [t 3]),o 4 (.alloc [.nilfn]),n (s 4 15 1)] (r [o 16 (.mkf (.func g4) [] [t 4,t 1]),o 17 (.mkf (.func g5) [] [t 1,t 3]),o 18 (.mkf (.func g6) [] [t 4,t 1,t 3]),o 19 (.mkf (.func g7) [] [t 1,t 3]),o 20 (.mkf (.func g8) [] [t 1,t 3]),o 21 (.mkf (.func g9) [] [t 1,t 3]),o 22 (.mkf (.func g10) [] [t 4,t 1,t 3]),o 23 (.build [.nilfn,.nilfn,.nilfn,.nilfn,.nilfn,.nilfn,.nilfn] [(0,1,t 16),(1,1,t 17),(2,1,t 18),(3,1,t 19),(4,1,t 20),(5,1,t 21),(6,1,t 22)]),o 5 (.alloc [.nilfn,.nilfn,.nilfn,.nilfn,.nilfn,.nilfn,.nilfn]),n (s 5 23 7)] (j (r [o 24 (L 5 7),V 25 (i 0)] (u 0 (.loop (r [o 26 (bb .lss 25 (i 7))] (j (c 26 z (.exit 0)) (j (u 1 (r [o 27 (.ixA (t 24) (t 25) 7 1 none),M 7 27] (r [M 28 7,o 29 (.callv (t 28) []),o 8 (.alloc [i 0,i 0]),n (s 8 29 2)] (r [o 30 (L 8 2),o 31 (.call g11 []),o 32 (.eqc [.i,.i] true (t 30) (t 31))] (c 32 (r [o 33 (L 8 2),n (s 2 33 2)] y) z))))) (R [o 34 (bb .add 25 (i 1)),M 25 34]))))))) (r [o 35 (.call g11 []),n (s 2 35 2)] y))))))⟩
def cc_ref08_Check (g0 g1 g2 g3 g4 g5 g6 g7 g8 g9 : Nat) : CFn := ⟨148,[.cell 2 (some 2)],r [o 1 (w 0),o 2 (.alloc [i 0,i 0])] (j (r [o 16 (L 1 131),o 17 (.call g0 [t 16]),o 18 (.un .not (t 17))] (c 18 (r [o 19 (.build [i 0,i 0] [(0,1,k (i 4))]),n (s 2 19 2)] y) z)) (r [o 20 (L 1 131),o 21 (.call g1 [t 20]),M 3 21] (j (r [M 22 3,o 23 (.call g2 [t 22]),o 24 (h 23),V 25 (i 0)] (u 0 (.loop (r [o 26 (b .lss 25 24)] (j (c 26 z (.exit 0)) (j (u 1 (r [o 27 (a 23 25 1),o 28 (l 27),M 5 28] (r [M 29 5,o 30 (f 1 0),o 31 (A 30 29 8 13),o 32 (L 31 13),o 33 (.call g3 [t 32]),o 34 (.un .not (t 33))] (c 34 (r [M 35 5,o 36 (.build [i 0,i 0] [(0,1,k (i 7)),(1,1,t 35)]),n (s 2 36 2)] y) z)))) (R [o 37 (bb .add 25 (i 1)),M 25 37]))))))) (j (r [o 38 (L 1 131),o 39 (.call g4 [t 38]),o 6 (.alloc [i 0,i 0]),n (s 6 39 2)] (r [o 40 (f 6 0),o 41 (l 40),o 42 (bb .neq 41 (i 0))] (c 42 (r [o 43 (L 6 2),n (s 2 43 2)] y) z))) (j (r [M 44 3,o 45 (.call g2 [t 44]),o 46 (h 45),V 47 (i 0)] (u 2 (.loop (r [o 48 (b .lss 47 46)] (j (c 48 z (.exit 2)) (j (u 3 (r [o 49 (a 45 47 1),o 50 (l 49),M 8 50] (r [o 51 (L 1 131),M 52 8,M 53 3,o 54 (.call g5 [t 51,t 52,t 53]),o 55 (.un .not (t 54))] (c 55 (r [M 56 8,o 57 (.build [i 0,i 0] [(0,1,k (i 9)),(1,1,t 56)]),n (s 2 57 2)] y) z)))) (R [o 58 (bb .add 47 (i 1)),M 47 58]))))))) (j (r [V 9 (i 0)] (u 4 (.loop (j (r [M 59 9,o 60 (f 1 113),o 61 (l 60),o 62 (h 61),o 63 (b .lss 59 62)] (c 63 z (.exit 4))) (j (u 5 (r [o 66 (f 1 113),o 67 (l 66),M 68 9,o 69 (a 67 68 7),o 70 (L 69 7),o 10 (.alloc [i 0,.float .f64 0,.float .f64 0,.float .f64 0,.float .f64 0,i 0,i 0]),n (s 10 70 7)] (r [o 71 (f 10 2),o 72 (l 71),o 73 (f 10 1),o 74 (l 73),o 75 (b .gtr 72 74),M 76 75,q 77 (m 3) 76,q 78 (f 10 0) 76,q 79 (l 78) 76,q 80 (.call g6 [t 77,t 79]) 76,q 81 (.un .not (t 80)) 76,o 82 (Q 76 81)] (c 82 (r [M 83 9,o 84 (.build [i 0,i 0] [(0,1,k (i 10)),(1,1,t 83)]),n (s 2 84 2)] y) z)))) (R [M 64 9,o 65 (bb .add 64 (i 1)),M 9 65])))))) (j (r [V 11 (i 0)] (u 6 (.loop (j (r [M 85 11,o 86 (f 1 114),o 87 (l 86),o 88 (h 87),o 89 (b .lss 85 88)] (c 89 z (.exit 6))) (j (u 7 (r [o 92 (L 1 131),o 93 (f 1 114),o 94 (l 93),M 95 11,o 96 (a 94 95 11),o 97 (L 96 11),M 98 3,o 99 (.call g7 [t 92,t 97,t 98]),o 100 (.un .not (t 99))] (c 100 (r [M 101 11,o 102 (.build [i 0,i 0] [(0,1,k (i 11)),(1,1,t 101)]),n (s 2 102 2)] y) z))) (R [M 90 11,o 91 (bb .add 90 (i 1)),M 11 91])))))) (j (r [V 12 (i 0)] (u 8 (.loop (j (r [M 103 12,o 104 (f 1 115),o 105 (l 104),o 106 (h 105),o 107 (b .lss 103 106)] (c 107 z (.exit 8))) (j (u 9 (r [o 110 (f 1 115),o 111 (l 110),M 112 12,o 113 (a 111 112 2),o 114 (L 113 2),o 13 (.alloc [i 0,i 0]),n (s 13 114 2)] (r [o 115 (f 13 0),o 116 (l 115),o 117 (bb .eql 116 (i 0)),M 118 117,q 119 (f 13 0) 118,q 120 (l 119) 118,q 121 (m 3) 118,q 122 (.call g8 [t 120,t 121]) 118,q 123 (.un .not (t 122)) 118,o 124 (Q 118 123),M 125 124,q 126 (f 13 1) 125,q 127 (l 126) 125,q 128 (bb .lss 127 (i 1)) 125,o 129 (Q 125 128)] (c 129 (r [M 130 12,o 131 (.build [i 0,i 0] [(0,1,k (i 12)),(1,1,t 130)]),n (s 2 131 2)] y) z)))) (R [M 108 12,o 109 (bb .add 108 (i 1)),M 12 109])))))) (j (r [M 132 3,o 133 (.call g2 [t 132]),o 134 (h 133),V 135 (i 0)] (u 10 (.loop (r [o 136 (b .lss 135 134)] (j (c 136 z (.exit 10)) (j (u 11 (r [o 137 (a 133 135 1),o 138 (l 137),M 15 138] (r [o 139 (L 1 131),M 140 15,M 141 3,o 142 (.call g9 [t 139,t 140,t 141]),o 143 (.un .not (t 142))] (c 143 (r [M 144 15,o 145 (.build [i 0,i 0] [(0,1,k (i 13)),(1,1,t 144)]),n (s 2 145 2)] y) z)))) (R [o 146 (bb .add 135 (i 1)),M 135 146]))))))) (r [o 147 (.build [i 0,i 0] []),n (s 2 147 2)] y))))))))))⟩
def cc_table_May (g0 g1 g2 g3 g4 g5 g6 g7 g8 g9 g10 g11 g12 : Nat) : CFn := ⟨58,[.tmp 2],r [o 1 (w 0),V 2 (F)] (r [o 3 (f 1 0),o 4 (.slA (t 3) 8 13),o 5 (.call g0 [t 4,k (i 8),k (.fn (.func g1) [] [])]),M 6 5,p 7 (f 1 104) 6,p 8 (l 7) 6,p 9 (.call g2 [t 8,k (i 4),k (.fn (.func g3) [] [])]) 6,o 10 (P 6 9),M 11 10,p 12 (f 1 105) 11,p 13 (.slA (t 12) 8 1) 11,p 14 (.call g4 [k (i 255),t 13]) 11,o 15 (P 11 14),M 16 15,p 17 (f 1 113) 16,p 18 (l 17) 16,p 19 (.call g5 [t 18,k (i 16),k (.fn (.func g6) [] [])]) 16,o 20 (P 16 19),M 21 20,p 22 (f 1 114) 21,p 23 (l 22) 21,p 24 (.call g7 [t 23,k (i 4),k (.fn (.func g8) [] [])]) 21,o 25 (P 21 24),M 26 25,p 27 (f 1 115) 26,p 28 (l 27) 26,p 29 (.call g9 [t 28,k (i 4),k (.fn (.func g10) [] [])]) 26,o 30 (P 26 29),M 31 30,p 32 (f 1 116) 31,p 33 (l 32) 31,p 34 (f 1 117) 31,p 35 (l 34) 31,p 36 (f 1 118) 31,p 37 (l 36) 31,p 38 (f 1 119) 31,p 39 (l 38) 31,p 40 (f 1 120) 31,p 41 (l 40) 31,p 42 (.bsl g11 1 [t 33,t 35,t 37,t 39,t 41]) 31,p 43 (.call g12 [t 42]) 31,o 44 (P 31 43),M 45 44,p 46 (f 1 121) 45,p 47 (.slA (t 46) 8 1) 45,p 48 (.call g4 [k (i 2),t 47]) 45,o 49 (P 45 48),M 50 49,p 51 (f 1 129) 50,p 52 (l 51) 50,p 53 (f 1 130) 50,p 54 (l 53) 50,p 55 (.bsl g11 1 [t 52,t 54]) 50,p 56 (.call g4 [k (i 2147483647),t 55]) 50,o 57 (P 50 56),M 2 57] y)⟩
def cc_check_bad : CFn := ⟨8,[.cell 4 (some 2)],r [o 4 (.alloc [i 0,i 0])] (r [M 5 0,M 6 1,o 7 (.build [i 0,i 0] [(0,1,t 5),(1,1,t 6)]),n (s 4 7 2)] y)⟩
def cc_plan_On (g0 : Nat) : CFn := ⟨19,[.tmp 2],r [o 1 (w 0),V 2 (i 0)] (r [V 3 (i 0)] (j (r [o 6 (f 1 0),o 7 (L 6 104),V 8 (i 0)] (u 0 (.loop (r [o 9 (bb .lss 8 (i 8))] (j (c 9 z (.exit 0)) (j (u 1 (r [M 10 8,o 11 (.ixA (t 7) (t 8) 8 13 (some 13)),o 5 (.alloc z13_14216),M 4 10,n (s 5 11 13)] (r [o 12 (f 5 0),o 13 (l 12)] (c 13 (R [M 14 3,M 15 4,o 16 (.call g0 [t 14,t 15]),M 3 16]) z)))) (R [o 17 (bb .add 8 (i 1)),M 8 17]))))))) (r [M 18 3,M 2 18] y)))⟩
def cc_check_Check_1 (g0 g1 : Nat) : CFn := ⟨9,[.cell 5 (some 2)],r [o 4 (w 1),o 5 (.alloc [i 0,i 0])] (r [M 6 0,o 7 (.mkf (.func g0) [] [t 2,t 4]),o 8 (.call g1 [t 6,k (i 8),t 7]),n (s 5 8 2)] y)⟩
def cc_check_first (g0 g1 : Nat) : CFn := ⟨20,[.cell 6 (some 2)],r [o 6 (.alloc [i 0,i 0])] (j (r [M 8 1,V 9 (i 0)] (u 0 (.loop (r [o 10 (b .lss 9 8)] (j (c 10 z (.exit 0)) (j (u 1 (r [M 11 9,M 7 11] (r [M 12 2,M 13 7,o 14 (.callv (t 12) [t 13])] (c 14 (r [M 15 0,M 16 7,o 17 (.call g0 [t 15,t 16]),n (s 6 17 2)] y) z)))) (R [o 18 (bb .add 9 (i 1)),M 9 18]))))))) (r [o 19 (.call g1 []),n (s 6 19 2)] y))⟩
def cc_check_Check_1_1 (g0 : Nat) : CFn := ⟨13,[.tmp 4],r [V 4 (F)] (r [o 5 (l 1),M 6 0,o 7 (.call g0 [t 5,t 6]),M 8 7,p 9 (l 2) 8,p 10 (m 0) 8,p 11 (.callv (t 9) [t 10]) 8,o 12 (P 8 11),M 4 12] y)⟩
def cc_check_Check_2 (g0 : Nat) : CFn := ⟨6,[.cell 2 (some 2)],r [o 2 (.alloc [i 0,i 0])] (r [o 3 (l 0),o 4 (.mkf (.func g0) [] [t 1]),o 5 (.callv (t 3) [k (i 7),t 4]),n (s 2 5 2)] y)⟩
def cc_check_Check_2_1 (g0 : Nat) : CFn := ⟨9,[.tmp 3],r [V 3 (F)] (r [M 4 0,o 5 (f 1 0),o 6 (A 5 4 8 13),o 7 (L 6 13),o 8 (.call g0 [t 7]),M 3 8] y)⟩
def cc_check_phase : CFn := ⟨56,[.tmp 2],r [o 1 (w 0),V 2 (F)] (r [o 3 (f 1 1),o 4 (l 3),o 5 (bb .lss 4 (i 1)),M 6 5,q 7 (f 1 6) 6,q 8 (l 7) 6,q 9 (bb .lss 8 (i 10)) 6,o 10 (Q 6 9),M 11 10,q 12 (f 1 3) 11,q 13 (l 12) 11,q 14 (f 1 1) 11,q 15 (l 14) 11,q 16 (b .lss 13 15) 11,o 17 (Q 11 16),M 18 17,q 19 (f 1 4) 18,q 20 (l 19) 18,q 21 (f 1 3) 18,q 22 (l 21) 18,q 23 (b .lss 20 22) 18,o 24 (Q 18 23),M 25 24,q 26 (f 1 5) 25,q 27 (l 26) 25,q 28 (bb .lss 27 (i 1)) 25,q 29 (m 28) 25,p 30 (f 1 4) 29,p 31 (l 30) 29,p 32 (f 1 3) 29,p 33 (l 32) 29,p 34 (b .gtr 31 33) 29,q 35 (P 29 34) 25,o 36 (Q 25 35),M 37 36,q 38 (f 1 8) 37,q 39 (l 38) 37,q 40 (bb .eql 39 (i 0)) 37,q 41 (f 1 9) 37,q 42 (l 41) 37,q 43 (bb .eql 42 (i 0)) 37,q 44 (.bb true (t 40) (t 43)) 37,o 45 (Q 37 44),M 46 45,q 47 (f 1 10) 46,q 48 (l 47) 46,q 49 (bb .eql 48 (i 3)) 46,q 50 (m 49) 46,p 51 (f 1 8) 50,p 52 (l 51) 50,p 53 (bb .eql 52 (i 0)) 50,q 54 (P 50 53) 46,o 55 (Q 46 54),M 2 55] y)⟩
def cc_check_Check_3 (g0 : Nat) : CFn := ⟨6,[.cell 2 (some 2)],r [o 2 (.alloc [i 0,i 0])] (r [o 3 (L 0 131),o 4 (l 1),o 5 (.call g0 [t 3,t 4]),n (s 2 5 2)] y)⟩
def cc_check_rings (g0 g1 g2 g3 : Nat) : CFn := ⟨67,[.cell 4 (some 2)],r [o 2 (w 0),o 4 (.alloc [i 0,i 0])] (j (r [o 12 (f 2 104),o 13 (l 12),o 14 (h 13),o 15 (bb .eql 14 (i 0))] (c 15 (r [o 16 (.call g0 [k (i 8),k (i 0)]),n (s 4 16 2)] y) z)) (r [V 5 (i 0)] (j (r [o 17 (f 2 104),o 18 (l 17),o 19 (h 18),V 20 (i 0)] (u 0 (.loop (r [o 21 (b .lss 20 19)] (j (c 21 z (.exit 0)) (j (u 1 (r [M 22 20,o 23 (a 18 20 2),o 24 (L 23 2),o 7 (.alloc [.nils,.nils]),M 6 22,n (s 7 24 2)] (j (r [o 25 (.iaA (t 7) (k (i 0)) 2 1),o 26 (l 25),o 27 (h 26),o 28 (.iaA (t 7) (k (i 1)) 2 1),o 29 (l 28),o 30 (h 29),o 31 (b .add 27 30),o 32 (bb .eql 31 (i 0))] (c 32 (r [M 33 6,o 34 (.call g0 [k (i 8),t 33]),n (s 4 34 2)] y) z)) (r [o 35 (L 7 2),V 36 (i 0)] (u 2 (.loop (r [o 37 (bb .lss 36 (i 2))] (j (c 37 z (.exit 2)) (j (u 3 (r [o 38 (.ixA (t 35) (t 36) 2 1 none),M 9 38] (r [M 39 9,o 40 (h 39),V 41 (i 0)] (u 4 (.loop (r [o 42 (b .lss 41 40)] (j (c 42 z (.exit 4)) (j (u 5 (r [o 43 (a 39 41 1),o 44 (l 43),M 11 44] (j (r [M 45 1,M 46 11,o 47 (.call g1 [t 45,t 46]),o 48 (.un .not (t 47)),M 49 48,q 50 (m 5) 49,q 51 (m 11) 49,q 52 (.call g1 [t 50,t 51]) 49,o 53 (Q 49 52)] (c 53 (r [M 54 6,o 55 (.call g0 [k (i 8),t 54]),n (s 4 55 2)] y) z)) (R [M 56 5,M 57 11,o 58 (.call g2 [t 56,t 57]),M 5 58])))) (R [o 59 (bb .add 41 (i 1)),M 41 59]))))))))) (R [o 60 (bb .add 36 (i 1)),M 36 60])))))))))) (R [o 61 (bb .add 20 (i 1)),M 20 61]))))))) (j (r [M 62 5,M 63 1,o 64 (b .neq 62 63)] (c 64 (r [o 65 (.call g0 [k (i 8),k (i 0)]),n (s 4 65 2)] y) z)) (r [o 66 (.call g3 []),n (s 4 66 2)] y)))))⟩
def cc_check_Check_4 (g0 : Nat) : CFn := ⟨7,[.cell 3 (some 2)],r [o 3 (.alloc [i 0,i 0])] (r [o 4 (l 0),o 5 (.mkf (.func g0) [] [t 1,t 2]),o 6 (.callv (t 4) [k (i 9),t 5]),n (s 3 6 2)] y)⟩
def cc_check_Check_4_1 (g0 : Nat) : CFn := ⟨9,[.tmp 4],r [V 4 (F)] (r [o 5 (L 1 131),o 6 (l 2),M 7 0,o 8 (.call g0 [t 5,t 6,t 7]),M 4 8] y)⟩
def cc_check_conflict (g0 g1 g2 : Nat) : CFn := ⟨41,[.cell 6 none],r [o 3 (w 0),o 5 (w 2),o 6 (.alloc [F])] (j (r [o 9 (l 5),o 10 (f 3 105),o 11 (A 10 9 8 1),o 12 (l 11),o 13 (l 5),o 14 (.call g0 [t 12,t 13])] (c 14 (r [n (ss 6 (T) 1)] y) z)) (j (r [M 15 1,o 16 (.call g1 [t 15])] (u 0 (.rfor (t 16) [17] [17,7,18,19,20,21,22,23,8,24,25,26,27,28,29,30,31,32,33,34,35,36,37,38,39,40] (R [M 7 17]) (u 1 (r [o 18 (l 5),o 19 (f 3 105),o 20 (A 19 18 8 1),o 21 (l 20),M 22 7,o 23 (.call g0 [t 21,t 22]),M 8 23] (r [M 24 8,M 25 7,o 26 (f 3 105),o 27 (A 26 25 8 1),o 28 (l 27),o 29 (l 5),o 30 (.call g0 [t 28,t 29]),o 31 (.bb true (t 24) (t 30)),M 32 31,q 33 (m 8) 32,q 34 (m 33) 32,p 35 (L 3 131) 34,p 36 (l 5) 34,p 37 (m 7) 34,p 38 (.call g2 [t 35,t 36,t 37]) 34,q 39 (P 34 38) 32,o 40 (Q 32 39)] (c 40 (r [n (ss 6 (T) 1)] y) z))))))) (r [n (ss 6 (F) 1)] y)))⟩
def cc_check_Check_5 (g0 g1 : Nat) : CFn := ⟨8,[.cell 2 (some 2)],r [o 2 (.alloc [i 0,i 0])] (r [o 3 (f 0 113),o 4 (l 3),o 5 (h 4),o 6 (.mkf (.func g0) [] [t 0,t 1]),o 7 (.call g1 [k (i 10),t 5,t 6]),n (s 2 7 2)] y)⟩
def cc_check_Check_5_1 (g0 : Nat) : CFn := ⟨29,[.tmp 4],r [V 4 (F)] (r [o 5 (f 1 113),o 6 (l 5),M 7 0,o 8 (a 6 7 7),o 9 (f 8 2),o 10 (l 9),o 11 (f 1 113),o 12 (l 11),M 13 0,o 14 (a 12 13 7),o 15 (f 14 1),o 16 (l 15),o 17 (b .gtr 10 16),M 18 17,q 19 (l 2) 18,q 20 (f 1 113) 18,q 21 (l 20) 18,q 22 (m 0) 18,q 23 (a 21 22 7) 18,q 24 (f 23 0) 18,q 25 (l 24) 18,q 26 (.call g0 [t 19,t 25]) 18,q 27 (.un .not (t 26)) 18,o 28 (Q 18 27),M 4 28] y)⟩
def cc_check_Check_6 (g0 g1 : Nat) : CFn := ⟨8,[.cell 2 (some 2)],r [o 2 (.alloc [i 0,i 0])] (r [o 3 (f 0 114),o 4 (l 3),o 5 (h 4),o 6 (.mkf (.func g0) [] [t 0,t 1]),o 7 (.call g1 [k (i 11),t 5,t 6]),n (s 2 7 2)] y)⟩
def cc_check_Check_6_1 (g0 : Nat) : CFn := ⟨13,[.tmp 4],r [V 4 (F)] (r [o 5 (L 1 131),o 6 (l 2),o 7 (f 1 114),o 8 (l 7),M 9 0,o 10 (a 8 9 11),o 11 (L 10 11),o 12 (.call g0 [t 5,t 6,t 11]),M 4 12] y)⟩
def cc_check_rail (g0 g1 : Nat) : CFn := ⟨101,[.tmp 6],r [o 3 (w 0),o 5 (w 2),V 6 (F)] (r [o 7 (f 5 0),o 8 (l 7),o 9 (f 5 1),o 10 (l 9),o 11 (b .or 8 10),o 12 (f 5 2),o 13 (l 12),o 14 (b .or 11 13),o 15 (f 5 3),o 16 (l 15),o 17 (b .or 14 16),M 18 1,o 19 (b .andNot 17 18),o 20 (bb .neq 19 (i 0)),M 21 20,q 22 (f 5 2) 21,q 23 (l 22) 21,q 24 (bb .eql 23 (i 0)) 21,o 25 (Q 21 24),M 26 25,q 27 (f 5 3) 26,q 28 (l 27) 26,q 29 (bb .eql 28 (i 0)) 26,o 30 (Q 26 29),M 31 30,q 32 (f 5 2) 31,q 33 (l 32) 31,q 34 (f 5 0) 31,q 35 (l 34) 31,q 36 (b .and 33 35) 31,q 37 (bb .neq 36 (i 0)) 31,o 38 (Q 31 37),M 39 38,q 40 (L 3 131) 39,q 41 (f 5 1) 39,q 42 (l 41) 39,q 43 (.call g0 [t 40,t 42]) 39,o 44 (Q 39 43),M 45 44,q 46 (L 3 131) 45,q 47 (f 5 2) 45,q 48 (l 47) 45,q 49 (.call g0 [t 46,t 48]) 45,o 50 (Q 45 49),M 51 50,q 52 (L 3 131) 51,q 53 (f 5 3) 51,q 54 (l 53) 51,q 55 (.call g0 [t 52,t 54]) 51,o 56 (Q 51 55),M 57 56,q 58 (L 3 131) 57,q 59 (f 5 3) 57,q 60 (l 59) 57,q 61 (.call g1 [t 58,t 60]) 57,o 62 (Q 57 61),M 63 62,q 64 (f 5 7) 63,q 65 (l 64) 63,q 66 (bb .gtr 65 (i 0)) 63,q 67 (f 5 1) 63,q 68 (l 67) 63,q 69 (bb .neq 68 (i 0)) 63,q 70 (.bb true (t 66) (t 69)) 63,o 71 (Q 63 70),M 72 71,q 73 (f 5 5) 72,q 74 (l 73) 72,q 75 (bb .lss 74 (i 1)) 72,o 76 (Q 72 75),M 77 76,q 78 (f 5 8) 77,q 79 (l 78) 77,q 80 (bb .lss 79 (i 1)) 77,o 81 (Q 77 80),M 82 81,q 83 (f 5 9) 82,q 84 (l 83) 82,q 85 (bb .gtr 84 (i 0)) 82,q 86 (m 85) 82,p 87 (f 5 9) 86,p 88 (l 87) 86,p 89 (f 5 8) 86,p 90 (l 89) 86,p 91 (b .lss 88 90) 86,q 92 (P 86 91) 82,o 93 (Q 82 92),M 94 93,q 95 (f 5 10) 94,q 96 (l 95) 94,q 97 (f 5 4) 94,q 98 (l 97) 94,q 99 (b .leq 96 98) 94,o 100 (Q 94 99),M 6 100] y)⟩
def cc_check_Check_7 (g0 g1 : Nat) : CFn := ⟨8,[.cell 2 (some 2)],r [o 2 (.alloc [i 0,i 0])] (r [o 3 (f 0 115),o 4 (l 3),o 5 (h 4),o 6 (.mkf (.func g0) [] [t 0,t 1]),o 7 (.call g1 [k (i 12),t 5,t 6]),n (s 2 7 2)] y)⟩
def cc_check_Check_7_1 : CFn := ⟨32,[.tmp 4],r [V 4 (F)] (r [o 5 (f 1 115),o 6 (l 5),M 7 0,o 8 (a 6 7 2),o 9 (f 8 0),o 10 (l 9),o 11 (bb .eql 10 (i 0)),M 12 11,q 13 (f 1 115) 12,q 14 (l 13) 12,q 15 (m 0) 12,q 16 (a 14 15 2) 12,q 17 (f 16 0) 12,q 18 (l 17) 12,q 19 (l 2) 12,q 20 (b .andNot 18 19) 12,q 21 (bb .neq 20 (i 0)) 12,o 22 (Q 12 21),M 23 22,q 24 (f 1 115) 23,q 25 (l 24) 23,q 26 (m 0) 23,q 27 (a 25 26 2) 23,q 28 (f 27 1) 23,q 29 (l 28) 23,q 30 (bb .lss 29 (i 1)) 23,o 31 (Q 23 30),M 4 31] y)⟩
def cc_check_Check_8 (g0 : Nat) : CFn := ⟨7,[.cell 3 (some 2)],r [o 3 (.alloc [i 0,i 0])] (r [o 4 (l 0),o 5 (.mkf (.func g0) [] [t 1,t 2]),o 6 (.callv (t 4) [k (i 13),t 5]),n (s 3 6 2)] y)⟩
def cc_check_Check_8_1 (g0 : Nat) : CFn := ⟨9,[.tmp 4],r [V 4 (F)] (r [o 5 (L 1 131),o 6 (l 2),M 7 0,o 8 (.call g0 [t 5,t 6,t 7]),M 4 8] y)⟩
def cc_check_flash (g0 : Nat) : CFn := ⟨38,[.cell 6 none],r [o 3 (w 0),o 5 (w 2),o 6 (.alloc [F])] (j (r [o 8 (l 5),o 9 (f 3 121),o 10 (A 9 8 8 1),o 11 (l 10),o 12 (bb .eql 11 (i 0))] (c 12 (r [n (ss 6 (T) 1)] y) z)) (j (r [o 13 (l 5),o 14 (f 3 105),o 15 (A 14 13 8 1),o 16 (l 15),M 17 1,o 18 (b .and 16 17),o 19 (.call g0 [t 18])] (u 0 (.rfor (t 19) [20] [20,7,21,22,23,24,25,26,27,28,29,30,31,32,33,34,35,36,37] (R [M 7 20]) (u 1 (r [M 21 7,o 22 (l 5),o 23 (b .neq 21 22),M 24 23,p 25 (l 5) 24,p 26 (f 3 121) 24,p 27 (A 26 25 8 1) 24,p 28 (l 27) 24,p 29 (bb .eql 28 (i 2)) 24,o 30 (P 24 29),M 31 30,p 32 (m 7) 31,p 33 (f 3 121) 31,p 34 (A 33 32 8 1) 31,p 35 (l 34) 31,p 36 (bb .eql 35 (i 2)) 31,o 37 (P 31 36)] (c 37 (r [n (ss 6 (T) 1)] y) z)))))) (r [n (ss 6 (F) 1)] y)))⟩
def cc_check_none : CFn := ⟨2,[.cell 0 (some 2)],r [o 0 (.alloc [i 0,i 0])] (r [o 1 (.build [i 0,i 0] []),n (s 0 1 2)] y)⟩
def cc_ref05_May (g0 g1 g2 g3 g4 g5 : Nat) : CFn := ⟨166,[.tmp 2],r [o 1 (w 0),V 2 (F)] (j (r [o 10 (f 1 104),o 11 (l 10),o 12 (h 11),o 13 (bb .gtr 12 (i 4)),M 14 13,q 15 (f 1 113) 14,q 16 (l 15) 14,q 17 (h 16) 14,q 18 (bb .gtr 17 (i 16)) 14,o 19 (Q 14 18),M 20 19,q 21 (f 1 114) 20,q 22 (l 21) 20,q 23 (h 22) 20,q 24 (bb .gtr 23 (i 4)) 20,o 25 (Q 20 24),M 26 25,q 27 (f 1 115) 26,q 28 (l 27) 26,q 29 (h 28) 26,q 30 (bb .gtr 29 (i 4)) 26,o 31 (Q 26 30)] (c 31 (r [V 2 (F)] y) z)) (r [o 32 (f 1 116),o 33 (l 32),o 34 (f 1 117),o 35 (l 34),o 36 (f 1 118),o 37 (l 36),o 38 (f 1 119),o 39 (l 38),o 40 (f 1 120),o 41 (l 40),o 42 (.bsl g0 1 [t 33,t 35,t 37,t 39,t 41]),o 43 (.call g1 [t 42]),M 44 43,p 45 (f 1 129) 44,p 46 (l 45) 44,p 47 (f 1 130) 44,p 48 (l 47) 44,p 49 (.bsl g0 1 [t 46,t 48]) 44,p 50 (.call g2 [t 49,k (i 2147483647)]) 44,o 51 (P 44 50),M 52 51,p 53 (f 1 105) 52,p 54 (.slA (t 53) 8 1) 52,p 55 (.call g2 [t 54,k (i 255)]) 52,o 56 (P 52 55),M 57 56,p 58 (f 1 121) 57,p 59 (.slA (t 58) 8 1) 57,p 60 (.call g2 [t 59,k (i 2)]) 57,o 61 (P 57 60),M 3 61] (j (r [V 4 (i 0)] (u 0 (.loop (j (r [M 62 4,o 63 (bb .lss 62 (i 8))] (c 63 z (.exit 0))) (j (u 1 (R [M 66 3,M 67 66,p 68 (m 4) 67,p 69 (f 1 0) 67,p 70 (A 69 68 8 13) 67,p 71 (L 70 13) 67,p 72 (.call g3 [t 71]) 67,o 73 (P 67 72),M 3 73])) (R [M 64 4,o 65 (bb .add 64 (i 1)),M 4 65])))))) (j (r [V 5 (i 0)] (u 2 (.loop (j (r [M 74 5,o 75 (f 1 104),o 76 (l 75),o 77 (h 76),o 78 (b .lss 74 77)] (c 78 z (.exit 2))) (j (u 3 (r [V 6 (i 0)] (u 4 (.loop (j (r [M 81 6,o 82 (bb .lss 81 (i 2))] (c 82 z (.exit 4))) (j (u 5 (r [o 85 (f 1 104),o 86 (l 85),M 87 5,M 88 6,o 89 (a 86 87 2),o 90 (A 89 88 2 1),o 91 (l 90),o 92 (h 91),o 93 (bb .gtr 92 (i 8)),M 94 93,q 95 (f 1 104) 94,q 96 (l 95) 94,q 97 (m 5) 94,q 98 (m 6) 94,q 99 (a 96 97 2) 94,q 100 (A 99 98 2 1) 94,q 101 (l 100) 94,q 102 (.call g2 [t 101,k (i 7)]) 94,q 103 (.un .not (t 102)) 94,o 104 (Q 94 103)] (c 104 (r [V 2 (F)] y) z))) (R [M 83 6,o 84 (bb .add 83 (i 1)),M 6 84]))))))) (R [M 79 5,o 80 (bb .add 79 (i 1)),M 5 80])))))) (j (r [V 7 (i 0)] (u 6 (.loop (j (r [M 105 7,o 106 (f 1 113),o 107 (l 106),o 108 (h 107),o 109 (b .lss 105 108)] (c 109 z (.exit 6))) (j (u 7 (R [M 112 3,M 113 112,p 114 (f 1 113) 113,p 115 (l 114) 113,p 116 (m 7) 113,p 117 (a 115 116 7) 113,p 118 (L 117 7) 113,p 119 (.call g4 [t 118]) 113,o 120 (P 113 119),M 3 120])) (R [M 110 7,o 111 (bb .add 110 (i 1)),M 7 111])))))) (j (r [V 8 (i 0)] (u 8 (.loop (j (r [M 121 8,o 122 (f 1 114),o 123 (l 122),o 124 (h 123),o 125 (b .lss 121 124)] (c 125 z (.exit 8))) (j (u 9 (R [M 128 3,M 129 128,p 130 (f 1 114) 129,p 131 (l 130) 129,p 132 (m 8) 129,p 133 (a 131 132 11) 129,p 134 (L 133 11) 129,p 135 (.call g5 [t 134]) 129,o 136 (P 129 135),M 3 136])) (R [M 126 8,o 127 (bb .add 126 (i 1)),M 8 127])))))) (j (r [V 9 (i 0)] (u 10 (.loop (j (r [M 137 9,o 138 (f 1 115),o 139 (l 138),o 140 (h 139),o 141 (b .lss 137 140)] (c 141 z (.exit 10))) (j (u 11 (R [M 144 3,M 145 144,p 146 (f 1 115) 145,p 147 (l 146) 145,p 148 (m 9) 145,p 149 (a 147 148 2) 145,p 150 (f 149 0) 145,p 151 (l 150) 145,p 152 (.bsl g0 1 [t 151]) 145,p 153 (.call g2 [t 152,k (i 255)]) 145,o 154 (P 145 153),M 155 154,p 156 (f 1 115) 155,p 157 (l 156) 155,p 158 (m 9) 155,p 159 (a 157 158 2) 155,p 160 (f 159 1) 155,p 161 (l 160) 155,p 162 (.bsl g0 1 [t 161]) 155,p 163 (.call g1 [t 162]) 155,o 164 (P 155 163),M 3 164])) (R [M 142 9,o 143 (bb .add 142 (i 1)),M 9 143])))))) (r [M 165 3,M 2 165] y))))))))⟩
def cc_ref08_phase : CFn := ⟨56,[.tmp 2],r [o 1 (w 0),V 2 (F)] (r [o 3 (f 1 1),o 4 (l 3),o 5 (bb .geq 4 (i 1)),M 6 5,p 7 (f 1 6) 6,p 8 (l 7) 6,p 9 (bb .geq 8 (i 10)) 6,o 10 (P 6 9),M 11 10,p 12 (f 1 3) 11,p 13 (l 12) 11,p 14 (f 1 1) 11,p 15 (l 14) 11,p 16 (b .geq 13 15) 11,o 17 (P 11 16),M 18 17,p 19 (f 1 4) 18,p 20 (l 19) 18,p 21 (f 1 3) 18,p 22 (l 21) 18,p 23 (b .geq 20 22) 18,o 24 (P 18 23),M 25 24,p 26 (f 1 5) 25,p 27 (l 26) 25,p 28 (bb .geq 27 (i 1)) 25,p 29 (m 28) 25,q 30 (f 1 4) 29,q 31 (l 30) 29,q 32 (f 1 3) 29,q 33 (l 32) 29,q 34 (b .eql 31 33) 29,p 35 (Q 29 34) 25,o 36 (P 25 35),M 37 36,p 38 (f 1 8) 37,p 39 (l 38) 37,p 40 (bb .gtr 39 (i 0)) 37,p 41 (f 1 9) 37,p 42 (l 41) 37,p 43 (bb .gtr 42 (i 0)) 37,p 44 (.bb false (t 40) (t 43)) 37,o 45 (P 37 44),M 46 45,p 47 (f 1 10) 46,p 48 (l 47) 46,p 49 (bb .neq 48 (i 3)) 46,p 50 (m 49) 46,q 51 (f 1 8) 50,q 52 (l 51) 50,q 53 (bb .gtr 52 (i 0)) 50,p 54 (Q 50 53) 46,o 55 (P 46 54),M 2 55] y)⟩
def cc_ref08_rings (g0 g1 g2 g3 : Nat) : CFn := ⟨63,[.cell 2 (some 2)],r [o 1 (w 0),o 2 (.alloc [i 0,i 0])] (j (r [o 9 (f 1 104),o 10 (l 9),o 11 (h 10),o 12 (bb .eql 11 (i 0))] (c 12 (r [o 13 (.build [i 0,i 0] [(0,1,k (i 8))]),n (s 2 13 2)] y) z)) (r [o 14 (L 1 131),o 15 (.call g0 [t 14]),M 3 15] (r [V 4 (i 0)] (j (r [V 5 (i 0)] (u 0 (.loop (j (r [M 16 5,o 17 (f 1 104),o 18 (l 17),o 19 (h 18),o 20 (b .lss 16 19)] (c 20 z (.exit 0))) (j (u 1 (r [V 6 (i 0)] (j (r [o 23 (L 1 131),o 24 (.call g1 [t 23]),o 25 (h 24),V 26 (i 0)] (u 2 (.loop (r [o 27 (b .lss 26 25)] (j (c 27 z (.exit 2)) (j (u 3 (r [o 28 (a 24 26 4),o 29 (L 28 4),o 8 (.alloc [i 0,i 0,i 0,i 0]),n (s 8 29 4)] (j (r [o 30 (f 8 0),o 31 (l 30),M 32 5,o 33 (b .neq 31 32)] (c 33 (.exit 3) z)) (r [M 34 6,o 35 (bb .add 34 (i 1)),M 6 35] (j (r [M 36 3,o 37 (f 8 3),o 38 (l 37),o 39 (.call g2 [t 36,t 38]),o 40 (.un .not (t 39)),M 41 40,q 42 (m 4) 41,q 43 (f 8 3) 41,q 44 (l 43) 41,q 45 (.call g2 [t 42,t 44]) 41,o 46 (Q 41 45)] (c 46 (r [M 47 5,o 48 (.build [i 0,i 0] [(0,1,k (i 8)),(1,1,t 47)]),n (s 2 48 2)] y) z)) (R [M 49 4,o 50 (f 8 3),o 51 (l 50),o 52 (.call g3 [t 49,t 51]),M 4 52])))))) (R [o 53 (bb .add 26 (i 1)),M 26 53]))))))) (r [M 54 6,o 55 (bb .eql 54 (i 0))] (c 55 (r [M 56 5,o 57 (.build [i 0,i 0] [(0,1,k (i 8)),(1,1,t 56)]),n (s 2 57 2)] y) z))))) (R [M 21 5,o 22 (bb .add 21 (i 1)),M 5 22])))))) (j (r [M 58 4,M 59 3,o 60 (b .neq 58 59)] (c 60 (r [o 61 (.build [i 0,i 0] [(0,1,k (i 8))]),n (s 2 61 2)] y) z)) (r [o 62 (.build [i 0,i 0] []),n (s 2 62 2)] y))))))⟩
def cc_ref08_conflict (g0 g1 g2 : Nat) : CFn := ⟨49,[.tmp 6],r [o 3 (w 0),V 6 (F)] (j (r [M 10 2,o 11 (.call g0 [t 10]),o 12 (h 11),V 13 (i 0)] (u 0 (.loop (r [o 14 (b .lss 13 12)] (j (c 14 z (.exit 0)) (j (u 1 (r [o 15 (a 11 13 1),o 16 (l 15),M 8 16] (r [M 17 1,o 18 (f 3 105),o 19 (A 18 17 8 1),o 20 (l 19),M 21 8,o 22 (.call g1 [t 20,t 21]),M 9 22] (r [M 23 9,M 24 23,p 25 (m 8) 24,p 26 (m 1) 24,p 27 (b .eql 25 26) 24,o 28 (P 24 27),M 29 28,q 30 (m 9) 29,q 31 (m 8) 29,q 32 (f 3 105) 29,q 33 (A 32 31 8 1) 29,q 34 (l 33) 29,q 35 (m 1) 29,q 36 (.call g1 [t 34,t 35]) 29,q 37 (.bb true (t 30) (t 36)) 29,o 38 (Q 29 37),M 39 38,q 40 (m 9) 39,q 41 (m 40) 39,p 42 (L 3 131) 41,p 43 (m 1) 41,p 44 (m 8) 41,p 45 (.call g2 [t 42,t 43,t 44]) 41,q 46 (P 41 45) 39,o 47 (Q 39 46)] (c 47 (r [V 6 (F)] y) z))))) (R [o 48 (bb .add 13 (i 1)),M 13 48]))))))) (r [V 6 (T)] y))⟩
def cc_ref08_rail (g0 g1 g2 : Nat) : CFn := ⟨106,[.tmp 6],r [o 3 (w 0),o 4 (w 1),V 6 (F)] (r [o 8 (f 4 0),o 9 (l 8),o 10 (f 4 1),o 11 (l 10),o 12 (b .or 9 11),o 13 (f 4 2),o 14 (l 13),o 15 (b .or 12 14),o 16 (f 4 3),o 17 (l 16),o 18 (b .or 15 17),M 19 2,o 20 (.call g0 [t 18,t 19]),M 21 20,p 22 (f 4 2) 21,p 23 (l 22) 21,p 24 (bb .neq 23 (i 0)) 21,o 25 (P 21 24),M 26 25,p 27 (f 4 2) 26,p 28 (l 27) 26,p 29 (f 4 0) 26,p 30 (l 29) 26,p 31 (b .and 28 30) 26,p 32 (bb .eql 31 (i 0)) 26,o 33 (P 26 32),M 34 33,p 35 (L 3 131) 34,p 36 (f 4 3) 34,p 37 (l 36) 34,p 38 (.call g1 [t 35,t 37]) 34,o 39 (P 34 38),M 7 39] (r [M 40 7,M 41 40,p 42 (L 3 131) 41,p 43 (f 4 1) 41,p 44 (l 43) 41,p 45 (f 4 1) 41,p 46 (l 45) 41,p 47 (.call g2 [t 42,t 44,t 46]) 41,p 48 (.un .not (t 47)) 41,o 49 (P 41 48),M 50 49,p 51 (L 3 131) 50,p 52 (f 4 2) 50,p 53 (l 52) 50,p 54 (f 4 2) 50,p 55 (l 54) 50,p 56 (.call g2 [t 51,t 53,t 55]) 50,p 57 (.un .not (t 56)) 50,o 58 (P 50 57),M 59 58,p 60 (L 3 131) 59,p 61 (f 4 3) 59,p 62 (l 61) 59,p 63 (f 4 3) 59,p 64 (l 63) 59,p 65 (.call g2 [t 60,t 62,t 64]) 59,p 66 (.un .not (t 65)) 59,o 67 (P 59 66),M 68 67,p 69 (f 4 7) 68,p 70 (l 69) 68,p 71 (bb .gtr 70 (i 0)) 68,p 72 (f 4 1) 68,p 73 (l 72) 68,p 74 (bb .neq 73 (i 0)) 68,p 75 (.bb false (t 71) (t 74)) 68,o 76 (P 68 75),M 77 76,p 78 (f 4 5) 77,p 79 (l 78) 77,p 80 (bb .geq 79 (i 1)) 77,o 81 (P 77 80),M 82 81,p 83 (f 4 8) 82,p 84 (l 83) 82,p 85 (bb .geq 84 (i 1)) 82,o 86 (P 82 85),M 87 86,p 88 (f 4 9) 87,p 89 (l 88) 87,p 90 (bb .eql 89 (i 0)) 87,p 91 (m 90) 87,q 92 (f 4 9) 91,q 93 (l 92) 91,q 94 (f 4 8) 91,q 95 (l 94) 91,q 96 (b .geq 93 95) 91,p 97 (Q 91 96) 87,o 98 (P 87 97),M 99 98,p 100 (f 4 10) 99,p 101 (l 100) 99,p 102 (f 4 4) 99,p 103 (l 102) 99,p 104 (b .gtr 101 103) 99,o 105 (P 99 104),M 6 105] y))⟩
def cc_ref08_in : CFn := ⟨10,[.tmp 4],r [V 4 (F)] (r [M 5 0,M 6 1,o 7 (b .andNot 5 6),o 8 (bb .and 7 (i 255)),o 9 (bb .eql 8 (i 0)),M 4 9] y)⟩
def cc_ref08_flash (g0 g1 : Nat) : CFn := ⟨42,[.tmp 6],r [o 3 (w 0),V 6 (F)] (j (r [M 9 1,o 10 (f 3 121),o 11 (A 10 9 8 1),o 12 (l 11),o 13 (bb .eql 12 (i 0))] (c 13 (r [V 6 (F)] y) z)) (j (r [M 14 2,o 15 (.call g0 [t 14]),o 16 (h 15),V 17 (i 0)] (u 0 (.loop (r [o 18 (b .lss 17 16)] (j (c 18 z (.exit 0)) (j (u 1 (r [o 19 (a 15 17 1),o 20 (l 19),M 8 20] (r [M 21 1,o 22 (f 3 121),o 23 (A 22 21 8 1),o 24 (l 23),o 25 (bb .eql 24 (i 2)),M 26 25,p 27 (m 8) 26,p 28 (f 3 121) 26,p 29 (A 28 27 8 1) 26,p 30 (l 29) 26,p 31 (bb .eql 30 (i 2)) 26,o 32 (P 26 31),M 33 32,p 34 (m 1) 33,p 35 (f 3 105) 33,p 36 (A 35 34 8 1) 33,p 37 (l 36) 33,p 38 (m 8) 33,p 39 (.call g1 [t 37,t 38]) 33,o 40 (P 33 39)] (c 40 (r [V 6 (F)] y) z)))) (R [o 41 (bb .add 17 (i 1)),M 17 41]))))))) (r [V 6 (T)] y)))⟩
def cc_table_every_api_Phase (g0 g1 : Nat) : CFn := ⟨17,[.tmp 6],r [o 5 (w 2),V 6 (F)] (r [M 7 0,o 8 (h 7),M 9 1,o 10 (b .leq 8 9),M 11 10,p 12 (m 0) 11,p 13 (.mkf (.func g0) [] [t 5]) 11,p 14 (.call g1 [t 12,t 13]) 11,p 15 (.un .not (t 14)) 11,o 16 (P 11 15),M 6 16] y)⟩
def cc_table_phase (g0 g1 g2 : Nat) : CFn := ⟨29,[.tmp 2],r [o 1 (w 0),V 2 (F)] (r [o 3 (f 1 1),o 4 (l 3),o 5 (f 1 2),o 6 (l 5),o 7 (f 1 3),o 8 (l 7),o 9 (f 1 4),o 10 (l 9),o 11 (f 1 5),o 12 (l 11),o 13 (f 1 6),o 14 (l 13),o 15 (f 1 7),o 16 (l 15),o 17 (f 1 8),o 18 (l 17),o 19 (f 1 9),o 20 (l 19),o 21 (.bsl g0 1 [t 4,t 6,t 8,t 10,t 12,t 14,t 16,t 18,t 20]),o 22 (.call g1 [t 21]),M 23 22,p 24 (f 1 10) 23,p 25 (l 24) 23,p 26 (.bsl g0 1 [t 25]) 23,p 27 (.call g2 [k (i 3),t 26]) 23,o 28 (P 23 27),M 2 28] y)⟩
def cc_table_every_2_int (g0 g1 : Nat) : CFn := ⟨17,[.tmp 6],r [o 5 (w 2),V 6 (F)] (r [M 7 0,o 8 (h 7),M 9 1,o 10 (b .leq 8 9),M 11 10,p 12 (m 0) 11,p 13 (.mkf (.func g0) [] [t 5]) 11,p 14 (.call g1 [t 12,t 13]) 11,p 15 (.un .not (t 14)) 11,o 16 (P 11 15),M 6 16] y)⟩
def cc_table_group (g0 : Nat) : CFn := ⟨14,[.tmp 2],r [o 1 (w 0),V 2 (F)] (r [V 3 (.fn (.func g0) [] [])] (r [M 4 3,o 5 (.iaA (t 1) (k (i 0)) 2 1),o 6 (l 5),o 7 (.callv (t 4) [t 6]),M 8 7,p 9 (m 3) 8,p 10 (.iaA (t 1) (k (i 1)) 2 1) 8,p 11 (l 10) 8,p 12 (.callv (t 9) [t 11]) 8,o 13 (P 8 12),M 2 13] y))⟩
def cc_table_within (g0 g1 : Nat) : CFn := ⟨10,[.tmp 4],r [o 2 (w 0),V 4 (F)] (r [M 5 1,M 6 1,o 7 (h 6),o 8 (.mkf (.func g0) [] [t 2]),o 9 (.call g1 [t 5,t 7,t 8]),M 4 9] y)⟩
def cc_table_every_api_Detector (g0 g1 : Nat) : CFn := ⟨17,[.tmp 6],r [o 5 (w 2),V 6 (F)] (r [M 7 0,o 8 (h 7),M 9 1,o 10 (b .leq 8 9),M 11 10,p 12 (m 0) 11,p 13 (.mkf (.func g0) [] [t 5]) 11,p 14 (.call g1 [t 12,t 13]) 11,p 15 (.un .not (t 14)) 11,o 16 (P 11 15),M 6 16] y)⟩
def cc_table_detector (g0 g1 g2 g3 g4 : Nat) : CFn := ⟨38,[.tmp 2],r [o 1 (w 0),V 2 (F)] (r [V 3 (.fn (.func g0) [] [])] (r [o 4 (f 1 0),o 5 (l 4),o 6 (.bsl g1 1 [t 5]),o 7 (.call g2 [k (i 7),t 6]),M 8 7,p 9 (m 3) 8,p 10 (f 1 1) 8,p 11 (l 10) 8,p 12 (.callv (t 9) [t 11]) 8,o 13 (P 8 12),M 14 13,p 15 (m 3) 14,p 16 (f 1 2) 14,p 17 (l 16) 14,p 18 (.callv (t 15) [t 17]) 14,o 19 (P 14 18),M 20 19,p 21 (f 1 3) 20,p 22 (l 21) 20,p 23 (.call g3 [t 22]) 20,o 24 (P 20 23),M 25 24,p 26 (f 1 4) 25,p 27 (l 26) 25,p 28 (.call g3 [t 27]) 25,o 29 (P 25 28),M 30 29,p 31 (f 1 5) 30,p 32 (l 31) 30,p 33 (f 1 6) 30,p 34 (l 33) 30,p 35 (.bsl g1 1 [t 32,t 34]) 30,p 36 (.call g4 [t 35]) 30,o 37 (P 30 36),M 2 37] y))⟩
def cc_table_every_api_Rail (g0 g1 : Nat) : CFn := ⟨17,[.tmp 6],r [o 5 (w 2),V 6 (F)] (r [M 7 0,o 8 (h 7),M 9 1,o 10 (b .leq 8 9),M 11 10,p 12 (m 0) 11,p 13 (.mkf (.func g0) [] [t 5]) 11,p 14 (.call g1 [t 12,t 13]) 11,p 15 (.un .not (t 14)) 11,o 16 (P 11 15),M 6 16] y)⟩
def cc_table_rail (g0 g1 g2 : Nat) : CFn := ⟨35,[.tmp 2],r [o 1 (w 0),V 2 (F)] (r [o 3 (f 1 0),o 4 (l 3),o 5 (f 1 1),o 6 (l 5),o 7 (f 1 2),o 8 (l 7),o 9 (f 1 3),o 10 (l 9),o 11 (.bsl g0 1 [t 4,t 6,t 8,t 10]),o 12 (.call g1 [k (i 255),t 11]),M 13 12,p 14 (f 1 4) 13,p 15 (l 14) 13,p 16 (f 1 5) 13,p 17 (l 16) 13,p 18 (f 1 6) 13,p 19 (l 18) 13,p 20 (f 1 7) 13,p 21 (l 20) 13,p 22 (f 1 8) 13,p 23 (l 22) 13,p 24 (f 1 9) 13,p 25 (l 24) 13,p 26 (.bsl g0 1 [t 15,t 17,t 19,t 21,t 23,t 25]) 13,p 27 (.call g2 [t 26]) 13,o 28 (P 13 27),M 29 28,p 30 (f 1 10) 29,p 31 (l 30) 29,p 32 (.bsl g0 1 [t 31]) 29,p 33 (.call g1 [k (i 2147483647),t 32]) 29,o 34 (P 29 33),M 2 34] y)⟩
def cc_table_every_api_Bus (g0 g1 : Nat) : CFn := ⟨17,[.tmp 6],r [o 5 (w 2),V 6 (F)] (r [M 7 0,o 8 (h 7),M 9 1,o 10 (b .leq 8 9),M 11 10,p 12 (m 0) 11,p 13 (.mkf (.func g0) [] [t 5]) 11,p 14 (.call g1 [t 12,t 13]) 11,p 15 (.un .not (t 14)) 11,o 16 (P 11 15),M 6 16] y)⟩
def cc_table_bus (g0 g1 g2 : Nat) : CFn := ⟨13,[.tmp 2],r [o 1 (w 0),V 2 (F)] (r [o 3 (f 1 0),o 4 (l 3),o 5 (.bsl g0 1 [t 4]),o 6 (.call g1 [k (i 255),t 5]),M 7 6,p 8 (f 1 1) 7,p 9 (l 8) 7,p 10 (.bsl g0 1 [t 9]) 7,p 11 (.call g2 [t 10]) 7,o 12 (P 7 11),M 2 12] y)⟩
def cc_table_times (g0 : Nat) : CFn := ⟨5,[.tmp 2],r [V 2 (F)] (r [M 3 0,o 4 (.call g0 [k (i 9999),t 3]),M 2 4] y)⟩
def cc_plan_Beside (g0 : Nat) : CFn := ⟨45,[.tmp 6],r [o 3 (w 0),V 6 (F)] (r [o 16 (L 3 131),M 17 1,o 18 (.call g0 [t 16,t 17]),M 15 18,o 19 (e 15 0),o 20 (e 15 1),o 21 (e 15 2),o 22 (e 15 3),M 7 19,M 8 20,M 9 21,M 10 22] (r [o 24 (L 3 131),M 25 2,o 26 (.call g0 [t 24,t 25]),M 23 26,o 27 (e 23 0),o 28 (e 23 1),o 29 (e 23 2),o 30 (e 23 3),M 11 27,M 12 28,M 13 29,M 14 30] (r [M 31 10,M 32 31,p 33 (m 14) 32,o 34 (P 32 33),M 35 34,p 36 (m 7) 35,p 37 (m 11) 35,p 38 (b .eql 36 37) 35,o 39 (P 35 38),M 40 39,p 41 (m 8) 40,p 42 (m 12) 40,p 43 (b .neq 41 42) 40,o 44 (P 40 43),M 6 44] y)))⟩
def cc_check_clashes (g0 g1 : Nat) : CFn := ⟨22,[.cell 4 none],r [o 2 (w 0),o 3 (w 1),o 4 (.alloc [F])] (j (r [o 7 (l 3),o 8 (.call g0 [t 7])] (u 0 (.rfor (t 8) [9] [9,5,10,11,12,6,13,14,15,16,17,18,19,20,21] (R [o 5 (.alloc [i 0]),n (s 5 9 1)]) (u 1 (r [o 10 (l 3),o 11 (.call g0 [t 10])] (u 2 (.rfor (t 11) [12] [12,6,13,14,15,16,17,18,19,20,21] (R [M 6 12]) (u 3 (r [o 13 (l 5),M 14 6,o 15 (b .neq 13 14),M 16 15,p 17 (L 2 131) 16,p 18 (l 5) 16,p 19 (m 6) 16,p 20 (.call g1 [t 17,t 18,t 19]) 16,o 21 (P 16 20)] (c 21 (r [n (ss 4 (T) 1)] y) z)))))))))) (r [n (ss 4 (F) 1)] y))⟩
def cc_check_apart (g0 g1 : Nat) : CFn := ⟨23,[.cell 4 none],r [o 2 (w 0),o 3 (w 1),o 4 (.alloc [F])] (j (r [o 7 (l 3),o 8 (.call g0 [t 7])] (u 0 (.rfor (t 8) [9] [9,5,10,11,12,6,13,14,15,16,17,18,19,20,21,22] (R [o 5 (.alloc [i 0]),n (s 5 9 1)]) (u 1 (r [o 10 (l 3),o 11 (.call g0 [t 10])] (u 2 (.rfor (t 11) [12] [12,6,13,14,15,16,17,18,19,20,21,22] (R [M 6 12]) (u 3 (r [o 13 (l 5),M 14 6,o 15 (b .neq 13 14),M 16 15,p 17 (L 2 131) 16,p 18 (l 5) 16,p 19 (m 6) 16,p 20 (.call g1 [t 17,t 18,t 19]) 16,p 21 (.un .not (t 20)) 16,o 22 (P 16 21)] (c 22 (r [n (ss 4 (T) 1)] y) z)))))))))) (r [n (ss 4 (F) 1)] y))⟩
def cc_ref05_times : CFn := ⟨22,[.tmp 2],r [V 2 (F)] (j (r [V 3 (i 0)] (u 0 (.loop (j (r [M 4 3,M 5 0,o 6 (h 5),o 7 (b .lss 4 6)] (c 7 z (.exit 0))) (j (u 1 (r [M 10 0,M 11 3,o 12 (a 10 11 1),o 13 (l 12),o 14 (bb .lss 13 (i 0)),M 15 14,q 16 (m 0) 15,q 17 (m 3) 15,q 18 (a 16 17 1) 15,q 19 (l 18) 15,q 20 (bb .gtr 19 (i 9999)) 15,o 21 (Q 15 20)] (c 21 (r [V 2 (F)] y) z))) (R [M 8 3,o 9 (bb .add 8 (i 1)),M 3 9])))))) (r [V 2 (T)] y))⟩
def cc_ref05_upto : CFn := ⟨25,[.tmp 4],r [V 4 (F)] (j (r [V 5 (i 0)] (u 0 (.loop (j (r [M 6 5,M 7 0,o 8 (h 7),o 9 (b .lss 6 8)] (c 9 z (.exit 0))) (j (u 1 (r [M 12 0,M 13 5,o 14 (a 12 13 1),o 15 (l 14),o 16 (bb .lss 15 (i 0)),M 17 16,q 18 (m 0) 17,q 19 (m 5) 17,q 20 (a 18 19 1) 17,q 21 (l 20) 17,q 22 (m 1) 17,q 23 (b .gtr 21 22) 17,o 24 (Q 17 23)] (c 24 (r [V 4 (F)] y) z))) (R [M 10 5,o 11 (bb .add 10 (i 1)),M 5 11])))))) (r [V 4 (T)] y))⟩
def cc_ref05_phase (g0 g1 g2 : Nat) : CFn := ⟨29,[.tmp 2],r [o 1 (w 0),V 2 (F)] (r [o 3 (f 1 1),o 4 (l 3),o 5 (f 1 2),o 6 (l 5),o 7 (f 1 3),o 8 (l 7),o 9 (f 1 4),o 10 (l 9),o 11 (f 1 5),o 12 (l 11),o 13 (f 1 6),o 14 (l 13),o 15 (f 1 7),o 16 (l 15),o 17 (f 1 8),o 18 (l 17),o 19 (f 1 9),o 20 (l 19),o 21 (.bsl g0 1 [t 4,t 6,t 8,t 10,t 12,t 14,t 16,t 18,t 20]),o 22 (.call g1 [t 21]),M 23 22,p 24 (f 1 10) 23,p 25 (l 24) 23,p 26 (.bsl g0 1 [t 25]) 23,p 27 (.call g2 [t 26,k (i 3)]) 23,o 28 (P 23 27),M 2 28] y)⟩
def cc_ref05_detector (g0 g1 g2 g3 g4 : Nat) : CFn := ⟨35,[.tmp 2],r [o 1 (w 0),V 2 (F)] (r [o 3 (f 1 0),o 4 (l 3),o 5 (.bsl g0 1 [t 4]),o 6 (.call g1 [t 5,k (i 7)]),M 7 6,p 8 (f 1 1) 7,p 9 (l 8) 7,p 10 (.call g2 [t 9]) 7,o 11 (P 7 10),M 12 11,p 13 (f 1 2) 12,p 14 (l 13) 12,p 15 (.call g2 [t 14]) 12,o 16 (P 12 15),M 17 16,p 18 (f 1 3) 17,p 19 (l 18) 17,p 20 (.call g3 [t 19]) 17,o 21 (P 17 20),M 22 21,p 23 (f 1 4) 22,p 24 (l 23) 22,p 25 (.call g3 [t 24]) 22,o 26 (P 22 25),M 27 26,p 28 (f 1 5) 27,p 29 (l 28) 27,p 30 (f 1 6) 27,p 31 (l 30) 27,p 32 (.bsl g0 1 [t 29,t 31]) 27,p 33 (.call g4 [t 32]) 27,o 34 (P 27 33),M 2 34] y)⟩
def cc_ref05_rail (g0 g1 g2 : Nat) : CFn := ⟨35,[.tmp 2],r [o 1 (w 0),V 2 (F)] (r [o 3 (f 1 0),o 4 (l 3),o 5 (f 1 1),o 6 (l 5),o 7 (f 1 2),o 8 (l 7),o 9 (f 1 3),o 10 (l 9),o 11 (.bsl g0 1 [t 4,t 6,t 8,t 10]),o 12 (.call g1 [t 11,k (i 255)]),M 13 12,p 14 (f 1 4) 13,p 15 (l 14) 13,p 16 (f 1 5) 13,p 17 (l 16) 13,p 18 (f 1 6) 13,p 19 (l 18) 13,p 20 (f 1 7) 13,p 21 (l 20) 13,p 22 (f 1 8) 13,p 23 (l 22) 13,p 24 (f 1 9) 13,p 25 (l 24) 13,p 26 (.bsl g0 1 [t 15,t 17,t 19,t 21,t 23,t 25]) 13,p 27 (.call g2 [t 26]) 13,o 28 (P 13 27),M 29 28,p 30 (f 1 10) 29,p 31 (l 30) 29,p 32 (.bsl g0 1 [t 31]) 29,p 33 (.call g1 [t 32,k (i 2147483647)]) 29,o 34 (P 29 33),M 2 34] y)⟩
def cc_ref08_exit (g0 g1 : Nat) : CFn := ⟨35,[.tmp 4],r [o 2 (w 0),V 4 (F)] (r [M 8 1,o 9 (.call g0 [t 8]),M 5 9] (j (r [V 6 (i 0)] (u 0 (.loop (j (r [M 10 6,M 11 5,o 12 (h 11),o 13 (b .lss 10 12)] (c 13 z (.exit 0))) (j (u 1 (r [V 7 (i 0)] (u 2 (.loop (j (r [M 16 7,M 17 6,o 18 (b .lss 16 17)] (c 18 z (.exit 2))) (j (u 3 (r [o 21 (L 2 131),M 22 5,M 23 6,o 24 (a 22 23 1),o 25 (l 24),M 26 5,M 27 7,o 28 (a 26 27 1),o 29 (l 28),o 30 (.call g1 [t 21,t 25,t 29]),o 31 (.un .not (t 30))] (c 31 (r [V 4 (F)] y) z))) (R [M 19 7,o 20 (bb .add 19 (i 1)),M 7 20]))))))) (R [M 14 6,o 15 (bb .add 14 (i 1)),M 6 15])))))) (r [M 32 5,o 33 (h 32),o 34 (bb .gtr 33 (i 0)),M 4 34] y)))⟩
def cc_ref08_Clash (g0 g1 : Nat) : CFn := ⟨41,[.tmp 6],r [o 3 (w 0),V 6 (F)] (j (r [M 11 1,o 12 (.call g0 [t 11]),o 13 (h 12),V 14 (i 0)] (u 0 (.loop (r [o 15 (b .lss 14 13)] (j (c 15 z (.exit 0)) (j (u 1 (r [o 16 (a 12 14 1),o 17 (l 16),M 8 17] (r [M 18 2,o 19 (.call g0 [t 18]),o 20 (h 19),V 21 (i 0)] (u 2 (.loop (r [o 22 (b .lss 21 20)] (j (c 22 z (.exit 2)) (j (u 3 (r [o 23 (a 19 21 1),o 24 (l 23),M 10 24] (r [M 25 8,o 26 (f 3 105),o 27 (A 26 25 8 1),o 28 (l 27),M 29 10,o 30 (.call g1 [t 28,t 29]),M 31 30,q 32 (m 10) 31,q 33 (f 3 105) 31,q 34 (A 33 32 8 1) 31,q 35 (l 34) 31,q 36 (m 8) 31,q 37 (.call g1 [t 35,t 36]) 31,o 38 (Q 31 37)] (c 38 (r [V 6 (T)] y) z)))) (R [o 39 (bb .add 21 (i 1)),M 21 39]))))))))) (R [o 40 (bb .add 14 (i 1)),M 14 40]))))))) (r [V 6 (F)] y))⟩
def cc_slices_ContainsFunc_api_Phase_api_Phase (g0 : Nat) : CFn := ⟨9,[.tmp 4],r [V 4 (F)] (r [M 5 0,M 6 1,o 7 (.call g0 [t 5,t 6]),o 8 (bb .geq 7 (i 0)),M 4 8] y)⟩
def cc_table_every_api_Phase_1 : CFn := ⟨8,[.tmp 3],r [o 2 (w 0),V 3 (F)] (r [o 4 (l 1),o 5 (L 2 13),o 6 (.callv (t 4) [t 5]),o 7 (.un .not (t 6)),M 3 7] y)⟩
def cc_slices_ContainsFunc_2_int_2_int (g0 : Nat) : CFn := ⟨9,[.tmp 4],r [V 4 (F)] (r [M 5 0,M 6 1,o 7 (.call g0 [t 5,t 6]),o 8 (bb .geq 7 (i 0)),M 4 8] y)⟩
def cc_table_every_2_int_1 : CFn := ⟨8,[.tmp 3],r [o 2 (w 0),V 3 (F)] (r [o 4 (l 1),o 5 (L 2 2),o 6 (.callv (t 4) [t 5]),o 7 (.un .not (t 6)),M 3 7] y)⟩
def cc_table_group_1 (g0 g1 : Nat) : CFn := ⟨5,[.tmp 2],r [V 2 (F)] (r [M 3 0,o 4 (.call g0 [t 3,k (i 8),k (.fn (.func g1) [] [])]),M 2 4] y)⟩
def cc_table_every_int (g0 g1 : Nat) : CFn := ⟨17,[.tmp 6],r [o 5 (w 2),V 6 (F)] (r [M 7 0,o 8 (h 7),M 9 1,o 10 (b .leq 8 9),M 11 10,p 12 (m 0) 11,p 13 (.mkf (.func g0) [] [t 5]) 11,p 14 (.call g1 [t 12,t 13]) 11,p 15 (.un .not (t 14)) 11,o 16 (P 11 15),M 6 16] y)⟩
def cc_table_group_1_1 (g0 g1 : Nat) : CFn := ⟨6,[.tmp 2],r [V 2 (F)] (r [M 3 0,o 4 (.bsl g0 1 [t 3]),o 5 (.call g1 [k (i 7),t 4]),M 2 5] y)⟩
def cc_table_within_1 : CFn := ⟨11,[.tmp 3],r [V 3 (F)] (r [M 4 0,o 5 (bb .geq 4 (i 0)),M 6 5,p 7 (m 0) 6,p 8 (l 1) 6,p 9 (b .leq 7 8) 6,o 10 (P 6 9),M 3 10] y)⟩
def cc_slices_ContainsFunc_api_Detector_api_Detector (g0 : Nat) : CFn := ⟨9,[.tmp 4],r [V 4 (F)] (r [M 5 0,M 6 1,o 7 (.call g0 [t 5,t 6]),o 8 (bb .geq 7 (i 0)),M 4 8] y)⟩
def cc_table_every_api_Detector_1 : CFn := ⟨8,[.tmp 3],r [o 2 (w 0),V 3 (F)] (r [o 4 (l 1),o 5 (L 2 7),o 6 (.callv (t 4) [t 5]),o 7 (.un .not (t 6)),M 3 7] y)⟩
def cc_table_detector_1 : CFn := ⟨9,[.tmp 2],r [V 2 (F)] (r [M 3 0,o 4 (bb .gtr 3 (.float .f64 0)),M 5 4,p 6 (m 0) 5,p 7 (bb .leq 6 (.float .f64 4696837146684686336)) 5,o 8 (P 5 7),M 2 8] y)⟩
def cc_table_seconds (g0 g1 : Nat) : CFn := ⟨16,[.tmp 2],r [V 2 (F)] (r [M 6 0,o 7 (.call g0 [t 6]),M 5 7,o 8 (e 5 0),o 9 (e 5 1),M 3 8,M 4 9] (r [M 10 4,M 11 10,p 12 (m 0) 11,p 13 (.call g1 [t 12]) 11,p 14 (.un .not (t 13)) 11,o 15 (P 11 14),M 2 15] y))⟩
def cc_slices_ContainsFunc_api_Rail_api_Rail (g0 : Nat) : CFn := ⟨9,[.tmp 4],r [V 4 (F)] (r [M 5 0,M 6 1,o 7 (.call g0 [t 5,t 6]),o 8 (bb .geq 7 (i 0)),M 4 8] y)⟩
def cc_table_every_api_Rail_1 : CFn := ⟨8,[.tmp 3],r [o 2 (w 0),V 3 (F)] (r [o 4 (l 1),o 5 (L 2 11),o 6 (.callv (t 4) [t 5]),o 7 (.un .not (t 6)),M 3 7] y)⟩
def cc_slices_ContainsFunc_api_Bus_api_Bus (g0 : Nat) : CFn := ⟨9,[.tmp 4],r [V 4 (F)] (r [M 5 0,M 6 1,o 7 (.call g0 [t 5,t 6]),o 8 (bb .geq 7 (i 0)),M 4 8] y)⟩
def cc_table_every_api_Bus_1 : CFn := ⟨8,[.tmp 3],r [o 2 (w 0),V 3 (F)] (r [o 4 (l 1),o 5 (L 2 2),o 6 (.callv (t 4) [t 5]),o 7 (.un .not (t 6)),M 3 7] y)⟩
def cc_plan_Where (g0 g1 : Nat) : CFn := ⟨51,[.tmp 4,.tmp 5,.tmp 6,.tmp 7],r [o 2 (w 0),V 4 (i 0),V 5 (i 0),V 6 (i 0),V 7 (F)] (.scope 0 (j (r [M 14 1,o 15 (.bsl g0 1 [t 14]),o 16 (.call g1 [t 15]),o 17 (bb .eql 16 (i 0))] (c 17 (r [V 4 (i 0),V 5 (i 0),V 6 (i 0),V 7 (F)] y) z)) (j (.label 0) (j (r [o 18 (f 2 104),o 19 (l 18),o 20 (h 19),V 21 (i 0)] (u 0 (.loop (r [o 22 (b .lss 21 20)] (j (c 22 z (.exit 0)) (j (u 1 (r [M 23 21,o 24 (a 19 21 2),o 25 (L 24 2),o 9 (.alloc [.nils,.nils]),M 8 23,n (s 9 25 2)] (r [o 26 (L 9 2),V 27 (i 0)] (u 2 (.loop (r [o 28 (bb .lss 27 (i 2))] (j (c 28 z (.exit 2)) (j (u 3 (r [M 29 27,o 30 (.ixA (t 26) (t 27) 2 1 none),M 10 29,M 11 30] (r [M 31 11,o 32 (h 31),V 33 (i 0)] (u 4 (.loop (r [o 34 (b .lss 33 32)] (j (c 34 z (.exit 4)) (j (u 5 (r [M 35 33,o 36 (a 31 33 1),o 37 (l 36),M 12 35,M 13 37] (r [M 38 13,M 39 1,o 40 (b .eql 38 39)] (c 40 (r [M 41 8,M 42 10,M 43 12,M 4 41,M 5 42,M 6 43,V 7 (T)] (.exit 0)) z)))) (R [o 44 (bb .add 33 (i 1)),M 33 44]))))))))) (R [o 45 (bb .add 27 (i 1)),M 27 45]))))))))) (R [o 46 (bb .add 21 (i 1)),M 21 46]))))))) (r [M 47 4,M 48 5,M 49 6,M 50 7,M 4 47,M 5 48,M 6 49,M 7 50] y)))) (j z (j (r [o 18 (f 2 104),o 19 (l 18),o 20 (h 19),V 21 (i 0)] (u 0 (.loop (r [o 22 (b .lss 21 20)] (j (c 22 z (.exit 0)) (j (u 1 (r [M 23 21,o 24 (a 19 21 2),o 25 (L 24 2),o 9 (.alloc [.nils,.nils]),M 8 23,n (s 9 25 2)] (r [o 26 (L 9 2),V 27 (i 0)] (u 2 (.loop (r [o 28 (bb .lss 27 (i 2))] (j (c 28 z (.exit 2)) (j (u 3 (r [M 29 27,o 30 (.ixA (t 26) (t 27) 2 1 none),M 10 29,M 11 30] (r [M 31 11,o 32 (h 31),V 33 (i 0)] (u 4 (.loop (r [o 34 (b .lss 33 32)] (j (c 34 z (.exit 4)) (j (u 5 (r [M 35 33,o 36 (a 31 33 1),o 37 (l 36),M 12 35,M 13 37] (r [M 38 13,M 39 1,o 40 (b .eql 38 39)] (c 40 (r [M 41 8,M 42 10,M 43 12,M 4 41,M 5 42,M 6 43,V 7 (T)] (.exit 0)) z)))) (R [o 44 (bb .add 33 (i 1)),M 33 44]))))))))) (R [o 45 (bb .add 27 (i 1)),M 27 45]))))))))) (R [o 46 (bb .add 21 (i 1)),M 21 46]))))))) (r [M 47 4,M 48 5,M 49 6,M 50 7,M 4 47,M 5 48,M 6 49,M 7 50] y))))⟩
def cc_check_clash (g0 : Nat) : CFn := ⟨21,[.tmp 6],r [o 3 (w 0),V 6 (F)] (r [M 7 1,o 8 (f 3 105),o 9 (A 8 7 8 1),o 10 (l 9),M 11 2,o 12 (.call g0 [t 10,t 11]),M 13 12,q 14 (m 2) 13,q 15 (f 3 105) 13,q 16 (A 15 14 8 1) 13,q 17 (l 16) 13,q 18 (m 1) 13,q 19 (.call g0 [t 17,t 18]) 13,o 20 (Q 13 19),M 6 20] y)⟩
def cc_ref05_Level : CFn := ⟨9,[.tmp 2],r [V 2 (F)] (r [M 3 0,o 4 (bb .gtr 3 (.float .f64 0)),M 5 4,p 6 (m 0) 5,p 7 (bb .leq 6 (.float .f64 4696837146684686336)) 5,o 8 (P 5 7),M 2 8] y)⟩
def cc_ref05_Seconds (g0 g1 : Nat) : CFn := ⟨16,[.tmp 2],r [V 2 (F)] (r [M 6 0,o 7 (.call g0 [t 6]),M 5 7,o 8 (e 5 0),o 9 (e 5 1),M 3 8,M 4 9] (r [M 10 4,M 11 10,p 12 (m 0) 11,p 13 (.call g1 [t 12]) 11,p 14 (.un .not (t 13)) 11,o 15 (P 11 14),M 2 15] y))⟩
def cc_slices_IndexFunc_api_Phase_api_Phase : CFn := ⟨19,[.tmp 4],r [V 4 (i 0)] (j (r [M 6 0,o 7 (h 6),V 8 (i 0)] (u 0 (.loop (r [o 9 (b .lss 8 7)] (j (c 9 z (.exit 0)) (j (u 1 (r [M 10 8,M 5 10] (r [M 11 1,M 12 0,M 13 5,o 14 (a 12 13 13),o 15 (L 14 13),o 16 (.callv (t 11) [t 15])] (c 16 (r [M 17 5,M 4 17] y) z)))) (R [o 18 (bb .add 8 (i 1)),M 8 18]))))))) (r [V 4 (i (-1))] y))⟩
def cc_slices_IndexFunc_2_int_2_int : CFn := ⟨19,[.tmp 4],r [V 4 (i 0)] (j (r [M 6 0,o 7 (h 6),V 8 (i 0)] (u 0 (.loop (r [o 9 (b .lss 8 7)] (j (c 9 z (.exit 0)) (j (u 1 (r [M 10 8,M 5 10] (r [M 11 1,M 12 0,M 13 5,o 14 (a 12 13 2),o 15 (L 14 2),o 16 (.callv (t 11) [t 15])] (c 16 (r [M 17 5,M 4 17] y) z)))) (R [o 18 (bb .add 8 (i 1)),M 8 18]))))))) (r [V 4 (i (-1))] y))⟩
def cc_slices_ContainsFunc_int_int (g0 : Nat) : CFn := ⟨9,[.tmp 4],r [V 4 (F)] (r [M 5 0,M 6 1,o 7 (.call g0 [t 5,t 6]),o 8 (bb .geq 7 (i 0)),M 4 8] y)⟩
def cc_table_every_int_1 : CFn := ⟨8,[.tmp 3],r [V 3 (F)] (r [o 4 (l 1),M 5 0,o 6 (.callv (t 4) [t 5]),o 7 (.un .not (t 6)),M 3 7] y)⟩
def cc_slices_IndexFunc_api_Detector_api_Detector : CFn := ⟨19,[.tmp 4],r [V 4 (i 0)] (j (r [M 6 0,o 7 (h 6),V 8 (i 0)] (u 0 (.loop (r [o 9 (b .lss 8 7)] (j (c 9 z (.exit 0)) (j (u 1 (r [M 10 8,M 5 10] (r [M 11 1,M 12 0,M 13 5,o 14 (a 12 13 7),o 15 (L 14 7),o 16 (.callv (t 11) [t 15])] (c 16 (r [M 17 5,M 4 17] y) z)))) (R [o 18 (bb .add 8 (i 1)),M 8 18]))))))) (r [V 4 (i (-1))] y))⟩
def cc_math_Signbit : CFn := ⟨7,[.tmp 2],r [V 2 (F)] (r [M 3 0,o 4 (.xt .fbits (t 3)),o 5 (.cvII .i64 (t 4)),o 6 (bb .lss 5 (i 0)),M 2 6] y)⟩
def cc_slices_IndexFunc_api_Rail_api_Rail : CFn := ⟨19,[.tmp 4],r [V 4 (i 0)] (j (r [M 6 0,o 7 (h 6),V 8 (i 0)] (u 0 (.loop (r [o 9 (b .lss 8 7)] (j (c 9 z (.exit 0)) (j (u 1 (r [M 10 8,M 5 10] (r [M 11 1,M 12 0,M 13 5,o 14 (a 12 13 11),o 15 (L 14 11),o 16 (.callv (t 11) [t 15])] (c 16 (r [M 17 5,M 4 17] y) z)))) (R [o 18 (bb .add 8 (i 1)),M 8 18]))))))) (r [V 4 (i (-1))] y))⟩
def cc_slices_IndexFunc_api_Bus_api_Bus : CFn := ⟨19,[.tmp 4],r [V 4 (i 0)] (j (r [M 6 0,o 7 (h 6),V 8 (i 0)] (u 0 (.loop (r [o 9 (b .lss 8 7)] (j (c 9 z (.exit 0)) (j (u 1 (r [M 10 8,M 5 10] (r [M 11 1,M 12 0,M 13 5,o 14 (a 12 13 2),o 15 (L 14 2),o 16 (.callv (t 11) [t 15])] (c 16 (r [M 17 5,M 4 17] y) z)))) (R [o 18 (bb .add 8 (i 1)),M 8 18]))))))) (r [V 4 (i (-1))] y))⟩
def cc_set_Of (g0 : Nat) : CFn := ⟨18,[.tmp 2],r [V 2 (i 0)] (r [V 3 (i 0)] (j (r [M 6 0,o 7 (h 6),V 8 (i 0)] (u 0 (.loop (r [o 9 (b .lss 8 7)] (j (c 9 z (.exit 0)) (j (u 1 (r [o 10 (a 6 8 1),o 11 (l 10),M 5 11] (R [M 12 3,M 13 5,o 14 (.call g0 [t 13]),o 15 (b .or 12 14),M 3 15]))) (R [o 16 (bb .add 8 (i 1)),M 8 16]))))))) (r [M 17 3,M 2 17] y)))⟩
def cc_slices_IndexFunc_int_int : CFn := ⟨19,[.tmp 4],r [V 4 (i 0)] (j (r [M 6 0,o 7 (h 6),V 8 (i 0)] (u 0 (.loop (r [o 9 (b .lss 8 7)] (j (c 9 z (.exit 0)) (j (u 1 (r [M 10 8,M 5 10] (r [M 11 1,M 12 0,M 13 5,o 14 (a 12 13 1),o 15 (l 14),o 16 (.callv (t 11) [t 15])] (c 16 (r [M 17 5,M 4 17] y) z)))) (R [o 18 (bb .add 8 (i 1)),M 8 18]))))))) (r [V 4 (i (-1))] y))⟩
end
end Go.Eng
