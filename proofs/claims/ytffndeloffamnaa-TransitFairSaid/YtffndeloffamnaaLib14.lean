/- LIBRARY, PART 14: rows of tables by numbers. -/
import Derived.Test.YtffndeloffamnaaLib13
namespace Go.Eng
set_option linter.unnecessarySimpa false
open Go
set_option linter.unusedVariables false
set_option linter.unusedSimpArgs false
set_option maxRecDepth 10000
set_option maxHeartbeats 4000000
def limN (groups g : Nat) : Nat := 8 - (groups - 1 - g)
def rowN (p m : Nat) : List Int := (List.range m).map fun (j : Nat) => ((p + j : Nat) : Int)
def cnt (l : Option (List Int)) (g k : Nat) (r0 : Nat) : Nat :=
  let n := (frm l (1 + 2 * g + k) 3).toNat
  if k = 1 ∧ n = 0 ∧ r0 = 0 then 1 else n
def fillN (n p lim : Nat) : Nat := min n (lim - p)
def rowsTo (l : Option (List Int)) (groups : Nat) : Nat → List Gr × Nat
  | 0 => ([], 0)
  | g + 1 =>
    let q := rowsTo l groups g
    let m0 := fillN (cnt l g 0 0) q.2 (limN groups g)
    let m1 := fillN (cnt l g 1 m0) (q.2 + m0) (limN groups g)
    (q.1 ++ [⟨mkO (rowN q.2 m0), mkO (rowN (q.2 + m0) m1)⟩], q.2 + m0 + m1)
def groupsN (l : Option (List Int)) : Nat := (1 + frm l 0 3).toNat
def rows.Spec (C : Con) (f : Nat) : Prop := ∀ (t : Tb) (l : Option (List Int)), t.Ok → t.groups = none → C.p f [t.cells] [none, some (slAV intRow l)] (I ((rowsTo l (groupsN l) (groupsN l)).2 : Nat)) none [({ t with groups := some (rowsTo l (groupsN l) (groupsN l)).1 } : Tb).cells]

theorem Tb.len' {t : Tb} (h1 : t.phases.length = 8) (h2 : t.conflict.length = 8) (h3 : t.flash.length = 8) : t.cells.length = 131 := by
  simp [Tb.cells, flatMap_len Ph.len, h1, h2, h3]
theorem Tb.groups_at' {t : Tb} (h : t.phases.length = 8) : t.cells[104]? = some (slAV Gr.cells t.groups) := by
  simp [Tb.cells, List.getElem?_append, flatMap_len Ph.len, h]
theorem Tb.set_groups {t : Tb} (h : t.phases.length = 8) (g : Option (List Gr)) : t.cells.take 104 ++ (slAV Gr.cells g :: t.cells.drop 105) = ({ t with groups := g } : Tb).cells := by
  have e : (t.phases.flatMap Ph.cells).length = 104 := by rw [flatMap_len Ph.len, h]
  simp only [Tb.cells]
  rw [List.take_append_of_le_length (by omega), List.take_of_length_le (by omega), List.drop_append, List.drop_of_length_le (by omega), e]
  rfl

theorem aops_ex {C : Con} {base : Nat} : ∀ {l : List CO} {i : Nat} {s : S} {K : S → Prop}, aops C base i l K s → ∃ s', K s' ∧ ∀ K' : S → Prop, K' s' → aops C base i l K' s
  | [], i, s, K, h => ⟨s, h, fun _ h => h⟩
  | o :: l, i, s, K, h => by
    rw [aops_cons] at h
    obtain ⟨v, d, hd, hk', _⟩ := astep_path h
    obtain ⟨s', h1, h2⟩ := aops_ex hk'
    refine ⟨s', h1, fun K' hK => ?_⟩
    rw [aops_cons]
    exact hd.2 s .refl _ (h2 K' hK)

theorem aw_ex {C : Con} : ∀ {c : CCode} {Q : Exit → S → Prop} {s : S}, aw C c Q s → ∃ e s', Q e s' ∧ ∀ Q' : Exit → S → Prop, Q' e s' → aw C c Q' s := by
  intro c
  induction c with
  | skip => intro Q s h; exact ⟨_, _, h, fun _ h => h⟩
  | reg ops =>
    intro Q s h
    obtain ⟨s', h1, h2⟩ := aops_ex h
    exact ⟨_, _, h1, fun Q' hq => h2 _ hq⟩
  | seq a b iha ihb =>
    intro Q s h
    obtain ⟨e, s', h1, h2⟩ := iha h
    cases e with
    | normal =>
      obtain ⟨e, s'', h3, h4⟩ := ihb h1
      exact ⟨e, s'', h3, fun Q' hq => h2 _ (h4 _ hq)⟩
    | exit i => exact ⟨_, _, h1, fun Q' hq => h2 _ hq⟩
    | ret => exact ⟨_, _, h1, fun Q' hq => h2 _ hq⟩
    | _ => exact ⟨_, _, h1, fun Q' hq => h2 _ hq⟩
  | join a b iha ihb =>
    intro Q s h
    obtain ⟨e, s', h1, h2⟩ := iha h
    cases e with
    | normal =>
      obtain ⟨s1, ⟨hl, hF⟩ | hF⟩ := h1
      · obtain ⟨e, s'', h3, h4⟩ := ihb hF
        exact ⟨e, s'', h3, fun Q' hq => h2 _ ⟨s1, .inl ⟨hl, h4 _ hq⟩⟩⟩
      · obtain ⟨e, s'', h3, h4⟩ := ihb hF
        exact ⟨e, s'', h3, fun Q' hq => h2 _ ⟨s1, .inr (h4 _ hq)⟩⟩
    | exit i => exact ⟨_, _, h1, fun Q' hq => h2 _ hq⟩
    | ret => exact ⟨_, _, h1, fun Q' hq => h2 _ hq⟩
    | _ => exact ⟨_, _, h1, fun Q' hq => h2 _ hq⟩
  | cond c a b iha ihb =>
    intro Q s h
    simp only [aw] at h ⊢
    obtain ⟨v, hv, hw⟩ := withV_inv h
    cases v <;> try (exact hw.elim)
    rename_i t
    cases t with
    | true =>
      obtain ⟨e, s', h1, h2⟩ := iha (hw.1 rfl)
      exact ⟨e, s', h1, fun Q' hq => by rw [hv]; exact ⟨fun _ => h2 _ hq, fun h => by cases h⟩⟩
    | false =>
      obtain ⟨e, s', h1, h2⟩ := ihb (hw.2 rfl)
      exact ⟨e, s', h1, fun Q' hq => by rw [hv]; exact ⟨fun h => (by cases h), fun _ => h2 _ hq⟩⟩
  | block id c ih =>
    intro Q s h
    obtain ⟨e, s', h1, h2⟩ := ih h
    cases e with
    | exit i =>
      simp only [ablock] at h1
      by_cases hi : i = id
      · rw [if_pos hi] at h1
        exact ⟨_, _, h1, fun Q' hq => h2 _ (by simp only [ablock, if_pos hi]; exact hq)⟩
      · rw [if_neg hi] at h1
        exact ⟨_, _, h1, fun Q' hq => h2 _ (by simp only [ablock, if_neg hi]; exact hq)⟩
    | _ => exact ⟨_, _, h1, fun Q' hq => h2 _ hq⟩
  | loop c ih =>
    have key : ∀ (n : Nat) {Q : Exit → S → Prop} {s : S}, ARounds (aw C c) Q n s → ∃ e s', Q e s' ∧ ∀ Q' : Exit → S → Prop, Q' e s' → ARounds (aw C c) Q' n s := by
      intro n
      induction n with
      | zero => intro Q s h; exact h.elim
      | succ n ihn =>
        intro Q s h
        obtain ⟨e, s', h1, h2⟩ := ih h
        cases e with
        | normal =>
          obtain ⟨s1, ⟨hl, hF⟩ | hF⟩ := h1
          · obtain ⟨e, s'', h3, h4⟩ := ihn hF
            exact ⟨e, s'', h3, fun Q' hq => h2 _ ⟨s1, .inl ⟨hl, h4 _ hq⟩⟩⟩
          · obtain ⟨e, s'', h3, h4⟩ := ihn hF
            exact ⟨e, s'', h3, fun Q' hq => h2 _ ⟨s1, .inr (h4 _ hq)⟩⟩
        | exit i => exact ⟨_, _, h1, fun Q' hq => h2 _ hq⟩
        | ret => exact ⟨_, _, h1, fun Q' hq => h2 _ hq⟩
        | _ => exact ⟨_, _, h1, fun Q' hq => h2 _ hq⟩
    intro Q s h
    obtain ⟨s1, ⟨hl, n, hF⟩ | ⟨n, hF⟩⟩ := h
    · obtain ⟨e, s'', h3, h4⟩ := key n hF
      exact ⟨e, s'', h3, fun Q' hq => ⟨s1, .inl ⟨hl, n, h4 _ hq⟩⟩⟩
    · obtain ⟨e, s'', h3, h4⟩ := key n hF
      exact ⟨e, s'', h3, fun Q' hq => ⟨s1, .inr ⟨n, h4 _ hq⟩⟩⟩
  | exit id => intro Q s h; exact ⟨_, _, h, fun _ h => h⟩
  | ret => intro Q s h; exact ⟨_, _, h, fun _ h => h⟩
  | regD ops bad =>
    intro Q s h
    obtain ⟨s', h1, h2⟩ := aops_ex h.2
    exact ⟨_, _, h1, fun Q' hq => ⟨h.1, h2 _ hq⟩⟩
  | rfor g ps wr as bd iha ihb =>
    intro Q s h
    simp only [aw] at h
    obtain ⟨gv, hgv, xs, h1, h2, F, h3, h4, h5, h6⟩ := withV_inv h
    have mono : ∀ {F F' : S → Prop} {Q : Exit → S → Prop} {t : S}, (∀ s, F s → F' s) → aw C as (onlyN (aw C bd (rfQ wr F Q))) t → aw C as (onlyN (aw C bd (rfQ wr F' Q))) t := by
      intro F F' Q t hF h
      refine aw_mono (fun e s ha => ?_) h
      cases e <;> first | exact ha.elim | skip
      refine aw_mono (fun e s hb => ?_) ha
      cases e <;> first | exact down_mono hF hb | exact hb
    have key : ∀ n i s', xs.length - i = n → i ≤ xs.length → F i s' → ∃ e s'', Q e s'' ∧ ∀ Q' : Exit → S → Prop, Q' e s'' → ∃ F' : Nat → S → Prop, F' i s' ∧ (∀ j t, F' j t → i ≤ j ∧ opdA t g = some gv) ∧
        (∀ j x t, xs[j]? = some x → F' j t → aw C as (onlyN (aw C bd (rfQ wr (F' (j + 1)) Q'))) (putPs ps x t)) ∧ ∀ t, F' xs.length t → Q' .normal t := by
      intro n
      induction n with
      | zero =>
        intro i s' hn hi hF
        have hi : i = xs.length := by omega
        subst hi
        exact ⟨.normal, s', h6 s' hF, fun Q' hq => ⟨fun j t => j = xs.length ∧ t = s', ⟨rfl, rfl⟩, fun j t ⟨e, e'⟩ => by subst e; subst e'; exact ⟨Nat.le_refl _, h4 _ _ hF⟩,
          fun j x t hx ⟨e, _⟩ => by subst e; simp at hx, fun t ⟨_, e⟩ => by subst e; exact hq⟩⟩
      | succ n ih =>
        intro i s' hn hi hF
        have hlt : i < xs.length := by omega
        have hx : xs[i]? = some xs[i] := by simp [hlt]
        obtain ⟨e1, s1, k1, k2⟩ := iha (h5 i _ s' hx hF)
        cases e1 <;> try exact k1.elim
        obtain ⟨e2, s2, k3, k4⟩ := ihb k1
        have stop : ∀ (e : Exit) (s'' : S), Q e s'' → (∀ (F' : S → Prop) (Q' : Exit → S → Prop), Q' e s'' → rfQ wr F' Q' e2 s2) → ∃ e s'', Q e s'' ∧ ∀ Q' : Exit → S → Prop, Q' e s'' → ∃ F' : Nat → S → Prop, F' i s' ∧ (∀ j t, F' j t → i ≤ j ∧ opdA t g = some gv) ∧
            (∀ j x t, xs[j]? = some x → F' j t → aw C as (onlyN (aw C bd (rfQ wr (F' (j + 1)) Q'))) (putPs ps x t)) ∧ ∀ t, F' xs.length t → Q' .normal t := by
          intro e s'' hq hr
          refine ⟨e, s'', hq, fun Q' hq' => ⟨fun j t => j = i ∧ t = s', ⟨rfl, rfl⟩, fun j t ⟨e, e'⟩ => by subst e; subst e'; exact ⟨Nat.le_refl _, h4 _ _ hF⟩, fun j x t hx' ⟨e, e'⟩ => ?_, fun t ⟨e, _⟩ => by omega⟩⟩
          subst e; subst e'
          rw [hx] at hx'; cases hx'
          exact k2 _ (k4 _ (hr _ _ hq'))
        cases e2 with
        | normal =>
          obtain ⟨s3, hs3⟩ : ∃ s3, F (i + 1) s3 ∧ (Le (cutS wr s2) s3 ∨ s3 = cutS wr s2) := by
            obtain ⟨s3, ⟨hl, hf⟩ | hf⟩ := (show Eng.down (F (i + 1)) (cutS wr s2) from k3)
            · exact ⟨s3, hf, .inl hl⟩
            · exact ⟨_, hf, .inr rfl⟩
          obtain ⟨e, s'', hq, hre⟩ := ih (i + 1) s3 (by omega) (by omega) hs3.1
          refine ⟨e, s'', hq, fun Q' hq' => ?_⟩
          obtain ⟨F'', g1, g2, g3, g4⟩ := hre Q' hq'
          refine ⟨fun j t => (j = i ∧ t = s') ∨ F'' j t, .inl ⟨rfl, rfl⟩, fun j t ht => ?_, fun j x t hx' ht => ?_, fun t ht => ?_⟩
          · rcases ht with ⟨rfl, rfl⟩ | ht
            · exact ⟨Nat.le_refl _, h4 _ _ hF⟩
            · exact ⟨by have := (g2 j t ht).1; omega, (g2 j t ht).2⟩
          · rcases ht with ⟨rfl, rfl⟩ | ht
            · rw [hx] at hx'; cases hx'
              refine k2 _ (k4 _ (show Eng.down _ _ from ?_))
              rcases hs3.2 with hl | hl
              · exact ⟨s3, .inl ⟨hl, .inr g1⟩⟩
              · rw [← hl]; exact down_refl (.inr g1)
            · exact mono (fun _ h => .inr h) (g3 j x t hx' ht)
          · rcases ht with ⟨e, _⟩ | ht
            · omega
            · exact g4 t ht
        | ret => exact stop .ret _ k3 fun _ _ h => h
        | exit id => exact stop (.exit id) _ k3 fun _ _ h => h
        | _ => exact k3.elim
    obtain ⟨s0, h0⟩ : ∃ s0, F 0 s0 ∧ (Le s s0 ∨ s0 = s) := by
      obtain ⟨s0, ⟨hl, hf⟩ | hf⟩ := h3
      · exact ⟨s0, hf, .inl hl⟩
      · exact ⟨_, hf, .inr rfl⟩
    obtain ⟨e, s'', hq, hre⟩ := key _ 0 s0 rfl (Nat.zero_le _) h0.1
    refine ⟨e, s'', hq, fun Q' hq' => ?_⟩
    obtain ⟨F', g1, g2, g3, g4⟩ := hre Q' hq'
    simp only [aw, hgv]
    refine ⟨xs, h1, h2, F', ?_, fun j t ht => (g2 j t ht).2, g3, g4⟩
    rcases h0.2 with hl | hl
    · exact ⟨s0, .inl ⟨hl, g1⟩⟩
    · rw [← hl]; exact down_refl g1

/-- one round of a loop -/
theorem aw_unroll {C : Con} {c : CCode} {Q : Exit → S → Prop} {s : S} (h : aw C c (athen (aw C (.loop c) Q) Q) s) : aw C (.loop c) Q s := by
  obtain ⟨e, s', h1, h2⟩ := aw_ex h
  cases e with
  | normal =>
    obtain ⟨s1, ⟨hl, n, hF⟩ | ⟨n, hF⟩⟩ := h1
    · exact down_refl ⟨n + 1, h2 _ ⟨s1, .inl ⟨hl, hF⟩⟩⟩
    · exact down_refl ⟨n + 1, h2 _ ⟨s1, .inr hF⟩⟩
  | exit i => exact down_refl ⟨1, h2 _ h1⟩
  | ret => exact down_refl ⟨1, h2 _ h1⟩
  | _ => exact down_refl ⟨1, h2 _ h1⟩

theorem rowN_succ (p i : Nat) : rowN p (i + 1) = rowN p i ++ [((p + i : Nat) : Int)] := by simp [rowN, List.range_succ]
theorem rowsTo_le (l : Option (List Int)) (G : Nat) : ∀ g, (rowsTo l G g).2 ≤ 8
  | 0 => by simp [rowsTo]
  | g + 1 => by
    have := rowsTo_le l G g
    simp only [rowsTo, fillN, limN]
    omega
theorem rowsTo_len (l : Option (List Int)) (G : Nat) : ∀ g, (rowsTo l G g).1.length = g
  | 0 => by simp [rowsTo]
  | g + 1 => by
    have := rowsTo_len l G g
    simp only [rowsTo, List.length_append, List.length_cons, List.length_nil]
    omega

/-- a part of the code, then what follows at a join: the way is cut at states that are written out -/
def Cut {α : Type} (ex : Exit) (st : α → S) (J : α → Prop) (e : Exit) (s : S) : Prop := e = ex ∧ ∃ y, J y ∧ Le s (st y)
theorem cut_at {α : Type} {ex : Exit} {st : α → S} {J : α → Prop} {s : S} (y : α) (hy : J y) (hle : Le s (st y)) : Cut ex st J ex s := ⟨rfl, y, hy, hle⟩
theorem aw_cut {C : Con} {c : CCode} {Q : Exit → S → Prop} {s : S} {F : S → Prop} {α : Type} (ex : Exit) (st : α → S) (J : α → Prop) (hQ : ∀ s', Q ex s' = down F s') (h1 : aw C c (Cut ex st J) s) (h2 : ∀ y, J y → F (st y)) : aw C c Q s := by
  refine aw_mono ?_ h1
  rintro e s' ⟨rfl, y, hy, hle⟩
  rw [hQ]
  exact ⟨st y, .inl ⟨hle, h2 y hy⟩⟩
theorem wrap_01 : IntKind.i64.wrap (0 + 1) = 1 := by decide
theorem wrap_11 : IntKind.i64.wrap (1 + 1) = 2 := by decide
theorem slAV_none {α : Type} (f : α → List AV) : slAV f none = .nils := rfl
theorem slAV_some {α : Type} (f : α → List AV) (l : List α) : slAV f (some l) = .sl (l.map f) := rfl

section
variable {P : Program} (hm : P.follows .mixedOrders = true) {f : Nat}
include hm
theorem rows.ok {fF e eR : Nat} (hc : cFn P f = some (cc_law00_rows fF e eR)) (hF : from.Spec (Pure P) fF) : rows.Spec (Pure P) f := by
  intro t l ht hg0
  have hl := Tb.len ht
  have hp := Tb.whole ht
  refine pureB_of hm hc (by show 2 ≤ 78; decide) rfl (by simp) (aw_flat (keep := [3,5]) (i := 0) ?_)
  try simp only [I, B, D, RW, ↓ KW, fillA, setCells, stTags, flat, Nat.reduceBEq, Nat.reduceAdd, Nat.reduceLeDiff, Int.reduceNe, Int.reduceBEq, Int.reduceEq, reduceCtorEq, Nat.reduceMul, Int.reduceLT, Int.reduceLE, Int.reduceToNat, cc_law00_rows]
  have hgr := frm_range l 0 (n := 3) (by decide) (by decide)
  refine call_is (hF _ _ _ (by decide)) ?_
  try simp only [I, B, D, RW, ↓ KW, fillA, setCells, stTags, flat, Nat.reduceBEq, Nat.reduceAdd, Nat.reduceLeDiff, Int.reduceNe, Int.reduceBEq, Int.reduceEq, reduceCtorEq, Nat.reduceMul, Int.reduceLT, Int.reduceLE, Int.reduceToNat]
  have hgn : IntKind.i64.wrap (1 + frm l 0 3) = (groupsN l : Nat) := by
    rw [wrap_id (by omega) (by omega), groupsN]; omega
  have hg3 : 1 ≤ groupsN l ∧ groupsN l ≤ 3 := by unfold groupsN; omega
  rw [hgn]
  generalize groupsN l = G at *
  refine aw_loop' (fun g : Nat => (⟨[(7, .dat (I g) none), (5, .dat (I G) none), (1, .dat (slAV intRow l) none), (6, .dat (I (rowsTo l G g).2) none), (0, .ptr 0 0)], [(0, ⟨({ t with groups := mkO (rowsTo l G g).1 } : Tb).cells, if (rowsTo l G g).1 = [] then [] else [(104, 0)]⟩)], ownL (rowsTo l G g).1 0 eR, 400⟩ : S)) (fun g => G - g) (fun g => g ≤ G) ?_ 0 (by omega) ?_
  · intro g hg A back
    have hw := wrap_succ (k := g) (by omega)
    have hn2 : rowsTo l G (g + 1) = ((rowsTo l G g).1 ++ [⟨mkO (rowN (rowsTo l G g).2 (fillN (cnt l g 0 0) (rowsTo l G g).2 (limN G g))), mkO (rowN ((rowsTo l G g).2 + fillN (cnt l g 0 0) (rowsTo l G g).2 (limN G g)) (fillN (cnt l g 1 (fillN (cnt l g 0 0) (rowsTo l G g).2 (limN G g))) ((rowsTo l G g).2 + fillN (cnt l g 0 0) (rowsTo l G g).2 (limN G g)) (limN G g)))⟩], (rowsTo l G g).2 + fillN (cnt l g 0 0) (rowsTo l G g).2 (limN G g) + fillN (cnt l g 1 (fillN (cnt l g 0 0) (rowsTo l G g).2 (limN G g))) ((rowsTo l G g).2 + fillN (cnt l g 0 0) (rowsTo l G g).2 (limN G g)) (limN G g)) := rfl
    have hp8 : (rowsTo l G g).2 ≤ 8 := rowsTo_le l G g
    have hgl : (rowsTo l G g).1.length = g := rowsTo_len l G g
    generalize hR : rowsTo l G g = R at *
    obtain ⟨gs, p⟩ := R
    simp only at hn2 hp8 hgl
    have hc0 : frm l (1 + 2 * (g : Int) + 0) 3 = (cnt l g 0 0 : Nat) := by
      have := frm_range l (1 + 2 * (g : Int) + 0) (n := 3) (by decide) (by decide)
      have hc : cnt l g 0 0 = (frm l (1 + 2 * (g : Int) + 0) 3).toNat := by simp [cnt]
      rw [hc]; omega
    have hw1 : IntKind.i64.wrap (IntKind.i64.wrap (1 + IntKind.i64.wrap (2 * (g : Int))) + 0) = 1 + 2 * (g : Int) + 0 := by
      rw [wrap_id (n := 2 * (g : Int)) (by omega) (by omega), wrap_id (n := 1 + 2 * (g : Int)) (by omega) (by omega), wrap_id (by omega) (by omega)]
    have hw2 : IntKind.i64.wrap (IntKind.i64.wrap (1 + IntKind.i64.wrap (2 * (g : Int))) + 1) = 1 + 2 * (g : Int) + 1 := by
      rw [wrap_id (n := 2 * (g : Int)) (by omega) (by omega), wrap_id (n := 1 + 2 * (g : Int)) (by omega) (by omega), wrap_id (by omega) (by omega)]
    have hlim : IntKind.i64.wrap (8 - IntKind.i64.wrap (IntKind.i64.wrap ((G : Int) - 1) - (g : Int))) = if g < G then ((limN G g : Nat) : Int) else (8 - ((G : Int) - 1 - g) : Int) := by
      rw [wrap_id (n := (G : Int) - 1) (by omega) (by omega), wrap_id (n := (G : Int) - 1 - g) (by omega) (by omega), wrap_id (by omega) (by omega)]
      split <;> simp [limN] <;> omega
    by_cases hgs : gs = []
    all_goals
      try simp only [I, B, D, RW, ↓ KW, fillA, setCells, stTags, flat, Nat.reduceBEq, Nat.reduceAdd, Nat.reduceLeDiff, Int.reduceNe, Int.reduceBEq, Int.reduceEq, reduceCtorEq, Nat.reduceMul, Int.reduceLT, Int.reduceLE, Int.reduceToNat, hgs, ownL, mkO]
      refine cd_split (fun h => ?_) (fun h => ?_) <;> try simp only [I, B, D, RW, ↓ KW, fillA, setCells, stTags, flat, Nat.reduceBEq, Nat.reduceAdd, Nat.reduceLeDiff, Int.reduceNe, Int.reduceBEq, Int.reduceEq, reduceCtorEq, Nat.reduceMul, Int.reduceLT, Int.reduceLE, Int.reduceToNat, hgs, ownL, mkO, h]
      · have hlt : g < G := by have := of_decide_eq_true h; omega
        rw [if_pos hlt] at hlim
        generalize hc0' : cnt l g 0 0 = n0 at *
        refine aw_cut (.exit 2) (fun _ : Unit => (⟨[(6, .dat (I (p + fillN n0 p (limN G g) + fillN (cnt l g 1 (fillN n0 p (limN G g))) (p + fillN n0 p (limN G g)) (limN G g) : Nat)) none), (5, .dat (I G) none), (7, .dat (I g) none), (8, .ptr 403 0), (1, .dat (slAV intRow l) none), (0, .ptr 0 0)], [(403, ⟨[slAV intRow (mkO (rowN p (fillN n0 p (limN G g)))), slAV intRow (mkO (rowN (p + fillN n0 p (limN G g)) (fillN (cnt l g 1 (fillN n0 p (limN G g))) (p + fillN n0 p (limN G g)) (limN G g))))], []⟩), (0, ⟨({ t with groups := mkO gs } : Tb).cells, if gs = [] then [] else [(104, 0)]⟩)], ownL gs 0 eR, 1000⟩ : S)) (fun _ => True) (fun _ => rfl) ?_ ?_
        · refine aw_unroll ?_
          try simp only [I, B, D, RW, ↓ KW, fillA, setCells, stTags, flat, Nat.reduceBEq, Nat.reduceAdd, Nat.reduceLeDiff, Int.reduceNe, Int.reduceBEq, Int.reduceEq, reduceCtorEq, Nat.reduceMul, Int.reduceLT, Int.reduceLE, Int.reduceToNat, hgs]
          refine call_is (hF _ _ _ (by decide)) ?_
          try simp only [I, B, D, RW, ↓ KW, fillA, setCells, stTags, flat, Nat.reduceBEq, Nat.reduceAdd, Nat.reduceLeDiff, Int.reduceNe, Int.reduceBEq, Int.reduceEq, reduceCtorEq, Nat.reduceMul, Int.reduceLT, Int.reduceLE, Int.reduceToNat, hw1, hc0, hgs]
          refine aw_cut (.exit 4) (fun _ : Unit => (⟨[(9, .dat (I 0) none), (6, .dat (I (p + fillN n0 (p) (limN G g) : Nat)) none), (5, .dat (I G) none), (7, .dat (I g) none), (8, .ptr 403 0), (1, .dat (slAV intRow l) none), (0, .ptr 0 0)], [(403, ⟨[slAV intRow (mkO (rowN (p) (fillN n0 (p) (limN G g)))), .nils], []⟩), (0, ⟨({ t with groups := mkO gs } : Tb).cells, if gs = [] then [] else [(104, 0)]⟩)], ownL gs 0 eR, 1000⟩ : S)) (fun _ => True) (fun _ => rfl) ?_ ?_
          · refine aw_loop' (fun i : Nat => (⟨[(11, .dat (I i) none), (10, .dat (I n0) none), (6, .dat (I (p + i : Nat)) none), (5, .dat (I G) none), (7, .dat (I g) none), (9, .dat (I 0) none), (8, .ptr 403 0), (1, .dat (slAV intRow l) none), (0, .ptr 0 0)], [(403, ⟨[slAV intRow (mkO (rowN (p) i)), .nils], if rowN (p) i = [] then [] else [(0, 1)]⟩), (0, ⟨({ t with groups := mkO gs } : Tb).cells, if gs = [] then [] else [(104, 0)]⟩)], ownL (rowN (p) i) 1 e ++ ownL gs 0 eR, 1000⟩ : S)) (fun i => fillN n0 (p) (limN G g) - i) (fun i => i ≤ fillN n0 (p) (limN G g)) ?_ 0 (by omega) ?_
            · intro i hi A1 back1
              have hfl : fillN n0 (p) (limN G g) ≤ 8 := by simp only [fillN, limN]; omega
              have hw3 := wrap_succ (k := i) (by omega)
              have hf : fillN n0 (p) (limN G g) = min n0 (limN G g - (p)) := rfl
              have hp1 : IntKind.i64.wrap (((p + i : Nat) : Int) + 1) = ((p + (i + 1) : Nat) : Int) := by rw [wrap_id (by omega) (by omega)]; omega
              have hrl : (rowN (p) i).length = i := by simp [rowN]
              by_cases hl : rowN (p) i = []
              · try simp only [I, B, D, RW, ↓ KW, fillA, setCells, stTags, flat, Nat.reduceBEq, Nat.reduceAdd, Nat.reduceLeDiff, Int.reduceNe, Int.reduceBEq, Int.reduceEq, reduceCtorEq, Nat.reduceMul, Int.reduceLT, Int.reduceLE, Int.reduceToNat, hl, ownL, mkO, hlim, hgs]
                repeat' (first | (refine gd_split (fun h => ?_) (fun h => ?_) <;> try simp only [I, B, D, RW, ↓ KW, fillA, setCells, stTags, flat, Nat.reduceBEq, Nat.reduceAdd, Nat.reduceLeDiff, Int.reduceNe, Int.reduceBEq, Int.reduceEq, reduceCtorEq, Nat.reduceMul, Int.reduceLT, Int.reduceLE, Int.reduceToNat, slAV_none, slAV_some, hlim, hl, hgs, hp1, h]) | (refine cd_split (fun h => ?_) (fun h => ?_) <;> try simp only [I, B, D, RW, ↓ KW, fillA, setCells, stTags, flat, Nat.reduceBEq, Nat.reduceAdd, Nat.reduceLeDiff, Int.reduceNe, Int.reduceBEq, Int.reduceEq, reduceCtorEq, Nat.reduceMul, Int.reduceLT, Int.reduceLE, Int.reduceToNat, slAV_none, slAV_some, hlim, hl, hgs, hp1, h]) | (refine pk_split (fun h => ?_) (fun h => ?_) <;> try simp only [I, B, D, RW, ↓ KW, fillA, setCells, stTags, flat, Nat.reduceBEq, Nat.reduceAdd, Nat.reduceLeDiff, Int.reduceNe, Int.reduceBEq, Int.reduceEq, reduceCtorEq, Nat.reduceMul, Int.reduceLT, Int.reduceLE, Int.reduceToNat, slAV_none, slAV_some, hlim, hl, hgs, hp1, h]))
                · have h1 := of_decide_eq_true h
                  refine ⟨by decide, ?_⟩
                  refine ⟨by decide, ?_⟩
                  have h2 : (i : Int) < n0 := by rename_i h2; exact of_decide_eq_true h2
                  refine back1 (i + 1) _ (by omega) (by omega) (le_tok2 (by decide) ?_ ?_ ?_ ?_) <;> simp [intRow, ownSV, ownL, leSlots, lv_dat, lv_tok, lv_ptr, lv_rp, lv_undef, leBoxes, leTags, leLive, tokM, tokB, tokT, ren, liveInj, r_lk, r_lkN, r_lkB, r_lkN0, I, B, D, withV_some, hw3, rowN_succ, hl, mkO, slAV_none, slAV_some, hgs]
                · have h1 := of_decide_eq_false h
                  have : i = fillN n0 (p) (limN G g) := by omega
                  rw [← this]
                  refine cut_at () trivial ?_
                  refine le_tok2 (by decide) ?_ ?_ ?_ ?_ <;> simp [intRow, ownSV, ownL, leSlots, lv_dat, lv_tok, lv_ptr, lv_rp, lv_undef, leBoxes, leTags, leLive, tokM, tokB, tokT, ren, liveInj, r_lk, r_lkN, r_lkB, r_lkN0, I, B, D, withV_some, hl, mkO, slAV_none, slAV_some, hgs]
                · have h1 := of_decide_eq_false h
                  have : i = fillN n0 (p) (limN G g) := by omega
                  rw [← this]
                  refine cut_at () trivial ?_
                  refine le_tok2 (by decide) ?_ ?_ ?_ ?_ <;> simp [intRow, ownSV, ownL, leSlots, lv_dat, lv_tok, lv_ptr, lv_rp, lv_undef, leBoxes, leTags, leLive, tokM, tokB, tokT, ren, liveInj, r_lk, r_lkN, r_lkB, r_lkN0, I, B, D, withV_some, hl, mkO, slAV_none, slAV_some, hgs]
              · try simp only [I, B, D, RW, ↓ KW, fillA, setCells, stTags, flat, Nat.reduceBEq, Nat.reduceAdd, Nat.reduceLeDiff, Int.reduceNe, Int.reduceBEq, Int.reduceEq, reduceCtorEq, Nat.reduceMul, Int.reduceLT, Int.reduceLE, Int.reduceToNat, hl, ownL, mkO, hlim, hgs]
                repeat' (first | (refine gd_split (fun h => ?_) (fun h => ?_) <;> try simp only [I, B, D, RW, ↓ KW, fillA, setCells, stTags, flat, Nat.reduceBEq, Nat.reduceAdd, Nat.reduceLeDiff, Int.reduceNe, Int.reduceBEq, Int.reduceEq, reduceCtorEq, Nat.reduceMul, Int.reduceLT, Int.reduceLE, Int.reduceToNat, slAV_none, slAV_some, hlim, hl, hgs, hp1, h]) | (refine cd_split (fun h => ?_) (fun h => ?_) <;> try simp only [I, B, D, RW, ↓ KW, fillA, setCells, stTags, flat, Nat.reduceBEq, Nat.reduceAdd, Nat.reduceLeDiff, Int.reduceNe, Int.reduceBEq, Int.reduceEq, reduceCtorEq, Nat.reduceMul, Int.reduceLT, Int.reduceLE, Int.reduceToNat, slAV_none, slAV_some, hlim, hl, hgs, hp1, h]) | (refine pk_split (fun h => ?_) (fun h => ?_) <;> try simp only [I, B, D, RW, ↓ KW, fillA, setCells, stTags, flat, Nat.reduceBEq, Nat.reduceAdd, Nat.reduceLeDiff, Int.reduceNe, Int.reduceBEq, Int.reduceEq, reduceCtorEq, Nat.reduceMul, Int.reduceLT, Int.reduceLE, Int.reduceToNat, slAV_none, slAV_some, hlim, hl, hgs, hp1, h]))
                · have h1 := of_decide_eq_true h
                  refine ⟨by decide, by omega, by decide, ?_⟩
                  have h2 : (i : Int) < n0 := by rename_i h2; exact of_decide_eq_true h2
                  refine back1 (i + 1) _ (by omega) (by omega) (le_tok2 (by decide) ?_ ?_ ?_ ?_) <;> simp [intRow, ownSV, ownL, leSlots, lv_dat, lv_tok, lv_ptr, lv_rp, lv_undef, leBoxes, leTags, leLive, tokM, tokB, tokT, ren, liveInj, r_lk, r_lkN, r_lkB, r_lkN0, I, B, D, withV_some, hw3, rowN_succ, hl, mkO, slAV_none, slAV_some, hgs]
                · have h1 := of_decide_eq_false h
                  have : i = fillN n0 (p) (limN G g) := by omega
                  rw [← this]
                  refine cut_at () trivial ?_
                  refine le_tok2 (by decide) ?_ ?_ ?_ ?_ <;> simp [intRow, ownSV, ownL, leSlots, lv_dat, lv_tok, lv_ptr, lv_rp, lv_undef, leBoxes, leTags, leLive, tokM, tokB, tokT, ren, liveInj, r_lk, r_lkN, r_lkB, r_lkN0, I, B, D, withV_some, hl, mkO, slAV_none, slAV_some, hgs]
                · have h1 := of_decide_eq_false h
                  have : i = fillN n0 (p) (limN G g) := by omega
                  rw [← this]
                  refine cut_at () trivial ?_
                  refine le_tok2 (by decide) ?_ ?_ ?_ ?_ <;> simp [intRow, ownSV, ownL, leSlots, lv_dat, lv_tok, lv_ptr, lv_rp, lv_undef, leBoxes, leTags, leLive, tokM, tokB, tokT, ren, liveInj, r_lk, r_lkN, r_lkB, r_lkN0, I, B, D, withV_some, hl, mkO, slAV_none, slAV_some, hgs]
            · refine le_tok2 (by decide) ?_ ?_ ?_ ?_ <;> simp [intRow, ownSV, ownL, leSlots, lv_dat, lv_tok, lv_ptr, lv_rp, lv_undef, leBoxes, leTags, leLive, tokM, tokB, tokT, ren, liveInj, r_lk, r_lkN, r_lkB, r_lkN0, I, B, D, withV_some, rowN, mkO, slAV_none, slAV_some, hgs]
          · intro _ _
            generalize hm0 : fillN n0 p (limN G g) = m0 at *
            have hrow0 : (mkO (rowN p m0)).getD [] = rowN p m0 := mkO_getD _
            have hrl0 : (rowN p m0).length = m0 := by simp [rowN]
            have hm8 : m0 ≤ 8 := by rw [← hm0]; simp only [fillN, limN]; omega
            try simp only [I, B, D, RW, ↓ KW, fillA, setCells, stTags, flat, Nat.reduceBEq, Nat.reduceAdd, Nat.reduceLeDiff, Int.reduceNe, Int.reduceBEq, Int.reduceEq, reduceCtorEq, Nat.reduceMul, Int.reduceLT, Int.reduceLE, Int.reduceToNat, hgs]
            refine aw_unroll ?_
            try simp only [I, B, D, RW, ↓ KW, fillA, setCells, stTags, flat, Nat.reduceBEq, Nat.reduceAdd, Nat.reduceLeDiff, Int.reduceNe, Int.reduceBEq, Int.reduceEq, reduceCtorEq, Nat.reduceMul, Int.reduceLT, Int.reduceLE, Int.reduceToNat, hgs, wrap_01]
            refine call_is (hF _ _ _ (by decide)) ?_
            try simp only [I, B, D, RW, ↓ KW, fillA, setCells, stTags, flat, Nat.reduceBEq, Nat.reduceAdd, Nat.reduceLeDiff, Int.reduceNe, Int.reduceBEq, Int.reduceEq, reduceCtorEq, Nat.reduceMul, Int.reduceLT, Int.reduceLE, Int.reduceToNat, hw2, hgs]
            have hr2 := frm_range l (1 + 2 * (g : Int) + 1) (n := 3) (by decide) (by decide)
            have hcn0 : cnt l g 1 m0 = if (frm l (1 + 2 * (g : Int) + 1) 3).toNat = 0 ∧ m0 = 0 then 1 else (frm l (1 + 2 * (g : Int) + 1) 3).toNat := by simp [cnt]
            generalize frm l (1 + 2 * (g : Int) + 1) 3 = fr1 at *
            generalize hn1 : cnt l g 1 m0 = n1 at *
            repeat' (first | (refine gd_split (fun h => ?_) (fun h => ?_) <;> try simp only [I, B, D, RW, ↓ KW, fillA, setCells, stTags, flat, Nat.reduceBEq, Nat.reduceAdd, Nat.reduceLeDiff, Int.reduceNe, Int.reduceBEq, Int.reduceEq, reduceCtorEq, Nat.reduceMul, Int.reduceLT, Int.reduceLE, Int.reduceToNat, hrow0, hrl0, hgs, h]) | (refine cd_split (fun h => ?_) (fun h => ?_) <;> try simp only [I, B, D, RW, ↓ KW, fillA, setCells, stTags, flat, Nat.reduceBEq, Nat.reduceAdd, Nat.reduceLeDiff, Int.reduceNe, Int.reduceBEq, Int.reduceEq, reduceCtorEq, Nat.reduceMul, Int.reduceLT, Int.reduceLE, Int.reduceToNat, hrow0, hrl0, hgs, h]) | (refine pk_split (fun h => ?_) (fun h => ?_) <;> try simp only [I, B, D, RW, ↓ KW, fillA, setCells, stTags, flat, Nat.reduceBEq, Nat.reduceAdd, Nat.reduceLeDiff, Int.reduceNe, Int.reduceBEq, Int.reduceEq, reduceCtorEq, Nat.reduceMul, Int.reduceLT, Int.reduceLE, Int.reduceToNat, hrow0, hrl0, hgs, h]))
            · have hfr : fr1 = 0 := by simpa using h
              refine ⟨by decide, ?_⟩
              refine cd_split (fun hz => ?_) (fun hz => ?_) <;> try simp only [I, B, D, RW, ↓ KW, fillA, setCells, stTags, flat, Nat.reduceBEq, Nat.reduceAdd, Nat.reduceLeDiff, Int.reduceNe, Int.reduceBEq, Int.reduceEq, reduceCtorEq, Nat.reduceMul, Int.reduceLT, Int.reduceLE, Int.reduceToNat, hgs, hz]
              · have hz : m0 = 0 := by simpa using hz
                have hcn : (n1 : Int) = 1 := by rw [hcn0, if_pos ⟨by omega, hz⟩]; rfl
                refine aw_cut (.exit 4) (fun _ : Unit => (⟨[(9, .dat (I 1) none), (6, .dat (I (p + m0 + fillN n1 (p + m0) (limN G g) : Nat)) none), (5, .dat (I G) none), (7, .dat (I g) none), (8, .ptr 403 0), (1, .dat (slAV intRow l) none), (0, .ptr 0 0)], [(403, ⟨[slAV intRow (mkO (rowN p m0)), slAV intRow (mkO (rowN (p + m0) (fillN n1 (p + m0) (limN G g))))], []⟩), (0, ⟨({ t with groups := mkO gs } : Tb).cells, if gs = [] then [] else [(104, 0)]⟩)], ownL gs 0 eR, 1000⟩ : S)) (fun _ => True) (fun _ => rfl) ?_ ?_
                · refine aw_loop' (fun i : Nat => (⟨[(11, .dat (I i) none), (10, .dat (I n1) none), (6, .dat (I (p + m0 + i : Nat)) none), (5, .dat (I G) none), (7, .dat (I g) none), (9, .dat (I 1) none), (8, .ptr 403 0), (1, .dat (slAV intRow l) none), (0, .ptr 0 0)], [(403, ⟨[slAV intRow (mkO (rowN p m0)), slAV intRow (mkO (rowN (p + m0) i))], if rowN (p + m0) i = [] then [] else [(1, 1)]⟩), (0, ⟨({ t with groups := mkO gs } : Tb).cells, if gs = [] then [] else [(104, 0)]⟩)], ownL (rowN (p + m0) i) 1 e ++ ownL gs 0 eR, 1000⟩ : S)) (fun i => fillN n1 (p + m0) (limN G g) - i) (fun i => i ≤ fillN n1 (p + m0) (limN G g)) ?_ 0 (by omega) ?_
                  · intro i hi A1 back1
                    have hfl : fillN n1 (p + m0) (limN G g) ≤ 8 := by simp only [fillN, limN]; omega
                    have hw3 := wrap_succ (k := i) (by omega)
                    have hf : fillN n1 (p + m0) (limN G g) = min n1 (limN G g - (p + m0)) := rfl
                    have hp1 : IntKind.i64.wrap (((p + m0 + i : Nat) : Int) + 1) = ((p + m0 + (i + 1) : Nat) : Int) := by rw [wrap_id (by omega) (by omega)]; omega
                    have hrl : (rowN (p + m0) i).length = i := by simp [rowN]
                    by_cases hl : rowN (p + m0) i = []
                    · try simp only [I, B, D, RW, ↓ KW, fillA, setCells, stTags, flat, Nat.reduceBEq, Nat.reduceAdd, Nat.reduceLeDiff, Int.reduceNe, Int.reduceBEq, Int.reduceEq, reduceCtorEq, Nat.reduceMul, Int.reduceLT, Int.reduceLE, Int.reduceToNat, hl, ownL, mkO, hlim, hgs, hrow0]
                      repeat' (first | (refine gd_split (fun h => ?_) (fun h => ?_) <;> try simp only [I, B, D, RW, ↓ KW, fillA, setCells, stTags, flat, Nat.reduceBEq, Nat.reduceAdd, Nat.reduceLeDiff, Int.reduceNe, Int.reduceBEq, Int.reduceEq, reduceCtorEq, Nat.reduceMul, Int.reduceLT, Int.reduceLE, Int.reduceToNat, slAV_none, slAV_some, hlim, hl, hgs, hp1, hrow0, h]) | (refine cd_split (fun h => ?_) (fun h => ?_) <;> try simp only [I, B, D, RW, ↓ KW, fillA, setCells, stTags, flat, Nat.reduceBEq, Nat.reduceAdd, Nat.reduceLeDiff, Int.reduceNe, Int.reduceBEq, Int.reduceEq, reduceCtorEq, Nat.reduceMul, Int.reduceLT, Int.reduceLE, Int.reduceToNat, slAV_none, slAV_some, hlim, hl, hgs, hp1, hrow0, h]) | (refine pk_split (fun h => ?_) (fun h => ?_) <;> try simp only [I, B, D, RW, ↓ KW, fillA, setCells, stTags, flat, Nat.reduceBEq, Nat.reduceAdd, Nat.reduceLeDiff, Int.reduceNe, Int.reduceBEq, Int.reduceEq, reduceCtorEq, Nat.reduceMul, Int.reduceLT, Int.reduceLE, Int.reduceToNat, slAV_none, slAV_some, hlim, hl, hgs, hp1, hrow0, h]))
                      · have h1 := of_decide_eq_true h
                        refine ⟨by decide, ?_⟩
                        refine ⟨by decide, ?_⟩
                        have h2 : (i : Int) < n1 := by rename_i h2; exact of_decide_eq_true h2
                        refine back1 (i + 1) _ (by omega) (by omega) (le_tok2 (by decide) ?_ ?_ ?_ ?_) <;> simp [intRow, ownSV, ownL, leSlots, lv_dat, lv_tok, lv_ptr, lv_rp, lv_undef, leBoxes, leTags, leLive, tokM, tokB, tokT, ren, liveInj, r_lk, r_lkN, r_lkB, r_lkN0, I, B, D, withV_some, hw3, rowN_succ, hl, mkO, slAV_none, slAV_some, hgs, hrow0]
                      · have h1 := of_decide_eq_false h
                        have : i = fillN n1 (p + m0) (limN G g) := by omega
                        rw [← this]
                        refine cut_at () trivial ?_
                        refine le_tok2 (by decide) ?_ ?_ ?_ ?_ <;> simp [intRow, ownSV, ownL, leSlots, lv_dat, lv_tok, lv_ptr, lv_rp, lv_undef, leBoxes, leTags, leLive, tokM, tokB, tokT, ren, liveInj, r_lk, r_lkN, r_lkB, r_lkN0, I, B, D, withV_some, hl, mkO, slAV_none, slAV_some, hgs, hrow0]
                      · have h1 := of_decide_eq_false h
                        have : i = fillN n1 (p + m0) (limN G g) := by omega
                        rw [← this]
                        refine cut_at () trivial ?_
                        refine le_tok2 (by decide) ?_ ?_ ?_ ?_ <;> simp [intRow, ownSV, ownL, leSlots, lv_dat, lv_tok, lv_ptr, lv_rp, lv_undef, leBoxes, leTags, leLive, tokM, tokB, tokT, ren, liveInj, r_lk, r_lkN, r_lkB, r_lkN0, I, B, D, withV_some, hl, mkO, slAV_none, slAV_some, hgs, hrow0]
                    · try simp only [I, B, D, RW, ↓ KW, fillA, setCells, stTags, flat, Nat.reduceBEq, Nat.reduceAdd, Nat.reduceLeDiff, Int.reduceNe, Int.reduceBEq, Int.reduceEq, reduceCtorEq, Nat.reduceMul, Int.reduceLT, Int.reduceLE, Int.reduceToNat, hl, ownL, mkO, hlim, hgs, hrow0]
                      repeat' (first | (refine gd_split (fun h => ?_) (fun h => ?_) <;> try simp only [I, B, D, RW, ↓ KW, fillA, setCells, stTags, flat, Nat.reduceBEq, Nat.reduceAdd, Nat.reduceLeDiff, Int.reduceNe, Int.reduceBEq, Int.reduceEq, reduceCtorEq, Nat.reduceMul, Int.reduceLT, Int.reduceLE, Int.reduceToNat, slAV_none, slAV_some, hlim, hl, hgs, hp1, hrow0, h]) | (refine cd_split (fun h => ?_) (fun h => ?_) <;> try simp only [I, B, D, RW, ↓ KW, fillA, setCells, stTags, flat, Nat.reduceBEq, Nat.reduceAdd, Nat.reduceLeDiff, Int.reduceNe, Int.reduceBEq, Int.reduceEq, reduceCtorEq, Nat.reduceMul, Int.reduceLT, Int.reduceLE, Int.reduceToNat, slAV_none, slAV_some, hlim, hl, hgs, hp1, hrow0, h]) | (refine pk_split (fun h => ?_) (fun h => ?_) <;> try simp only [I, B, D, RW, ↓ KW, fillA, setCells, stTags, flat, Nat.reduceBEq, Nat.reduceAdd, Nat.reduceLeDiff, Int.reduceNe, Int.reduceBEq, Int.reduceEq, reduceCtorEq, Nat.reduceMul, Int.reduceLT, Int.reduceLE, Int.reduceToNat, slAV_none, slAV_some, hlim, hl, hgs, hp1, hrow0, h]))
                      · have h1 := of_decide_eq_true h
                        refine ⟨by decide, by omega, by decide, ?_⟩
                        have h2 : (i : Int) < n1 := by rename_i h2; exact of_decide_eq_true h2
                        refine back1 (i + 1) _ (by omega) (by omega) (le_tok2 (by decide) ?_ ?_ ?_ ?_) <;> simp [intRow, ownSV, ownL, leSlots, lv_dat, lv_tok, lv_ptr, lv_rp, lv_undef, leBoxes, leTags, leLive, tokM, tokB, tokT, ren, liveInj, r_lk, r_lkN, r_lkB, r_lkN0, I, B, D, withV_some, hw3, rowN_succ, hl, mkO, slAV_none, slAV_some, hgs, hrow0]
                      · have h1 := of_decide_eq_false h
                        have : i = fillN n1 (p + m0) (limN G g) := by omega
                        rw [← this]
                        refine cut_at () trivial ?_
                        refine le_tok2 (by decide) ?_ ?_ ?_ ?_ <;> simp [intRow, ownSV, ownL, leSlots, lv_dat, lv_tok, lv_ptr, lv_rp, lv_undef, leBoxes, leTags, leLive, tokM, tokB, tokT, ren, liveInj, r_lk, r_lkN, r_lkB, r_lkN0, I, B, D, withV_some, hl, mkO, slAV_none, slAV_some, hgs, hrow0]
                      · have h1 := of_decide_eq_false h
                        have : i = fillN n1 (p + m0) (limN G g) := by omega
                        rw [← this]
                        refine cut_at () trivial ?_
                        refine le_tok2 (by decide) ?_ ?_ ?_ ?_ <;> simp [intRow, ownSV, ownL, leSlots, lv_dat, lv_tok, lv_ptr, lv_rp, lv_undef, leBoxes, leTags, leLive, tokM, tokB, tokT, ren, liveInj, r_lk, r_lkN, r_lkB, r_lkN0, I, B, D, withV_some, hl, mkO, slAV_none, slAV_some, hgs, hrow0]
                  · refine le_tok2 (by decide) ?_ ?_ ?_ ?_ <;> simp [intRow, ownSV, ownL, leSlots, lv_dat, lv_tok, lv_ptr, lv_rp, lv_undef, leBoxes, leTags, leLive, tokM, tokB, tokT, ren, liveInj, r_lk, r_lkN, r_lkB, r_lkN0, I, B, D, withV_some, rowN, mkO, slAV_none, slAV_some, hgs, hrow0, hcn]
                · intro _ _
                  try simp only [I, B, D, RW, ↓ KW, fillA, setCells, stTags, flat, Nat.reduceBEq, Nat.reduceAdd, Nat.reduceLeDiff, Int.reduceNe, Int.reduceBEq, Int.reduceEq, reduceCtorEq, Nat.reduceMul, Int.reduceLT, Int.reduceLE, Int.reduceToNat, hgs, mkO, hrow0]
                  refine aw_unroll ?_
                  try simp only [I, B, D, RW, ↓ KW, fillA, setCells, stTags, flat, Nat.reduceBEq, Nat.reduceAdd, Nat.reduceLeDiff, Int.reduceNe, Int.reduceBEq, Int.reduceEq, reduceCtorEq, Nat.reduceMul, Int.reduceLT, Int.reduceLE, Int.reduceToNat, hgs, wrap_11]
                  refine cut_at () trivial ?_
                  refine le_tok2 (by decide) ?_ ?_ ?_ ?_ <;> simp [intRow, ownSV, ownL, leSlots, lv_dat, lv_tok, lv_ptr, lv_rp, lv_undef, leBoxes, leTags, leLive, tokM, tokB, tokT, ren, liveInj, r_lk, r_lkN, r_lkB, r_lkN0, I, B, D, withV_some, hgs, mkO, slAV_none, slAV_some]
              · have hz : ¬ m0 = 0 := by simpa using hz
                have hcn : fr1 = (n1 : Int) := by rw [hcn0, if_neg (fun hh => hz hh.2)]; omega
                refine aw_cut (.exit 4) (fun _ : Unit => (⟨[(9, .dat (I 1) none), (6, .dat (I (p + m0 + fillN n1 (p + m0) (limN G g) : Nat)) none), (5, .dat (I G) none), (7, .dat (I g) none), (8, .ptr 403 0), (1, .dat (slAV intRow l) none), (0, .ptr 0 0)], [(403, ⟨[slAV intRow (mkO (rowN p m0)), slAV intRow (mkO (rowN (p + m0) (fillN n1 (p + m0) (limN G g))))], []⟩), (0, ⟨({ t with groups := mkO gs } : Tb).cells, if gs = [] then [] else [(104, 0)]⟩)], ownL gs 0 eR, 1000⟩ : S)) (fun _ => True) (fun _ => rfl) ?_ ?_
                · refine aw_loop' (fun i : Nat => (⟨[(11, .dat (I i) none), (10, .dat (I n1) none), (6, .dat (I (p + m0 + i : Nat)) none), (5, .dat (I G) none), (7, .dat (I g) none), (9, .dat (I 1) none), (8, .ptr 403 0), (1, .dat (slAV intRow l) none), (0, .ptr 0 0)], [(403, ⟨[slAV intRow (mkO (rowN p m0)), slAV intRow (mkO (rowN (p + m0) i))], if rowN (p + m0) i = [] then [] else [(1, 1)]⟩), (0, ⟨({ t with groups := mkO gs } : Tb).cells, if gs = [] then [] else [(104, 0)]⟩)], ownL (rowN (p + m0) i) 1 e ++ ownL gs 0 eR, 1000⟩ : S)) (fun i => fillN n1 (p + m0) (limN G g) - i) (fun i => i ≤ fillN n1 (p + m0) (limN G g)) ?_ 0 (by omega) ?_
                  · intro i hi A1 back1
                    have hfl : fillN n1 (p + m0) (limN G g) ≤ 8 := by simp only [fillN, limN]; omega
                    have hw3 := wrap_succ (k := i) (by omega)
                    have hf : fillN n1 (p + m0) (limN G g) = min n1 (limN G g - (p + m0)) := rfl
                    have hp1 : IntKind.i64.wrap (((p + m0 + i : Nat) : Int) + 1) = ((p + m0 + (i + 1) : Nat) : Int) := by rw [wrap_id (by omega) (by omega)]; omega
                    have hrl : (rowN (p + m0) i).length = i := by simp [rowN]
                    by_cases hl : rowN (p + m0) i = []
                    · try simp only [I, B, D, RW, ↓ KW, fillA, setCells, stTags, flat, Nat.reduceBEq, Nat.reduceAdd, Nat.reduceLeDiff, Int.reduceNe, Int.reduceBEq, Int.reduceEq, reduceCtorEq, Nat.reduceMul, Int.reduceLT, Int.reduceLE, Int.reduceToNat, hl, ownL, mkO, hlim, hgs, hrow0]
                      repeat' (first | (refine gd_split (fun h => ?_) (fun h => ?_) <;> try simp only [I, B, D, RW, ↓ KW, fillA, setCells, stTags, flat, Nat.reduceBEq, Nat.reduceAdd, Nat.reduceLeDiff, Int.reduceNe, Int.reduceBEq, Int.reduceEq, reduceCtorEq, Nat.reduceMul, Int.reduceLT, Int.reduceLE, Int.reduceToNat, slAV_none, slAV_some, hlim, hl, hgs, hp1, hrow0, h]) | (refine cd_split (fun h => ?_) (fun h => ?_) <;> try simp only [I, B, D, RW, ↓ KW, fillA, setCells, stTags, flat, Nat.reduceBEq, Nat.reduceAdd, Nat.reduceLeDiff, Int.reduceNe, Int.reduceBEq, Int.reduceEq, reduceCtorEq, Nat.reduceMul, Int.reduceLT, Int.reduceLE, Int.reduceToNat, slAV_none, slAV_some, hlim, hl, hgs, hp1, hrow0, h]) | (refine pk_split (fun h => ?_) (fun h => ?_) <;> try simp only [I, B, D, RW, ↓ KW, fillA, setCells, stTags, flat, Nat.reduceBEq, Nat.reduceAdd, Nat.reduceLeDiff, Int.reduceNe, Int.reduceBEq, Int.reduceEq, reduceCtorEq, Nat.reduceMul, Int.reduceLT, Int.reduceLE, Int.reduceToNat, slAV_none, slAV_some, hlim, hl, hgs, hp1, hrow0, h]))
                      · have h1 := of_decide_eq_true h
                        refine ⟨by decide, ?_⟩
                        refine ⟨by decide, ?_⟩
                        have h2 : (i : Int) < n1 := by rename_i h2; exact of_decide_eq_true h2
                        refine back1 (i + 1) _ (by omega) (by omega) (le_tok2 (by decide) ?_ ?_ ?_ ?_) <;> simp [intRow, ownSV, ownL, leSlots, lv_dat, lv_tok, lv_ptr, lv_rp, lv_undef, leBoxes, leTags, leLive, tokM, tokB, tokT, ren, liveInj, r_lk, r_lkN, r_lkB, r_lkN0, I, B, D, withV_some, hw3, rowN_succ, hl, mkO, slAV_none, slAV_some, hgs, hrow0]
                      · have h1 := of_decide_eq_false h
                        have : i = fillN n1 (p + m0) (limN G g) := by omega
                        rw [← this]
                        refine cut_at () trivial ?_
                        refine le_tok2 (by decide) ?_ ?_ ?_ ?_ <;> simp [intRow, ownSV, ownL, leSlots, lv_dat, lv_tok, lv_ptr, lv_rp, lv_undef, leBoxes, leTags, leLive, tokM, tokB, tokT, ren, liveInj, r_lk, r_lkN, r_lkB, r_lkN0, I, B, D, withV_some, hl, mkO, slAV_none, slAV_some, hgs, hrow0]
                      · have h1 := of_decide_eq_false h
                        have : i = fillN n1 (p + m0) (limN G g) := by omega
                        rw [← this]
                        refine cut_at () trivial ?_
                        refine le_tok2 (by decide) ?_ ?_ ?_ ?_ <;> simp [intRow, ownSV, ownL, leSlots, lv_dat, lv_tok, lv_ptr, lv_rp, lv_undef, leBoxes, leTags, leLive, tokM, tokB, tokT, ren, liveInj, r_lk, r_lkN, r_lkB, r_lkN0, I, B, D, withV_some, hl, mkO, slAV_none, slAV_some, hgs, hrow0]
                    · try simp only [I, B, D, RW, ↓ KW, fillA, setCells, stTags, flat, Nat.reduceBEq, Nat.reduceAdd, Nat.reduceLeDiff, Int.reduceNe, Int.reduceBEq, Int.reduceEq, reduceCtorEq, Nat.reduceMul, Int.reduceLT, Int.reduceLE, Int.reduceToNat, hl, ownL, mkO, hlim, hgs, hrow0]
                      repeat' (first | (refine gd_split (fun h => ?_) (fun h => ?_) <;> try simp only [I, B, D, RW, ↓ KW, fillA, setCells, stTags, flat, Nat.reduceBEq, Nat.reduceAdd, Nat.reduceLeDiff, Int.reduceNe, Int.reduceBEq, Int.reduceEq, reduceCtorEq, Nat.reduceMul, Int.reduceLT, Int.reduceLE, Int.reduceToNat, slAV_none, slAV_some, hlim, hl, hgs, hp1, hrow0, h]) | (refine cd_split (fun h => ?_) (fun h => ?_) <;> try simp only [I, B, D, RW, ↓ KW, fillA, setCells, stTags, flat, Nat.reduceBEq, Nat.reduceAdd, Nat.reduceLeDiff, Int.reduceNe, Int.reduceBEq, Int.reduceEq, reduceCtorEq, Nat.reduceMul, Int.reduceLT, Int.reduceLE, Int.reduceToNat, slAV_none, slAV_some, hlim, hl, hgs, hp1, hrow0, h]) | (refine pk_split (fun h => ?_) (fun h => ?_) <;> try simp only [I, B, D, RW, ↓ KW, fillA, setCells, stTags, flat, Nat.reduceBEq, Nat.reduceAdd, Nat.reduceLeDiff, Int.reduceNe, Int.reduceBEq, Int.reduceEq, reduceCtorEq, Nat.reduceMul, Int.reduceLT, Int.reduceLE, Int.reduceToNat, slAV_none, slAV_some, hlim, hl, hgs, hp1, hrow0, h]))
                      · have h1 := of_decide_eq_true h
                        refine ⟨by decide, by omega, by decide, ?_⟩
                        have h2 : (i : Int) < n1 := by rename_i h2; exact of_decide_eq_true h2
                        refine back1 (i + 1) _ (by omega) (by omega) (le_tok2 (by decide) ?_ ?_ ?_ ?_) <;> simp [intRow, ownSV, ownL, leSlots, lv_dat, lv_tok, lv_ptr, lv_rp, lv_undef, leBoxes, leTags, leLive, tokM, tokB, tokT, ren, liveInj, r_lk, r_lkN, r_lkB, r_lkN0, I, B, D, withV_some, hw3, rowN_succ, hl, mkO, slAV_none, slAV_some, hgs, hrow0]
                      · have h1 := of_decide_eq_false h
                        have : i = fillN n1 (p + m0) (limN G g) := by omega
                        rw [← this]
                        refine cut_at () trivial ?_
                        refine le_tok2 (by decide) ?_ ?_ ?_ ?_ <;> simp [intRow, ownSV, ownL, leSlots, lv_dat, lv_tok, lv_ptr, lv_rp, lv_undef, leBoxes, leTags, leLive, tokM, tokB, tokT, ren, liveInj, r_lk, r_lkN, r_lkB, r_lkN0, I, B, D, withV_some, hl, mkO, slAV_none, slAV_some, hgs, hrow0]
                      · have h1 := of_decide_eq_false h
                        have : i = fillN n1 (p + m0) (limN G g) := by omega
                        rw [← this]
                        refine cut_at () trivial ?_
                        refine le_tok2 (by decide) ?_ ?_ ?_ ?_ <;> simp [intRow, ownSV, ownL, leSlots, lv_dat, lv_tok, lv_ptr, lv_rp, lv_undef, leBoxes, leTags, leLive, tokM, tokB, tokT, ren, liveInj, r_lk, r_lkN, r_lkB, r_lkN0, I, B, D, withV_some, hl, mkO, slAV_none, slAV_some, hgs, hrow0]
                  · refine le_tok2 (by decide) ?_ ?_ ?_ ?_ <;> simp [intRow, ownSV, ownL, leSlots, lv_dat, lv_tok, lv_ptr, lv_rp, lv_undef, leBoxes, leTags, leLive, tokM, tokB, tokT, ren, liveInj, r_lk, r_lkN, r_lkB, r_lkN0, I, B, D, withV_some, rowN, mkO, slAV_none, slAV_some, hgs, hrow0, hcn]
                · intro _ _
                  try simp only [I, B, D, RW, ↓ KW, fillA, setCells, stTags, flat, Nat.reduceBEq, Nat.reduceAdd, Nat.reduceLeDiff, Int.reduceNe, Int.reduceBEq, Int.reduceEq, reduceCtorEq, Nat.reduceMul, Int.reduceLT, Int.reduceLE, Int.reduceToNat, hgs, mkO, hrow0]
                  refine aw_unroll ?_
                  try simp only [I, B, D, RW, ↓ KW, fillA, setCells, stTags, flat, Nat.reduceBEq, Nat.reduceAdd, Nat.reduceLeDiff, Int.reduceNe, Int.reduceBEq, Int.reduceEq, reduceCtorEq, Nat.reduceMul, Int.reduceLT, Int.reduceLE, Int.reduceToNat, hgs, wrap_11]
                  refine cut_at () trivial ?_
                  refine le_tok2 (by decide) ?_ ?_ ?_ ?_ <;> simp [intRow, ownSV, ownL, leSlots, lv_dat, lv_tok, lv_ptr, lv_rp, lv_undef, leBoxes, leTags, leLive, tokM, tokB, tokT, ren, liveInj, r_lk, r_lkN, r_lkB, r_lkN0, I, B, D, withV_some, hgs, mkO, slAV_none, slAV_some]
            · have hfr : ¬ fr1 = 0 := by simpa using h
              have hcn : fr1 = (n1 : Int) := by rw [hcn0, if_neg (fun hh => hfr (by omega))]; omega
              refine aw_cut (.exit 4) (fun _ : Unit => (⟨[(9, .dat (I 1) none), (6, .dat (I (p + m0 + fillN n1 (p + m0) (limN G g) : Nat)) none), (5, .dat (I G) none), (7, .dat (I g) none), (8, .ptr 403 0), (1, .dat (slAV intRow l) none), (0, .ptr 0 0)], [(403, ⟨[slAV intRow (mkO (rowN p m0)), slAV intRow (mkO (rowN (p + m0) (fillN n1 (p + m0) (limN G g))))], []⟩), (0, ⟨({ t with groups := mkO gs } : Tb).cells, if gs = [] then [] else [(104, 0)]⟩)], ownL gs 0 eR, 1000⟩ : S)) (fun _ => True) (fun _ => rfl) ?_ ?_
              · refine aw_loop' (fun i : Nat => (⟨[(11, .dat (I i) none), (10, .dat (I n1) none), (6, .dat (I (p + m0 + i : Nat)) none), (5, .dat (I G) none), (7, .dat (I g) none), (9, .dat (I 1) none), (8, .ptr 403 0), (1, .dat (slAV intRow l) none), (0, .ptr 0 0)], [(403, ⟨[slAV intRow (mkO (rowN p m0)), slAV intRow (mkO (rowN (p + m0) i))], if rowN (p + m0) i = [] then [] else [(1, 1)]⟩), (0, ⟨({ t with groups := mkO gs } : Tb).cells, if gs = [] then [] else [(104, 0)]⟩)], ownL (rowN (p + m0) i) 1 e ++ ownL gs 0 eR, 1000⟩ : S)) (fun i => fillN n1 (p + m0) (limN G g) - i) (fun i => i ≤ fillN n1 (p + m0) (limN G g)) ?_ 0 (by omega) ?_
                · intro i hi A1 back1
                  have hfl : fillN n1 (p + m0) (limN G g) ≤ 8 := by simp only [fillN, limN]; omega
                  have hw3 := wrap_succ (k := i) (by omega)
                  have hf : fillN n1 (p + m0) (limN G g) = min n1 (limN G g - (p + m0)) := rfl
                  have hp1 : IntKind.i64.wrap (((p + m0 + i : Nat) : Int) + 1) = ((p + m0 + (i + 1) : Nat) : Int) := by rw [wrap_id (by omega) (by omega)]; omega
                  have hrl : (rowN (p + m0) i).length = i := by simp [rowN]
                  by_cases hl : rowN (p + m0) i = []
                  · try simp only [I, B, D, RW, ↓ KW, fillA, setCells, stTags, flat, Nat.reduceBEq, Nat.reduceAdd, Nat.reduceLeDiff, Int.reduceNe, Int.reduceBEq, Int.reduceEq, reduceCtorEq, Nat.reduceMul, Int.reduceLT, Int.reduceLE, Int.reduceToNat, hl, ownL, mkO, hlim, hgs, hrow0]
                    repeat' (first | (refine gd_split (fun h => ?_) (fun h => ?_) <;> try simp only [I, B, D, RW, ↓ KW, fillA, setCells, stTags, flat, Nat.reduceBEq, Nat.reduceAdd, Nat.reduceLeDiff, Int.reduceNe, Int.reduceBEq, Int.reduceEq, reduceCtorEq, Nat.reduceMul, Int.reduceLT, Int.reduceLE, Int.reduceToNat, slAV_none, slAV_some, hlim, hl, hgs, hp1, hrow0, h]) | (refine cd_split (fun h => ?_) (fun h => ?_) <;> try simp only [I, B, D, RW, ↓ KW, fillA, setCells, stTags, flat, Nat.reduceBEq, Nat.reduceAdd, Nat.reduceLeDiff, Int.reduceNe, Int.reduceBEq, Int.reduceEq, reduceCtorEq, Nat.reduceMul, Int.reduceLT, Int.reduceLE, Int.reduceToNat, slAV_none, slAV_some, hlim, hl, hgs, hp1, hrow0, h]) | (refine pk_split (fun h => ?_) (fun h => ?_) <;> try simp only [I, B, D, RW, ↓ KW, fillA, setCells, stTags, flat, Nat.reduceBEq, Nat.reduceAdd, Nat.reduceLeDiff, Int.reduceNe, Int.reduceBEq, Int.reduceEq, reduceCtorEq, Nat.reduceMul, Int.reduceLT, Int.reduceLE, Int.reduceToNat, slAV_none, slAV_some, hlim, hl, hgs, hp1, hrow0, h]))
                    · have h1 := of_decide_eq_true h
                      refine ⟨by decide, ?_⟩
                      refine ⟨by decide, ?_⟩
                      have h2 : (i : Int) < n1 := by rename_i h2; exact of_decide_eq_true h2
                      refine back1 (i + 1) _ (by omega) (by omega) (le_tok2 (by decide) ?_ ?_ ?_ ?_) <;> simp [intRow, ownSV, ownL, leSlots, lv_dat, lv_tok, lv_ptr, lv_rp, lv_undef, leBoxes, leTags, leLive, tokM, tokB, tokT, ren, liveInj, r_lk, r_lkN, r_lkB, r_lkN0, I, B, D, withV_some, hw3, rowN_succ, hl, mkO, slAV_none, slAV_some, hgs, hrow0]
                    · have h1 := of_decide_eq_false h
                      have : i = fillN n1 (p + m0) (limN G g) := by omega
                      rw [← this]
                      refine cut_at () trivial ?_
                      refine le_tok2 (by decide) ?_ ?_ ?_ ?_ <;> simp [intRow, ownSV, ownL, leSlots, lv_dat, lv_tok, lv_ptr, lv_rp, lv_undef, leBoxes, leTags, leLive, tokM, tokB, tokT, ren, liveInj, r_lk, r_lkN, r_lkB, r_lkN0, I, B, D, withV_some, hl, mkO, slAV_none, slAV_some, hgs, hrow0]
                    · have h1 := of_decide_eq_false h
                      have : i = fillN n1 (p + m0) (limN G g) := by omega
                      rw [← this]
                      refine cut_at () trivial ?_
                      refine le_tok2 (by decide) ?_ ?_ ?_ ?_ <;> simp [intRow, ownSV, ownL, leSlots, lv_dat, lv_tok, lv_ptr, lv_rp, lv_undef, leBoxes, leTags, leLive, tokM, tokB, tokT, ren, liveInj, r_lk, r_lkN, r_lkB, r_lkN0, I, B, D, withV_some, hl, mkO, slAV_none, slAV_some, hgs, hrow0]
                  · try simp only [I, B, D, RW, ↓ KW, fillA, setCells, stTags, flat, Nat.reduceBEq, Nat.reduceAdd, Nat.reduceLeDiff, Int.reduceNe, Int.reduceBEq, Int.reduceEq, reduceCtorEq, Nat.reduceMul, Int.reduceLT, Int.reduceLE, Int.reduceToNat, hl, ownL, mkO, hlim, hgs, hrow0]
                    repeat' (first | (refine gd_split (fun h => ?_) (fun h => ?_) <;> try simp only [I, B, D, RW, ↓ KW, fillA, setCells, stTags, flat, Nat.reduceBEq, Nat.reduceAdd, Nat.reduceLeDiff, Int.reduceNe, Int.reduceBEq, Int.reduceEq, reduceCtorEq, Nat.reduceMul, Int.reduceLT, Int.reduceLE, Int.reduceToNat, slAV_none, slAV_some, hlim, hl, hgs, hp1, hrow0, h]) | (refine cd_split (fun h => ?_) (fun h => ?_) <;> try simp only [I, B, D, RW, ↓ KW, fillA, setCells, stTags, flat, Nat.reduceBEq, Nat.reduceAdd, Nat.reduceLeDiff, Int.reduceNe, Int.reduceBEq, Int.reduceEq, reduceCtorEq, Nat.reduceMul, Int.reduceLT, Int.reduceLE, Int.reduceToNat, slAV_none, slAV_some, hlim, hl, hgs, hp1, hrow0, h]) | (refine pk_split (fun h => ?_) (fun h => ?_) <;> try simp only [I, B, D, RW, ↓ KW, fillA, setCells, stTags, flat, Nat.reduceBEq, Nat.reduceAdd, Nat.reduceLeDiff, Int.reduceNe, Int.reduceBEq, Int.reduceEq, reduceCtorEq, Nat.reduceMul, Int.reduceLT, Int.reduceLE, Int.reduceToNat, slAV_none, slAV_some, hlim, hl, hgs, hp1, hrow0, h]))
                    · have h1 := of_decide_eq_true h
                      refine ⟨by decide, by omega, by decide, ?_⟩
                      have h2 : (i : Int) < n1 := by rename_i h2; exact of_decide_eq_true h2
                      refine back1 (i + 1) _ (by omega) (by omega) (le_tok2 (by decide) ?_ ?_ ?_ ?_) <;> simp [intRow, ownSV, ownL, leSlots, lv_dat, lv_tok, lv_ptr, lv_rp, lv_undef, leBoxes, leTags, leLive, tokM, tokB, tokT, ren, liveInj, r_lk, r_lkN, r_lkB, r_lkN0, I, B, D, withV_some, hw3, rowN_succ, hl, mkO, slAV_none, slAV_some, hgs, hrow0]
                    · have h1 := of_decide_eq_false h
                      have : i = fillN n1 (p + m0) (limN G g) := by omega
                      rw [← this]
                      refine cut_at () trivial ?_
                      refine le_tok2 (by decide) ?_ ?_ ?_ ?_ <;> simp [intRow, ownSV, ownL, leSlots, lv_dat, lv_tok, lv_ptr, lv_rp, lv_undef, leBoxes, leTags, leLive, tokM, tokB, tokT, ren, liveInj, r_lk, r_lkN, r_lkB, r_lkN0, I, B, D, withV_some, hl, mkO, slAV_none, slAV_some, hgs, hrow0]
                    · have h1 := of_decide_eq_false h
                      have : i = fillN n1 (p + m0) (limN G g) := by omega
                      rw [← this]
                      refine cut_at () trivial ?_
                      refine le_tok2 (by decide) ?_ ?_ ?_ ?_ <;> simp [intRow, ownSV, ownL, leSlots, lv_dat, lv_tok, lv_ptr, lv_rp, lv_undef, leBoxes, leTags, leLive, tokM, tokB, tokT, ren, liveInj, r_lk, r_lkN, r_lkB, r_lkN0, I, B, D, withV_some, hl, mkO, slAV_none, slAV_some, hgs, hrow0]
                · refine le_tok2 (by decide) ?_ ?_ ?_ ?_ <;> simp [intRow, ownSV, ownL, leSlots, lv_dat, lv_tok, lv_ptr, lv_rp, lv_undef, leBoxes, leTags, leLive, tokM, tokB, tokT, ren, liveInj, r_lk, r_lkN, r_lkB, r_lkN0, I, B, D, withV_some, rowN, mkO, slAV_none, slAV_some, hgs, hrow0, hcn]
              · intro _ _
                try simp only [I, B, D, RW, ↓ KW, fillA, setCells, stTags, flat, Nat.reduceBEq, Nat.reduceAdd, Nat.reduceLeDiff, Int.reduceNe, Int.reduceBEq, Int.reduceEq, reduceCtorEq, Nat.reduceMul, Int.reduceLT, Int.reduceLE, Int.reduceToNat, hgs, mkO, hrow0]
                refine aw_unroll ?_
                try simp only [I, B, D, RW, ↓ KW, fillA, setCells, stTags, flat, Nat.reduceBEq, Nat.reduceAdd, Nat.reduceLeDiff, Int.reduceNe, Int.reduceBEq, Int.reduceEq, reduceCtorEq, Nat.reduceMul, Int.reduceLT, Int.reduceLE, Int.reduceToNat, hgs, wrap_11]
                refine cut_at () trivial ?_
                refine le_tok2 (by decide) ?_ ?_ ?_ ?_ <;> simp [intRow, ownSV, ownL, leSlots, lv_dat, lv_tok, lv_ptr, lv_rp, lv_undef, leBoxes, leTags, leLive, tokM, tokB, tokT, ren, liveInj, r_lk, r_lkN, r_lkB, r_lkN0, I, B, D, withV_some, hgs, mkO, slAV_none, slAV_some]
        · intro _ _
          have hgc := Tb.groups_at' (t := { t with groups := mkO gs }) ht.phases
          have hln := Tb.len' (t := { t with groups := mkO gs }) ht.phases ht.conflict ht.flash
          have hset := Tb.set_groups (t := { t with groups := mkO gs }) ht.phases (some (gs ++ [⟨mkO (rowN p (fillN n0 p (limN G g))), mkO (rowN (p + fillN n0 p (limN G g)) (fillN (cnt l g 1 (fillN n0 p (limN G g))) (p + fillN n0 p (limN G g)) (limN G g)))⟩]))
          simp only [hgs, mkO, if_true, if_false] at hgc hln hset
          try simp only [I, B, D, RW, ↓ KW, fillA, setCells, stTags, flat, Nat.reduceBEq, Nat.reduceAdd, Nat.reduceLeDiff, Int.reduceNe, Int.reduceBEq, Int.reduceEq, reduceCtorEq, Nat.reduceMul, Int.reduceLT, Int.reduceLE, Int.reduceToNat, hgc, slAV_none, slAV_some, Gr.len, hgl, hgs, mkO]
          try refine ⟨by omega, ?_⟩
          try refine ⟨by simp [ownL, hgs, lkN], ?_⟩
          try refine ⟨by omega, ?_⟩
          simp [slAV_some, Gr.cells, hgs] at hset
          refine back (g + 1) _ (by omega) (by omega) (le_tok2 (by decide) ?_ ?_ ?_ ?_) <;> simp [intRow, ownSV, ownL, leSlots, lv_dat, lv_tok, lv_ptr, lv_rp, lv_undef, leBoxes, leTags, leLive, tokM, tokB, tokT, ren, liveInj, r_lk, r_lkN, r_lkB, r_lkN0, I, B, D, withV_some, hn2, hw, hgs, mkO, slAV_some, slAV_none, Gr.cells, hset]
          trace_state
      · have hgG : g = G := by have := of_decide_eq_false h; omega
        subst hgG
        first
          | (exfalso; rw [hgs] at hgl; simp at hgl; omega)
          | exact ⟨by rw [hR], by rw [hR]⟩
  · have : ({ t with groups := none } : Tb) = t := by cases t; simp_all
    refine le_tok2 (by decide) ?_ ?_ ?_ ?_ <;> simp [intRow, ownSV, ownL, leSlots, lv_dat, lv_tok, lv_ptr, lv_rp, lv_undef, leBoxes, leTags, leLive, tokM, tokB, tokT, ren, liveInj, r_lk, r_lkN, r_lkB, r_lkN0, I, B, D, withV_some, rowsTo, mkO, this]
end

end Go.Eng
