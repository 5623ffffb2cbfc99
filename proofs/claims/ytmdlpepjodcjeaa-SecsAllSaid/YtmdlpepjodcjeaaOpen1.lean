/- OPENING, PART 1: what an argument reads as. -/
import Derived.Test.YtmdlpepjodcjeaaLib0
import Derived.ProofKit
import Derived.OpenShut
import Derived.ShutString
import Derived.ChangeOld
import Derived.Below
namespace Go.Eng
set_option linter.unnecessarySimpa false
open Go
set_option linter.unusedVariables false
set_option linter.unusedSimpArgs false
set_option maxRecDepth 10000
set_option maxHeartbeats 4000000
/-! ### lists side by side -/
def Al {α β : Type} (R : α → β → Prop) : List α → List β → Prop
  | [], [] => True
  | a :: l, b :: m => R a b ∧ Al R l m
  | _, _ => False
theorem Al.len {α β : Type} {R : α → β → Prop} : ∀ {l : List α} {m : List β}, Al R l m → l.length = m.length
  | [], [], _ => rfl
  | a :: l, b :: m, h => by simp [Al.len h.2]
  | [], b :: m, h => h.elim
  | a :: l, [], h => h.elim
theorem Al.get {α β : Type} {R : α → β → Prop} : ∀ {l : List α} {m : List β}, Al R l m → ∀ (i : Nat) (a : α) (b : β), l[i]? = some a → m[i]? = some b → R a b
  | a :: l, b :: m, h, 0, x, y, hx, hy => by simp at hx hy; subst hx; subst hy; exact h.1
  | a :: l, b :: m, h, i + 1, x, y, hx, hy => Al.get h.2 i x y (by simpa using hx) (by simpa using hy)
  | [], _, _, i, _, _, hx, _ => by simp at hx
theorem Al.mk {α β : Type} {R : α → β → Prop} : ∀ {l : List α} {m : List β}, l.length = m.length → (∀ (i : Nat) (a : α) (b : β), l[i]? = some a → m[i]? = some b → R a b) → Al R l m
  | [], [], _, _ => trivial
  | a :: l, b :: m, h, f => ⟨f 0 a b rfl rfl, Al.mk (by simpa using h) fun i x y hx hy => f (i + 1) x y (by simpa using hx) (by simpa using hy)⟩
theorem Al.append {α β : Type} {R : α → β → Prop} : ∀ {l : List α} {m : List β} {l' : List α} {m' : List β}, Al R l m → Al R l' m' → Al R (l ++ l') (m ++ m')
  | [], [], _, _, _, h => h
  | a :: l, b :: m, _, _, h, h' => ⟨h.1, Al.append h.2 h'⟩
theorem Al.n {α β : Type} {R : α → β → Prop} : Al R ([] : List α) ([] : List β) := trivial
theorem Al.c {α β : Type} {R : α → β → Prop} {a : α} {b : β} {l : List α} {m : List β} (h : R a b) (t : Al R l m) : Al R (a :: l) (b :: m) := ⟨h, t⟩
theorem Al.nil_inv {α β : Type} {R : α → β → Prop} {m : List β} (h : Al R [] m) : m = [] := by
  cases m with
  | nil => rfl
  | cons b m => exact h.elim
theorem Al.cons_inv {α β : Type} {R : α → β → Prop} {a : α} {l : List α} {m : List β} (h : Al R (a :: l) m) : ∃ b m', m = b :: m' ∧ R a b ∧ Al R l m' := by
  cases m with
  | nil => exact h.elim
  | cons b m => exact ⟨b, m, rfl, h.1, h.2⟩

/-! ### kinds of cells -/
inductive Sc where
  | bool
  | int (k : IntKind)
  | flt (k : FloatKind)
  | str
inductive Ty where
  | sc (s : Sc)
  | sl (l : List Sc)
def scs : List Ty → Option (List Sc)
  | [] => some []
  | .sc s :: r => (scs r).map (s :: ·)
  | .sl _ :: _ => none
def tyParts (sz : TypeId → Nat) (F : TypeId → Option (List Ty)) : Nat → List (Nat × TypeId) → Option (List Ty)
  | _, [] => some []
  | o, f :: r => if f.1 = o then match F f.2 with
      | some l => if sz f.2 = l.length then match tyParts sz F (o + l.length) r with
        | some m => some (l ++ m)
        | none => none
        else none
      | none => none
    else none
def tyOf (P : Program) : Nat → TypeId → Option (List Ty)
  | 0, _ => none
  | n + 1, t => match P.underlying t with
    | some .bool => some [.sc .bool]
    | some (.int k) => some [.sc (.int k)]
    | some (.float k) => some [.sc (.flt k)]
    | some .string => some [.sc .str]
    | some (.slice e) => match tyOf P n e with
      | some l => match scs l with
        | some m => if P.cellsOf e = m.length then some [.sl m] else none
        | none => none
      | none => none
    | some (.struct fs) => match tyParts P.cellsOf (tyOf P n) 0 (fs.toList.map fun f => (f.offset, f.type)) with
      | some l => if P.cellsOf t = l.length then some l else none
      | none => none
    | some (.array k e) => match tyParts P.cellsOf (tyOf P n) 0 ((List.range k).map fun i => (i * P.cellsOf e, e)) with
      | some l => if P.cellsOf t = l.length then some l else none
      | none => none
    | _ => none

def ScV : Sc → AV → Prop
  | .bool, .bool _ => True
  | .int k, .int k' n => k' = k ∧ (Lit.int k n).wf = true
  | .flt k, .float k' b => k' = k ∧ (Lit.float k b).wf = true
  | .str, .str s => s.size ≤ maxLen
  | _, _ => False
def TyV : Ty → AV → Prop
  | .sc s, a => ScV s a
  | .sl _, .nils => True
  | .sl l, .sl xs => xs.length ≤ maxLen ∧ ∀ r ∈ xs, Al ScV l r
  | _, _ => False

def oldP (W : World) : Nat → Nat → Prop := fun b _ => b < W.heap.size
theorem cell_lt {W : World} {a : Addr} {v : Value} (h : W.cell? a = some v) : a.block < W.heap.size := by
  unfold World.cell? at h
  split at h
  · rename_i hh; exact heap_lt hh
  · cases h

theorem ScV.scalar {s : Sc} {a : AV} (h : ScV s a) : a.scalar = true := by cases s <;> cases a <;> first | exact h.elim | rfl
theorem TyV.scalar {s : Ty} {a : AV} (h : TyV s a) : a.scalar = true := by
  cases s with
  | sc s => exact ScV.scalar h
  | sl l => cases a <;> first | exact h.elim | rfl
theorem scs_eq : ∀ {l : List Ty} {m : List Sc}, scs l = some m → l = m.map .sc
  | [], m, h => by simp [scs] at h; subst h; rfl
  | .sc s :: r, m, h => by
    simp only [scs, Option.map_eq_some_iff] at h
    obtain ⟨x, hx, rfl⟩ := h
    rw [scs_eq hx]; rfl
  | .sl _ :: _, m, h => by cases h
theorem al_sc : ∀ {m : List Sc} {as : List AV}, Al TyV (m.map .sc) as → Al ScV m as
  | [], [], _ => trivial
  | s :: m, a :: as, h => ⟨h.1, al_sc h.2⟩
  | [], a :: as, h => h.elim
  | s :: m, [], h => h.elim

section
variable {H : Type} {enc : TypeId × Value → H} {P : Program} {W : World} {base : Nat}
open Go.ChangeShapes Go.WideShapes Go.ChangeAt Go.RowKit

theorem trod_float {sp : Nat → Bool} {held : Bool} {b0 fuel : Nat} {t : TypeId} {cs : List Value} {x : DataW H × List MemPlace} {k : FloatKind} (ht : P.underlying t = some (.float k)) (h : DataW.trod enc P W b0 sp held fuel t cs = some x) : ∃ n, cs = [.float k n] ∧ (Lit.float k n).wf = true := by
  cases fuel with
  | zero => simp [DataW.trod] at h
  | succ n =>
    unfold DataW.trod at h
    rw [ht] at h
    split at h <;> simp_all

/-- no strange addresses -/
def Plain (cs : List Value) : Prop := ∀ v ∈ cs, ∀ x l c, v = .slice (some x) l c → x.spot = none
def Pl (l : List Ty) (cs : List Value) : Prop := (scs l).isSome = true ∨ Plain cs
omit H enc P W base in
theorem scs_append : ∀ {l m : List Ty}, (scs (l ++ m)).isSome = true → (scs l).isSome = true ∧ (scs m).isSome = true
  | [], m, h => ⟨rfl, h⟩
  | .sc s :: r, m, h => by
    simp only [List.cons_append, scs, Option.isSome_map] at h ⊢
    exact scs_append h
  | .sl _ :: _, m, h => by cases h

theorem parts_open {sp : TypeId → Nat} {G : TypeId → Option (List Ty)} {Tr : TypeId → List Value → Prop}
    (each : ∀ t l cs, G t = some l → Pl l cs → Tr t cs → ∃ as, Al TyV l as ∧ Al (DV W (oldP W)) as cs) : ∀ (ps : List (Nat × TypeId)) (o : Nat) (l : List Ty) (cs : List Value), tyParts sp G o ps = some l → Pl l cs → cs.length = o + l.length →
      (∀ (i : Nat) (f : Nat × TypeId), ps[i]? = some f → Tr f.2 ((cs.drop f.1).take (sp f.2))) → ∃ as, Al TyV l as ∧ Al (DV W (oldP W)) as (cs.drop o)
  | [], o, l, cs, h, hp, hl, _ => by
    simp only [tyParts, Option.some.injEq] at h
    subst h
    refine ⟨[], trivial, ?_⟩
    rw [List.drop_of_length_le (by simp at hl; omega)]; trivial
  | f :: ps, o, l, cs, h, hp, hl, htr => by
    simp only [tyParts] at h
    split at h <;> try (cases h; done)
    rename_i ho
    split at h <;> try (cases h; done)
    rename_i l1 hl1
    split at h <;> try (cases h; done)
    rename_i hsz
    split at h <;> try (cases h; done)
    rename_i m hm
    cases h
    have h0 := htr 0 f rfl
    rw [ho, hsz] at h0
    obtain ⟨as1, ht1, hd1⟩ := each f.2 l1 _ hl1 (hp.imp (fun h => (scs_append h).1) fun hp v hv => hp v (List.mem_of_mem_drop (List.mem_of_mem_take hv))) h0
    obtain ⟨as2, ht2, hd2⟩ := parts_open each ps (o + l1.length) m cs hm (hp.imp (fun h => (scs_append h).2) id) (by rw [hl]; simp; omega) (fun i g hg => htr (i + 1) g (by simpa using hg))
    refine ⟨as1 ++ as2, ht1.append ht2, ?_⟩
    have := hd1.append hd2
    rw [← List.drop_drop, List.take_append_drop] at this
    exact this

theorem add_off {a : Addr} {n : Nat} (h : a.spot = none) : a.add n = ⟨a.block, a.off + n, none⟩ := by
  obtain ⟨b, o, s⟩ := a
  simp only at h; subst h
  unfold Addr.add; split
  · rename_i hh; subst hh; rfl
  · rfl

theorem ty_open : ∀ (n : Nat) (t : TypeId) (l : List Ty), tyOf P n t = some l → ∀ (cs : List Value) (x : DataW H × List MemPlace) (fuel : Nat), Pl l cs →
    DataW.trod enc P W 0 (fun _ => true) true fuel t cs = some x → ∃ as, Al TyV l as ∧ Al (DV W (oldP W)) as cs
  | 0, t, l, h, cs, x, fuel, hp, hx => by cases h
  | n + 1, t, l, h, cs, x, fuel, hp, hx => by
    simp only [tyOf] at h
    split at h
    · rename_i ht; cases h
      obtain ⟨b, rfl, _⟩ := DataW.trod_bool ht hx
      exact ⟨[.bool b], ⟨trivial, trivial⟩, ⟨.bool b, trivial⟩⟩
    · rename_i k ht; cases h
      obtain ⟨m, rfl, _, hw⟩ := DataW.trod_int ht hx
      exact ⟨[.int k m], ⟨⟨rfl, hw⟩, trivial⟩, ⟨.int k m, trivial⟩⟩
    · rename_i k ht; cases h
      obtain ⟨m, rfl, hw⟩ := trod_float ht hx
      exact ⟨[.float k m], ⟨⟨rfl, hw⟩, trivial⟩, ⟨.float k m, trivial⟩⟩
    · rename_i ht; cases h
      obtain ⟨s, rfl, _, hw⟩ := DataW.trod_string ht hx
      exact ⟨[.str s], ⟨hw, trivial⟩, ⟨.str s, trivial⟩⟩
    · rename_i e ht
      split at h <;> try (cases h; done)
      rename_i le hle
      split at h <;> try (cases h; done)
      rename_i m hm
      split at h <;> try (cases h; done)
      rename_i hsz
      cases h
      rcases DataW.trod_slice ht hx with ⟨rfl, _⟩ | ⟨a, len, cap, elems, rest, k, _, rfl, _, _, hlc, hmx, hlen, hel, _, _⟩
      · exact ⟨[.nils], ⟨trivial, trivial⟩, ⟨.nils, trivial⟩⟩
      have hspot : a.spot = none := by
        rcases hp with hp | hp
        · cases hp
        · exact hp _ (List.mem_singleton.2 rfl) a len cap rfl
      have each : ∀ i, i < len → ∃ as cs, Al ScV m as ∧ Al (DV W (oldP W)) as cs ∧ ∀ j, j < m.length → W.cell? ⟨a.block, a.off + i * m.length + j, none⟩ = cs[j]? := by
        intro i hi
        have he := hel i hi
        have : elems[i]? ≠ none := by simp; omega
        obtain ⟨y, hy⟩ := Option.ne_none_iff_exists'.1 this
        rw [hy, Option.bind_eq_some_iff] at he
        obtain ⟨cs, hcs, htr⟩ := he
        obtain ⟨_, hcl, hcell⟩ := World.cells?_some hcs
        obtain ⟨as, hta, hda⟩ := ty_open n e le hle cs y k (.inl (by rw [hm]; rfl)) htr
        rw [scs_eq hm] at hta
        refine ⟨as, cs, al_sc hta, hda, fun j hj => ?_⟩
        have := hcell j (by omega)
        rw [← this, add_off (a := a.add _) (by rw [add_off hspot]), add_off hspot, hsz]
      obtain ⟨rows, hrl, hrt, hr⟩ : ∃ rows : List (List AV), rows.length = len ∧ (∀ r ∈ rows, Al ScV m r) ∧ ∀ i r, rows[i]? = some r → ∃ cs, Al (DV W (oldP W)) r cs ∧ ∀ j, j < m.length → W.cell? ⟨a.block, a.off + i * m.length + j, none⟩ = cs[j]? := by
        refine ⟨(List.range len).map fun i => if h : i < len then (each i h).choose else [], by simp, ?_, ?_⟩
        · intro r hr
          obtain ⟨i, hi, rfl⟩ := List.mem_map.1 hr
          rw [List.mem_range] at hi
          rw [dif_pos hi]
          exact (each i hi).choose_spec.choose_spec.1
        · intro i r hr
          rw [List.getElem?_map, Option.map_eq_some_iff] at hr
          obtain ⟨k, hk, rfl⟩ := hr
          have hi := (List.getElem?_eq_some_iff.1 hk).1
          simp at hi
          rw [List.getElem?_range hi] at hk
          cases hk
          rw [dif_pos hi]
          exact ⟨_, (each i hi).choose_spec.choose_spec.2⟩
      obtain ⟨b, off, spot⟩ := a
      simp only at hspot hr
      subst hspot
      refine ⟨[.sl rows], ⟨⟨by omega, hrt⟩, trivial⟩, ?_, trivial⟩
      have hz : ∀ (i : Nat) (r : List AV), rows[i]? = some r → r.length = m.length := fun i r h => (hrt r (List.mem_of_getElem? h)).len.symm
      have key := DV.sl (w := W) (π := oldP W) rows b off cap m.length (fun i j => (W.cell? ⟨b, off + i * m.length + j, none⟩).getD default) (by omega) hz
        (fun i j r x h1 h2 => by
          obtain ⟨t, ht⟩ : ∃ t, m[j]? = some t := ⟨_, List.getElem?_eq_getElem (by have := (List.getElem?_eq_some_iff.1 h2).1; have := hz i r h1; omega)⟩
          exact ScV.scalar ((hrt r (List.mem_of_getElem? h1)).get j t x ht h2))
        (fun i j r x h1 h2 => by
          obtain ⟨cs, hd, hc⟩ := hr i r h1
          have hj : j < m.length := by have := (List.getElem?_eq_some_iff.1 h2).1; have := hz i r h1; omega
          obtain ⟨v, hv⟩ : ∃ v, cs[j]? = some v := ⟨_, List.getElem?_eq_getElem (by have := hd.len; have := hz i r h1; omega)⟩
          exact cell_lt ((hc j hj).trans hv))
        (fun i j r x h1 h2 => by
          obtain ⟨cs, hd, hc⟩ := hr i r h1
          have hj : j < m.length := by have := (List.getElem?_eq_some_iff.1 h2).1; have := hz i r h1; omega
          obtain ⟨v, hv⟩ : ∃ v, cs[j]? = some v := ⟨_, List.getElem?_eq_getElem (by have := hd.len; have := hz i r h1; omega)⟩
          rw [(hc j hj).trans hv]; rfl)
        (fun i j r x h1 h2 => by
          obtain ⟨cs, hd, hc⟩ := hr i r h1
          have hj : j < m.length := by have := (List.getElem?_eq_some_iff.1 h2).1; have := hz i r h1; omega
          obtain ⟨v, hv⟩ : ∃ v, cs[j]? = some v := ⟨_, List.getElem?_eq_getElem (by have := hd.len; have := hz i r h1; omega)⟩
          rw [(hc j hj).trans hv]
          exact hd.get j x v h2 hv)
      rw [hrl] at key
      exact key
    · rename_i fs ht
      split at h <;> try (cases h; done)
      rename_i l' hl'
      split at h <;> try (cases h; done)
      rename_i hsz
      cases h
      obtain ⟨xs, k, _, _, hcl, hxl, hf⟩ := DataW.trod_struct ht hx
      have := parts_open (W := W) (Tr := fun t cs => ∃ x fuel, DataW.trod enc P W 0 (fun _ => true) true fuel t cs = some x) (fun t l cs h1 h2 ⟨x, fuel, h3⟩ => ty_open n t l h1 cs x fuel h2 h3) _ 0 l cs hl' hp (by omega) (fun i f hif => by
        rw [List.getElem?_map, Option.map_eq_some_iff] at hif
        obtain ⟨f, hif, rfl⟩ := hif
        have h1 := hf i f (by simpa using hif)
        have : xs[i]? ≠ none := by
          have := (List.getElem?_eq_some_iff.1 hif).1
          simp at this ⊢; omega
        obtain ⟨y, hy⟩ := Option.ne_none_iff_exists'.1 this
        exact ⟨y, k, h1.trans hy⟩)
      simpa using this
    · rename_i q e ht
      split at h <;> try (cases h; done)
      rename_i l' hl'
      split at h <;> try (cases h; done)
      rename_i hsz
      cases h
      obtain ⟨xs, k, _, _, hcl, hxl, hf⟩ := DataW.trod_array ht hx
      have := parts_open (W := W) (Tr := fun t cs => ∃ x fuel, DataW.trod enc P W 0 (fun _ => true) true fuel t cs = some x) (fun t l cs h1 h2 ⟨x, fuel, h3⟩ => ty_open n t l h1 cs x fuel h2 h3) _ 0 l cs hl' hp (by omega) (fun i f hif => by
        rw [List.getElem?_map, Option.map_eq_some_iff] at hif
        obtain ⟨f, hif, rfl⟩ := hif
        have hi := (List.getElem?_eq_some_iff.1 hif).1
        simp at hi
        rw [List.getElem?_range hi] at hif
        cases hif
        have h1 := hf i hi
        have : xs[i]? ≠ none := by simp; omega
        obtain ⟨y, hy⟩ := Option.ne_none_iff_exists'.1 this
        exact ⟨y, k, h1.trans hy⟩)
      simpa using this
    · cases h

theorem plain_of {t : TypeId} {v : Value} (h : Value.okWide P W .any base t v) : Plain v.cells.toList := by
  have cell : ∀ u y, Cell.okWide P W .any base u y → ∀ x l c, y = .slice (some x) l c → x.spot = none := by
    intro u y hy x l c e
    subst e
    unfold Cell.okWide at hy
    split at hy <;> simp_all [Cell.ok]
    split at hy <;> simp_all [World.has]
  unfold Value.okWide at h
  split at h
  · obtain ⟨cs, rfl, _, ts, _, _, hc⟩ := h
    intro y hy x l c e
    obtain ⟨i, hi⟩ := List.getElem?_of_mem hy
    obtain ⟨u, _, hu⟩ := hc i y (by simpa [Value.cells] using hi)
    exact cell u y hu x l c e
  · obtain ⟨cs, rfl, _, ts, _, _, hc⟩ := h
    intro y hy x l c e
    obtain ⟨i, hi⟩ := List.getElem?_of_mem hy
    obtain ⟨u, _, hu⟩ := hc i y (by simpa [Value.cells] using hi)
    exact cell u y hu x l c e
  · intro y hy x l c e
    cases v <;> simp [Value.cells] at hy
    case agg cs =>
      exfalso
      unfold Cell.okWide at h
      split at h <;> simp_all [Cell.ok]
    all_goals (subst hy; first | (cases e; done) | exact cell t _ h x l c e)

def isAgg (P : Program) (t : TypeId) : Bool := match P.underlying t with
  | some (.struct _) | some (.array _ _) => true
  | _ => false

theorem arg_open {n : Nat} {t : TypeId} {l : List Ty} {v : Value} {d : DataW H} {p : List MemPlace} (hl : tyOf P n t = some l) (ha : isAgg P t = true) (hval : Value.okWide P W .any base t v)
    (h : DataW.Trod enc P W 0 (fun _ => true) true t v d p) : ∃ as, Al TyV l as ∧ DV W (oldP W) (.agg as) v := by
  obtain ⟨fuel, hf⟩ := h
  obtain ⟨as, ht, hd⟩ := ty_open n t l hl _ _ _ (.inr (plain_of hval)) hf
  refine ⟨as, ht, ?_⟩
  have : ∃ cs, v = .agg cs := by
    unfold isAgg at ha
    unfold Value.okWide at hval
    split at hval
    · exact ⟨_, hval.choose_spec.1⟩
    · exact ⟨_, hval.choose_spec.1⟩
    · rename_i h1 h2
      split at ha
      · rename_i e; exact absurd e (h1 _)
      · rename_i e; exact absurd e (h2 _ _)
      · cases ha
  obtain ⟨cs, rfl⟩ := this
  simp only [Value.cells] at hd
  refine .agg as cs (by simpa using hd.len) (fun a ha => ?_) (fun i a v h1 h2 => hd.get i a v h1 (by simpa using h2))
  obtain ⟨i, hi⟩ := List.getElem?_of_mem ha
  obtain ⟨s, hs⟩ : ∃ s, l[i]? = some s := ⟨_, List.getElem?_eq_getElem (by have := ht.len; have := (List.getElem?_eq_some_iff.1 hi).1; omega)⟩
  exact TyV.scalar (ht.get i s a hs hi)

theorem arg_open1 {n : Nat} {t : TypeId} {k : Ty} {v : Value} {d : DataW H} {p : List MemPlace} (hl : tyOf P n t = some [k]) (ha : isAgg P t = false) (hval : Value.okWide P W .any base t v)
    (h : DataW.Trod enc P W 0 (fun _ => true) true t v d p) : ∃ a, TyV k a ∧ DV W (oldP W) a v := by
  obtain ⟨fuel, hf⟩ := h
  obtain ⟨as, ht, hd⟩ := ty_open n t [k] hl _ _ _ (.inr (plain_of hval)) hf
  obtain ⟨a, as', rfl, hk, ht'⟩ := ht.cons_inv
  cases ht'.nil_inv
  obtain ⟨u, us, e, hdu, _⟩ := hd.cons_inv
  have hne : ∀ cs, v ≠ .agg cs := by
    rintro cs rfl
    unfold isAgg at ha
    unfold Value.okWide at hval
    split at hval
    · rename_i e; rw [e] at ha; cases ha
    · rename_i e; rw [e] at ha; cases ha
    · unfold Cell.okWide at hval
      split at hval <;> simp_all [Cell.ok]
  refine ⟨a, hk, ?_⟩
  cases v <;> simp [Value.cells] at e
  case agg cs => exact absurd rfl (hne cs)
  all_goals (obtain ⟨rfl, rfl⟩ := e; exact hdu)

/-! ### reading the kinds -/
theorem tyv_int {k : IntKind} {a : AV} (h : TyV (.sc (.int k)) a) : ∃ n, a = .int k n ∧ (Lit.int k n).wf = true := by
  cases a <;> first | exact h.elim | (obtain ⟨rfl, hw⟩ := h; exact ⟨_, rfl, hw⟩)
theorem tyv_bool {a : AV} (h : TyV (.sc .bool) a) : ∃ b, a = .bool b := by
  cases a <;> first | exact h.elim | exact ⟨_, rfl⟩
theorem tyv_float {k : FloatKind} {a : AV} (h : TyV (.sc (.flt k)) a) : ∃ n, a = .float k n ∧ (Lit.float k n).wf = true := by
  cases a <;> first | exact h.elim | (obtain ⟨rfl, hw⟩ := h; exact ⟨_, rfl, hw⟩)
theorem flt_lt {n : Nat} (h : (Lit.float .f64 n).wf = true) : n < 2 ^ 64 := by simpa [Lit.wf] using h
theorem tyv_str {a : AV} (h : TyV (.sc .str) a) : ∃ s, a = .str s ∧ s.size ≤ maxLen := by
  cases a <;> first | exact h.elim | exact ⟨_, rfl, h⟩
theorem tyv_ints {k : IntKind} {a : AV} (h : TyV (.sl [.int k]) a) : ∃ l : Option (List Int), a = slAV (fun n => [.int k n]) l ∧ (l.getD []).length ≤ maxLen ∧ ∀ n ∈ l.getD [], (Lit.int k n).wf = true := by
  cases a <;> try exact h.elim
  · exact ⟨none, rfl, by simp, by simp⟩
  rename_i xs
  have : ∀ (xs : List (List AV)), (∀ r ∈ xs, Al ScV [.int k] r) → ∃ l : List Int, xs = l.map (fun n => [.int k n]) ∧ ∀ n ∈ l, (Lit.int k n).wf = true := by
    intro xs
    induction xs with
    | nil => intro _; exact ⟨[], rfl, by simp⟩
    | cons r xs ih =>
      intro h
      obtain ⟨l, rfl, hl⟩ := ih (fun r hr => h r (List.mem_cons_of_mem _ hr))
      obtain ⟨a, as, rfl, h1, h2⟩ := (h _ List.mem_cons_self).cons_inv
      cases h2.nil_inv
      obtain ⟨n, rfl, hn⟩ := tyv_int (k := k) h1
      exact ⟨n :: l, rfl, by simpa using ⟨hn, hl⟩⟩
  obtain ⟨l, rfl, hl⟩ := this xs h.2
  exact ⟨some l, rfl, by simpa using h.1, hl⟩

/-- THE CALL: the contract of a law, at values that came in -/
theorem law_call {P : Program} {f : Nat} {args : List AV} {W : World} {vs : List Value} (h : (Pure P).c f args (.bool true) none) (hd : Al (DV W (oldP W)) args vs) :
    Calls P f vs.toArray W fun e w' => e = .returned (.bool true) ∧ Go.RowKit.Below W.heap.size W w' := by
  refine (h.2 W (oldP W) vs (fun _ _ h => h) ⟨hd.len, hd.get⟩).mono fun e w' ⟨v, π', he, hb, _, _, _, hdv, _⟩ => ?_
  cases hdv
  exact ⟨he, hb⟩
end

section
variable {H : Type} {enc : TypeId × Value → H} {P : Program} {W : World} {base : Nat}
open Go.ChangeShapes Go.WideShapes Go.ChangeAt Go.RowKit
/-- what is known of an argument -/
def Came (enc : TypeId × Value → H) (P : Program) (W : World) (base : Nat) (t : TypeId) (v : Value) : Prop :=
  Value.okWide P W .any base t v ∧ ∃ d p, DataW.Trod enc P W 0 (fun _ => true) true t v d p
theorem args_open : ∀ {ts : List TypeId} {vs : List Value} {ds : List (DataW H)} {ps : List MemPlace}, DataW.TrodAll enc P W 0 (fun _ => true) true ts vs ds ps →
    (∀ (j : Nat) t v, ts[j]? = some t → vs[j]? = some v → Value.okWide P W .any base t v) → Al (Came enc P W base) ts vs
  | [], vs, ds, ps, h, _ => by obtain ⟨rfl, _, _⟩ := trodAll_nil h; trivial
  | t :: ts, vs, ds, ps, h, hv => by
    obtain ⟨v, vs', d, ds', p, q, rfl, rfl, rfl, h0, h1⟩ := trodAll_cons h
    exact ⟨⟨hv 0 t v rfl rfl, d, p, h0⟩, args_open h1 fun j t v h1 h2 => hv (j + 1) t v (by simpa using h1) (by simpa using h2)⟩
theorem args_close {W' : World} (hl : laidOutB P = true) : ∀ {ts : List TypeId} {vs : List Value} {ds : List (DataW H)} {ps : List MemPlace}, (ts.all fun t => P.readableRec t && decide (t < P.types.size)) = true →
    DataW.TrodAll enc P W 0 (fun _ => true) true ts vs ds ps → Below W.heap.size W W' → DataW.TrodAll enc P W' 0 (fun b => decide (b < W.heap.size)) true ts vs ds ps
  | [], vs, ds, ps, _, h, _ => by obtain ⟨rfl, rfl, rfl⟩ := trodAll_nil h; exact trodAll_mk0
  | t :: ts, vs, ds, ps, hr, h, hb => by
    have hlt := DataW.TrodAll.lt h
    obtain ⟨v, vs', d, ds', p, q, rfl, rfl, rfl, h0, h1⟩ := trodAll_cons h
    simp only [List.all_cons, Bool.and_eq_true, decide_eq_true_eq] at hr
    exact trodAll_cons_mk (Below.trod hl hr.1.1 hr.1.2 h0 hb fun x hx => hlt x (by simp [hx])) (args_close hl hr.2 h1 hb)
theorem came_agg {n : Nat} {t : TypeId} {l : List Ty} {v : Value} (hl : tyOf P n t = some l) (ha : isAgg P t = true) (h : Came enc P W base t v) : ∃ as, Al TyV l as ∧ DV W (oldP W) (.agg as) v := by
  obtain ⟨h1, d, p, h2⟩ := h; exact arg_open hl ha h1 h2
theorem came_one {n : Nat} {t : TypeId} {k : Ty} {v : Value} (hl : tyOf P n t = some [k]) (ha : isAgg P t = false) (h : Came enc P W base t v) : ∃ a, TyV k a ∧ DV W (oldP W) a v := by
  obtain ⟨h1, d, p, h2⟩ := h; exact arg_open1 hl ha h1 h2
theorem trodAll_lens {sp : Nat → Bool} {held : Bool} {b0 : Nat} : ∀ {ts : List TypeId} {vs : List Value} {ds : List (DataW H)} {ps : List MemPlace}, DataW.TrodAll enc P W b0 sp held ts vs ds ps → ds.length = ts.length
  | [], vs, ds, ps, h => by obtain ⟨_, rfl, _⟩ := trodAll_nil h; rfl
  | t :: ts, vs, ds, ps, h => by
    obtain ⟨v, vs', d, ds', p, q, rfl, rfl, rfl, h0, h1⟩ := trodAll_cons h
    simp [trodAll_lens h1]
end
theorem len_S {α : Type} {l : List α} {n : Nat} (h : l.length = n + 1) : ∃ a m, l = a :: m ∧ m.length = n := by
  cases l with
  | nil => cases h
  | cons a m => exact ⟨a, m, rfl, by simpa using h⟩
theorem len_1 {α : Type} {l : List α} (h : l.length = 1) : ∃ a, l = [a] := by obtain ⟨a, m, rfl, h2⟩ := len_S h; exact ⟨a, by rw [List.length_eq_zero_iff.1 h2]⟩
theorem len_2 {α : Type} {l : List α} (h : l.length = 2) : ∃ a b, l = [a, b] := by obtain ⟨a, m, rfl, h2⟩ := len_S h; obtain ⟨b, rfl⟩ := len_1 h2; exact ⟨a, b, rfl⟩
theorem len_3 {α : Type} {l : List α} (h : l.length = 3) : ∃ a b c, l = [a, b, c] := by obtain ⟨a, m, rfl, h2⟩ := len_S h; obtain ⟨b, c, rfl⟩ := len_2 h2; exact ⟨a, b, c, rfl⟩
theorem len_4 {α : Type} {l : List α} (h : l.length = 4) : ∃ a b c d, l = [a, b, c, d] := by obtain ⟨a, m, rfl, h2⟩ := len_S h; obtain ⟨b, c, d, rfl⟩ := len_3 h2; exact ⟨a, b, c, d, rfl⟩
theorem len_5 {α : Type} {l : List α} (h : l.length = 5) : ∃ a b c d e, l = [a, b, c, d, e] := by obtain ⟨a, m, rfl, h2⟩ := len_S h; obtain ⟨b, c, d, e, rfl⟩ := len_4 h2; exact ⟨a, b, c, d, e, rfl⟩
theorem len_6 {α : Type} {l : List α} (h : l.length = 6) : ∃ a b c d e f, l = [a, b, c, d, e, f] := by obtain ⟨a, m, rfl, h2⟩ := len_S h; obtain ⟨b, c, d, e, f, rfl⟩ := len_5 h2; exact ⟨a, b, c, d, e, f, rfl⟩
theorem len_7 {α : Type} {l : List α} (h : l.length = 7) : ∃ a b c d e f g, l = [a, b, c, d, e, f, g] := by obtain ⟨a, m, rfl, h2⟩ := len_S h; obtain ⟨b, c, d, e, f, g, rfl⟩ := len_6 h2; exact ⟨a, b, c, d, e, f, g, rfl⟩

end Go.Eng
