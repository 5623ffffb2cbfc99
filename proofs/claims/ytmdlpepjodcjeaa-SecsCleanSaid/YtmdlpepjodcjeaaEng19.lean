/- ENGINE, PART 19: how it is used: joins that are not wanted, loops, states that say less. -/
import Derived.Test.YtmdlpepjodcjeaaEng18
import Derived.Test.YtmdlpepjodcjeaaEng3
namespace Go.Eng
set_option linter.unnecessarySimpa false
open Go
set_option linter.unusedVariables false
set_option linter.unusedSimpArgs false

section
variable {C : Con}

theorem aop_mono {id : Nat} {o : COp} {K K' : SV → S → Prop} {s : S} (hk : ∀ v s', K v s' → K' v s') (h : aop C id o K s) : aop C id o K' s := by
  obtain ⟨v, d, hK, _, _, hs⟩ := aop_path h
  exact hs.2 s .refl K' (hk _ _ hK)

theorem aops_mono {base : Nat} : ∀ {l : List CO} {i : Nat} {s : S} {K K' : S → Prop}, (∀ s, K s → K' s) → aops C base i l K s → aops C base i l K' s
  | [], i, s, K, K', hk, h => hk s h
  | o :: l, i, s, K, K', hk, h => by
    rw [aops_cons] at h ⊢
    obtain ⟨v, d, hd, hk', _⟩ := astep_path h
    exact hd.2 s .refl _ (aops_mono hk hk')

theorem down_mono {F G : S → Prop} (h : ∀ s, F s → G s) {s : S} (hd : down F s) : down G s := by
  obtain ⟨s1, ⟨hl, hF⟩ | hF⟩ := hd
  · exact ⟨s1, .inl ⟨hl, h _ hF⟩⟩
  · exact ⟨s1, .inr (h _ hF)⟩

theorem athen_mono {F G : S → Prop} {Q Q' : Exit → S → Prop} (h : ∀ s, F s → G s) (hq : ∀ e s, Q e s → Q' e s) {e : Exit} {s : S} (ha : athen F Q e s) : athen G Q' e s := by
  cases e <;> first | exact h _ ha | exact hq _ _ ha

theorem ablock_mono {id : Nat} {Q Q' : Exit → S → Prop} (hq : ∀ e s, Q e s → Q' e s) {e : Exit} {s : S} (ha : ablock id Q e s) : ablock id Q' e s := by
  cases e with
  | exit i =>
    simp only [ablock] at ha ⊢
    split
    · rename_i hi; rw [if_pos hi] at ha; exact hq _ _ ha
    · rename_i hi; rw [if_neg hi] at ha; exact hq _ _ ha
  | _ => exact hq _ _ ha

theorem ARounds_mono {F G : (Exit → S → Prop) → S → Prop} (hF : ∀ Q Q' s, (∀ e s, Q e s → Q' e s) → F Q s → G Q' s) {Q Q' : Exit → S → Prop} (hq : ∀ e s, Q e s → Q' e s) : ∀ {n : Nat} {s : S}, ARounds F Q n s → ARounds G Q' n s
  | 0, s, h => h
  | n + 1, s, h => hF _ _ s (fun e s ha => athen_mono (fun s hd => down_mono (fun s h => ARounds_mono hF hq h) hd) hq ha) h

theorem rfQ_mono {wr : List Nat} {F : S → Prop} {Q Q' : Exit → S → Prop} (hq : ∀ e s, Q e s → Q' e s) {e : Exit} {s : S} (h : rfQ wr F Q e s) : rfQ wr F Q' e s := by
  cases e <;> first | exact h | exact hq _ _ h

theorem aw_mono : ∀ {c : CCode} {Q Q' : Exit → S → Prop} {s : S}, (∀ e s, Q e s → Q' e s) → aw C c Q s → aw C c Q' s := by
  intro c
  induction c with
  | skip => intro Q Q' s hq h; exact hq _ _ h
  | reg ops => intro Q Q' s hq h; exact aops_mono (fun s h => hq _ _ h) h
  | regD ops bad => intro Q Q' s hq h; exact ⟨h.1, aops_mono (fun s h => hq _ _ h) h.2⟩
  | seq a b iha ihb => intro Q Q' s hq h; exact iha (fun e s ha => athen_mono (fun s h => ihb hq h) hq ha) h
  | join a b iha ihb => intro Q Q' s hq h; exact iha (fun e s ha => athen_mono (fun s h => down_mono (fun s h => ihb hq h) h) hq ha) h
  | cond c a b iha ihb =>
    intro Q Q' s hq h
    simp only [aw] at h ⊢
    obtain ⟨v, hv, h⟩ := withV_inv h
    rw [hv]
    cases v <;> try (exact h.elim)
    exact ⟨fun e => iha hq (h.1 e), fun e => ihb hq (h.2 e)⟩
  | block id c ih => intro Q Q' s hq h; exact ih (fun e s ha => ablock_mono hq ha) h
  | loop c ih =>
    intro Q Q' s hq h
    exact down_mono (fun s ⟨n, h⟩ => ⟨n, ARounds_mono (F := aw C c) (G := aw C c) (fun Q Q' s hq h => ih hq h) hq h⟩) h
  | exit id => intro Q Q' s hq h; exact hq _ _ h
  | ret => intro Q Q' s hq h; exact hq _ _ h
  | label l => intro Q Q' s hq h; exact hq _ _ h
  | goto l => intro Q Q' s hq h; exact hq _ _ h
  | scope l c r ihc ihr =>
    intro Q Q' s hq h
    refine ihc (fun e s ha => ?_) h
    cases e with
    | goto l' =>
      refine ⟨ha.1, ihr (fun e s hb => ?_) ha.2⟩
      cases e <;> first | exact hb | exact hq _ _ hb
    | _ => exact hq _ _ ha
  | rfor g ps wr as bd iha ihb =>
    intro Q Q' s hq h
    simp only [aw] at h ⊢
    obtain ⟨gv, hgv, xs, h1, h2, F, h3, h4, h5, h6⟩ := withV_inv h
    rw [hgv]
    refine ⟨xs, h1, h2, F, h3, h4, fun i x s' hx hs => iha (fun e s ha => ?_) (h5 i x s' hx hs), fun s' hs => hq _ _ (h6 s' hs)⟩
    cases e <;> first | exact ha.elim | exact ihb (fun e s hb => rfQ_mono hq hb) ha

/-- A LOOP OVER A FUNCTION: states by the number of rounds and some index -/
theorem aw_rfor {g : Opd} {ps wr : List Nat} {as bd : CCode} {Q : Exit → S → Prop} {s : S} {gv : AV} {xs : List (List AV)} {α : Type} (hd : α → S) (I : Nat → α → Prop)
    (hg : opdA s g = some gv) (hit : C.i gv xs) (hlen : ∀ x ∈ xs, x.length = ps.length) {y0 : α} (h0 : Le s (hd y0) ∨ s = hd y0) (hI0 : I 0 y0) (hgd : ∀ y, opdA (hd y) g = some gv)
    (round : ∀ i x y, xs[i]? = some x → I i y → aw C as (onlyN (aw C bd (rfQ wr (fun s' => ∃ z, s' = hd z ∧ I (i + 1) z) Q))) (putPs ps x (hd y)))
    (fin : ∀ y, I xs.length y → Q .normal (hd y)) : aw C (.rfor g ps wr as bd) Q s := by
  simp only [aw, hg, withV_some]
  refine ⟨xs, hit, hlen, fun i s' => ∃ y, s' = hd y ∧ I i y, ?_, ?_, ?_, ?_⟩
  · rcases h0 with h0 | h0
    · exact ⟨hd y0, .inl ⟨h0, y0, rfl, hI0⟩⟩
    · exact down_refl ⟨y0, h0, hI0⟩
  · rintro i s' ⟨y, rfl, _⟩; exact hgd y
  · rintro i x s' hx ⟨y, rfl, hy⟩; exact round i x y hx hy
  · rintro s' ⟨y, rfl, hy⟩; exact fin y hy

/-- joins, numbered as they stand in the text, that are not kept, become plain sequences -/
def flat (keep : List Nat) : Nat → CCode → CCode × Nat
  | i, .join a b =>
    let p := flat keep (i + 1) a
    let q := flat keep p.2 b
    (if keep.contains i then .join p.1 q.1 else .seq p.1 q.1, q.2)
  | i, .seq a b =>
    let p := flat keep i a
    let q := flat keep p.2 b
    (.seq p.1 q.1, q.2)
  | i, .cond c a b =>
    let p := flat keep i a
    let q := flat keep p.2 b
    (.cond c p.1 q.1, q.2)
  | i, .block id c => (.block id (flat keep i c).1, (flat keep i c).2)
  | i, .rfor g ps wr as bd =>
    let p := flat keep i as
    let q := flat keep p.2 bd
    (.rfor g ps wr p.1 q.1, q.2)
  | i, .loop c => (.loop (flat keep i c).1, (flat keep i c).2)
  | i, .scope l c r =>
    let p := flat keep i c
    let q := flat keep p.2 r
    (.scope l p.1 q.1, q.2)
  | i, c => (c, i)

theorem aw_flat {keep : List Nat} : ∀ {c : CCode} {i : Nat} {Q : Exit → S → Prop} {s : S}, aw C (flat keep i c).1 Q s → aw C c Q s := by
  intro c
  induction c with
  | join a b iha ihb =>
    intro i Q s h
    simp only [flat] at h
    split at h
    · exact iha (aw_mono (fun e s ha => athen_mono (fun s h => down_mono (fun s h => ihb h) h) (fun _ _ h => h) ha) h)
    · exact iha (aw_mono (fun e s ha => athen_mono (fun s h => down_refl (ihb h)) (fun _ _ h => h) ha) h)
  | seq a b iha ihb => intro i Q s h; exact iha (aw_mono (fun e s ha => athen_mono (fun s h => ihb h) (fun _ _ h => h) ha) h)
  | cond c a b iha ihb =>
    intro i Q s h
    simp only [flat, aw] at h ⊢
    obtain ⟨v, hv, h⟩ := withV_inv h
    rw [hv]
    cases v <;> try (exact h.elim)
    exact ⟨fun e => iha (h.1 e), fun e => ihb (h.2 e)⟩
  | block id c ih => intro i Q s h; exact ih h
  | scope l c r ihc ihr =>
    intro i Q s h
    refine ihc (aw_mono (fun e s ha => ?_) h)
    cases e with
    | goto l' => exact ⟨ha.1, ihr ha.2⟩
    | _ => exact ha
  | rfor g ps wr as bd iha ihb =>
    intro i Q s h
    simp only [flat, aw] at h ⊢
    obtain ⟨gv, hgv, xs, h1, h2, F, h3, h4, h5, h6⟩ := withV_inv h
    rw [hgv]
    refine ⟨xs, h1, h2, F, h3, h4, fun i x s' hx hs => iha (aw_mono (fun e s ha => ?_) (h5 i x s' hx hs)), h6⟩
    cases e <;> first | exact ha.elim | exact ihb ha
  | loop c ih =>
    intro i Q s h
    exact down_mono (fun s ⟨n, h⟩ => ⟨n, ARounds_mono (F := aw C (flat keep i c).1) (G := aw C c) (fun Q Q' s hq h => aw_mono hq (ih h)) (fun _ _ h => h) h⟩) h
  | _ => intro i Q s h; exact h

/-- A LOOP: head states by some index, a measure that falls. -/
theorem aw_loop {c : CCode} {Q : Exit → S → Prop} {α : Type} (hd : α → S) (μ : α → Nat) (I : α → Prop)
    (round : ∀ x, I x → aw C c (athen (down fun s => ∃ y, s = hd y ∧ I y ∧ μ y < μ x) Q) (hd x)) {x : α} (hx : I x) {s : S} (h0 : Le s (hd x) ∨ s = hd x) : aw C (.loop c) Q s := by
  have key : ∀ n x, I x → μ x < n → ARounds (aw C c) Q n (hd x) := by
    intro n
    induction n with
    | zero => intro x _ h; omega
    | succ n ih =>
      intro x hx hn
      refine aw_mono ?_ (round x hx)
      intro e s ha
      refine athen_mono ?_ (fun _ _ h => h) ha
      intro s hd
      refine down_mono ?_ hd
      rintro s ⟨y, rfl, hy, hlt⟩
      exact ih y hy (by omega)
  rcases h0 with h0 | rfl
  · exact ⟨hd x, .inl ⟨h0, μ x + 1, key _ x hx (by omega)⟩⟩
  · exact down_refl ⟨μ x + 1, key _ x hx (by omega)⟩
end

/-! ### rules for the beginning and the end -/
theorem a_int (k : IntKind) (n : Int) : argSV (.int k n) = .dat (.int k n) none := rfl
theorem a_bool (b : Bool) : argSV (.bool b) = .dat (.bool b) none := rfl
theorem a_float (k : FloatKind) (n : Nat) : argSV (.float k n) = .dat (.float k n) none := rfl
theorem a_str (s : ByteArray) : argSV (.str s) = .dat (.str s) none := rfl
theorem a_nilp : argSV .nilp = .dat .nilp none := rfl
theorem a_nils : argSV .nils = .dat .nils none := rfl
theorem a_sl (xs : List (List AV)) : argSV (.sl xs) = .dat (.sl xs) none := rfl
theorem a_fn (f : Fn) (as bs : List AV) : argSV (.fn f as bs) = .dat (.fn f as bs) none := rfl
theorem a_agg (cs : List AV) : argSV (.agg cs) = .dat (.agg cs) none := rfl
theorem a_ref (cs : List AV) : argSV (.ref cs) = .rp cs := rfl
theorem a_slots (i : Nat) (a : AV) (r : List AV) : slotsOf i (a :: r) = (i, argSV a) :: slotsOf (i + 1) r := rfl
theorem a_slots0 (i : Nat) : slotsOf i [] = [] := rfl
theorem a_init (as : List AV) : initS as = ⟨slotsOf 0 as, [], [], 4⟩ := rfl
theorem a_slotsBv (i k : Nat) (a : AV) (r : List (Option AV)) : slotsB i k (some a :: r) = (i, argSV a) :: slotsB (i + 1) k r := rfl
theorem a_slotsBp (i k : Nat) (r : List (Option AV)) : slotsB i k (none :: r) = (i, .ptr k 0) :: slotsB (i + 1) (k + 1) r := rfl
theorem a_slotsB0 (i k : Nat) : slotsB i k [] = [] := rfl
theorem a_boxesB (k : Nat) (cs : List AV) (css : List (List AV)) : boxesB k (cs :: css) = (k, ⟨cs, []⟩) :: boxesB (k + 1) css := rfl
theorem a_boxesB0 (k : Nat) : boxesB k [] = [] := rfl
theorem a_initB (css : List (List AV)) (as : List (Option AV)) : initB css as = ⟨slotsB 0 0 as, boxesB 0 css, [], 4⟩ := rfl
theorem a_fin1 (res : List CRes) (r : AV) (s : S) : fin res r none .normal s = withV (resultA s res) fun p => p.1 = r := by simp [fin, frA]
theorem a_fin2 (res : List CRes) (r : AV) (s : S) : fin res r none .ret s = withV (resultA s res) fun p => p.1 = r := by simp [fin, frA]
theorem a_fin3 (res : List CRes) (r : AV) (e : Nat) (s : S) : fin res r (some e) .normal s = withV (resultA s res) fun p => p.1 = r ∧ frA (some e) p.2 s.live := rfl
theorem a_fin4 (res : List CRes) (r : AV) (e : Nat) (s : S) : fin res r (some e) .ret s = withV (resultA s res) fun p => p.1 = r ∧ frA (some e) p.2 s.live := rfl
theorem a_fr (e q : Nat) (lv : List (Nat × Nat)) : frA (some e) (some q) lv = (lkN q lv = some e) := rfl
theorem a_finB1 (res : List CRes) (r : AV) (css : List (List AV)) (s : S) : finB res r none css .normal s = withV (resultA s res) fun p => p.1 = r ∧ holdB s.boxes 0 css := by simp [finB, frA]
theorem a_finB2 (res : List CRes) (r : AV) (css : List (List AV)) (s : S) : finB res r none css .ret s = withV (resultA s res) fun p => p.1 = r ∧ holdB s.boxes 0 css := by simp [finB, frA]
theorem a_hold0 (l : List (Nat × Box)) (k : Nat) : holdB l k [] = True := rfl
theorem a_hold (l : List (Nat × Box)) (k : Nat) (cs : List AV) (css : List (List AV)) : holdB l k (cs :: css) = (withV (lkB k l) (fun x => x.cells = cs) ∧ holdB l (k + 1) css) := rfl
def tmpR : Option SV → Option (AV × Option Nat)
  | some (.dat a q) => some (a, q)
  | _ => none
theorem a_tmpR (a : AV) (q : Option Nat) : tmpR (some (.dat a q)) = some (a, q) := rfl
theorem a_res1 (s : S) (t : Nat) : resultA s [.tmp t] = tmpR (lk t s.slots) := rfl
def cellR (sz : Option Nat) (bx : List (Nat × Box)) : Option SV → Option (AV × Option Nat)
  | some (.ptr b off) => match lkB b bx with
    | some x => match partA x.cells off sz with
      | some a => some (a, match sz with | none => lkN off x.tags | some _ => none)
      | none => none
    | none => none
  | _ => none
def boxR1 (off : Nat) (sz : Option Nat) : Option Box → Option (AV × Option Nat)
  | some x => match partA x.cells off sz with
    | some a => some (a, match sz with | none => lkN off x.tags | some _ => none)
    | none => none
  | none => none
theorem a_res2 (s : S) (t : Nat) (sz : Option Nat) : resultA s [.cell t sz] = cellR sz s.boxes (lk t s.slots) := rfl
theorem a_cellR (sz : Option Nat) (bx : List (Nat × Box)) (b off : Nat) : cellR sz bx (some (.ptr b off)) = boxR1 off sz (lkB b bx) := by
  simp only [cellR, boxR1]
theorem a_boxR1 (off n : Nat) (x : Box) : boxR1 off (some n) (some x) = (partA x.cells off (some n)).map fun a => (a, none) := by
  simp only [boxR1]; cases partA x.cells off (some n) <;> rfl
theorem a_boxR2 (off : Nat) (x : Box) : boxR1 off none (some x) = (x.cells[off]?).map fun a => (a, lkN off x.tags) := by
  simp only [boxR1, partA]; cases x.cells[off]? <;> rfl
theorem a_res0 (s : S) : resultA s [] = some (.tup [], none) := rfl
theorem a_resM (s : S) (x y : CRes) (r : List CRes) : resultA s (x :: y :: r) = (ressA s (x :: y :: r)).map fun as => (.tup as, none) := rfl
def consR : Option (AV × Option Nat) → Option (List AV) → Option (List AV)
  | some p, some as => some (p.1 :: as)
  | _, _ => none
theorem a_consR (a : AV) (q : Option Nat) (as : List AV) : consR (some (a, q)) (some as) = some (a :: as) := rfl
theorem a_ress (s : S) (x : CRes) (r : List CRes) : ressA s (x :: r) = consR (resultA s [x]) (ressA s r) := by
  simp only [ressA, consR, resultA]
  cases resA s x <;> cases ressA s r <;> rfl
theorem a_ress0 (s : S) : ressA s [] = some [] := rfl

set_option linter.defProp false
def EW0 :=
  And.intro @a_int (And.intro @a_bool (And.intro @a_float (And.intro @a_str (And.intro @a_nilp (And.intro @a_nils (And.intro @a_sl (And.intro @a_fn (And.intro @a_agg (And.intro @a_ref (And.intro @a_slots (And.intro @a_slots0 (And.intro @a_init (And.intro @a_slotsBv (And.intro @a_slotsBp (And.intro @a_slotsB0 (And.intro @a_boxesB (And.intro @a_boxesB0 (And.intro @a_initB (And.intro @a_fin1 (And.intro @a_fin2 (And.intro @a_fin3 (And.intro @a_fin4 (And.intro @a_fr (And.intro @a_finB1 (And.intro @a_finB2 (And.intro @a_hold0 (And.intro @a_hold (And.intro @a_tmpR (@a_res1)))))))))))))))))))))))))))))
def EW1 :=
  And.intro @a_res2 (And.intro @a_cellR (And.intro @a_boxR1 (And.intro @a_boxR2 (And.intro @a_res0 (And.intro @a_resM (And.intro @a_consR (And.intro @a_ress (@a_ress0))))))))
/-- the rules in one -/
def EW :=
  And.intro @EW0 (@EW1)
end Go.Eng
