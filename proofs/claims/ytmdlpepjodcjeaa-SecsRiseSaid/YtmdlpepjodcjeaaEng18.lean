/- ENGINE, PART 18: functions. -/
import Derived.Test.YtmdlpepjodcjeaaEng17
namespace Go.Eng
set_option linter.unnecessarySimpa false
open Go
open Go.RowKit (Below)
set_option linter.unusedVariables false
set_option linter.unusedSimpArgs false

/-- an argument's slot: a pointer to what never turns is one -/
def argSV : AV → SV
  | .ref cs => .rp cs
  | a => .dat a none

def slotsOf : Nat → List AV → List (Nat × SV)
  | _, [] => []
  | i, a :: r => (i, argSV a) :: slotsOf (i + 1) r

def initS (args : List AV) : S := ⟨slotsOf 0 args, [], [], 4⟩

/-- the slots and the boxes of a function that is given pointers: slot, box -/
def slotsB : Nat → Nat → List (Option AV) → List (Nat × SV)
  | _, _, [] => []
  | i, k, some a :: r => (i, argSV a) :: slotsB (i + 1) k r
  | i, k, none :: r => (i, .ptr k 0) :: slotsB (i + 1) (k + 1) r

def boxesB : Nat → List (List AV) → List (Nat × Box)
  | _, [] => []
  | k, cs :: css => (k, ⟨cs, []⟩) :: boxesB (k + 1) css

def initB (css : List (List AV)) (args : List (Option AV)) : S := ⟨slotsB 0 0 args, boxesB 0 css, [], 4⟩

/-- the boxes hold this -/
def holdB (l : List (Nat × Box)) : Nat → List (List AV) → Prop
  | _, [] => True
  | k, cs :: css => withV (lkB k l) (fun x => x.cells = cs) ∧ holdB l (k + 1) css

def resA (s : S) : CRes → Option (AV × Option Nat)
  | .tmp t => match lk t s.slots with
    | some (.dat a q) => some (a, q)
    | _ => none
  | .cell t sz => match lk t s.slots with
    | some (.ptr b off) => match lkB b s.boxes with
      | some bx => match partA bx.cells off sz with
        | some a => some (a, match sz with | none => lkN off bx.tags | some _ => none)
        | none => none
      | none => none
    | _ => none

def ressA (s : S) : List CRes → Option (List AV)
  | [] => some []
  | r :: rs => match resA s r, ressA s rs with
    | some p, some as => some (p.1 :: as)
    | _, _ => none

def resultA (s : S) : List CRes → Option (AV × Option Nat)
  | [r] => resA s r
  | rs => (ressA s rs).map fun as => (.tup as, none)

def frA (fr : Option Nat) (q : Option Nat) (live : List (Nat × Nat)) : Prop :=
  match fr with
  | none => True
  | some e => match q with
    | some q' => lkN q' live = some e
    | none => False

/-- at the end: the result -/
def fin (res : List CRes) (r : AV) (fr : Option Nat) : Exit → S → Prop
  | .normal, s => withV (resultA s res) fun p => p.1 = r ∧ frA fr p.2 s.live
  | .ret, s => withV (resultA s res) fun p => p.1 = r ∧ frA fr p.2 s.live
  | _, _ => False

def finB (res : List CRes) (r : AV) (fr : Option Nat) (css : List (List AV)) : Exit → S → Prop
  | .normal, s => withV (resultA s res) fun p => p.1 = r ∧ frA fr p.2 s.live ∧ holdB s.boxes 0 css
  | .ret, s => withV (resultA s res) fun p => p.1 = r ∧ frA fr p.2 s.live ∧ holdB s.boxes 0 css
  | _, _ => False

theorem argSV_RV {β : Nat → Nat} {τ : Nat → Value} {w : World} {π : Nat → Nat → Prop} {U : Nat → Prop} {a : AV} {x : Value} (h : DV w π a x) : RV β τ w π (argSV a) x ∧ (argSV a).inU U := by
  cases a with
  | ref cs => exact ⟨RV.ref.2 h, trivial⟩
  | _ => exact ⟨⟨h, fun t ht => by cases ht⟩, trivial⟩

theorem lk_slotsOf : ∀ {args : List AV} {i t : Nat} {v : SV}, lk t (slotsOf i args) = some v → ∃ a, i ≤ t ∧ args[t - i]? = some a ∧ v = argSV a
  | [], i, t, v, h => by cases h
  | a :: r, i, t, v, h => by
    simp only [slotsOf, lk, cbeq] at h
    split at h
    · rename_i e; cases h; subst e; exact ⟨a, Nat.le_refl _, by simp, rfl⟩
    · obtain ⟨b, h1, h2, h3⟩ := lk_slotsOf h
      refine ⟨b, by omega, ?_, h3⟩
      rw [show t - i = (t - (i + 1)) + 1 by omega]
      simpa using h2

section
variable {P : Program} {nt : Nat} {n0 : Fen} {w0 : World} {π0 : Nat → Nat → Prop} {U : Nat → Prop} {s : S} {a : Act} {w : World} {β : Nat → Nat} {τ : Nat → Value} {π : Nat → Nat → Prop}

def readRes (tmps : Array Value) : ResultVar → Sem Value
  | .tmp t => pure (tmps.getD t undef)
  | .cell a t => do loadVar t (← asAddr (tmps.getD a undef))

theorem res_run (R : Rel P nt n0 w0 π0 U s a w β τ π) {rv : ResultVar} {cr : CRes} (hc : cRes P rv = some cr) {av : AV} {q : Option Nat} (h : resA s cr = some (av, q)) :
    ∃ v, (readRes a.tmps rv).run P w = .ok v w ∧ DV w π av v ∧ (∀ t, q = some t → v = τ t) := by
  cases rv with
  | tmp t =>
    cases hc
    simp only [resA] at h
    split at h <;> try (cases h; done)
    rename_i a' q' hl
    cases h
    obtain ⟨⟨x, hx, hr⟩, _⟩ := R.slots t _ hl
    exact ⟨x, by simp [readRes, hx], hr.1, hr.2⟩
  | cell ad t =>
    simp only [cRes, Option.map_eq_some_iff] at hc
    obtain ⟨sz, hsz, rfl⟩ := hc
    simp only [resA] at h
    split at h <;> try (cases h; done)
    rename_i b off hl
    split at h <;> try (cases h; done)
    rename_i bx hb
    split at h <;> try (cases h; done)
    rename_i a' hp
    cases h
    have hop : aop (Pure P) 0 (.ld (.t ad) sz) (fun v s' => v = .dat av (match (generalizing := false) sz with | none => lkN off bx.tags | some _ => none)) s := by
      simp only [aop, opd, hl, withV_some, hb, hp]
      cases sz <;> rfl
    obtain ⟨v, y, hr, hrv, _, hK⟩ := R.load (X := .tmp ad) rfl hsz hop
    subst hK
    obtain ⟨⟨x, hx, hrx⟩, _⟩ := R.slots ad _ hl
    have hrx' : x = .pointer (some ⟨β b, off, none⟩) := hrx
    have he : a.eval (.tmp ad) = x := by simp [Act.eval, hx]
    refine ⟨y, ?_, hrv.1, hrv.2⟩
    rw [he, hrx'] at hr
    simp [Instr.loadAt, Instr.sureAddr] at hr
    simp [readRes, hx, hrx', asAddr, hr]

theorem ress_run (R : Rel P nt n0 w0 π0 U s a w β τ π) : ∀ {rvs : List ResultVar} {crs : List CRes}, rvs.mapM (cRes P) = some crs → ∀ {as : List AV}, ressA s crs = some as →
    ∃ vs, (rvs.mapM (readRes a.tmps)).run P w = .ok vs w ∧ DVs w π as vs
  | [], crs, hc, as, h => by
    simp at hc; subst hc
    simp [ressA] at h; subst h
    exact ⟨[], by simp, .nil _ _⟩
  | rv :: rvs, crs, hc, as, h => by
    simp only [List.mapM_cons, Option.bind_eq_bind, Option.bind_eq_some_iff, Option.pure_def, Option.some.injEq] at hc
    obtain ⟨cr, hcr, crs', hcrs, rfl⟩ := hc
    simp only [ressA] at h
    split at h <;> try (cases h; done)
    rename_i p as' h1 h2
    cases h
    obtain ⟨v, hv, hd, _⟩ := res_run R hcr (av := p.1) (q := p.2) h1
    obtain ⟨vs, hvs, hds⟩ := ress_run R hcrs h2
    exact ⟨v :: vs, by simp [List.mapM_cons, hv, hvs], .cons hd hds⟩

theorem results_eq (fn : Func) (tmps : Array Value) : results fn tmps = (do let vs ← fn.results.mapM (readRes tmps); pure (if h : vs.size = 1 then vs[0] else .tuple vs)) := by
  unfold results
  congr 1

theorem result_run (R : Rel P nt n0 w0 π0 U s a w β τ π) {fn : Func} {crs : List CRes} (hc : fn.results.toList.mapM (cRes P) = some crs) {av : AV} {q : Option Nat} (h : resultA s crs = some (av, q)) :
    ∃ v, (results fn a.tmps).run P w = .ok v w ∧ DV w π av v ∧ (∀ t, q = some t → v = τ t) := by
  have go : ∀ vs : List Value, (fn.results.toList.mapM (readRes a.tmps)).run P w = .ok vs w → (results fn a.tmps).run P w = .ok (if h : vs.length = 1 then vs[0] else .tuple vs.toArray) w := by
    intro vs hvs
    have : (fn.results.mapM (readRes a.tmps)).run P w = .ok vs.toArray w := by
      have e : fn.results = fn.results.toList.toArray := by simp
      rw [e, List.mapM_toArray, Sem.run_map, hvs]; rfl
    rw [results_eq, Sem.run_bind, this]
    simp
  have many : (∀ r, crs ≠ [r]) → resultA s crs = (ressA s crs).map fun as => (.tup as, none) := by
    intro hne
    cases crs with
    | nil => rfl
    | cons r rs =>
      cases rs with
      | nil => exact absurd rfl (hne r)
      | cons r' rs => rfl
  by_cases hone : ∃ r, crs = [r]
  · obtain ⟨r, rfl⟩ := hone
    cases hrl : fn.results.toList with
    | nil => rw [hrl] at hc; simp at hc
    | cons rv rvs =>
      rw [hrl] at hc
      simp only [List.mapM_cons, Option.bind_eq_bind, Option.bind_eq_some_iff, Option.pure_def, Option.some.injEq] at hc
      obtain ⟨cr, hcr, crs', hcrs, he⟩ := hc
      cases he
      have hnil : rvs = [] := by
        cases rvs with
        | nil => rfl
        | cons x xs =>
          simp only [List.mapM_cons, Option.bind_eq_bind, Option.bind_eq_some_iff, Option.pure_def, Option.some.injEq] at hcrs
          obtain ⟨_, _, _, _, h⟩ := hcrs
          cases h
      subst hnil
      obtain ⟨v, hv, hd, hq⟩ := res_run R hcr h
      refine ⟨v, ?_, hd, hq⟩
      rw [go [v] (by rw [hrl]; simp [hv])]
      simp
  · have hne : ∀ r, crs ≠ [r] := fun r e => hone ⟨r, e⟩
    rw [many hne] at h
    simp only [Option.map_eq_some_iff, Prod.mk.injEq] at h
    obtain ⟨as, has, rfl, rfl⟩ := h
    obtain ⟨vs, hvs, hds⟩ := ress_run R hc has
    have hl1 : crs.length = vs.length := by
      have : ∀ {crs : List CRes} {as : List AV}, ressA s crs = some as → crs.length = as.length := by
        intro crs
        induction crs with
        | nil => intro as h; simp [ressA] at h; subst h; rfl
        | cons c crs ih =>
          intro as h
          simp only [ressA] at h
          split at h <;> try (cases h; done)
          rename_i p as' h1 h2
          cases h
          simp [ih h2]
      rw [this has, hds.1]
    refine ⟨.tuple vs.toArray, ?_, .tup as vs.toArray (by simpa using hds.1) (fun i a v ha hv => hds.2 i a v ha (by simpa using hv)), fun t ht => by cases ht⟩
    rw [go vs hvs]
    have : ¬ vs.length = 1 := by
      intro e
      rw [← hl1] at e
      match crs, e, hne with
      | [r], _, hne => exact hne r rfl
    rw [dif_neg this]
end

section
variable {P : Program}

theorem cFn_spec {f : FuncId} {cf : CFn} (hcf : cFn P f = some cf) : ∃ (fn : Func) (c : Code) (cc : CCode), P.funcs[f]? = some fn ∧ fn.body = some c ∧ fn.results.toList.mapM (cRes P) = some cf.res ∧ cCode P c = some cc ∧ cf.code = cc ∧ cf.nt = fn.ntmps ∧ cc.fits fn.ntmps = true ∧ callable P f = true := by
  unfold cFn at hcf
  split at hcf <;> try (cases hcf; done)
  rename_i fn hfn
  split at hcf <;> try (cases hcf; done)
  rename_i c rs hbody hrs
  split at hcf <;> try (cases hcf; done)
  rename_i cc hcc
  split at hcf <;> try (cases hcf; done)
  rename_i hfit
  cases hcf
  simp only [Bool.and_eq_true] at hfit
  exact ⟨fn, c, cc, hfn, hbody, hrs, hcc, rfl, rfl, hfit.1, hfit.2⟩

theorem aw_wide {c : Code} {Q : Exit → Act → World → Prop} {a : Act} {w : World} (h : c.wpIn (FW none) 0 P Q a w) : c.wpIn Fence.wide 0 P Q a w := h
/-- at the end the marks are taken, one after the other -/
theorem leaves_marks {nt : Nat} {n0 : Fen} {w : World} {π : Nat → Nat → Prop} {s : S} {a : Act} {fn : Func} {R : Ending → World → Prop}
    (main : ∀ w', RelN P nt n0 w π s a w' → ∃ v, (results fn a.tmps).run P w' = .ok v w' ∧ R (.returned v) w') :
    ∀ (Ds : List Nat) (w' : World), Ds.Nodup → (∀ D ∈ Ds, n0.n ≤ D ∧ w'.heap[D]? = some (.deferred (some []))) → RelN P nt n0 w π s a w' → w.heap.size ≤ n0.n → LeavesInM Fence.wide 0 P fn a.tmps R (Ds.map mkD) .returning w'
  | [], w', _, _, R', _ => main w' R'
  | D :: Ds, w', hnd, hD, R', hn => by
    obtain ⟨h1, h2⟩ := hD D List.mem_cons_self
    simp only [List.nodup_cons] at hnd
    refine ⟨by simp, .inl ⟨D, _, rfl, run_takeDeferred h2, ?_⟩⟩
    refine leaves_marks main Ds _ hnd.2 (fun D' hD' => ?_) ((R'.putObj h2 rfl rfl).rew (R'.below.putObj (Nat.le_trans hn h1) h1 _) R'.n0le (fun b o hb => (cell_putObj h2 rfl rfl _).trans (R'.kept b o hb))) hn
    obtain ⟨g1, g2⟩ := hD D' (List.mem_cons_of_mem _ hD')
    exact ⟨g1, (World.putObj_heap_other (fun e => hnd.1 (by rw [← e]; exact hD'))).trans g2⟩

/-- A FUNCTION: what its code is shown to do, it does. -/
theorem pure_of (hm : P.follows .mixedOrders = true) {f : FuncId} {cf : CFn} (hcf : cFn P f = some cf) {args : List AV} {r : AV} {fr : Option Nat} (hn : args.length ≤ cf.nt)
    (h : aw (Pure P) cf.code (fin cf.res r fr) (initS args)) : Pure0 P f args r fr := by
  obtain ⟨fn, c, cc, hfn, hbody, hrs, hcc, ec, en, hfit, hcall⟩ := cFn_spec hcf
  rw [ec] at h
  rw [en] at hn
  refine ⟨hcall, fun w π vs hprot hd => ?_⟩
  have hlen := hd.1
  have R : RelN P fn.ntmps (Fen.top w) w π (initS args) { tmps := vs.toArray ++ Array.replicate (fn.ntmps - vs.toArray.size) undef, defers := [] } w := by
    refine ⟨Nat.le_refl 4, id, fun _ => undef, π, fun n => n < 4, fun _ h => h, ?_⟩
    refine { size := ?_, slots := ?_, boxes := fun b x h => (by cases h), inj := fun b b' x x' h => (by cases h), live := fun q e h => (by cases h), liveInj := fun q q' e e' B h => (by cases h), liveBox := fun q e b x h => (by cases h), below := .refl _ _, n0le := Nat.le_refl _, prot := hprot, prot0 := fun _ _ h => h, protOld := fun _ _ h => .inl h, fore := fun _ _ => rfl, foreU := fun _ h => h, kept := fun _ _ _ => rfl }
    · simp; omega
    · intro t v hv
      obtain ⟨av, _, hav, rfl⟩ := lk_slotsOf hv
      simp only [Nat.sub_zero] at hav
      obtain ⟨x, hx, hdx⟩ := hd.get hav
      refine ⟨⟨x, ?_, (argSV_RV (U := fun n => n < 4) hdx).1⟩, (argSV_RV (β := id) (τ := fun _ => undef) hdx).2⟩
      have htl : t < vs.length := (List.getElem?_eq_some_iff.1 hx).1
      simp [Array.getElem?_append, htl]
      simpa using (List.getElem?_eq_some_iff.1 hx).2
  refine callsIn_wide.1 (callsIn_of_wp_marks (n := 0) (F := Fence.wide) hfn hbody trivial (wpIn_mono (aw_wide (aw_sound hm c cc hcc hfit _ (fun _ => False) #[] (fun _ h => h.elim) none 0 w _ _ _ _ ⟨R, fun l h => by (cases h), ⟨[], rfl, .nil, by simp⟩, fun _ h => h.elim⟩ h)) ?_))
  have main : ∀ (s : S) (a' : Act) (w' : World), (withV (resultA s cf.res) fun p => p.1 = r ∧ frA fr p.2 s.live) → RelN P fn.ntmps (Fen.top w) w π s a' w' →
      ∃ v, (results fn a'.tmps).run P w' = .ok v w' ∧ ∃ u π', Ending.returned v = .returned u ∧ Below w.heap.size w w' ∧ (∀ b o, π b o → π' b o) ∧ (∀ b o, π' b o → π b o ∨ w.heap.size ≤ b) ∧
        (∀ b o, π' b o → b < w'.heap.size) ∧ DV w' π' r u ∧ ∀ t, fr = some t → Tok P w' π' w.heap.size t u := by
    rintro s a' w' hq ⟨_, β, τ, π', U, hU, R'⟩
    obtain ⟨⟨av, q⟩, hp, hav, hfr⟩ := withV_inv hq
    simp only at hav hfr
    subst hav
    obtain ⟨v, hv, hdv, htq⟩ := result_run R' hrs hp
    refine ⟨v, hv, v, π', rfl, R'.below.below (fun _ h => h), R'.prot0, R'.protOld, R'.prot, hdv, fun t ht => ?_⟩
    subst ht
    simp only [frA] at hfr
    cases q with
    | none => exact hfr.elim
    | some q =>
      rw [htq q rfl]
      exact (R'.live q t hfr).2
  rintro e a' w' ⟨s, hq, R', _, ⟨Ds, hm1, hm2, hm3⟩, _⟩
  cases e with
  | normal => show LeavesInM _ _ _ _ _ _ a'.defers _ _; rw [hm1]; exact leaves_marks (main s a' · hq) Ds w' hm2 hm3 R' (Nat.le_refl _)
  | ret => show LeavesInM _ _ _ _ _ _ a'.defers _ _; rw [hm1]; exact leaves_marks (main s a' · hq) Ds w' hm2 hm3 R' (Nat.le_refl _)
  | _ => exact hq.elim

theorem lk_slotsB {w : World} {π : Nat → Nat → Prop} : ∀ {args : List (Option AV)} {Bs : List Nat} {vs : List Value}, ArgsR w π args Bs vs → ∀ {i k t : Nat} {v : SV}, lk t (slotsB i k args) = some v →
    ∃ x, i ≤ t ∧ vs[t - i]? = some x ∧ ((∃ a, v = argSV a ∧ DV w π a x) ∨ ∃ j B, v = .ptr (k + j) 0 ∧ Bs[j]? = some B ∧ x = .pointer (some ⟨B, 0, none⟩))
  | [], Bs, vs, hr, i, k, t, v, h => by cases h
  | some a :: args, Bs, [], hr, i, k, t, v, h => by cases Bs <;> exact hr.elim
  | some a :: args, Bs, x :: vs, hr, i, k, t, v, h => by
    have hr' : DV w π a x ∧ ArgsR w π args Bs vs := by cases Bs <;> exact hr
    simp only [slotsB, lk, cbeq] at h
    split at h
    · rename_i e; cases h; subst e
      exact ⟨x, Nat.le_refl _, by simp, .inl ⟨a, rfl, hr'.1⟩⟩
    · obtain ⟨y, h1, h2, h3⟩ := lk_slotsB hr'.2 h
      refine ⟨y, by omega, ?_, h3⟩
      rw [show t - i = (t - (i + 1)) + 1 by omega]; simpa using h2
  | none :: args, [], vs, hr, i, k, t, v, h => by cases vs <;> exact hr.elim
  | none :: args, B :: Bs, [], hr, i, k, t, v, h => hr.elim
  | none :: args, B :: Bs, x :: vs, hr, i, k, t, v, h => by
    obtain ⟨hx, hr'⟩ := hr
    simp only [slotsB, lk, cbeq] at h
    split at h
    · rename_i e; cases h; subst e
      exact ⟨x, Nat.le_refl _, by simp, .inr ⟨0, B, rfl, rfl, hx⟩⟩
    · obtain ⟨y, h1, h2, h3⟩ := lk_slotsB hr' h
      refine ⟨y, by omega, ?_, ?_⟩
      · rw [show t - i = (t - (i + 1)) + 1 by omega]; simpa using h2
      · rcases h3 with h3 | ⟨j, B', e, hB, hx'⟩
        · exact .inl h3
        · exact .inr ⟨j + 1, B', by rw [e]; congr 1; omega, by simpa using hB, hx'⟩

theorem lkB_boxesB : ∀ {css : List (List AV)} {k b : Nat} {x : Box}, lkB b (boxesB k css) = some x → ∃ cs, k ≤ b ∧ css[b - k]? = some cs ∧ x = ⟨cs, []⟩
  | [], k, b, x, h => by cases h
  | cs :: css, k, b, x, h => by
    simp only [boxesB, lkB, cbeq] at h
    split at h
    · rename_i e; cases h; subst e; exact ⟨cs, Nat.le_refl _, by simp, rfl⟩
    · obtain ⟨cs', h1, h2, h3⟩ := lkB_boxesB h
      refine ⟨cs', by omega, ?_, h3⟩
      rw [show b - k = (b - (k + 1)) + 1 by omega]; simpa using h2

theorem argsR_len {w : World} {π : Nat → Nat → Prop} : ∀ {args : List (Option AV)} {Bs : List Nat} {vs : List Value}, ArgsR w π args Bs vs → args.length = vs.length
  | [], Bs, vs, h => by cases Bs <;> cases vs <;> first | rfl | exact h.elim
  | some a :: args, Bs, [], h => by cases Bs <;> exact h.elim
  | some a :: args, Bs, v :: vs, h => by
    have h' : DV w π a v ∧ ArgsR w π args Bs vs := by cases Bs <;> exact h
    simp [argsR_len h'.2]
  | none :: args, [], vs, h => by cases vs <;> exact h.elim
  | none :: args, B :: Bs, [], h => h.elim
  | none :: args, B :: Bs, v :: vs, h => by simp [argsR_len h.2]

theorem nodup_get : ∀ {l : List Nat}, l.Nodup → ∀ (i j : Nat) (x : Nat), l[i]? = some x → l[j]? = some x → i = j
  | [], _, i, j, x, h, _ => by simp at h
  | a :: l, hn, i, j, x, hi, hj => by
    rw [List.nodup_cons] at hn
    cases i with
    | zero => cases j with
      | zero => rfl
      | succ j => simp at hi hj; subst hi; exact absurd (List.mem_of_getElem? hj) hn.1
    | succ i => cases j with
      | zero => simp at hi hj; subst hj; exact absurd (List.mem_of_getElem? hi) hn.1
      | succ j => rw [nodup_get hn.2 i j x (by simpa using hi) (by simpa using hj)]

theorem holdB_at {l : List (Nat × Box)} {w : World} {π : Nat → Nat → Prop} {β : Nat → Nat} (hl : ∀ b x, lkB b l = some x → BoxR (fun _ => undef) w π (β b) ⟨x.cells, []⟩) :
    ∀ {css : List (List AV)} {Bs : List Nat} {k : Nat}, css.length = Bs.length → (∀ j B, Bs[j]? = some B → β (k + j) = B) → holdB l k css → BoxesAt w π css Bs
  | [], [], k, _, _, _ => trivial
  | [], B :: Bs, k, h, _, _ => by simp at h
  | cs :: css, [], k, h, _, _ => by simp at h
  | cs :: css, B :: Bs, k, h, hb, hh => by
    obtain ⟨x, hx, e⟩ := withV_inv hh.1
    refine ⟨?_, holdB_at hl (by simpa using h) (fun j B' hj => by rw [show k + 1 + j = k + (j + 1) by omega]; exact hb (j + 1) B' (by simpa using hj)) hh.2⟩
    have := hl k x hx
    rw [← e, ← hb 0 B rfl]
    exact this

/-- A FUNCTION THAT IS GIVEN POINTERS. -/
theorem pureB_of (hm : P.follows .mixedOrders = true) {f : FuncId} {cf : CFn} (hcf : cFn P f = some cf) {css css' : List (List AV)} {args : List (Option AV)} {r : AV} {fr : Option Nat} (hn : args.length ≤ cf.nt) (hl : css'.length = css.length) (h4 : css.length ≤ 4)
    (h : aw (Pure P) cf.code (finB cf.res r fr css') (initB css args)) : PureB P f css args r fr css' := by
  obtain ⟨fn, c, cc, hfn, hbody, hrs, hcc, ec, en, hfit, hcall⟩ := cFn_spec hcf
  rw [ec] at h
  rw [en] at hn
  refine ⟨hcall, hl, h4, fun w π Bs vs hprot hnd hbx hd => ?_⟩
  have hlen := argsR_len hd
  obtain ⟨hbl, hbget⟩ := hbx.get
  have hβ : ∀ (j B : Nat), Bs[j]? = some B → (Fen.topB w Bs).β j = B := fun j B hj => by simp [Fen.topB, hj]
  have R : RelN P fn.ntmps (Fen.topB w Bs) w π (initB css args) { tmps := vs.toArray ++ Array.replicate (fn.ntmps - vs.toArray.size) undef, defers := [] } w := by
    refine ⟨Nat.le_refl 4, (Fen.topB w Bs).β, fun _ => undef, π, fun n => n < 4, fun _ h => h, ?_⟩
    have hbox : ∀ b x, lkB b (initB css args).boxes = some x → ∃ B cs, b < 4 ∧ Bs[b]? = some B ∧ (Fen.topB w Bs).β b = B ∧ x = ⟨cs, []⟩ ∧ BoxR (fun _ => undef) w π B ⟨cs, []⟩ := by
      intro b x hb
      obtain ⟨cs, _, h2, h3⟩ := lkB_boxesB hb
      simp only [Nat.sub_zero] at h2
      have hlt : b < css.length := (List.getElem?_eq_some_iff.1 h2).1
      have hB : Bs[b]? = some Bs[b] := List.getElem?_eq_getElem (by omega)
      exact ⟨_, cs, by omega, hB, hβ _ _ hB, h3, hbget b cs _ h2 hB⟩
    refine { size := ?_, slots := ?_, boxes := ?_, inj := ?_, live := fun q e h => (by cases h), liveInj := fun q q' e e' B h => (by cases h), liveBox := fun q e b x h => (by cases h), below := .refl _ _, n0le := Nat.le_refl _, prot := hprot, prot0 := fun _ _ h => h, protOld := fun _ _ h => .inl h, fore := fun _ _ => rfl, foreU := fun _ h => h, kept := fun _ _ _ => rfl }
    · simp; omega
    · intro t v hv
      obtain ⟨x, _, hx, hor⟩ := lk_slotsB hd hv
      simp only [Nat.sub_zero] at hx
      have htl : t < vs.length := (List.getElem?_eq_some_iff.1 hx).1
      have hget : (vs.toArray ++ Array.replicate (fn.ntmps - vs.toArray.size) undef)[t]? = some x := by
        simp [Array.getElem?_append, htl]
        simpa using (List.getElem?_eq_some_iff.1 hx).2
      rcases hor with ⟨a, rfl, hda⟩ | ⟨j, B, rfl, hB, rfl⟩
      · exact ⟨⟨x, hget, (argSV_RV (U := fun n => n < 4) hda).1⟩, (argSV_RV (β := id) (τ := fun _ => undef) hda).2⟩
      · refine ⟨⟨_, hget, ?_⟩, ?_⟩
        · show Value.pointer (some ⟨B, 0, none⟩) = .pointer (some ⟨(Fen.topB w Bs).β (0 + j), 0, none⟩)
          rw [Nat.zero_add, hβ j B hB]
        · have : j < Bs.length := (List.getElem?_eq_some_iff.1 hB).1
          show 0 + j < 4
          omega
    · intro b x hb
      obtain ⟨B, cs, h1, h2, h3, rfl, h5⟩ := hbox b x hb
      exact ⟨h1, .inr ⟨h1, by rw [h3]; exact List.mem_of_getElem? h2⟩, by rw [h3]; exact h5, fun o q hq => by cases hq⟩
    · intro b b' x x' hb hb' e
      obtain ⟨B, _, _, h2, h3, _, _⟩ := hbox b x hb
      obtain ⟨B', _, _, h2', h3', _, _⟩ := hbox b' x' hb'
      rw [h3, h3'] at e
      subst e
      exact nodup_get hnd b b' B h2 h2'
  refine callsIn_wide.1 (callsIn_of_wp_marks (n := 0) (F := Fence.wide) hfn hbody trivial (wpIn_mono (aw_wide (aw_sound hm c cc hcc hfit _ (fun _ => False) #[] (fun _ h => h.elim) none 0 w _ _ _ _ ⟨R, fun l h => by (cases h), ⟨[], rfl, .nil, by simp⟩, fun _ h => h.elim⟩ h)) ?_))
  have main : ∀ (s : S) (a' : Act) (w' : World), (withV (resultA s cf.res) fun p => p.1 = r ∧ frA fr p.2 s.live ∧ holdB s.boxes 0 css') → RelN P fn.ntmps (Fen.topB w Bs) w π s a' w' →
      ∃ v, (results fn a'.tmps).run P w' = .ok v w' ∧ ∃ u π', Ending.returned v = .returned u ∧ Blw (Fen.topB w Bs) w w' ∧ (∀ b o, π b o → π' b o) ∧ (∀ b o, π' b o → π b o ∨ w.heap.size ≤ b) ∧
        (∀ b o, π' b o → b < w'.heap.size) ∧ BoxesAt w' π' css' Bs ∧ DV w' π' r u ∧ ∀ t, fr = some t → Tok P w' π' w.heap.size t u := by
    rintro s a' w' hq ⟨_, β, τ, π', U, hU, R'⟩
    obtain ⟨⟨av, q⟩, hp, hav, hfr, hho⟩ := withV_inv hq
    simp only at hav hfr hho
    subst hav
    obtain ⟨v, hv, hdv, htq⟩ := result_run R' hrs hp
    refine ⟨v, hv, v, π', rfl, R'.below, R'.prot0, R'.protOld, R'.prot, ?_, hdv, fun t ht => ?_⟩
    · refine holdB_at (β := β) (fun b x hb => (R'.boxes b x hb).2.2.1.noTags) (by omega) (fun j B hj => ?_) hho
      have : j < Bs.length := (List.getElem?_eq_some_iff.1 hj).1
      rw [Nat.zero_add, R'.fore j (by omega)]
      exact hβ j B hj
    · subst ht
      simp only [frA] at hfr
      cases q with
      | none => exact hfr.elim
      | some q =>
        rw [htq q rfl]
        exact (R'.live q t hfr).2
  rintro e a' w' ⟨s, hq, R', _, ⟨Ds, hm1, hm2, hm3⟩, _⟩
  cases e with
  | normal => show LeavesInM _ _ _ _ _ _ a'.defers _ _; rw [hm1]; exact leaves_marks (main s a' · hq) Ds w' hm2 hm3 R' (Nat.le_refl _)
  | ret => show LeavesInM _ _ _ _ _ _ a'.defers _ _; rw [hm1]; exact leaves_marks (main s a' · hq) Ds w' hm2 hm3 R' (Nat.le_refl _)
  | _ => exact hq.elim
end
end Go.Eng
