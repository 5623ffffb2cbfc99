/- The engine and the library, part 3 of 6: what the proofs of this seat need of them. -/
import Derived.Test.YtjajlcaemehdoaaPk2
namespace Go.Eng
set_option linter.unusedVariables false
set_option linter.unusedSimpArgs false
set_option linter.unnecessarySimpa false
open Go
open Go.RowKit (Below)
set_option linter.unusedVariables false
set_option linter.unusedSimpArgs false
def argSV : AV → SV
  | .ref cs => .rp cs
  | a => .dat a none
def slotsOf : Nat → List AV → List (Nat × SV)
  | _, [] => []
  | i, a :: r => (i, argSV a) :: slotsOf (i + 1) r
def initS (args : List AV) : S := ⟨slotsOf 0 args, [], [], 4⟩
def slotsB : Nat → Nat → List (Option AV) → List (Nat × SV)
  | _, _, [] => []
  | i, k, some a :: r => (i, argSV a) :: slotsB (i + 1) k r
  | i, k, none :: r => (i, .ptr k 0) :: slotsB (i + 1) (k + 1) r
def boxesB : Nat → List (List AV) → List (Nat × Box)
  | _, [] => []
  | k, cs :: css => (k, ⟨cs, []⟩) :: boxesB (k + 1) css
def initB (css : List (List AV)) (args : List (Option AV)) : S := ⟨slotsB 0 0 args, boxesB 0 css, [], 4⟩
def holdB (l : List (Nat × Box)) : Nat → List (List AV) → Prop
  | _, [] => True
  | k, cs :: css => withV (lkB k l) (fun x => x.cells = cs) ∧ holdB l (k + 1) css
def resA (s : S) : CRes → Option (AV × Option Nat)
  | .tmp t => match lk t s.slots with
    | some (.dat a q) => some (a, q)
    | _ => none
  | .cell t sz => match lk t s.slots with
    | some (.ptr b off) => match lkB b s.boxes with
      | some bx => match partA bx.cells off sz with
        | some a => some (a, match sz with | none => lkN off bx.tags | some _ => none)
        | none => none
      | none => none
    | _ => none
def ressA (s : S) : List CRes → Option (List AV)
  | [] => some []
  | r :: rs => match resA s r, ressA s rs with
    | some p, some as => some (p.1 :: as)
    | _, _ => none
def resultA (s : S) : List CRes → Option (AV × Option Nat)
  | [r] => resA s r
  | rs => (ressA s rs).map fun as => (.tup as, none)
def frA (fr : Option Nat) (q : Option Nat) (live : List (Nat × Nat)) : Prop :=
  match fr with
  | none => True
  | some e => match q with
    | some q' => lkN q' live = some e
    | none => False
def fin (res : List CRes) (r : AV) (fr : Option Nat) : Exit → S → Prop
  | .normal, s => withV (resultA s res) fun p => p.1 = r ∧ frA fr p.2 s.live
  | .ret, s => withV (resultA s res) fun p => p.1 = r ∧ frA fr p.2 s.live
  | _, _ => False
def finB (res : List CRes) (r : AV) (fr : Option Nat) (css : List (List AV)) : Exit → S → Prop
  | .normal, s => withV (resultA s res) fun p => p.1 = r ∧ frA fr p.2 s.live ∧ holdB s.boxes 0 css
  | .ret, s => withV (resultA s res) fun p => p.1 = r ∧ frA fr p.2 s.live ∧ holdB s.boxes 0 css
  | _, _ => False
theorem argSV_RV {β : Nat → Nat} {τ : Nat → Value} {w : World} {π : Nat → Nat → Prop} {U : Nat → Prop} {a : AV} {x : Value} (h : DV w π a x) : RV β τ w π (argSV a) x ∧ (argSV a).inU U := by
  cases a with
  | ref cs => exact ⟨RV.ref.2 h, trivial⟩
  | _ => exact ⟨⟨h, fun t ht => by cases ht⟩, trivial⟩
theorem lk_slotsOf : ∀ {args : List AV} {i t : Nat} {v : SV}, lk t (slotsOf i args) = some v → ∃ a, i ≤ t ∧ args[t - i]? = some a ∧ v = argSV a
  | [], i, t, v, h => by cases h
  | a :: r, i, t, v, h => by
    simp only [slotsOf, lk, cbeq] at h
    split at h
    · rename_i e; cases h; subst e; exact ⟨a, Nat.le_refl _, by simp, rfl⟩
    · obtain ⟨b, h1, h2, h3⟩ := lk_slotsOf h
      refine ⟨b, by omega, ?_, h3⟩
      rw [show t - i = (t - (i + 1)) + 1 by omega]
      simpa using h2
section
variable {P : Program} {nt : Nat} {n0 : Fen} {w0 : World} {π0 : Nat → Nat → Prop} {U : Nat → Prop} {s : S} {a : Act} {w : World} {β : Nat → Nat} {τ : Nat → Value} {π : Nat → Nat → Prop}
def readRes (tmps : Array Value) : ResultVar → Sem Value
  | .tmp t => pure (tmps.getD t undef)
  | .cell a t => do loadVar t (← asAddr (tmps.getD a undef))
theorem res_run (R : Rel P nt n0 w0 π0 U s a w β τ π) {rv : ResultVar} {cr : CRes} (hc : cRes P rv = some cr) {av : AV} {q : Option Nat} (h : resA s cr = some (av, q)) :
    ∃ v, (readRes a.tmps rv).run P w = .ok v w ∧ DV w π av v ∧ (∀ t, q = some t → v = τ t) := by
  cases rv with
  | tmp t =>
    cases hc
    simp only [resA] at h
    split at h <;> try (cases h; done)
    rename_i a' q' hl
    cases h
    obtain ⟨⟨x, hx, hr⟩, _⟩ := R.slots t _ hl
    exact ⟨x, by simp [readRes, hx], hr.1, hr.2⟩
  | cell ad t =>
    simp only [cRes, Option.map_eq_some_iff] at hc
    obtain ⟨sz, hsz, rfl⟩ := hc
    simp only [resA] at h
    split at h <;> try (cases h; done)
    rename_i b off hl
    split at h <;> try (cases h; done)
    rename_i bx hb
    split at h <;> try (cases h; done)
    rename_i a' hp
    cases h
    have hop : aop (Pure P) 0 (.ld (.t ad) sz) (fun v s' => v = .dat av (match (generalizing := false) sz with | none => lkN off bx.tags | some _ => none)) s := by
      simp only [aop, opd, hl, withV_some, hb, hp]
      cases sz <;> rfl
    obtain ⟨v, y, hr, hrv, _, hK⟩ := R.load (X := .tmp ad) rfl hsz hop
    subst hK
    obtain ⟨⟨x, hx, hrx⟩, _⟩ := R.slots ad _ hl
    have hrx' : x = .pointer (some ⟨β b, off, none⟩) := hrx
    have he : a.eval (.tmp ad) = x := by simp [Act.eval, hx]
    refine ⟨y, ?_, hrv.1, hrv.2⟩
    rw [he, hrx'] at hr
    simp [Instr.loadAt, Instr.sureAddr] at hr
    simp [readRes, hx, hrx', asAddr, hr]
theorem ress_run (R : Rel P nt n0 w0 π0 U s a w β τ π) : ∀ {rvs : List ResultVar} {crs : List CRes}, rvs.mapM (cRes P) = some crs → ∀ {as : List AV}, ressA s crs = some as →
    ∃ vs, (rvs.mapM (readRes a.tmps)).run P w = .ok vs w ∧ DVs w π as vs
  | [], crs, hc, as, h => by
    simp at hc; subst hc
    simp [ressA] at h; subst h
    exact ⟨[], by simp, .nil _ _⟩
  | rv :: rvs, crs, hc, as, h => by
    simp only [List.mapM_cons, Option.bind_eq_bind, Option.bind_eq_some_iff, Option.pure_def, Option.some.injEq] at hc
    obtain ⟨cr, hcr, crs', hcrs, rfl⟩ := hc
    simp only [ressA] at h
    split at h <;> try (cases h; done)
    rename_i p as' h1 h2
    cases h
    obtain ⟨v, hv, hd, _⟩ := res_run R hcr (av := p.1) (q := p.2) h1
    obtain ⟨vs, hvs, hds⟩ := ress_run R hcrs h2
    exact ⟨v :: vs, by simp [List.mapM_cons, hv, hvs], .cons hd hds⟩
theorem results_eq (fn : Func) (tmps : Array Value) : results fn tmps = (do let vs ← fn.results.mapM (readRes tmps); pure (if h : vs.size = 1 then vs[0] else .tuple vs)) := by
  unfold results
  congr 1
theorem result_run (R : Rel P nt n0 w0 π0 U s a w β τ π) {fn : Func} {crs : List CRes} (hc : fn.results.toList.mapM (cRes P) = some crs) {av : AV} {q : Option Nat} (h : resultA s crs = some (av, q)) :
    ∃ v, (results fn a.tmps).run P w = .ok v w ∧ DV w π av v ∧ (∀ t, q = some t → v = τ t) := by
  have go : ∀ vs : List Value, (fn.results.toList.mapM (readRes a.tmps)).run P w = .ok vs w → (results fn a.tmps).run P w = .ok (if h : vs.length = 1 then vs[0] else .tuple vs.toArray) w := by
    intro vs hvs
    have : (fn.results.mapM (readRes a.tmps)).run P w = .ok vs.toArray w := by
      have e : fn.results = fn.results.toList.toArray := by simp
      rw [e, List.mapM_toArray, Sem.run_map, hvs]; rfl
    rw [results_eq, Sem.run_bind, this]
    simp
  have many : (∀ r, crs ≠ [r]) → resultA s crs = (ressA s crs).map fun as => (.tup as, none) := by
    intro hne
    cases crs with
    | nil => rfl
    | cons r rs =>
      cases rs with
      | nil => exact absurd rfl (hne r)
      | cons r' rs => rfl
  by_cases hone : ∃ r, crs = [r]
  · obtain ⟨r, rfl⟩ := hone
    cases hrl : fn.results.toList with
    | nil => rw [hrl] at hc; simp at hc
    | cons rv rvs =>
      rw [hrl] at hc
      simp only [List.mapM_cons, Option.bind_eq_bind, Option.bind_eq_some_iff, Option.pure_def, Option.some.injEq] at hc
      obtain ⟨cr, hcr, crs', hcrs, he⟩ := hc
      cases he
      have hnil : rvs = [] := by
        cases rvs with
        | nil => rfl
        | cons x xs =>
          simp only [List.mapM_cons, Option.bind_eq_bind, Option.bind_eq_some_iff, Option.pure_def, Option.some.injEq] at hcrs
          obtain ⟨_, _, _, _, h⟩ := hcrs
          cases h
      subst hnil
      obtain ⟨v, hv, hd, hq⟩ := res_run R hcr h
      refine ⟨v, ?_, hd, hq⟩
      rw [go [v] (by rw [hrl]; simp [hv])]
      simp
  · have hne : ∀ r, crs ≠ [r] := fun r e => hone ⟨r, e⟩
    rw [many hne] at h
    simp only [Option.map_eq_some_iff, Prod.mk.injEq] at h
    obtain ⟨as, has, rfl, rfl⟩ := h
    obtain ⟨vs, hvs, hds⟩ := ress_run R hc has
    have hl1 : crs.length = vs.length := by
      have : ∀ {crs : List CRes} {as : List AV}, ressA s crs = some as → crs.length = as.length := by
        intro crs
        induction crs with
        | nil => intro as h; simp [ressA] at h; subst h; rfl
        | cons c crs ih =>
          intro as h
          simp only [ressA] at h
          split at h <;> try (cases h; done)
          rename_i p as' h1 h2
          cases h
          simp [ih h2]
      rw [this has, hds.1]
    refine ⟨.tuple vs.toArray, ?_, .tup as vs.toArray (by simpa using hds.1) (fun i a v ha hv => hds.2 i a v ha (by simpa using hv)), fun t ht => by cases ht⟩
    rw [go vs hvs]
    have : ¬ vs.length = 1 := by
      intro e
      rw [← hl1] at e
      match crs, e, hne with
      | [r], _, hne => exact hne r rfl
    rw [dif_neg this]
end
section
variable {P : Program}
theorem cFn_spec {f : FuncId} {cf : CFn} (hcf : cFn P f = some cf) : ∃ (fn : Func) (c : Code) (cc : CCode), P.funcs[f]? = some fn ∧ fn.body = some c ∧ fn.results.toList.mapM (cRes P) = some cf.res ∧ cCode P c = some cc ∧ cf.code = cc ∧ cf.nt = fn.ntmps ∧ cc.fits fn.ntmps = true ∧ callable P f = true := by
  unfold cFn at hcf
  split at hcf <;> try (cases hcf; done)
  rename_i fn hfn
  split at hcf <;> try (cases hcf; done)
  rename_i c rs hbody hrs
  split at hcf <;> try (cases hcf; done)
  rename_i cc hcc
  split at hcf <;> try (cases hcf; done)
  rename_i hfit
  cases hcf
  simp only [Bool.and_eq_true] at hfit
  exact ⟨fn, c, cc, hfn, hbody, hrs, hcc, rfl, rfl, hfit.1, hfit.2⟩
theorem aw_wide {c : Code} {Q : Exit → Act → World → Prop} {a : Act} {w : World} (h : c.wpIn (FW none) 0 P Q a w) : c.wpIn Fence.wide 0 P Q a w := h
theorem leaves_marks {nt : Nat} {n0 : Fen} {w : World} {π : Nat → Nat → Prop} {s : S} {a : Act} {fn : Func} {R : Ending → World → Prop}
    (main : ∀ w', RelN P nt n0 w π s a w' → ∃ v, (results fn a.tmps).run P w' = .ok v w' ∧ R (.returned v) w') :
    ∀ (Ds : List Nat) (w' : World), Ds.Nodup → (∀ D ∈ Ds, n0.n ≤ D ∧ w'.heap[D]? = some (.deferred (some []))) → RelN P nt n0 w π s a w' → w.heap.size ≤ n0.n → LeavesInM Fence.wide 0 P fn a.tmps R (Ds.map mkD) .returning w'
  | [], w', _, _, R', _ => main w' R'
  | D :: Ds, w', hnd, hD, R', hn => by
    obtain ⟨h1, h2⟩ := hD D List.mem_cons_self
    simp only [List.nodup_cons] at hnd
    refine ⟨by simp, .inl ⟨D, _, rfl, run_takeDeferred h2, ?_⟩⟩
    refine leaves_marks main Ds _ hnd.2 (fun D' hD' => ?_) ((R'.putObj h2 rfl rfl).rew (R'.below.putObj (Nat.le_trans hn h1) h1 _) R'.n0le (fun b o hb => (cell_putObj h2 rfl rfl _).trans (R'.kept b o hb))) hn
    obtain ⟨g1, g2⟩ := hD D' (List.mem_cons_of_mem _ hD')
    exact ⟨g1, (World.putObj_heap_other (fun e => hnd.1 (by rw [← e]; exact hD'))).trans g2⟩
theorem pure_of (hm : P.follows .mixedOrders = true) {f : FuncId} {cf : CFn} (hcf : cFn P f = some cf) {args : List AV} {r : AV} {fr : Option Nat} (hn : args.length ≤ cf.nt)
    (h : aw (Pure P) cf.code (fin cf.res r fr) (initS args)) : Pure0 P f args r fr := by
  obtain ⟨fn, c, cc, hfn, hbody, hrs, hcc, ec, en, hfit, hcall⟩ := cFn_spec hcf
  rw [ec] at h
  rw [en] at hn
  refine ⟨hcall, fun w π vs hprot hd => ?_⟩
  have hlen := hd.1
  have R : RelN P fn.ntmps (Fen.top w) w π (initS args) { tmps := vs.toArray ++ Array.replicate (fn.ntmps - vs.toArray.size) undef, defers := [] } w := by
    refine ⟨Nat.le_refl 4, id, fun _ => undef, π, fun n => n < 4, fun _ h => h, ?_⟩
    refine { size := ?_, slots := ?_, boxes := fun b x h => (by cases h), inj := fun b b' x x' h => (by cases h), live := fun q e h => (by cases h), liveInj := fun q q' e e' B h => (by cases h), liveBox := fun q e b x h => (by cases h), below := .refl _ _, n0le := Nat.le_refl _, prot := hprot, prot0 := fun _ _ h => h, protOld := fun _ _ h => .inl h, fore := fun _ _ => rfl, foreU := fun _ h => h, kept := fun _ _ _ => rfl }
    · simp; omega
    · intro t v hv
      obtain ⟨av, _, hav, rfl⟩ := lk_slotsOf hv
      simp only [Nat.sub_zero] at hav
      obtain ⟨x, hx, hdx⟩ := hd.get hav
      refine ⟨⟨x, ?_, (argSV_RV (U := fun n => n < 4) hdx).1⟩, (argSV_RV (β := id) (τ := fun _ => undef) hdx).2⟩
      have htl : t < vs.length := (List.getElem?_eq_some_iff.1 hx).1
      simp [Array.getElem?_append, htl]
      simpa using (List.getElem?_eq_some_iff.1 hx).2
  refine callsIn_wide.1 (callsIn_of_wp_marks (n := 0) (F := Fence.wide) hfn hbody trivial (wpIn_mono (aw_wide (aw_sound hm c cc hcc hfit _ (fun _ => False) #[] (fun _ h => h.elim) none 0 w _ _ _ _ ⟨R, fun l h => by (cases h), ⟨[], rfl, .nil, by simp⟩, fun _ h => h.elim⟩ h)) ?_))
  have main : ∀ (s : S) (a' : Act) (w' : World), (withV (resultA s cf.res) fun p => p.1 = r ∧ frA fr p.2 s.live) → RelN P fn.ntmps (Fen.top w) w π s a' w' →
      ∃ v, (results fn a'.tmps).run P w' = .ok v w' ∧ ∃ u π', Ending.returned v = .returned u ∧ Below w.heap.size w w' ∧ (∀ b o, π b o → π' b o) ∧ (∀ b o, π' b o → π b o ∨ w.heap.size ≤ b) ∧
        (∀ b o, π' b o → b < w'.heap.size) ∧ DV w' π' r u ∧ ∀ t, fr = some t → Tok P w' π' w.heap.size t u := by
    rintro s a' w' hq ⟨_, β, τ, π', U, hU, R'⟩
    obtain ⟨⟨av, q⟩, hp, hav, hfr⟩ := withV_inv hq
    simp only at hav hfr
    subst hav
    obtain ⟨v, hv, hdv, htq⟩ := result_run R' hrs hp
    refine ⟨v, hv, v, π', rfl, R'.below.below (fun _ h => h), R'.prot0, R'.protOld, R'.prot, hdv, fun t ht => ?_⟩
    subst ht
    simp only [frA] at hfr
    cases q with
    | none => exact hfr.elim
    | some q =>
      rw [htq q rfl]
      exact (R'.live q t hfr).2
  rintro e a' w' ⟨s, hq, R', _, ⟨Ds, hm1, hm2, hm3⟩, _⟩
  cases e with
  | normal => show LeavesInM _ _ _ _ _ _ a'.defers _ _; rw [hm1]; exact leaves_marks (main s a' · hq) Ds w' hm2 hm3 R' (Nat.le_refl _)
  | ret => show LeavesInM _ _ _ _ _ _ a'.defers _ _; rw [hm1]; exact leaves_marks (main s a' · hq) Ds w' hm2 hm3 R' (Nat.le_refl _)
  | _ => exact hq.elim
theorem lk_slotsB {w : World} {π : Nat → Nat → Prop} : ∀ {args : List (Option AV)} {Bs : List Nat} {vs : List Value}, ArgsR w π args Bs vs → ∀ {i k t : Nat} {v : SV}, lk t (slotsB i k args) = some v →
    ∃ x, i ≤ t ∧ vs[t - i]? = some x ∧ ((∃ a, v = argSV a ∧ DV w π a x) ∨ ∃ j B, v = .ptr (k + j) 0 ∧ Bs[j]? = some B ∧ x = .pointer (some ⟨B, 0, none⟩))
  | [], Bs, vs, hr, i, k, t, v, h => by cases h
  | some a :: args, Bs, [], hr, i, k, t, v, h => by cases Bs <;> exact hr.elim
  | some a :: args, Bs, x :: vs, hr, i, k, t, v, h => by
    have hr' : DV w π a x ∧ ArgsR w π args Bs vs := by cases Bs <;> exact hr
    simp only [slotsB, lk, cbeq] at h
    split at h
    · rename_i e; cases h; subst e
      exact ⟨x, Nat.le_refl _, by simp, .inl ⟨a, rfl, hr'.1⟩⟩
    · obtain ⟨y, h1, h2, h3⟩ := lk_slotsB hr'.2 h
      refine ⟨y, by omega, ?_, h3⟩
      rw [show t - i = (t - (i + 1)) + 1 by omega]; simpa using h2
  | none :: args, [], vs, hr, i, k, t, v, h => by cases vs <;> exact hr.elim
  | none :: args, B :: Bs, [], hr, i, k, t, v, h => hr.elim
  | none :: args, B :: Bs, x :: vs, hr, i, k, t, v, h => by
    obtain ⟨hx, hr'⟩ := hr
    simp only [slotsB, lk, cbeq] at h
    split at h
    · rename_i e; cases h; subst e
      exact ⟨x, Nat.le_refl _, by simp, .inr ⟨0, B, rfl, rfl, hx⟩⟩
    · obtain ⟨y, h1, h2, h3⟩ := lk_slotsB hr' h
      refine ⟨y, by omega, ?_, ?_⟩
      · rw [show t - i = (t - (i + 1)) + 1 by omega]; simpa using h2
      · rcases h3 with h3 | ⟨j, B', e, hB, hx'⟩
        · exact .inl h3
        · exact .inr ⟨j + 1, B', by rw [e]; congr 1; omega, by simpa using hB, hx'⟩
theorem lkB_boxesB : ∀ {css : List (List AV)} {k b : Nat} {x : Box}, lkB b (boxesB k css) = some x → ∃ cs, k ≤ b ∧ css[b - k]? = some cs ∧ x = ⟨cs, []⟩
  | [], k, b, x, h => by cases h
  | cs :: css, k, b, x, h => by
    simp only [boxesB, lkB, cbeq] at h
    split at h
    · rename_i e; cases h; subst e; exact ⟨cs, Nat.le_refl _, by simp, rfl⟩
    · obtain ⟨cs', h1, h2, h3⟩ := lkB_boxesB h
      refine ⟨cs', by omega, ?_, h3⟩
      rw [show b - k = (b - (k + 1)) + 1 by omega]; simpa using h2
theorem argsR_len {w : World} {π : Nat → Nat → Prop} : ∀ {args : List (Option AV)} {Bs : List Nat} {vs : List Value}, ArgsR w π args Bs vs → args.length = vs.length
  | [], Bs, vs, h => by cases Bs <;> cases vs <;> first | rfl | exact h.elim
  | some a :: args, Bs, [], h => by cases Bs <;> exact h.elim
  | some a :: args, Bs, v :: vs, h => by
    have h' : DV w π a v ∧ ArgsR w π args Bs vs := by cases Bs <;> exact h
    simp [argsR_len h'.2]
  | none :: args, [], vs, h => by cases vs <;> exact h.elim
  | none :: args, B :: Bs, [], h => h.elim
  | none :: args, B :: Bs, v :: vs, h => by simp [argsR_len h.2]
theorem nodup_get : ∀ {l : List Nat}, l.Nodup → ∀ (i j : Nat) (x : Nat), l[i]? = some x → l[j]? = some x → i = j
  | [], _, i, j, x, h, _ => by simp at h
  | a :: l, hn, i, j, x, hi, hj => by
    rw [List.nodup_cons] at hn
    cases i with
    | zero => cases j with
      | zero => rfl
      | succ j => simp at hi hj; subst hi; exact absurd (List.mem_of_getElem? hj) hn.1
    | succ i => cases j with
      | zero => simp at hi hj; subst hj; exact absurd (List.mem_of_getElem? hi) hn.1
      | succ j => rw [nodup_get hn.2 i j x (by simpa using hi) (by simpa using hj)]
theorem holdB_at {l : List (Nat × Box)} {w : World} {π : Nat → Nat → Prop} {β : Nat → Nat} (hl : ∀ b x, lkB b l = some x → BoxR (fun _ => undef) w π (β b) ⟨x.cells, []⟩) :
    ∀ {css : List (List AV)} {Bs : List Nat} {k : Nat}, css.length = Bs.length → (∀ j B, Bs[j]? = some B → β (k + j) = B) → holdB l k css → BoxesAt w π css Bs
  | [], [], k, _, _, _ => trivial
  | [], B :: Bs, k, h, _, _ => by simp at h
  | cs :: css, [], k, h, _, _ => by simp at h
  | cs :: css, B :: Bs, k, h, hb, hh => by
    obtain ⟨x, hx, e⟩ := withV_inv hh.1
    refine ⟨?_, holdB_at hl (by simpa using h) (fun j B' hj => by rw [show k + 1 + j = k + (j + 1) by omega]; exact hb (j + 1) B' (by simpa using hj)) hh.2⟩
    have := hl k x hx
    rw [← e, ← hb 0 B rfl]
    exact this
theorem pureB_of (hm : P.follows .mixedOrders = true) {f : FuncId} {cf : CFn} (hcf : cFn P f = some cf) {css css' : List (List AV)} {args : List (Option AV)} {r : AV} {fr : Option Nat} (hn : args.length ≤ cf.nt) (hl : css'.length = css.length) (h4 : css.length ≤ 4)
    (h : aw (Pure P) cf.code (finB cf.res r fr css') (initB css args)) : PureB P f css args r fr css' := by
  obtain ⟨fn, c, cc, hfn, hbody, hrs, hcc, ec, en, hfit, hcall⟩ := cFn_spec hcf
  rw [ec] at h
  rw [en] at hn
  refine ⟨hcall, hl, h4, fun w π Bs vs hprot hnd hbx hd => ?_⟩
  have hlen := argsR_len hd
  obtain ⟨hbl, hbget⟩ := hbx.get
  have hβ : ∀ (j B : Nat), Bs[j]? = some B → (Fen.topB w Bs).β j = B := fun j B hj => by simp [Fen.topB, hj]
  have R : RelN P fn.ntmps (Fen.topB w Bs) w π (initB css args) { tmps := vs.toArray ++ Array.replicate (fn.ntmps - vs.toArray.size) undef, defers := [] } w := by
    refine ⟨Nat.le_refl 4, (Fen.topB w Bs).β, fun _ => undef, π, fun n => n < 4, fun _ h => h, ?_⟩
    have hbox : ∀ b x, lkB b (initB css args).boxes = some x → ∃ B cs, b < 4 ∧ Bs[b]? = some B ∧ (Fen.topB w Bs).β b = B ∧ x = ⟨cs, []⟩ ∧ BoxR (fun _ => undef) w π B ⟨cs, []⟩ := by
      intro b x hb
      obtain ⟨cs, _, h2, h3⟩ := lkB_boxesB hb
      simp only [Nat.sub_zero] at h2
      have hlt : b < css.length := (List.getElem?_eq_some_iff.1 h2).1
      have hB : Bs[b]? = some Bs[b] := List.getElem?_eq_getElem (by omega)
      exact ⟨_, cs, by omega, hB, hβ _ _ hB, h3, hbget b cs _ h2 hB⟩
    refine { size := ?_, slots := ?_, boxes := ?_, inj := ?_, live := fun q e h => (by cases h), liveInj := fun q q' e e' B h => (by cases h), liveBox := fun q e b x h => (by cases h), below := .refl _ _, n0le := Nat.le_refl _, prot := hprot, prot0 := fun _ _ h => h, protOld := fun _ _ h => .inl h, fore := fun _ _ => rfl, foreU := fun _ h => h, kept := fun _ _ _ => rfl }
    · simp; omega
    · intro t v hv
      obtain ⟨x, _, hx, hor⟩ := lk_slotsB hd hv
      simp only [Nat.sub_zero] at hx
      have htl : t < vs.length := (List.getElem?_eq_some_iff.1 hx).1
      have hget : (vs.toArray ++ Array.replicate (fn.ntmps - vs.toArray.size) undef)[t]? = some x := by
        simp [Array.getElem?_append, htl]
        simpa using (List.getElem?_eq_some_iff.1 hx).2
      rcases hor with ⟨a, rfl, hda⟩ | ⟨j, B, rfl, hB, rfl⟩
      · exact ⟨⟨x, hget, (argSV_RV (U := fun n => n < 4) hda).1⟩, (argSV_RV (β := id) (τ := fun _ => undef) hda).2⟩
      · refine ⟨⟨_, hget, ?_⟩, ?_⟩
        · show Value.pointer (some ⟨B, 0, none⟩) = .pointer (some ⟨(Fen.topB w Bs).β (0 + j), 0, none⟩)
          rw [Nat.zero_add, hβ j B hB]
        · have : j < Bs.length := (List.getElem?_eq_some_iff.1 hB).1
          show 0 + j < 4
          omega
    · intro b x hb
      obtain ⟨B, cs, h1, h2, h3, rfl, h5⟩ := hbox b x hb
      exact ⟨h1, .inr ⟨h1, by rw [h3]; exact List.mem_of_getElem? h2⟩, by rw [h3]; exact h5, fun o q hq => by cases hq⟩
    · intro b b' x x' hb hb' e
      obtain ⟨B, _, _, h2, h3, _, _⟩ := hbox b x hb
      obtain ⟨B', _, _, h2', h3', _, _⟩ := hbox b' x' hb'
      rw [h3, h3'] at e
      subst e
      exact nodup_get hnd b b' B h2 h2'
  refine callsIn_wide.1 (callsIn_of_wp_marks (n := 0) (F := Fence.wide) hfn hbody trivial (wpIn_mono (aw_wide (aw_sound hm c cc hcc hfit _ (fun _ => False) #[] (fun _ h => h.elim) none 0 w _ _ _ _ ⟨R, fun l h => by (cases h), ⟨[], rfl, .nil, by simp⟩, fun _ h => h.elim⟩ h)) ?_))
  have main : ∀ (s : S) (a' : Act) (w' : World), (withV (resultA s cf.res) fun p => p.1 = r ∧ frA fr p.2 s.live ∧ holdB s.boxes 0 css') → RelN P fn.ntmps (Fen.topB w Bs) w π s a' w' →
      ∃ v, (results fn a'.tmps).run P w' = .ok v w' ∧ ∃ u π', Ending.returned v = .returned u ∧ Blw (Fen.topB w Bs) w w' ∧ (∀ b o, π b o → π' b o) ∧ (∀ b o, π' b o → π b o ∨ w.heap.size ≤ b) ∧
        (∀ b o, π' b o → b < w'.heap.size) ∧ BoxesAt w' π' css' Bs ∧ DV w' π' r u ∧ ∀ t, fr = some t → Tok P w' π' w.heap.size t u := by
    rintro s a' w' hq ⟨_, β, τ, π', U, hU, R'⟩
    obtain ⟨⟨av, q⟩, hp, hav, hfr, hho⟩ := withV_inv hq
    simp only at hav hfr hho
    subst hav
    obtain ⟨v, hv, hdv, htq⟩ := result_run R' hrs hp
    refine ⟨v, hv, v, π', rfl, R'.below, R'.prot0, R'.protOld, R'.prot, ?_, hdv, fun t ht => ?_⟩
    · refine holdB_at (β := β) (fun b x hb => (R'.boxes b x hb).2.2.1.noTags) (by omega) (fun j B hj => ?_) hho
      have : j < Bs.length := (List.getElem?_eq_some_iff.1 hj).1
      rw [Nat.zero_add, R'.fore j (by omega)]
      exact hβ j B hj
    · subst ht
      simp only [frA] at hfr
      cases q with
      | none => exact hfr.elim
      | some q =>
        rw [htq q rfl]
        exact (R'.live q t hfr).2
  rintro e a' w' ⟨s, hq, R', _, ⟨Ds, hm1, hm2, hm3⟩, _⟩
  cases e with
  | normal => show LeavesInM _ _ _ _ _ _ a'.defers _ _; rw [hm1]; exact leaves_marks (main s a' · hq) Ds w' hm2 hm3 R' (Nat.le_refl _)
  | ret => show LeavesInM _ _ _ _ _ _ a'.defers _ _; rw [hm1]; exact leaves_marks (main s a' · hq) Ds w' hm2 hm3 R' (Nat.le_refl _)
  | _ => exact hq.elim
end
end Go.Eng
namespace Go.Eng
set_option linter.unusedVariables false
set_option linter.unusedSimpArgs false
set_option linter.unnecessarySimpa false
open Go
class Kn (α : Type) where
  run : α → Prop
class Kn2 where
  run : SV → List (Nat × Nat) → Prop
def wv {α : Type} (o : Option α) [k : Kn α] : Prop := withV o k.run
theorem k_wv {α : Type} (o : Option α) (k : α → Prop) : withV o k = @wv α o ⟨k⟩ := rfl
theorem w_some {α : Type} (a : α) (k : α → Prop) : @wv α (some a) ⟨k⟩ = k a := rfl
theorem w_none {α : Type} (k : α → Prop) : @wv α none ⟨k⟩ = False := rfl
theorem wv_of {α : Type} {o : Option α} {k : α → Prop} (a : α) (h : o = some a) (hk : k a) : @wv α o ⟨k⟩ := by subst h; exact hk
def callP (C : Con) (f : Nat) (as : List AV) (id : Nat) (lv : List (Nat × Nat)) (k : SV → List (Nat × Nat) → Prop) : Prop :=
  ∃ r fr, C.c f as r fr ∧ k (.dat r (fr.map fun _ => id)) (match fr with | some e => (id, e) :: lv | none => lv)
def cl (C : Con) (f : Nat) (as : List AV) (id : Nat) (lv : List (Nat × Nat)) [k : Kn2] : Prop := callP C f as id lv k.run
theorem k_cl (C : Con) (f : Nat) (as : List AV) (id : Nat) (lv : List (Nat × Nat)) (k : SV → List (Nat × Nat) → Prop) : callP C f as id lv k = @cl C f as id lv ⟨k⟩ := rfl
@[congr] theorem g_callP {C : Con} (f : Nat) {as as' : List AV} (id : Nat) (lv : List (Nat × Nat)) (k : SV → List (Nat × Nat) → Prop) (h : as = as') : callP C f as id lv k = callP C f as' id lv k := by rw [h]
theorem call_is {C : Con} {f : Nat} {as : List AV} {id : Nat} {lv : List (Nat × Nat)} {k : SV → List (Nat × Nat) → Prop} {r : AV} (h : C.c f as r none) (hk : k (.dat r none) lv) : @cl C f as id lv ⟨k⟩ := ⟨r, none, h, hk⟩
theorem call_own {C : Con} {f : Nat} {as : List AV} {id : Nat} {lv : List (Nat × Nat)} {k : SV → List (Nat × Nat) → Prop} {r : AV} {e : Nat} (h : C.c f as r (some e)) (hk : k (.dat r (some id)) ((id, e) :: lv)) : @cl C f as id lv ⟨k⟩ := ⟨r, some e, h, hk⟩
class Kn3 where
  run : SV → List (Nat × Box) → List (Nat × Nat) → Prop
def callPP (C : Con) (f : Nat) (css : List (List AV)) (as : List (Option AV)) (ids : List Nat) (id : Nat) (bx : List (Nat × Box)) (lv : List (Nat × Nat)) (k : SV → List (Nat × Box) → List (Nat × Nat) → Prop) : Prop :=
  ∃ r fr css', C.p f css as r fr css' ∧ k (.dat r (fr.map fun _ => id)) (setBs ids css' bx) (match fr with | some e => (id, e) :: lv | none => lv)
def clp (C : Con) (f : Nat) (css : List (List AV)) (as : List (Option AV)) (ids : List Nat) (id : Nat) (bx : List (Nat × Box)) (lv : List (Nat × Nat)) [k : Kn3] : Prop := callPP C f css as ids id bx lv k.run
theorem k_clp (C : Con) (f : Nat) (css : List (List AV)) (as : List (Option AV)) (ids : List Nat) (id : Nat) (bx : List (Nat × Box)) (lv : List (Nat × Nat)) (k : SV → List (Nat × Box) → List (Nat × Nat) → Prop) : callPP C f css as ids id bx lv k = @clp C f css as ids id bx lv ⟨k⟩ := rfl
theorem callp_is {C : Con} {f : Nat} {css : List (List AV)} {as : List (Option AV)} {ids : List Nat} {id : Nat} {bx : List (Nat × Box)} {lv : List (Nat × Nat)} {k : SV → List (Nat × Box) → List (Nat × Nat) → Prop} {r : AV} {css' : List (List AV)} (h : C.p f css as r none css') (hk : k (.dat r none) (setBs ids css' bx) lv) : @clp C f css as ids id bx lv ⟨k⟩ := ⟨r, none, css', h, hk⟩
class Kn4 where
  run : SV → Prop
def callRR (C : Con) (f : Nat) (css : List (List AV)) (as : List (Option AV)) (k : SV → Prop) : Prop := ∃ r, C.p f css as r none css ∧ k (.dat r none)
def clr (C : Con) (f : Nat) (css : List (List AV)) (as : List (Option AV)) [k : Kn4] : Prop := callRR C f css as k.run
theorem k_clr (C : Con) (f : Nat) (css : List (List AV)) (as : List (Option AV)) (k : SV → Prop) : callRR C f css as k = @clr C f css as ⟨k⟩ := rfl
theorem callr_is {C : Con} {f : Nat} {css : List (List AV)} {as : List (Option AV)} {k : SV → Prop} {r : AV} (h : C.p f css as r none css) (hk : k (.dat r none)) : @clr C f css as ⟨k⟩ := ⟨r, h, hk⟩
def cellsPc (x : Option Box) (y : Option (List (List AV))) : Option (List (List AV)) :=
  match x, y with
  | some ⟨cs, []⟩, some css => some (cs :: css)
  | _, _ => none
theorem r_roL0 (ro : List Nat) (i : Nat) : roL ro i [] = [] := rfl
theorem r_roL (ro : List Nat) (i : Nat) (o : CO) (r : List CO) : roL ro i (o :: r) = (bif ro.contains i then o.ro else o) :: roL ro (i + 1) r := rfl
theorem r_ro (d : Option Nat) (o : COp) (g : Option (Nat × Bool)) : CO.ro ⟨d, o, g⟩ = ⟨d, o.ro, g⟩ := rfl
theorem r_ro1 (f : Nat) (as : List Opd) : COp.ro (.callp f as) = .callr f as := rfl
theorem r_ro2 (g : Opd) (as : List Opd) : COp.ro (.callvp g as) = .callvr g as := rfl
section
variable {C : Con} {Q : Exit → S → Prop} {K : SV → S → Prop} {J : S → Prop}
variable (sl : List (Nat × SV)) (bx : List (Nat × Box)) (lv : List (Nat × Nat)) (nx : Nat)
theorem r_lk (n m : Nat) (v : SV) (r : List (Nat × SV)) : lk n ((m, v) :: r) = bif n == m then some v else lk n r := rfl
theorem r_lkB (n m : Nat) (v : Box) (r : List (Nat × Box)) : lkB n ((m, v) :: r) = bif n == m then some v else lkB n r := rfl
theorem r_lkN (n m : Nat) (v : Nat) (r : List (Nat × Nat)) : lkN n ((m, v) :: r) = bif n == m then some v else lkN n r := rfl
theorem r_lkN0 (n : Nat) : lkN n [] = none := rfl
theorem r_setB (n m : Nat) (b v : Box) (r : List (Nat × Box)) : setB n b ((m, v) :: r) = bif n == m then (m, b) :: r else (m, v) :: setB n b r := rfl
theorem r_delN (n m : Nat) (v : Nat) (r : List (Nat × Nat)) : delN n ((m, v) :: r) = bif n == m then delN n r else (m, v) :: delN n r := rfl
theorem r_delN0 (n : Nat) : delN n [] = [] := rfl
theorem r_put (d : Nat) (v : SV) : S.put ⟨sl, bx, lv, nx⟩ (some d) v = ⟨(d, v) :: sl, bx, lv, nx⟩ := rfl
theorem r_put0 (v : SV) : S.put ⟨sl, bx, lv, nx⟩ none v = ⟨sl, bx, lv, nx⟩ := rfl
theorem r_opdt (n : Nat) : opd ⟨sl, bx, lv, nx⟩ (.t n) = lk n sl := rfl
theorem r_opdk (v : AV) : opd ⟨sl, bx, lv, nx⟩ (.k v) = some (.dat v none) := rfl
def datA : Option SV → Option AV
  | some (.dat a _) => some a
  | some (.rp cs) => some (.ref cs)
  | _ => none
theorem r_datAr (cs : List AV) : datA (some (.rp cs)) = some (.ref cs) := rfl
theorem r_datA (a : AV) (q : Option Nat) : datA (some (.dat a q)) = some a := rfl
theorem r_opdAt (n : Nat) : opdA ⟨sl, bx, lv, nx⟩ (.t n) = datA (lk n sl) := rfl
theorem r_opdAk (v : AV) : opdA ⟨sl, bx, lv, nx⟩ (.k v) = some v := rfl
def consO : Option AV → Option (List AV) → Option (List AV)
  | some a, some as => some (a :: as)
  | _, _ => none
theorem r_consO (a : AV) (as : List AV) : consO (some a) (some as) = some (a :: as) := rfl
theorem r_opdsA (x : Opd) (r : List Opd) : opdsA ⟨sl, bx, lv, nx⟩ (x :: r) = consO (opdA ⟨sl, bx, lv, nx⟩ x) (opdsA ⟨sl, bx, lv, nx⟩ r) := rfl
theorem r_opdsA0 : opdsA ⟨sl, bx, lv, nx⟩ [] = some [] := rfl
theorem r_aops0 (b i : Nat) : aops C b i [] J ⟨sl, bx, lv, nx⟩ = J ⟨sl, bx, lv, nx⟩ := rfl
theorem r_aops (b i : Nat) (d : Option Nat) (o : COp) (r : List CO) : aops C b i (⟨d, o, none⟩ :: r) J ⟨sl, bx, lv, nx⟩ = aop C (b + i) o (fun v s' => aops C b (i + 1) r J (s'.put d v)) ⟨sl, bx, lv, nx⟩ := rfl
def guardP (want : Bool) (yes no : Prop) : Option SV → Prop
  | some (.dat (.bool b) _) => (b = want → yes) ∧ (b = !want → no)
  | some .undef => no
  | _ => False
theorem r_aopsg (b i t : Nat) (w : Bool) (d : Option Nat) (o : COp) (r : List CO) : aops C b i (⟨d, o, some (t, w)⟩ :: r) J ⟨sl, bx, lv, nx⟩ =
    guardP w (aop C (b + i) o (fun v s' => aops C b (i + 1) r J (s'.put d v)) ⟨sl, bx, lv, nx⟩) (aops C b (i + 1) r J (S.put ⟨sl, bx, lv, nx⟩ d .undef)) (lk t sl) := by
  simp only [aops, aguard, guardP]
  cases lk t sl with
  | none => rfl
  | some v => cases v with
    | dat a q => cases a <;> rfl
    | ptr => rfl
    | rp => rfl
    | undef => rfl
class KP where
  yes : Prop
  no : Prop
def gd (w : Bool) (v : Option SV) [k : KP] : Prop := guardP w k.yes k.no v
theorem k_gd (w : Bool) (yes no : Prop) (v : Option SV) : guardP w yes no v = @gd w v ⟨yes, no⟩ := rfl
theorem r_guardu (w : Bool) (yes no : Prop) : @gd w (some .undef) ⟨yes, no⟩ = no := rfl
theorem r_guardt (yes no : Prop) (q : Option Nat) : @gd true (some (.dat (.bool true) q)) ⟨yes, no⟩ = yes := by simp [gd, guardP]
theorem r_guardt' (yes no : Prop) (q : Option Nat) : @gd true (some (.dat (.bool false) q)) ⟨yes, no⟩ = no := by simp [gd, guardP]
theorem r_guardf (yes no : Prop) (q : Option Nat) : @gd false (some (.dat (.bool false) q)) ⟨yes, no⟩ = yes := by simp [gd, guardP]
theorem r_guardf' (yes no : Prop) (q : Option Nat) : @gd false (some (.dat (.bool true) q)) ⟨yes, no⟩ = no := by simp [gd, guardP]
theorem r_mv (id : Nat) (x : Opd) : aop C id (.mv x) K ⟨sl, bx, lv, nx⟩ = withV (opd ⟨sl, bx, lv, nx⟩ x) fun v => K v ⟨sl, bx, lv, nx⟩ := rfl
def pickP (a b : Option SV) (k : SV → Prop) : AV → Prop
  | .bool t => withV a fun u => withV b fun v => (t = true → k u) ∧ (t = false → k v)
  | _ => False
theorem r_pick (id : Nat) (c a b : Opd) : aop C id (.pick c a b) K ⟨sl, bx, lv, nx⟩ = withV (opdA ⟨sl, bx, lv, nx⟩ c) (pickP (opd ⟨sl, bx, lv, nx⟩ a) (opd ⟨sl, bx, lv, nx⟩ b) fun v => K v ⟨sl, bx, lv, nx⟩) := rfl
def pk (a b : Option SV) (c : AV) [k : Kn SV] : Prop := pickP a b k.run c
theorem k_pk (a b : Option SV) (k : SV → Prop) (c : AV) : pickP a b k c = @pk a b c ⟨k⟩ := rfl
theorem r_pickt (k : SV → Prop) (b : Option SV) (v : SV) : @pk (some v) b (.bool true) ⟨k⟩ = withV b fun _ => k v := by simp [pk, pickP]
theorem r_pickf (k : SV → Prop) (a : Option SV) (v : SV) : @pk a (some v) (.bool false) ⟨k⟩ = withV a fun _ => k v := by
  cases a <;> simp [pk, pickP]
theorem r_alloc (id : Nat) (cs : List AV) : aop C id (.alloc cs) K ⟨sl, bx, lv, nx⟩ = K (.ptr id 0) ⟨sl, (id, ⟨cs, []⟩) :: bx, lv, nx⟩ := rfl
theorem r_box (id : Nat) (x : Opd) : aop C id (.box x) K ⟨sl, bx, lv, nx⟩ = withV (opdA ⟨sl, bx, lv, nx⟩ x) fun a => stOk a none = true ∧ K (.ptr id 0) ⟨sl, (id, ⟨a.cells, []⟩) :: bx, lv, nx⟩ := rfl
def ldP (sz : Option Nat) (bx : List (Nat × Box)) (k : SV → Prop) : SV → Prop
  | .ptr b off => withV (lkB b bx) fun x => withV (partA x.cells off sz) fun a => k (.dat a (match sz with | none => lkN off x.tags | some _ => none))
  | .rp cs => withV (partA cs 0 sz) fun a => k (.dat a none)
  | _ => False
theorem r_ld (id : Nat) (x : Opd) (sz : Option Nat) : aop C id (.ld x sz) K ⟨sl, bx, lv, nx⟩ = withV (opd ⟨sl, bx, lv, nx⟩ x) (ldP sz bx fun v => K v ⟨sl, bx, lv, nx⟩) := rfl
theorem r_ldp1 (k : SV → Prop) (b off : Nat) : ldP none bx k (.ptr b off) = withV (lkB b bx) fun x => withV (partA x.cells off none) fun a => k (.dat a (lkN off x.tags)) := rfl
theorem r_ldp2 (k : SV → Prop) (b off n : Nat) : ldP (some n) bx k (.ptr b off) = withV (lkB b bx) fun x => withV (partA x.cells off (some n)) fun a => k (.dat a none) := rfl
theorem r_ldr (k : SV → Prop) (sz : Option Nat) (cs : List AV) : ldP sz bx k (.rp cs) = withV (partA cs 0 sz) fun a => k (.dat a none) := rfl
def stTags (off sz : Nat) (q : Option Nat) (tags : List (Nat × Nat)) : List (Nat × Nat) :=
  match q with
  | some q => (off, q) :: tags.filter (fun p => p.1 < off || off + sz ≤ p.1)
  | none => tags.filter (fun p => p.1 < off || off + sz ≤ p.1)
def stV (sz off : Nat) (x : Box) (k : Box → Prop) : SV → Prop
  | .dat a q => stOk a q = true ∧ a.cells.length = sz ∧ off + sz ≤ x.cells.length ∧ k ⟨setCells x.cells off a.cells, stTags off sz q x.tags⟩
  | _ => False
def stP (sz : Nat) (bx : List (Nat × Box)) (v : Option SV) (k : List (Nat × Box) → Prop) : SV → Prop
  | .ptr b off => withV (lkB b bx) fun x => withV v (stV sz off x fun y => k (setB b y bx))
  | _ => False
theorem r_st (id : Nat) (x v : Opd) (sz : Nat) : aop C id (.st x v sz) K ⟨sl, bx, lv, nx⟩ = withV (opd ⟨sl, bx, lv, nx⟩ x) (stP sz bx (opd ⟨sl, bx, lv, nx⟩ v) fun b => K .undef ⟨sl, b, lv, nx⟩) := by
  show withV _ _ = withV _ _
  cases hx : opd ⟨sl, bx, lv, nx⟩ x with
  | none => rfl
  | some p => cases p with
    | ptr b off =>
      show withV _ _ = withV _ _
      cases hb : lkB b bx with
      | none => rfl
      | some y =>
        show withV _ _ = withV _ _
        cases hv : opd ⟨sl, bx, lv, nx⟩ v with
        | none => rfl
        | some u => cases u with
          | dat a q => cases q <;> rfl
          | _ => rfl
    | _ => rfl
theorem r_stp (sz b off : Nat) (v : Option SV) (k : List (Nat × Box) → Prop) : stP sz bx v k (.ptr b off) = withV (lkB b bx) fun x => withV v (stV sz off x fun y => k (setB b y bx)) := rfl
theorem r_stv (sz off : Nat) (cs : List AV) (tg : List (Nat × Nat)) (k : Box → Prop) (a : AV) (q : Option Nat) : stV sz off ⟨cs, tg⟩ k (.dat a q) = (stOk a q = true ∧ a.cells.length = sz ∧ off + sz ≤ cs.length ∧ k ⟨setCells cs off a.cells, stTags off sz q tg⟩) := rfl
theorem r_tags0 (off sz : Nat) : stTags off sz none [] = [] := rfl
theorem r_tags1 (off sz q : Nat) : stTags off sz (some q) [] = [(off, q)] := rfl
def faP (off : Nat) (k : SV → Prop) : SV → Prop
  | .ptr b o => k (.ptr b (o + off))
  | .rp cs => k (.rp (cs.drop off))
  | _ => False
theorem r_fa (id : Nat) (x : Opd) (off : Nat) : aop C id (.fa x off) K ⟨sl, bx, lv, nx⟩ = withV (opd ⟨sl, bx, lv, nx⟩ x) (faP off fun v => K v ⟨sl, bx, lv, nx⟩) := rfl
theorem r_fap (k : SV → Prop) (b o off : Nat) : faP off k (.ptr b o) = k (.ptr b (o + off)) := rfl
theorem r_far (k : SV → Prop) (cs : List AV) (off : Nat) : faP off k (.rp cs) = k (.rp (cs.drop off)) := rfl
def iaP (d : Nat) (k : SV → Prop) : SV → Prop
  | .ptr b o => k (.ptr b (o + d))
  | .rp cs => k (.rp (cs.drop d))
  | _ => False
theorem r_iaA (id : Nat) (x i : Opd) (n z : Nat) : aop C id (.iaA x i n z) K ⟨sl, bx, lv, nx⟩ = withV (opd ⟨sl, bx, lv, nx⟩ x) fun p => withV (opdA ⟨sl, bx, lv, nx⟩ i) fun a => withV (idxOf a) fun i => (0 ≤ i ∧ i < n) ∧ iaP (i.toNat * z) (fun v => K v ⟨sl, bx, lv, nx⟩) p := rfl
theorem r_iap (k : SV → Prop) (b o d : Nat) : iaP d k (.ptr b o) = k (.ptr b (o + d)) := rfl
theorem r_iar (k : SV → Prop) (cs : List AV) (d : Nat) : iaP d k (.rp cs) = k (.rp (cs.drop d)) := rfl
theorem r_idx (k : IntKind) (i : Int) : idxOf (.int k i) = some i := rfl
theorem r_iaS (id : Nat) (x i : Opd) (z : Nat) : aop C id (.iaS x i z) K ⟨sl, bx, lv, nx⟩ = withV (opdA ⟨sl, bx, lv, nx⟩ x) fun l => withV (opdA ⟨sl, bx, lv, nx⟩ i) fun a => withV (idxOf a) fun i => withV (rowsOf l) fun xs => (0 ≤ i ∧ i < xs.length) ∧ withV (xs[i.toNat]?) fun row => row.length = z ∧ K (.rp row) ⟨sl, bx, lv, nx⟩ := rfl
theorem r_rows (xs : List (List AV)) : rowsOf (.sl xs) = some xs := rfl
theorem r_rows0 : rowsOf .nils = some [] := rfl
def aggP (k : List AV → Prop) : AV → Prop
  | .agg cs => k cs
  | _ => False
theorem r_agg (k : List AV → Prop) (cs : List AV) : aggP k (.agg cs) = k cs := rfl
theorem r_fld (id : Nat) (x : Opd) (off : Nat) (sz : Option Nat) : aop C id (.fld x off sz) K ⟨sl, bx, lv, nx⟩ = withV (opdA ⟨sl, bx, lv, nx⟩ x) (aggP fun cs => withV (partA cs off sz) fun a => K (.dat a none) ⟨sl, bx, lv, nx⟩) := rfl
theorem r_ixA (id : Nat) (x i : Opd) (n z : Nat) (sz : Option Nat) : aop C id (.ixA x i n z sz) K ⟨sl, bx, lv, nx⟩ = withV (opdA ⟨sl, bx, lv, nx⟩ x) (aggP fun cs => withV (opdA ⟨sl, bx, lv, nx⟩ i) fun a => withV (idxOf a) fun i => (0 ≤ i ∧ i < n) ∧ withV (partA cs (i.toNat * z) sz) fun a => K (.dat a none) ⟨sl, bx, lv, nx⟩) := rfl
theorem r_bin (id : Nat) (op : BinOp) (x y : Opd) : aop C id (.bin op x y) K ⟨sl, bx, lv, nx⟩ = withV (opdA ⟨sl, bx, lv, nx⟩ x) fun a => withV (opdA ⟨sl, bx, lv, nx⟩ y) fun b => withV (binA op a b) fun v => K (.dat v none) ⟨sl, bx, lv, nx⟩ := rfl
theorem r_eqc (id : Nat) (ks : List CK) (neg : Bool) (x y : Opd) : aop C id (.eqc ks neg x y) K ⟨sl, bx, lv, nx⟩ = withV (opdA ⟨sl, bx, lv, nx⟩ x) (aggP fun as => withV (opdA ⟨sl, bx, lv, nx⟩ y) (aggP fun bs => withV (cellsEq ks as bs) fun e => K (.dat (.bool (e != neg)) none) ⟨sl, bx, lv, nx⟩)) := rfl
theorem r_bb (id : Nat) (neg : Bool) (x y : Opd) : aop C id (.bb neg x y) K ⟨sl, bx, lv, nx⟩ = withV (opdA ⟨sl, bx, lv, nx⟩ x) fun a => withV (opdA ⟨sl, bx, lv, nx⟩ y) fun b => withV (bbA neg a b) fun v => K (.dat v none) ⟨sl, bx, lv, nx⟩ := rfl
theorem r_un (id : Nat) (op : UnOp) (x : Opd) : aop C id (.un op x) K ⟨sl, bx, lv, nx⟩ = withV (opdA ⟨sl, bx, lv, nx⟩ x) fun a => withV (unA op a) fun v => K (.dat v none) ⟨sl, bx, lv, nx⟩ := rfl
theorem r_cvII (id : Nat) (k : IntKind) (x : Opd) : aop C id (.cvII k x) K ⟨sl, bx, lv, nx⟩ = withV (opdA ⟨sl, bx, lv, nx⟩ x) fun a => withV (cvIIA k a) fun v => K (.dat v none) ⟨sl, bx, lv, nx⟩ := rfl
theorem r_cvIF (id : Nat) (k : FloatKind) (x : Opd) : aop C id (.cvIF k x) K ⟨sl, bx, lv, nx⟩ = withV (opdA ⟨sl, bx, lv, nx⟩ x) fun a => withV (cvIFA k a) fun v => K (.dat v none) ⟨sl, bx, lv, nx⟩ := rfl
theorem r_cvFI (id : Nat) (k : IntKind) (x : Opd) : aop C id (.cvFI k x) K ⟨sl, bx, lv, nx⟩ = withV (opdA ⟨sl, bx, lv, nx⟩ x) fun a => withV (cvFIA k a) fun v => K (.dat v none) ⟨sl, bx, lv, nx⟩ := rfl
theorem r_lenS (id : Nat) (x : Opd) : aop C id (.lenS x) K ⟨sl, bx, lv, nx⟩ = withV (opdA ⟨sl, bx, lv, nx⟩ x) fun a => withV (lenA a) fun v => K (.dat v none) ⟨sl, bx, lv, nx⟩ := rfl
theorem r_xt (id : Nat) (e : Xt) (x : Opd) : aop C id (.xt e x) K ⟨sl, bx, lv, nx⟩ = withV (opdA ⟨sl, bx, lv, nx⟩ x) fun a => withV (xtA e a) fun v => K (.dat v none) ⟨sl, bx, lv, nx⟩ := rfl
theorem r_xb (b : Nat) : xtA .fbits (.float .f64 b) = some (.int .u64 b) := rfl
theorem r_xf (n : Int) : xtA .ffrom (.int .u64 n) = some (.float .f64 n.toNat) := rfl
theorem r_xr (b : Nat) : xtA .rte (.float .f64 b) = rteA b := rfl
def slAP (n z : Nat) (s : S) (k : SV → S → Prop) : SV → Prop
  | .rp cs => n * z ≤ cs.length ∧ k (.dat (.sl (chunkA z n cs)) none) s
  | .ptr b off => 4 ≤ b ∧ withV (lkB b s.boxes) fun bx => n * z ≤ (bx.cells.drop off).length ∧ k (.dat (.sl (chunkA z n (bx.cells.drop off))) none) (frzs [b] [bx.cells] s)
  | _ => False
theorem r_slA (id : Nat) (x : Opd) (n z : Nat) : aop C id (.slA x n z) K ⟨sl, bx, lv, nx⟩ = withV (opd ⟨sl, bx, lv, nx⟩ x) (slAP n z ⟨sl, bx, lv, nx⟩ K) := by
  show withV _ _ = withV _ _
  cases opd ⟨sl, bx, lv, nx⟩ x with
  | none => rfl
  | some v => cases v <;> rfl
theorem r_slA1 (n z : Nat) (s : S) (k : SV → S → Prop) (cs : List AV) : slAP n z s k (.rp cs) = (n * z ≤ cs.length ∧ k (.dat (.sl (chunkA z n cs)) none) s) := rfl
theorem r_slA2 (n z : Nat) (k : SV → S → Prop) (b off : Nat) : slAP n z ⟨sl, bx, lv, nx⟩ k (.ptr b off) = (4 ≤ b ∧ withV (lkB b bx) fun y => n * z ≤ (y.cells.drop off).length ∧ k (.dat (.sl (chunkA z n (y.cells.drop off))) none) (frzs [b] [y.cells] ⟨sl, bx, lv, nx⟩)) := rfl
def ixBP (s : S) (i : Opd) (k : AV → Prop) : AV → Prop
  | .str b => withV (opdA s i) fun a => withV (idxOf a) fun j => withV (byteA b j) k
  | _ => False
theorem r_ixB (id : Nat) (x i : Opd) : aop C id (.ixB x i) K ⟨sl, bx, lv, nx⟩ = withV (opdA ⟨sl, bx, lv, nx⟩ x) (ixBP ⟨sl, bx, lv, nx⟩ i fun v => K (.dat v none) ⟨sl, bx, lv, nx⟩) := by
  show withV _ _ = withV _ _
  cases opdA ⟨sl, bx, lv, nx⟩ x with
  | none => rfl
  | some v => cases v <;> rfl
theorem r_ixBs (s : S) (i : Opd) (k : AV → Prop) (b : ByteArray) : ixBP s i k (.str b) = withV (opdA s i) fun a => withV (idxOf a) fun j => withV (byteA b j) k := rfl
theorem r_lenK (id n : Nat) : aop C id (.lenK n) K ⟨sl, bx, lv, nx⟩ = K (.dat (.int .i64 n) none) ⟨sl, bx, lv, nx⟩ := rfl
theorem r_call (id f : Nat) (args : List Opd) : aop C id (.call f args) K ⟨sl, bx, lv, nx⟩ = withV (opdsA ⟨sl, bx, lv, nx⟩ args) fun as => callP C f as id lv fun v l => K v ⟨sl, bx, l, nx⟩ := rfl
def callvP (C : Con) (id : Nat) (lv : List (Nat × Nat)) (as : List AV) (k : SV → List (Nat × Nat) → Prop) : AV → Prop
  | .fn (.func f) first caps => callP C f (first ++ as ++ caps) id lv k
  | _ => False
@[congr] theorem g_callvP (id : Nat) (lv : List (Nat × Nat)) (as : List AV) (k : SV → List (Nat × Nat) → Prop) {v v' : AV} (h : v = v') : callvP C id lv as k v = callvP C id lv as k v' := by rw [h]
def consP : Option SV → Option (List (Option AV) × List Nat) → Option (List (Option AV) × List Nat)
  | some (.dat a _), some p => some (some a :: p.1, p.2)
  | some (.rp cs), some p => some (some (.ref cs) :: p.1, p.2)
  | some (.ptr b 0), some p => some (none :: p.1, b :: p.2)
  | _, _ => none
theorem r_consPd (a : AV) (q : Option Nat) (p : List (Option AV) × List Nat) : consP (some (.dat a q)) (some p) = some (some a :: p.1, p.2) := rfl
theorem r_consPr (cs : List AV) (p : List (Option AV) × List Nat) : consP (some (.rp cs)) (some p) = some (some (.ref cs) :: p.1, p.2) := rfl
theorem r_consPp (b : Nat) (p : List (Option AV) × List Nat) : consP (some (.ptr b 0)) (some p) = some (none :: p.1, b :: p.2) := rfl
theorem r_svs0 : svsA ⟨sl, bx, lv, nx⟩ [] = some ([], []) := rfl
theorem r_svs (x : Opd) (r : List Opd) : svsA ⟨sl, bx, lv, nx⟩ (x :: r) = consP (opd ⟨sl, bx, lv, nx⟩ x) (svsA ⟨sl, bx, lv, nx⟩ r) := by
  show (match opd ⟨sl, bx, lv, nx⟩ x, svsA ⟨sl, bx, lv, nx⟩ r with
    | some (.dat a _), some (as, bs) => some (some a :: as, bs)
    | some (.rp cs), some (as, bs) => some (some (.ref cs) :: as, bs)
    | some (.ptr b 0), some (as, bs) => some (none :: as, b :: bs)
    | _, _ => none) = _
  unfold consP
  cases opd ⟨sl, bx, lv, nx⟩ x with
  | none => rfl
  | some v =>
    cases svsA ⟨sl, bx, lv, nx⟩ r with
    | none => cases v with
      | ptr b o => cases o <;> rfl
      | _ => rfl
    | some p => cases v with
      | ptr b o => cases o <;> rfl
      | _ => rfl
theorem r_cells0 : cellsA bx [] = some [] := rfl
def consC : Option Box → Option (List (List AV)) → Option (List (List AV))
  | some x, some css => some (x.cells :: css)
  | _, _ => none
theorem r_consC (x : Box) (css : List (List AV)) : consC (some x) (some css) = some (x.cells :: css) := rfl
theorem r_cells (b : Nat) (bs : List Nat) : cellsA bx (b :: bs) = consC (lkB b bx) (cellsA bx bs) := rfl
theorem r_nodup0 : nodupB [] = true := rfl
theorem r_nodup (b : Nat) (bs : List Nat) : nodupB (b :: bs) = (!bs.contains b && nodupB bs) := rfl
theorem r_setBs (b : Nat) (bs : List Nat) (cs : List AV) (css : List (List AV)) : setBs (b :: bs) (cs :: css) bx = setBs bs css (setB b ⟨cs, []⟩ bx) := rfl
theorem r_cellsP0 : cellsP bx [] = some [] := rfl
theorem r_cellsP (b : Nat) (bs : List Nat) : cellsP bx (b :: bs) = cellsPc (lkB b bx) (cellsP bx bs) := rfl
theorem r_cellsPc (cs : List AV) (css : List (List AV)) : cellsPc (some ⟨cs, []⟩) (some css) = some (cs :: css) := rfl
theorem r_setBs0 (css : List (List AV)) : setBs [] css bx = bx := rfl
def callpK (C : Con) (f id : Nat) (bx : List (Nat × Box)) (lv : List (Nat × Nat)) (k : SV → List (Nat × Box) → List (Nat × Nat) → Prop) (p : List (Option AV) × List Nat) : Prop :=
  nodupB p.2 = true ∧ withV (cellsA bx p.2) fun css => callPP C f css p.1 p.2 id bx lv k
theorem r_callpK (f id : Nat) (as : List (Option AV)) (ids : List Nat) (k : SV → List (Nat × Box) → List (Nat × Nat) → Prop) : callpK C f id bx lv k (as, ids) = (nodupB ids = true ∧ withV (cellsA bx ids) fun css => callPP C f css as ids id bx lv k) := rfl
theorem r_callp (id f : Nat) (args : List Opd) : aop C id (.callp f args) K ⟨sl, bx, lv, nx⟩ = withV (svsA ⟨sl, bx, lv, nx⟩ args) (callpK C f id bx lv fun v b l => K v ⟨sl, b, l, nx⟩) := rfl
theorem r_callv (id : Nat) (g : Opd) (args : List Opd) : aop C id (.callv g args) K ⟨sl, bx, lv, nx⟩ = withV (opdA ⟨sl, bx, lv, nx⟩ g) fun a => withV (opdsA ⟨sl, bx, lv, nx⟩ args) fun as => callvP C id lv as (fun v l => K v ⟨sl, bx, l, nx⟩) a := by
  show withV _ _ = withV _ _
  cases hx : opdA ⟨sl, bx, lv, nx⟩ g with
  | none => rfl
  | some a =>
    show (match a with | .fn (.func f) first caps => _ | _ => False) = _
    cases hy : opdsA ⟨sl, bx, lv, nx⟩ args with
    | none => cases a <;> first | rfl | (rename_i f _ _; cases f <;> rfl)
    | some as => cases a <;> first | rfl | (rename_i f _ _; cases f <;> rfl)
theorem r_callvf (id f : Nat) (as first caps : List AV) (k : SV → List (Nat × Nat) → Prop) : callvP C id lv as k (.fn (.func f) first caps) = callP C f (first ++ as ++ caps) id lv k := rfl
def callvpP (C : Con) (id : Nat) (bx : List (Nat × Box)) (lv : List (Nat × Nat)) (p : List (Option AV) × List Nat) (k : SV → List (Nat × Box) → List (Nat × Nat) → Prop) : AV → Prop
  | .fn (.func f) [] [] => callpK C f id bx lv k p
  | _ => False
@[congr] theorem g_callvpP (id : Nat) (bx : List (Nat × Box)) (lv : List (Nat × Nat)) {p p' : List (Option AV) × List Nat} (k : SV → List (Nat × Box) → List (Nat × Nat) → Prop) {v v' : AV} (h1 : p = p') (h : v = v') : callvpP C id bx lv p k v = callvpP C id bx lv p' k v' := by rw [h, h1]
theorem r_callvp (id : Nat) (g : Opd) (args : List Opd) : aop C id (.callvp g args) K ⟨sl, bx, lv, nx⟩ = withV (opdA ⟨sl, bx, lv, nx⟩ g) fun a => withV (svsA ⟨sl, bx, lv, nx⟩ args) fun p => callvpP C id bx lv p (fun v b l => K v ⟨sl, b, l, nx⟩) a := by
  show withV _ _ = withV _ _
  cases hx : opdA ⟨sl, bx, lv, nx⟩ g with
  | none => rfl
  | some a =>
    show (match a with | .fn (.func f) [] [] => _ | _ => False) = _
    cases hy : svsA ⟨sl, bx, lv, nx⟩ args with
    | none => cases a <;> first | rfl | (rename_i f x y; cases f <;> first | rfl | (cases x <;> first | rfl | (cases y <;> rfl)))
    | some as => cases a <;> first | rfl | (rename_i f x y; cases f <;> first | rfl | (cases x <;> first | rfl | (cases y <;> rfl)))
def callrK (C : Con) (f : Nat) (bx : List (Nat × Box)) (k : SV → Prop) (p : List (Option AV) × List Nat) : Prop :=
  nodupB p.2 = true ∧ withV (cellsP bx p.2) fun css => callRR C f css p.1 k
theorem r_callr (id f : Nat) (args : List Opd) : aop C id (.callr f args) K ⟨sl, bx, lv, nx⟩ = withV (svsA ⟨sl, bx, lv, nx⟩ args) (callrK C f bx fun v => K v ⟨sl, bx, lv, nx⟩) := rfl
theorem r_callrK (f : Nat) (as : List (Option AV)) (ids : List Nat) (k : SV → Prop) : callrK C f bx k (as, ids) = (nodupB ids = true ∧ withV (cellsP bx ids) fun css => callRR C f css as k) := rfl
def callvrP (C : Con) (bx : List (Nat × Box)) (p : List (Option AV) × List Nat) (k : SV → Prop) : AV → Prop
  | .fn (.func f) [] [] => callrK C f bx k p
  | _ => False
@[congr] theorem g_callvrP (bx : List (Nat × Box)) {p p' : List (Option AV) × List Nat} (k : SV → Prop) {v v' : AV} (h1 : p = p') (h : v = v') : callvrP C bx p k v = callvrP C bx p' k v' := by rw [h, h1]
theorem r_callvr (id : Nat) (g : Opd) (args : List Opd) : aop C id (.callvr g args) K ⟨sl, bx, lv, nx⟩ = withV (opdA ⟨sl, bx, lv, nx⟩ g) fun a => withV (svsA ⟨sl, bx, lv, nx⟩ args) fun p => callvrP C bx p (fun v => K v ⟨sl, bx, lv, nx⟩) a := by
  show withV _ _ = withV _ _
  cases hx : opdA ⟨sl, bx, lv, nx⟩ g with
  | none => rfl
  | some a =>
    show (match a with | .fn (.func f) [] [] => _ | _ => False) = _
    cases hy : svsA ⟨sl, bx, lv, nx⟩ args with
    | none => cases a <;> first | rfl | (rename_i f x y; cases f <;> first | rfl | (cases x <;> first | rfl | (cases y <;> rfl)))
    | some as => cases a <;> first | rfl | (rename_i f x y; cases f <;> first | rfl | (cases x <;> first | rfl | (cases y <;> rfl)))
theorem r_callvrf (f : Nat) (p : List (Option AV) × List Nat) (k : SV → Prop) : callvrP C bx p k (.fn (.func f) [] []) = callrK C f bx k p := rfl
theorem r_callvpf (id f : Nat) (p : List (Option AV) × List Nat) (k : SV → List (Nat × Box) → List (Nat × Nat) → Prop) : callvpP C id bx lv p k (.fn (.func f) [] []) = callpK C f id bx lv k p := rfl
theorem r_isn (id : Nat) (neg : Bool) (x : Opd) : aop C id (.isn neg x) K ⟨sl, bx, lv, nx⟩ = withV (opdA ⟨sl, bx, lv, nx⟩ x) fun a => withV (nilA neg a) fun v => K (.dat (.bool v) none) ⟨sl, bx, lv, nx⟩ := rfl
theorem r_ext (id : Nat) (x : Opd) (i : Nat) : aop C id (.ext x i) K ⟨sl, bx, lv, nx⟩ = withV (opdA ⟨sl, bx, lv, nx⟩ x) fun a => withV (extA a i) fun v => K (.dat v none) ⟨sl, bx, lv, nx⟩ := rfl
theorem r_frz1 (b : Nat) (cs : List AV) (b' o : Nat) : frzV b cs (.ptr b' o) = bif b' == b then .rp (cs.drop o) else .ptr b' o := rfl
theorem r_frz2 (b : Nat) (cs : List AV) (a : AV) (q : Option Nat) : frzV b cs (.dat a q) = .dat a q := rfl
theorem r_frz3 (b : Nat) (cs cs' : List AV) : frzV b cs (.rp cs') = .rp cs' := rfl
theorem r_frz4 (b : Nat) (cs : List AV) : frzV b cs .undef = .undef := rfl
theorem r_frzL0 (b : Nat) (cs : List AV) : frzL b cs [] = [] := rfl
theorem r_frzL (b : Nat) (cs : List AV) (t : Nat) (v : SV) (r : List (Nat × SV)) : frzL b cs ((t, v) :: r) = (t, frzV b cs v) :: frzL b cs r := rfl
theorem r_delB0 (n : Nat) : delB n [] = [] := rfl
theorem r_delB (n m : Nat) (v : Box) (r : List (Nat × Box)) : delB n ((m, v) :: r) = bif n == m then delB n r else (m, v) :: delB n r := rfl
theorem r_frzs0 (css : List (List AV)) (s : S) : frzs [] css s = s := rfl
theorem r_frzs (b : Nat) (bs : List Nat) (cs : List AV) (css : List (List AV)) : frzs (b :: bs) (cs :: css) ⟨sl, bx, lv, nx⟩ = frzs bs css ⟨frzL b cs sl, delB b bx, lv, nx⟩ := rfl
theorem r_fillP0 (css : List (List AV)) : fillP [] css = [] := by cases css <;> rfl
theorem r_fillPs (a : AV) (as : List (Option AV)) (css : List (List AV)) : fillP (some a :: as) css = a :: fillP as css := by cases css <;> rfl
theorem r_fillPn (as : List (Option AV)) (cs : List AV) (css : List (List AV)) : fillP (none :: as) (cs :: css) = .ref cs :: fillP as css := rfl
theorem r_own0 : ownIds [] = true := rfl
theorem r_own (b : Nat) (bs : List Nat) : ownIds (b :: bs) = (decide (4 ≤ b) && ownIds bs) := rfl
def mkfK (fn : Fn) (as : List AV) (s : S) (k : SV → S → Prop) (p : List (Option AV) × List Nat) : Prop :=
  (nodupB p.2 && ownIds p.2) = true ∧ withV (cellsA s.boxes p.2) fun css => k (.dat (.fn fn as (fillP p.1 css)) none) (frzs p.2 css s)
theorem r_mkfK (fn : Fn) (as : List AV) (k : SV → S → Prop) (ps : List (Option AV)) (ids : List Nat) : mkfK fn as ⟨sl, bx, lv, nx⟩ k (ps, ids) = ((nodupB ids && ownIds ids) = true ∧ withV (cellsA bx ids) fun css => k (.dat (.fn fn as (fillP ps css)) none) (frzs ids css ⟨sl, bx, lv, nx⟩)) := rfl
theorem r_mkf (id : Nat) (fn : Fn) (a b : List Opd) : aop C id (.mkf fn a b) K ⟨sl, bx, lv, nx⟩ = withV (opdsA ⟨sl, bx, lv, nx⟩ a) fun as => withV (svsA ⟨sl, bx, lv, nx⟩ b) (mkfK fn as ⟨sl, bx, lv, nx⟩ K) := rfl
def mmP (mx : Bool) (k : AV → Prop) : List AV → Prop
  | [] => False
  | a :: r => withV (r.foldlM (mmA mx) a) k
theorem r_mm (id : Nat) (mx : Bool) (args : List Opd) : aop C id (.mm mx args) K ⟨sl, bx, lv, nx⟩ = withV (opdsA ⟨sl, bx, lv, nx⟩ args) (mmP mx fun v => K (.dat v none) ⟨sl, bx, lv, nx⟩) := by
  show withV _ _ = withV _ _
  cases opdsA ⟨sl, bx, lv, nx⟩ args with
  | none => rfl
  | some l => cases l <;> rfl
theorem r_mm2 (mx : Bool) (k : AV → Prop) (a b : AV) : mmP mx k [a, b] = withV (mmA mx a b) k := by simp [mmP]
theorem r_mmI (kd : IntKind) (x y : Int) : mmA true (.int kd x) (.int kd y) = some (.int kd (if y > x then y else x)) := rfl
theorem r_mmI' (kd : IntKind) (x y : Int) : mmA false (.int kd x) (.int kd y) = some (.int kd (if y < x then y else x)) := rfl
theorem r_build (id : Nat) (zs : List AV) (parts : List (Nat × Nat × Opd)) : aop C id (.build zs parts) K ⟨sl, bx, lv, nx⟩ = withV (partsA ⟨sl, bx, lv, nx⟩ parts) fun ps => K (.dat (.agg (fillA zs ps)) none) ⟨sl, bx, lv, nx⟩ := rfl
def partO (off sz : Nat) : Option AV → Option (List (Nat × List AV)) → Option (List (Nat × List AV))
  | some a, some ps => if a.cells.length = sz ∧ stOk a none = true then some ((off, a.cells) :: ps) else none
  | _, _ => none
theorem r_partsA (off sz : Nat) (x : Opd) (r : List (Nat × Nat × Opd)) : partsA ⟨sl, bx, lv, nx⟩ ((off, sz, x) :: r) = partO off sz (opdA ⟨sl, bx, lv, nx⟩ x) (partsA ⟨sl, bx, lv, nx⟩ r) := rfl
theorem r_partsA0 : partsA ⟨sl, bx, lv, nx⟩ [] = some [] := rfl
theorem r_partO (off sz : Nat) (a : AV) (ps : List (Nat × List AV)) (h : a.cells.length = sz) (h' : stOk a none = true) : partO off sz (some a) (some ps) = some ((off, a.cells) :: ps) := by simp [partO, h, h']
theorem r_bsl (id e z : Nat) (xs : List Opd) : aop C id (.bsl e z xs) K ⟨sl, bx, lv, nx⟩ = withV (rowsA ⟨sl, bx, lv, nx⟩ z xs) fun rows => K (.dat (.sl rows) (some id)) ⟨sl, bx, (id, e) :: lv, nx⟩ := rfl
def rowO (z : Nat) : Option AV → Option (List (List AV)) → Option (List (List AV))
  | some a, some rows => if a.cells.length = z ∧ stOk a none = true then some (a.cells :: rows) else none
  | _, _ => none
theorem r_rowsA (z : Nat) (x : Opd) (r : List Opd) : rowsA ⟨sl, bx, lv, nx⟩ z (x :: r) = rowO z (opdA ⟨sl, bx, lv, nx⟩ x) (rowsA ⟨sl, bx, lv, nx⟩ z r) := rfl
theorem r_rowsA0 (z : Nat) : rowsA ⟨sl, bx, lv, nx⟩ z [] = some [] := rfl
theorem r_rowO (z : Nat) (a : AV) (rows : List (List AV)) (h : a.cells.length = z) (h' : stOk a none = true) : rowO z (some a) (some rows) = some (a.cells :: rows) := by simp [rowO, h, h']
theorem r_app (id e z bytes : Nat) (x y : Opd) : aop C id (.app e z bytes x y) K ⟨sl, bx, lv, nx⟩ = withV (opd ⟨sl, bx, lv, nx⟩ x) fun
      | .dat a q => withV (rowsOf a) fun xs => withV (opdA ⟨sl, bx, lv, nx⟩ y) fun b => withV (rowsOf b) fun ys =>
          (xs.length + ys.length) * bytes ≤ 140737488355328 ∧ (∀ r ∈ xs, r.length = z) ∧ (∀ r ∈ ys, r.length = z) ∧
          (match a, q with
           | .nils, _ => if ys = [] then K (.dat .nils none) ⟨sl, bx, lv, nx⟩ else K (.dat (.sl (xs ++ ys)) (some id)) ⟨sl, bx, (id, e) :: lv, nx⟩
           | .sl _, some q => lkN q lv = some e ∧ K (.dat (.sl (xs ++ ys)) (some id)) ⟨sl, bx, (id, e) :: delN q lv, nx⟩
           | _, _ => False)
      | _ => False := rfl
theorem r_slS (id z : Nat) (x : Opd) (lo hi : Option Opd) : aop C id (.slS z x lo hi) K ⟨sl, bx, lv, nx⟩ = withV (opdA ⟨sl, bx, lv, nx⟩ x) fun a => withV (rowsOf a) fun xs => withV (bndL ⟨sl, bx, lv, nx⟩ lo) fun l => withV (bndH ⟨sl, bx, lv, nx⟩ xs hi) fun h => (0 ≤ l ∧ l ≤ h ∧ h ≤ xs.length) ∧ (∀ r ∈ xs, r.length = z) ∧ K (.dat (cutA a xs l h) none) ⟨sl, bx, lv, nx⟩ := rfl
theorem r_bndL0 : bndL ⟨sl, bx, lv, nx⟩ none = some 0 := rfl
theorem r_bndL (x : Opd) : bndL ⟨sl, bx, lv, nx⟩ (some x) = idxO (opdA ⟨sl, bx, lv, nx⟩ x) := by cases h : opdA ⟨sl, bx, lv, nx⟩ x <;> simp [bndL, idxO, h]
theorem r_bndH0 (xs : List (List AV)) : bndH ⟨sl, bx, lv, nx⟩ xs none = some (xs.length : Int) := rfl
theorem r_bndH (xs : List (List AV)) (x : Opd) : bndH ⟨sl, bx, lv, nx⟩ xs (some x) = idxO (opdA ⟨sl, bx, lv, nx⟩ x) := by cases h : opdA ⟨sl, bx, lv, nx⟩ x <;> simp [bndH, idxO, h]
theorem r_idxO (k : IntKind) (i : Int) : idxO (some (.int k i)) = some i := rfl
theorem r_cut (xs ys : List (List AV)) (l h : Int) : cutA (.sl ys) xs l h = .sl ((xs.take h.toNat).drop l.toNat) := rfl
theorem r_cut0 (xs : List (List AV)) (l h : Int) : cutA .nils xs l h = .nils := rfl
def ncP (k : SV → Prop) : SV → Prop
  | .ptr b o => k (.ptr b o)
  | .rp cs => k (.rp cs)
  | .dat (.fn (.func f) as bs) q => k (.dat (.fn (.func f) as bs) q)
  | .dat (.ref cs) _ => k (.rp cs)
  | _ => False
theorem r_nc (id : Nat) (x : Opd) : aop C id (.nc x) K ⟨sl, bx, lv, nx⟩ = withV (opd ⟨sl, bx, lv, nx⟩ x) (ncP fun v => K v ⟨sl, bx, lv, nx⟩) := by
  show withV _ _ = withV _ _
  cases opd ⟨sl, bx, lv, nx⟩ x with
  | none => rfl
  | some v => cases v with
    | dat a q => cases a <;> first | rfl | (rename_i f _ _; cases f <;> rfl)
    | _ => rfl
theorem r_ncp (k : SV → Prop) (b o : Nat) : ncP k (.ptr b o) = k (.ptr b o) := rfl
theorem r_ncd (k : SV → Prop) (cs : List AV) (q : Option Nat) : ncP k (.dat (.ref cs) q) = k (.rp cs) := rfl
theorem r_ncr (k : SV → Prop) (cs : List AV) : ncP k (.rp cs) = k (.rp cs) := rfl
theorem r_skip : aw C .skip Q ⟨sl, bx, lv, nx⟩ = Q .normal ⟨sl, bx, lv, nx⟩ := rfl
def bump (k : S → Prop) (n : Nat) : S → Prop := fun s => k { s with nx := n }
theorem r_reg (ops : List CO) : aw C (.reg ops) Q ⟨sl, bx, lv, nx⟩ = aops C nx 0 ops (bump (Q .normal) (nx + ops.length)) ⟨sl, bx, lv, nx⟩ := rfl
def dynG (ops : List CO) (bad : List (Nat × Nat)) (s : S) (F : List CO → S → Prop) : Prop := ∃ ids, (nodupB ids && ownIds ids) = true ∧ withV (cellsA s.boxes ids) fun css => ∃ ro, dynOk (roL ro 0 ops) bad (frzs ids css s).nx (frzs ids css s).slots = true ∧ F (roL ro 0 ops) (frzs ids css s)
class KF where
  k : List CO → S → Prop
def dg (ops : List CO) (bad : List (Nat × Nat)) (s : S) [k : KF] : Prop := dynG ops bad s k.k
theorem k_dg (ops : List CO) (bad : List (Nat × Nat)) (s : S) (F : List CO → S → Prop) : dynG ops bad s F = @dg ops bad s ⟨F⟩ := rfl
theorem dg_go {ops : List CO} {bad : List (Nat × Nat)} {s : S} {F : List CO → S → Prop} (h : dynOk ops bad s.nx s.slots = true) (hk : F ops s) : @dg ops bad s ⟨F⟩ := ⟨[], rfl, [], by rw [roL_nil]; exact h, by rw [roL_nil]; exact hk⟩
theorem dg_ro {ops : List CO} {bad : List (Nat × Nat)} {s : S} {F : List CO → S → Prop} (ro : List Nat) (h : dynOk (roL ro 0 ops) bad s.nx s.slots = true) (hk : F (roL ro 0 ops) s) : @dg ops bad s ⟨F⟩ := ⟨[], rfl, ro, h, hk⟩
theorem dg_frz {ops : List CO} {bad : List (Nat × Nat)} {s : S} {F : List CO → S → Prop} (ids ro : List Nat) {css : List (List AV)} (hn : (nodupB ids && ownIds ids) = true) (hc : cellsA s.boxes ids = some css) (h : dynOk (roL ro 0 ops) bad (frzs ids css s).nx (frzs ids css s).slots = true) (hk : F (roL ro 0 ops) (frzs ids css s)) : @dg ops bad s ⟨F⟩ := ⟨ids, hn, by rw [hc]; exact ⟨ro, h, hk⟩⟩
def goF (C : Con) (nx : Nat) (K : S → Prop) (ops : List CO) (s : S) : Prop := aops C nx 0 ops K s
theorem r_goF (nx : Nat) (K : S → Prop) (o : CO) (ops : List CO) : goF C nx K (o :: ops) ⟨sl, bx, lv, nx⟩ = aops C nx 0 (o :: ops) K ⟨sl, bx, lv, nx⟩ := rfl
theorem r_regD (ops : List CO) (bad : List (Nat × Nat)) : aw C (.regD ops bad) Q ⟨sl, bx, lv, nx⟩ = dynG ops bad ⟨sl, bx, lv, nx⟩ (goF C nx (bump (Q .normal) (nx + ops.length))) := by
  show (∃ ids, _ ∧ withV _ _) = (∃ ids, _ ∧ withV _ _)
  congr 1; funext ids; congr 2; funext css
  show regG _ _ _ _ _ = _
  unfold regG goF
  simp only [frzs_nx]
  rfl
theorem r_bump (k : S → Prop) (n : Nat) : bump k n ⟨sl, bx, lv, nx⟩ = k ⟨sl, bx, lv, n⟩ := rfl
theorem r_seq (a b : CCode) : aw C (.seq a b) Q ⟨sl, bx, lv, nx⟩ = aw C a (athen (aw C b Q) Q) ⟨sl, bx, lv, nx⟩ := rfl
theorem r_join (a b : CCode) : aw C (.join a b) Q ⟨sl, bx, lv, nx⟩ = aw C a (athen (down (aw C b Q)) Q) ⟨sl, bx, lv, nx⟩ := rfl
def condP (a b : Prop) : AV → Prop
  | .bool t => (t = true → a) ∧ (t = false → b)
  | _ => False
theorem r_cond (c : Opd) (a b : CCode) : aw C (.cond c a b) Q ⟨sl, bx, lv, nx⟩ = withV (opdA ⟨sl, bx, lv, nx⟩ c) (condP (aw C a Q ⟨sl, bx, lv, nx⟩) (aw C b Q ⟨sl, bx, lv, nx⟩)) := rfl
def cd (c : AV) [k : KP] : Prop := condP k.yes k.no c
theorem k_cd (a b : Prop) (c : AV) : condP a b c = @cd c ⟨a, b⟩ := rfl
theorem r_condt (a b : Prop) : @cd (.bool true) ⟨a, b⟩ = a := by simp [cd, condP]
theorem r_condf (a b : Prop) : @cd (.bool false) ⟨a, b⟩ = b := by simp [cd, condP]
theorem r_block (id : Nat) (c : CCode) : aw C (.block id c) Q ⟨sl, bx, lv, nx⟩ = aw C c (ablock id Q) ⟨sl, bx, lv, nx⟩ := rfl
theorem r_exit (id : Nat) : aw C (.exit id) Q ⟨sl, bx, lv, nx⟩ = Q (.exit id) ⟨sl, bx, lv, nx⟩ := rfl
theorem r_ret : aw C .ret Q ⟨sl, bx, lv, nx⟩ = Q .ret ⟨sl, bx, lv, nx⟩ := rfl
theorem r_scope (l : Nat) (c r : CCode) : aw C (.scope l c r) Q ⟨sl, bx, lv, nx⟩ = aw C c (scopeQ l (aw C r (noGo Q)) Q) ⟨sl, bx, lv, nx⟩ := rfl
theorem r_label (l : Nat) : aw C (.label l) Q ⟨sl, bx, lv, nx⟩ = Q .normal ⟨sl, bx, lv, nx⟩ := rfl
theorem r_goto (l : Nat) : aw C (.goto l) Q ⟨sl, bx, lv, nx⟩ = Q (.goto l) ⟨sl, bx, lv, nx⟩ := rfl
theorem r_then4 (k : S → Prop) (s : S) (l : Nat) : athen k Q (.goto l) s = Q (.goto l) s := rfl
theorem r_blk5 (id : Nat) (s : S) (l : Nat) : ablock id Q (.goto l) s = Q (.goto l) s := rfl
theorem r_sc1 (l : Nat) (k : S → Prop) (s : S) : scopeQ l k Q .normal s = Q .normal s := rfl
theorem r_sc2 (l : Nat) (k : S → Prop) (s : S) : scopeQ l k Q .ret s = Q .ret s := rfl
theorem r_sc3 (l : Nat) (k : S → Prop) (s : S) (id : Nat) : scopeQ l k Q (.exit id) s = Q (.exit id) s := rfl
theorem r_sc4 (l : Nat) (k : S → Prop) (s : S) (l' : Nat) : scopeQ l k Q (.goto l') s = (l' = l ∧ k s) := rfl
theorem r_ng1 (s : S) : noGo Q .normal s = Q .normal s := rfl
theorem r_ng2 (s : S) : noGo Q .ret s = Q .ret s := rfl
theorem r_ng3 (s : S) (id : Nat) : noGo Q (.exit id) s = Q (.exit id) s := rfl
theorem r_then1 (k : S → Prop) (s : S) : athen k Q .normal s = k s := rfl
theorem r_then2 (k : S → Prop) (s : S) : athen k Q .ret s = Q .ret s := rfl
theorem r_then3 (k : S → Prop) (s : S) (id : Nat) : athen k Q (.exit id) s = Q (.exit id) s := rfl
theorem r_blk1 (id : Nat) (s : S) : ablock id Q .normal s = Q .normal s := rfl
theorem r_blk2 (id : Nat) (s : S) : ablock id Q .ret s = Q .ret s := rfl
theorem r_blk3 (id : Nat) (s : S) : ablock id Q (.exit id) s = Q .normal s := by simp [ablock]
theorem r_blk4 (id id' : Nat) (s : S) (h : (id' == id) = false) : ablock id Q (.exit id') s = Q (.exit id') s := by
  have : id' ≠ id := by simpa using h
  simp [ablock, this]
end
section
variable {C : Con} {Q : Exit → S → Prop} {K : SV → S → Prop} {J : S → Prop}
@[congr] theorem g_withV {α : Type} {o o' : Option α} (k : α → Prop) (h : o = o') : withV o k = withV o' k := by rw [h]
@[congr] theorem g_aop (id : Nat) (o : COp) (s : S) : aop C id o K s = aop C id o K s := rfl
@[congr] theorem g_aops (b i : Nat) (l : List CO) (s : S) : aops C b i l J s = aops C b i l J s := rfl
@[congr] theorem g_aw (c : CCode) (s : S) : aw C c Q s = aw C c Q s := rfl
@[congr] theorem g_athen (e : Exit) (s : S) : athen J Q e s = athen J Q e s := rfl
@[congr] theorem g_scopeQ {J : S → Prop} (l : Nat) (e : Exit) (s : S) : scopeQ l J Q e s = scopeQ l J Q e s := rfl
@[congr] theorem g_noGo (e : Exit) (s : S) : noGo Q e s = noGo Q e s := rfl
@[congr] theorem g_ablock (id : Nat) (e : Exit) (s : S) : ablock id Q e s = ablock id Q e s := rfl
@[congr] theorem g_bump (n : Nat) (s : S) : bump J n s = bump J n s := rfl
@[congr] theorem g_down {s s' : S} (h : s = s') : down J s = down J s' := by rw [h]
@[congr] theorem g_guardP (w : Bool) (yes no : Prop) {g g' : Option SV} (h : g = g') : guardP w yes no g = guardP w yes no g' := by rw [h]
@[congr] theorem g_pickP {a a' b b' : Option SV} (k : SV → Prop) {c c' : AV} (ha : a = a') (hb : b = b') (hc : c = c') : pickP a b k c = pickP a' b' k c' := by rw [ha, hb, hc]
@[congr] theorem g_condP (a b : Prop) {c c' : AV} (h : c = c') : condP a b c = condP a b c' := by rw [h]
@[congr] theorem g_ldP (sz : Option Nat) (bx : List (Nat × Box)) (k : SV → Prop) {v v' : SV} (h : v = v') : ldP sz bx k v = ldP sz bx k v' := by rw [h]
@[congr] theorem g_faP (off : Nat) (k : SV → Prop) {v v' : SV} (h : v = v') : faP off k v = faP off k v' := by rw [h]
@[congr] theorem g_iaP {d d' : Nat} (k : SV → Prop) {v v' : SV} (h : v = v') (hd : d = d') : iaP d k v = iaP d' k v' := by rw [h, hd]
@[congr] theorem g_stP (sz : Nat) (bx : List (Nat × Box)) {u u' : Option SV} (k : List (Nat × Box) → Prop) {v v' : SV} (hu : u = u') (h : v = v') : stP sz bx u k v = stP sz bx u' k v' := by rw [h, hu]
@[congr] theorem g_stV (sz off : Nat) (x : Box) (k : Box → Prop) {v v' : SV} (h : v = v') : stV sz off x k v = stV sz off x k v' := by rw [h]
@[congr] theorem g_aggP (k : List AV → Prop) {v v' : AV} (h : v = v') : aggP k v = aggP k v' := by rw [h]
@[congr] theorem g_mmP (m : Bool) (k : AV → Prop) {v v' : List AV} (h : v = v') : mmP m k v = mmP m k v' := by rw [h]
@[congr] theorem g_ncP (k : SV → Prop) {v v' : SV} (h : v = v') : ncP k v = ncP k v' := by rw [h]
end
section
variable (k : IntKind) (x y : Int)
theorem b_add : binA .add (.int k x) (.int k y) = some (.int k (k.wrap (x + y))) := by simp [binA, intA]
theorem b_sub : binA .sub (.int k x) (.int k y) = some (.int k (k.wrap (x - y))) := by simp [binA, intA]
theorem b_mul : binA .mul (.int k x) (.int k y) = some (.int k (k.wrap (x * y))) := by simp [binA, intA]
theorem b_eql : binA .eql (.int k x) (.int k y) = some (.bool (x == y)) := by simp [binA, intA]
theorem b_neq : binA .neq (.int k x) (.int k y) = some (.bool (x != y)) := by simp [binA, intA]
theorem b_lss : binA .lss (.int k x) (.int k y) = some (.bool (decide (x < y))) := by simp [binA, intA]
theorem b_leq : binA .leq (.int k x) (.int k y) = some (.bool (decide (x ≤ y))) := by simp [binA, intA]
theorem b_gtr : binA .gtr (.int k x) (.int k y) = some (.bool (decide (y < x))) := by simp [binA, intA]
theorem b_geq : binA .geq (.int k x) (.int k y) = some (.bool (decide (y ≤ x))) := by simp [binA, intA]
def bAnd (k : IntKind) (x y : Int) : Int := k.wrap (BitVec.ofInt k.bits x &&& BitVec.ofInt k.bits y).toNat
def bOr (k : IntKind) (x y : Int) : Int := k.wrap (BitVec.ofInt k.bits x ||| BitVec.ofInt k.bits y).toNat
def bXor (k : IntKind) (x y : Int) : Int := k.wrap (BitVec.ofInt k.bits x ^^^ BitVec.ofInt k.bits y).toNat
def bAndNot (k : IntKind) (x y : Int) : Int := k.wrap (BitVec.ofInt k.bits x &&& ~~~BitVec.ofInt k.bits y).toNat
theorem b_and : binA .and (.int k x) (.int k y) = some (.int k (bAnd k x y)) := by simp [binA, intA, bitsA, bAnd]
theorem b_or : binA .or (.int k x) (.int k y) = some (.int k (bOr k x y)) := by simp [binA, intA, bitsA, bOr]
theorem b_xor : binA .xor (.int k x) (.int k y) = some (.int k (bXor k x y)) := by simp [binA, intA, bitsA, bXor]
theorem b_andNot : binA .andNot (.int k x) (.int k y) = some (.int k (bAndNot k x y)) := by simp [binA, intA, bitsA, bAndNot]
def optIf (c : Prop) [Decidable c] (v : AV) : Option AV := if c then some v else none
theorem w_optIf (c : Prop) [Decidable c] (v : AV) (K : AV → Prop) : @wv _ (optIf c v) ⟨K⟩ = (c ∧ K v) := by
  rw [← k_wv]; unfold optIf; split <;> simp_all
theorem b_quo : binA .quo (.int k x) (.int k y) = optIf (y ≠ 0) (.int k (k.wrap (x.tdiv y))) := by
  by_cases h : y = 0 <;> simp [binA, intA, optIf, h]
theorem b_rem : binA .rem (.int k x) (.int k y) = optIf (y ≠ 0) (.int k (x.tmod y)) := by
  by_cases h : y = 0 <;> simp [binA, intA, optIf, h]
theorem b_shl (k' : IntKind) : binA .shl (.int k x) (.int k' y) = optIf (0 ≤ y) (.int k (k.wrap (x * 2 ^ min y.toNat k.bits))) := by
  by_cases h : 0 ≤ y
  · have : ¬ y < 0 := by omega
    simp [binA, shiftA, optIf, h, this]
  · have : y < 0 := by omega
    simp [binA, shiftA, optIf, this]
theorem b_shr (k' : IntKind) : binA .shr (.int k x) (.int k' y) = optIf (0 ≤ y) (.int k (x.fdiv (2 ^ min y.toNat k.bits))) := by
  by_cases h : 0 ≤ y
  · have : ¬ y < 0 := by omega
    simp [binA, shiftA, optIf, h, this]
  · have : y < 0 := by omega
    simp [binA, shiftA, optIf, this]
theorem b_beq (x y : Bool) : bbA false (.bool x) (.bool y) = some (.bool (x == y)) := rfl
theorem b_bne (x y : Bool) : bbA true (.bool x) (.bool y) = some (.bool (x != y)) := rfl
theorem u_not (b : Bool) : unA .not (.bool b) = some (.bool !b) := rfl
theorem u_neg : unA .neg (.int k x) = some (.int k (k.wrap (0 - x))) := rfl
theorem l_in0 : nilA false .nils = some true := rfl
theorem l_in1 : nilA true .nils = some false := rfl
theorem l_in2 (xs : List (List AV)) : nilA false (.sl xs) = some false := rfl
theorem l_in3 (xs : List (List AV)) : nilA true (.sl xs) = some true := rfl
theorem l_nil : lenA .nils = some (.int .i64 0) := rfl
theorem l_sl (xs : List (List AV)) : lenA (.sl xs) = some (.int .i64 xs.length) := rfl
theorem c_ii (k' : IntKind) : cvIIA k (.int k' x) = some (.int k (k.wrap x)) := rfl
theorem c_if (k' : IntKind) (f : FloatKind) : cvIFA f (.int k' x) = some (.float f (f.nearest x)) := rfl
theorem e_tup (vs : List AV) (i : Nat) : extA (.tup vs) i = vs[i]? := rfl
theorem s_ok1 (cs : List AV) : stOk (.agg cs) none = true := rfl
theorem s_ok2 (q : Option Nat) : stOk (.int k x) q = true := rfl
theorem s_ok3 (b : Bool) (q : Option Nat) : stOk (.bool b) q = true := rfl
theorem s_ok4 (f : FloatKind) (n : Nat) (q : Option Nat) : stOk (.float f n) q = true := rfl
theorem s_ok5 (q : Option Nat) : stOk .nils q = true := rfl
theorem s_ok6 (xs : List (List AV)) (q : Option Nat) : stOk (.sl xs) q = true := rfl
theorem s_ok7 (b : ByteArray) (q : Option Nat) : stOk (.str b) q = true := rfl
theorem s_ok8 (f : Fn) (as bs : List AV) (q : Option Nat) : stOk (.fn f as bs) q = true := rfl
theorem s_ok10 (cs : List AV) (q : Option Nat) : stOk (.ref cs) q = true := rfl
theorem s_ok9 (q : Option Nat) : stOk .nilfn q = true := rfl
theorem cells_agg (cs : List AV) : AV.cells (.agg cs) = cs := rfl
theorem cells_int : AV.cells (.int k x) = [.int k x] := rfl
theorem cells_bool (b : Bool) : AV.cells (.bool b) = [.bool b] := rfl
theorem cells_float (f : FloatKind) (n : Nat) : AV.cells (.float f n) = [.float f n] := rfl
theorem cells_nils : AV.cells .nils = [.nils] := rfl
theorem cells_ref (cs : List AV) : AV.cells (.ref cs) = [.ref cs] := rfl
theorem cells_fn (f : Fn) (as bs : List AV) : AV.cells (.fn f as bs) = [.fn f as bs] := rfl
theorem cells_sl (xs : List (List AV)) : AV.cells (.sl xs) = [.sl xs] := rfl
theorem p_none (cs : List AV) (off : Nat) : partA cs off none = cs[off]? := rfl
theorem p_some (cs : List AV) (off n : Nat) (h : off + n ≤ cs.length) : partA cs off (some n) = some (.agg ((cs.drop off).take n)) := by simp [partA, h]
end
theorem gd_split {w : Bool} {yes no : Prop} {t : Bool} {q : Option Nat} (h1 : t = true → @gd w (some (.dat (.bool true) q)) ⟨yes, no⟩) (h2 : t = false → @gd w (some (.dat (.bool false) q)) ⟨yes, no⟩) : @gd w (some (.dat (.bool t) q)) ⟨yes, no⟩ := by
  cases t
  · exact h2 rfl
  · exact h1 rfl
theorem cd_split {a b : Prop} {t : Bool} (h1 : t = true → a) (h2 : t = false → b) : @cd (.bool t) ⟨a, b⟩ := by
  cases t
  · simpa [cd, condP] using h2 rfl
  · simpa [cd, condP] using h1 rfl
theorem pk_split {a b : Option SV} {k : SV → Prop} {t : Bool} (h1 : t = true → @pk a b (.bool true) ⟨k⟩) (h2 : t = false → @pk a b (.bool false) ⟨k⟩) : @pk a b (.bool t) ⟨k⟩ := by
  cases t
  · exact h2 rfl
  · exact h1 rfl
theorem r_putPs (p : Nat) (ps : List Nat) (x : AV) (xs : List AV) (s : S) : putPs (p :: ps) (x :: xs) s = putPs ps xs (s.put (some p) (.dat x none)) := rfl
theorem r_putPs0 (s : S) : putPs [] [] s = s := rfl
theorem r_cutS (wr : List Nat) (sl : List (Nat × SV)) (bx : List (Nat × Box)) (lv : List (Nat × Nat)) (nx : Nat) : cutS wr ⟨sl, bx, lv, nx⟩ = ⟨cutL wr sl, bx, lv, nx⟩ := rfl
theorem r_cutL0 (wr : List Nat) : cutL wr [] = [] := rfl
theorem r_cutL (wr : List Nat) (t : Nat) (v : SV) (r : List (Nat × SV)) : cutL wr ((t, v) :: r) = bif wr.contains t then cutL wr r else (t, v) :: cutL wr r := rfl
theorem r_rfQn (wr : List Nat) (F : S → Prop) (Q : Exit → S → Prop) (s : S) : rfQ wr F Q .normal s = down F (cutS wr s) := rfl
theorem r_rfQr (wr : List Nat) (F : S → Prop) (Q : Exit → S → Prop) (s : S) : rfQ wr F Q .ret s = Q .ret (cutS wr s) := rfl
theorem r_rfQx (wr : List Nat) (F : S → Prop) (Q : Exit → S → Prop) (id : Nat) (s : S) : rfQ wr F Q (.exit id) s = Q (.exit id) (cutS wr s) := rfl
theorem r_onlyN (K : S → Prop) (s : S) : onlyN K .normal s = K s := rfl
set_option linter.defProp false
def EV0 :=
  And.intro @w_some (And.intro @w_none (And.intro @r_roL0 (And.intro @r_roL (And.intro @r_ro (And.intro @r_ro1 (And.intro @r_ro2 (And.intro @r_lk (And.intro @r_lkB (And.intro @r_lkN (And.intro @r_lkN0 (And.intro @r_setB (And.intro @r_delN (And.intro @r_delN0 (And.intro @r_put (And.intro @r_put0 (And.intro @r_opdt (And.intro @r_opdk (And.intro @r_datAr (And.intro @r_datA (And.intro @r_opdAt (And.intro @r_opdAk (And.intro @r_consO (And.intro @r_opdsA (And.intro @r_opdsA0 (And.intro @r_aops0 (And.intro @r_aops (And.intro @r_aopsg (And.intro @r_guardu (@r_guardt)))))))))))))))))))))))))))))
def EV1 :=
  And.intro @r_guardt' (And.intro @r_guardf (And.intro @r_guardf' (And.intro @r_mv (And.intro @r_pick (And.intro @r_pickt (And.intro @r_pickf (And.intro @r_alloc (And.intro @r_box (And.intro @r_ld (And.intro @r_ldp1 (And.intro @r_ldp2 (And.intro @r_ldr (And.intro @r_st (And.intro @r_stp (And.intro @r_stv (And.intro @r_tags0 (And.intro @r_tags1 (And.intro @r_fa (And.intro @r_fap (And.intro @r_far (And.intro @r_iaA (And.intro @r_iap (And.intro @r_iar (And.intro @r_idx (And.intro @r_iaS (And.intro @r_rows (And.intro @r_rows0 (And.intro @r_agg (@r_fld)))))))))))))))))))))))))))))
def EV2 :=
  And.intro @r_ixA (And.intro @r_bin (And.intro @r_eqc (And.intro @r_bb (And.intro @r_un (And.intro @r_cvII (And.intro @r_cvIF (And.intro @r_cvFI (And.intro @r_lenS (And.intro @r_xt (And.intro @r_xb (And.intro @r_xf (And.intro @r_xr (And.intro @r_slA (And.intro @r_slA1 (And.intro @r_slA2 (And.intro @r_ixB (And.intro @r_ixBs (And.intro @r_lenK (And.intro @r_call (And.intro @r_consPd (And.intro @r_consPr (And.intro @r_consPp (And.intro @r_svs0 (And.intro @r_svs (And.intro @r_cells0 (And.intro @r_consC (And.intro @r_cells (And.intro @r_nodup0 (@r_nodup)))))))))))))))))))))))))))))
def EV3 :=
  And.intro @r_setBs (And.intro @r_cellsP0 (And.intro @r_cellsP (And.intro @r_cellsPc (And.intro @r_setBs0 (And.intro @r_callpK (And.intro @r_callp (And.intro @r_callv (And.intro @r_callvf (And.intro @r_callvp (And.intro @r_callr (And.intro @r_callrK (And.intro @r_callvr (And.intro @r_callvrf (And.intro @r_callvpf (And.intro @r_isn (And.intro @r_ext (And.intro @r_frz1 (And.intro @r_frz2 (And.intro @r_frz3 (And.intro @r_frz4 (And.intro @r_frzL0 (And.intro @r_frzL (And.intro @r_delB0 (And.intro @r_delB (And.intro @r_frzs0 (And.intro @r_frzs (And.intro @r_fillP0 (And.intro @r_fillPs (@r_fillPn)))))))))))))))))))))))))))))
def EV4 :=
  And.intro @r_own0 (And.intro @r_own (And.intro @r_mkfK (And.intro @r_mkf (And.intro @r_mm (And.intro @r_mm2 (And.intro @r_mmI (And.intro @r_mmI' (And.intro @r_build (And.intro @r_partsA (And.intro @r_partsA0 (And.intro @r_bsl (And.intro @r_rowsA (And.intro @r_rowsA0 (And.intro @r_app (And.intro @r_slS (And.intro @r_bndL0 (And.intro @r_bndL (And.intro @r_bndH0 (And.intro @r_bndH (And.intro @r_idxO (And.intro @r_cut (And.intro @r_cut0 (And.intro @r_nc (And.intro @r_ncp (And.intro @r_ncd (And.intro @r_ncr (And.intro @r_skip (And.intro @r_reg (@r_goF)))))))))))))))))))))))))))))
def EV5 :=
  And.intro @r_regD (And.intro @r_bump (And.intro @r_seq (And.intro @r_join (And.intro @r_cond (And.intro @r_condt (And.intro @r_condf (And.intro @r_block (And.intro @r_exit (And.intro @r_ret (And.intro @r_scope (And.intro @r_label (And.intro @r_goto (And.intro @r_then4 (And.intro @r_blk5 (And.intro @r_sc1 (And.intro @r_sc2 (And.intro @r_sc3 (And.intro @r_sc4 (And.intro @r_ng1 (And.intro @r_ng2 (And.intro @r_ng3 (And.intro @r_then1 (And.intro @r_then2 (And.intro @r_then3 (And.intro @r_blk1 (And.intro @r_blk2 (And.intro @r_blk3 (And.intro @b_add (@b_sub)))))))))))))))))))))))))))))
def EV6 :=
  And.intro @b_mul (And.intro @b_eql (And.intro @b_neq (And.intro @b_lss (And.intro @b_leq (And.intro @b_gtr (And.intro @b_geq (And.intro @b_and (And.intro @b_or (And.intro @b_xor (And.intro @b_andNot (And.intro @w_optIf (And.intro @b_quo (And.intro @b_rem (And.intro @b_shl (And.intro @b_shr (And.intro @b_beq (And.intro @b_bne (And.intro @u_not (And.intro @u_neg (And.intro @l_in0 (And.intro @l_in1 (And.intro @l_in2 (And.intro @l_in3 (And.intro @l_nil (And.intro @l_sl (And.intro @c_ii (And.intro @c_if (And.intro @e_tup (@s_ok1)))))))))))))))))))))))))))))
def EV7 :=
  And.intro @s_ok2 (And.intro @s_ok3 (And.intro @s_ok4 (And.intro @s_ok5 (And.intro @s_ok6 (And.intro @s_ok7 (And.intro @s_ok8 (And.intro @s_ok10 (And.intro @s_ok9 (And.intro @cells_agg (And.intro @cells_int (And.intro @cells_bool (And.intro @cells_float (And.intro @cells_nils (And.intro @cells_ref (And.intro @cells_fn (And.intro @cells_sl (And.intro @p_none (And.intro @r_putPs (And.intro @r_putPs0 (And.intro @r_cutS (And.intro @r_cutL0 (And.intro @r_cutL (And.intro @r_rfQn (And.intro @r_rfQr (And.intro @r_rfQx (@r_onlyN))))))))))))))))))))))))))
def EV :=
  And.intro @EV0 (And.intro @EV1 (And.intro @EV2 (And.intro @EV3 (And.intro @EV4 (And.intro @EV5 (And.intro @EV6 (@EV7)))))))
end Go.Eng
namespace Go.Eng
set_option linter.unusedVariables false
set_option linter.unusedSimpArgs false
set_option linter.unnecessarySimpa false
open Go
set_option linter.unusedVariables false
set_option linter.unusedSimpArgs false
section
variable {C : Con}
theorem aops_mono {base : Nat} : ∀ {l : List CO} {i : Nat} {s : S} {K K' : S → Prop}, (∀ s, K s → K' s) → aops C base i l K s → aops C base i l K' s
  | [], i, s, K, K', hk, h => hk s h
  | o :: l, i, s, K, K', hk, h => by
    rw [aops_cons] at h ⊢
    obtain ⟨v, d, hd, hk', _⟩ := astep_path h
    exact hd.2 s .refl _ (aops_mono hk hk')
theorem down_mono {F G : S → Prop} (h : ∀ s, F s → G s) {s : S} (hd : down F s) : down G s := by
  obtain ⟨s1, ⟨hl, hF⟩ | hF⟩ := hd
  · exact ⟨s1, .inl ⟨hl, h _ hF⟩⟩
  · exact ⟨s1, .inr (h _ hF)⟩
theorem athen_mono {F G : S → Prop} {Q Q' : Exit → S → Prop} (h : ∀ s, F s → G s) (hq : ∀ e s, Q e s → Q' e s) {e : Exit} {s : S} (ha : athen F Q e s) : athen G Q' e s := by
  cases e <;> first | exact h _ ha | exact hq _ _ ha
theorem ablock_mono {id : Nat} {Q Q' : Exit → S → Prop} (hq : ∀ e s, Q e s → Q' e s) {e : Exit} {s : S} (ha : ablock id Q e s) : ablock id Q' e s := by
  cases e with
  | exit i =>
    simp only [ablock] at ha ⊢
    split
    · rename_i hi; rw [if_pos hi] at ha; exact hq _ _ ha
    · rename_i hi; rw [if_neg hi] at ha; exact hq _ _ ha
  | _ => exact hq _ _ ha
theorem ARounds_mono {F G : (Exit → S → Prop) → S → Prop} (hF : ∀ Q Q' s, (∀ e s, Q e s → Q' e s) → F Q s → G Q' s) {Q Q' : Exit → S → Prop} (hq : ∀ e s, Q e s → Q' e s) : ∀ {n : Nat} {s : S}, ARounds F Q n s → ARounds G Q' n s
  | 0, s, h => h
  | n + 1, s, h => hF _ _ s (fun e s ha => athen_mono (fun s hd => down_mono (fun s h => ARounds_mono hF hq h) hd) hq ha) h
theorem rfQ_mono {wr : List Nat} {F : S → Prop} {Q Q' : Exit → S → Prop} (hq : ∀ e s, Q e s → Q' e s) {e : Exit} {s : S} (h : rfQ wr F Q e s) : rfQ wr F Q' e s := by
  cases e <;> first | exact h | exact hq _ _ h
theorem aw_mono : ∀ {c : CCode} {Q Q' : Exit → S → Prop} {s : S}, (∀ e s, Q e s → Q' e s) → aw C c Q s → aw C c Q' s := by
  intro c
  induction c with
  | skip => intro Q Q' s hq h; exact hq _ _ h
  | reg ops => intro Q Q' s hq h; exact aops_mono (fun s h => hq _ _ h) h
  | regD ops bad =>
    intro Q Q' s hq h
    obtain ⟨ids, hids, h⟩ := h
    obtain ⟨css, hcss, ro, hd, h⟩ := withV_inv h
    exact ⟨ids, hids, by rw [hcss]; exact ⟨ro, hd, aops_mono (fun s h => hq _ _ h) h⟩⟩
  | seq a b iha ihb => intro Q Q' s hq h; exact iha (fun e s ha => athen_mono (fun s h => ihb hq h) hq ha) h
  | join a b iha ihb => intro Q Q' s hq h; exact iha (fun e s ha => athen_mono (fun s h => down_mono (fun s h => ihb hq h) h) hq ha) h
  | cond c a b iha ihb =>
    intro Q Q' s hq h
    simp only [aw] at h ⊢
    obtain ⟨v, hv, h⟩ := withV_inv h
    rw [hv]
    cases v <;> try (exact h.elim)
    exact ⟨fun e => iha hq (h.1 e), fun e => ihb hq (h.2 e)⟩
  | block id c ih => intro Q Q' s hq h; exact ih (fun e s ha => ablock_mono hq ha) h
  | loop c ih =>
    intro Q Q' s hq h
    exact down_mono (fun s ⟨n, h⟩ => ⟨n, ARounds_mono (F := aw C c) (G := aw C c) (fun Q Q' s hq h => ih hq h) hq h⟩) h
  | exit id => intro Q Q' s hq h; exact hq _ _ h
  | ret => intro Q Q' s hq h; exact hq _ _ h
  | label l => intro Q Q' s hq h; exact hq _ _ h
  | goto l => intro Q Q' s hq h; exact hq _ _ h
  | scope l c r ihc ihr =>
    intro Q Q' s hq h
    refine ihc (fun e s ha => ?_) h
    cases e with
    | goto l' =>
      refine ⟨ha.1, ihr (fun e s hb => ?_) ha.2⟩
      cases e <;> first | exact hb | exact hq _ _ hb
    | _ => exact hq _ _ ha
  | rfor g ps wr as bd iha ihb =>
    intro Q Q' s hq h
    simp only [aw] at h ⊢
    obtain ⟨gv, hgv, xs, h1, h2, F, h3, h4, h5, h6⟩ := withV_inv h
    rw [hgv]
    refine ⟨xs, h1, h2, F, h3, h4, fun i x s' hx hs => iha (fun e s ha => ?_) (h5 i x s' hx hs), fun s' hs => hq _ _ (h6 s' hs)⟩
    cases e <;> first | exact ha.elim | exact ihb (fun e s hb => rfQ_mono hq hb) ha
theorem aw_rfor {g : Opd} {ps wr : List Nat} {as bd : CCode} {Q : Exit → S → Prop} {s : S} {gv : AV} {xs : List (List AV)} {α : Type} (hd : α → S) (I : Nat → α → Prop)
    (hg : opdA s g = some gv) (hit : C.i gv xs) (hlen : ∀ x ∈ xs, x.length = ps.length) {y0 : α} (h0 : Le s (hd y0) ∨ s = hd y0) (hI0 : I 0 y0) (hgd : ∀ y, opdA (hd y) g = some gv)
    (round : ∀ i x y, xs[i]? = some x → I i y → aw C as (onlyN (aw C bd (rfQ wr (fun s' => ∃ z, s' = hd z ∧ I (i + 1) z) Q))) (putPs ps x (hd y)))
    (fin : ∀ y, I xs.length y → Q .normal (hd y)) : aw C (.rfor g ps wr as bd) Q s := by
  simp only [aw, hg, withV_some]
  refine ⟨xs, hit, hlen, fun i s' => ∃ y, s' = hd y ∧ I i y, ?_, ?_, ?_, ?_⟩
  · rcases h0 with h0 | h0
    · exact ⟨hd y0, .inl ⟨h0, y0, rfl, hI0⟩⟩
    · exact down_refl ⟨y0, h0, hI0⟩
  · rintro i s' ⟨y, rfl, _⟩; exact hgd y
  · rintro i x s' hx ⟨y, rfl, hy⟩; exact round i x y hx hy
  · rintro s' ⟨y, rfl, hy⟩; exact fin y hy
def flat (keep : List Nat) : Nat → CCode → CCode × Nat
  | i, .join a b =>
    let p := flat keep (i + 1) a
    let q := flat keep p.2 b
    (if keep.contains i then .join p.1 q.1 else .seq p.1 q.1, q.2)
  | i, .seq a b =>
    let p := flat keep i a
    let q := flat keep p.2 b
    (.seq p.1 q.1, q.2)
  | i, .cond c a b =>
    let p := flat keep i a
    let q := flat keep p.2 b
    (.cond c p.1 q.1, q.2)
  | i, .block id c => (.block id (flat keep i c).1, (flat keep i c).2)
  | i, .rfor g ps wr as bd =>
    let p := flat keep i as
    let q := flat keep p.2 bd
    (.rfor g ps wr p.1 q.1, q.2)
  | i, .loop c => (.loop (flat keep i c).1, (flat keep i c).2)
  | i, .scope l c r =>
    let p := flat keep i c
    let q := flat keep p.2 r
    (.scope l p.1 q.1, q.2)
  | i, c => (c, i)
theorem aw_flat {keep : List Nat} : ∀ {c : CCode} {i : Nat} {Q : Exit → S → Prop} {s : S}, aw C (flat keep i c).1 Q s → aw C c Q s := by
  intro c
  induction c with
  | join a b iha ihb =>
    intro i Q s h
    simp only [flat] at h
    split at h
    · exact iha (aw_mono (fun e s ha => athen_mono (fun s h => down_mono (fun s h => ihb h) h) (fun _ _ h => h) ha) h)
    · exact iha (aw_mono (fun e s ha => athen_mono (fun s h => down_refl (ihb h)) (fun _ _ h => h) ha) h)
  | seq a b iha ihb => intro i Q s h; exact iha (aw_mono (fun e s ha => athen_mono (fun s h => ihb h) (fun _ _ h => h) ha) h)
  | cond c a b iha ihb =>
    intro i Q s h
    simp only [flat, aw] at h ⊢
    obtain ⟨v, hv, h⟩ := withV_inv h
    rw [hv]
    cases v <;> try (exact h.elim)
    exact ⟨fun e => iha (h.1 e), fun e => ihb (h.2 e)⟩
  | block id c ih => intro i Q s h; exact ih h
  | scope l c r ihc ihr =>
    intro i Q s h
    refine ihc (aw_mono (fun e s ha => ?_) h)
    cases e with
    | goto l' => exact ⟨ha.1, ihr ha.2⟩
    | _ => exact ha
  | rfor g ps wr as bd iha ihb =>
    intro i Q s h
    simp only [flat, aw] at h ⊢
    obtain ⟨gv, hgv, xs, h1, h2, F, h3, h4, h5, h6⟩ := withV_inv h
    rw [hgv]
    refine ⟨xs, h1, h2, F, h3, h4, fun i x s' hx hs => iha (aw_mono (fun e s ha => ?_) (h5 i x s' hx hs)), h6⟩
    cases e <;> first | exact ha.elim | exact ihb ha
  | loop c ih =>
    intro i Q s h
    exact down_mono (fun s ⟨n, h⟩ => ⟨n, ARounds_mono (F := aw C (flat keep i c).1) (G := aw C c) (fun Q Q' s hq h => aw_mono hq (ih h)) (fun _ _ h => h) h⟩) h
  | _ => intro i Q s h; exact h
theorem aw_loop {c : CCode} {Q : Exit → S → Prop} {α : Type} (hd : α → S) (μ : α → Nat) (I : α → Prop)
    (round : ∀ x, I x → aw C c (athen (down fun s => ∃ y, s = hd y ∧ I y ∧ μ y < μ x) Q) (hd x)) {x : α} (hx : I x) {s : S} (h0 : Le s (hd x) ∨ s = hd x) : aw C (.loop c) Q s := by
  have key : ∀ n x, I x → μ x < n → ARounds (aw C c) Q n (hd x) := by
    intro n
    induction n with
    | zero => intro x _ h; omega
    | succ n ih =>
      intro x hx hn
      refine aw_mono ?_ (round x hx)
      intro e s ha
      refine athen_mono ?_ (fun _ _ h => h) ha
      intro s hd
      refine down_mono ?_ hd
      rintro s ⟨y, rfl, hy, hlt⟩
      exact ih y hy (by omega)
  rcases h0 with h0 | rfl
  · exact ⟨hd x, .inl ⟨h0, μ x + 1, key _ x hx (by omega)⟩⟩
  · exact down_refl ⟨μ x + 1, key _ x hx (by omega)⟩
end
theorem a_int (k : IntKind) (n : Int) : argSV (.int k n) = .dat (.int k n) none := rfl
theorem a_bool (b : Bool) : argSV (.bool b) = .dat (.bool b) none := rfl
theorem a_float (k : FloatKind) (n : Nat) : argSV (.float k n) = .dat (.float k n) none := rfl
theorem a_str (s : ByteArray) : argSV (.str s) = .dat (.str s) none := rfl
theorem a_nilp : argSV .nilp = .dat .nilp none := rfl
theorem a_nils : argSV .nils = .dat .nils none := rfl
theorem a_sl (xs : List (List AV)) : argSV (.sl xs) = .dat (.sl xs) none := rfl
theorem a_fn (f : Fn) (as bs : List AV) : argSV (.fn f as bs) = .dat (.fn f as bs) none := rfl
theorem a_agg (cs : List AV) : argSV (.agg cs) = .dat (.agg cs) none := rfl
theorem a_ref (cs : List AV) : argSV (.ref cs) = .rp cs := rfl
theorem a_slots (i : Nat) (a : AV) (r : List AV) : slotsOf i (a :: r) = (i, argSV a) :: slotsOf (i + 1) r := rfl
theorem a_slots0 (i : Nat) : slotsOf i [] = [] := rfl
theorem a_init (as : List AV) : initS as = ⟨slotsOf 0 as, [], [], 4⟩ := rfl
theorem a_slotsBv (i k : Nat) (a : AV) (r : List (Option AV)) : slotsB i k (some a :: r) = (i, argSV a) :: slotsB (i + 1) k r := rfl
theorem a_slotsBp (i k : Nat) (r : List (Option AV)) : slotsB i k (none :: r) = (i, .ptr k 0) :: slotsB (i + 1) (k + 1) r := rfl
theorem a_slotsB0 (i k : Nat) : slotsB i k [] = [] := rfl
theorem a_boxesB (k : Nat) (cs : List AV) (css : List (List AV)) : boxesB k (cs :: css) = (k, ⟨cs, []⟩) :: boxesB (k + 1) css := rfl
theorem a_boxesB0 (k : Nat) : boxesB k [] = [] := rfl
theorem a_initB (css : List (List AV)) (as : List (Option AV)) : initB css as = ⟨slotsB 0 0 as, boxesB 0 css, [], 4⟩ := rfl
theorem a_fin1 (res : List CRes) (r : AV) (s : S) : fin res r none .normal s = withV (resultA s res) fun p => p.1 = r := by simp [fin, frA]
theorem a_fin2 (res : List CRes) (r : AV) (s : S) : fin res r none .ret s = withV (resultA s res) fun p => p.1 = r := by simp [fin, frA]
theorem a_fin3 (res : List CRes) (r : AV) (e : Nat) (s : S) : fin res r (some e) .normal s = withV (resultA s res) fun p => p.1 = r ∧ frA (some e) p.2 s.live := rfl
theorem a_fin4 (res : List CRes) (r : AV) (e : Nat) (s : S) : fin res r (some e) .ret s = withV (resultA s res) fun p => p.1 = r ∧ frA (some e) p.2 s.live := rfl
theorem a_fr (e q : Nat) (lv : List (Nat × Nat)) : frA (some e) (some q) lv = (lkN q lv = some e) := rfl
theorem a_finB1 (res : List CRes) (r : AV) (css : List (List AV)) (s : S) : finB res r none css .normal s = withV (resultA s res) fun p => p.1 = r ∧ holdB s.boxes 0 css := by simp [finB, frA]
theorem a_finB2 (res : List CRes) (r : AV) (css : List (List AV)) (s : S) : finB res r none css .ret s = withV (resultA s res) fun p => p.1 = r ∧ holdB s.boxes 0 css := by simp [finB, frA]
theorem a_hold0 (l : List (Nat × Box)) (k : Nat) : holdB l k [] = True := rfl
theorem a_hold (l : List (Nat × Box)) (k : Nat) (cs : List AV) (css : List (List AV)) : holdB l k (cs :: css) = (withV (lkB k l) (fun x => x.cells = cs) ∧ holdB l (k + 1) css) := rfl
def tmpR : Option SV → Option (AV × Option Nat)
  | some (.dat a q) => some (a, q)
  | _ => none
theorem a_tmpR (a : AV) (q : Option Nat) : tmpR (some (.dat a q)) = some (a, q) := rfl
theorem a_res1 (s : S) (t : Nat) : resultA s [.tmp t] = tmpR (lk t s.slots) := rfl
def cellR (sz : Option Nat) (bx : List (Nat × Box)) : Option SV → Option (AV × Option Nat)
  | some (.ptr b off) => match lkB b bx with
    | some x => match partA x.cells off sz with
      | some a => some (a, match sz with | none => lkN off x.tags | some _ => none)
      | none => none
    | none => none
  | _ => none
def boxR1 (off : Nat) (sz : Option Nat) : Option Box → Option (AV × Option Nat)
  | some x => match partA x.cells off sz with
    | some a => some (a, match sz with | none => lkN off x.tags | some _ => none)
    | none => none
  | none => none
theorem a_res2 (s : S) (t : Nat) (sz : Option Nat) : resultA s [.cell t sz] = cellR sz s.boxes (lk t s.slots) := rfl
theorem a_cellR (sz : Option Nat) (bx : List (Nat × Box)) (b off : Nat) : cellR sz bx (some (.ptr b off)) = boxR1 off sz (lkB b bx) := by
  simp only [cellR, boxR1]
theorem a_boxR1 (off n : Nat) (x : Box) : boxR1 off (some n) (some x) = (partA x.cells off (some n)).map fun a => (a, none) := by
  simp only [boxR1] <;> cases partA x.cells off (some n) <;> rfl
theorem a_boxR2 (off : Nat) (x : Box) : boxR1 off none (some x) = (x.cells[off]?).map fun a => (a, lkN off x.tags) := by
  simp only [boxR1, partA] <;> cases x.cells[off]? <;> rfl
theorem a_res0 (s : S) : resultA s [] = some (.tup [], none) := rfl
theorem a_resM (s : S) (x y : CRes) (r : List CRes) : resultA s (x :: y :: r) = (ressA s (x :: y :: r)).map fun as => (.tup as, none) := rfl
def consR : Option (AV × Option Nat) → Option (List AV) → Option (List AV)
  | some p, some as => some (p.1 :: as)
  | _, _ => none
theorem a_consR (a : AV) (q : Option Nat) (as : List AV) : consR (some (a, q)) (some as) = some (a :: as) := rfl
theorem a_ress (s : S) (x : CRes) (r : List CRes) : ressA s (x :: r) = consR (resultA s [x]) (ressA s r) := by
  simp only [ressA, consR, resultA] <;> cases resA s x <;> cases ressA s r <;> rfl
theorem a_ress0 (s : S) : ressA s [] = some [] := rfl
set_option linter.defProp false
def EW0 :=
  And.intro @a_int (And.intro @a_bool (And.intro @a_float (And.intro @a_str (And.intro @a_nilp (And.intro @a_nils (And.intro @a_sl (And.intro @a_fn (And.intro @a_agg (And.intro @a_ref (And.intro @a_slots (And.intro @a_slots0 (And.intro @a_init (And.intro @a_slotsBv (And.intro @a_slotsBp (And.intro @a_slotsB0 (And.intro @a_boxesB (And.intro @a_boxesB0 (And.intro @a_initB (And.intro @a_fin1 (And.intro @a_fin2 (And.intro @a_fin3 (And.intro @a_fin4 (And.intro @a_fr (And.intro @a_finB1 (And.intro @a_finB2 (And.intro @a_hold0 (And.intro @a_hold (And.intro @a_tmpR (@a_res1)))))))))))))))))))))))))))))
def EW1 :=
  And.intro @a_res2 (And.intro @a_cellR (And.intro @a_boxR1 (And.intro @a_boxR2 (And.intro @a_res0 (And.intro @a_resM (And.intro @a_consR (And.intro @a_ress (@a_ress0))))))))
def EW :=
  And.intro @EW0 (@EW1)
end Go.Eng
namespace Go.Eng
set_option linter.unusedVariables false
set_option linter.unusedSimpArgs false
set_option linter.unnecessarySimpa false
open Go
set_option linter.unusedVariables false
set_option linter.unusedSimpArgs false
abbrev I (n : Int) : AV := .int .i64 n
abbrev B (b : Bool) : AV := .bool b
abbrev D (n : Nat) : AV := .float .f64 n
def w64 (n : Int) : Int := IntKind.i64.wrap n
def slAV {α : Type} (f : α → List AV) : Option (List α) → AV
  | none => .nils
  | some l => .sl (l.map f)
def intRow (n : Int) : List AV := [I n]
structure Ph where
  on : Bool
  min : Int
  gap : Int
  max : Int
  top : Int
  step : Int
  yellow : Int
  red : Int
  walk : Int
  blinks : Int
  recall : Int
  lock : Bool
  rest : Bool
  deriving Inhabited, DecidableEq
def Ph.cells (p : Ph) : List AV := [B p.on, I p.min, I p.gap, I p.max, I p.top, I p.step, I p.yellow, I p.red, I p.walk, I p.blinks, I p.recall, B p.lock, B p.rest]
structure Det where
  phase : Int
  on : Nat
  off : Nat
  delay : Nat
  extend : Nat
  maxOn : Int
  maxOff : Int
  deriving Inhabited, DecidableEq
def Det.cells (d : Det) : List AV := [I d.phase, D d.on, D d.off, D d.delay, D d.extend, I d.maxOn, I d.maxOff]
structure Rl where
  bars : Int
  clear : Int
  dwell : Int
  exit : Int
  delay : Int
  green : Int
  foot : Int
  hold : Int
  stay : Int
  most : Int
  limit : Int
  deriving Inhabited, DecidableEq
def Rl.cells (r : Rl) : List AV := [I r.bars, I r.clear, I r.dwell, I r.exit, I r.delay, I r.green, I r.foot, I r.hold, I r.stay, I r.most, I r.limit]
structure Bs where
  set : Int
  lock : Int
  deriving Inhabited, DecidableEq
def Bs.cells (b : Bs) : List AV := [I b.set, I b.lock]
structure Gr where
  a : Option (List Int)
  b : Option (List Int)
  deriving Inhabited, DecidableEq
def Gr.cells (g : Gr) : List AV := [slAV intRow g.a, slAV intRow g.b]
structure Tb where
  phases : List Ph
  groups : Option (List Gr)
  conflict : List Int
  detectors : Option (List Det)
  rails : Option (List Rl)
  buses : Option (List Bs)
  extend : Int
  budget : Int
  start : Int
  revert : Int
  least : Int
  flash : List Int
  window : Int
  share : Int
  deriving Inhabited, DecidableEq
def Tb.cells (t : Tb) : List AV :=
  t.phases.flatMap Ph.cells ++ (slAV Gr.cells t.groups :: (t.conflict.map I ++ (slAV Det.cells t.detectors :: slAV Rl.cells t.rails :: slAV Bs.cells t.buses ::
    I t.extend :: I t.budget :: I t.start :: I t.revert :: I t.least :: (t.flash.map I ++ [I t.window, I t.share]))))
structure Tb.Ok (t : Tb) : Prop where
  phases : t.phases.length = 8
  conflict : t.conflict.length = 8
  flash : t.flash.length = 8
  groups : (t.groups.getD []).length ≤ 1048576
  rows : ∀ g ∈ t.groups.getD [], (g.a.getD []).length ≤ 1048576 ∧ (g.b.getD []).length ≤ 1048576
  dets : (t.detectors.getD []).length ≤ 1048576
  rails : (t.rails.getD []).length ≤ 1048576
  buses : (t.buses.getD []).length ≤ 1048576
theorem flatMap_len {α : Type} {f : α → List AV} {z : Nat} (hf : ∀ x, (f x).length = z) : ∀ {l : List α}, (l.flatMap f).length = l.length * z
  | [] => by simp
  | x :: l => by simp [List.flatMap_cons, hf, flatMap_len hf (l := l), Nat.add_mul]; omega
theorem Ph.len (p : Ph) : p.cells.length = 13 := rfl
theorem Tb.len {t : Tb} (h : t.Ok) : t.cells.length = 131 := by
  simp [Tb.cells, flatMap_len Ph.len, h.phases, h.conflict, h.flash]
theorem list_at {α : Type} : ∀ {l : List α} {i : Nat} {x : α}, l[i]? = some x → l = l.take i ++ x :: l.drop (i + 1)
  | [], i, x, h => by simp at h
  | y :: l, 0, x, h => by
    simp at h; subst h; simp
  | y :: l, i + 1, x, h => by
    have := list_at (l := l) (i := i) (x := x) (by simpa using h)
    simp only [List.take_succ_cons, List.drop_succ_cons, List.cons_append]
    exact congrArg (y :: ·) this
theorem flatMap_at {α : Type} {f : α → List AV} {l : List α} {i : Nat} {x : α} (h : l[i]? = some x) : l.flatMap f = (l.take i).flatMap f ++ (f x ++ (l.drop (i + 1)).flatMap f) := by
  conv => lhs; rw [list_at h]
  rw [List.flatMap_append, List.flatMap_cons]
theorem take_len {α : Type} {l : List α} {i : Nat} {x : α} (h : l[i]? = some x) : (l.take i).length = i := by
  have := (List.getElem?_eq_some_iff.1 h).1
  simp; omega
theorem part_mid {pre mid post : List AV} {off z : Nat} (h1 : pre.length = off) (h2 : mid.length = z) : partA (pre ++ (mid ++ post)) off (some z) = some (.agg mid) := by
  subst h1 h2
  have hle : pre.length + mid.length ≤ (pre ++ (mid ++ post)).length := by simp
  simp only [partA, hle, if_true, Option.some.injEq, AV.agg.injEq]
  simp
theorem set_mid {pre mid post ps : List AV} {off : Nat} (h1 : pre.length = off) (h2 : mid.length = ps.length) : setCells (pre ++ (mid ++ post)) off ps = pre ++ (ps ++ post) := by
  subst h1
  simp only [setCells]
  rw [← h2]
  simp [List.drop_append]
theorem set_all {cs ps : List AV} (h : cs.length = ps.length) : setCells cs 0 ps = ps := by
  simp only [setCells, List.take_zero, List.nil_append, Nat.zero_add, ← h, List.drop_length, List.append_nil]
theorem Tb.phase_part {t : Tb} {i : Nat} {p : Ph} (h : t.phases[i]? = some p) : partA t.cells (i * 13) (some 13) = some (.agg p.cells) := by
  unfold Tb.cells
  rw [flatMap_at h, List.append_assoc, List.append_assoc]
  exact part_mid (by rw [flatMap_len Ph.len, take_len h]) rfl
theorem set_at {α : Type} {l : List α} {i : Nat} {x y : α} (h : l[i]? = some x) : l.set i y = l.take i ++ y :: l.drop (i + 1) := by
  have hlt := (List.getElem?_eq_some_iff.1 h).1
  rw [List.set_eq_take_append_cons_drop, if_pos hlt]
theorem Tb.phase_set {t : Tb} {i : Nat} {p q : Ph} (h : t.phases[i]? = some p) : setCells t.cells (i * 13) q.cells = { t with phases := t.phases.set i q }.cells := by
  unfold Tb.cells
  simp only
  rw [set_at h, List.flatMap_append, List.flatMap_cons]
  conv => lhs; rw [flatMap_at h]
  rw [List.append_assoc, List.append_assoc, List.append_assoc, List.append_assoc]
  exact set_mid (by rw [flatMap_len Ph.len, take_len h]) rfl
end Go.Eng
namespace Go.Eng.Z
open Go
set_option linter.defProp false
def o (d : Nat) (x : COp) : CO := ⟨some d, x, none⟩
def p (d : Nat) (x : COp) (g : Nat) : CO := ⟨some d, x, some (g, true)⟩
def q (d : Nat) (x : COp) (g : Nat) : CO := ⟨some d, x, some (g, false)⟩
def n (x : COp) : CO := ⟨none, x, none⟩
def M (d x : Nat) : CO := ⟨some d, .mv (.t x), none⟩
def V (d : Nat) (v : AV) : CO := ⟨some d, .mv (.k v), none⟩
def m (x : Nat) : COp := .mv (.t x)
def v (x : AV) : COp := .mv (.k x)
def l (x : Nat) : COp := .ld (.t x) none
def L (x z : Nat) : COp := .ld (.t x) (some z)
def f (x z : Nat) : COp := .fa (.t x) z
def s (x y z : Nat) : COp := .st (.t x) (.t y) z
def ss (x : Nat) (y : AV) (z : Nat) : COp := .st (.t x) (.k y) z
def A (x y a b : Nat) : COp := .iaA (.t x) (.t y) a b
def a (x y z : Nat) : COp := .iaS (.t x) (.t y) z
def P (x y : Nat) : COp := .pick (.t x) (.t y) (.k (.bool false))
def Q (x y : Nat) : COp := .pick (.t x) (.k (.bool true)) (.t y)
def h (x : Nat) : COp := .lenS (.t x)
def w (x : Nat) : COp := .box (.t x)
def b (g : BinOp) (x y : Nat) : COp := .bin g (.t x) (.t y)
def bb (g : BinOp) (x : Nat) (y : AV) : COp := .bin g (.t x) (.k y)
def e (x y : Nat) : COp := .ext (.t x) y
def i (x : Int) : AV := .int .i64 x
def t (x : Nat) : Opd := .t x
def k (x : AV) : Opd := .k x
def r (x : List CO) (y : CCode) : CCode := .seq (.reg x) y
def R (x : List CO) : CCode := .reg x
def j (x y : CCode) : CCode := .join x y
def c (x : Nat) (y z : CCode) : CCode := .cond (.t x) y z
def u (x : Nat) (y : CCode) : CCode := .block x y
def y : CCode := .ret
def z : CCode := .skip
def T : AV := .bool true
def F : AV := .bool false
def H :=
  And.intro @o.eq_1 (And.intro @p.eq_1 (And.intro @q.eq_1 (And.intro @n.eq_1 (And.intro @M.eq_1 (And.intro @V.eq_1 (And.intro @m.eq_1 (And.intro @v.eq_1 (And.intro @l.eq_1 (And.intro @L.eq_1 (And.intro @f.eq_1 (And.intro @s.eq_1 (And.intro @ss.eq_1 (And.intro @A.eq_1 (And.intro @a.eq_1 (And.intro @P.eq_1 (And.intro @Q.eq_1 (And.intro @h.eq_1 (And.intro @w.eq_1 (And.intro @b.eq_1 (And.intro @bb.eq_1 (And.intro @e.eq_1 (And.intro @i.eq_1 (And.intro @t.eq_1 (And.intro @k.eq_1 (And.intro @r.eq_1 (And.intro @R.eq_1 (And.intro @j.eq_1 (And.intro @c.eq_1 (And.intro @u.eq_1 (And.intro @y.eq_1 (And.intro @z.eq_1 (And.intro @T.eq_1 @F.eq_1))))))))))))))))))))))))))))))))
end Go.Eng.Z
namespace Go.Eng
set_option linter.unusedVariables false
set_option linter.unusedSimpArgs false
set_option linter.unnecessarySimpa false
open Go
section
open Z
set_option linter.unusedVariables false
set_option maxRecDepth 10000
def z11_58867 : List AV := [.int .i64 0,.int .i64 0,.int .i64 0,.int .i64 0,.int .i64 0,.int .i64 0,.int .i64 0,.int .i64 0,.int .i64 0,.int .i64 0,.int .i64 0]
def z131_45020 : List AV := [.bool false,.int .i64 0,.int .i64 0,.int .i64 0,.int .i64 0,.int .i64 0,.int .i64 0,.int .i64 0,.int .i64 0,.int .i64 0,.int .i64 0,.bool false,.bool false,.bool false,.int .i64 0,.int .i64 0,.int .i64 0,.int .i64 0,.int .i64 0,.int .i64 0,.int .i64 0,.int .i64 0,.int .i64 0,.int .i64 0,.bool false,.bool false,.bool false,.int .i64 0,.int .i64 0,.int .i64 0,.int .i64 0,.int .i64 0,.int .i64 0,.int .i64 0,.int .i64 0,.int .i64 0,.int .i64 0,.bool false,.bool false,.bool false,.int .i64 0,.int .i64 0,.int .i64 0,.int .i64 0,.int .i64 0,.int .i64 0,.int .i64 0,.int .i64 0,.int .i64 0,.int .i64 0,.bool false,.bool false,.bool false,.int .i64 0,.int .i64 0,.int .i64 0,.int .i64 0,.int .i64 0,.int .i64 0,.int .i64 0,.int .i64 0,.int .i64 0,.int .i64 0,.bool false,.bool false,.bool false,.int .i64 0,.int .i64 0,.int .i64 0,.int .i64 0,.int .i64 0,.int .i64 0,.int .i64 0,.int .i64 0,.int .i64 0,.int .i64 0,.bool false,.bool false,.bool false,.int .i64 0,.int .i64 0,.int .i64 0,.int .i64 0,.int .i64 0,.int .i64 0,.int .i64 0,.int .i64 0,.int .i64 0,.int .i64 0,.bool false,.bool false,.bool false,.int .i64 0,.int .i64 0,.int .i64 0,.int .i64 0,.int .i64 0,.int .i64 0,.int .i64 0,.int .i64 0,.int .i64 0,.int .i64 0,.bool false,.bool false,.nils,.int .i64 0,.int .i64 0,.int .i64 0,.int .i64 0,.int .i64 0,.int .i64 0,.int .i64 0,.int .i64 0,.nils,.nils,.nils,.int .i64 0,.int .i64 0,.int .i64 0,.int .i64 0,.int .i64 0,.int .i64 0,.int .i64 0,.int .i64 0,.int .i64 0,.int .i64 0,.int .i64 0,.int .i64 0,.int .i64 0,.int .i64 0,.int .i64 0]
def z13_14216 : List AV := [.bool false,.int .i64 0,.int .i64 0,.int .i64 0,.int .i64 0,.int .i64 0,.int .i64 0,.int .i64 0,.int .i64 0,.int .i64 0,.int .i64 0,.bool false,.bool false]
def cc_law00_Table (g0 g1 g2 g3 g4 g5 g6 g7 g8 g9 g10 : Nat) : CFn := ⟨186,[.cell 2 (some 131)],r [o 2 (.alloc z131_45020)] (r [o 3 (.alloc z131_45020)] (r [M 13 0,o 14 (.callp g0 [t 3,t 13]),M 4 14] (j (r [V 5 (i 0)] (u 0 (.loop (j (r [M 15 5,M 16 4,o 17 (b .lss 15 16)] (c 17 z (.exit 0))) (j (u 1 (r [M 20 5,M 21 0,M 22 5,o 23 (.bin .mul (k (i 12)) (t 22)),o 24 (.bin .add (k (i 10)) (t 23)),o 25 (.call g1 [t 21,t 24]),o 26 (f 3 0),o 27 (A 26 20 8 13),n (s 27 25 13)] (R [M 28 5,o 29 (f 3 121),o 30 (A 29 28 8 1),n (ss 30 (i 1) 1)]))) (R [M 18 5,o 19 (bb .add 18 (i 1)),M 5 19])))))) (j (r [V 6 (i 0)] (u 2 (.loop (j (r [M 31 6,M 32 4,o 33 (b .lss 31 32)] (c 33 z (.exit 2))) (j (u 3 (r [V 7 (i 0)] (u 4 (.loop (j (r [M 36 7,M 37 6,o 38 (b .lss 36 37)] (c 38 z (.exit 4))) (j (u 5 (r [o 41 (L 3 131),M 42 6,M 43 7,o 44 (.call g2 [t 41,t 42,t 43]),o 45 (.un .not (t 44)),M 46 45,p 47 (m 0) 46,p 48 (m 6) 46,p 49 (.bin .mul (k (i 8)) (t 48)) 46,p 50 (.bin .add (k (i 110)) (t 49)) 46,p 51 (m 7) 46,p 52 (b .add 50 51) 46,p 53 (.call g3 [t 47,t 52,k (i 9)]) 46,p 54 (bb .neq 53 (i 1)) 46,o 55 (P 46 54)] (c 55 (r [M 56 6,M 57 6,o 58 (f 3 105),o 59 (A 58 57 8 1),o 60 (l 59),M 61 7,o 62 (.call g4 [t 60,t 61]),o 63 (f 3 105),o 64 (A 63 56 8 1),n (s 64 62 1)] (R [M 65 7,M 66 7,o 67 (f 3 105),o 68 (A 67 66 8 1),o 69 (l 68),M 70 6,o 71 (.call g4 [t 69,t 70]),o 72 (f 3 105),o 73 (A 72 65 8 1),n (s 73 71 1)])) z))) (R [M 39 7,o 40 (bb .add 39 (i 1)),M 7 40]))))))) (R [M 34 6,o 35 (bb .add 34 (i 1)),M 6 35])))))) (j (r [M 74 0,M 75 4,o 76 (bb .add 75 (i 1)),o 77 (.call g3 [t 74,k (i 174),t 76]),M 8 77] (r [M 78 8,M 79 4,o 80 (b .lss 78 79)] (c 80 (R [M 81 8,o 82 (f 3 121),o 83 (A 82 81 8 1),n (ss 83 (i 2) 1)]) z))) (j (r [M 84 0,o 85 (.call g3 [t 84,k (i 175),k (i 9)]),M 9 85] (u 6 (.loop (j (r [M 86 9,o 87 (bb .gtr 86 (i 0))] (c 87 z (.exit 6))) (j (u 7 (R [o 90 (f 3 113),o 91 (l 90),M 92 0,M 93 9,o 94 (.bin .mul (k (i 8)) (t 93)),o 95 (.bin .add (k (i 180)) (t 94)),M 96 4,o 97 (.call g5 [t 92,t 95,t 96]),o 98 (.bsl g6 7 [t 97]),o 99 (.app g6 7 56 (t 91) (t 98)),o 100 (f 3 113),n (s 100 99 1)])) (R [M 88 9,o 89 (bb .sub 88 (i 1)),M 9 89])))))) (j (r [M 101 0,o 102 (.call g3 [t 101,k (i 176),k (i 4)]),o 103 (bb .rem 102 (i 3)),M 10 103] (u 8 (.loop (j (r [M 104 10,o 105 (bb .gtr 104 (i 0))] (c 105 z (.exit 8))) (j (u 9 (R [o 108 (f 3 114),o 109 (l 108),o 110 (L 3 131),M 111 0,M 112 10,o 113 (.bin .mul (k (i 16)) (t 112)),o 114 (.bin .add (k (i 260)) (t 113)),M 115 4,o 116 (.call g7 [t 110,t 111,t 114,t 115]),o 117 (.bsl g8 11 [t 116]),o 118 (.app g8 11 88 (t 109) (t 117)),o 119 (f 3 114),n (s 119 118 1)])) (R [M 106 10,o 107 (bb .sub 106 (i 1)),M 10 107])))))) (j (r [M 120 0,o 121 (.call g3 [t 120,k (i 177),k (i 3)]),M 11 121] (u 10 (.loop (j (r [M 122 11,o 123 (bb .gtr 122 (i 0))] (c 123 z (.exit 10))) (j (u 11 (R [o 126 (f 3 115),o 127 (l 126),M 128 0,M 129 11,o 130 (.bin .mul (k (i 2)) (t 129)),o 131 (.bin .add (k (i 330)) (t 130)),o 132 (.call g3 [t 128,t 131,k (i 256)]),M 133 4,o 134 (.cvII .u64 (t 133)),o 135 (.bin .shl (k (i 1)) (t 134)),o 136 (bb .sub 135 (i 1)),o 137 (b .and 132 136),o 138 (.mm true [k (i 1),t 137]),M 139 0,M 140 11,o 141 (.bin .mul (k (i 2)) (t 140)),o 142 (.bin .add (k (i 331)) (t 141)),o 143 (.call g3 [t 139,t 142,k (i 30)]),o 144 (.bin .add (k (i 1)) (t 143)),o 145 (.build [i 0,i 0] [(0,1,t 138),(1,1,t 144)]),o 146 (.bsl g9 2 [t 145]),o 147 (.app g9 2 16 (t 127) (t 146)),o 148 (f 3 115),n (s 148 147 1)])) (R [M 124 11,o 125 (bb .sub 124 (i 1)),M 11 125])))))) (r [M 149 0,o 150 (.call g3 [t 149,k (i 178),k (i 12)]),o 151 (f 3 116),n (s 151 150 1)] (r [M 152 0,o 153 (.call g3 [t 152,k (i 179),k (i 40)]),o 154 (f 3 117),n (s 154 153 1)] (r [M 155 0,o 156 (.call g3 [t 155,k (i 180),k (i 8)]),o 157 (f 3 118),n (s 157 156 1)] (r [M 158 0,o 159 (.call g3 [t 158,k (i 181),k (i 8)]),o 160 (f 3 119),n (s 160 159 1)] (r [M 161 0,o 162 (.call g3 [t 161,k (i 182),k (i 12)]),o 163 (f 3 120),n (s 163 162 1)] (r [M 164 0,o 165 (.call g3 [t 164,k (i 183),k (i 4)]),o 166 (f 3 130),n (s 166 165 1)] (j (r [V 12 (i 0)] (u 12 (.loop (j (r [M 167 12,M 168 4,o 169 (b .lss 167 168),M 170 169,p 171 (f 3 114) 170,p 172 (l 171) 170,p 173 (h 172) 170,p 174 (bb .gtr 173 (i 0)) 170,o 175 (P 170 174)] (c 175 z (.exit 12))) (j (u 13 (R [o 178 (f 3 129),o 179 (l 178),o 180 (L 3 131),M 181 12,o 182 (.call g10 [t 180,t 181]),o 183 (.mm true [t 179,t 182]),o 184 (f 3 129),n (s 184 183 1)])) (R [M 176 12,o 177 (bb .add 176 (i 1)),M 12 177])))))) (r [o 185 (L 3 131),n (s 2 185 131)] y))))))))))))))))⟩
def cc_ref08_On (g0 g1 : Nat) : CFn := ⟨20,[.tmp 2],r [o 1 (w 0),V 2 (i 0)] (r [V 3 .nils] (j (r [V 4 (i 0)] (u 0 (.loop (j (r [M 5 4,o 6 (bb .lss 5 (i 8))] (c 6 z (.exit 0))) (j (u 1 (r [M 9 4,o 10 (f 1 0),o 11 (A 10 9 8 13),o 12 (f 11 0),o 13 (l 12)] (c 13 (R [M 14 3,M 15 4,o 16 (.bsl g0 1 [t 15]),o 17 (.app g0 1 8 (t 14) (t 16)),M 3 17]) z))) (R [M 7 4,o 8 (bb .add 7 (i 1)),M 4 8])))))) (r [M 18 3,o 19 (.call g1 [t 18]),M 2 19] y)))⟩
def cc_law00_Place : CFn := ⟨15,[.tmp 4],r [V 4 (i 0)] (r [M 6 0,M 7 1,o 8 (b .rem 6 7),M 5 8] (j (r [M 9 5,o 10 (bb .lss 9 (i 0))] (c 10 (R [M 11 5,M 12 1,o 13 (b .add 11 12),M 5 13]) z)) (r [M 14 5,M 4 14] y)))⟩
def cc_ref01_Of : CFn := ⟨28,[.tmp 2],r [V 2 (i 0)] (r [V 3 (i 0)] (j (r [V 4 (i 0)] (u 0 (.loop (j (r [M 6 4,o 7 (bb .lss 6 (i 8))] (c 7 z (.exit 0))) (j (u 1 (r [V 5 (i 0)] (u 2 (.loop (j (r [M 10 5,M 11 0,o 12 (h 11),o 13 (b .lss 10 12)] (c 13 z (.exit 2))) (j (u 3 (r [M 16 0,M 17 5,o 18 (a 16 17 1),o 19 (l 18),M 20 4,o 21 (b .eql 19 20)] (c 21 (r [M 22 3,M 23 4,o 24 (.cvII .u64 (t 23)),o 25 (.bin .shl (k (i 1)) (t 24)),o 26 (b .or 22 25),M 3 26] (.exit 2)) z))) (R [M 14 5,o 15 (bb .add 14 (i 1)),M 5 15]))))))) (R [M 8 4,o 9 (bb .add 8 (i 1)),M 4 9])))))) (r [M 27 3,M 2 27] y)))⟩
def cc_ref01_Has : CFn := ⟨19,[.tmp 4],r [V 4 (F)] (r [M 5 1,o 6 (bb .geq 5 (i 0)),M 7 6,p 8 (m 1) 7,p 9 (bb .lss 8 (i 8)) 7,o 10 (P 7 9),M 11 10,p 12 (m 0) 11,p 13 (m 1) 11,p 14 (.cvII .u64 (t 13)) 11,p 15 (b .shr 12 14) 11,p 16 (bb .and 15 (i 1)) 11,p 17 (bb .eql 16 (i 1)) 11,o 18 (P 11 17),M 4 18] y)⟩
def cc_law00_rows (g0 g1 g2 : Nat) : CFn := ⟨78,[.tmp 4],r [V 4 (i 0)] (r [M 12 1,o 13 (.call g0 [t 12,k (i 0),k (i 3)]),o 14 (.bin .add (k (i 1)) (t 13)),M 5 14] (r [V 6 (i 0)] (j (r [V 7 (i 0)] (u 0 (.loop (j (r [M 15 7,M 16 5,o 17 (b .lss 15 16)] (c 17 z (.exit 0))) (j (u 1 (r [o 8 (.alloc [.nils,.nils])] (j (r [V 9 (i 0)] (u 2 (.loop (j (r [M 20 9,o 21 (bb .lss 20 (i 2))] (c 21 z (.exit 2))) (j (u 3 (r [M 24 1,M 25 7,o 26 (.bin .mul (k (i 2)) (t 25)),o 27 (.bin .add (k (i 1)) (t 26)),M 28 9,o 29 (b .add 27 28),o 30 (.call g0 [t 24,t 29,k (i 3)]),M 10 30] (j (r [M 31 9,o 32 (bb .eql 31 (i 1)),M 33 32,p 34 (m 10) 33,p 35 (bb .eql 34 (i 0)) 33,o 36 (P 33 35),M 37 36,p 38 (.iaA (t 8) (k (i 0)) 2 1) 37,p 39 (l 38) 37,p 40 (h 39) 37,p 41 (bb .eql 40 (i 0)) 37,o 42 (P 37 41)] (c 42 (R [V 10 (i 1)]) z)) (r [V 11 (i 0)] (u 4 (.loop (j (r [M 43 11,M 44 10,o 45 (b .lss 43 44),M 46 45,p 47 (m 6) 46,p 48 (m 5) 46,p 49 (bb .sub 48 (i 1)) 46,p 50 (m 7) 46,p 51 (b .sub 49 50) 46,p 52 (.bin .sub (k (i 8)) (t 51)) 46,p 53 (b .lss 47 52) 46,o 54 (P 46 53)] (c 54 z (.exit 4))) (j (u 5 (r [M 57 9,M 58 9,o 59 (A 8 58 2 1),o 60 (l 59),M 61 6,o 62 (.bsl g1 1 [t 61]),o 63 (.app g1 1 8 (t 60) (t 62)),o 64 (A 8 57 2 1),n (s 64 63 1)] (R [M 65 6,o 66 (bb .add 65 (i 1)),M 6 66]))) (R [M 55 11,o 56 (bb .add 55 (i 1)),M 11 56]))))))))) (R [M 22 9,o 23 (bb .add 22 (i 1)),M 9 23])))))) (R [M 67 0,M 68 0,o 69 (.nc (t 68)),o 70 (f 69 104),o 71 (l 70),o 72 (L 8 2),o 73 (.bsl g2 2 [t 72]),o 74 (.app g2 2 48 (t 71) (t 73)),o 75 (.nc (t 67)),o 76 (f 75 104),n (s 76 74 1)])))) (R [M 18 7,o 19 (bb .add 18 (i 1)),M 7 19])))))) (r [M 77 6,M 4 77] y))))⟩
def cc_law00_phase (g0 : Nat) : CFn := ⟨95,[.cell 4 (some 13)],r [o 4 (.alloc z13_14216)] (r [M 6 0,M 7 1,o 8 (.call g0 [t 6,t 7,k (i 12)]),o 9 (.bin .add (k (i 1)) (t 8)),M 10 0,M 11 1,o 12 (bb .add 11 (i 1)),o 13 (.call g0 [t 10,t 12,k (i 9)]),M 14 0,M 15 1,o 16 (bb .add 15 (i 2)),o 17 (.call g0 [t 14,t 16,k (i 6)]),o 18 (.bin .add (k (i 1)) (t 17)),M 19 0,M 20 1,o 21 (bb .add 20 (i 3)),o 22 (.call g0 [t 19,t 21,k (i 4)]),o 23 (.bin .add (k (i 10)) (t 22)),M 24 0,M 25 1,o 26 (bb .add 25 (i 4)),o 27 (.call g0 [t 24,t 26,k (i 5)]),o 28 (.build z13_14216 [(0,1,k (T)),(1,1,t 9),(2,1,t 13),(5,1,t 18),(6,1,t 23),(7,1,t 27)]),o 5 (.alloc z13_14216),n (s 5 28 13)] (r [o 29 (f 5 1),o 30 (l 29),M 31 0,M 32 1,o 33 (bb .add 32 (i 5)),o 34 (.call g0 [t 31,t 33,k (i 25)]),o 35 (b .add 30 34),o 36 (f 5 3),n (s 36 35 1)] (r [o 37 (f 5 3),o 38 (l 37),M 39 0,M 40 1,o 41 (bb .add 40 (i 6)),o 42 (.call g0 [t 39,t 41,k (i 15)]),o 43 (b .add 38 42),o 44 (f 5 4),n (s 44 43 1)] (j (r [M 45 0,M 46 1,o 47 (bb .add 46 (i 7)),o 48 (.call g0 [t 45,t 47,k (i 2)]),o 49 (bb .eql 48 (i 1))] (c 49 (r [M 50 0,M 51 1,o 52 (bb .add 51 (i 8)),o 53 (.call g0 [t 50,t 52,k (i 10)]),o 54 (.bin .add (k (i 1)) (t 53)),o 55 (f 5 8),n (s 55 54 1)] (R [M 56 0,M 57 1,o 58 (bb .add 57 (i 8)),o 59 (.call g0 [t 56,t 58,k (i 97)]),o 60 (bb .quo 59 (i 10)),o 61 (.bin .add (k (i 1)) (t 60)),o 62 (f 5 9),n (s 62 61 1)])) z)) (r [M 63 0,M 64 1,o 65 (bb .add 64 (i 9)),o 66 (.call g0 [t 63,t 65,k (i 7)]),o 67 (f 5 10),n (s 67 66 1)] (j (r [o 68 (f 5 10),o 69 (l 68),o 70 (bb .gtr 69 (i 3)),M 71 70,q 72 (f 5 10) 71,q 73 (l 72) 71,q 74 (bb .eql 73 (i 3)) 71,q 75 (m 74) 71,p 76 (f 5 8) 75,p 77 (l 76) 75,p 78 (bb .eql 77 (i 0)) 75,q 79 (P 75 78) 71,o 80 (Q 71 79)] (c 80 (R [o 81 (f 5 10),n (ss 81 (i 0) 1)]) z)) (r [M 82 0,M 83 1,o 84 (bb .add 83 (i 10)),o 85 (.call g0 [t 82,t 84,k (i 3)]),o 86 (bb .gtr 85 (i 0)),o 87 (f 5 11),n (s 87 86 1)] (r [M 88 0,M 89 1,o 90 (bb .add 89 (i 11)),o 91 (.call g0 [t 88,t 90,k (i 4)]),o 92 (bb .eql 91 (i 1)),o 93 (f 5 12),n (s 93 92 1)] (r [o 94 (L 5 13),n (s 4 94 13)] y)))))))))⟩
def cc_ref08_Beside (g0 : Nat) : CFn := ⟨41,[.tmp 6],r [o 3 (w 0),V 6 (F)] (r [o 12 (L 3 131),M 13 1,o 14 (.call g0 [t 12,t 13]),M 11 14,o 15 (e 11 0),o 16 (e 11 1),o 7 (.alloc [i 0,i 0,i 0,i 0]),n (s 7 15 4),M 8 16] (r [o 18 (L 3 131),M 19 2,o 20 (.call g0 [t 18,t 19]),M 17 20,o 21 (e 17 0),o 22 (e 17 1),o 9 (.alloc [i 0,i 0,i 0,i 0]),n (s 9 21 4),M 10 22] (r [M 23 8,M 24 23,p 25 (m 10) 24,o 26 (P 24 25),M 27 26,p 28 (f 7 0) 27,p 29 (l 28) 27,p 30 (f 9 0) 27,p 31 (l 30) 27,p 32 (b .eql 29 31) 27,o 33 (P 27 32),M 34 33,p 35 (f 7 1) 34,p 36 (l 35) 34,p 37 (f 9 1) 34,p 38 (l 37) 34,p 39 (b .neq 36 38) 34,o 40 (P 34 39),M 6 40] y)))⟩
def cc_law00_from (g0 g1 : Nat) : CFn := ⟨12,[.tmp 6],r [V 6 (i 0)] (r [M 7 0,M 8 1,o 9 (.call g0 [t 7,t 8]),M 10 2,o 11 (.call g1 [t 9,t 10]),M 6 11] y)⟩
def cc_ref01_With (g0 g1 g2 : Nat) : CFn := ⟨11,[.tmp 4],r [V 4 (i 0)] (r [M 5 0,o 6 (.call g0 [t 5]),M 7 1,o 8 (.bsl g1 1 [t 7]),o 9 (.app g1 1 8 (t 6) (t 8)),o 10 (.call g2 [t 9]),M 4 10] y)⟩
def cc_law00_detector (g0 : Nat) : CFn := ⟨66,[.cell 6 (some 7)],r [o 6 (.alloc [i 0,.float .f64 0,.float .f64 0,.float .f64 0,.float .f64 0,i 0,i 0])] (r [M 8 0,M 9 1,M 10 2,o 11 (.call g0 [t 8,t 9,t 10]),o 12 (.build [.float .f64 0,.float .f64 0,.float .f64 0,.float .f64 0] [(0,1,k (.float .f64 4617315517961601024)),(1,1,k (.float .f64 4621819117588971520)),(2,1,k (.float .f64 4607182418800017408)),(3,1,k (.float .f64 4602678819172646912))]),M 13 0,M 14 1,o 15 (bb .add 14 (i 1)),o 16 (.call g0 [t 13,t 15,k (i 4)]),o 17 (.ixA (t 12) (t 16) 4 1 none),o 18 (.build [i 0,.float .f64 0,.float .f64 0,.float .f64 0,.float .f64 0,i 0,i 0] [(0,1,t 11),(1,1,t 17)]),o 7 (.alloc [i 0,.float .f64 0,.float .f64 0,.float .f64 0,.float .f64 0,i 0,i 0]),n (s 7 18 7)] (r [o 19 (f 7 1),o 20 (l 19),o 21 (.build [.float .f64 0,.float .f64 0,.float .f64 0] [(0,1,k (.float .f64 4602678819172646912)),(1,1,k (.float .f64 4607182418800017408)),(2,1,k (.float .f64 4598175219545276416))]),M 22 0,M 23 1,o 24 (bb .add 23 (i 2)),o 25 (.call g0 [t 22,t 24,k (i 3)]),o 26 (.ixA (t 21) (t 25) 3 1 none),o 27 (b .mul 20 26),o 28 (f 7 2),n (s 28 27 1)] (r [M 29 0,M 30 1,o 31 (bb .add 30 (i 3)),o 32 (.call g0 [t 29,t 31,k (i 4)]),o 33 (.cvIF .f64 (t 32)),o 34 (bb .quo 33 (.float .f64 4621819117588971520)),o 35 (f 7 3),n (s 35 34 1)] (r [M 36 0,M 37 1,o 38 (bb .add 37 (i 4)),o 39 (.call g0 [t 36,t 38,k (i 6)]),o 40 (.cvIF .f64 (t 39)),o 41 (bb .quo 40 (.float .f64 4621819117588971520)),o 42 (f 7 4),n (s 42 41 1)] (j (r [M 43 0,M 44 1,o 45 (bb .add 44 (i 5)),o 46 (.call g0 [t 43,t 45,k (i 3)]),o 47 (bb .eql 46 (i 1))] (c 47 (R [M 48 0,M 49 1,o 50 (bb .add 49 (i 6)),o 51 (.call g0 [t 48,t 50,k (i 60)]),o 52 (.bin .add (k (i 20)) (t 51)),o 53 (f 7 5),n (s 53 52 1)]) z)) (j (r [M 54 0,M 55 1,o 56 (bb .add 55 (i 5)),o 57 (.call g0 [t 54,t 56,k (i 9)]),o 58 (bb .eql 57 (i 2))] (c 58 (R [M 59 0,M 60 1,o 61 (bb .add 60 (i 7)),o 62 (.call g0 [t 59,t 61,k (i 300)]),o 63 (.bin .add (k (i 60)) (t 62)),o 64 (f 7 6),n (s 64 63 1)]) z)) (r [o 65 (L 7 7),n (s 6 65 7)] y)))))))⟩
def cc_law00_rail (g0 g1 : Nat) : CFn := ⟨119,[.cell 8 (some 11)],r [o 4 (w 0),o 8 (.alloc z11_58867)] (r [o 11 (L 4 131),M 12 1,M 13 2,M 14 3,o 15 (.call g0 [t 12,t 13,t 14]),M 16 1,M 17 2,o 18 (bb .add 17 (i 1)),M 19 3,o 20 (.call g0 [t 16,t 18,t 19]),o 21 (.call g1 [t 11,t 15,t 20]),o 22 (L 4 131),M 23 1,M 24 2,o 25 (bb .add 24 (i 2)),M 26 3,o 27 (.call g0 [t 23,t 25,t 26]),M 28 1,M 29 2,o 30 (bb .add 29 (i 3)),M 31 3,o 32 (.call g0 [t 28,t 30,t 31]),o 33 (.call g1 [t 22,t 27,t 32]),o 34 (.build z11_58867 [(2,1,t 21),(3,1,t 33)]),o 9 (.alloc z11_58867),n (s 9 34 11)] (j (r [M 35 1,M 36 2,o 37 (bb .add 36 (i 4)),M 38 3,o 39 (bb .add 38 (i 1)),o 40 (.call g0 [t 35,t 37,t 39]),M 10 40] (r [M 41 10,M 42 3,o 43 (b .lss 41 42)] (c 43 (r [o 44 (L 4 131),M 45 10,M 46 1,M 47 2,o 48 (bb .add 47 (i 5)),M 49 3,o 50 (.call g0 [t 46,t 48,t 49]),o 51 (.call g1 [t 44,t 45,t 50]),o 52 (f 9 1),n (s 52 51 1)] (R [M 53 1,M 54 2,o 55 (bb .add 54 (i 6)),o 56 (.call g0 [t 53,t 55,k (i 10)]),o 57 (.bin .add (k (i 1)) (t 56)),o 58 (f 9 7),n (s 58 57 1)])) z))) (r [M 59 1,M 60 2,o 61 (bb .add 60 (i 7)),o 62 (.call g0 [t 59,t 61,k (i 256)]),M 63 3,o 64 (.cvII .u64 (t 63)),o 65 (.bin .shl (k (i 1)) (t 64)),o 66 (bb .sub 65 (i 1)),o 67 (b .and 62 66),o 68 (f 9 2),o 69 (l 68),o 70 (b .andNot 67 69),o 71 (f 9 0),n (s 71 70 1)] (r [M 72 1,M 73 2,o 74 (bb .add 73 (i 8)),o 75 (.call g0 [t 72,t 74,k (i 4)]),o 76 (f 9 4),n (s 76 75 1)] (r [M 77 1,M 78 2,o 79 (bb .add 78 (i 9)),o 80 (.call g0 [t 77,t 79,k (i 6)]),o 81 (.bin .add (k (i 1)) (t 80)),o 82 (f 9 5),n (s 82 81 1)] (r [M 83 1,M 84 2,o 85 (bb .add 84 (i 10)),o 86 (.call g0 [t 83,t 85,k (i 6)]),o 87 (f 9 6),n (s 87 86 1)] (r [M 88 1,M 89 2,o 90 (bb .add 89 (i 11)),o 91 (.call g0 [t 88,t 90,k (i 15)]),o 92 (.bin .add (k (i 1)) (t 91)),o 93 (f 9 8),n (s 93 92 1)] (j (r [M 94 1,M 95 2,o 96 (bb .add 95 (i 12)),o 97 (.call g0 [t 94,t 96,k (i 3)]),o 98 (bb .eql 97 (i 1))] (c 98 (R [o 99 (f 9 8),o 100 (l 99),M 101 1,M 102 2,o 103 (bb .add 102 (i 13)),o 104 (.call g0 [t 101,t 103,k (i 30)]),o 105 (b .add 100 104),o 106 (f 9 9),n (s 106 105 1)]) z)) (r [o 107 (f 9 4),o 108 (l 107),o 109 (bb .add 108 (i 1)),o 110 (.build [i 0,i 0,i 0] [(0,1,k (i 10000)),(1,1,k (i 400)),(2,1,k (i 20))]),M 111 1,M 112 2,o 113 (bb .add 112 (i 14)),o 114 (.call g0 [t 111,t 113,k (i 3)]),o 115 (.ixA (t 110) (t 114) 3 1 none),o 116 (b .add 109 115),o 117 (f 9 10),n (s 117 116 1)] (r [o 118 (L 9 11),n (s 8 118 11)] y))))))))))⟩
def cc_ref08_Wait (g0 g1 g2 g3 g4 : Nat) : CFn := ⟨32,[.tmp 4],r [o 2 (w 0),V 4 (i 0)] (r [o 6 (L 2 131),M 7 1,o 8 (.call g0 [t 6,t 7]),M 5 8] (j (r [M 9 5,o 10 (bb .eql 9 (i 0)),M 11 10,q 12 (f 2 114) 11,q 13 (l 12) 11,q 14 (h 13) 11,q 15 (bb .eql 14 (i 0)) 11,o 16 (Q 11 15)] (c 16 (r [M 17 5,M 4 17] y) z)) (r [o 18 (f 2 130),o 19 (l 18),o 20 (.bsl g1 1 [t 19,k (i 1)]),o 21 (.call g2 [t 20]),o 22 (L 2 131),o 23 (.call g3 [t 22]),M 24 5,o 25 (.bsl g1 1 [t 23,t 24,k (i 2)]),o 26 (.call g2 [t 25]),o 27 (.call g4 [t 21,t 26]),o 28 (f 2 130),o 29 (l 28),o 30 (.bsl g1 1 [t 27,t 29]),o 31 (.call g2 [t 30]),M 4 31] y)))⟩
def cc_set_Has (g0 : Nat) : CFn := ⟨10,[.tmp 4],r [V 4 (F)] (r [M 5 0,M 6 1,o 7 (.call g0 [t 6]),o 8 (b .and 5 7),o 9 (bb .neq 8 (i 0)),M 4 9] y)⟩
def cc_ref08_Where (g0 : Nat) : CFn := ⟨28,[.cell 4 (some 4),.tmp 5],r [o 2 (w 0),o 4 (.alloc [i 0,i 0,i 0,i 0]),V 5 (F)] (r [o 8 (L 2 131),o 9 (.call g0 [t 8]),M 6 9] (j (r [V 7 (i 0)] (u 0 (.loop (j (r [M 10 7,M 11 6,o 12 (h 11),o 13 (b .lss 10 12)] (c 13 z (.exit 0))) (j (u 1 (r [M 16 6,M 17 7,o 18 (a 16 17 4),o 19 (f 18 3),o 20 (l 19),M 21 1,o 22 (b .eql 20 21)] (c 22 (r [M 23 6,M 24 7,o 25 (a 23 24 4),o 26 (L 25 4),n (s 4 26 4),V 5 (T)] y) z))) (R [M 14 7,o 15 (bb .add 14 (i 1)),M 7 15])))))) (r [o 27 (.build [i 0,i 0,i 0,i 0] []),n (s 4 27 4),V 5 (F)] y)))⟩
def cc_law00_At : CFn := ⟨17,[.tmp 4],r [V 4 (i 0)] (j (r [M 5 1,o 6 (bb .lss 5 (i 0)),M 7 6,q 8 (m 1) 7,q 9 (m 0) 7,q 10 (h 9) 7,q 11 (b .geq 8 10) 7,o 12 (Q 7 11)] (c 12 (r [V 4 (i 0)] y) z)) (r [M 13 0,M 14 1,o 15 (a 13 14 1),o 16 (l 15),M 4 16] y))⟩
def cc_ref01_List (g0 g1 : Nat) : CFn := ⟨17,[.tmp 2],r [V 2 .nils] (r [V 3 .nils] (j (r [V 4 (i 0)] (u 0 (.loop (j (r [M 5 4,o 6 (bb .lss 5 (i 8))] (c 6 z (.exit 0))) (j (u 1 (r [M 9 0,M 10 4,o 11 (.call g0 [t 9,t 10])] (c 11 (R [M 12 3,M 13 4,o 14 (.bsl g1 1 [t 13]),o 15 (.app g1 1 8 (t 12) (t 14)),M 3 15]) z))) (R [M 7 4,o 8 (bb .add 7 (i 1)),M 4 8])))))) (r [M 16 3,M 2 16] y)))⟩
def cc_law00_with (g0 g1 g2 g3 : Nat) : CFn := ⟨19,[.tmp 6],r [o 3 (w 0),V 6 (i 0)] (r [M 8 1,o 9 (.bsl g0 1 [t 8]),o 10 (.call g1 [t 9]),M 7 10] (j (r [o 11 (L 3 131),M 12 1,M 13 2,o 14 (.call g2 [t 11,t 12,t 13])] (c 14 (R [M 15 7,M 16 2,o 17 (.call g3 [t 15,t 16]),M 7 17]) z)) (r [M 18 7,M 6 18] y)))⟩
def cc_ref08_Free (g0 g1 g2 g3 g4 g5 : Nat) : CFn := ⟨44,[.tmp 4],r [o 2 (w 0),V 4 (i 0)] (r [o 10 (L 2 131),M 11 1,o 12 (.call g0 [t 10,t 11]),M 9 12,o 13 (e 9 0),o 14 (e 9 1),o 5 (.alloc [i 0,i 0,i 0,i 0]),n (s 5 13 4),M 6 14] (j (r [M 15 6,o 16 (.un .not (t 15)),M 17 16,q 18 (L 2 131) 17,q 19 (.call g1 [t 18]) 17,q 20 (m 1) 17,q 21 (.call g2 [t 19,t 20]) 17,q 22 (.un .not (t 21)) 17,o 23 (Q 17 22)] (c 23 (r [V 4 (i 0)] y) z)) (r [o 24 (L 2 131),o 25 (f 5 0),o 26 (l 25),o 27 (.call g3 [t 24,t 26]),o 28 (.bsl g4 1 [t 27]),M 7 28] (j (r [V 8 (i 0)] (u 0 (.loop (j (r [M 29 8,o 30 (f 2 104),o 31 (l 30),o 32 (h 31),o 33 (b .lss 29 32)] (c 33 z (.exit 0))) (j (u 1 (R [M 36 7,o 37 (L 2 131),M 38 8,o 39 (.call g3 [t 37,t 38]),o 40 (.bsl g4 1 [t 39]),o 41 (.app g4 1 8 (t 36) (t 40)),M 7 41])) (R [M 34 8,o 35 (bb .add 34 (i 1)),M 8 35])))))) (r [M 42 7,o 43 (.call g5 [t 42]),M 4 43] y)))))⟩
def cc_ref08_sum (g0 : Nat) : CFn := ⟨5,[.tmp 2],r [V 2 (i 0)] (r [M 3 0,o 4 (.call g0 [t 3]),M 2 4] y)⟩
def cc_ref01_Mul (g0 : Nat) : CFn := ⟨11,[.tmp 4],r [V 4 (i 0)] (r [M 5 0,o 6 (.call g0 [t 5]),M 7 1,o 8 (.call g0 [t 7]),o 9 (b .mul 6 8),o 10 (.call g0 [t 9]),M 4 10] y)⟩
def cc_ref08_Over (g0 g1 g2 g3 g4 g5 g6 g7 : Nat) : CFn := ⟨73,[.tmp 2],r [o 1 (w 0),V 2 (i 0)] (j (r [o 8 (f 1 114),o 9 (l 8),o 10 (h 9),o 11 (bb .eql 10 (i 0))] (c 11 (r [V 2 (i 0)] y) z)) (r [V 3 .nils,V 4 .nils] (j (r [V 5 (i 0)] (u 0 (.loop (j (r [M 12 5,o 13 (f 1 114),o 14 (l 13),o 15 (h 14),o 16 (b .lss 12 15)] (c 16 z (.exit 0))) (j (u 1 (R [M 19 3,o 20 (L 1 131),M 21 5,o 22 (.call g0 [t 20,t 21]),o 23 (f 1 114),o 24 (l 23),M 25 5,o 26 (a 24 25 11),o 27 (f 26 8),o 28 (l 27),o 29 (.bsl g1 1 [t 22,t 28]),o 30 (.call g2 [t 29]),o 31 (.bsl g1 1 [t 30]),o 32 (.app g1 1 8 (t 19) (t 31)),M 3 32])) (R [M 17 5,o 18 (bb .add 17 (i 1)),M 5 18])))))) (j (r [o 33 (L 1 131),o 34 (.call g3 [t 33]),o 35 (.call g4 [t 34]),o 36 (h 35),V 37 (i 0)] (u 2 (.loop (r [o 38 (b .lss 37 36)] (j (c 38 z (.exit 2)) (j (u 3 (r [o 39 (a 35 37 1),o 40 (l 39),M 7 40] (R [M 41 4,M 42 7,o 43 (f 1 0),o 44 (A 43 42 8 13),o 45 (f 44 1),o 46 (l 45),o 47 (.call g5 [t 46]),M 48 7,o 49 (f 1 0),o 50 (A 49 48 8 13),o 51 (f 50 8),o 52 (l 51),M 53 7,o 54 (f 1 0),o 55 (A 54 53 8 13),o 56 (f 55 9),o 57 (l 56),o 58 (.bsl g1 1 [t 52,t 57]),o 59 (.call g2 [t 58]),o 60 (.bsl g1 1 [t 47,t 59]),o 61 (.app g1 1 8 (t 41) (t 60)),M 4 61]))) (R [o 62 (bb .add 37 (i 1)),M 37 62]))))))) (r [M 63 3,o 64 (.call g6 [t 63]),M 65 4,o 66 (.call g6 [t 65]),o 67 (L 1 131),o 68 (.call g7 [t 67]),o 69 (f 1 119),o 70 (l 69),o 71 (.bsl g1 1 [t 64,t 66,t 68,t 70,k (i 30)]),o 72 (.call g2 [t 71]),M 2 72] y)))))⟩
def cc_set_bit : CFn := ⟨11,[.tmp 2],r [V 2 (i 0)] (j (r [M 3 0,o 4 (bb .lss 3 (i 0)),M 5 4,q 6 (m 0) 5,q 7 (bb .geq 6 (i 8)) 5,o 8 (Q 5 7)] (c 8 (r [V 2 (i 0)] y) z)) (r [M 9 0,o 10 (.bin .shl (k (i 1)) (t 9)),M 2 10] y))⟩
def cc_set_With (g0 : Nat) : CFn := ⟨10,[.tmp 4],r [V 4 (i 0)] (r [M 5 0,o 6 (bb .and 5 (i 255)),M 7 1,o 8 (.call g0 [t 7]),o 9 (b .or 6 8),M 4 9] y)⟩
def cc_ref08_Spots (g0 : Nat) : CFn := ⟨56,[.tmp 2],r [o 1 (w 0),V 2 .nils] (r [V 3 .nils] (j (r [V 4 (i 0)] (u 0 (.loop (j (r [M 8 4,o 9 (f 1 104),o 10 (l 9),o 11 (h 10),o 12 (b .lss 8 11)] (c 12 z (.exit 0))) (j (u 1 (r [V 5 (i 0)] (u 2 (.loop (j (r [M 15 5,o 16 (bb .lss 15 (i 2))] (c 16 z (.exit 2))) (j (u 3 (r [V 6 (i 0)] (u 4 (.loop (j (r [M 19 6,o 20 (f 1 104),o 21 (l 20),M 22 4,M 23 5,o 24 (a 21 22 2),o 25 (A 24 23 2 1),o 26 (l 25),o 27 (h 26),o 28 (b .lss 19 27)] (c 28 z (.exit 4))) (j (u 5 (r [o 31 (f 1 104),o 32 (l 31),M 33 4,M 34 5,o 35 (a 32 33 2),o 36 (A 35 34 2 1),o 37 (l 36),M 38 6,o 39 (a 37 38 1),o 40 (l 39),M 7 40] (r [M 41 7,o 42 (bb .geq 41 (i 0)),M 43 42,p 44 (m 7) 43,p 45 (bb .lss 44 (i 8)) 43,o 46 (P 43 45)] (c 46 (R [M 47 3,M 48 4,M 49 5,M 50 6,M 51 7,o 52 (.build [i 0,i 0,i 0,i 0] [(0,1,t 48),(1,1,t 49),(2,1,t 50),(3,1,t 51)]),o 53 (.bsl g0 4 [t 52]),o 54 (.app g0 4 32 (t 47) (t 53)),M 3 54]) z)))) (R [M 29 6,o 30 (bb .add 29 (i 1)),M 6 30]))))))) (R [M 17 5,o 18 (bb .add 17 (i 1)),M 5 18]))))))) (R [M 13 4,o 14 (bb .add 13 (i 1)),M 4 14])))))) (r [M 55 3,M 2 55] y)))⟩
def cc_ref08_Pass (g0 g1 g2 g3 : Nat) : CFn := ⟨39,[.tmp 4],r [o 2 (w 0),V 4 (i 0)] (j (r [M 8 1,o 9 (bb .lss 8 (i 0)),M 10 9,q 11 (m 1) 10,q 12 (f 2 104) 10,q 13 (l 12) 10,q 14 (h 13) 10,q 15 (b .geq 11 14) 10,o 16 (Q 10 15)] (c 16 (r [V 4 (i 0)] y) z)) (r [o 17 (.bsl g0 1 [k (i 8)]),M 5 17] (j (r [o 18 (L 2 131),o 19 (.call g1 [t 18]),o 20 (h 19),V 21 (i 0)] (u 0 (.loop (r [o 22 (b .lss 21 20)] (j (c 22 z (.exit 0)) (j (u 1 (r [o 23 (a 19 21 4),o 24 (L 23 4),o 7 (.alloc [i 0,i 0,i 0,i 0]),n (s 7 24 4)] (r [o 25 (f 7 0),o 26 (l 25),M 27 1,o 28 (b .eql 26 27)] (c 28 (R [M 29 5,o 30 (L 2 131),o 31 (f 7 3),o 32 (l 31),o 33 (.call g2 [t 30,t 32]),o 34 (.bsl g0 1 [t 33]),o 35 (.app g0 1 8 (t 29) (t 34)),M 5 35]) z)))) (R [o 36 (bb .add 21 (i 1)),M 21 36]))))))) (r [M 37 5,o 38 (.call g3 [t 37]),M 4 38] y))))⟩
def cc_ref01_Sum (g0 : Nat) : CFn := ⟨18,[.tmp 2],r [V 2 (i 0)] (r [V 3 (i 0)] (j (r [V 4 (i 0)] (u 0 (.loop (j (r [M 5 4,M 6 0,o 7 (h 6),o 8 (b .lss 5 7)] (c 8 z (.exit 0))) (j (u 1 (R [M 11 3,M 12 0,M 13 4,o 14 (a 12 13 1),o 15 (l 14),o 16 (.call g0 [t 11,t 15]),M 3 16])) (R [M 9 4,o 10 (bb .add 9 (i 1)),M 4 10])))))) (r [M 17 3,M 2 17] y)))⟩
def cc_ref01_Cap (g0 : Nat) : CFn := ⟨5,[.tmp 2],r [V 2 (i 0)] (r [M 3 0,o 4 (.call g0 [t 3,k (i 0),k (i 2147483647)]),M 2 4] y)⟩
def cc_ref08_Entry (g0 g1 g2 : Nat) : CFn := ⟨50,[.tmp 4],r [o 2 (w 0),V 4 (i 0)] (j (r [M 7 1,o 8 (bb .lss 7 (i 0)),M 9 8,q 10 (m 1) 9,q 11 (f 2 114) 9,q 12 (l 11) 9,q 13 (h 12) 9,q 14 (b .geq 10 13) 9,o 15 (Q 9 14)] (c 15 (r [V 4 (i 0)] y) z)) (r [o 16 (f 2 114),o 17 (l 16),M 18 1,o 19 (a 17 18 11),o 20 (L 19 11),o 5 (.alloc z11_58867),n (s 5 20 11)] (r [o 21 (L 2 131),o 22 (.call g0 [t 21]),M 6 22] (r [o 23 (f 5 4),o 24 (l 23),o 25 (f 5 7),o 26 (l 25),o 27 (f 5 5),o 28 (l 27),o 29 (f 5 5),o 30 (l 29),o 31 (f 5 6),o 32 (l 31),o 33 (f 5 6),o 34 (l 33),o 35 (f 5 6),o 36 (l 35),M 37 6,M 38 6,M 39 6,M 40 6,M 41 6,o 42 (f 2 119),o 43 (l 42),o 44 (f 2 119),o 45 (l 44),o 46 (f 2 119),o 47 (l 46),o 48 (.bsl g1 1 [t 24,t 26,t 28,t 30,t 32,t 34,t 36,t 37,t 38,t 39,t 40,t 41,t 43,t 45,t 47,k (i 60)]),o 49 (.call g2 [t 48]),M 4 49] y))))⟩
def cc_ref08_most : CFn := ⟨18,[.tmp 2],r [V 2 (i 0)] (r [V 3 (i 0)] (j (r [V 4 (i 0)] (u 0 (.loop (j (r [M 5 4,M 6 0,o 7 (h 6),o 8 (b .lss 5 7)] (c 8 z (.exit 0))) (j (u 1 (R [M 11 3,M 12 0,M 13 4,o 14 (a 12 13 1),o 15 (l 14),o 16 (.mm true [t 11,t 15]),M 3 16])) (R [M 9 4,o 10 (bb .add 9 (i 1)),M 4 10])))))) (r [M 17 3,M 2 17] y)))⟩
def cc_ref08_clear (g0 g1 g2 g3 g4 : Nat) : CFn := ⟨32,[.tmp 2],r [o 1 (w 0),V 2 (i 0)] (r [V 3 .nils] (j (r [o 6 (L 1 131),o 7 (.call g0 [t 6]),o 8 (.call g1 [t 7]),o 9 (h 8),V 10 (i 0)] (u 0 (.loop (r [o 11 (b .lss 10 9)] (j (c 11 z (.exit 0)) (j (u 1 (r [o 12 (a 8 10 1),o 13 (l 12),M 5 13] (R [M 14 3,M 15 5,o 16 (f 1 0),o 17 (A 16 15 8 13),o 18 (f 17 6),o 19 (l 18),M 20 5,o 21 (f 1 0),o 22 (A 21 20 8 13),o 23 (f 22 7),o 24 (l 23),o 25 (.bsl g2 1 [t 19,t 24]),o 26 (.call g3 [t 25]),o 27 (.bsl g2 1 [t 26]),o 28 (.app g2 1 8 (t 14) (t 27)),M 3 28]))) (R [o 29 (bb .add 10 (i 1)),M 10 29]))))))) (r [M 30 3,o 31 (.call g4 [t 30]),M 2 31] y)))⟩
def cc_ref08_Serve (g0 g1 g2 g3 g4 g5 : Nat) : CFn := ⟨39,[.tmp 4],r [o 2 (w 0),V 4 (i 0)] (j (r [o 6 (L 2 131),o 7 (.call g0 [t 6]),M 8 1,o 9 (.call g1 [t 7,t 8]),o 10 (.un .not (t 9))] (c 10 (r [V 4 (i 0)] y) z)) (r [M 11 1,o 12 (f 2 0),o 13 (A 12 11 8 13),o 14 (L 13 13),o 5 (.alloc z13_14216),n (s 5 14 13)] (r [o 15 (f 5 1),o 16 (l 15),o 17 (.call g2 [t 16]),o 18 (f 5 8),o 19 (l 18),o 20 (f 5 9),o 21 (l 20),o 22 (.bsl g3 1 [t 19,t 21]),o 23 (.call g4 [t 22]),o 24 (f 5 4),o 25 (l 24),o 26 (.call g2 [t 25]),o 27 (.bsl g3 1 [t 17,t 23,t 26]),o 28 (.call g5 [t 27]),o 29 (f 2 116),o 30 (l 29),o 31 (f 5 6),o 32 (l 31),o 33 (f 5 7),o 34 (l 33),o 35 (f 2 119),o 36 (l 35),o 37 (.bsl g3 1 [t 28,t 30,t 32,t 34,t 36,k (i 8)]),o 38 (.call g4 [t 37]),M 4 38] y)))⟩
def cc_ref01_Add (g0 : Nat) : CFn := ⟨11,[.tmp 4],r [V 4 (i 0)] (r [M 5 0,o 6 (.call g0 [t 5]),M 7 1,o 8 (.call g0 [t 7]),o 9 (b .add 6 8),o 10 (.call g0 [t 9]),M 4 10] y)⟩
def cc_ref01_Cut : CFn := ⟨16,[.tmp 6],r [V 6 (i 0)] (j (r [M 7 0,M 8 1,o 9 (b .lss 7 8)] (c 9 (r [M 10 1,M 6 10] y) z)) (j (r [M 11 0,M 12 2,o 13 (b .gtr 11 12)] (c 13 (r [M 14 2,M 6 14] y) z)) (r [M 15 0,M 6 15] y)))⟩
end
end Go.Eng
namespace Go.Eng
set_option linter.unusedVariables false
set_option linter.unusedSimpArgs false
set_option linter.unnecessarySimpa false
open Go
set_option linter.unusedVariables false
set_option linter.unusedSimpArgs false
set_option maxRecDepth 10000
def place (v n : Int) : Int := if v.tmod n < 0 then w64 (v.tmod n + n) else v.tmod n
def atL (l : Option (List Int)) (i : Int) : Int := if i < 0 then 0 else ((l.getD []).getD i.toNat 0)
def frm (l : Option (List Int)) (i n : Int) : Int := place (atL l i) n
def Place.Spec (C : Con) (f : Nat) : Prop := ∀ v n : Int, 0 < n → C.c f [I v, I n] (I (place v n)) none
def At.Spec (C : Con) (f : Nat) : Prop := ∀ (l : Option (List Int)) (i : Int), C.c f [slAV intRow l, I i] (I (atL l i)) none
def from.Spec (C : Con) (f : Nat) : Prop := ∀ (l : Option (List Int)) (i n : Int), 0 < n → C.c f [slAV intRow l, I i, I n] (I (frm l i n)) none
theorem a_slAV {α : Type} (f : α → List AV) (l : Option (List α)) : argSV (slAV f l) = .dat (slAV f l) none := by cases l <;> rfl
theorem a_rows {α : Type} (f : α → List AV) (l : Option (List α)) : rowsOf (slAV f l) = some ((l.getD []).map f) := by cases l <;> rfl
theorem a_len {α : Type} (f : α → List AV) (l : Option (List α)) : lenA (slAV f l) = some (.int .i64 (l.getD []).length) := by cases l <;> simp [lenA, slAV]
section
variable {P : Program} (hm : P.follows .mixedOrders = true) {f : Nat}
include hm
theorem Place.ok (hc : cFn P f = some cc_law00_Place) : Place.Spec (Pure P) f := by
  intro v n hn
  refine pure_of hm hc (by show 2 ≤ 15; decide) (aw_flat (keep := []) (i := 0) ?_)
  have hn0 : ¬ n = 0 := by omega
  simp only [cc_law00_Place, Z.H, I, B, D, EW, cond_true, cond_false, decide_eq_true_eq, decide_eq_false_iff_not, List.length_cons, List.length_nil, ↓ k_wv, ↓ k_cl, ↓ k_clp, ↓ k_gd, ↓ k_cd, ↓ k_pk, EV, flat, List.contains_nil, Bool.false_eq_true, if_false, if_true, true_and, List.getElem?_cons_zero, List.getElem?_cons_succ, Nat.reduceBEq, Nat.reduceAdd, hn0]
  refine ⟨hn0, cd_split (fun h => ?_) (fun h => ?_)⟩ <;> try simp only [I, B, D, EW, cond_true, cond_false, decide_eq_true_eq, decide_eq_false_iff_not, List.length_cons, List.length_nil, ↓ k_wv, ↓ k_cl, ↓ k_clp, ↓ k_gd, ↓ k_cd, ↓ k_pk, EV, flat, List.contains_nil, Bool.false_eq_true, if_false, if_true, true_and, List.getElem?_cons_zero, List.getElem?_cons_succ, Nat.reduceBEq, Nat.reduceAdd, h]
  · simp only [decide_eq_true_eq] at h
    simp only [place, h, if_true, w64]
  · simp only [decide_eq_false_iff_not] at h
    simp only [place, h, if_false]
theorem from.ok {fA fP : Nat} (hc : cFn P f = some (cc_law00_from fA fP)) (hA : At.Spec (Pure P) fA) (hP : Place.Spec (Pure P) fP) : from.Spec (Pure P) f := by
  intro l i n hn
  refine pure_of hm hc (by show 3 ≤ 12; decide) (aw_flat (keep := []) (i := 0) ?_)
  simp only [cc_law00_from, Z.H, a_slAV, I, B, D, EW, cond_true, cond_false, decide_eq_true_eq, decide_eq_false_iff_not, List.length_cons, List.length_nil, ↓ k_wv, ↓ k_cl, ↓ k_clp, ↓ k_gd, ↓ k_cd, ↓ k_pk, EV, flat, List.contains_nil, Bool.false_eq_true, if_false, if_true, true_and, List.getElem?_cons_zero, List.getElem?_cons_succ, Nat.reduceBEq, Nat.reduceAdd]
  refine call_is (hA _ _) ?_
  simp only [I, B, D, EW, cond_true, cond_false, decide_eq_true_eq, decide_eq_false_iff_not, List.length_cons, List.length_nil, ↓ k_wv, ↓ k_cl, ↓ k_clp, ↓ k_gd, ↓ k_cd, ↓ k_pk, EV, flat, List.contains_nil, Bool.false_eq_true, if_false, if_true, true_and, List.getElem?_cons_zero, List.getElem?_cons_succ, Nat.reduceBEq, Nat.reduceAdd]
  refine call_is (hP _ _ hn) ?_
  simp only [I, B, D, EW, cond_true, cond_false, decide_eq_true_eq, decide_eq_false_iff_not, List.length_cons, List.length_nil, ↓ k_wv, ↓ k_cl, ↓ k_clp, ↓ k_gd, ↓ k_cd, ↓ k_pk, EV, flat, List.contains_nil, Bool.false_eq_true, if_false, if_true, true_and, List.getElem?_cons_zero, List.getElem?_cons_succ, Nat.reduceBEq, Nat.reduceAdd]
  rfl
theorem At.ok (hc : cFn P f = some cc_law00_At) : At.Spec (Pure P) f := by
  intro l i
  refine pure_of hm hc (by show 2 ≤ 17; decide) (aw_flat (keep := []) (i := 0) ?_)
  simp only [cc_law00_At, Z.H, a_slAV, a_rows, a_len, I, B, D, EW, cond_true, cond_false, decide_eq_true_eq, decide_eq_false_iff_not, List.length_cons, List.length_nil, ↓ k_wv, ↓ k_cl, ↓ k_clp, ↓ k_gd, ↓ k_cd, ↓ k_pk, EV, flat, List.contains_nil, Bool.false_eq_true, if_false, if_true, true_and, List.getElem?_cons_zero, List.getElem?_cons_succ, Nat.reduceBEq, Nat.reduceAdd]
  repeat' (first | (refine gd_split (fun h => ?_) (fun h => ?_) <;> try simp only [a_rows, a_len, I, B, D, EW, cond_true, cond_false, decide_eq_true_eq, decide_eq_false_iff_not, List.length_cons, List.length_nil, ↓ k_wv, ↓ k_cl, ↓ k_clp, ↓ k_gd, ↓ k_cd, ↓ k_pk, EV, flat, List.contains_nil, Bool.false_eq_true, if_false, if_true, true_and, List.getElem?_cons_zero, List.getElem?_cons_succ, Nat.reduceBEq, Nat.reduceAdd, h]) | (refine cd_split (fun h => ?_) (fun h => ?_) <;> try simp only [a_rows, a_len, I, B, D, EW, cond_true, cond_false, decide_eq_true_eq, decide_eq_false_iff_not, List.length_cons, List.length_nil, ↓ k_wv, ↓ k_cl, ↓ k_clp, ↓ k_gd, ↓ k_cd, ↓ k_pk, EV, flat, List.contains_nil, Bool.false_eq_true, if_false, if_true, true_and, List.getElem?_cons_zero, List.getElem?_cons_succ, Nat.reduceBEq, Nat.reduceAdd, h]))
  · simp only [decide_eq_true_eq] at h
    simp [atL, h]
  · rename_i h'
    simp only [decide_eq_true_eq, decide_eq_false_iff_not] at h h'
    have : (l.getD []).length ≤ i.toNat := by omega
    simp [atL, h, this]
  · rename_i h'
    simp only [decide_eq_false_iff_not] at h h'
    have hlt : i.toNat < (l.getD []).length := by omega
    refine ⟨⟨by omega, by simp; omega⟩, ?_⟩
    refine wv_of (intRow ((l.getD []).getD i.toNat 0)) (by simp [hlt]) ?_
    simp only [intRow, I, B, D, EW, cond_true, cond_false, List.length_cons, List.length_nil, ↓ k_wv, ↓ k_cl, ↓ k_clp, ↓ k_gd, ↓ k_cd, ↓ k_pk, EV, true_and, List.getElem?_cons_zero, Nat.reduceBEq, Nat.reduceAdd]
    simp [atL, h']
end
end Go.Eng
namespace Go.Eng
set_option linter.unusedVariables false
set_option linter.unusedSimpArgs false
set_option linter.unnecessarySimpa false
open Go
set_option linter.unusedVariables false
set_option linter.unusedSimpArgs false
set_option maxRecDepth 10000
def phaseOf (l : Option (List Int)) (i : Int) : Ph :=
  let min := w64 (1 + frm l i 12)
  let max := w64 (min + frm l (w64 (i + 5)) 25)
  let top := w64 (max + frm l (w64 (i + 6)) 15)
  let w := frm l (w64 (i + 7)) 2 = 1
  let walk := if w then w64 (1 + frm l (w64 (i + 8)) 10) else 0
  let blinks := if w then w64 (1 + w64 ((frm l (w64 (i + 8)) 97).tdiv 10)) else 0
  let r := frm l (w64 (i + 9)) 7
  { on := true, min := min, gap := frm l (w64 (i + 1)) 9, max := max, top := top, step := w64 (1 + frm l (w64 (i + 2)) 6), yellow := w64 (10 + frm l (w64 (i + 3)) 4), red := frm l (w64 (i + 4)) 5,
    walk := walk, blinks := blinks, recall := if r > 3 ∨ r = 3 ∧ walk = 0 then 0 else r, lock := decide (frm l (w64 (i + 10)) 3 > 0), rest := frm l (w64 (i + 11)) 4 == 1 }
def phase.Spec (C : Con) (f : Nat) : Prop := ∀ (l : Option (List Int)) (i : Int), C.c f [slAV intRow l, I i] (.agg (phaseOf l i).cells) none
section
variable {P : Program} (hm : P.follows .mixedOrders = true) {f : Nat}
include hm
theorem phase.ok {fF : Nat} (hc : cFn P f = some (cc_law00_phase fF)) (hF : from.Spec (Pure P) fF) : phase.Spec (Pure P) f := by
  intro l i
  refine pure_of hm hc (by show 2 ≤ 95; decide) (aw_flat (keep := []) (i := 0) ?_)
  simp only [cc_law00_phase, Z.H, z13_14216, a_slAV, I, B, D, EW, cond_true, cond_false, List.length_cons, List.length_nil, ↓ k_wv, ↓ k_cl, ↓ k_clp, ↓ k_gd, ↓ k_cd, ↓ k_pk, EV, r_partO, r_rowO, r_blk4, fillA, setCells, stTags, List.take_succ_cons, List.take_zero, List.drop_succ_cons, List.drop_zero, List.nil_append, List.cons_append, List.append_nil, flat, List.contains_nil, Bool.false_eq_true, if_false, if_true, true_and, List.getElem?_cons_zero, List.getElem?_cons_succ, Nat.reduceBEq, Nat.reduceAdd, Nat.le_refl, Nat.reduceLeDiff, p_some, ge_iff_le, List.filter_nil, Option.map_some, Int.reduceNe, Int.reduceBEq, ne_eq, not_false_eq_true, Int.reduceEq]
  repeat' (first | (refine call_is (hF _ _ _ (by decide)) ?_; simp only [I, B, D, EW, cond_true, cond_false, List.length_cons, List.length_nil, ↓ k_wv, ↓ k_cl, ↓ k_clp, ↓ k_gd, ↓ k_cd, ↓ k_pk, EV, r_partO, r_rowO, r_blk4, fillA, setCells, stTags, List.take_succ_cons, List.take_zero, List.drop_succ_cons, List.drop_zero, List.nil_append, List.cons_append, List.append_nil, flat, List.contains_nil, Bool.false_eq_true, if_false, if_true, true_and, List.getElem?_cons_zero, List.getElem?_cons_succ, Nat.reduceBEq, Nat.reduceAdd, Nat.le_refl, Nat.reduceLeDiff, p_some, ge_iff_le, List.filter_nil, Option.map_some, Int.reduceNe, Int.reduceBEq, ne_eq, not_false_eq_true, Int.reduceEq]) | (refine gd_split (fun h => ?_) (fun h => ?_) <;> try simp only [I, B, D, EW, cond_true, cond_false, List.length_cons, List.length_nil, ↓ k_wv, ↓ k_cl, ↓ k_clp, ↓ k_gd, ↓ k_cd, ↓ k_pk, EV, r_partO, r_rowO, r_blk4, fillA, setCells, stTags, List.take_succ_cons, List.take_zero, List.drop_succ_cons, List.drop_zero, List.nil_append, List.cons_append, List.append_nil, flat, List.contains_nil, Bool.false_eq_true, if_false, if_true, true_and, List.getElem?_cons_zero, List.getElem?_cons_succ, Nat.reduceBEq, Nat.reduceAdd, Nat.le_refl, Nat.reduceLeDiff, p_some, ge_iff_le, List.filter_nil, Option.map_some, Int.reduceNe, Int.reduceBEq, ne_eq, not_false_eq_true, Int.reduceEq, h]) | (refine cd_split (fun h => ?_) (fun h => ?_) <;> try simp only [I, B, D, EW, cond_true, cond_false, List.length_cons, List.length_nil, ↓ k_wv, ↓ k_cl, ↓ k_clp, ↓ k_gd, ↓ k_cd, ↓ k_pk, EV, r_partO, r_rowO, r_blk4, fillA, setCells, stTags, List.take_succ_cons, List.take_zero, List.drop_succ_cons, List.drop_zero, List.nil_append, List.cons_append, List.append_nil, flat, List.contains_nil, Bool.false_eq_true, if_false, if_true, true_and, List.getElem?_cons_zero, List.getElem?_cons_succ, Nat.reduceBEq, Nat.reduceAdd, Nat.le_refl, Nat.reduceLeDiff, p_some, ge_iff_le, List.filter_nil, Option.map_some, Int.reduceNe, Int.reduceBEq, ne_eq, not_false_eq_true, Int.reduceEq, h]))
  all_goals simp_all [phaseOf, Ph.cells, w64]
  all_goals omega
end
end Go.Eng
namespace Go.Eng
set_option linter.unusedVariables false
set_option linter.unusedSimpArgs false
set_option linter.unnecessarySimpa false
open Go
set_option linter.unusedVariables false
set_option linter.unusedSimpArgs false
set_option maxRecDepth 10000
def bitI (p : Int) : Int := if p < 0 ∨ 8 ≤ p then 0 else 2 ^ p.toNat
def hasS (s p : Int) : Bool := bAnd .i64 s (bitI p) != 0
def withS (s p : Int) : Int := bOr .i64 (bAnd .i64 s 255) (bitI p)
def bit.Spec (C : Con) (f : Nat) : Prop := ∀ p : Int, C.c f [I p] (I (bitI p)) none
def setHas.Spec (C : Con) (f : Nat) : Prop := ∀ s p : Int, C.c f [I s, I p] (B (hasS s p)) none
def setWith.Spec (C : Con) (f : Nat) : Prop := ∀ s p : Int, C.c f [I s, I p] (I (withS s p)) none
theorem shl_small {p : Int} (h0 : 0 ≤ p) (h8 : p < 8) : IntKind.i64.wrap (1 * 2 ^ min p.toNat IntKind.i64.bits) = 2 ^ p.toNat := by
  have : p = 0 ∨ p = 1 ∨ p = 2 ∨ p = 3 ∨ p = 4 ∨ p = 5 ∨ p = 6 ∨ p = 7 := by omega
  rcases this with rfl | rfl | rfl | rfl | rfl | rfl | rfl | rfl <;> decide
section
variable {P : Program} (hm : P.follows .mixedOrders = true) {f : Nat}
include hm
theorem bit.ok (hc : cFn P f = some cc_set_bit) : bit.Spec (Pure P) f := by
  intro p
  refine pure_of hm hc (by show 1 ≤ 11; decide) (aw_flat (keep := []) (i := 0) ?_)
  simp only [cc_set_bit, Z.H, I, B, D, EW, cond_true, cond_false, List.length_cons, List.length_nil, ↓ k_wv, ↓ k_cl, ↓ k_clp, ↓ k_gd, ↓ k_cd, ↓ k_pk, EV, r_partO, r_rowO, r_blk4, fillA, setCells, stTags, List.take_succ_cons, List.take_zero, List.drop_succ_cons, List.drop_zero, List.nil_append, List.cons_append, List.append_nil, flat, List.contains_nil, Bool.false_eq_true, if_false, if_true, true_and, List.getElem?_cons_zero, List.getElem?_cons_succ, Nat.reduceBEq, Nat.reduceAdd, Nat.le_refl, Nat.reduceLeDiff, p_some, ge_iff_le, List.filter_nil, Option.map_some, Int.reduceNe, Int.reduceBEq, ne_eq, not_false_eq_true, Int.reduceEq]
  repeat' (first | (refine gd_split (fun h => ?_) (fun h => ?_) <;> try simp only [I, B, D, EW, cond_true, cond_false, List.length_cons, List.length_nil, ↓ k_wv, ↓ k_cl, ↓ k_clp, ↓ k_gd, ↓ k_cd, ↓ k_pk, EV, r_partO, r_rowO, r_blk4, fillA, setCells, stTags, List.take_succ_cons, List.take_zero, List.drop_succ_cons, List.drop_zero, List.nil_append, List.cons_append, List.append_nil, flat, List.contains_nil, Bool.false_eq_true, if_false, if_true, true_and, List.getElem?_cons_zero, List.getElem?_cons_succ, Nat.reduceBEq, Nat.reduceAdd, Nat.le_refl, Nat.reduceLeDiff, p_some, ge_iff_le, List.filter_nil, Option.map_some, Int.reduceNe, Int.reduceBEq, ne_eq, not_false_eq_true, Int.reduceEq, h]) | (refine cd_split (fun h => ?_) (fun h => ?_) <;> try simp only [I, B, D, EW, cond_true, cond_false, List.length_cons, List.length_nil, ↓ k_wv, ↓ k_cl, ↓ k_clp, ↓ k_gd, ↓ k_cd, ↓ k_pk, EV, r_partO, r_rowO, r_blk4, fillA, setCells, stTags, List.take_succ_cons, List.take_zero, List.drop_succ_cons, List.drop_zero, List.nil_append, List.cons_append, List.append_nil, flat, List.contains_nil, Bool.false_eq_true, if_false, if_true, true_and, List.getElem?_cons_zero, List.getElem?_cons_succ, Nat.reduceBEq, Nat.reduceAdd, Nat.le_refl, Nat.reduceLeDiff, p_some, ge_iff_le, List.filter_nil, Option.map_some, Int.reduceNe, Int.reduceBEq, ne_eq, not_false_eq_true, Int.reduceEq, h]))
  · simp only [decide_eq_true_eq] at h
    simp [bitI, h]
  · rename_i h'
    simp only [decide_eq_true_eq, decide_eq_false_iff_not] at h h'
    simp [bitI, h]
  · rename_i h'
    simp only [decide_eq_true_eq, decide_eq_false_iff_not] at h h'
    refine ⟨by omega, ?_⟩
    have hc : ¬ (p < 0 ∨ 8 ≤ p) := by omega
    rw [shl_small (by omega) (by omega)]
    simp only [bitI, hc, if_false]
theorem setHas.ok {fB : Nat} (hc : cFn P f = some (cc_set_Has fB)) (hB : bit.Spec (Pure P) fB) : setHas.Spec (Pure P) f := by
  intro s p
  refine pure_of hm hc (by show 2 ≤ 10; decide) (aw_flat (keep := []) (i := 0) ?_)
  simp only [cc_set_Has, Z.H, I, B, D, EW, cond_true, cond_false, List.length_cons, List.length_nil, ↓ k_wv, ↓ k_cl, ↓ k_clp, ↓ k_gd, ↓ k_cd, ↓ k_pk, EV, r_partO, r_rowO, r_blk4, fillA, setCells, stTags, List.take_succ_cons, List.take_zero, List.drop_succ_cons, List.drop_zero, List.nil_append, List.cons_append, List.append_nil, flat, List.contains_nil, Bool.false_eq_true, if_false, if_true, true_and, List.getElem?_cons_zero, List.getElem?_cons_succ, Nat.reduceBEq, Nat.reduceAdd, Nat.le_refl, Nat.reduceLeDiff, p_some, ge_iff_le, List.filter_nil, Option.map_some, Int.reduceNe, Int.reduceBEq, ne_eq, not_false_eq_true, Int.reduceEq]
  refine call_is (hB _) ?_
  simp only [I, B, D, EW, cond_true, cond_false, List.length_cons, List.length_nil, ↓ k_wv, ↓ k_cl, ↓ k_clp, ↓ k_gd, ↓ k_cd, ↓ k_pk, EV, r_partO, r_rowO, r_blk4, fillA, setCells, stTags, List.take_succ_cons, List.take_zero, List.drop_succ_cons, List.drop_zero, List.nil_append, List.cons_append, List.append_nil, flat, List.contains_nil, Bool.false_eq_true, if_false, if_true, true_and, List.getElem?_cons_zero, List.getElem?_cons_succ, Nat.reduceBEq, Nat.reduceAdd, Nat.le_refl, Nat.reduceLeDiff, p_some, ge_iff_le, List.filter_nil, Option.map_some, Int.reduceNe, Int.reduceBEq, ne_eq, not_false_eq_true, Int.reduceEq]
  rfl
theorem setWith.ok {fB : Nat} (hc : cFn P f = some (cc_set_With fB)) (hB : bit.Spec (Pure P) fB) : setWith.Spec (Pure P) f := by
  intro s p
  refine pure_of hm hc (by show 2 ≤ 10; decide) (aw_flat (keep := []) (i := 0) ?_)
  simp only [cc_set_With, Z.H, I, B, D, EW, cond_true, cond_false, List.length_cons, List.length_nil, ↓ k_wv, ↓ k_cl, ↓ k_clp, ↓ k_gd, ↓ k_cd, ↓ k_pk, EV, r_partO, r_rowO, r_blk4, fillA, setCells, stTags, List.take_succ_cons, List.take_zero, List.drop_succ_cons, List.drop_zero, List.nil_append, List.cons_append, List.append_nil, flat, List.contains_nil, Bool.false_eq_true, if_false, if_true, true_and, List.getElem?_cons_zero, List.getElem?_cons_succ, Nat.reduceBEq, Nat.reduceAdd, Nat.le_refl, Nat.reduceLeDiff, p_some, ge_iff_le, List.filter_nil, Option.map_some, Int.reduceNe, Int.reduceBEq, ne_eq, not_false_eq_true, Int.reduceEq]
  refine call_is (hB _) ?_
  simp only [I, B, D, EW, cond_true, cond_false, List.length_cons, List.length_nil, ↓ k_wv, ↓ k_cl, ↓ k_clp, ↓ k_gd, ↓ k_cd, ↓ k_pk, EV, r_partO, r_rowO, r_blk4, fillA, setCells, stTags, List.take_succ_cons, List.take_zero, List.drop_succ_cons, List.drop_zero, List.nil_append, List.cons_append, List.append_nil, flat, List.contains_nil, Bool.false_eq_true, if_false, if_true, true_and, List.getElem?_cons_zero, List.getElem?_cons_succ, Nat.reduceBEq, Nat.reduceAdd, Nat.le_refl, Nat.reduceLeDiff, p_some, ge_iff_le, List.filter_nil, Option.map_some, Int.reduceNe, Int.reduceBEq, ne_eq, not_false_eq_true, Int.reduceEq]
  rfl
end
end Go.Eng
namespace Go.Eng
set_option linter.unusedVariables false
set_option linter.unusedSimpArgs false
set_option linter.unnecessarySimpa false
open Go
set_option linter.unusedVariables false
set_option linter.unusedSimpArgs false
set_option maxRecDepth 10000
theorem le_mk {sl sl' : List (Nat × SV)} {bx bx' : List (Nat × Box)} {lv lv' : List (Nat × Nat)} {nx nx' : Nat} (m : List (Nat × Nat)) (h : 4 ≤ nx') (h1 : leSlots m nx' sl sl') (h2 : leBoxes m nx' bx bx') (h3 : leLive m nx' lv lv') (h4 : liveInj m lv') : Le ⟨sl, bx, lv, nx⟩ ⟨sl', bx', lv', nx'⟩ := ⟨h, m, h1, h2, h3, h4⟩
end Go.Eng
namespace Go.Eng
set_option linter.unusedVariables false
set_option linter.unusedSimpArgs false
set_option linter.unnecessarySimpa false
open Go
set_option linter.unusedVariables false
set_option linter.unusedSimpArgs false
set_option maxRecDepth 10000
structure Cs where
  car : Int
  foot : Int
  deriving Inhabited, DecidableEq
def Cs.cells (c : Cs) : List AV := [I c.car, I c.foot]
theorem Tb.whole {t : Tb} (ht : t.Ok) : partA t.cells 0 (some 131) = some (.agg t.cells) := by
  have hl := Tb.len ht
  rw [p_some _ _ _ (by omega), List.drop_zero, ← hl, List.take_length]
end Go.Eng
namespace Go.Eng
set_option linter.unusedVariables false
set_option linter.unusedSimpArgs false
set_option linter.unnecessarySimpa false
open Go
set_option linter.unusedVariables false
set_option linter.unusedSimpArgs false
set_option maxRecDepth 10000
def cutI (n a b : Int) : Int := if n < a then a else if b < n then b else n
def capI (n : Int) : Int := cutI n 0 2147483647
def addI (a b : Int) : Int := capI (capI a + capI b)
def mulI (a b : Int) : Int := capI (capI a * capI b)
def hasR (s p : Int) : Bool := decide (0 ≤ p) && decide (p < 8) && bAnd .i64 (s.fdiv (2 ^ p.toNat)) 1 == 1
def Cut.Spec (C : Con) (f : Nat) : Prop := ∀ n a b : Int, C.c f [I n, I a, I b] (I (cutI n a b)) none
def Cap.Spec (C : Con) (f : Nat) : Prop := ∀ n : Int, C.c f [I n] (I (capI n)) none
def Add.Spec (C : Con) (f : Nat) : Prop := ∀ a b : Int, C.c f [I a, I b] (I (addI a b)) none
def Mul.Spec (C : Con) (f : Nat) : Prop := ∀ a b : Int, C.c f [I a, I b] (I (mulI a b)) none
def refHas.Spec (C : Con) (f : Nat) : Prop := ∀ s p : Int, C.c f [I s, I p] (B (hasR s p)) none
theorem capI_range (n : Int) : 0 ≤ capI n ∧ capI n ≤ 2147483647 := by
  unfold capI cutI; split
  · omega
  · split <;> omega
theorem wrap_id {n : Int} (h1 : -9223372036854775808 ≤ n) (h2 : n ≤ 9223372036854775807) : IntKind.i64.wrap n = n := by
  simp only [IntKind.wrap, IntKind.bits, IntKind.signed]
  simp
  omega
section
variable {P : Program} (hm : P.follows .mixedOrders = true) {f : Nat}
include hm
theorem Cut.ok (hc : cFn P f = some cc_ref01_Cut) : Cut.Spec (Pure P) f := by
  intro n a b
  refine pure_of hm hc (by show 3 ≤ 16; decide) (aw_flat (keep := []) (i := 0) ?_)
  simp only [cc_ref01_Cut, Z.H, I, B, D, EW, cond_true, cond_false, List.length_cons, List.length_nil, ↓ k_wv, ↓ k_cl, ↓ k_clp, ↓ k_gd, ↓ k_cd, ↓ k_pk, EV, r_partO, r_rowO, r_blk4, fillA, setCells, stTags, List.take_succ_cons, List.take_zero, List.drop_succ_cons, List.drop_zero, List.nil_append, List.cons_append, List.append_nil, flat, List.contains_nil, Bool.false_eq_true, if_false, if_true, true_and, List.getElem?_cons_zero, List.getElem?_cons_succ, Nat.reduceBEq, Nat.reduceAdd, Nat.le_refl, Nat.reduceLeDiff, p_some, ge_iff_le, List.filter_nil, Option.map_some, Int.reduceNe, Int.reduceBEq, ne_eq, not_false_eq_true, Int.reduceEq, Bool.not_true, Bool.not_false]
  repeat' (first | (refine cd_split (fun h => ?_) (fun h => ?_) <;> try simp only [I, B, D, EW, cond_true, cond_false, List.length_cons, List.length_nil, ↓ k_wv, ↓ k_cl, ↓ k_clp, ↓ k_gd, ↓ k_cd, ↓ k_pk, EV, r_partO, r_rowO, r_blk4, fillA, setCells, stTags, List.take_succ_cons, List.take_zero, List.drop_succ_cons, List.drop_zero, List.nil_append, List.cons_append, List.append_nil, flat, List.contains_nil, Bool.false_eq_true, if_false, if_true, true_and, List.getElem?_cons_zero, List.getElem?_cons_succ, Nat.reduceBEq, Nat.reduceAdd, Nat.le_refl, Nat.reduceLeDiff, p_some, ge_iff_le, List.filter_nil, Option.map_some, Int.reduceNe, Int.reduceBEq, ne_eq, not_false_eq_true, Int.reduceEq, Bool.not_true, Bool.not_false, h]))
  all_goals simp_all [cutI]
  all_goals omega
theorem Cap.ok {fC : Nat} (hc : cFn P f = some (cc_ref01_Cap fC)) (hC : Cut.Spec (Pure P) fC) : Cap.Spec (Pure P) f := by
  intro n
  refine pure_of hm hc (by show 1 ≤ 5; decide) (aw_flat (keep := []) (i := 0) ?_)
  simp only [cc_ref01_Cap, Z.H, I, B, D, EW, cond_true, cond_false, List.length_cons, List.length_nil, ↓ k_wv, ↓ k_cl, ↓ k_clp, ↓ k_gd, ↓ k_cd, ↓ k_pk, EV, r_partO, r_rowO, r_blk4, fillA, setCells, stTags, List.take_succ_cons, List.take_zero, List.drop_succ_cons, List.drop_zero, List.nil_append, List.cons_append, List.append_nil, flat, List.contains_nil, Bool.false_eq_true, if_false, if_true, true_and, List.getElem?_cons_zero, List.getElem?_cons_succ, Nat.reduceBEq, Nat.reduceAdd, Nat.le_refl, Nat.reduceLeDiff, p_some, ge_iff_le, List.filter_nil, Option.map_some, Int.reduceNe, Int.reduceBEq, ne_eq, not_false_eq_true, Int.reduceEq, Bool.not_true, Bool.not_false]
  refine call_is (hC _ _ _) ?_
  simp only [I, B, D, EW, cond_true, cond_false, List.length_cons, List.length_nil, ↓ k_wv, ↓ k_cl, ↓ k_clp, ↓ k_gd, ↓ k_cd, ↓ k_pk, EV, r_partO, r_rowO, r_blk4, fillA, setCells, stTags, List.take_succ_cons, List.take_zero, List.drop_succ_cons, List.drop_zero, List.nil_append, List.cons_append, List.append_nil, flat, List.contains_nil, Bool.false_eq_true, if_false, if_true, true_and, List.getElem?_cons_zero, List.getElem?_cons_succ, Nat.reduceBEq, Nat.reduceAdd, Nat.le_refl, Nat.reduceLeDiff, p_some, ge_iff_le, List.filter_nil, Option.map_some, Int.reduceNe, Int.reduceBEq, ne_eq, not_false_eq_true, Int.reduceEq, Bool.not_true, Bool.not_false]
  rfl
theorem Add.ok {fC : Nat} (hc : cFn P f = some (cc_ref01_Add fC)) (hC : Cap.Spec (Pure P) fC) : Add.Spec (Pure P) f := by
  intro a b
  refine pure_of hm hc (by show 2 ≤ 11; decide) (aw_flat (keep := []) (i := 0) ?_)
  have ha := capI_range a
  have hb := capI_range b
  simp only [cc_ref01_Add, Z.H, I, B, D, EW, cond_true, cond_false, List.length_cons, List.length_nil, ↓ k_wv, ↓ k_cl, ↓ k_clp, ↓ k_gd, ↓ k_cd, ↓ k_pk, EV, r_partO, r_rowO, r_blk4, fillA, setCells, stTags, List.take_succ_cons, List.take_zero, List.drop_succ_cons, List.drop_zero, List.nil_append, List.cons_append, List.append_nil, flat, List.contains_nil, Bool.false_eq_true, if_false, if_true, true_and, List.getElem?_cons_zero, List.getElem?_cons_succ, Nat.reduceBEq, Nat.reduceAdd, Nat.le_refl, Nat.reduceLeDiff, p_some, ge_iff_le, List.filter_nil, Option.map_some, Int.reduceNe, Int.reduceBEq, ne_eq, not_false_eq_true, Int.reduceEq, Bool.not_true, Bool.not_false]
  repeat (refine call_is (hC _) ?_; simp only [I, B, D, EW, cond_true, cond_false, List.length_cons, List.length_nil, ↓ k_wv, ↓ k_cl, ↓ k_clp, ↓ k_gd, ↓ k_cd, ↓ k_pk, EV, r_partO, r_rowO, r_blk4, fillA, setCells, stTags, List.take_succ_cons, List.take_zero, List.drop_succ_cons, List.drop_zero, List.nil_append, List.cons_append, List.append_nil, flat, List.contains_nil, Bool.false_eq_true, if_false, if_true, true_and, List.getElem?_cons_zero, List.getElem?_cons_succ, Nat.reduceBEq, Nat.reduceAdd, Nat.le_refl, Nat.reduceLeDiff, p_some, ge_iff_le, List.filter_nil, Option.map_some, Int.reduceNe, Int.reduceBEq, ne_eq, not_false_eq_true, Int.reduceEq, Bool.not_true, Bool.not_false])
  rw [wrap_id (by omega) (by omega)]
  rfl
theorem Mul.ok {fC : Nat} (hc : cFn P f = some (cc_ref01_Mul fC)) (hC : Cap.Spec (Pure P) fC) : Mul.Spec (Pure P) f := by
  intro a b
  refine pure_of hm hc (by show 2 ≤ 11; decide) (aw_flat (keep := []) (i := 0) ?_)
  have ha := capI_range a
  have hb := capI_range b
  have h1 : 0 ≤ capI a * capI b := Int.mul_nonneg ha.1 hb.1
  have h2 : capI a * capI b ≤ 2147483647 * 2147483647 := Int.mul_le_mul ha.2 hb.2 hb.1 (by omega)
  simp only [cc_ref01_Mul, Z.H, I, B, D, EW, cond_true, cond_false, List.length_cons, List.length_nil, ↓ k_wv, ↓ k_cl, ↓ k_clp, ↓ k_gd, ↓ k_cd, ↓ k_pk, EV, r_partO, r_rowO, r_blk4, fillA, setCells, stTags, List.take_succ_cons, List.take_zero, List.drop_succ_cons, List.drop_zero, List.nil_append, List.cons_append, List.append_nil, flat, List.contains_nil, Bool.false_eq_true, if_false, if_true, true_and, List.getElem?_cons_zero, List.getElem?_cons_succ, Nat.reduceBEq, Nat.reduceAdd, Nat.le_refl, Nat.reduceLeDiff, p_some, ge_iff_le, List.filter_nil, Option.map_some, Int.reduceNe, Int.reduceBEq, ne_eq, not_false_eq_true, Int.reduceEq, Bool.not_true, Bool.not_false]
  repeat (refine call_is (hC _) ?_; simp only [I, B, D, EW, cond_true, cond_false, List.length_cons, List.length_nil, ↓ k_wv, ↓ k_cl, ↓ k_clp, ↓ k_gd, ↓ k_cd, ↓ k_pk, EV, r_partO, r_rowO, r_blk4, fillA, setCells, stTags, List.take_succ_cons, List.take_zero, List.drop_succ_cons, List.drop_zero, List.nil_append, List.cons_append, List.append_nil, flat, List.contains_nil, Bool.false_eq_true, if_false, if_true, true_and, List.getElem?_cons_zero, List.getElem?_cons_succ, Nat.reduceBEq, Nat.reduceAdd, Nat.le_refl, Nat.reduceLeDiff, p_some, ge_iff_le, List.filter_nil, Option.map_some, Int.reduceNe, Int.reduceBEq, ne_eq, not_false_eq_true, Int.reduceEq, Bool.not_true, Bool.not_false])
  rw [wrap_id (by omega) (by omega)]
  rfl
theorem refHas.ok (hc : cFn P f = some cc_ref01_Has) : refHas.Spec (Pure P) f := by
  intro s p
  refine pure_of hm hc (by show 2 ≤ 19; decide) (aw_flat (keep := []) (i := 0) ?_)
  simp only [cc_ref01_Has, Z.H, I, B, D, EW, cond_true, cond_false, List.length_cons, List.length_nil, ↓ k_wv, ↓ k_cl, ↓ k_clp, ↓ k_gd, ↓ k_cd, ↓ k_pk, EV, r_partO, r_rowO, r_blk4, fillA, setCells, stTags, List.take_succ_cons, List.take_zero, List.drop_succ_cons, List.drop_zero, List.nil_append, List.cons_append, List.append_nil, flat, List.contains_nil, Bool.false_eq_true, if_false, if_true, true_and, List.getElem?_cons_zero, List.getElem?_cons_succ, Nat.reduceBEq, Nat.reduceAdd, Nat.le_refl, Nat.reduceLeDiff, p_some, ge_iff_le, List.filter_nil, Option.map_some, Int.reduceNe, Int.reduceBEq, ne_eq, not_false_eq_true, Int.reduceEq, Bool.not_true, Bool.not_false]
  repeat' (first | (refine gd_split (fun h => ?_) (fun h => ?_) <;> try simp only [I, B, D, EW, cond_true, cond_false, List.length_cons, List.length_nil, ↓ k_wv, ↓ k_cl, ↓ k_clp, ↓ k_gd, ↓ k_cd, ↓ k_pk, EV, r_partO, r_rowO, r_blk4, fillA, setCells, stTags, List.take_succ_cons, List.take_zero, List.drop_succ_cons, List.drop_zero, List.nil_append, List.cons_append, List.append_nil, flat, List.contains_nil, Bool.false_eq_true, if_false, if_true, true_and, List.getElem?_cons_zero, List.getElem?_cons_succ, Nat.reduceBEq, Nat.reduceAdd, Nat.le_refl, Nat.reduceLeDiff, p_some, ge_iff_le, List.filter_nil, Option.map_some, Int.reduceNe, Int.reduceBEq, ne_eq, not_false_eq_true, Int.reduceEq, Bool.not_true, Bool.not_false, h]))
  · rename_i h0
    have h1 := of_decide_eq_true h
    have h2 := of_decide_eq_true h0
    have hw : IntKind.u64.wrap p = p := by
      have : p = 0 ∨ p = 1 ∨ p = 2 ∨ p = 3 ∨ p = 4 ∨ p = 5 ∨ p = 6 ∨ p = 7 := by omega
      rcases this with rfl | rfl | rfl | rfl | rfl | rfl | rfl | rfl <;> decide
    have hm : min p.toNat IntKind.i64.bits = p.toNat := by
      have : IntKind.i64.bits = 64 := rfl
      omega
    rw [hw, hm]
    exact ⟨h2, by simp [hasR, h1, h2]⟩
  · simp [hasR, h]
  · simp [hasR, h]
end
end Go.Eng
namespace Go.Eng
set_option linter.unusedVariables false
set_option linter.unusedSimpArgs false
set_option linter.unnecessarySimpa false
open Go
open Go.RowKit (Below)
set_option linter.unusedVariables false
theorem DV.flat1_any {w w' : World} {π π' : Nat → Nat → Prop} {a : AV} {v : Value} (hf : Eng.flat1 a = true) (h : DV w π a v) : DV w' π' a v := by
  cases h <;> first | (simp [Eng.flat1] at hf; done) | constructor
theorem DV.flat_any {w w' : World} {π π' : Nat → Nat → Prop} {a : AV} {v : Value} (hf : flatV a = true) (h : DV w π a v) : DV w' π' a v := by
  cases h with
  | agg as vs hl hs hd =>
    simp only [flatV, List.all_eq_true] at hf
    exact .agg as vs hl hs fun i a v ha hv => (hd i a v ha hv).flat1_any (hf a (List.mem_of_getElem? ha))
  | _ => first | (simp [flatV, Eng.flat1] at hf; done) | constructor
theorem BoxesAt.block {w : World} {π : Nat → Nat → Prop} : ∀ {css : List (List AV)} {Bs : List Nat}, BoxesAt w π css Bs → ∀ B ∈ Bs, B < w.heap.size
  | [], [], _, B, h => by cases h
  | cs :: css, B0 :: Bs, h, B, hB => by
    rcases List.mem_cons.1 hB with rfl | hB
    · obtain ⟨cur, el, h1, _⟩ := h.1
      exact (Array.getElem?_eq_some_iff.1 h1).1
    · exact h.2.block B hB
  | [], _ :: _, h, _, _ => h.elim
  | _ :: _, [], h, _, _ => h.elim
theorem BoxesAt.mono {w w' : World} {π : Nat → Nat → Prop} (hb : Below w.heap.size w w') (hp : ∀ b o, π b o → b < w.heap.size) : ∀ {css : List (List AV)} {Bs : List Nat}, BoxesAt w π css Bs → BoxesAt w' π css Bs
  | [], [], _ => trivial
  | cs :: css, B :: Bs, h => by
    obtain ⟨cur, el, h1, h2, h3, h4, h5⟩ := h.1
    refine ⟨⟨cur, el, ?_, h2.mono (fun _ _ h => h) (fun b o hbo => Below.cellOld hb (hp b o hbo)), h3, h4, h5⟩, h.2.mono hb hp⟩
    rw [hb.block B (Array.getElem?_eq_some_iff.1 h1).1, h1]
  | [], _ :: _, h => h.elim
  | _ :: _, [], h => h.elim
theorem BoxR.ref {w : World} {π π1 : Nat → Nat → Prop} (hp : ∀ b o, π b o → π1 b o) {B : Nat} {cs : List AV} {τ : Nat → Value} (h : BoxR τ w π B ⟨cs, []⟩) (h1 : ∀ o, π1 B o) : DV w π1 (.ref cs) (.pointer (some ⟨B, 0, none⟩)) := by
  obtain ⟨cur, el, hh, hd, hs, _, _⟩ := h
  have hget : ∀ (j : Nat) (a : AV), cs[j]? = some a → ∃ v, cur[j]? = some v ∧ DV w π a v := fun j a ha => by
    obtain ⟨v, hv, hv2⟩ := hd.get ha
    exact ⟨v, by simpa using hv, hv2⟩
  refine .ref cs B 0 (fun j => cur[j]!) (fun j a ha => hs a (List.mem_of_getElem? ha)) (fun j a _ => h1 _) (fun j a ha => ?_) (fun j a ha => ?_)
  · obtain ⟨v, hv, _⟩ := hget j a ha
    rw [Nat.zero_add]
    have hj : cur[j]! = v := by simp [Array.getElem!_eq_getD, Array.getD_eq_getD_getElem?, hv]
    simp only [hj]
    simp [World.cell?, hh, hv]
  · obtain ⟨v, hv, hv2⟩ := hget j a ha
    have hj : cur[j]! = v := by simp [Array.getElem!_eq_getD, Array.getD_eq_getD_getElem?, hv]
    simp only [hj]
    exact hv2.mono hp fun _ _ _ => rfl
theorem pureB_ref {P : Program} {f : FuncId} {css : List (List AV)} {args : List (Option AV)} {r : AV} (h : Pure0 P f (fillP args css) r none) (hr : flatV r = true) (hl : css.length ≤ 4) : PureB P f css args r none css := by
  refine ⟨h.1, rfl, hl, fun w π Bs vs hprot hnd hB hA => ?_⟩
  have hblk := hB.block
  have hsub : ∀ b o, π b o → (π b o ∨ b ∈ Bs) := fun _ _ h => .inl h
  have hget := hB.get
  have hvs : DVs w (fun b o => π b o ∨ b ∈ Bs) (fillP args css) vs := fillP_DVs hsub hA hget.1 fun k cs B h1 h2 =>
    (hget.2 k cs B h1 h2).ref hsub fun o => .inr (List.mem_of_getElem? h2)
  refine (h.2 w (fun b o => π b o ∨ b ∈ Bs) vs (fun b o h => h.elim (hprot b o) (hblk b)) hvs).mono fun e w' hh => ?_
  obtain ⟨v, π2, he, hbl, _, _, _, hd, _⟩ := hh
  exact ⟨v, π, he, .of hbl (Nat.le_refl _), fun _ _ h => h, fun _ _ h => .inl h, fun b o h => Nat.lt_of_lt_of_le (hprot b o h) hbl.size, hB.mono hbl hprot, hd.flat_any hr, fun t ht => by cases ht⟩
theorem ref_p {P : Program} {f : Nat} {css : List (List AV)} {args : List (Option AV)} {r : AV} (h : (Pure P).c f (fillP args css) r none) (hr : flatV r = true) (hl : css.length ≤ 4) : (Pure P).p f css args r none css := pureB_ref h hr hl
end Go.Eng
namespace Go.Eng
set_option linter.unusedVariables false
set_option linter.unusedSimpArgs false
set_option linter.unnecessarySimpa false
open Go
set_option linter.unusedVariables false
set_option linter.unusedSimpArgs false
set_option maxRecDepth 10000
set_option maxHeartbeats 4000000
theorem intRow_len (n : Int) : (intRow n).length = 1 := rfl
set_option linter.defProp false
def RW :=
  And.intro @EV (And.intro @EW (And.intro @cond_true.{1} (And.intro @cond_false.{1} (And.intro @List.length_cons.{0} (And.intro @List.length_nil.{0} (And.intro @r_partO (And.intro @r_rowO (And.intro @r_blk4 (And.intro @List.take_succ_cons.{0} (And.intro @List.take_zero.{0} (And.intro @List.drop_succ_cons.{0} (And.intro @List.drop_zero.{0} (And.intro @List.nil_append.{0} (And.intro @List.cons_append.{0} (And.intro @List.append_nil.{0} (And.intro @List.contains_nil.{0} (And.intro @Bool.false_eq_true (And.intro @if_false.{1} (And.intro @if_true.{1} (And.intro @true_and (And.intro @List.getElem?_cons_zero.{0} (And.intro @List.getElem?_cons_succ.{0} (And.intro @Nat.le_refl (And.intro @p_some (And.intro @ge_iff_le.{0} (And.intro @List.filter_nil.{0} (And.intro @Option.map_some.{0,0} (And.intro @ne_eq.{1} (And.intro @not_false_eq_true (And.intro @Bool.not_true (And.intro @Bool.not_false (And.intro @List.mem_singleton.{0} (And.intro @forall_eq.{1} (And.intro @List.not_mem_nil.{0} (And.intro @false_implies (And.intro @implies_true.{0} (And.intro @implies_true.{1} (And.intro @List.forall_mem_map.{0,0} (And.intro @List.length_map.{0,0} (And.intro @and_true (And.intro @intRow_len (And.intro @a_slAV (And.intro @a_rows (And.intro @a_len (And.intro @Int.toNat_natCast (And.intro @List.getElem?_map.{0,0} (And.intro @Nat.zero_add (And.intro @Nat.add_zero (And.intro @List.mem_cons.{0} (And.intro @forall_eq_or_imp.{1} (And.intro @Nat.mul_one (And.intro @decide_true (And.intro @decide_false (And.intro @List.contains_cons.{0} (And.intro @Bool.or_false (And.intro @Bool.false_or (And.intro @Bool.or_true (@Bool.true_or))))))))))))))))))))))))))))))))))))))))))))))))))))))))))
def RY := And.intro @RW (And.intro @fillA.eq_1 (And.intro @fillA.eq_2 (And.intro @stTags.eq_1 (And.intro @stTags.eq_2 (And.intro @flat.eq_1 (And.intro @flat.eq_2 (And.intro @flat.eq_3 (And.intro @flat.eq_4 (And.intro @flat.eq_5 (And.intro @flat.eq_6 (And.intro @flat.eq_7 @flat.eq_8)))))))))))
def RX := And.intro @RY @setCells.eq_1
def KW :=
  And.intro @k_wv (And.intro @k_cl (And.intro @k_clp (And.intro @k_clr (And.intro @k_gd (And.intro @k_cd (And.intro @k_pk (@k_dg)))))))
end Go.Eng
namespace Go.Eng
set_option linter.unusedVariables false
set_option linter.unusedSimpArgs false
set_option linter.unnecessarySimpa false
open Go
set_option linter.unusedVariables false
set_option linter.unusedSimpArgs false
set_option maxRecDepth 10000
set_option maxHeartbeats 4000000
theorem aw_loop' {C : Con} {c : CCode} {Q : Exit → S → Prop} {α : Type} (hd : α → S) (μ : α → Nat) (I : α → Prop)
    (round : ∀ x, I x → ∀ B : S → Prop, (∀ y s, I y → μ y < μ x → Le s (hd y) → B s) → aw C c (athen B Q) (hd x)) (x : α) (hx : I x) {s : S} (h0 : Le s (hd x)) : aw C (.loop c) Q s :=
  aw_loop hd μ I (fun x hx => round x hx _ fun y s hy hμ hle => ⟨hd y, .inl ⟨hle, y, rfl, hy, hμ⟩⟩) hx (.inl h0)
theorem lv_dat (m : List (Nat × Nat)) (nx : Nat) (a a' : AV) (q : Option Nat) : leSV m nx (.dat a q) (.dat a' none) = (a = a') := by cases q <;> rfl
theorem lv_tok (m : List (Nat × Nat)) (nx : Nat) (a a' : AV) (q q' : Nat) : leSV m nx (.dat a (some q)) (.dat a' (some q')) = (a = a' ∧ q = ren m q' ∧ q' < nx) := rfl
theorem lv_ptr (m : List (Nat × Nat)) (nx : Nat) (b o b' o' : Nat) : leSV m nx (.ptr b o) (.ptr b' o') = (b = b' ∧ o = o' ∧ b' < nx) := rfl
theorem lv_rp (m : List (Nat × Nat)) (nx : Nat) (a b : List AV) : leSV m nx (.rp a) (.rp b) = (a = b) := rfl
theorem lv_undef (m : List (Nat × Nat)) (nx : Nat) : leSV m nx .undef .undef = True := rfl
def tokM (a : List (Nat × SV)) : List (Nat × SV) → List (Nat × Nat)
  | [] => []
  | (t, .dat _ (some q)) :: r => match lk t a with
    | some (.dat _ (some q')) => (q, q') :: tokM a r
    | _ => tokM a r
  | _ :: r => tokM a r
def tokT (a : List (Nat × Nat)) : List (Nat × Nat) → List (Nat × Nat)
  | [] => []
  | (o, q) :: r => match lkN o a with
    | some q' => (q, q') :: tokT a r
    | none => tokT a r
def tokB (a : List (Nat × Box)) : List (Nat × Box) → List (Nat × Nat)
  | [] => []
  | (b, x) :: r => match lkB b a with
    | some y => tokT y.tags x.tags ++ tokB a r
    | none => tokB a r
theorem le_tok2 {sl sl' : List (Nat × SV)} {bx bx' : List (Nat × Box)} {lv lv' : List (Nat × Nat)} {nx nx' : Nat} (h : 4 ≤ nx') (h1 : leSlots (tokM sl sl' ++ tokB bx bx') nx' sl sl') (h2 : leBoxes (tokM sl sl' ++ tokB bx bx') nx' bx bx') (h3 : leLive (tokM sl sl' ++ tokB bx bx') nx' lv lv') (h4 : liveInj (tokM sl sl' ++ tokB bx bx') lv') : Le ⟨sl, bx, lv, nx⟩ ⟨sl', bx', lv', nx'⟩ := ⟨h, _, h1, h2, h3, h4⟩
def mkO {α : Type} (l : List α) : Option (List α) := if l = [] then none else some l
def ownSV {α : Type} (row : α → List AV) (l : List α) (t : Nat) : SV := if l = [] then .dat .nils none else .dat (.sl (l.map row)) (some t)
def ownL {α : Type} (l : List α) (t e : Nat) : List (Nat × Nat) := if l = [] then [] else [(t, e)]
set_option linter.defProp false
def LX := And.intro @intRow.eq_1 (And.intro @ownSV.eq_1 (And.intro @ownL.eq_1 (And.intro @leSlots.eq_1 (And.intro @leSlots.eq_2 (And.intro @lv_dat (And.intro @lv_tok (And.intro @lv_ptr (And.intro @lv_rp (And.intro @lv_undef (And.intro @leBoxes.eq_1 (And.intro @leBoxes.eq_2 (And.intro @leTags.eq_1 (And.intro @leTags.eq_2 (And.intro @leLive.eq_1 (And.intro @leLive.eq_2 (And.intro @tokM.eq_1 (And.intro @tokM.eq_2 (And.intro @tokM.eq_3 (And.intro @tokB.eq_1 (And.intro @tokB.eq_2 (And.intro @tokT.eq_1 (And.intro @tokT.eq_2 (And.intro @ren.eq_1 (And.intro @liveInj.eq_1 (And.intro @r_lk (And.intro @r_lkN (And.intro @r_lkB (And.intro @r_lkN0 (@withV_some)))))))))))))))))))))))))))))
theorem wrap_succ {k : Nat} (h : k < 9223372036854775806) : IntKind.i64.wrap ((k : Int) + 1) = ((k + 1 : Nat) : Int) := by rw [wrap_id (by omega) (by omega)]; omega
def listS (s : Int) : List Int := ((List.range 8).map fun (k : Nat) => (k : Int)).filter (hasR s)
def listTo (s : Int) (k : Nat) : List Int := ((List.range k).map fun (k : Nat) => (k : Int)).filter (hasR s)
theorem listTo_succ (s : Int) (k : Nat) : listTo s (k + 1) = if hasR s k then listTo s k ++ [(k : Int)] else listTo s k := by
  simp only [listTo, List.range_succ, List.map_append, List.filter_append, List.map_cons, List.map_nil, List.filter_cons, List.filter_nil]
  split <;> simp
def refList.Spec (C : Con) (f e : Nat) : Prop := ∀ (s : Int) (fr : Option Nat), (fr = none ∨ fr = some e ∧ listS s ≠ []) → C.c f [I s] (slAV intRow (mkO (listS s))) fr
def ofTo (l : List Int) : Nat → Int
  | 0 => 0
  | k + 1 => if (k : Int) ∈ l then bOr .i64 (ofTo l k) (2 ^ k) else ofTo l k
def ofI (l : List Int) : Int := ofTo l 8
def refOf.Spec (C : Con) (f : Nat) : Prop := ∀ l : Option (List Int), (l.getD []).length ≤ 140737488355328 → C.c f [slAV intRow l] (I (ofI (l.getD []))) none
def withR (s p : Int) : Int := ofI (listS s ++ [p])
def refWith.Spec (C : Con) (f : Nat) : Prop := ∀ s p : Int, C.c f [I s, I p] (I (withR s p)) none
theorem take_next {α : Type} {l : List α} {i : Nat} {x : α} (h : l[i]? = some x) : l.take (i + 1) = l.take i ++ [x] := by
  obtain ⟨hi, rfl⟩ := List.getElem?_eq_some_iff.1 h
  rw [List.take_succ_eq_append_getElem hi]
theorem wrap_u64 {k : Nat} (h : k < 18446744073709551616) : IntKind.u64.wrap (k : Int) = k := by
  simp only [IntKind.wrap, IntKind.bits, IntKind.signed]
  simp
  omega
section
variable {P : Program} (hm : P.follows .mixedOrders = true) {f : Nat}
include hm
theorem refList.ok {fH e : Nat} (hc : cFn P f = some (cc_ref01_List fH e)) (hH : refHas.Spec (Pure P) fH) : refList.Spec (Pure P) f e := by
  intro s fr hfr
  refine pure_of hm hc (by show 1 ≤ 17; decide) (aw_flat (keep := []) (i := 0) ?_)
  try simp only [I, B, D, RX, ↓ KW, seval, cc_ref01_List, Z.H]
  refine aw_loop' (fun k : Nat => (⟨[(4, .dat (I k) none), (0, .dat (I s) none), (3, ownSV intRow (listTo s k) 0)], [], ownL (listTo s k) 0 e, 400⟩ : S)) (fun k => 8 - k) (fun k => k ≤ 8) ?_ 0 (by omega) ?_
  · intro k hk A back
    have hw := wrap_succ (k := k) (by omega)
    have hn := listTo_succ s k
    have hlen : (listTo s k).length ≤ k := by
      have := List.length_filter_le (hasR s) ((List.range k).map fun (k : Nat) => (k : Int))
      simpa [listTo] using this
    by_cases hl : listTo s k = []
    · try simp only [I, B, D, RX, ↓ KW, seval, ownSV, ownL, hl]
      refine cd_split (fun h => ?_) (fun h => ?_) <;> try simp only [I, B, D, RX, ↓ KW, seval, h]
      · have h8 := of_decide_eq_true h
        refine call_is (hH _ _) ?_
        try simp only [I, B, D, RX, ↓ KW, seval]
        refine cd_split (fun h' => ?_) (fun h' => ?_) <;> try simp only [I, B, D, RX, ↓ KW, seval, h']
        · refine back (k + 1) _ (by omega) (by omega) (le_tok2 (by decide) ?_ ?_ ?_ ?_) <;> simp [LX, I, B, D, hn, hl, h', hw]
        · refine back (k + 1) _ (by omega) (by omega) (le_tok2 (by decide) ?_ ?_ ?_ ?_) <;> simp [LX, I, B, D, hn, hl, h', hw]
      · have : k = 8 := by have := of_decide_eq_false h; omega
        subst this
        rcases hfr with rfl | ⟨rfl, hne⟩
        · try simp only [I, B, D, RX, ↓ KW, seval]
          simp [mkO, show listS s = listTo s 8 from rfl, hl, slAV]
        · exact absurd hl hne
    · try simp only [I, B, D, RX, ↓ KW, seval, ownSV, ownL, hl]
      refine cd_split (fun h => ?_) (fun h => ?_) <;> try simp only [I, B, D, RX, ↓ KW, seval, h]
      · have h8 := of_decide_eq_true h
        refine call_is (hH _ _) ?_
        try simp only [I, B, D, RX, ↓ KW, seval]
        refine cd_split (fun h' => ?_) (fun h' => ?_) <;> try simp only [I, B, D, RX, ↓ KW, seval, h']
        · refine ⟨by omega, ?_⟩
          refine back (k + 1) _ (by omega) (by omega) (le_tok2 (by decide) ?_ ?_ ?_ ?_) <;> simp [LX, I, B, D, hn, hl, h', hw]
        · refine back (k + 1) _ (by omega) (by omega) (le_tok2 (by decide) ?_ ?_ ?_ ?_) <;> simp [LX, I, B, D, hn, hl, h', hw]
      · have : k = 8 := by have := of_decide_eq_false h; omega
        subst this
        rcases hfr with rfl | ⟨rfl, hne⟩
        · try simp only [I, B, D, RX, ↓ KW, seval]
          simp [mkO, show listS s = listTo s 8 from rfl, hl, slAV]
        · try simp only [I, B, D, RX, ↓ KW, seval]
          simp [mkO, show listS s = listTo s 8 from rfl, hl, slAV]
  · refine le_tok2 (by decide) ?_ ?_ ?_ ?_ <;> simp [LX, I, B, D, listTo]
theorem refOf.ok (hc : cFn P f = some cc_ref01_Of) : refOf.Spec (Pure P) f := by
  intro l hlen
  have hL : ((l.getD []).length : Int) < 9223372036854775807 := by omega
  refine pure_of hm hc (by show 1 ≤ 28; decide) (aw_flat (keep := []) (i := 0) ?_)
  try simp only [I, B, D, RX, ↓ KW, seval, cc_ref01_Of, Z.H, a_slAV]
  refine aw_loop' (fun k : Nat => (⟨[(4, .dat (I k) none), (0, .dat (slAV intRow l) none), (3, .dat (I (ofTo (l.getD []) k)) none)], [], [], 400⟩ : S)) (fun k => 8 - k) (fun k => k ≤ 8) ?_ 0 (by omega) ?_
  · intro k hk A back
    have hw := wrap_succ (k := k) (by omega)
    try simp only [I, B, D, RX, ↓ KW, seval, a_len]
    refine cd_split (fun h => ?_) (fun h => ?_) <;> try simp only [I, B, D, RX, ↓ KW, seval, h]
    · have h8 := of_decide_eq_true h
      refine aw_loop' (fun j : Nat => (⟨[(5, .dat (I j) none), (0, .dat (slAV intRow l) none), (4, .dat (I k) none), (3, .dat (I (ofTo (l.getD []) k)) none)], [], [], 400⟩ : S)) (fun j => (l.getD []).length - j) (fun j => j ≤ (l.getD []).length ∧ ∀ x ∈ (l.getD []).take j, x ≠ k) ?_ 0 (by simp) ?_
      · intro j ⟨hj, hnot⟩ A' back'
        have hw' := wrap_succ (k := j) (by omega)
        try simp only [I, B, D, RX, ↓ KW, seval, a_rows, a_len]
        refine cd_split (fun h' => ?_) (fun h' => ?_) <;> try simp only [I, B, D, RX, ↓ KW, seval, h']
        · have h9 := of_decide_eq_true h'
          have hjl : j < (l.getD []).length := by omega
          obtain ⟨x, hx⟩ : ∃ x, (l.getD [])[j]? = some x := ⟨_, List.getElem?_eq_getElem hjl⟩
          have htk := take_next hx
          refine ⟨by omega, ?_⟩
          try simp only [I, B, D, RX, ↓ KW, seval, hx, intRow]
          refine cd_split (fun h2 => ?_) (fun h2 => ?_) <;> try simp only [I, B, D, RX, ↓ KW, seval, h2]
          · have hxk : x = k := by simpa using h2
            have hm : (k : Int) ∈ l.getD [] := by
              rw [← hxk]; exact List.mem_of_getElem? hx
            rw [wrap_u64 (by omega)]
            refine ⟨by omega, ?_⟩
            rw [shl_small (by omega) (by omega)]
            refine back (k + 1) _ (by omega) (by omega) (le_tok2 (by decide) ?_ ?_ ?_ ?_) <;> simp [LX, I, B, D, hw, ofTo, hm]
          · have hxk : x ≠ k := by simpa using h2
            refine back' (j + 1) _ ⟨by omega, ?_⟩ (by omega) ?_
            · rw [htk]; simp only [List.mem_append, List.mem_singleton]; rintro y (hy | rfl); exact hnot y hy; exact hxk
            · refine le_tok2 (by decide) ?_ ?_ ?_ ?_ <;> simp [LX, I, B, D, hw']
        · have : j = (l.getD []).length := by have := of_decide_eq_false h'; omega
          subst this
          have hm : ¬ (k : Int) ∈ l.getD [] := by
            intro hk
            exact hnot k (by simpa using hk) rfl
          refine back (k + 1) _ (by omega) (by omega) (le_tok2 (by decide) ?_ ?_ ?_ ?_) <;> simp [LX, I, B, D, hw, ofTo, hm]
      · refine le_tok2 (by decide) ?_ ?_ ?_ ?_ <;> simp [LX, I, B, D]
    · have : k = 8 := by have := of_decide_eq_false h; omega
      subst this
      rfl
  · refine le_tok2 (by decide) ?_ ?_ ?_ ?_ <;> simp [LX, I, B, D, ofTo]
theorem refWith.ok {fL e fO : Nat} (hc : cFn P f = some (cc_ref01_With fL e fO)) (hL : refList.Spec (Pure P) fL e) (hO : refOf.Spec (Pure P) fO) : refWith.Spec (Pure P) f := by
  intro s p
  refine pure_of hm hc (by show 2 ≤ 11; decide) (aw_flat (keep := []) (i := 0) ?_)
  try simp only [I, B, D, RX, ↓ KW, seval, cc_ref01_With, Z.H]
  by_cases h : listS s = []
  · refine call_is (hL s none (.inl rfl)) ?_
    try simp only [I, B, D, RX, ↓ KW, seval, h, mkO, slAV]
    refine call_is (hO (some [p]) (by simp)) ?_
    try simp only [I, B, D, RX, ↓ KW, seval]
    simp [withR, h]
  · have hl : (listS s).length ≤ 8 := by
      have := List.length_filter_le (hasR s) ((List.range 8).map fun (k : Nat) => (k : Int))
      simpa [listS] using this
    refine call_own (hL s (some e) (.inr ⟨rfl, h⟩)) ?_
    try simp only [I, B, D, RX, ↓ KW, seval, h, mkO, slAV]
    refine ⟨by omega, ?_⟩
    have h2 := hO (some (listS s ++ [p])) (by simp; omega)
    simp only [slAV, Option.getD_some, List.map_append, List.map_cons, List.map_nil, intRow, I] at h2
    refine call_is h2 ?_
    try simp only [I, B, D, RX, ↓ KW, seval]
    simp [withR]
end
end Go.Eng
namespace Go.Eng
set_option linter.unusedVariables false
set_option linter.unusedSimpArgs false
set_option linter.unnecessarySimpa false
open Go
set_option linter.unusedVariables false
set_option linter.unusedSimpArgs false
set_option maxRecDepth 10000
set_option maxHeartbeats 4000000
theorem part_in {cs mid : List AV} {off z : Nat} (h : partA cs off (some z) = some (.agg mid)) {j : Nat} (hj : j < z) : cs[off + j]? = mid[j]? := by
  simp only [partA] at h
  split at h
  · simp only [Option.some.injEq, AV.agg.injEq] at h
    rw [← h, List.getElem?_take_of_lt hj, List.getElem?_drop]
  · cases h
section
variable {t : Tb} (h : t.Ok)
include h
theorem Tb.groups_at : t.cells[104]? = some (slAV Gr.cells t.groups) := by
  simp [Tb.cells, List.getElem?_append, flatMap_len Ph.len, h.phases]
theorem Tb.rails_at : t.cells[114]? = some (slAV Rl.cells t.rails) := by
  simp [Tb.cells, List.getElem?_append, flatMap_len Ph.len, h.phases, h.conflict, h.flash, List.getElem?_cons]
theorem Tb.buses_at : t.cells[115]? = some (slAV Bs.cells t.buses) := by
  simp [Tb.cells, List.getElem?_append, flatMap_len Ph.len, h.phases, h.conflict, h.flash, List.getElem?_cons]
theorem Tb.tail_at (j : Nat) (hj : j < 5) : t.cells[116 + j]? = [I t.extend, I t.budget, I t.start, I t.revert, I t.least][j]? := by
  have : j = 0 ∨ j = 1 ∨ j = 2 ∨ j = 3 ∨ j = 4 := by omega
  rcases this with rfl | rfl | rfl | rfl | rfl <;>
  simp [Tb.cells, List.getElem?_append, flatMap_len Ph.len, h.phases, h.conflict, h.flash, List.getElem?_cons]
theorem Tb.share_at : t.cells[130]? = some (I t.share) := by
  simp [Tb.cells, List.getElem?_append, flatMap_len Ph.len, h.phases, h.conflict, h.flash, List.getElem?_cons]
omit h in
theorem Tb.ph_at {i : Nat} {p : Ph} (hp : t.phases[i]? = some p) (j : Nat) (hj : j < 13) : t.cells[i * 13 + j]? = p.cells[j]? := part_in (Tb.phase_part hp) hj
omit h in
theorem Tb.ph_all {i : Nat} {p : Ph} (hp : t.phases[i]? = some p) : t.cells[i * 13]? = some (B p.on) ∧ t.cells[i * 13 + 1]? = some (I p.min) ∧ t.cells[i * 13 + 2]? = some (I p.gap) ∧ t.cells[i * 13 + 3]? = some (I p.max) ∧ t.cells[i * 13 + 4]? = some (I p.top) ∧ t.cells[i * 13 + 5]? = some (I p.step) ∧ t.cells[i * 13 + 6]? = some (I p.yellow) ∧ t.cells[i * 13 + 7]? = some (I p.red) ∧ t.cells[i * 13 + 8]? = some (I p.walk) ∧ t.cells[i * 13 + 9]? = some (I p.blinks) ∧ t.cells[i * 13 + 10]? = some (I p.recall) ∧ t.cells[i * 13 + 11]? = some (B p.lock) ∧ t.cells[i * 13 + 12]? = some (B p.rest) :=
  have hj := fun j hj => Tb.ph_at hp j hj
  ⟨hj 0 (by omega), hj 1 (by omega), hj 2 (by omega), hj 3 (by omega), hj 4 (by omega), hj 5 (by omega), hj 6 (by omega), hj 7 (by omega), hj 8 (by omega), hj 9 (by omega), hj 10 (by omega), hj 11 (by omega), hj 12 (by omega)⟩
theorem Tb.conflict_at {i : Nat} {c : Int} (hc : t.conflict[i]? = some c) : t.cells[105 + i]? = some (I c) := by
  have hi : i < 8 := by have := (List.getElem?_eq_some_iff.1 hc).1; rw [h.conflict] at this; exact this
  have e : (t.phases.flatMap Ph.cells).length = 104 := by rw [flatMap_len Ph.len, h.phases]
  unfold Tb.cells
  rw [List.getElem?_append_right (by omega), e, show 105 + i - 104 = i + 1 by omega, List.getElem?_cons_succ, List.getElem?_append_left (by simp [h.conflict, hi]), List.getElem?_map, hc]; rfl
end
structure Sp where
  group : Int
  ring : Int
  pos : Int
  p : Int
  deriving Inhabited, DecidableEq
def Sp.cells (s : Sp) : List AV := [I s.group, I s.ring, I s.pos, I s.p]
theorem Sp.len (s : Sp) : s.cells.length = 4 := rfl
theorem Gr.len (s : Gr) : s.cells.length = 2 := rfl
def Gr.row (g : Gr) (k : Nat) : Option (List Int) := if k = 0 then g.a else g.b
def rowSpots (g k : Nat) (row : List Int) : List Sp := row.zipIdx.filterMap fun (p, i) => if 0 ≤ p ∧ p < 8 then some ⟨g, k, i, p⟩ else none
def grSpots (gr : Gr) (g k : Nat) : List Sp := (List.range k).flatMap fun k => rowSpots g k ((gr.row k).getD [])
def spotsTo (l : List Gr) (n : Nat) : List Sp := (l.take n).zipIdx.flatMap fun (gr, g) => grSpots gr g 2
def spots (t : Tb) : List Sp := spotsTo (t.groups.getD []) (t.groups.getD []).length
theorem le_ownSV {α : Type} {row : α → List AV} {l : List α} {m : List (Nat × Nat)} {nx t t' : Nat} (h : ren m t' = t) (ht : t' < nx) : leSV m nx (ownSV row l t) (ownSV row l t') := by
  unfold ownSV; split
  · exact rfl
  · exact ⟨rfl, h.symm, ht⟩
theorem le_ownL {α : Type} {l : List α} {m : List (Nat × Nat)} {nx t t' e : Nat} (h : ren m t' = t) (ht : t' < nx) : leLive m nx (ownL l t e) (ownL l t' e) := by
  unfold ownL; split
  · trivial
  · simp [leLive, h, ht, r_lkN]
theorem inj_ownL {α : Type} {l : List α} {m : List (Nat × Nat)} {t e : Nat} : liveInj m (ownL l t e) := by
  unfold ownL; split <;> simp [liveInj]
theorem rowSpots_next {g k : Nat} {row : List Int} {i : Nat} {x : Int} (h : row[i]? = some x) : (0 ≤ x ∧ x < 8 → rowSpots g k (row.take (i + 1)) = rowSpots g k (row.take i) ++ [⟨g, k, i, x⟩]) ∧ (¬ (0 ≤ x ∧ x < 8) → rowSpots g k (row.take (i + 1)) = rowSpots g k (row.take i)) := by
  have hl : (row.take i).length = i := take_len h
  unfold rowSpots
  rw [take_next h, List.zipIdx_append, List.filterMap_append, hl]
  constructor <;> intro hx <;> simp [hx]
theorem rowSpots_len (g k : Nat) (row : List Int) : (rowSpots g k row).length ≤ row.length := by
  have := List.length_filterMap_le (fun (p : Int × Nat) => if 0 ≤ p.1 ∧ p.1 < 8 then some (⟨g, k, p.2, p.1⟩ : Sp) else none) row.zipIdx
  simpa [rowSpots] using this
theorem grSpots_next (gr : Gr) (g k : Nat) : grSpots gr g (k + 1) = grSpots gr g k ++ rowSpots g k ((gr.row k).getD []) := by
  simp [grSpots, List.range_succ]
theorem spotsTo_next {l : List Gr} {g : Nat} {gr : Gr} (h : l[g]? = some gr) : spotsTo l (g + 1) = spotsTo l g ++ grSpots gr g 2 := by
  have hl : (l.take g).length = g := take_len h
  unfold spotsTo
  rw [take_next h, List.zipIdx_append, List.flatMap_append, hl]
  simp
theorem grSpots_len {gr : Gr} (hr : (gr.a.getD []).length ≤ 1048576 ∧ (gr.b.getD []).length ≤ 1048576) (g k : Nat) (hk : k ≤ 2) : (grSpots gr g k).length ≤ k * 1048576 := by
  have h0 := rowSpots_len g 0 (gr.a.getD [])
  have h1 := rowSpots_len g 1 (gr.b.getD [])
  have : k = 0 ∨ k = 1 ∨ k = 2 := by omega
  rcases this with rfl | rfl | rfl
  · simp [grSpots]
  · rw [grSpots_next, List.length_append]
    have : (grSpots gr g 0).length = 0 := rfl
    have h0' : (rowSpots g 0 ((gr.row 0).getD [])).length ≤ (gr.a.getD []).length := h0
    omega
  · rw [grSpots_next, grSpots_next, List.length_append, List.length_append]
    have : (grSpots gr g 0).length = 0 := rfl
    have h0' : (rowSpots g 0 ((gr.row 0).getD [])).length ≤ (gr.a.getD []).length := h0
    have h1' : (rowSpots g 1 ((gr.row 1).getD [])).length ≤ (gr.b.getD []).length := h1
    omega
theorem spotsTo_len {t : Tb} (ht : t.Ok) : ∀ n, n ≤ (t.groups.getD []).length → (spotsTo (t.groups.getD []) n).length ≤ n * 2097152
  | 0, _ => by simp [spotsTo]
  | n + 1, h => by
    obtain ⟨gr, hgr⟩ : ∃ x, (t.groups.getD [])[n]? = some x := ⟨_, List.getElem?_eq_getElem (by omega)⟩
    have := spotsTo_len ht n (by omega)
    have h2 := grSpots_len (ht.rows gr (List.mem_of_getElem? hgr)) n 2 (by omega)
    rw [spotsTo_next hgr, List.length_append]
    omega
theorem spots_len {t : Tb} (ht : t.Ok) : (spots t).length ≤ 2199023255552 := by
  have := spotsTo_len ht _ (Nat.le_refl _)
  have := ht.groups
  simp only [spots]
  omega
theorem spots_size {t : Tb} (ht : t.Ok) {g k i : Nat} {gr : Gr} (hg : (t.groups.getD [])[g]? = some gr) (hk : k < 2) (hi : i < ((gr.row k).getD []).length) : ((spotsTo (t.groups.getD []) g ++ grSpots gr g k ++ rowSpots g k (((gr.row k).getD []).take i)).length + 1) * 32 ≤ 140737488355328 := by
  have hlt : g < (t.groups.getD []).length := (List.getElem?_eq_some_iff.1 hg).1
  have h1 := spotsTo_len ht g (by omega)
  have hr := ht.rows gr (List.mem_of_getElem? hg)
  have h2 := grSpots_len hr g k (by omega)
  have h3 := rowSpots_len g k (((gr.row k).getD []).take i)
  have h4 : (((gr.row k).getD []).take i).length ≤ 1048576 := by
    have : k = 0 ∨ k = 1 := by omega
    rcases this with rfl | rfl
    · exact Nat.le_trans (List.length_take_le' _ _) hr.1
    · exact Nat.le_trans (List.length_take_le' _ _) hr.2
  have := ht.groups
  rw [List.length_append, List.length_append]
  omega
def spots.Spec (C : Con) (f e : Nat) : Prop := ∀ (t : Tb) (fr : Option Nat), t.Ok → (fr = none ∨ fr = some e ∧ spots t ≠ []) → C.c f [.agg t.cells] (slAV Sp.cells (mkO (spots t))) fr
section
variable {P : Program} (hm : P.follows .mixedOrders = true) {f : Nat}
include hm
theorem spots.ok {e : Nat} (hc : cFn P f = some (cc_ref08_Spots e)) : spots.Spec (Pure P) f e := by
  intro t fr ht hfr
  have hg := Tb.groups_at ht
  refine pure_of hm hc (by show 1 ≤ 56; decide) (aw_flat (keep := []) (i := 0) ?_)
  try simp only [I, B, D, RX, ↓ KW, seval, cc_ref08_Spots, Z.H]
  refine aw_loop' (fun g : Nat => (⟨[(4, .dat (I g) none), (1, .ptr 4 0), (3, ownSV Sp.cells (spotsTo (t.groups.getD []) g) 0)], [(4, ⟨t.cells, []⟩)], ownL (spotsTo (t.groups.getD []) g) 0 e, 400⟩ : S)) (fun g => (t.groups.getD []).length - g) (fun g => g ≤ (t.groups.getD []).length) ?_ 0 (by omega) ?_
  · intro g hg1 A back
    have hb := ht.groups
    have hw := wrap_succ (k := g) (by omega)
    try simp only [I, B, D, RX, ↓ KW, seval, p_none, hg]
    refine cd_split (fun h => ?_) (fun h => ?_) <;> try simp only [I, B, D, RX, ↓ KW, seval, p_none, hg, h]
    · have hlt : g < (t.groups.getD []).length := by have := of_decide_eq_true h; omega
      obtain ⟨gr, hgr⟩ : ∃ x, (t.groups.getD [])[g]? = some x := ⟨_, List.getElem?_eq_getElem hlt⟩
      have hrs := ht.rows gr (List.mem_of_getElem? hgr)
      refine aw_loop' (fun k : Nat => (⟨[(5, .dat (I k) none), (4, .dat (I g) none), (1, .ptr 4 0), (3, ownSV Sp.cells (spotsTo (t.groups.getD []) g ++ grSpots gr g k) 0)], [(4, ⟨t.cells, []⟩)], ownL (spotsTo (t.groups.getD []) g ++ grSpots gr g k) 0 e, 400⟩ : S)) (fun k => 2 - k) (fun k => k ≤ 2) ?_ 0 (by omega) ?_
      · intro k hk A1 back1
        have hw1 := wrap_succ (k := k) (by omega)
        try simp only [I, B, D, RX, ↓ KW, seval]
        refine cd_split (fun h1 => ?_) (fun h1 => ?_) <;> try simp only [I, B, D, RX, ↓ KW, seval, h1]
        · have hk2 : k < 2 := by have := of_decide_eq_true h1; omega
          have hrow : (List.drop k gr.cells)[0]? = some (slAV intRow (gr.row k)) := by
            have : k = 0 ∨ k = 1 := by omega
            rcases this with rfl | rfl <;> rfl
          have hrl : ((gr.row k).getD []).length ≤ 1048576 := by
            have : k = 0 ∨ k = 1 := by omega
            rcases this with rfl | rfl
            exact hrs.1
            exact hrs.2
          refine aw_loop' (fun i : Nat => (⟨[(6, .dat (I i) none), (5, .dat (I k) none), (4, .dat (I g) none), (1, .ptr 4 0), (3, ownSV Sp.cells (spotsTo (t.groups.getD []) g ++ grSpots gr g k ++ rowSpots g k (((gr.row k).getD []).take i)) 0)], [(4, ⟨t.cells, []⟩)], ownL (spotsTo (t.groups.getD []) g ++ grSpots gr g k ++ rowSpots g k (((gr.row k).getD []).take i)) 0 e, 400⟩ : S)) (fun i => ((gr.row k).getD []).length - i) (fun i => i ≤ ((gr.row k).getD []).length) ?_ 0 (by omega) ?_
          · intro i hi A2 back2
            have hw2 := wrap_succ (k := i) (by omega)
            try simp only [I, B, D, RX, ↓ KW, seval, p_none, hg, hgr, Gr.len]
            refine ⟨by omega, by omega, ?_⟩
            try simp only [I, B, D, RX, ↓ KW, seval, hrow]
            refine cd_split (fun h2 => ?_) (fun h2 => ?_) <;> try simp only [I, B, D, RX, ↓ KW, seval, p_none, hg, hgr, Gr.len, h2]
            · have hil : i < ((gr.row k).getD []).length := by have := of_decide_eq_true h2; omega
              obtain ⟨x, hx⟩ : ∃ x, ((gr.row k).getD [])[i]? = some x := ⟨_, List.getElem?_eq_getElem hil⟩
              have hnx := rowSpots_next (g := g) (k := k) hx
              refine ⟨by omega, by omega, ?_⟩
              try simp only [I, B, D, RX, ↓ KW, seval, hrow]
              refine ⟨by omega, ?_⟩
              try simp only [I, B, D, RX, ↓ KW, seval, hx, intRow, p_none]
              repeat' (((first | refine gd_split ?_ ?_ | refine cd_split ?_ ?_ | refine pk_split ?_ ?_) <;> intro h) <;> try simp only [I, B, D, RX, ↓ KW, seval, h])
              · rename_i ha
                have hx8 : 0 ≤ x ∧ x < 8 := ⟨of_decide_eq_true ha, of_decide_eq_true h⟩
                have hnx := hnx.1 hx8
                have hsz := spots_size ht hgr hk2 hil
                generalize spotsTo (t.groups.getD []) g ++ grSpots gr g k = L at *
                by_cases hl : L ++ rowSpots g k (((gr.row k).getD []).take i) = []
                · try simp only [I, B, D, RX, ↓ KW, seval, ownSV, ownL, hl]
                  refine back2 (i + 1) _ (by omega) (by omega) (le_tok2 (by decide) ?_ ?_ ?_ ?_) <;> simp [LX, I, B, D, hnx, hw2, Sp.cells, ← List.append_assoc, hl]
                · try simp only [I, B, D, RX, ↓ KW, seval, ownSV, ownL, hl, Sp.len]
                  refine ⟨hsz, ?_⟩
                  refine back2 (i + 1) _ (by omega) (by omega) (le_tok2 (by decide) ?_ ?_ ?_ ?_) <;> simp [LX, I, B, D, hnx, hw2, Sp.cells, ← List.append_assoc, hl]
              · have hnx := hnx.2 (by have := of_decide_eq_false h; omega)
                refine back2 (i + 1) _ (by omega) (by omega) (le_mk [(0, 0)] (by decide) ?_ ?_ ?_ inj_ownL) <;> simp [le_ownSV, le_ownL, leSlots, lv_dat, lv_tok, lv_ptr, lv_rp, lv_undef, leBoxes, leTags, leLive, ren, liveInj, r_lk, r_lkN, r_lkB, r_lkN0, I, B, D, withV_some, hnx, hw2, ← List.append_assoc]
              · have hnx := hnx.2 (by have := of_decide_eq_false h; omega)
                refine back2 (i + 1) _ (by omega) (by omega) (le_mk [(0, 0)] (by decide) ?_ ?_ ?_ inj_ownL) <;> simp [le_ownSV, le_ownL, leSlots, lv_dat, lv_tok, lv_ptr, lv_rp, lv_undef, leBoxes, leTags, leLive, ren, liveInj, r_lk, r_lkN, r_lkB, r_lkN0, I, B, D, withV_some, hnx, hw2, ← List.append_assoc]
            · have : i = ((gr.row k).getD []).length := by have := of_decide_eq_false h2; omega
              subst this
              have hk1 := grSpots_next gr g k
              rw [List.take_length, List.append_assoc, ← hk1]
              refine back1 (k + 1) _ (by omega) (by omega) (le_mk [(0, 0)] (by decide) ?_ ?_ ?_ inj_ownL) <;> simp [le_ownSV, le_ownL, leSlots, lv_dat, lv_tok, lv_ptr, lv_rp, lv_undef, leBoxes, leTags, leLive, ren, liveInj, r_lk, r_lkN, r_lkB, r_lkN0, I, B, D, withV_some, hw1]
          · simp [rowSpots]
            refine le_mk [(0, 0)] (by decide) ?_ ?_ ?_ inj_ownL <;> simp [le_ownSV, le_ownL, inj_ownL, leSlots, lv_dat, lv_tok, lv_ptr, lv_rp, lv_undef, leBoxes, leTags, leLive, ren, liveInj, r_lk, r_lkN, r_lkB, r_lkN0, I, B, D, withV_some]
        · have : k = 2 := by have := of_decide_eq_false h1; omega
          subst this
          have hg1 := spotsTo_next hgr
          rw [← hg1]
          refine back (g + 1) _ (by omega) (by omega) (le_mk [(0, 0)] (by decide) ?_ ?_ ?_ inj_ownL) <;> simp [le_ownSV, le_ownL, leSlots, lv_dat, lv_tok, lv_ptr, lv_rp, lv_undef, leBoxes, leTags, leLive, ren, liveInj, r_lk, r_lkN, r_lkB, r_lkN0, I, B, D, withV_some, hw]
      · simp [grSpots]
        refine le_mk [(0, 0)] (by decide) ?_ ?_ ?_ inj_ownL <;> simp [le_ownSV, le_ownL, inj_ownL, leSlots, lv_dat, lv_tok, lv_ptr, lv_rp, lv_undef, leBoxes, leTags, leLive, ren, liveInj, r_lk, r_lkN, r_lkB, r_lkN0, I, B, D, withV_some]
    · have : g = (t.groups.getD []).length := by have := of_decide_eq_false h; omega
      subst this
      have hs : spots t = spotsTo (t.groups.getD []) (t.groups.getD []).length := rfl
      rw [hs] at hfr ⊢
      generalize spotsTo (t.groups.getD []) (t.groups.getD []).length = L at *
      by_cases hl : L = []
      · rcases hfr with rfl | ⟨rfl, hne⟩
        · try simp only [I, B, D, RX, ↓ KW, seval, ownSV, ownL, mkO, slAV, hl]
        · exact absurd hl hne
      · rcases hfr with rfl | ⟨rfl, hne⟩
        · try simp only [I, B, D, RX, ↓ KW, seval, ownSV, ownL, mkO, slAV, hl]
        · try simp only [I, B, D, RX, ↓ KW, seval, ownSV, ownL, mkO, slAV, hl]
  · simp [spotsTo]
    refine le_tok2 (by decide) ?_ ?_ ?_ ?_ <;> simp [LX, I, B, D]
end
end Go.Eng
namespace Go.Eng
set_option linter.unusedVariables false
set_option linter.unusedSimpArgs false
set_option linter.unnecessarySimpa false
open Go
set_option linter.unusedVariables false
set_option linter.unusedSimpArgs false
set_option maxRecDepth 10000
set_option maxHeartbeats 4000000
def sumI (l : List Int) : Int := l.foldl addI 0
def mostI (l : List Int) : Int := l.foldl (fun n x => if x > n then x else n) 0
theorem fold_next {α β : Type} {f : β → α → β} {b : β} {l : List α} {i : Nat} {x : α} (h : l[i]? = some x) : (l.take (i + 1)).foldl f b = f ((l.take i).foldl f b) x := by
  rw [take_next h, List.foldl_append]; rfl
def sum1.Spec (C : Con) (f : Nat) : Prop := ∀ l : Option (List Int), (l.getD []).length ≤ 140737488355328 → C.c f [slAV intRow l] (I (sumI (l.getD []))) none
def most.Spec (C : Con) (f : Nat) : Prop := ∀ l : Option (List Int), (l.getD []).length ≤ 140737488355328 → C.c f [slAV intRow l] (I (mostI (l.getD []))) none
def whereR (t : Tb) (p : Int) : Sp × Bool := match (spots t).find? (fun x => x.p == p) with
  | some x => (x, true)
  | none => (⟨0, 0, 0, 0⟩, false)
def where.Spec (C : Con) (f : Nat) : Prop := ∀ (t : Tb) (p : Int), t.Ok → C.c f [.agg t.cells, I p] (.tup [.agg (whereR t p).1.cells, B (whereR t p).2]) none
def besideR (t : Tb) (p q : Int) : Bool := (whereR t p).2 && (whereR t q).2 && (whereR t p).1.group == (whereR t q).1.group && (whereR t p).1.ring != (whereR t q).1.ring
def beside.Spec (C : Con) (f : Nat) : Prop := ∀ (t : Tb) (p q : Int), t.Ok → C.c f [.agg t.cells, I p, I q] (B (besideR t p q)) none
def phAt (t : Tb) (p : Int) : Ph := t.phases.getD p.toNat default
def onTo (t : Tb) (k : Nat) : List Int := ((List.range k).map fun (k : Nat) => (k : Int)).filter fun p => (phAt t p).on
def onI (t : Tb) : Int := ofI (onTo t 8)
def on.Spec (C : Con) (f : Nat) : Prop := ∀ (t : Tb), t.Ok → C.c f [.agg t.cells] (I (onI t)) none
theorem onTo_succ (t : Tb) (k : Nat) : onTo t (k + 1) = if (phAt t k).on then onTo t k ++ [(k : Int)] else onTo t k := by
  simp only [onTo, List.range_succ, List.map_append, List.filter_append, List.map_cons, List.map_nil, List.filter_cons, List.filter_nil]
  split <;> simp
theorem phAt_get {t : Tb} (h : t.Ok) {k : Nat} (hk : k < 8) : t.phases[k]? = some (phAt t k) := by
  have : k < t.phases.length := by rw [h.phases]; exact hk
  simp [phAt, this]
theorem Tb.ph_int {t : Tb} (ht : t.Ok) {x : Int} (h0 : 0 ≤ x) (h8 : x < 8) : t.cells[x.toNat * 13]? = some (B (phAt t x).on) ∧ t.cells[x.toNat * 13 + 1]? = some (I (phAt t x).min) ∧ t.cells[x.toNat * 13 + 2]? = some (I (phAt t x).gap) ∧ t.cells[x.toNat * 13 + 3]? = some (I (phAt t x).max) ∧ t.cells[x.toNat * 13 + 4]? = some (I (phAt t x).top) ∧ t.cells[x.toNat * 13 + 5]? = some (I (phAt t x).step) ∧ t.cells[x.toNat * 13 + 6]? = some (I (phAt t x).yellow) ∧ t.cells[x.toNat * 13 + 7]? = some (I (phAt t x).red) ∧ t.cells[x.toNat * 13 + 8]? = some (I (phAt t x).walk) ∧ t.cells[x.toNat * 13 + 9]? = some (I (phAt t x).blinks) ∧ t.cells[x.toNat * 13 + 10]? = some (I (phAt t x).recall) ∧ t.cells[x.toNat * 13 + 11]? = some (B (phAt t x).lock) ∧ t.cells[x.toNat * 13 + 12]? = some (B (phAt t x).rest) := by
  have := Tb.ph_all (phAt_get ht (k := x.toNat) (by omega))
  rw [Int.toNat_of_nonneg h0] at this
  exact this
theorem Tb.ph_whole {t : Tb} (ht : t.Ok) {x : Int} (h0 : 0 ≤ x) (h8 : x < 8) : partA t.cells (x.toNat * 13) (some 13) = some (.agg (phAt t x).cells) := by
  have := Tb.phase_part (phAt_get ht (k := x.toNat) (by omega))
  rw [Int.toNat_of_nonneg h0] at this
  exact this
theorem find_at {α : Type} {p : α → Bool} {l : List α} {i : Nat} {x : α} (h : l[i]? = some x) (hp : p x = true) (hn : ∀ y ∈ l.take i, p y = false) : l.find? p = some x := by
  rw [list_at h, List.find?_append]
  have : (l.take i).find? p = none := by rw [List.find?_eq_none]; intro y hy; simp [hn y hy]
  simp [this, hp]
section
variable {P : Program} (hm : P.follows .mixedOrders = true) {f : Nat}
include hm
theorem Sum.ok {fA : Nat} (hc : cFn P f = some (cc_ref01_Sum fA)) (hA : Add.Spec (Pure P) fA) : sum1.Spec (Pure P) f := by
  intro l hlen
  refine pure_of hm hc (by show 1 ≤ 18; decide) (aw_flat (keep := []) (i := 0) ?_)
  try simp only [I, B, D, RX, ↓ KW, seval, cc_ref01_Sum, Z.H]
  refine aw_loop' (fun i : Nat => (⟨[(4, .dat (I i) none), (0, .dat (slAV intRow l) none), (3, .dat (I (sumI ((l.getD []).take i))) none)], [], [], 400⟩ : S)) (fun i => (l.getD []).length - i) (fun i => i ≤ (l.getD []).length) ?_ 0 (by omega) ?_
  · intro i hi A back
    have hw := wrap_succ (k := i) (by omega)
    try simp only [I, B, D, RX, ↓ KW, seval]
    refine cd_split (fun h => ?_) (fun h => ?_) <;> try simp only [I, B, D, RX, ↓ KW, seval, h]
    · have hlt : i < (l.getD []).length := by have := of_decide_eq_true h; omega
      obtain ⟨x, hx⟩ : ∃ x, (l.getD [])[i]? = some x := ⟨_, List.getElem?_eq_getElem hlt⟩
      have hn : sumI ((l.getD []).take (i + 1)) = addI (sumI ((l.getD []).take i)) x := fold_next hx
      refine ⟨by omega, ?_⟩
      try simp only [I, B, D, RX, ↓ KW, seval, hx, intRow]
      refine call_is (hA _ _) ?_
      try simp only [I, B, D, RX, ↓ KW, seval]
      refine back (i + 1) _ (by omega) (by omega) (le_tok2 (by decide) ?_ ?_ ?_ ?_) <;> simp [LX, I, B, D, hw, hn]
    · have : i = (l.getD []).length := by have := of_decide_eq_false h; omega
      subst this
      simp
  · refine le_tok2 (by decide) ?_ ?_ ?_ ?_ <;> simp [LX, I, B, D, sumI]
theorem sum1.ok {fS : Nat} (hc : cFn P f = some (cc_ref08_sum fS)) (hS : sum1.Spec (Pure P) fS) : sum1.Spec (Pure P) f := by
  intro l hlen
  refine pure_of hm hc (by show 1 ≤ 5; decide) (aw_flat (keep := []) (i := 0) ?_)
  try simp only [I, B, D, RX, ↓ KW, seval, cc_ref08_sum, Z.H]
  refine call_is (hS l hlen) ?_
  try simp only [I, B, D, RX, ↓ KW, seval]
theorem most.ok (hc : cFn P f = some cc_ref08_most) : most.Spec (Pure P) f := by
  intro l hlen
  refine pure_of hm hc (by show 1 ≤ 18; decide) (aw_flat (keep := []) (i := 0) ?_)
  try simp only [I, B, D, RX, ↓ KW, seval, cc_ref08_most, Z.H]
  refine aw_loop' (fun i : Nat => (⟨[(4, .dat (I i) none), (0, .dat (slAV intRow l) none), (3, .dat (I (mostI ((l.getD []).take i))) none)], [], [], 400⟩ : S)) (fun i => (l.getD []).length - i) (fun i => i ≤ (l.getD []).length) ?_ 0 (by omega) ?_
  · intro i hi A back
    have hw := wrap_succ (k := i) (by omega)
    try simp only [I, B, D, RX, ↓ KW, seval]
    refine cd_split (fun h => ?_) (fun h => ?_) <;> try simp only [I, B, D, RX, ↓ KW, seval, h]
    · have hlt : i < (l.getD []).length := by have := of_decide_eq_true h; omega
      obtain ⟨x, hx⟩ : ∃ x, (l.getD [])[i]? = some x := ⟨_, List.getElem?_eq_getElem hlt⟩
      have hn : mostI ((l.getD []).take (i + 1)) = (if x > mostI ((l.getD []).take i) then x else mostI ((l.getD []).take i)) := fold_next hx
      refine ⟨by omega, ?_⟩
      try simp only [I, B, D, RX, ↓ KW, seval, hx, intRow]
      refine back (i + 1) _ (by omega) (by omega) (le_tok2 (by decide) ?_ ?_ ?_ ?_) <;> simp [LX, I, B, D, hw, hn]
    · have : i = (l.getD []).length := by have := of_decide_eq_false h; omega
      subst this
      simp
  · refine le_tok2 (by decide) ?_ ?_ ?_ ?_ <;> simp [LX, I, B, D, mostI]
theorem where.ok {fS e : Nat} (hc : cFn P f = some (cc_ref08_Where fS)) (hS : spots.Spec (Pure P) fS e) : where.Spec (Pure P) f := by
  intro t p ht
  have hl := Tb.len ht
  have hp := Tb.whole ht
  have hsz := spots_len ht
  refine pure_of hm hc (by show 2 ≤ 28; decide) (aw_flat (keep := []) (i := 0) ?_)
  try simp only [I, B, D, RX, ↓ KW, seval, cc_ref08_Where, Z.H, hp]
  refine call_is (hS t none ht (.inl rfl)) ?_
  try simp only [I, B, D, RX, ↓ KW, seval]
  refine aw_loop' (fun i : Nat => (⟨[(7, .dat (I i) none), (6, .dat (slAV Sp.cells (mkO (spots t))) none), (1, .dat (I p) none), (4, .ptr 5 0)], [(5, ⟨[I 0, I 0, I 0, I 0], []⟩)], [], 400⟩ : S)) (fun i => (spots t).length - i) (fun i => i ≤ (spots t).length ∧ ∀ x ∈ (spots t).take i, x.p ≠ p) ?_ 0 (by simp) ?_
  · intro i ⟨hi, hnot⟩ A back
    have hw := wrap_succ (k := i) (by omega)
    have hmk : (mkO (spots t)).getD [] = spots t := by unfold mkO; split <;> simp_all
    try simp only [I, B, D, RX, ↓ KW, seval, hmk]
    refine cd_split (fun h => ?_) (fun h => ?_) <;> try simp only [I, B, D, RX, ↓ KW, seval, hmk, h]
    · have hlt : i < (spots t).length := by have := of_decide_eq_true h; omega
      obtain ⟨x, hx⟩ : ∃ x, (spots t)[i]? = some x := ⟨_, List.getElem?_eq_getElem hlt⟩
      have htk := take_next hx
      refine ⟨by omega, ?_⟩
      try simp only [I, B, D, RX, ↓ KW, seval, hx, Sp.len, Sp.cells]
      refine cd_split (fun h2 => ?_) (fun h2 => ?_) <;> try simp only [I, B, D, RX, ↓ KW, seval, hx, Sp.len, Sp.cells, hmk, h2]
      · have hw2 : whereR t p = (x, true) := by
          have : (spots t).find? (fun x => x.p == p) = some x := find_at hx (by simpa using h2) (fun y hy => by simpa using hnot y hy)
          simp [whereR, this]
        exact ⟨by omega, by simp [hw2]⟩
      · refine back (i + 1) _ ⟨by omega, ?_⟩ (by omega) ?_
        · rw [htk]; simp only [List.mem_append, List.mem_singleton]; rintro y (hy | rfl); exact hnot y hy; simpa using h2
        · refine le_tok2 (by decide) ?_ ?_ ?_ ?_ <;> simp [LX, I, B, D, hw]
    · have : i = (spots t).length := by have := of_decide_eq_false h; omega
      subst this
      have hw2 : whereR t p = (⟨0, 0, 0, 0⟩, false) := by
        have : (spots t).find? (fun x => x.p == p) = none := by
          rw [List.find?_eq_none]; intro x hx; simpa using hnot x (by simpa using hx)
        simp [whereR, this]
      try simp only [I, B, D, RX, ↓ KW, seval, hw2, Sp.cells]
  · refine le_tok2 (by decide) ?_ ?_ ?_ ?_ <;> simp [LX, I, B, D]
theorem beside.ok {fW : Nat} (hc : cFn P f = some (cc_ref08_Beside fW)) (hW : where.Spec (Pure P) fW) : beside.Spec (Pure P) f := by
  intro t p q ht
  have hl := Tb.len ht
  have hp := Tb.whole ht
  refine pure_of hm hc (by show 3 ≤ 41; decide) (aw_flat (keep := []) (i := 0) ?_)
  try simp only [I, B, D, RX, ↓ KW, seval, cc_ref08_Beside, Z.H, hp, hl]
  repeat' (first | (refine call_is (hW t _ ht) ?_; try simp only [I, B, D, RX, ↓ KW, seval, hp, Sp.cells]) | (((first | refine gd_split ?_ ?_ | refine cd_split ?_ ?_ | refine pk_split ?_ ?_) <;> intro h) <;> try simp only [I, B, D, RX, ↓ KW, seval, hp, Sp.cells, h]))
  all_goals simp_all [besideR]
theorem on.ok {e fO : Nat} (hc : cFn P f = some (cc_ref08_On e fO)) (hO : refOf.Spec (Pure P) fO) : on.Spec (Pure P) f := by
  intro t ht
  have hl := Tb.len ht
  have hp := Tb.whole ht
  refine pure_of hm hc (by show 1 ≤ 20; decide) (aw_flat (keep := []) (i := 0) ?_)
  try simp only [I, B, D, RX, ↓ KW, seval, cc_ref08_On, Z.H, hp, hl]
  refine aw_loop' (fun k : Nat => (⟨[(4, .dat (I k) none), (1, .ptr 4 0), (3, ownSV intRow (onTo t k) 0)], [(4, ⟨t.cells, []⟩)], ownL (onTo t k) 0 e, 400⟩ : S)) (fun k => 8 - k) (fun k => k ≤ 8) ?_ 0 (by omega) ?_
  · intro k hk A back
    have hw := wrap_succ (k := k) (by omega)
    have hn := onTo_succ t k
    have hlen : (onTo t k).length ≤ k := by
      have := List.length_filter_le (fun p => (phAt t p).on) ((List.range k).map fun (k : Nat) => (k : Int))
      simpa [onTo] using this
    by_cases hl : onTo t k = []
    · try simp only [I, B, D, RX, ↓ KW, seval, ownSV, ownL, hl]
      refine cd_split (fun h => ?_) (fun h => ?_) <;> try simp only [I, B, D, RX, ↓ KW, seval, h]
      · have h8 := of_decide_eq_true h
        have hph := Tb.ph_all (phAt_get ht (k := k) (by omega))
        refine ⟨by omega, ?_⟩
        try simp only [I, B, D, RX, ↓ KW, seval, hph]
        refine cd_split (fun h2 => ?_) (fun h2 => ?_) <;> try simp only [I, B, D, RX, ↓ KW, seval, h2]
        · refine back (k + 1) _ (by omega) (by omega) (le_tok2 (by decide) ?_ ?_ ?_ ?_) <;> simp [LX, I, B, D, hn, hl, h2, hw]
        · refine back (k + 1) _ (by omega) (by omega) (le_tok2 (by decide) ?_ ?_ ?_ ?_) <;> simp [LX, I, B, D, hn, hl, h2, hw]
      · have : k = 8 := by have := of_decide_eq_false h; omega
        subst this
        try simp only [I, B, D, RX, ↓ KW, seval]
        refine call_is (hO none (by simp)) ?_
        try simp only [I, B, D, RX, ↓ KW, seval]
        simp [onI, hl]
    · try simp only [I, B, D, RX, ↓ KW, seval, ownSV, ownL, hl]
      refine cd_split (fun h => ?_) (fun h => ?_) <;> try simp only [I, B, D, RX, ↓ KW, seval, h]
      · have h8 := of_decide_eq_true h
        have hph := Tb.ph_all (phAt_get ht (k := k) (by omega))
        refine ⟨by omega, ?_⟩
        try simp only [I, B, D, RX, ↓ KW, seval, hph]
        refine cd_split (fun h2 => ?_) (fun h2 => ?_) <;> try simp only [I, B, D, RX, ↓ KW, seval, h2]
        · refine ⟨by omega, ?_⟩
          refine back (k + 1) _ (by omega) (by omega) (le_tok2 (by decide) ?_ ?_ ?_ ?_) <;> simp [LX, I, B, D, hn, hl, h2, hw]
        · refine back (k + 1) _ (by omega) (by omega) (le_tok2 (by decide) ?_ ?_ ?_ ?_) <;> simp [LX, I, B, D, hn, hl, h2, hw]
      · have : k = 8 := by have := of_decide_eq_false h; omega
        subst this
        try simp only [I, B, D, RX, ↓ KW, seval]
        refine call_is (hO (some (onTo t 8)) (by simp; omega)) ?_
        try simp only [I, B, D, RX, ↓ KW, seval]
        simp [onI]
  · refine le_tok2 (by decide) ?_ ?_ ?_ ?_ <;> simp [LX, I, B, D, onTo]
end
end Go.Eng
namespace Go.Eng
set_option linter.unusedVariables false
set_option linter.unusedSimpArgs false
set_option linter.unnecessarySimpa false
open Go
set_option linter.unusedVariables false
set_option linter.unusedSimpArgs false
set_option maxRecDepth 10000
set_option maxHeartbeats 4000000
def clearI (t : Tb) : Int := mostI ((listS (onI t)).map fun p => sumI [(phAt t p).yellow, (phAt t p).red])
def clear.Spec (C : Con) (f : Nat) : Prop := ∀ (t : Tb), t.Ok → C.c f [.agg t.cells] (I (clearI t)) none
def serveI (t : Tb) (p : Int) : Int := if hasR (onI t) p then sumI [mostI [capI (phAt t p).min, sumI [(phAt t p).walk, (phAt t p).blinks], capI (phAt t p).top], t.extend, (phAt t p).yellow, (phAt t p).red, t.revert, 8] else 0
def serve.Spec (C : Con) (f : Nat) : Prop := ∀ (t : Tb) (p : Int), t.Ok → C.c f [.agg t.cells, I p] (I (serveI t p)) none
def passTo (t : Tb) (g : Int) (n : Nat) : List Int := 8 :: (((spots t).take n).filter (fun x => x.group == g)).map (fun x => serveI t x.p)
def passI (t : Tb) (g : Int) : Int := if g < 0 ∨ ((t.groups.getD []).length : Int) ≤ g then 0 else sumI (passTo t g (spots t).length)
def pass.Spec (C : Con) (f : Nat) : Prop := ∀ (t : Tb) (g : Int), t.Ok → C.c f [.agg t.cells, I g] (I (passI t g)) none
def freeI (t : Tb) (p : Int) : Int := if (whereR t p).2 && hasR (onI t) p then sumI (passI t (whereR t p).1.group :: (List.range (t.groups.getD []).length).map fun (g : Nat) => passI t g) else 0
def free.Spec (C : Con) (f : Nat) : Prop := ∀ (t : Tb) (p : Int), t.Ok → C.c f [.agg t.cells, I p] (I (freeI t p)) none
def rlAt (t : Tb) (k : Int) : Rl := (t.rails.getD []).getD k.toNat default
def entryI (t : Tb) (k : Int) : Int := if k < 0 ∨ ((t.rails.getD []).length : Int) ≤ k then 0 else
  sumI [(rlAt t k).delay, (rlAt t k).hold, (rlAt t k).green, (rlAt t k).green, (rlAt t k).foot, (rlAt t k).foot, (rlAt t k).foot, clearI t, clearI t, clearI t, clearI t, clearI t, t.revert, t.revert, t.revert, 60]
def entry.Spec (C : Con) (f : Nat) : Prop := ∀ (t : Tb) (k : Int), t.Ok → C.c f [.agg t.cells, I k] (I (entryI t k)) none
theorem hasR_range {s p : Int} (h : hasR s p = true) : 0 ≤ p ∧ p < 8 := by
  simp only [hasR, Bool.and_eq_true, decide_eq_true_eq] at h; exact h.1
theorem listS_range {s p : Int} (h : p ∈ listS s) : 0 ≤ p ∧ p < 8 := hasR_range (List.mem_filter.1 h).2
theorem listS_len (s : Int) : (listS s).length ≤ 8 := by
  have := List.length_filter_le (hasR s) ((List.range 8).map fun (k : Nat) => (k : Int))
  simpa [listS] using this
theorem mkO_getD {α : Type} (l : List α) : (mkO l).getD [] = l := by unfold mkO; split <;> simp_all
theorem map_take_next {α β : Type} {f : α → β} {l : List α} {i : Nat} {x : α} (h : l[i]? = some x) : (l.take (i + 1)).map f = (l.take i).map f ++ [f x] := by rw [take_next h]; simp
theorem passTo_next {t : Tb} {g : Int} {k : Nat} {x : Sp} (h : (spots t)[k]? = some x) : passTo t g (k + 1) = if x.group == g then passTo t g k ++ [serveI t x.p] else passTo t g k := by
  unfold passTo
  rw [take_next h, List.filter_append, List.map_append]
  by_cases hx : x.group == g <;> simp [hx]
theorem passTo_len (t : Tb) (g : Int) (k : Nat) : (passTo t g k).length ≤ k + 1 := by
  have := List.length_filter_le (fun x : Sp => x.group == g) ((spots t).take k)
  have h2 : ((spots t).take k).length ≤ k := List.length_take_le _ _
  simp only [passTo, List.length_cons, List.length_map]
  omega
section
variable {P : Program} (hm : P.follows .mixedOrders = true) {f : Nat}
include hm
theorem clear.ok {fO fL e fS fM : Nat} (hc : cFn P f = some (cc_ref08_clear fO fL e fS fM)) (hO : on.Spec (Pure P) fO) (hL : refList.Spec (Pure P) fL e) (hS : sum1.Spec (Pure P) fS) (hM : most.Spec (Pure P) fM) : clear.Spec (Pure P) f := by
  intro t ht
  have hl := Tb.len ht
  have hp := Tb.whole ht
  refine pure_of hm hc (by show 1 ≤ 32; decide) (aw_flat (keep := []) (i := 0) ?_)
  try simp only [I, B, D, RX, ↓ KW, seval, cc_ref08_clear, Z.H, hp, hl]
  refine call_is (hO t ht) ?_
  try simp only [I, B, D, RX, ↓ KW, seval]
  refine call_is (hL _ none (.inl rfl)) ?_
  try simp only [I, B, D, RX, ↓ KW, seval]
  have hlen := listS_len (onI t)
  have hrg := @listS_range (onI t)
  have hmost : ∀ G, G = (listS (onI t)).map (fun p => sumI [(phAt t p).yellow, (phAt t p).red]) → clearI t = mostI G := fun G h => by rw [h]; rfl
  generalize listS (onI t) = L at *
  generalize hF : (fun p => sumI [(phAt t p).yellow, (phAt t p).red]) = F at *
  have hF' : ∀ p, F p = sumI [(phAt t p).yellow, (phAt t p).red] := fun p => by rw [← hF]
  have hmk := mkO_getD L
  refine aw_loop' (fun k : Nat => (⟨[(10, .dat (I k) none), (9, .dat (I L.length) none), (8, .dat (slAV intRow (mkO L)) none), (1, .ptr 4 0), (3, ownSV intRow ((L.take k).map F) 0)], [(4, ⟨t.cells, []⟩)], ownL ((L.take k).map F) 0 e, 400⟩ : S)) (fun k => L.length - k) (fun k => k ≤ L.length) ?_ 0 (by omega) ?_
  · intro k hk A back
    have hw := wrap_succ (k := k) (by omega)
    by_cases hl : (L.take k).map F = []
    all_goals
      try simp only [I, B, D, RX, ↓ KW, seval, ownSV, ownL, hl]
      refine cd_split (fun h => ?_) (fun h => ?_) <;> try simp only [I, B, D, RX, ↓ KW, seval, hmk, h]
    · have hlt : k < L.length := by have := of_decide_eq_true h; omega
      obtain ⟨x, hx⟩ : ∃ x, L[k]? = some x := ⟨_, List.getElem?_eq_getElem hlt⟩
      have hn := map_take_next (f := F) hx
      have hx8 := hrg (List.mem_of_getElem? hx)
      have hph := Tb.ph_int ht hx8.1 hx8.2
      refine ⟨by omega, ?_⟩
      try simp only [I, B, D, RX, ↓ KW, seval, hx, intRow]
      refine ⟨by omega, ?_⟩
      try simp only [I, B, D, RX, ↓ KW, seval, hph]
      refine ⟨by omega, ?_⟩
      try simp only [I, B, D, RX, ↓ KW, seval, hph]
      refine call_is (hS (some [(phAt t x).yellow, (phAt t x).red]) (by simp)) ?_
      try simp only [I, B, D, RX, ↓ KW, seval]
      refine back (k + 1) _ (by omega) (by omega) (le_tok2 (by decide) ?_ ?_ ?_ ?_) <;> simp [LX, I, B, D, hn, hl, hw, hF']
    · have : k = L.length := by have := of_decide_eq_false h; omega
      subst this
      try simp only [I, B, D, RX, ↓ KW, seval]
      rw [List.take_length] at hl
      refine call_is (hM none (by simp)) ?_
      try simp only [I, B, D, RX, ↓ KW, seval]
      simp [hmost _ rfl, hl]
    · have hlt : k < L.length := by have := of_decide_eq_true h; omega
      obtain ⟨x, hx⟩ : ∃ x, L[k]? = some x := ⟨_, List.getElem?_eq_getElem hlt⟩
      have hn := map_take_next (f := F) hx
      have hx8 := hrg (List.mem_of_getElem? hx)
      have hph := Tb.ph_int ht hx8.1 hx8.2
      refine ⟨by omega, ?_⟩
      try simp only [I, B, D, RX, ↓ KW, seval, hx, intRow]
      refine ⟨by omega, ?_⟩
      try simp only [I, B, D, RX, ↓ KW, seval, hph]
      refine ⟨by omega, ?_⟩
      try simp only [I, B, D, RX, ↓ KW, seval, hph]
      refine call_is (hS (some [(phAt t x).yellow, (phAt t x).red]) (by simp)) ?_
      try simp only [I, B, D, RX, ↓ KW, seval]
      refine ⟨by simp; omega, ?_⟩
      refine back (k + 1) _ (by omega) (by omega) (le_tok2 (by decide) ?_ ?_ ?_ ?_) <;> simp [LX, I, B, D, hn, hl, hw, hF']
    · have : k = L.length := by have := of_decide_eq_false h; omega
      subst this
      rw [List.take_length] at *
      try simp only [I, B, D, RX, ↓ KW, seval]
      refine call_is (hM (some (L.map F)) (by simp; omega)) ?_
      try simp only [I, B, D, RX, ↓ KW, seval]
      simp [hmost _ rfl]
  · refine le_tok2 (by decide) ?_ ?_ ?_ ?_ <;> simp [LX, I, B, D, hmk]
theorem serve.ok {fO fH fC e fS fM : Nat} (hc : cFn P f = some (cc_ref08_Serve fO fH fC e fS fM)) (hO : on.Spec (Pure P) fO) (hH : refHas.Spec (Pure P) fH) (hC : Cap.Spec (Pure P) fC) (hS : sum1.Spec (Pure P) fS) (hM : most.Spec (Pure P) fM) : serve.Spec (Pure P) f := by
  intro t p ht
  have hl := Tb.len ht
  have hp := Tb.whole ht
  have htl := Tb.tail_at ht
  have h116 := htl 0 (by omega)
  have h119 := htl 3 (by omega)
  refine pure_of hm hc (by show 2 ≤ 39; decide) (aw_flat (keep := []) (i := 0) ?_)
  try simp only [I, B, D, RX, ↓ KW, seval, cc_ref08_Serve, Z.H, hp, hl]
  refine call_is (hO t ht) ?_
  try simp only [I, B, D, RX, ↓ KW, seval]
  refine call_is (hH _ _) ?_
  try simp only [I, B, D, RX, ↓ KW, seval]
  by_cases h : hasR (onI t) p = true
  · have hr := hasR_range h
    have hph := Tb.ph_whole ht hr.1 hr.2
    have hx : serveI t p = sumI [mostI [capI (phAt t p).min, sumI [(phAt t p).walk, (phAt t p).blinks], capI (phAt t p).top], t.extend, (phAt t p).yellow, (phAt t p).red, t.revert, 8] := if_pos h
    generalize phAt t p = x at *
    try simp only [I, B, D, RX, ↓ KW, seval, h]
    refine ⟨by omega, ?_⟩
    try simp only [I, B, D, RX, ↓ KW, seval, hph, Ph.cells, z13_14216]
    refine call_is (hC _) ?_
    try simp only [I, B, D, RX, ↓ KW, seval]
    refine call_is (hS (some [x.walk, x.blinks]) (by simp)) ?_
    try simp only [I, B, D, RX, ↓ KW, seval]
    refine call_is (hC _) ?_
    try simp only [I, B, D, RX, ↓ KW, seval]
    refine call_is (hM (some [_, _, _]) (by simp)) ?_
    try simp only [I, B, D, RX, ↓ KW, seval, h116, h119]
    refine call_is (hS (some [_, _, _, _, _, _]) (by simp)) ?_
    try simp only [I, B, D, RX, ↓ KW, seval, hx]
    rfl
  · have hx : serveI t p = 0 := if_neg h
    simp only [Bool.not_eq_true] at h
    try simp only [I, B, D, RX, ↓ KW, seval, h, hx]
theorem pass.ok {e fS fV fs e' : Nat} (hc : cFn P f = some (cc_ref08_Pass e fS fV fs)) (hS : spots.Spec (Pure P) fS e') (hV : serve.Spec (Pure P) fV) (hs : sum1.Spec (Pure P) fs) : pass.Spec (Pure P) f := by
  intro t g ht
  have hl := Tb.len ht
  have hp := Tb.whole ht
  have hg := Tb.groups_at ht
  refine pure_of hm hc (by show 2 ≤ 39; decide) (aw_flat (keep := []) (i := 0) ?_)
  try simp only [I, B, D, RX, ↓ KW, seval, cc_ref08_Pass, Z.H, hp, hl]
  by_cases h0 : g < 0 ∨ ((t.groups.getD []).length : Int) ≤ g
  · have hx : passI t g = 0 := if_pos h0
    repeat' (((first | refine gd_split ?_ ?_ | refine cd_split ?_ ?_ | refine pk_split ?_ ?_) <;> intro h) <;> try simp only [I, B, D, RX, ↓ KW, seval, hg, hx, h])
    simp_all
    omega
  · have hx : passI t g = sumI (passTo t g (spots t).length) := if_neg h0
    have h1 : decide (g < 0) = false := by simp; omega
    have h2 : decide (((t.groups.getD []).length : Int) ≤ g) = false := by simp; omega
    try simp only [I, B, D, RX, ↓ KW, seval, h1, hg, h2, hp]
    refine call_is (hS t none ht (.inl rfl)) ?_
    have hsz := spots_len ht
    have hmk := mkO_getD (spots t)
    try simp only [I, B, D, RX, ↓ KW, seval, hmk]
    generalize hS' : spots t = Z at *
    refine aw_loop' (fun k : Nat => (⟨[(21, .dat (I k) none), (20, .dat (I Z.length) none), (19, .dat (slAV Sp.cells (mkO Z)) none), (1, .dat (I g) none), (2, .ptr 4 0), (5, ownSV intRow (passTo t g k) 0)], [(4, ⟨t.cells, []⟩)], ownL (passTo t g k) 0 e, 400⟩ : S)) (fun k => Z.length - k) (fun k => k ≤ Z.length) ?_ 0 (by omega) ?_
    · intro k hk A back
      have hw := wrap_succ (k := k) (by omega)
      have hne : passTo t g k ≠ [] := by simp [passTo]
      try simp only [I, B, D, RX, ↓ KW, seval, ownSV, ownL, hne]
      refine cd_split (fun h => ?_) (fun h => ?_) <;> try simp only [I, B, D, RX, ↓ KW, seval, hmk, hp, h]
      · have hlt : k < Z.length := by have := of_decide_eq_true h; omega
        obtain ⟨x, hx⟩ : ∃ x, Z[k]? = some x := ⟨_, List.getElem?_eq_getElem hlt⟩
        have hn : passTo t g (k + 1) = if x.group == g then passTo t g k ++ [serveI t x.p] else passTo t g k := passTo_next (by rw [hS']; exact hx)
        have hlen := passTo_len t g k
        refine ⟨by omega, ?_⟩
        try simp only [I, B, D, RX, ↓ KW, seval, hx, Sp.len, Sp.cells]
        refine cd_split (fun h2 => ?_) (fun h2 => ?_) <;> try simp only [I, B, D, RX, ↓ KW, seval, hp, h2]
        · refine call_is (hV t _ ht) ?_
          try simp only [I, B, D, RX, ↓ KW, seval]
          refine ⟨by omega, ?_⟩
          refine back (k + 1) _ (by omega) (by omega) (le_tok2 (by decide) ?_ ?_ ?_ ?_) <;> simp [LX, I, B, D, hn, hw, h2, hne]
        · refine back (k + 1) _ (by omega) (by omega) (le_tok2 (by decide) ?_ ?_ ?_ ?_) <;> simp [LX, I, B, D, hn, hw, h2, hne]
      · have : k = Z.length := by have := of_decide_eq_false h; omega
        subst this
        have hlen := passTo_len t g Z.length
        try simp only [I, B, D, RX, ↓ KW, seval]
        refine call_is (hs (some (passTo t g Z.length)) (by simp; omega)) ?_
        try simp only [I, B, D, RX, ↓ KW, seval, hx]
        rfl
    · refine le_tok2 (by decide) ?_ ?_ ?_ ?_ <;> simp [LX, I, B, D, passTo, hmk, serveI]
end
end Go.Eng
namespace Go.Eng
set_option linter.unusedVariables false
set_option linter.unusedSimpArgs false
set_option linter.unnecessarySimpa false
open Go
set_option linter.unusedVariables false
set_option linter.unusedSimpArgs false
set_option maxRecDepth 10000
set_option maxHeartbeats 4000000
def freeTo (t : Tb) (p : Int) (n : Nat) : List Int := passI t (whereR t p).1.group :: (List.range n).map fun (g : Nat) => passI t g
theorem freeTo_next (t : Tb) (p : Int) (n : Nat) : freeTo t p (n + 1) = freeTo t p n ++ [passI t n] := by simp [freeTo, List.range_succ]
def stayTo (t : Tb) (n : Nat) : List Int := (List.range n).map fun (k : Nat) => sumI [entryI t k, (rlAt t k).stay]
theorem stayTo_next (t : Tb) (n : Nat) : stayTo t (n + 1) = stayTo t n ++ [sumI [entryI t n, (rlAt t n).stay]] := by simp [stayTo, List.range_succ]
def needOf (t : Tb) (l : List Int) : List Int := l.flatMap fun p => [capI (phAt t p).min, sumI [(phAt t p).walk, (phAt t p).blinks]]
theorem needOf_next {t : Tb} {l : List Int} {i : Nat} {x : Int} (h : l[i]? = some x) : needOf t (l.take (i + 1)) = needOf t (l.take i) ++ [capI (phAt t x).min, sumI [(phAt t x).walk, (phAt t x).blinks]] := by rw [take_next h]; simp [needOf]
theorem needOf_len (t : Tb) (l : List Int) : (needOf t l).length = l.length * 2 := by
  induction l with
  | nil => rfl
  | cons x l ih => simp only [needOf, List.flatMap_cons, List.length_append, List.length_cons, List.length_nil] at ih ⊢; omega
def overI (t : Tb) : Int := if (t.rails.getD []).length = 0 then 0 else sumI [mostI (stayTo t (t.rails.getD []).length), mostI (needOf t (listS (onI t))), clearI t, t.revert, 30]
def over.Spec (C : Con) (f : Nat) : Prop := ∀ (t : Tb), t.Ok → C.c f [.agg t.cells] (I (overI t)) none
def waitI (t : Tb) (p : Int) : Int := if freeI t p = 0 ∨ (t.rails.getD []).length = 0 then freeI t p else sumI [mulI (sumI [t.share, 1]) (sumI [overI t, freeI t p, 2]), t.share]
def wait.Spec (C : Con) (f : Nat) : Prop := ∀ (t : Tb) (p : Int), t.Ok → C.c f [.agg t.cells, I p] (I (waitI t p)) none
theorem Rl.len (r : Rl) : r.cells.length = 11 := rfl
theorem rlAt_get {t : Tb} {k : Int} (h0 : 0 ≤ k) (h1 : k < ((t.rails.getD []).length : Int)) : (t.rails.getD [])[k.toNat]? = some (rlAt t k) := by
  have : k.toNat < (t.rails.getD []).length := by omega
  simp [rlAt, this]
section
variable {P : Program} (hm : P.follows .mixedOrders = true) {f : Nat}
include hm
theorem free.ok {fW fO fH fP e fs : Nat} (hc : cFn P f = some (cc_ref08_Free fW fO fH fP e fs)) (hW : where.Spec (Pure P) fW) (hO : on.Spec (Pure P) fO) (hH : refHas.Spec (Pure P) fH) (hP : pass.Spec (Pure P) fP) (hs : sum1.Spec (Pure P) fs) : free.Spec (Pure P) f := by
  intro t p ht
  have hl := Tb.len ht
  have hp := Tb.whole ht
  have hg := Tb.groups_at ht
  have hb := ht.groups
  refine pure_of hm hc (by show 2 ≤ 44; decide) (aw_flat (keep := []) (i := 0) ?_)
  try simp only [I, B, D, RX, ↓ KW, seval, cc_ref08_Free, Z.H, hp, hl]
  refine call_is (hW t _ ht) ?_
  try simp only [I, B, D, RX, ↓ KW, seval, hp, Sp.cells]
  by_cases h0 : ((whereR t p).2 && hasR (onI t) p) = true
  · have hx : freeI t p = sumI (freeTo t p (t.groups.getD []).length) := if_pos h0
    simp only [Bool.and_eq_true] at h0
    try simp only [I, B, D, RX, ↓ KW, seval, h0, hp]
    refine call_is (hO t ht) ?_
    try simp only [I, B, D, RX, ↓ KW, seval]
    refine call_is (hH _ _) ?_
    try simp only [I, B, D, RX, ↓ KW, seval, h0, hp]
    refine call_is (hP t _ ht) ?_
    try simp only [I, B, D, RX, ↓ KW, seval]
    refine aw_loop' (fun k : Nat => (⟨[(8, .dat (I k) none), (2, .ptr 4 0), (7, ownSV intRow (freeTo t p k) 0)], [(4, ⟨t.cells, []⟩)], ownL (freeTo t p k) 0 e, 400⟩ : S)) (fun k => (t.groups.getD []).length - k) (fun k => k ≤ (t.groups.getD []).length) ?_ 0 (by omega) ?_
    · intro k hk A back
      have hw := wrap_succ (k := k) (by omega)
      have hne : freeTo t p k ≠ [] := by simp [freeTo]
      have hn := freeTo_next t p k
      have hlen : (freeTo t p k).length = k + 1 := by simp [freeTo]
      try simp only [I, B, D, RX, ↓ KW, seval, ownSV, ownL, hne, hg]
      refine cd_split (fun h => ?_) (fun h => ?_) <;> try simp only [I, B, D, RX, ↓ KW, seval, hp, h]
      · have : k < (t.groups.getD []).length := by have := of_decide_eq_true h; omega
        refine call_is (hP t _ ht) ?_
        try simp only [I, B, D, RX, ↓ KW, seval]
        refine ⟨by omega, ?_⟩
        refine back (k + 1) _ (by omega) (by omega) (le_tok2 (by decide) ?_ ?_ ?_ ?_) <;> simp [LX, I, B, D, hn, hw, hne]
      · have : k = (t.groups.getD []).length := by have := of_decide_eq_false h; omega
        subst this
        try simp only [I, B, D, RX, ↓ KW, seval]
        refine call_is (hs (some (freeTo t p (t.groups.getD []).length)) (by simp; omega)) ?_
        try simp only [I, B, D, RX, ↓ KW, seval, hx]
        rfl
    · refine le_tok2 (by decide) ?_ ?_ ?_ ?_ <;> simp [LX, I, B, D, freeTo]
  · have hx : freeI t p = 0 := if_neg h0
    repeat' (first | ((first | refine call_is (hO t ht) ?_ | refine call_is (hH _ _) ?_); try simp only [I, B, D, RX, ↓ KW, seval, hp, hx]) | (((first | refine gd_split ?_ ?_ | refine cd_split ?_ ?_ | refine pk_split ?_ ?_) <;> intro h) <;> try simp only [I, B, D, RX, ↓ KW, seval, hp, hx, h]))
    all_goals simp_all
theorem entry.ok {fC e fs : Nat} (hc : cFn P f = some (cc_ref08_Entry fC e fs)) (hC : clear.Spec (Pure P) fC) (hs : sum1.Spec (Pure P) fs) : entry.Spec (Pure P) f := by
  intro t k ht
  have hl := Tb.len ht
  have hp := Tb.whole ht
  have hg := Tb.rails_at ht
  have h119 := Tb.tail_at ht 3 (by omega)
  refine pure_of hm hc (by show 2 ≤ 50; decide) (aw_flat (keep := []) (i := 0) ?_)
  try simp only [I, B, D, RX, ↓ KW, seval, cc_ref08_Entry, Z.H, hp, hl]
  by_cases h0 : k < 0 ∨ ((t.rails.getD []).length : Int) ≤ k
  · have hx : entryI t k = 0 := if_pos h0
    repeat' (((first | refine gd_split ?_ ?_ | refine cd_split ?_ ?_ | refine pk_split ?_ ?_) <;> intro h) <;> try simp only [I, B, D, RX, ↓ KW, seval, hg, hx, h])
    simp_all
    omega
  · have hx := show entryI t k = _ from if_neg h0
    have h1 : decide (k < 0) = false := by simp; omega
    have h2 : decide (((t.rails.getD []).length : Int) ≤ k) = false := by simp; omega
    have hr := rlAt_get (t := t) (k := k) (by omega) (by omega)
    try simp only [I, B, D, RX, ↓ KW, seval, h1, h2, hg]
    refine ⟨by omega, ?_⟩
    try simp only [I, B, D, RX, ↓ KW, seval, hr, Rl.len, Rl.cells, z11_58867, hp]
    refine call_is (hC t ht) ?_
    try simp only [I, B, D, RX, ↓ KW, seval, h119]
    refine call_is (hs (some [_, _, _, _, _, _, _, _, _, _, _, _, _, _, _, _]) (by simp)) ?_
    try simp only [I, B, D, RX, ↓ KW, seval, hx]
    rfl
theorem wait.ok {fF e fs fO fM : Nat} (hc : cFn P f = some (cc_ref08_Wait fF e fs fO fM)) (hF : free.Spec (Pure P) fF) (hs : sum1.Spec (Pure P) fs) (hO : over.Spec (Pure P) fO) (hM : Mul.Spec (Pure P) fM) : wait.Spec (Pure P) f := by
  intro t p ht
  have hl := Tb.len ht
  have hp := Tb.whole ht
  have hg := Tb.rails_at ht
  have h130 := Tb.share_at ht
  refine pure_of hm hc (by show 2 ≤ 32; decide) (aw_flat (keep := []) (i := 0) ?_)
  try simp only [I, B, D, RX, ↓ KW, seval, cc_ref08_Wait, Z.H, hp, hl]
  refine call_is (hF t _ ht) ?_
  try simp only [I, B, D, RX, ↓ KW, seval, hg]
  by_cases h0 : freeI t p = 0 ∨ (t.rails.getD []).length = 0
  · have hx : waitI t p = freeI t p := if_pos h0
    repeat' (((first | refine gd_split ?_ ?_ | refine cd_split ?_ ?_ | refine pk_split ?_ ?_) <;> intro h) <;> try simp only [I, B, D, RX, ↓ KW, seval, hg, hx, h])
    simp_all
  · have hx := show waitI t p = _ from if_neg h0
    have h1 : (freeI t p == 0) = false := by simp; omega
    have h2 : (((t.rails.getD []).length : Int) == 0) = false := beq_false_of_ne (by omega)
    try simp only [I, B, D, RX, ↓ KW, seval, h1, h2, hg, h130]
    refine call_is (hs (some [_, _]) (by simp)) ?_
    try simp only [I, B, D, RX, ↓ KW, seval, hp]
    refine call_is (hO t ht) ?_
    try simp only [I, B, D, RX, ↓ KW, seval]
    refine call_is (hs (some [_, _, _]) (by simp)) ?_
    try simp only [I, B, D, RX, ↓ KW, seval, hp]
    refine call_is (hM _ _) ?_
    try simp only [I, B, D, RX, ↓ KW, seval, h130]
    refine call_is (hs (some [_, _]) (by simp)) ?_
    try simp only [I, B, D, RX, ↓ KW, seval, hx]
    rfl
theorem over.ok {fE e fs fO fL fC fM fcl : Nat} (hc : cFn P f = some (cc_ref08_Over fE e fs fO fL fC fM fcl)) (hE : entry.Spec (Pure P) fE) (hs : sum1.Spec (Pure P) fs) (hO : on.Spec (Pure P) fO) (hL : refList.Spec (Pure P) fL e) (hC : Cap.Spec (Pure P) fC) (hM : most.Spec (Pure P) fM) (hcl : clear.Spec (Pure P) fcl) : over.Spec (Pure P) f := by
  intro t ht
  have hl := Tb.len ht
  have hp := Tb.whole ht
  have hg := Tb.rails_at ht
  have hb := ht.rails
  have h119 := Tb.tail_at ht 3 (by omega)
  refine pure_of hm hc (by show 1 ≤ 73; decide) (aw_flat (keep := []) (i := 0) ?_)
  try simp only [I, B, D, RX, ↓ KW, seval, cc_ref08_Over, Z.H, hp, hl, hg]
  by_cases h0 : (t.rails.getD []).length = 0
  · have hx : overI t = 0 := if_pos h0
    repeat' (((first | refine gd_split ?_ ?_ | refine cd_split ?_ ?_ | refine pk_split ?_ ?_) <;> intro h) <;> try simp only [I, B, D, RX, ↓ KW, seval, hg, hx, h])
    simp_all
  · have hx := show overI t = _ from if_neg h0
    have h2 : (((t.rails.getD []).length : Int) == 0) = false := beq_false_of_ne (by omega)
    try simp only [I, B, D, RX, ↓ KW, seval, h2]
    refine aw_loop' (fun k : Nat => (⟨[(5, .dat (I k) none), (1, .ptr 4 0), (4, .dat (.nils) none), (3, ownSV intRow (stayTo t k) 0)], [(4, ⟨t.cells, []⟩)], ownL (stayTo t k) 0 e, 400⟩ : S)) (fun k => (t.rails.getD []).length - k) (fun k => k ≤ (t.rails.getD []).length) ?_ 0 (by omega) ?_
    · intro k hk A back
      have hw := wrap_succ (k := k) (by omega)
      have hn := stayTo_next t k
      have hlen : (stayTo t k).length = k := by simp [stayTo]
      by_cases hl : stayTo t k = []
      all_goals
        try simp only [I, B, D, RX, ↓ KW, seval, ownSV, ownL, hl, hg]
        refine cd_split (fun h => ?_) (fun h => ?_) <;> try simp only [I, B, D, RX, ↓ KW, seval, hp, h]
      · have : k < (t.rails.getD []).length := by have := of_decide_eq_true h; omega
        have hr := rlAt_get (t := t) (k := k) (by omega) (by omega)
        rw [Int.toNat_natCast] at hr
        refine call_is (hE t _ ht) ?_
        try simp only [I, B, D, RX, ↓ KW, seval, hg]
        refine ⟨by omega, ?_⟩
        try simp only [I, B, D, RX, ↓ KW, seval, hr, Rl.len, Rl.cells]
        refine call_is (hs (some [_, _]) (by simp)) ?_
        try simp only [I, B, D, RX, ↓ KW, seval]
        refine back (k + 1) _ (by omega) (by omega) (le_tok2 (by decide) ?_ ?_ ?_ ?_) <;> simp [LX, I, B, D, hn, hw, hl]
      · exfalso
        have := of_decide_eq_false h
        rw [hl] at hlen; simp at hlen; omega
      · have : k < (t.rails.getD []).length := by have := of_decide_eq_true h; omega
        have hr := rlAt_get (t := t) (k := k) (by omega) (by omega)
        rw [Int.toNat_natCast] at hr
        refine call_is (hE t _ ht) ?_
        try simp only [I, B, D, RX, ↓ KW, seval, hg]
        refine ⟨by omega, ?_⟩
        try simp only [I, B, D, RX, ↓ KW, seval, hr, Rl.len, Rl.cells]
        refine call_is (hs (some [_, _]) (by simp)) ?_
        try simp only [I, B, D, RX, ↓ KW, seval]
        refine ⟨by omega, ?_⟩
        refine back (k + 1) _ (by omega) (by omega) (le_tok2 (by decide) ?_ ?_ ?_ ?_) <;> simp [LX, I, B, D, hn, hw, hl]
      · have : k = (t.rails.getD []).length := by have := of_decide_eq_false h; omega
        subst this
        try simp only [I, B, D, RX, ↓ KW, seval, hp]
        refine call_is (hO t ht) ?_
        try simp only [I, B, D, RX, ↓ KW, seval]
        refine call_is (hL _ none (.inl rfl)) ?_
        try simp only [I, B, D, RX, ↓ KW, seval]
        have hlen := listS_len (onI t)
        have hrg := @listS_range (onI t)
        have hmk := mkO_getD (listS (onI t))
        generalize listS (onI t) = L at *
        have hmst : mostI (stayTo t (t.rails.getD []).length) = mostI (stayTo t (t.rails.getD []).length) := rfl
        refine aw_loop' (fun k : Nat => (⟨[(37, .dat (I k) none), (36, .dat (I L.length) none), (35, .dat (slAV intRow (mkO L)) none), (1, .ptr 4 0), (3, .dat (.sl ((stayTo t (t.rails.getD []).length).map intRow)) none), (4, ownSV intRow (needOf t (L.take k)) 0)], [(4, ⟨t.cells, []⟩)], ownL (needOf t (L.take k)) 0 e, 400⟩ : S)) (fun k => L.length - k) (fun k => k ≤ L.length) ?_ 0 (by omega) ?_
        · intro k hk A back
          have hw := wrap_succ (k := k) (by omega)
          have hln : (needOf t (L.take k)).length ≤ 16 := by rw [needOf_len]; have := List.length_take_le k L; omega
          by_cases hl : needOf t (L.take k) = []
          all_goals
            try simp only [I, B, D, RX, ↓ KW, seval, ownSV, ownL, hl]
            refine cd_split (fun h => ?_) (fun h => ?_) <;> try simp only [I, B, D, RX, ↓ KW, seval, hmk, h]
          · have hlt : k < L.length := by have := of_decide_eq_true h; omega
            obtain ⟨x, hx2⟩ : ∃ x, L[k]? = some x := ⟨_, List.getElem?_eq_getElem hlt⟩
            have hx8 := hrg (List.mem_of_getElem? hx2)
            have hph := Tb.ph_int ht hx8.1 hx8.2
            have hn := needOf_next (t := t) hx2
            refine ⟨by omega, ?_⟩
            try simp only [I, B, D, RX, ↓ KW, seval, hx2, intRow]
            refine ⟨by omega, ?_⟩
            try simp only [I, B, D, RX, ↓ KW, seval, hph]
            refine call_is (hC _) ?_
            try simp only [I, B, D, RX, ↓ KW, seval, hph]
            refine ⟨by omega, ?_⟩
            try simp only [I, B, D, RX, ↓ KW, seval, hph]
            refine ⟨by omega, ?_⟩
            try simp only [I, B, D, RX, ↓ KW, seval, hph]
            refine call_is (hs (some [_, _]) (by simp)) ?_
            try simp only [I, B, D, RX, ↓ KW, seval]
            refine back (k + 1) _ (by omega) (by omega) (le_tok2 (by decide) ?_ ?_ ?_ ?_) <;> simp [LX, I, B, D, hn, hw, hl]
          · have : k = L.length := by have := of_decide_eq_false h; omega
            subst this
            rw [List.take_length] at hl hln
            try simp only [I, B, D, RX, ↓ KW, seval]
            refine call_is (hM (some _) (by simp [stayTo]; omega)) ?_
            try simp only [I, B, D, RX, ↓ KW, seval]
            refine call_is (hM none (by simp)) ?_
            try simp only [I, B, D, RX, ↓ KW, seval, hp]
            refine call_is (hcl t ht) ?_
            try simp only [I, B, D, RX, ↓ KW, seval, h119]
            refine call_is (hs (some [_, _, _, _, _]) (by simp)) ?_
            try simp only [I, B, D, RX, ↓ KW, seval, hx, hl]
            rfl
          · have hlt : k < L.length := by have := of_decide_eq_true h; omega
            obtain ⟨x, hx2⟩ : ∃ x, L[k]? = some x := ⟨_, List.getElem?_eq_getElem hlt⟩
            have hx8 := hrg (List.mem_of_getElem? hx2)
            have hph := Tb.ph_int ht hx8.1 hx8.2
            have hn := needOf_next (t := t) hx2
            refine ⟨by omega, ?_⟩
            try simp only [I, B, D, RX, ↓ KW, seval, hx2, intRow]
            refine ⟨by omega, ?_⟩
            try simp only [I, B, D, RX, ↓ KW, seval, hph]
            refine call_is (hC _) ?_
            try simp only [I, B, D, RX, ↓ KW, seval, hph]
            refine ⟨by omega, ?_⟩
            try simp only [I, B, D, RX, ↓ KW, seval, hph]
            refine ⟨by omega, ?_⟩
            try simp only [I, B, D, RX, ↓ KW, seval, hph]
            refine call_is (hs (some [_, _]) (by simp)) ?_
            try simp only [I, B, D, RX, ↓ KW, seval]
            refine ⟨by omega, ?_⟩
            refine back (k + 1) _ (by omega) (by omega) (le_tok2 (by decide) ?_ ?_ ?_ ?_) <;> simp [LX, I, B, D, hn, hw, hl]
          · have : k = L.length := by have := of_decide_eq_false h; omega
            subst this
            rw [List.take_length] at *
            try simp only [I, B, D, RX, ↓ KW, seval]
            refine call_is (hM (some _) (by simp [stayTo]; omega)) ?_
            try simp only [I, B, D, RX, ↓ KW, seval]
            refine call_is (hM (some _) (by simp; omega)) ?_
            try simp only [I, B, D, RX, ↓ KW, seval, hp]
            refine call_is (hcl t ht) ?_
            try simp only [I, B, D, RX, ↓ KW, seval, h119]
            refine call_is (hs (some [_, _, _, _, _]) (by simp)) ?_
            try simp only [I, B, D, RX, ↓ KW, seval, hx, hl]
            rfl
        · refine le_tok2 (by decide) ?_ ?_ ?_ ?_ <;> simp [LX, I, B, D, hmk, needOf]
    · refine le_tok2 (by decide) ?_ ?_ ?_ ?_ <;> simp [LX, I, B, D, stayTo]
end
end Go.Eng
