/- The engine and the library, part 3 of 3: what the proofs of this seat need of them. -/
import Derived.Test.YtmdlpepjodcjeaaPk2
namespace Go.Eng
set_option linter.unusedVariables false
set_option linter.unusedSimpArgs false
set_option linter.unnecessarySimpa false
open Go
open Go.RowKit (Below)
set_option linter.unusedVariables false
set_option linter.unusedSimpArgs false
def argSV : AV → SV
  | .ref cs => .rp cs
  | a => .dat a none
def slotsOf : Nat → List AV → List (Nat × SV)
  | _, [] => []
  | i, a :: r => (i, argSV a) :: slotsOf (i + 1) r
def initS (args : List AV) : S := ⟨slotsOf 0 args, [], [], 4⟩
def slotsB : Nat → Nat → List (Option AV) → List (Nat × SV)
  | _, _, [] => []
  | i, k, some a :: r => (i, argSV a) :: slotsB (i + 1) k r
  | i, k, none :: r => (i, .ptr k 0) :: slotsB (i + 1) (k + 1) r
def boxesB : Nat → List (List AV) → List (Nat × Box)
  | _, [] => []
  | k, cs :: css => (k, ⟨cs, []⟩) :: boxesB (k + 1) css
def initB (css : List (List AV)) (args : List (Option AV)) : S := ⟨slotsB 0 0 args, boxesB 0 css, [], 4⟩
def holdB (l : List (Nat × Box)) : Nat → List (List AV) → Prop
  | _, [] => True
  | k, cs :: css => withV (lkB k l) (fun x => x.cells = cs) ∧ holdB l (k + 1) css
def resA (s : S) : CRes → Option (AV × Option Nat)
  | .tmp t => match lk t s.slots with
    | some (.dat a q) => some (a, q)
    | _ => none
  | .cell t sz => match lk t s.slots with
    | some (.ptr b off) => match lkB b s.boxes with
      | some bx => match partA bx.cells off sz with
        | some a => some (a, match sz with | none => lkN off bx.tags | some _ => none)
        | none => none
      | none => none
    | _ => none
def ressA (s : S) : List CRes → Option (List AV)
  | [] => some []
  | r :: rs => match resA s r, ressA s rs with
    | some p, some as => some (p.1 :: as)
    | _, _ => none
def resultA (s : S) : List CRes → Option (AV × Option Nat)
  | [r] => resA s r
  | rs => (ressA s rs).map fun as => (.tup as, none)
def frA (fr : Option Nat) (q : Option Nat) (live : List (Nat × Nat)) : Prop :=
  match fr with
  | none => True
  | some e => match q with
    | some q' => lkN q' live = some e
    | none => False
def fin (res : List CRes) (r : AV) (fr : Option Nat) : Exit → S → Prop
  | .normal, s => withV (resultA s res) fun p => p.1 = r ∧ frA fr p.2 s.live
  | .ret, s => withV (resultA s res) fun p => p.1 = r ∧ frA fr p.2 s.live
  | _, _ => False
def finB (res : List CRes) (r : AV) (fr : Option Nat) (css : List (List AV)) : Exit → S → Prop
  | .normal, s => withV (resultA s res) fun p => p.1 = r ∧ frA fr p.2 s.live ∧ holdB s.boxes 0 css
  | .ret, s => withV (resultA s res) fun p => p.1 = r ∧ frA fr p.2 s.live ∧ holdB s.boxes 0 css
  | _, _ => False
theorem argSV_RV {β : Nat → Nat} {τ : Nat → Value} {w : World} {π : Nat → Nat → Prop} {U : Nat → Prop} {a : AV} {x : Value} (h : DV w π a x) : RV β τ w π (argSV a) x ∧ (argSV a).inU U := by
  cases a with
  | ref cs => exact ⟨RV.ref.2 h, trivial⟩
  | _ => exact ⟨⟨h, fun t ht => by cases ht⟩, trivial⟩
theorem lk_slotsOf : ∀ {args : List AV} {i t : Nat} {v : SV}, lk t (slotsOf i args) = some v → ∃ a, i ≤ t ∧ args[t - i]? = some a ∧ v = argSV a
  | [], i, t, v, h => by cases h
  | a :: r, i, t, v, h => by
    simp only [slotsOf, lk, cbeq] at h
    split at h
    · rename_i e; cases h; subst e; exact ⟨a, Nat.le_refl _, by simp, rfl⟩
    · obtain ⟨b, h1, h2, h3⟩ := lk_slotsOf h
      refine ⟨b, by omega, ?_, h3⟩
      rw [show t - i = (t - (i + 1)) + 1 by omega]
      simpa using h2
section
variable {P : Program} {nt : Nat} {n0 : Fen} {w0 : World} {π0 : Nat → Nat → Prop} {U : Nat → Prop} {s : S} {a : Act} {w : World} {β : Nat → Nat} {τ : Nat → Value} {π : Nat → Nat → Prop}
def readRes (tmps : Array Value) : ResultVar → Sem Value
  | .tmp t => pure (tmps.getD t undef)
  | .cell a t => do loadVar t (← asAddr (tmps.getD a undef))
theorem res_run (R : Rel P nt n0 w0 π0 U s a w β τ π) {rv : ResultVar} {cr : CRes} (hc : cRes P rv = some cr) {av : AV} {q : Option Nat} (h : resA s cr = some (av, q)) :
    ∃ v, (readRes a.tmps rv).run P w = .ok v w ∧ DV w π av v ∧ (∀ t, q = some t → v = τ t) := by
  cases rv with
  | tmp t =>
    cases hc
    simp only [resA] at h
    split at h <;> try (cases h; done)
    rename_i a' q' hl
    cases h
    obtain ⟨⟨x, hx, hr⟩, _⟩ := R.slots t _ hl
    exact ⟨x, by simp [readRes, hx], hr.1, hr.2⟩
  | cell ad t =>
    simp only [cRes, Option.map_eq_some_iff] at hc
    obtain ⟨sz, hsz, rfl⟩ := hc
    simp only [resA] at h
    split at h <;> try (cases h; done)
    rename_i b off hl
    split at h <;> try (cases h; done)
    rename_i bx hb
    split at h <;> try (cases h; done)
    rename_i a' hp
    cases h
    have hop : aop (Pure P) 0 (.ld (.t ad) sz) (fun v s' => v = .dat av (match (generalizing := false) sz with | none => lkN off bx.tags | some _ => none)) s := by
      simp only [aop, opd, hl, withV_some, hb, hp]
      cases sz <;> rfl
    obtain ⟨v, y, hr, hrv, _, hK⟩ := R.load (X := .tmp ad) rfl hsz hop
    subst hK
    obtain ⟨⟨x, hx, hrx⟩, _⟩ := R.slots ad _ hl
    have hrx' : x = .pointer (some ⟨β b, off, none⟩) := hrx
    have he : a.eval (.tmp ad) = x := by simp [Act.eval, hx]
    refine ⟨y, ?_, hrv.1, hrv.2⟩
    rw [he, hrx'] at hr
    simp [Instr.loadAt, Instr.sureAddr] at hr
    simp [readRes, hx, hrx', asAddr, hr]
theorem ress_run (R : Rel P nt n0 w0 π0 U s a w β τ π) : ∀ {rvs : List ResultVar} {crs : List CRes}, rvs.mapM (cRes P) = some crs → ∀ {as : List AV}, ressA s crs = some as →
    ∃ vs, (rvs.mapM (readRes a.tmps)).run P w = .ok vs w ∧ DVs w π as vs
  | [], crs, hc, as, h => by
    simp at hc; subst hc
    simp [ressA] at h; subst h
    exact ⟨[], by simp, .nil _ _⟩
  | rv :: rvs, crs, hc, as, h => by
    simp only [List.mapM_cons, Option.bind_eq_bind, Option.bind_eq_some_iff, Option.pure_def, Option.some.injEq] at hc
    obtain ⟨cr, hcr, crs', hcrs, rfl⟩ := hc
    simp only [ressA] at h
    split at h <;> try (cases h; done)
    rename_i p as' h1 h2
    cases h
    obtain ⟨v, hv, hd, _⟩ := res_run R hcr (av := p.1) (q := p.2) h1
    obtain ⟨vs, hvs, hds⟩ := ress_run R hcrs h2
    exact ⟨v :: vs, by simp [List.mapM_cons, hv, hvs], .cons hd hds⟩
theorem results_eq (fn : Func) (tmps : Array Value) : results fn tmps = (do let vs ← fn.results.mapM (readRes tmps); pure (if h : vs.size = 1 then vs[0] else .tuple vs)) := by
  unfold results
  congr 1
theorem result_run (R : Rel P nt n0 w0 π0 U s a w β τ π) {fn : Func} {crs : List CRes} (hc : fn.results.toList.mapM (cRes P) = some crs) {av : AV} {q : Option Nat} (h : resultA s crs = some (av, q)) :
    ∃ v, (results fn a.tmps).run P w = .ok v w ∧ DV w π av v ∧ (∀ t, q = some t → v = τ t) := by
  have go : ∀ vs : List Value, (fn.results.toList.mapM (readRes a.tmps)).run P w = .ok vs w → (results fn a.tmps).run P w = .ok (if h : vs.length = 1 then vs[0] else .tuple vs.toArray) w := by
    intro vs hvs
    have : (fn.results.mapM (readRes a.tmps)).run P w = .ok vs.toArray w := by
      have e : fn.results = fn.results.toList.toArray := by simp
      rw [e, List.mapM_toArray, Sem.run_map, hvs]; rfl
    rw [results_eq, Sem.run_bind, this]
    simp
  have many : (∀ r, crs ≠ [r]) → resultA s crs = (ressA s crs).map fun as => (.tup as, none) := by
    intro hne
    cases crs with
    | nil => rfl
    | cons r rs =>
      cases rs with
      | nil => exact absurd rfl (hne r)
      | cons r' rs => rfl
  by_cases hone : ∃ r, crs = [r]
  · obtain ⟨r, rfl⟩ := hone
    cases hrl : fn.results.toList with
    | nil => rw [hrl] at hc; simp at hc
    | cons rv rvs =>
      rw [hrl] at hc
      simp only [List.mapM_cons, Option.bind_eq_bind, Option.bind_eq_some_iff, Option.pure_def, Option.some.injEq] at hc
      obtain ⟨cr, hcr, crs', hcrs, he⟩ := hc
      cases he
      have hnil : rvs = [] := by
        cases rvs with
        | nil => rfl
        | cons x xs =>
          simp only [List.mapM_cons, Option.bind_eq_bind, Option.bind_eq_some_iff, Option.pure_def, Option.some.injEq] at hcrs
          obtain ⟨_, _, _, _, h⟩ := hcrs
          cases h
      subst hnil
      obtain ⟨v, hv, hd, hq⟩ := res_run R hcr h
      refine ⟨v, ?_, hd, hq⟩
      rw [go [v] (by rw [hrl]; simp [hv])]
      simp
  · have hne : ∀ r, crs ≠ [r] := fun r e => hone ⟨r, e⟩
    rw [many hne] at h
    simp only [Option.map_eq_some_iff, Prod.mk.injEq] at h
    obtain ⟨as, has, rfl, rfl⟩ := h
    obtain ⟨vs, hvs, hds⟩ := ress_run R hc has
    have hl1 : crs.length = vs.length := by
      have : ∀ {crs : List CRes} {as : List AV}, ressA s crs = some as → crs.length = as.length := by
        intro crs
        induction crs with
        | nil => intro as h; simp [ressA] at h; subst h; rfl
        | cons c crs ih =>
          intro as h
          simp only [ressA] at h
          split at h <;> try (cases h; done)
          rename_i p as' h1 h2
          cases h
          simp [ih h2]
      rw [this has, hds.1]
    refine ⟨.tuple vs.toArray, ?_, .tup as vs.toArray (by simpa using hds.1) (fun i a v ha hv => hds.2 i a v ha (by simpa using hv)), fun t ht => by cases ht⟩
    rw [go vs hvs]
    have : ¬ vs.length = 1 := by
      intro e
      rw [← hl1] at e
      match crs, e, hne with
      | [r], _, hne => exact hne r rfl
    rw [dif_neg this]
end
section
variable {P : Program}
theorem cFn_spec {f : FuncId} {cf : CFn} (hcf : cFn P f = some cf) : ∃ (fn : Func) (c : Code) (cc : CCode), P.funcs[f]? = some fn ∧ fn.body = some c ∧ fn.results.toList.mapM (cRes P) = some cf.res ∧ cCode P c = some cc ∧ cf.code = cc ∧ cf.nt = fn.ntmps ∧ cc.fits fn.ntmps = true ∧ callable P f = true := by
  unfold cFn at hcf
  split at hcf <;> try (cases hcf; done)
  rename_i fn hfn
  split at hcf <;> try (cases hcf; done)
  rename_i c rs hbody hrs
  split at hcf <;> try (cases hcf; done)
  rename_i cc hcc
  split at hcf <;> try (cases hcf; done)
  rename_i hfit
  cases hcf
  simp only [Bool.and_eq_true] at hfit
  exact ⟨fn, c, cc, hfn, hbody, hrs, hcc, rfl, rfl, hfit.1, hfit.2⟩
theorem aw_wide {c : Code} {Q : Exit → Act → World → Prop} {a : Act} {w : World} (h : c.wpIn (FW none) 0 P Q a w) : c.wpIn Fence.wide 0 P Q a w := h
theorem leaves_marks {nt : Nat} {n0 : Fen} {w : World} {π : Nat → Nat → Prop} {s : S} {a : Act} {fn : Func} {R : Ending → World → Prop}
    (main : ∀ w', RelN P nt n0 w π s a w' → ∃ v, (results fn a.tmps).run P w' = .ok v w' ∧ R (.returned v) w') :
    ∀ (Ds : List Nat) (w' : World), Ds.Nodup → (∀ D ∈ Ds, n0.n ≤ D ∧ w'.heap[D]? = some (.deferred (some []))) → RelN P nt n0 w π s a w' → w.heap.size ≤ n0.n → LeavesInM Fence.wide 0 P fn a.tmps R (Ds.map mkD) .returning w'
  | [], w', _, _, R', _ => main w' R'
  | D :: Ds, w', hnd, hD, R', hn => by
    obtain ⟨h1, h2⟩ := hD D List.mem_cons_self
    simp only [List.nodup_cons] at hnd
    refine ⟨by simp, .inl ⟨D, _, rfl, run_takeDeferred h2, ?_⟩⟩
    refine leaves_marks main Ds _ hnd.2 (fun D' hD' => ?_) ((R'.putObj h2 rfl rfl).rew (R'.below.putObj (Nat.le_trans hn h1) h1 _) R'.n0le (fun b o hb => (cell_putObj h2 rfl rfl _).trans (R'.kept b o hb))) hn
    obtain ⟨g1, g2⟩ := hD D' (List.mem_cons_of_mem _ hD')
    exact ⟨g1, (World.putObj_heap_other (fun e => hnd.1 (by rw [← e]; exact hD'))).trans g2⟩
theorem pure_of (hm : P.follows .mixedOrders = true) {f : FuncId} {cf : CFn} (hcf : cFn P f = some cf) {args : List AV} {r : AV} {fr : Option Nat} (hn : args.length ≤ cf.nt)
    (h : aw (Pure P) cf.code (fin cf.res r fr) (initS args)) : Pure0 P f args r fr := by
  obtain ⟨fn, c, cc, hfn, hbody, hrs, hcc, ec, en, hfit, hcall⟩ := cFn_spec hcf
  rw [ec] at h
  rw [en] at hn
  refine ⟨hcall, fun w π vs hprot hd => ?_⟩
  have hlen := hd.1
  have R : RelN P fn.ntmps (Fen.top w) w π (initS args) { tmps := vs.toArray ++ Array.replicate (fn.ntmps - vs.toArray.size) undef, defers := [] } w := by
    refine ⟨Nat.le_refl 4, id, fun _ => undef, π, fun n => n < 4, fun _ h => h, ?_⟩
    refine { size := ?_, slots := ?_, boxes := fun b x h => (by cases h), inj := fun b b' x x' h => (by cases h), live := fun q e h => (by cases h), liveInj := fun q q' e e' B h => (by cases h), liveBox := fun q e b x h => (by cases h), below := .refl _ _, n0le := Nat.le_refl _, prot := hprot, prot0 := fun _ _ h => h, protOld := fun _ _ h => .inl h, fore := fun _ _ => rfl, foreU := fun _ h => h, kept := fun _ _ _ => rfl }
    · simp; omega
    · intro t v hv
      obtain ⟨av, _, hav, rfl⟩ := lk_slotsOf hv
      simp only [Nat.sub_zero] at hav
      obtain ⟨x, hx, hdx⟩ := hd.get hav
      refine ⟨⟨x, ?_, (argSV_RV (U := fun n => n < 4) hdx).1⟩, (argSV_RV (β := id) (τ := fun _ => undef) hdx).2⟩
      have htl : t < vs.length := (List.getElem?_eq_some_iff.1 hx).1
      simp [Array.getElem?_append, htl]
      simpa using (List.getElem?_eq_some_iff.1 hx).2
  refine callsIn_wide.1 (callsIn_of_wp_marks (n := 0) (F := Fence.wide) hfn hbody trivial (wpIn_mono (aw_wide (aw_sound hm c cc hcc hfit _ (fun _ => False) #[] (fun _ h => h.elim) none 0 w _ _ _ _ ⟨R, fun l h => by (cases h), ⟨[], rfl, .nil, by simp⟩, fun _ h => h.elim⟩ h)) ?_))
  have main : ∀ (s : S) (a' : Act) (w' : World), (withV (resultA s cf.res) fun p => p.1 = r ∧ frA fr p.2 s.live) → RelN P fn.ntmps (Fen.top w) w π s a' w' →
      ∃ v, (results fn a'.tmps).run P w' = .ok v w' ∧ ∃ u π', Ending.returned v = .returned u ∧ Below w.heap.size w w' ∧ (∀ b o, π b o → π' b o) ∧ (∀ b o, π' b o → π b o ∨ w.heap.size ≤ b) ∧
        (∀ b o, π' b o → b < w'.heap.size) ∧ DV w' π' r u ∧ ∀ t, fr = some t → Tok P w' π' w.heap.size t u := by
    rintro s a' w' hq ⟨_, β, τ, π', U, hU, R'⟩
    obtain ⟨⟨av, q⟩, hp, hav, hfr⟩ := withV_inv hq
    simp only at hav hfr
    subst hav
    obtain ⟨v, hv, hdv, htq⟩ := result_run R' hrs hp
    refine ⟨v, hv, v, π', rfl, R'.below.below (fun _ h => h), R'.prot0, R'.protOld, R'.prot, hdv, fun t ht => ?_⟩
    subst ht
    simp only [frA] at hfr
    cases q with
    | none => exact hfr.elim
    | some q =>
      rw [htq q rfl]
      exact (R'.live q t hfr).2
  rintro e a' w' ⟨s, hq, R', _, ⟨Ds, hm1, hm2, hm3⟩, _⟩
  cases e with
  | normal => show LeavesInM _ _ _ _ _ _ a'.defers _ _; rw [hm1]; exact leaves_marks (main s a' · hq) Ds w' hm2 hm3 R' (Nat.le_refl _)
  | ret => show LeavesInM _ _ _ _ _ _ a'.defers _ _; rw [hm1]; exact leaves_marks (main s a' · hq) Ds w' hm2 hm3 R' (Nat.le_refl _)
  | _ => exact hq.elim
end
end Go.Eng
namespace Go.Eng
set_option linter.unusedVariables false
set_option linter.unusedSimpArgs false
set_option linter.unnecessarySimpa false
open Go
class Kn (α : Type) where
  run : α → Prop
class Kn2 where
  run : SV → List (Nat × Nat) → Prop
def wv {α : Type} (o : Option α) [k : Kn α] : Prop := withV o k.run
theorem k_wv {α : Type} (o : Option α) (k : α → Prop) : withV o k = @wv α o ⟨k⟩ := rfl
theorem w_some {α : Type} (a : α) (k : α → Prop) : @wv α (some a) ⟨k⟩ = k a := rfl
theorem w_none {α : Type} (k : α → Prop) : @wv α none ⟨k⟩ = False := rfl
def callP (C : Con) (f : Nat) (as : List AV) (id : Nat) (lv : List (Nat × Nat)) (k : SV → List (Nat × Nat) → Prop) : Prop :=
  ∃ r fr, C.c f as r fr ∧ k (.dat r (fr.map fun _ => id)) (match fr with | some e => (id, e) :: lv | none => lv)
def cl (C : Con) (f : Nat) (as : List AV) (id : Nat) (lv : List (Nat × Nat)) [k : Kn2] : Prop := callP C f as id lv k.run
theorem k_cl (C : Con) (f : Nat) (as : List AV) (id : Nat) (lv : List (Nat × Nat)) (k : SV → List (Nat × Nat) → Prop) : callP C f as id lv k = @cl C f as id lv ⟨k⟩ := rfl
@[congr] theorem g_callP {C : Con} (f : Nat) {as as' : List AV} (id : Nat) (lv : List (Nat × Nat)) (k : SV → List (Nat × Nat) → Prop) (h : as = as') : callP C f as id lv k = callP C f as' id lv k := by rw [h]
theorem call_is {C : Con} {f : Nat} {as : List AV} {id : Nat} {lv : List (Nat × Nat)} {k : SV → List (Nat × Nat) → Prop} {r : AV} (h : C.c f as r none) (hk : k (.dat r none) lv) : @cl C f as id lv ⟨k⟩ := ⟨r, none, h, hk⟩
class Kn3 where
  run : SV → List (Nat × Box) → List (Nat × Nat) → Prop
def callPP (C : Con) (f : Nat) (css : List (List AV)) (as : List (Option AV)) (ids : List Nat) (id : Nat) (bx : List (Nat × Box)) (lv : List (Nat × Nat)) (k : SV → List (Nat × Box) → List (Nat × Nat) → Prop) : Prop :=
  ∃ r fr css', C.p f css as r fr css' ∧ k (.dat r (fr.map fun _ => id)) (setBs ids css' bx) (match fr with | some e => (id, e) :: lv | none => lv)
def clp (C : Con) (f : Nat) (css : List (List AV)) (as : List (Option AV)) (ids : List Nat) (id : Nat) (bx : List (Nat × Box)) (lv : List (Nat × Nat)) [k : Kn3] : Prop := callPP C f css as ids id bx lv k.run
theorem k_clp (C : Con) (f : Nat) (css : List (List AV)) (as : List (Option AV)) (ids : List Nat) (id : Nat) (bx : List (Nat × Box)) (lv : List (Nat × Nat)) (k : SV → List (Nat × Box) → List (Nat × Nat) → Prop) : callPP C f css as ids id bx lv k = @clp C f css as ids id bx lv ⟨k⟩ := rfl
class Kn4 where
  run : SV → Prop
def callRR (C : Con) (f : Nat) (css : List (List AV)) (as : List (Option AV)) (k : SV → Prop) : Prop := ∃ r, C.p f css as r none css ∧ k (.dat r none)
def clr (C : Con) (f : Nat) (css : List (List AV)) (as : List (Option AV)) [k : Kn4] : Prop := callRR C f css as k.run
theorem k_clr (C : Con) (f : Nat) (css : List (List AV)) (as : List (Option AV)) (k : SV → Prop) : callRR C f css as k = @clr C f css as ⟨k⟩ := rfl
def cellsPc (x : Option Box) (y : Option (List (List AV))) : Option (List (List AV)) :=
  match x, y with
  | some ⟨cs, []⟩, some css => some (cs :: css)
  | _, _ => none
theorem r_roL0 (ro : List Nat) (i : Nat) : roL ro i [] = [] := rfl
theorem r_roL (ro : List Nat) (i : Nat) (o : CO) (r : List CO) : roL ro i (o :: r) = (bif ro.contains i then o.ro else o) :: roL ro (i + 1) r := rfl
theorem r_ro (d : Option Nat) (o : COp) (g : Option (Nat × Bool)) : CO.ro ⟨d, o, g⟩ = ⟨d, o.ro, g⟩ := rfl
theorem r_ro1 (f : Nat) (as : List Opd) : COp.ro (.callp f as) = .callr f as := rfl
theorem r_ro2 (g : Opd) (as : List Opd) : COp.ro (.callvp g as) = .callvr g as := rfl
section
variable {C : Con} {Q : Exit → S → Prop} {K : SV → S → Prop} {J : S → Prop}
variable (sl : List (Nat × SV)) (bx : List (Nat × Box)) (lv : List (Nat × Nat)) (nx : Nat)
theorem r_lk (n m : Nat) (v : SV) (r : List (Nat × SV)) : lk n ((m, v) :: r) = bif n == m then some v else lk n r := rfl
theorem r_lkB (n m : Nat) (v : Box) (r : List (Nat × Box)) : lkB n ((m, v) :: r) = bif n == m then some v else lkB n r := rfl
theorem r_lkN (n m : Nat) (v : Nat) (r : List (Nat × Nat)) : lkN n ((m, v) :: r) = bif n == m then some v else lkN n r := rfl
theorem r_lkN0 (n : Nat) : lkN n [] = none := rfl
theorem r_setB (n m : Nat) (b v : Box) (r : List (Nat × Box)) : setB n b ((m, v) :: r) = bif n == m then (m, b) :: r else (m, v) :: setB n b r := rfl
theorem r_delN (n m : Nat) (v : Nat) (r : List (Nat × Nat)) : delN n ((m, v) :: r) = bif n == m then delN n r else (m, v) :: delN n r := rfl
theorem r_delN0 (n : Nat) : delN n [] = [] := rfl
theorem r_put (d : Nat) (v : SV) : S.put ⟨sl, bx, lv, nx⟩ (some d) v = ⟨(d, v) :: sl, bx, lv, nx⟩ := rfl
theorem r_put0 (v : SV) : S.put ⟨sl, bx, lv, nx⟩ none v = ⟨sl, bx, lv, nx⟩ := rfl
theorem r_opdt (n : Nat) : opd ⟨sl, bx, lv, nx⟩ (.t n) = lk n sl := rfl
theorem r_opdk (v : AV) : opd ⟨sl, bx, lv, nx⟩ (.k v) = some (.dat v none) := rfl
def datA : Option SV → Option AV
  | some (.dat a _) => some a
  | some (.rp cs) => some (.ref cs)
  | _ => none
theorem r_datAr (cs : List AV) : datA (some (.rp cs)) = some (.ref cs) := rfl
theorem r_datA (a : AV) (q : Option Nat) : datA (some (.dat a q)) = some a := rfl
theorem r_opdAt (n : Nat) : opdA ⟨sl, bx, lv, nx⟩ (.t n) = datA (lk n sl) := rfl
theorem r_opdAk (v : AV) : opdA ⟨sl, bx, lv, nx⟩ (.k v) = some v := rfl
def consO : Option AV → Option (List AV) → Option (List AV)
  | some a, some as => some (a :: as)
  | _, _ => none
theorem r_consO (a : AV) (as : List AV) : consO (some a) (some as) = some (a :: as) := rfl
theorem r_opdsA (x : Opd) (r : List Opd) : opdsA ⟨sl, bx, lv, nx⟩ (x :: r) = consO (opdA ⟨sl, bx, lv, nx⟩ x) (opdsA ⟨sl, bx, lv, nx⟩ r) := rfl
theorem r_opdsA0 : opdsA ⟨sl, bx, lv, nx⟩ [] = some [] := rfl
theorem r_aops0 (b i : Nat) : aops C b i [] J ⟨sl, bx, lv, nx⟩ = J ⟨sl, bx, lv, nx⟩ := rfl
theorem r_aops (b i : Nat) (d : Option Nat) (o : COp) (r : List CO) : aops C b i (⟨d, o, none⟩ :: r) J ⟨sl, bx, lv, nx⟩ = aop C (b + i) o (fun v s' => aops C b (i + 1) r J (s'.put d v)) ⟨sl, bx, lv, nx⟩ := rfl
def guardP (want : Bool) (yes no : Prop) : Option SV → Prop
  | some (.dat (.bool b) _) => (b = want → yes) ∧ (b = !want → no)
  | some .undef => no
  | _ => False
theorem r_aopsg (b i t : Nat) (w : Bool) (d : Option Nat) (o : COp) (r : List CO) : aops C b i (⟨d, o, some (t, w)⟩ :: r) J ⟨sl, bx, lv, nx⟩ =
    guardP w (aop C (b + i) o (fun v s' => aops C b (i + 1) r J (s'.put d v)) ⟨sl, bx, lv, nx⟩) (aops C b (i + 1) r J (S.put ⟨sl, bx, lv, nx⟩ d .undef)) (lk t sl) := by
  simp only [aops, aguard, guardP]
  cases lk t sl with
  | none => rfl
  | some v => cases v with
    | dat a q => cases a <;> rfl
    | ptr => rfl
    | rp => rfl
    | undef => rfl
    | vs => rfl
class KP where
  yes : Prop
  no : Prop
def gd (w : Bool) (v : Option SV) [k : KP] : Prop := guardP w k.yes k.no v
theorem k_gd (w : Bool) (yes no : Prop) (v : Option SV) : guardP w yes no v = @gd w v ⟨yes, no⟩ := rfl
theorem r_guardu (w : Bool) (yes no : Prop) : @gd w (some .undef) ⟨yes, no⟩ = no := rfl
theorem r_guardt (yes no : Prop) (q : Option Nat) : @gd true (some (.dat (.bool true) q)) ⟨yes, no⟩ = yes := by simp [gd, guardP]
theorem r_guardt' (yes no : Prop) (q : Option Nat) : @gd true (some (.dat (.bool false) q)) ⟨yes, no⟩ = no := by simp [gd, guardP]
theorem r_guardf (yes no : Prop) (q : Option Nat) : @gd false (some (.dat (.bool false) q)) ⟨yes, no⟩ = yes := by simp [gd, guardP]
theorem r_guardf' (yes no : Prop) (q : Option Nat) : @gd false (some (.dat (.bool true) q)) ⟨yes, no⟩ = no := by simp [gd, guardP]
theorem r_mv (id : Nat) (x : Opd) : aop C id (.mv x) K ⟨sl, bx, lv, nx⟩ = withV (opd ⟨sl, bx, lv, nx⟩ x) fun v => K v ⟨sl, bx, lv, nx⟩ := rfl
def pickP (a b : Option SV) (k : SV → Prop) : AV → Prop
  | .bool t => withV a fun u => withV b fun v => (t = true → k u) ∧ (t = false → k v)
  | _ => False
theorem r_pick (id : Nat) (c a b : Opd) : aop C id (.pick c a b) K ⟨sl, bx, lv, nx⟩ = withV (opdA ⟨sl, bx, lv, nx⟩ c) (pickP (opd ⟨sl, bx, lv, nx⟩ a) (opd ⟨sl, bx, lv, nx⟩ b) fun v => K v ⟨sl, bx, lv, nx⟩) := rfl
def pk (a b : Option SV) (c : AV) [k : Kn SV] : Prop := pickP a b k.run c
theorem k_pk (a b : Option SV) (k : SV → Prop) (c : AV) : pickP a b k c = @pk a b c ⟨k⟩ := rfl
theorem r_pickt (k : SV → Prop) (b : Option SV) (v : SV) : @pk (some v) b (.bool true) ⟨k⟩ = withV b fun _ => k v := by simp [pk, pickP]
theorem r_pickf (k : SV → Prop) (a : Option SV) (v : SV) : @pk a (some v) (.bool false) ⟨k⟩ = withV a fun _ => k v := by
  cases a <;> simp [pk, pickP]
theorem r_alloc (id : Nat) (cs : List AV) : aop C id (.alloc cs) K ⟨sl, bx, lv, nx⟩ = K (.ptr id 0) ⟨sl, (id, ⟨cs, []⟩) :: bx, lv, nx⟩ := rfl
theorem r_box (id : Nat) (x : Opd) : aop C id (.box x) K ⟨sl, bx, lv, nx⟩ = withV (opdA ⟨sl, bx, lv, nx⟩ x) fun a => stOk a none = true ∧ K (.ptr id 0) ⟨sl, (id, ⟨a.cells, []⟩) :: bx, lv, nx⟩ := rfl
def ldP (sz : Option Nat) (bx : List (Nat × Box)) (k : SV → Prop) : SV → Prop
  | .ptr b off => withV (lkB b bx) fun x => withV (partA x.cells off sz) fun a => k (.dat a (match sz with | none => lkN off x.tags | some _ => none))
  | .rp cs => withV (partA cs 0 sz) fun a => k (.dat a none)
  | _ => False
theorem r_ld (id : Nat) (x : Opd) (sz : Option Nat) : aop C id (.ld x sz) K ⟨sl, bx, lv, nx⟩ = withV (opd ⟨sl, bx, lv, nx⟩ x) (ldP sz bx fun v => K v ⟨sl, bx, lv, nx⟩) := rfl
theorem r_ldp1 (k : SV → Prop) (b off : Nat) : ldP none bx k (.ptr b off) = withV (lkB b bx) fun x => withV (partA x.cells off none) fun a => k (.dat a (lkN off x.tags)) := rfl
theorem r_ldp2 (k : SV → Prop) (b off n : Nat) : ldP (some n) bx k (.ptr b off) = withV (lkB b bx) fun x => withV (partA x.cells off (some n)) fun a => k (.dat a none) := rfl
theorem r_ldr (k : SV → Prop) (sz : Option Nat) (cs : List AV) : ldP sz bx k (.rp cs) = withV (partA cs 0 sz) fun a => k (.dat a none) := rfl
def stTags (off sz : Nat) (q : Option Nat) (tags : List (Nat × Nat)) : List (Nat × Nat) :=
  match q with
  | some q => (off, q) :: tags.filter (fun p => p.1 < off || off + sz ≤ p.1)
  | none => tags.filter (fun p => p.1 < off || off + sz ≤ p.1)
def stV (sz off : Nat) (x : Box) (k : Box → Prop) : SV → Prop
  | .dat a q => stOk a q = true ∧ a.cells.length = sz ∧ off + sz ≤ x.cells.length ∧ k ⟨setCells x.cells off a.cells, stTags off sz q x.tags⟩
  | _ => False
def stP (sz : Nat) (bx : List (Nat × Box)) (v : Option SV) (k : List (Nat × Box) → Prop) : SV → Prop
  | .ptr b off => withV (lkB b bx) fun x => withV v (stV sz off x fun y => k (setB b y bx))
  | _ => False
theorem r_st (id : Nat) (x v : Opd) (sz : Nat) : aop C id (.st x v sz) K ⟨sl, bx, lv, nx⟩ = withV (opd ⟨sl, bx, lv, nx⟩ x) (stP sz bx (opd ⟨sl, bx, lv, nx⟩ v) fun b => K .undef ⟨sl, b, lv, nx⟩) := by
  show withV _ _ = withV _ _
  cases hx : opd ⟨sl, bx, lv, nx⟩ x with
  | none => rfl
  | some p => cases p with
    | ptr b off =>
      show withV _ _ = withV _ _
      cases hb : lkB b bx with
      | none => rfl
      | some y =>
        show withV _ _ = withV _ _
        cases hv : opd ⟨sl, bx, lv, nx⟩ v with
        | none => rfl
        | some u => cases u with
          | dat a q => cases q <;> rfl
          | _ => rfl
    | _ => rfl
theorem r_stp (sz b off : Nat) (v : Option SV) (k : List (Nat × Box) → Prop) : stP sz bx v k (.ptr b off) = withV (lkB b bx) fun x => withV v (stV sz off x fun y => k (setB b y bx)) := rfl
theorem r_stv (sz off : Nat) (cs : List AV) (tg : List (Nat × Nat)) (k : Box → Prop) (a : AV) (q : Option Nat) : stV sz off ⟨cs, tg⟩ k (.dat a q) = (stOk a q = true ∧ a.cells.length = sz ∧ off + sz ≤ cs.length ∧ k ⟨setCells cs off a.cells, stTags off sz q tg⟩) := rfl
theorem r_tags0 (off sz : Nat) : stTags off sz none [] = [] := rfl
theorem r_tags1 (off sz q : Nat) : stTags off sz (some q) [] = [(off, q)] := rfl
def faP (off : Nat) (k : SV → Prop) : SV → Prop
  | .ptr b o => k (.ptr b (o + off))
  | .rp cs => k (.rp (cs.drop off))
  | _ => False
theorem r_fa (id : Nat) (x : Opd) (off : Nat) : aop C id (.fa x off) K ⟨sl, bx, lv, nx⟩ = withV (opd ⟨sl, bx, lv, nx⟩ x) (faP off fun v => K v ⟨sl, bx, lv, nx⟩) := rfl
theorem r_fap (k : SV → Prop) (b o off : Nat) : faP off k (.ptr b o) = k (.ptr b (o + off)) := rfl
theorem r_far (k : SV → Prop) (cs : List AV) (off : Nat) : faP off k (.rp cs) = k (.rp (cs.drop off)) := rfl
def iaP (d : Nat) (k : SV → Prop) : SV → Prop
  | .ptr b o => k (.ptr b (o + d))
  | .rp cs => k (.rp (cs.drop d))
  | _ => False
theorem r_iaA (id : Nat) (x i : Opd) (n z : Nat) : aop C id (.iaA x i n z) K ⟨sl, bx, lv, nx⟩ = withV (opd ⟨sl, bx, lv, nx⟩ x) fun p => withV (opdA ⟨sl, bx, lv, nx⟩ i) fun a => withV (idxOf a) fun i => (0 ≤ i ∧ i < n) ∧ iaP (i.toNat * z) (fun v => K v ⟨sl, bx, lv, nx⟩) p := rfl
theorem r_iap (k : SV → Prop) (b o d : Nat) : iaP d k (.ptr b o) = k (.ptr b (o + d)) := rfl
theorem r_iar (k : SV → Prop) (cs : List AV) (d : Nat) : iaP d k (.rp cs) = k (.rp (cs.drop d)) := rfl
theorem r_idx (k : IntKind) (i : Int) : idxOf (.int k i) = some i := rfl
theorem r_iaS (id : Nat) (x i : Opd) (z : Nat) : aop C id (.iaS x i z) K ⟨sl, bx, lv, nx⟩ = withV (opdA ⟨sl, bx, lv, nx⟩ x) fun l => withV (opdA ⟨sl, bx, lv, nx⟩ i) fun a => withV (idxOf a) fun i => withV (rowsOf l) fun xs => (0 ≤ i ∧ i < xs.length) ∧ withV (xs[i.toNat]?) fun row => row.length = z ∧ K (.rp row) ⟨sl, bx, lv, nx⟩ := rfl
theorem r_rows (xs : List (List AV)) : rowsOf (.sl xs) = some xs := rfl
theorem r_rows0 : rowsOf .nils = some [] := rfl
def aggP (k : List AV → Prop) : AV → Prop
  | .agg cs => k cs
  | _ => False
theorem r_agg (k : List AV → Prop) (cs : List AV) : aggP k (.agg cs) = k cs := rfl
theorem r_fld (id : Nat) (x : Opd) (off : Nat) (sz : Option Nat) : aop C id (.fld x off sz) K ⟨sl, bx, lv, nx⟩ = withV (opdA ⟨sl, bx, lv, nx⟩ x) (aggP fun cs => withV (partA cs off sz) fun a => K (.dat a none) ⟨sl, bx, lv, nx⟩) := rfl
theorem r_ixA (id : Nat) (x i : Opd) (n z : Nat) (sz : Option Nat) : aop C id (.ixA x i n z sz) K ⟨sl, bx, lv, nx⟩ = withV (opdA ⟨sl, bx, lv, nx⟩ x) (aggP fun cs => withV (opdA ⟨sl, bx, lv, nx⟩ i) fun a => withV (idxOf a) fun i => (0 ≤ i ∧ i < n) ∧ withV (partA cs (i.toNat * z) sz) fun a => K (.dat a none) ⟨sl, bx, lv, nx⟩) := rfl
theorem r_bin (id : Nat) (op : BinOp) (x y : Opd) : aop C id (.bin op x y) K ⟨sl, bx, lv, nx⟩ = withV (opdA ⟨sl, bx, lv, nx⟩ x) fun a => withV (opdA ⟨sl, bx, lv, nx⟩ y) fun b => withV (binA op a b) fun v => K (.dat v none) ⟨sl, bx, lv, nx⟩ := rfl
theorem r_eqc (id : Nat) (ks : List CK) (neg : Bool) (x y : Opd) : aop C id (.eqc ks neg x y) K ⟨sl, bx, lv, nx⟩ = withV (opdA ⟨sl, bx, lv, nx⟩ x) (aggP fun as => withV (opdA ⟨sl, bx, lv, nx⟩ y) (aggP fun bs => withV (cellsEq ks as bs) fun e => K (.dat (.bool (e != neg)) none) ⟨sl, bx, lv, nx⟩)) := rfl
theorem r_bb (id : Nat) (neg : Bool) (x y : Opd) : aop C id (.bb neg x y) K ⟨sl, bx, lv, nx⟩ = withV (opdA ⟨sl, bx, lv, nx⟩ x) fun a => withV (opdA ⟨sl, bx, lv, nx⟩ y) fun b => withV (bbA neg a b) fun v => K (.dat v none) ⟨sl, bx, lv, nx⟩ := rfl
theorem r_un (id : Nat) (op : UnOp) (x : Opd) : aop C id (.un op x) K ⟨sl, bx, lv, nx⟩ = withV (opdA ⟨sl, bx, lv, nx⟩ x) fun a => withV (unA op a) fun v => K (.dat v none) ⟨sl, bx, lv, nx⟩ := rfl
theorem r_cvII (id : Nat) (k : IntKind) (x : Opd) : aop C id (.cvII k x) K ⟨sl, bx, lv, nx⟩ = withV (opdA ⟨sl, bx, lv, nx⟩ x) fun a => withV (cvIIA k a) fun v => K (.dat v none) ⟨sl, bx, lv, nx⟩ := rfl
theorem r_cvIF (id : Nat) (k : FloatKind) (x : Opd) : aop C id (.cvIF k x) K ⟨sl, bx, lv, nx⟩ = withV (opdA ⟨sl, bx, lv, nx⟩ x) fun a => withV (cvIFA k a) fun v => K (.dat v none) ⟨sl, bx, lv, nx⟩ := rfl
theorem r_cvFI (id : Nat) (k : IntKind) (x : Opd) : aop C id (.cvFI k x) K ⟨sl, bx, lv, nx⟩ = withV (opdA ⟨sl, bx, lv, nx⟩ x) fun a => withV (cvFIA k a) fun v => K (.dat v none) ⟨sl, bx, lv, nx⟩ := rfl
theorem r_lenS (id : Nat) (x : Opd) : aop C id (.lenS x) K ⟨sl, bx, lv, nx⟩ = withV (opdA ⟨sl, bx, lv, nx⟩ x) fun a => withV (lenA a) fun v => K (.dat v none) ⟨sl, bx, lv, nx⟩ := rfl
theorem r_xt (id : Nat) (e : Xt) (x : Opd) : aop C id (.xt e x) K ⟨sl, bx, lv, nx⟩ = withV (opdA ⟨sl, bx, lv, nx⟩ x) fun a => withV (xtA e a) fun v => K (.dat v none) ⟨sl, bx, lv, nx⟩ := rfl
theorem r_xb (b : Nat) : xtA .fbits (.float .f64 b) = some (.int .u64 b) := rfl
theorem r_xf (n : Int) : xtA .ffrom (.int .u64 n) = some (.float .f64 n.toNat) := rfl
theorem r_xr (b : Nat) : xtA .rte (.float .f64 b) = rteA b := rfl
def slAP (n z : Nat) (s : S) (k : SV → S → Prop) : SV → Prop
  | .rp cs => n * z ≤ cs.length ∧ k (.dat (.sl (chunkA z n cs)) none) s
  | .ptr b off => 4 ≤ b ∧ withV (lkB b s.boxes) fun bx => n * z ≤ (bx.cells.drop off).length ∧ k (.dat (.sl (chunkA z n (bx.cells.drop off))) none) (frzs [b] [bx.cells] s)
  | _ => False
theorem r_slA (id : Nat) (x : Opd) (n z : Nat) : aop C id (.slA x n z) K ⟨sl, bx, lv, nx⟩ = withV (opd ⟨sl, bx, lv, nx⟩ x) (slAP n z ⟨sl, bx, lv, nx⟩ K) := by
  show withV _ _ = withV _ _
  cases opd ⟨sl, bx, lv, nx⟩ x with
  | none => rfl
  | some v => cases v <;> rfl
theorem r_slA1 (n z : Nat) (s : S) (k : SV → S → Prop) (cs : List AV) : slAP n z s k (.rp cs) = (n * z ≤ cs.length ∧ k (.dat (.sl (chunkA z n cs)) none) s) := rfl
theorem r_slA2 (n z : Nat) (k : SV → S → Prop) (b off : Nat) : slAP n z ⟨sl, bx, lv, nx⟩ k (.ptr b off) = (4 ≤ b ∧ withV (lkB b bx) fun y => n * z ≤ (y.cells.drop off).length ∧ k (.dat (.sl (chunkA z n (y.cells.drop off))) none) (frzs [b] [y.cells] ⟨sl, bx, lv, nx⟩)) := rfl
def ixBP (s : S) (i : Opd) (k : AV → Prop) : AV → Prop
  | .str b => withV (opdA s i) fun a => withV (idxOf a) fun j => withV (byteA b j) k
  | _ => False
theorem r_ixB (id : Nat) (x i : Opd) : aop C id (.ixB x i) K ⟨sl, bx, lv, nx⟩ = withV (opdA ⟨sl, bx, lv, nx⟩ x) (ixBP ⟨sl, bx, lv, nx⟩ i fun v => K (.dat v none) ⟨sl, bx, lv, nx⟩) := by
  show withV _ _ = withV _ _
  cases opdA ⟨sl, bx, lv, nx⟩ x with
  | none => rfl
  | some v => cases v <;> rfl
theorem r_ixBs (s : S) (i : Opd) (k : AV → Prop) (b : ByteArray) : ixBP s i k (.str b) = withV (opdA s i) fun a => withV (idxOf a) fun j => withV (byteA b j) k := rfl
theorem r_lenK (id n : Nat) : aop C id (.lenK n) K ⟨sl, bx, lv, nx⟩ = K (.dat (.int .i64 n) none) ⟨sl, bx, lv, nx⟩ := rfl
theorem r_call (id f : Nat) (args : List Opd) : aop C id (.call f args) K ⟨sl, bx, lv, nx⟩ = withV (opdsA ⟨sl, bx, lv, nx⟩ args) fun as => callP C f as id lv fun v l => K v ⟨sl, bx, l, nx⟩ := rfl
def callvP (C : Con) (id : Nat) (lv : List (Nat × Nat)) (as : List AV) (k : SV → List (Nat × Nat) → Prop) : AV → Prop
  | .fn (.func f) first caps => callP C f (first ++ as ++ caps) id lv k
  | _ => False
@[congr] theorem g_callvP (id : Nat) (lv : List (Nat × Nat)) (as : List AV) (k : SV → List (Nat × Nat) → Prop) {v v' : AV} (h : v = v') : callvP C id lv as k v = callvP C id lv as k v' := by rw [h]
def consP : Option SV → Option (List (Option AV) × List Nat) → Option (List (Option AV) × List Nat)
  | some (.dat a _), some p => some (some a :: p.1, p.2)
  | some (.rp cs), some p => some (some (.ref cs) :: p.1, p.2)
  | some (.ptr b 0), some p => some (none :: p.1, b :: p.2)
  | _, _ => none
theorem r_consPd (a : AV) (q : Option Nat) (p : List (Option AV) × List Nat) : consP (some (.dat a q)) (some p) = some (some a :: p.1, p.2) := rfl
theorem r_consPr (cs : List AV) (p : List (Option AV) × List Nat) : consP (some (.rp cs)) (some p) = some (some (.ref cs) :: p.1, p.2) := rfl
theorem r_consPp (b : Nat) (p : List (Option AV) × List Nat) : consP (some (.ptr b 0)) (some p) = some (none :: p.1, b :: p.2) := rfl
theorem r_svs0 : svsA ⟨sl, bx, lv, nx⟩ [] = some ([], []) := rfl
theorem r_svs (x : Opd) (r : List Opd) : svsA ⟨sl, bx, lv, nx⟩ (x :: r) = consP (opd ⟨sl, bx, lv, nx⟩ x) (svsA ⟨sl, bx, lv, nx⟩ r) := by
  show (match opd ⟨sl, bx, lv, nx⟩ x, svsA ⟨sl, bx, lv, nx⟩ r with
    | some (.dat a _), some (as, bs) => some (some a :: as, bs)
    | some (.rp cs), some (as, bs) => some (some (.ref cs) :: as, bs)
    | some (.ptr b 0), some (as, bs) => some (none :: as, b :: bs)
    | _, _ => none) = _
  unfold consP
  cases opd ⟨sl, bx, lv, nx⟩ x with
  | none => rfl
  | some v =>
    cases svsA ⟨sl, bx, lv, nx⟩ r with
    | none => cases v with
      | ptr b o => cases o <;> rfl
      | _ => rfl
    | some p => cases v with
      | ptr b o => cases o <;> rfl
      | _ => rfl
theorem r_cells0 : cellsA bx [] = some [] := rfl
def consC : Option Box → Option (List (List AV)) → Option (List (List AV))
  | some x, some css => some (x.cells :: css)
  | _, _ => none
theorem r_consC (x : Box) (css : List (List AV)) : consC (some x) (some css) = some (x.cells :: css) := rfl
theorem r_cells (b : Nat) (bs : List Nat) : cellsA bx (b :: bs) = consC (lkB b bx) (cellsA bx bs) := rfl
theorem r_nodup0 : nodupB [] = true := rfl
theorem r_nodup (b : Nat) (bs : List Nat) : nodupB (b :: bs) = (!bs.contains b && nodupB bs) := rfl
theorem r_setBs (b : Nat) (bs : List Nat) (cs : List AV) (css : List (List AV)) : setBs (b :: bs) (cs :: css) bx = setBs bs css (setB b ⟨cs, []⟩ bx) := rfl
theorem r_cellsP0 : cellsP bx [] = some [] := rfl
theorem r_cellsP (b : Nat) (bs : List Nat) : cellsP bx (b :: bs) = cellsPc (lkB b bx) (cellsP bx bs) := rfl
theorem r_cellsPc (cs : List AV) (css : List (List AV)) : cellsPc (some ⟨cs, []⟩) (some css) = some (cs :: css) := rfl
theorem r_setBs0 (css : List (List AV)) : setBs [] css bx = bx := rfl
def callpK (C : Con) (f id : Nat) (bx : List (Nat × Box)) (lv : List (Nat × Nat)) (k : SV → List (Nat × Box) → List (Nat × Nat) → Prop) (p : List (Option AV) × List Nat) : Prop :=
  nodupB p.2 = true ∧ withV (cellsA bx p.2) fun css => callPP C f css p.1 p.2 id bx lv k
theorem r_callpK (f id : Nat) (as : List (Option AV)) (ids : List Nat) (k : SV → List (Nat × Box) → List (Nat × Nat) → Prop) : callpK C f id bx lv k (as, ids) = (nodupB ids = true ∧ withV (cellsA bx ids) fun css => callPP C f css as ids id bx lv k) := rfl
theorem r_callp (id f : Nat) (args : List Opd) : aop C id (.callp f args) K ⟨sl, bx, lv, nx⟩ = withV (svsA ⟨sl, bx, lv, nx⟩ args) (callpK C f id bx lv fun v b l => K v ⟨sl, b, l, nx⟩) := rfl
theorem r_callv (id : Nat) (g : Opd) (args : List Opd) : aop C id (.callv g args) K ⟨sl, bx, lv, nx⟩ = withV (opdA ⟨sl, bx, lv, nx⟩ g) fun a => withV (opdsA ⟨sl, bx, lv, nx⟩ args) fun as => callvP C id lv as (fun v l => K v ⟨sl, bx, l, nx⟩) a := by
  show withV _ _ = withV _ _
  cases hx : opdA ⟨sl, bx, lv, nx⟩ g with
  | none => rfl
  | some a =>
    show (match a with | .fn (.func f) first caps => _ | _ => False) = _
    cases hy : opdsA ⟨sl, bx, lv, nx⟩ args with
    | none => cases a <;> first | rfl | (rename_i f _ _; cases f <;> rfl)
    | some as => cases a <;> first | rfl | (rename_i f _ _; cases f <;> rfl)
theorem r_callvf (id f : Nat) (as first caps : List AV) (k : SV → List (Nat × Nat) → Prop) : callvP C id lv as k (.fn (.func f) first caps) = callP C f (first ++ as ++ caps) id lv k := rfl
def callvpP (C : Con) (id : Nat) (bx : List (Nat × Box)) (lv : List (Nat × Nat)) (p : List (Option AV) × List Nat) (k : SV → List (Nat × Box) → List (Nat × Nat) → Prop) : AV → Prop
  | .fn (.func f) [] [] => callpK C f id bx lv k p
  | _ => False
@[congr] theorem g_callvpP (id : Nat) (bx : List (Nat × Box)) (lv : List (Nat × Nat)) {p p' : List (Option AV) × List Nat} (k : SV → List (Nat × Box) → List (Nat × Nat) → Prop) {v v' : AV} (h1 : p = p') (h : v = v') : callvpP C id bx lv p k v = callvpP C id bx lv p' k v' := by rw [h, h1]
theorem r_callvp (id : Nat) (g : Opd) (args : List Opd) : aop C id (.callvp g args) K ⟨sl, bx, lv, nx⟩ = withV (opdA ⟨sl, bx, lv, nx⟩ g) fun a => withV (svsA ⟨sl, bx, lv, nx⟩ args) fun p => callvpP C id bx lv p (fun v b l => K v ⟨sl, b, l, nx⟩) a := by
  show withV _ _ = withV _ _
  cases hx : opdA ⟨sl, bx, lv, nx⟩ g with
  | none => rfl
  | some a =>
    show (match a with | .fn (.func f) [] [] => _ | _ => False) = _
    cases hy : svsA ⟨sl, bx, lv, nx⟩ args with
    | none => cases a <;> first | rfl | (rename_i f x y; cases f <;> first | rfl | (cases x <;> first | rfl | (cases y <;> rfl)))
    | some as => cases a <;> first | rfl | (rename_i f x y; cases f <;> first | rfl | (cases x <;> first | rfl | (cases y <;> rfl)))
def callrK (C : Con) (f : Nat) (bx : List (Nat × Box)) (k : SV → Prop) (p : List (Option AV) × List Nat) : Prop :=
  nodupB p.2 = true ∧ withV (cellsP bx p.2) fun css => callRR C f css p.1 k
theorem r_callr (id f : Nat) (args : List Opd) : aop C id (.callr f args) K ⟨sl, bx, lv, nx⟩ = withV (svsA ⟨sl, bx, lv, nx⟩ args) (callrK C f bx fun v => K v ⟨sl, bx, lv, nx⟩) := rfl
theorem r_callrK (f : Nat) (as : List (Option AV)) (ids : List Nat) (k : SV → Prop) : callrK C f bx k (as, ids) = (nodupB ids = true ∧ withV (cellsP bx ids) fun css => callRR C f css as k) := rfl
def callvrP (C : Con) (bx : List (Nat × Box)) (p : List (Option AV) × List Nat) (k : SV → Prop) : AV → Prop
  | .fn (.func f) [] [] => callrK C f bx k p
  | _ => False
@[congr] theorem g_callvrP (bx : List (Nat × Box)) {p p' : List (Option AV) × List Nat} (k : SV → Prop) {v v' : AV} (h1 : p = p') (h : v = v') : callvrP C bx p k v = callvrP C bx p' k v' := by rw [h, h1]
theorem r_callvr (id : Nat) (g : Opd) (args : List Opd) : aop C id (.callvr g args) K ⟨sl, bx, lv, nx⟩ = withV (opdA ⟨sl, bx, lv, nx⟩ g) fun a => withV (svsA ⟨sl, bx, lv, nx⟩ args) fun p => callvrP C bx p (fun v => K v ⟨sl, bx, lv, nx⟩) a := by
  show withV _ _ = withV _ _
  cases hx : opdA ⟨sl, bx, lv, nx⟩ g with
  | none => rfl
  | some a =>
    show (match a with | .fn (.func f) [] [] => _ | _ => False) = _
    cases hy : svsA ⟨sl, bx, lv, nx⟩ args with
    | none => cases a <;> first | rfl | (rename_i f x y; cases f <;> first | rfl | (cases x <;> first | rfl | (cases y <;> rfl)))
    | some as => cases a <;> first | rfl | (rename_i f x y; cases f <;> first | rfl | (cases x <;> first | rfl | (cases y <;> rfl)))
theorem r_callvrf (f : Nat) (p : List (Option AV) × List Nat) (k : SV → Prop) : callvrP C bx p k (.fn (.func f) [] []) = callrK C f bx k p := rfl
theorem r_callvpf (id f : Nat) (p : List (Option AV) × List Nat) (k : SV → List (Nat × Box) → List (Nat × Nat) → Prop) : callvpP C id bx lv p k (.fn (.func f) [] []) = callpK C f id bx lv k p := rfl
theorem r_isn (id : Nat) (neg : Bool) (x : Opd) : aop C id (.isn neg x) K ⟨sl, bx, lv, nx⟩ = withV (opdA ⟨sl, bx, lv, nx⟩ x) fun a => withV (nilA neg a) fun v => K (.dat (.bool v) none) ⟨sl, bx, lv, nx⟩ := rfl
theorem r_ext (id : Nat) (x : Opd) (i : Nat) : aop C id (.ext x i) K ⟨sl, bx, lv, nx⟩ = withV (opdA ⟨sl, bx, lv, nx⟩ x) fun a => withV (extA a i) fun v => K (.dat v none) ⟨sl, bx, lv, nx⟩ := rfl
theorem r_frz1 (b : Nat) (cs : List AV) (b' o : Nat) : frzV b cs (.ptr b' o) = bif b' == b then .rp (cs.drop o) else .ptr b' o := rfl
theorem r_frz2 (b : Nat) (cs : List AV) (a : AV) (q : Option Nat) : frzV b cs (.dat a q) = .dat a q := rfl
theorem r_frz3 (b : Nat) (cs cs' : List AV) : frzV b cs (.rp cs') = .rp cs' := rfl
theorem r_frz4 (b : Nat) (cs : List AV) : frzV b cs .undef = .undef := rfl
theorem r_frzL0 (b : Nat) (cs : List AV) : frzL b cs [] = [] := rfl
theorem r_frzL (b : Nat) (cs : List AV) (t : Nat) (v : SV) (r : List (Nat × SV)) : frzL b cs ((t, v) :: r) = (t, frzV b cs v) :: frzL b cs r := rfl
theorem r_delB0 (n : Nat) : delB n [] = [] := rfl
theorem r_delB (n m : Nat) (v : Box) (r : List (Nat × Box)) : delB n ((m, v) :: r) = bif n == m then delB n r else (m, v) :: delB n r := rfl
theorem r_frzs0 (css : List (List AV)) (s : S) : frzs [] css s = s := rfl
theorem r_frzs (b : Nat) (bs : List Nat) (cs : List AV) (css : List (List AV)) : frzs (b :: bs) (cs :: css) ⟨sl, bx, lv, nx⟩ = frzs bs css ⟨frzL b cs sl, delB b bx, lv, nx⟩ := rfl
theorem r_fillP0 (css : List (List AV)) : fillP [] css = [] := by cases css <;> rfl
theorem r_fillPs (a : AV) (as : List (Option AV)) (css : List (List AV)) : fillP (some a :: as) css = a :: fillP as css := by cases css <;> rfl
theorem r_fillPn (as : List (Option AV)) (cs : List AV) (css : List (List AV)) : fillP (none :: as) (cs :: css) = .ref cs :: fillP as css := rfl
theorem r_own0 : ownIds [] = true := rfl
theorem r_own (b : Nat) (bs : List Nat) : ownIds (b :: bs) = (decide (4 ≤ b) && ownIds bs) := rfl
def mkfK (fn : Fn) (as : List AV) (s : S) (k : SV → S → Prop) (p : List (Option AV) × List Nat) : Prop :=
  (nodupB p.2 && ownIds p.2) = true ∧ withV (cellsA s.boxes p.2) fun css => k (.dat (.fn fn as (fillP p.1 css)) none) (frzs p.2 css s)
theorem r_mkfK (fn : Fn) (as : List AV) (k : SV → S → Prop) (ps : List (Option AV)) (ids : List Nat) : mkfK fn as ⟨sl, bx, lv, nx⟩ k (ps, ids) = ((nodupB ids && ownIds ids) = true ∧ withV (cellsA bx ids) fun css => k (.dat (.fn fn as (fillP ps css)) none) (frzs ids css ⟨sl, bx, lv, nx⟩)) := rfl
theorem r_mkf (id : Nat) (fn : Fn) (a b : List Opd) : aop C id (.mkf fn a b) K ⟨sl, bx, lv, nx⟩ = withV (opdsA ⟨sl, bx, lv, nx⟩ a) fun as => withV (svsA ⟨sl, bx, lv, nx⟩ b) (mkfK fn as ⟨sl, bx, lv, nx⟩ K) := rfl
def mmP (mx : Bool) (k : AV → Prop) : List AV → Prop
  | [] => False
  | a :: r => withV (r.foldlM (mmA mx) a) k
theorem r_mm (id : Nat) (mx : Bool) (args : List Opd) : aop C id (.mm mx args) K ⟨sl, bx, lv, nx⟩ = withV (opdsA ⟨sl, bx, lv, nx⟩ args) (mmP mx fun v => K (.dat v none) ⟨sl, bx, lv, nx⟩) := by
  show withV _ _ = withV _ _
  cases opdsA ⟨sl, bx, lv, nx⟩ args with
  | none => rfl
  | some l => cases l <;> rfl
theorem r_mm2 (mx : Bool) (k : AV → Prop) (a b : AV) : mmP mx k [a, b] = withV (mmA mx a b) k := by simp [mmP]
theorem r_mmI (kd : IntKind) (x y : Int) : mmA true (.int kd x) (.int kd y) = some (.int kd (if y > x then y else x)) := rfl
theorem r_mmI' (kd : IntKind) (x y : Int) : mmA false (.int kd x) (.int kd y) = some (.int kd (if y < x then y else x)) := rfl
theorem r_build (id : Nat) (zs : List AV) (parts : List (Nat × Nat × Opd)) : aop C id (.build zs parts) K ⟨sl, bx, lv, nx⟩ = withV (partsA ⟨sl, bx, lv, nx⟩ parts) fun ps => K (.dat (.agg (fillA zs ps)) none) ⟨sl, bx, lv, nx⟩ := rfl
def partO (off sz : Nat) : Option AV → Option (List (Nat × List AV)) → Option (List (Nat × List AV))
  | some a, some ps => if a.cells.length = sz ∧ stOk a none = true then some ((off, a.cells) :: ps) else none
  | _, _ => none
theorem r_partsA (off sz : Nat) (x : Opd) (r : List (Nat × Nat × Opd)) : partsA ⟨sl, bx, lv, nx⟩ ((off, sz, x) :: r) = partO off sz (opdA ⟨sl, bx, lv, nx⟩ x) (partsA ⟨sl, bx, lv, nx⟩ r) := rfl
theorem r_partsA0 : partsA ⟨sl, bx, lv, nx⟩ [] = some [] := rfl
theorem r_partO (off sz : Nat) (a : AV) (ps : List (Nat × List AV)) (h : a.cells.length = sz) (h' : stOk a none = true) : partO off sz (some a) (some ps) = some ((off, a.cells) :: ps) := by simp [partO, h, h']
theorem r_bsl (id e z : Nat) (xs : List Opd) : aop C id (.bsl e z xs) K ⟨sl, bx, lv, nx⟩ = withV (rowsA ⟨sl, bx, lv, nx⟩ z xs) fun rows => K (.dat (.sl rows) (some id)) ⟨sl, bx, (id, e) :: lv, nx⟩ := rfl
def rowO (z : Nat) : Option AV → Option (List (List AV)) → Option (List (List AV))
  | some a, some rows => if a.cells.length = z ∧ stOk a none = true then some (a.cells :: rows) else none
  | _, _ => none
theorem r_rowsA (z : Nat) (x : Opd) (r : List Opd) : rowsA ⟨sl, bx, lv, nx⟩ z (x :: r) = rowO z (opdA ⟨sl, bx, lv, nx⟩ x) (rowsA ⟨sl, bx, lv, nx⟩ z r) := rfl
theorem r_rowsA0 (z : Nat) : rowsA ⟨sl, bx, lv, nx⟩ z [] = some [] := rfl
theorem r_rowO (z : Nat) (a : AV) (rows : List (List AV)) (h : a.cells.length = z) (h' : stOk a none = true) : rowO z (some a) (some rows) = some (a.cells :: rows) := by simp [rowO, h, h']
theorem r_app (id e z bytes : Nat) (x y : Opd) : aop C id (.app e z bytes x y) K ⟨sl, bx, lv, nx⟩ = withV (opd ⟨sl, bx, lv, nx⟩ x) fun
      | .dat a q => withV (rowsOf a) fun xs => withV (opdA ⟨sl, bx, lv, nx⟩ y) fun b => withV (rowsOf b) fun ys =>
          (xs.length + ys.length) * bytes ≤ 140737488355328 ∧ (∀ r ∈ xs, r.length = z) ∧ (∀ r ∈ ys, r.length = z) ∧
          (match a, q with
           | .nils, _ => if ys = [] then K (.dat .nils none) ⟨sl, bx, lv, nx⟩ else K (.dat (.sl (xs ++ ys)) (some id)) ⟨sl, bx, (id, e) :: lv, nx⟩
           | .sl _, some q => lkN q lv = some e ∧ K (.dat (.sl (xs ++ ys)) (some id)) ⟨sl, bx, (id, e) :: delN q lv, nx⟩
           | _, _ => False)
      | _ => False := rfl
theorem r_slS (id z : Nat) (x : Opd) (lo hi : Option Opd) : aop C id (.slS z x lo hi) K ⟨sl, bx, lv, nx⟩ = withV (opdA ⟨sl, bx, lv, nx⟩ x) fun a => withV (rowsOf a) fun xs => withV (bndL ⟨sl, bx, lv, nx⟩ lo) fun l => withV (bndH ⟨sl, bx, lv, nx⟩ xs hi) fun h => (0 ≤ l ∧ l ≤ h ∧ h ≤ xs.length) ∧ (∀ r ∈ xs, r.length = z) ∧ K (.dat (cutA a xs l h) none) ⟨sl, bx, lv, nx⟩ := rfl
theorem r_bndL0 : bndL ⟨sl, bx, lv, nx⟩ none = some 0 := rfl
theorem r_bndL (x : Opd) : bndL ⟨sl, bx, lv, nx⟩ (some x) = idxO (opdA ⟨sl, bx, lv, nx⟩ x) := by cases h : opdA ⟨sl, bx, lv, nx⟩ x <;> simp [bndL, idxO, h]
theorem r_bndH0 (xs : List (List AV)) : bndH ⟨sl, bx, lv, nx⟩ xs none = some (xs.length : Int) := rfl
theorem r_bndH (xs : List (List AV)) (x : Opd) : bndH ⟨sl, bx, lv, nx⟩ xs (some x) = idxO (opdA ⟨sl, bx, lv, nx⟩ x) := by cases h : opdA ⟨sl, bx, lv, nx⟩ x <;> simp [bndH, idxO, h]
theorem r_idxO (k : IntKind) (i : Int) : idxO (some (.int k i)) = some i := rfl
theorem r_cut (xs ys : List (List AV)) (l h : Int) : cutA (.sl ys) xs l h = .sl ((xs.take h.toNat).drop l.toNat) := rfl
theorem r_cut0 (xs : List (List AV)) (l h : Int) : cutA .nils xs l h = .nils := rfl
def ncP (k : SV → Prop) : SV → Prop
  | .ptr b o => k (.ptr b o)
  | .rp cs => k (.rp cs)
  | .dat (.fn (.func f) as bs) q => k (.dat (.fn (.func f) as bs) q)
  | .dat (.ref cs) _ => k (.rp cs)
  | _ => False
theorem r_nc (id : Nat) (x : Opd) : aop C id (.nc x) K ⟨sl, bx, lv, nx⟩ = withV (opd ⟨sl, bx, lv, nx⟩ x) (ncP fun v => K v ⟨sl, bx, lv, nx⟩) := by
  show withV _ _ = withV _ _
  cases opd ⟨sl, bx, lv, nx⟩ x with
  | none => rfl
  | some v => cases v with
    | dat a q => cases a <;> first | rfl | (rename_i f _ _; cases f <;> rfl)
    | _ => rfl
theorem r_ncp (k : SV → Prop) (b o : Nat) : ncP k (.ptr b o) = k (.ptr b o) := rfl
theorem r_ncd (k : SV → Prop) (cs : List AV) (q : Option Nat) : ncP k (.dat (.ref cs) q) = k (.rp cs) := rfl
theorem r_ncr (k : SV → Prop) (cs : List AV) : ncP k (.rp cs) = k (.rp cs) := rfl
theorem r_skip : aw C .skip Q ⟨sl, bx, lv, nx⟩ = Q .normal ⟨sl, bx, lv, nx⟩ := rfl
def bump (k : S → Prop) (n : Nat) : S → Prop := fun s => k { s with nx := n }
theorem r_reg (ops : List CO) : aw C (.reg ops) Q ⟨sl, bx, lv, nx⟩ = aops C nx 0 ops (bump (Q .normal) (nx + ops.length)) ⟨sl, bx, lv, nx⟩ := rfl
def dynG (ops : List CO) (bad : List (Nat × Nat)) (s : S) (F : List CO → S → Prop) : Prop := ∃ ids, (nodupB ids && ownIds ids) = true ∧ withV (cellsA s.boxes ids) fun css => ∃ ro, dynOk (roL ro 0 ops) bad (frzs ids css s).nx (frzs ids css s).slots = true ∧ F (roL ro 0 ops) (frzs ids css s)
class KF where
  k : List CO → S → Prop
def dg (ops : List CO) (bad : List (Nat × Nat)) (s : S) [k : KF] : Prop := dynG ops bad s k.k
theorem k_dg (ops : List CO) (bad : List (Nat × Nat)) (s : S) (F : List CO → S → Prop) : dynG ops bad s F = @dg ops bad s ⟨F⟩ := rfl
def goF (C : Con) (nx : Nat) (K : S → Prop) (ops : List CO) (s : S) : Prop := aops C nx 0 ops K s
theorem r_goF (nx : Nat) (K : S → Prop) (o : CO) (ops : List CO) : goF C nx K (o :: ops) ⟨sl, bx, lv, nx⟩ = aops C nx 0 (o :: ops) K ⟨sl, bx, lv, nx⟩ := rfl
theorem r_regD (ops : List CO) (bad : List (Nat × Nat)) : aw C (.regD ops bad) Q ⟨sl, bx, lv, nx⟩ = dynG ops bad ⟨sl, bx, lv, nx⟩ (goF C nx (bump (Q .normal) (nx + ops.length))) := by
  show (∃ ids, _ ∧ withV _ _) = (∃ ids, _ ∧ withV _ _)
  congr 1; funext ids; congr 2; funext css
  show regG _ _ _ _ _ = _
  unfold regG goF
  simp only [frzs_nx]
  rfl
theorem r_bump (k : S → Prop) (n : Nat) : bump k n ⟨sl, bx, lv, nx⟩ = k ⟨sl, bx, lv, n⟩ := rfl
theorem r_seq (a b : CCode) : aw C (.seq a b) Q ⟨sl, bx, lv, nx⟩ = aw C a (athen (aw C b Q) Q) ⟨sl, bx, lv, nx⟩ := rfl
theorem r_join (a b : CCode) : aw C (.join a b) Q ⟨sl, bx, lv, nx⟩ = aw C a (athen (down (aw C b Q)) Q) ⟨sl, bx, lv, nx⟩ := rfl
def condP (a b : Prop) : AV → Prop
  | .bool t => (t = true → a) ∧ (t = false → b)
  | _ => False
theorem r_cond (c : Opd) (a b : CCode) : aw C (.cond c a b) Q ⟨sl, bx, lv, nx⟩ = withV (opdA ⟨sl, bx, lv, nx⟩ c) (condP (aw C a Q ⟨sl, bx, lv, nx⟩) (aw C b Q ⟨sl, bx, lv, nx⟩)) := rfl
def slVP (n z : Nat) (a : Option AV) (k : SV → Prop) : SV → Prop
  | .ptr b off => withV a fun a => withV (idxOf a) fun h => (0 ≤ h ∧ h ≤ n) ∧ k (.vs b off h.toNat z)
  | _ => False
theorem r_slV (id : Nat) (x : Opd) (n z : Nat) (hi : Opd) : aop C id (.slV x n z hi) K ⟨sl, bx, lv, nx⟩ = withV (opd ⟨sl, bx, lv, nx⟩ x) (slVP n z (opdA ⟨sl, bx, lv, nx⟩ hi) fun v => K v ⟨sl, bx, lv, nx⟩) := by
  show withV _ _ = withV _ _
  cases opd ⟨sl, bx, lv, nx⟩ x with
  | none => rfl
  | some v => cases v <;> rfl
theorem r_slVp (n z : Nat) (a : Option AV) (k : SV → Prop) (b off : Nat) : slVP n z a k (.ptr b off) = withV a fun a => withV (idxOf a) fun h => (0 ≤ h ∧ h ≤ n) ∧ k (.vs b off h.toNat z) := rfl
def condW (a b : Prop) : AV → Prop
  | .bool t => (t = true → a) ∧ (t = false → b)
  | _ => False
def appVQ (id e z bytes : Nat) (s : S) (K : SV → S → Prop) (b off n z' : Nat) : SV → Prop
  | .ptr b' _ => (b' = b ∧ z' = z) ∧ withV (lkB b s.boxes) fun y => (n * z ≤ (y.cells.drop off).length ∧ n * bytes ≤ 140737488355328) ∧
      condW (K (.dat .nils none) s) (K (.dat (.sl (chunkA z n (y.cells.drop off))) (some id)) { s with live := (id, e) :: s.live }) (.bool (n == 0))
  | _ => False
def appVP (id e z bytes : Nat) (s : S) (K : SV → S → Prop) (x : Option SV) : SV → Prop
  | .vs b off n z' => withV x (appVQ id e z bytes s K b off n z')
  | _ => False
theorem condW_if (a b : Prop) (n : Nat) : condW a b (.bool (n == 0)) = (if n = 0 then a else b) := by
  by_cases h : n = 0
  · subst h; simp [condW]
  · simp [condW, h]
theorem r_appV (id e z bytes : Nat) (y x : Opd) : aop C id (.appV e z bytes y x) K ⟨sl, bx, lv, nx⟩ = withV (opd ⟨sl, bx, lv, nx⟩ y) (appVP id e z bytes ⟨sl, bx, lv, nx⟩ K (opd ⟨sl, bx, lv, nx⟩ x)) := by
  show withV _ _ = withV _ _
  cases opd ⟨sl, bx, lv, nx⟩ y with
  | none => rfl
  | some v =>
    cases v <;> try rfl
    show withV _ _ = withV _ _
    cases opd ⟨sl, bx, lv, nx⟩ x with
    | none => rfl
    | some u =>
      cases u <;> try rfl
      show (_ ∧ withV _ _) = (_ ∧ withV _ _)
      congr 2
      funext y
      rw [condW_if]
theorem r_appVp (id e z bytes : Nat) (K : SV → S → Prop) (x : Option SV) (b off n z' : Nat) : appVP id e z bytes ⟨sl, bx, lv, nx⟩ K x (.vs b off n z') = withV x (appVQ id e z bytes ⟨sl, bx, lv, nx⟩ K b off n z') := rfl
theorem r_appVq (id e z bytes : Nat) (K : SV → S → Prop) (b off n z' b' o : Nat) : appVQ id e z bytes ⟨sl, bx, lv, nx⟩ K b off n z' (.ptr b' o) = ((b' = b ∧ z' = z) ∧ withV (lkB b bx) fun y => (n * z ≤ (y.cells.drop off).length ∧ n * bytes ≤ 140737488355328) ∧
      condP (K (.dat .nils none) ⟨sl, bx, lv, nx⟩) (K (.dat (.sl (chunkA z n (y.cells.drop off))) (some id)) ⟨sl, bx, (id, e) :: lv, nx⟩) (.bool (n == 0))) := rfl
def cd (c : AV) [k : KP] : Prop := condP k.yes k.no c
theorem k_cd (a b : Prop) (c : AV) : condP a b c = @cd c ⟨a, b⟩ := rfl
theorem r_condt (a b : Prop) : @cd (.bool true) ⟨a, b⟩ = a := by simp [cd, condP]
theorem r_condf (a b : Prop) : @cd (.bool false) ⟨a, b⟩ = b := by simp [cd, condP]
theorem r_block (id : Nat) (c : CCode) : aw C (.block id c) Q ⟨sl, bx, lv, nx⟩ = aw C c (ablock id Q) ⟨sl, bx, lv, nx⟩ := rfl
theorem r_exit (id : Nat) : aw C (.exit id) Q ⟨sl, bx, lv, nx⟩ = Q (.exit id) ⟨sl, bx, lv, nx⟩ := rfl
theorem r_ret : aw C .ret Q ⟨sl, bx, lv, nx⟩ = Q .ret ⟨sl, bx, lv, nx⟩ := rfl
theorem r_scope (l : Nat) (c r : CCode) : aw C (.scope l c r) Q ⟨sl, bx, lv, nx⟩ = aw C c (scopeQ l (aw C r (noGo Q)) Q) ⟨sl, bx, lv, nx⟩ := rfl
theorem r_label (l : Nat) : aw C (.label l) Q ⟨sl, bx, lv, nx⟩ = Q .normal ⟨sl, bx, lv, nx⟩ := rfl
theorem r_goto (l : Nat) : aw C (.goto l) Q ⟨sl, bx, lv, nx⟩ = Q (.goto l) ⟨sl, bx, lv, nx⟩ := rfl
theorem r_then4 (k : S → Prop) (s : S) (l : Nat) : athen k Q (.goto l) s = Q (.goto l) s := rfl
theorem r_blk5 (id : Nat) (s : S) (l : Nat) : ablock id Q (.goto l) s = Q (.goto l) s := rfl
theorem r_sc1 (l : Nat) (k : S → Prop) (s : S) : scopeQ l k Q .normal s = Q .normal s := rfl
theorem r_sc2 (l : Nat) (k : S → Prop) (s : S) : scopeQ l k Q .ret s = Q .ret s := rfl
theorem r_sc3 (l : Nat) (k : S → Prop) (s : S) (id : Nat) : scopeQ l k Q (.exit id) s = Q (.exit id) s := rfl
theorem r_sc4 (l : Nat) (k : S → Prop) (s : S) (l' : Nat) : scopeQ l k Q (.goto l') s = (l' = l ∧ k s) := rfl
theorem r_ng1 (s : S) : noGo Q .normal s = Q .normal s := rfl
theorem r_ng2 (s : S) : noGo Q .ret s = Q .ret s := rfl
theorem r_ng3 (s : S) (id : Nat) : noGo Q (.exit id) s = Q (.exit id) s := rfl
theorem r_then1 (k : S → Prop) (s : S) : athen k Q .normal s = k s := rfl
theorem r_then2 (k : S → Prop) (s : S) : athen k Q .ret s = Q .ret s := rfl
theorem r_then3 (k : S → Prop) (s : S) (id : Nat) : athen k Q (.exit id) s = Q (.exit id) s := rfl
theorem r_blk1 (id : Nat) (s : S) : ablock id Q .normal s = Q .normal s := rfl
theorem r_blk2 (id : Nat) (s : S) : ablock id Q .ret s = Q .ret s := rfl
theorem r_blk3 (id : Nat) (s : S) : ablock id Q (.exit id) s = Q .normal s := by simp [ablock]
theorem r_blk4 (id id' : Nat) (s : S) (h : (id' == id) = false) : ablock id Q (.exit id') s = Q (.exit id') s := by
  have : id' ≠ id := by simpa using h
  simp [ablock, this]
end
section
variable {C : Con} {Q : Exit → S → Prop} {K : SV → S → Prop} {J : S → Prop}
@[congr] theorem g_withV {α : Type} {o o' : Option α} (k : α → Prop) (h : o = o') : withV o k = withV o' k := by rw [h]
@[congr] theorem g_aop (id : Nat) (o : COp) (s : S) : aop C id o K s = aop C id o K s := rfl
@[congr] theorem g_aops (b i : Nat) (l : List CO) (s : S) : aops C b i l J s = aops C b i l J s := rfl
@[congr] theorem g_aw (c : CCode) (s : S) : aw C c Q s = aw C c Q s := rfl
@[congr] theorem g_athen (e : Exit) (s : S) : athen J Q e s = athen J Q e s := rfl
@[congr] theorem g_scopeQ {J : S → Prop} (l : Nat) (e : Exit) (s : S) : scopeQ l J Q e s = scopeQ l J Q e s := rfl
@[congr] theorem g_noGo (e : Exit) (s : S) : noGo Q e s = noGo Q e s := rfl
@[congr] theorem g_ablock (id : Nat) (e : Exit) (s : S) : ablock id Q e s = ablock id Q e s := rfl
@[congr] theorem g_bump (n : Nat) (s : S) : bump J n s = bump J n s := rfl
@[congr] theorem g_down {s s' : S} (h : s = s') : down J s = down J s' := by rw [h]
@[congr] theorem g_guardP (w : Bool) (yes no : Prop) {g g' : Option SV} (h : g = g') : guardP w yes no g = guardP w yes no g' := by rw [h]
@[congr] theorem g_pickP {a a' b b' : Option SV} (k : SV → Prop) {c c' : AV} (ha : a = a') (hb : b = b') (hc : c = c') : pickP a b k c = pickP a' b' k c' := by rw [ha, hb, hc]
@[congr] theorem g_condP (a b : Prop) {c c' : AV} (h : c = c') : condP a b c = condP a b c' := by rw [h]
@[congr] theorem g_ldP (sz : Option Nat) (bx : List (Nat × Box)) (k : SV → Prop) {v v' : SV} (h : v = v') : ldP sz bx k v = ldP sz bx k v' := by rw [h]
@[congr] theorem g_faP (off : Nat) (k : SV → Prop) {v v' : SV} (h : v = v') : faP off k v = faP off k v' := by rw [h]
@[congr] theorem g_iaP {d d' : Nat} (k : SV → Prop) {v v' : SV} (h : v = v') (hd : d = d') : iaP d k v = iaP d' k v' := by rw [h, hd]
@[congr] theorem g_stP (sz : Nat) (bx : List (Nat × Box)) {u u' : Option SV} (k : List (Nat × Box) → Prop) {v v' : SV} (hu : u = u') (h : v = v') : stP sz bx u k v = stP sz bx u' k v' := by rw [h, hu]
@[congr] theorem g_stV (sz off : Nat) (x : Box) (k : Box → Prop) {v v' : SV} (h : v = v') : stV sz off x k v = stV sz off x k v' := by rw [h]
@[congr] theorem g_aggP (k : List AV → Prop) {v v' : AV} (h : v = v') : aggP k v = aggP k v' := by rw [h]
@[congr] theorem g_mmP (m : Bool) (k : AV → Prop) {v v' : List AV} (h : v = v') : mmP m k v = mmP m k v' := by rw [h]
@[congr] theorem g_ncP (k : SV → Prop) {v v' : SV} (h : v = v') : ncP k v = ncP k v' := by rw [h]
end
section
variable (k : IntKind) (x y : Int)
theorem b_add : binA .add (.int k x) (.int k y) = some (.int k (k.wrap (x + y))) := by simp [binA, intA]
theorem b_sub : binA .sub (.int k x) (.int k y) = some (.int k (k.wrap (x - y))) := by simp [binA, intA]
theorem b_mul : binA .mul (.int k x) (.int k y) = some (.int k (k.wrap (x * y))) := by simp [binA, intA]
theorem b_eql : binA .eql (.int k x) (.int k y) = some (.bool (x == y)) := by simp [binA, intA]
theorem b_neq : binA .neq (.int k x) (.int k y) = some (.bool (x != y)) := by simp [binA, intA]
theorem b_lss : binA .lss (.int k x) (.int k y) = some (.bool (decide (x < y))) := by simp [binA, intA]
theorem b_leq : binA .leq (.int k x) (.int k y) = some (.bool (decide (x ≤ y))) := by simp [binA, intA]
theorem b_gtr : binA .gtr (.int k x) (.int k y) = some (.bool (decide (y < x))) := by simp [binA, intA]
theorem b_geq : binA .geq (.int k x) (.int k y) = some (.bool (decide (y ≤ x))) := by simp [binA, intA]
def bAnd (k : IntKind) (x y : Int) : Int := k.wrap (BitVec.ofInt k.bits x &&& BitVec.ofInt k.bits y).toNat
def bOr (k : IntKind) (x y : Int) : Int := k.wrap (BitVec.ofInt k.bits x ||| BitVec.ofInt k.bits y).toNat
def bXor (k : IntKind) (x y : Int) : Int := k.wrap (BitVec.ofInt k.bits x ^^^ BitVec.ofInt k.bits y).toNat
def bAndNot (k : IntKind) (x y : Int) : Int := k.wrap (BitVec.ofInt k.bits x &&& ~~~BitVec.ofInt k.bits y).toNat
theorem b_and : binA .and (.int k x) (.int k y) = some (.int k (bAnd k x y)) := by simp [binA, intA, bitsA, bAnd]
theorem b_or : binA .or (.int k x) (.int k y) = some (.int k (bOr k x y)) := by simp [binA, intA, bitsA, bOr]
theorem b_xor : binA .xor (.int k x) (.int k y) = some (.int k (bXor k x y)) := by simp [binA, intA, bitsA, bXor]
theorem b_andNot : binA .andNot (.int k x) (.int k y) = some (.int k (bAndNot k x y)) := by simp [binA, intA, bitsA, bAndNot]
def optIf (c : Prop) [Decidable c] (v : AV) : Option AV := if c then some v else none
theorem w_optIf (c : Prop) [Decidable c] (v : AV) (K : AV → Prop) : @wv _ (optIf c v) ⟨K⟩ = (c ∧ K v) := by
  rw [← k_wv]; unfold optIf; split <;> simp_all
theorem b_quo : binA .quo (.int k x) (.int k y) = optIf (y ≠ 0) (.int k (k.wrap (x.tdiv y))) := by
  by_cases h : y = 0 <;> simp [binA, intA, optIf, h]
theorem b_rem : binA .rem (.int k x) (.int k y) = optIf (y ≠ 0) (.int k (x.tmod y)) := by
  by_cases h : y = 0 <;> simp [binA, intA, optIf, h]
theorem b_shl (k' : IntKind) : binA .shl (.int k x) (.int k' y) = optIf (0 ≤ y) (.int k (k.wrap (x * 2 ^ min y.toNat k.bits))) := by
  by_cases h : 0 ≤ y
  · have : ¬ y < 0 := by omega
    simp [binA, shiftA, optIf, h, this]
  · have : y < 0 := by omega
    simp [binA, shiftA, optIf, this]
theorem b_shr (k' : IntKind) : binA .shr (.int k x) (.int k' y) = optIf (0 ≤ y) (.int k (x.fdiv (2 ^ min y.toNat k.bits))) := by
  by_cases h : 0 ≤ y
  · have : ¬ y < 0 := by omega
    simp [binA, shiftA, optIf, h, this]
  · have : y < 0 := by omega
    simp [binA, shiftA, optIf, this]
theorem b_beq (x y : Bool) : bbA false (.bool x) (.bool y) = some (.bool (x == y)) := rfl
theorem b_bne (x y : Bool) : bbA true (.bool x) (.bool y) = some (.bool (x != y)) := rfl
theorem u_not (b : Bool) : unA .not (.bool b) = some (.bool !b) := rfl
theorem u_neg : unA .neg (.int k x) = some (.int k (k.wrap (0 - x))) := rfl
theorem l_in0 : nilA false .nils = some true := rfl
theorem l_in1 : nilA true .nils = some false := rfl
theorem l_in2 (xs : List (List AV)) : nilA false (.sl xs) = some false := rfl
theorem l_in3 (xs : List (List AV)) : nilA true (.sl xs) = some true := rfl
theorem l_nil : lenA .nils = some (.int .i64 0) := rfl
theorem l_sl (xs : List (List AV)) : lenA (.sl xs) = some (.int .i64 xs.length) := rfl
theorem c_ii (k' : IntKind) : cvIIA k (.int k' x) = some (.int k (k.wrap x)) := rfl
theorem c_if (k' : IntKind) (f : FloatKind) : cvIFA f (.int k' x) = some (.float f (f.nearest x)) := rfl
theorem e_tup (vs : List AV) (i : Nat) : extA (.tup vs) i = vs[i]? := rfl
theorem s_ok1 (cs : List AV) : stOk (.agg cs) none = true := rfl
theorem s_ok2 (q : Option Nat) : stOk (.int k x) q = true := rfl
theorem s_ok3 (b : Bool) (q : Option Nat) : stOk (.bool b) q = true := rfl
theorem s_ok4 (f : FloatKind) (n : Nat) (q : Option Nat) : stOk (.float f n) q = true := rfl
theorem s_ok5 (q : Option Nat) : stOk .nils q = true := rfl
theorem s_ok6 (xs : List (List AV)) (q : Option Nat) : stOk (.sl xs) q = true := rfl
theorem s_ok7 (b : ByteArray) (q : Option Nat) : stOk (.str b) q = true := rfl
theorem s_ok8 (f : Fn) (as bs : List AV) (q : Option Nat) : stOk (.fn f as bs) q = true := rfl
theorem s_ok10 (cs : List AV) (q : Option Nat) : stOk (.ref cs) q = true := rfl
theorem s_ok9 (q : Option Nat) : stOk .nilfn q = true := rfl
theorem cells_agg (cs : List AV) : AV.cells (.agg cs) = cs := rfl
theorem cells_int : AV.cells (.int k x) = [.int k x] := rfl
theorem cells_bool (b : Bool) : AV.cells (.bool b) = [.bool b] := rfl
theorem cells_float (f : FloatKind) (n : Nat) : AV.cells (.float f n) = [.float f n] := rfl
theorem cells_nils : AV.cells .nils = [.nils] := rfl
theorem cells_ref (cs : List AV) : AV.cells (.ref cs) = [.ref cs] := rfl
theorem cells_fn (f : Fn) (as bs : List AV) : AV.cells (.fn f as bs) = [.fn f as bs] := rfl
theorem cells_sl (xs : List (List AV)) : AV.cells (.sl xs) = [.sl xs] := rfl
theorem p_none (cs : List AV) (off : Nat) : partA cs off none = cs[off]? := rfl
theorem p_some (cs : List AV) (off n : Nat) (h : off + n ≤ cs.length) : partA cs off (some n) = some (.agg ((cs.drop off).take n)) := by simp [partA, h]
end
theorem gd_split {w : Bool} {yes no : Prop} {t : Bool} {q : Option Nat} (h1 : t = true → @gd w (some (.dat (.bool true) q)) ⟨yes, no⟩) (h2 : t = false → @gd w (some (.dat (.bool false) q)) ⟨yes, no⟩) : @gd w (some (.dat (.bool t) q)) ⟨yes, no⟩ := by
  cases t
  · exact h2 rfl
  · exact h1 rfl
theorem cd_split {a b : Prop} {t : Bool} (h1 : t = true → a) (h2 : t = false → b) : @cd (.bool t) ⟨a, b⟩ := by
  cases t
  · simpa [cd, condP] using h2 rfl
  · simpa [cd, condP] using h1 rfl
theorem pk_split {a b : Option SV} {k : SV → Prop} {t : Bool} (h1 : t = true → @pk a b (.bool true) ⟨k⟩) (h2 : t = false → @pk a b (.bool false) ⟨k⟩) : @pk a b (.bool t) ⟨k⟩ := by
  cases t
  · exact h2 rfl
  · exact h1 rfl
theorem r_putPs (p : Nat) (ps : List Nat) (x : AV) (xs : List AV) (s : S) : putPs (p :: ps) (x :: xs) s = putPs ps xs (s.put (some p) (.dat x none)) := rfl
theorem r_putPs0 (s : S) : putPs [] [] s = s := rfl
theorem r_cutS (wr : List Nat) (sl : List (Nat × SV)) (bx : List (Nat × Box)) (lv : List (Nat × Nat)) (nx : Nat) : cutS wr ⟨sl, bx, lv, nx⟩ = ⟨cutL wr sl, bx, lv, nx⟩ := rfl
theorem r_cutL0 (wr : List Nat) : cutL wr [] = [] := rfl
theorem r_cutL (wr : List Nat) (t : Nat) (v : SV) (r : List (Nat × SV)) : cutL wr ((t, v) :: r) = bif wr.contains t then cutL wr r else (t, v) :: cutL wr r := rfl
theorem r_rfQn (wr : List Nat) (F : S → Prop) (Q : Exit → S → Prop) (s : S) : rfQ wr F Q .normal s = down F (cutS wr s) := rfl
theorem r_rfQr (wr : List Nat) (F : S → Prop) (Q : Exit → S → Prop) (s : S) : rfQ wr F Q .ret s = Q .ret (cutS wr s) := rfl
theorem r_rfQx (wr : List Nat) (F : S → Prop) (Q : Exit → S → Prop) (id : Nat) (s : S) : rfQ wr F Q (.exit id) s = Q (.exit id) (cutS wr s) := rfl
theorem r_onlyN (K : S → Prop) (s : S) : onlyN K .normal s = K s := rfl
set_option linter.defProp false
def EV0 :=
  And.intro @w_some (And.intro @w_none (And.intro @r_roL0 (And.intro @r_roL (And.intro @r_ro (And.intro @r_ro1 (And.intro @r_ro2 (And.intro @r_lk (And.intro @r_lkB (And.intro @r_lkN (And.intro @r_lkN0 (And.intro @r_setB (And.intro @r_delN (And.intro @r_delN0 (And.intro @r_put (And.intro @r_put0 (And.intro @r_opdt (And.intro @r_opdk (And.intro @r_datAr (And.intro @r_datA (And.intro @r_opdAt (And.intro @r_opdAk (And.intro @r_consO (And.intro @r_opdsA (And.intro @r_opdsA0 (And.intro @r_aops0 (And.intro @r_aops (And.intro @r_aopsg (And.intro @r_guardu (@r_guardt)))))))))))))))))))))))))))))
def EV1 :=
  And.intro @r_guardt' (And.intro @r_guardf (And.intro @r_guardf' (And.intro @r_mv (And.intro @r_pick (And.intro @r_pickt (And.intro @r_pickf (And.intro @r_alloc (And.intro @r_box (And.intro @r_ld (And.intro @r_ldp1 (And.intro @r_ldp2 (And.intro @r_ldr (And.intro @r_st (And.intro @r_stp (And.intro @r_stv (And.intro @r_tags0 (And.intro @r_tags1 (And.intro @r_fa (And.intro @r_fap (And.intro @r_far (And.intro @r_iaA (And.intro @r_iap (And.intro @r_iar (And.intro @r_idx (And.intro @r_iaS (And.intro @r_rows (And.intro @r_rows0 (And.intro @r_agg (@r_fld)))))))))))))))))))))))))))))
def EV2 :=
  And.intro @r_ixA (And.intro @r_bin (And.intro @r_eqc (And.intro @r_bb (And.intro @r_un (And.intro @r_cvII (And.intro @r_cvIF (And.intro @r_cvFI (And.intro @r_lenS (And.intro @r_xt (And.intro @r_xb (And.intro @r_xf (And.intro @r_xr (And.intro @r_slA (And.intro @r_slA1 (And.intro @r_slA2 (And.intro @r_ixB (And.intro @r_ixBs (And.intro @r_lenK (And.intro @r_call (And.intro @r_consPd (And.intro @r_consPr (And.intro @r_consPp (And.intro @r_svs0 (And.intro @r_svs (And.intro @r_cells0 (And.intro @r_consC (And.intro @r_cells (And.intro @r_nodup0 (@r_nodup)))))))))))))))))))))))))))))
def EV3 :=
  And.intro @r_setBs (And.intro @r_cellsP0 (And.intro @r_cellsP (And.intro @r_cellsPc (And.intro @r_setBs0 (And.intro @r_callpK (And.intro @r_callp (And.intro @r_callv (And.intro @r_callvf (And.intro @r_callvp (And.intro @r_callr (And.intro @r_callrK (And.intro @r_callvr (And.intro @r_callvrf (And.intro @r_callvpf (And.intro @r_isn (And.intro @r_ext (And.intro @r_frz1 (And.intro @r_frz2 (And.intro @r_frz3 (And.intro @r_frz4 (And.intro @r_frzL0 (And.intro @r_frzL (And.intro @r_delB0 (And.intro @r_delB (And.intro @r_frzs0 (And.intro @r_frzs (And.intro @r_fillP0 (And.intro @r_fillPs (@r_fillPn)))))))))))))))))))))))))))))
def EV4 :=
  And.intro @r_own0 (And.intro @r_own (And.intro @r_mkfK (And.intro @r_mkf (And.intro @r_mm (And.intro @r_mm2 (And.intro @r_mmI (And.intro @r_mmI' (And.intro @r_build (And.intro @r_partsA (And.intro @r_partsA0 (And.intro @r_bsl (And.intro @r_rowsA (And.intro @r_rowsA0 (And.intro @r_app (And.intro @r_slS (And.intro @r_bndL0 (And.intro @r_bndL (And.intro @r_bndH0 (And.intro @r_bndH (And.intro @r_idxO (And.intro @r_cut (And.intro @r_cut0 (And.intro @r_nc (And.intro @r_ncp (And.intro @r_ncd (And.intro @r_ncr (And.intro @r_skip (And.intro @r_reg (@r_goF)))))))))))))))))))))))))))))
def EV5 :=
  And.intro @r_regD (And.intro @r_bump (And.intro @r_seq (And.intro @r_join (And.intro @r_cond (And.intro @r_slV (And.intro @r_slVp (And.intro @r_appV (And.intro @r_appVp (And.intro @r_appVq (And.intro @r_condt (And.intro @r_condf (And.intro @r_block (And.intro @r_exit (And.intro @r_ret (And.intro @r_scope (And.intro @r_label (And.intro @r_goto (And.intro @r_then4 (And.intro @r_blk5 (And.intro @r_sc1 (And.intro @r_sc2 (And.intro @r_sc3 (And.intro @r_sc4 (And.intro @r_ng1 (And.intro @r_ng2 (And.intro @r_ng3 (And.intro @r_then1 (And.intro @r_then2 (@r_then3)))))))))))))))))))))))))))))
def EV6 :=
  And.intro @r_blk1 (And.intro @r_blk2 (And.intro @r_blk3 (And.intro @b_add (And.intro @b_sub (And.intro @b_mul (And.intro @b_eql (And.intro @b_neq (And.intro @b_lss (And.intro @b_leq (And.intro @b_gtr (And.intro @b_geq (And.intro @b_and (And.intro @b_or (And.intro @b_xor (And.intro @b_andNot (And.intro @w_optIf (And.intro @b_quo (And.intro @b_rem (And.intro @b_shl (And.intro @b_shr (And.intro @b_beq (And.intro @b_bne (And.intro @u_not (And.intro @u_neg (And.intro @l_in0 (And.intro @l_in1 (And.intro @l_in2 (And.intro @l_in3 (@l_nil)))))))))))))))))))))))))))))
def EV7 :=
  And.intro @l_sl (And.intro @c_ii (And.intro @c_if (And.intro @e_tup (And.intro @s_ok1 (And.intro @s_ok2 (And.intro @s_ok3 (And.intro @s_ok4 (And.intro @s_ok5 (And.intro @s_ok6 (And.intro @s_ok7 (And.intro @s_ok8 (And.intro @s_ok10 (And.intro @s_ok9 (And.intro @cells_agg (And.intro @cells_int (And.intro @cells_bool (And.intro @cells_float (And.intro @cells_nils (And.intro @cells_ref (And.intro @cells_fn (And.intro @cells_sl (And.intro @p_none (And.intro @r_putPs (And.intro @r_putPs0 (And.intro @r_cutS (And.intro @r_cutL0 (And.intro @r_cutL (And.intro @r_rfQn (@r_rfQr)))))))))))))))))))))))))))))
def EV8 :=
  And.intro @r_rfQx (@r_onlyN)
def EV :=
  And.intro @EV0 (And.intro @EV1 (And.intro @EV2 (And.intro @EV3 (And.intro @EV4 (And.intro @EV5 (And.intro @EV6 (And.intro @EV7 (@EV8))))))))
end Go.Eng
namespace Go.Eng
set_option linter.unusedVariables false
set_option linter.unusedSimpArgs false
set_option linter.unnecessarySimpa false
open Go
set_option linter.unusedVariables false
set_option linter.unusedSimpArgs false
section
variable {C : Con}
theorem aops_mono {base : Nat} : ∀ {l : List CO} {i : Nat} {s : S} {K K' : S → Prop}, (∀ s, K s → K' s) → aops C base i l K s → aops C base i l K' s
  | [], i, s, K, K', hk, h => hk s h
  | o :: l, i, s, K, K', hk, h => by
    rw [aops_cons] at h ⊢
    obtain ⟨v, d, hd, hk', _⟩ := astep_path h
    exact hd.2 s .refl _ (aops_mono hk hk')
theorem down_mono {F G : S → Prop} (h : ∀ s, F s → G s) {s : S} (hd : down F s) : down G s := by
  obtain ⟨s1, ⟨hl, hF⟩ | hF⟩ := hd
  · exact ⟨s1, .inl ⟨hl, h _ hF⟩⟩
  · exact ⟨s1, .inr (h _ hF)⟩
theorem athen_mono {F G : S → Prop} {Q Q' : Exit → S → Prop} (h : ∀ s, F s → G s) (hq : ∀ e s, Q e s → Q' e s) {e : Exit} {s : S} (ha : athen F Q e s) : athen G Q' e s := by
  cases e <;> first | exact h _ ha | exact hq _ _ ha
theorem ablock_mono {id : Nat} {Q Q' : Exit → S → Prop} (hq : ∀ e s, Q e s → Q' e s) {e : Exit} {s : S} (ha : ablock id Q e s) : ablock id Q' e s := by
  cases e with
  | exit i =>
    simp only [ablock] at ha ⊢
    split
    · rename_i hi; rw [if_pos hi] at ha; exact hq _ _ ha
    · rename_i hi; rw [if_neg hi] at ha; exact hq _ _ ha
  | _ => exact hq _ _ ha
theorem ARounds_mono {F G : (Exit → S → Prop) → S → Prop} (hF : ∀ Q Q' s, (∀ e s, Q e s → Q' e s) → F Q s → G Q' s) {Q Q' : Exit → S → Prop} (hq : ∀ e s, Q e s → Q' e s) : ∀ {n : Nat} {s : S}, ARounds F Q n s → ARounds G Q' n s
  | 0, s, h => h
  | n + 1, s, h => hF _ _ s (fun e s ha => athen_mono (fun s hd => down_mono (fun s h => ARounds_mono hF hq h) hd) hq ha) h
theorem rfQ_mono {wr : List Nat} {F : S → Prop} {Q Q' : Exit → S → Prop} (hq : ∀ e s, Q e s → Q' e s) {e : Exit} {s : S} (h : rfQ wr F Q e s) : rfQ wr F Q' e s := by
  cases e <;> first | exact h | exact hq _ _ h
theorem aw_mono : ∀ {c : CCode} {Q Q' : Exit → S → Prop} {s : S}, (∀ e s, Q e s → Q' e s) → aw C c Q s → aw C c Q' s := by
  intro c
  induction c with
  | skip => intro Q Q' s hq h; exact hq _ _ h
  | reg ops => intro Q Q' s hq h; exact aops_mono (fun s h => hq _ _ h) h
  | regD ops bad =>
    intro Q Q' s hq h
    obtain ⟨ids, hids, h⟩ := h
    obtain ⟨css, hcss, ro, hd, h⟩ := withV_inv h
    exact ⟨ids, hids, by rw [hcss]; exact ⟨ro, hd, aops_mono (fun s h => hq _ _ h) h⟩⟩
  | seq a b iha ihb => intro Q Q' s hq h; exact iha (fun e s ha => athen_mono (fun s h => ihb hq h) hq ha) h
  | join a b iha ihb => intro Q Q' s hq h; exact iha (fun e s ha => athen_mono (fun s h => down_mono (fun s h => ihb hq h) h) hq ha) h
  | cond c a b iha ihb =>
    intro Q Q' s hq h
    simp only [aw] at h ⊢
    obtain ⟨v, hv, h⟩ := withV_inv h
    rw [hv]
    cases v <;> try (exact h.elim)
    exact ⟨fun e => iha hq (h.1 e), fun e => ihb hq (h.2 e)⟩
  | block id c ih => intro Q Q' s hq h; exact ih (fun e s ha => ablock_mono hq ha) h
  | loop c ih =>
    intro Q Q' s hq h
    exact down_mono (fun s ⟨n, h⟩ => ⟨n, ARounds_mono (F := aw C c) (G := aw C c) (fun Q Q' s hq h => ih hq h) hq h⟩) h
  | exit id => intro Q Q' s hq h; exact hq _ _ h
  | ret => intro Q Q' s hq h; exact hq _ _ h
  | label l => intro Q Q' s hq h; exact hq _ _ h
  | goto l => intro Q Q' s hq h; exact hq _ _ h
  | scope l c r ihc ihr =>
    intro Q Q' s hq h
    refine ihc (fun e s ha => ?_) h
    cases e with
    | goto l' =>
      refine ⟨ha.1, ihr (fun e s hb => ?_) ha.2⟩
      cases e <;> first | exact hb | exact hq _ _ hb
    | _ => exact hq _ _ ha
  | rfor g ps wr as bd iha ihb =>
    intro Q Q' s hq h
    simp only [aw] at h ⊢
    obtain ⟨gv, hgv, xs, h1, h2, F, h3, h4, h5, h6⟩ := withV_inv h
    rw [hgv]
    refine ⟨xs, h1, h2, F, h3, h4, fun i x s' hx hs => iha (fun e s ha => ?_) (h5 i x s' hx hs), fun s' hs => hq _ _ (h6 s' hs)⟩
    cases e <;> first | exact ha.elim | exact ihb (fun e s hb => rfQ_mono hq hb) ha
def flat (keep : List Nat) : Nat → CCode → CCode × Nat
  | i, .join a b =>
    let p := flat keep (i + 1) a
    let q := flat keep p.2 b
    (if keep.contains i then .join p.1 q.1 else .seq p.1 q.1, q.2)
  | i, .seq a b =>
    let p := flat keep i a
    let q := flat keep p.2 b
    (.seq p.1 q.1, q.2)
  | i, .cond c a b =>
    let p := flat keep i a
    let q := flat keep p.2 b
    (.cond c p.1 q.1, q.2)
  | i, .block id c => (.block id (flat keep i c).1, (flat keep i c).2)
  | i, .rfor g ps wr as bd =>
    let p := flat keep i as
    let q := flat keep p.2 bd
    (.rfor g ps wr p.1 q.1, q.2)
  | i, .loop c => (.loop (flat keep i c).1, (flat keep i c).2)
  | i, .scope l c r =>
    let p := flat keep i c
    let q := flat keep p.2 r
    (.scope l p.1 q.1, q.2)
  | i, c => (c, i)
theorem aw_flat {keep : List Nat} : ∀ {c : CCode} {i : Nat} {Q : Exit → S → Prop} {s : S}, aw C (flat keep i c).1 Q s → aw C c Q s := by
  intro c
  induction c with
  | join a b iha ihb =>
    intro i Q s h
    simp only [flat] at h
    split at h
    · exact iha (aw_mono (fun e s ha => athen_mono (fun s h => down_mono (fun s h => ihb h) h) (fun _ _ h => h) ha) h)
    · exact iha (aw_mono (fun e s ha => athen_mono (fun s h => down_refl (ihb h)) (fun _ _ h => h) ha) h)
  | seq a b iha ihb => intro i Q s h; exact iha (aw_mono (fun e s ha => athen_mono (fun s h => ihb h) (fun _ _ h => h) ha) h)
  | cond c a b iha ihb =>
    intro i Q s h
    simp only [flat, aw] at h ⊢
    obtain ⟨v, hv, h⟩ := withV_inv h
    rw [hv]
    cases v <;> try (exact h.elim)
    exact ⟨fun e => iha (h.1 e), fun e => ihb (h.2 e)⟩
  | block id c ih => intro i Q s h; exact ih h
  | scope l c r ihc ihr =>
    intro i Q s h
    refine ihc (aw_mono (fun e s ha => ?_) h)
    cases e with
    | goto l' => exact ⟨ha.1, ihr ha.2⟩
    | _ => exact ha
  | rfor g ps wr as bd iha ihb =>
    intro i Q s h
    simp only [flat, aw] at h ⊢
    obtain ⟨gv, hgv, xs, h1, h2, F, h3, h4, h5, h6⟩ := withV_inv h
    rw [hgv]
    refine ⟨xs, h1, h2, F, h3, h4, fun i x s' hx hs => iha (aw_mono (fun e s ha => ?_) (h5 i x s' hx hs)), h6⟩
    cases e <;> first | exact ha.elim | exact ihb ha
  | loop c ih =>
    intro i Q s h
    exact down_mono (fun s ⟨n, h⟩ => ⟨n, ARounds_mono (F := aw C (flat keep i c).1) (G := aw C c) (fun Q Q' s hq h => aw_mono hq (ih h)) (fun _ _ h => h) h⟩) h
  | _ => intro i Q s h; exact h
end
theorem a_int (k : IntKind) (n : Int) : argSV (.int k n) = .dat (.int k n) none := rfl
theorem a_bool (b : Bool) : argSV (.bool b) = .dat (.bool b) none := rfl
theorem a_float (k : FloatKind) (n : Nat) : argSV (.float k n) = .dat (.float k n) none := rfl
theorem a_str (s : ByteArray) : argSV (.str s) = .dat (.str s) none := rfl
theorem a_nilp : argSV .nilp = .dat .nilp none := rfl
theorem a_nils : argSV .nils = .dat .nils none := rfl
theorem a_sl (xs : List (List AV)) : argSV (.sl xs) = .dat (.sl xs) none := rfl
theorem a_fn (f : Fn) (as bs : List AV) : argSV (.fn f as bs) = .dat (.fn f as bs) none := rfl
theorem a_agg (cs : List AV) : argSV (.agg cs) = .dat (.agg cs) none := rfl
theorem a_ref (cs : List AV) : argSV (.ref cs) = .rp cs := rfl
theorem a_slots (i : Nat) (a : AV) (r : List AV) : slotsOf i (a :: r) = (i, argSV a) :: slotsOf (i + 1) r := rfl
theorem a_slots0 (i : Nat) : slotsOf i [] = [] := rfl
theorem a_init (as : List AV) : initS as = ⟨slotsOf 0 as, [], [], 4⟩ := rfl
theorem a_slotsBv (i k : Nat) (a : AV) (r : List (Option AV)) : slotsB i k (some a :: r) = (i, argSV a) :: slotsB (i + 1) k r := rfl
theorem a_slotsBp (i k : Nat) (r : List (Option AV)) : slotsB i k (none :: r) = (i, .ptr k 0) :: slotsB (i + 1) (k + 1) r := rfl
theorem a_slotsB0 (i k : Nat) : slotsB i k [] = [] := rfl
theorem a_boxesB (k : Nat) (cs : List AV) (css : List (List AV)) : boxesB k (cs :: css) = (k, ⟨cs, []⟩) :: boxesB (k + 1) css := rfl
theorem a_boxesB0 (k : Nat) : boxesB k [] = [] := rfl
theorem a_initB (css : List (List AV)) (as : List (Option AV)) : initB css as = ⟨slotsB 0 0 as, boxesB 0 css, [], 4⟩ := rfl
theorem a_fin1 (res : List CRes) (r : AV) (s : S) : fin res r none .normal s = withV (resultA s res) fun p => p.1 = r := by simp [fin, frA]
theorem a_fin2 (res : List CRes) (r : AV) (s : S) : fin res r none .ret s = withV (resultA s res) fun p => p.1 = r := by simp [fin, frA]
theorem a_fin3 (res : List CRes) (r : AV) (e : Nat) (s : S) : fin res r (some e) .normal s = withV (resultA s res) fun p => p.1 = r ∧ frA (some e) p.2 s.live := rfl
theorem a_fin4 (res : List CRes) (r : AV) (e : Nat) (s : S) : fin res r (some e) .ret s = withV (resultA s res) fun p => p.1 = r ∧ frA (some e) p.2 s.live := rfl
theorem a_fr (e q : Nat) (lv : List (Nat × Nat)) : frA (some e) (some q) lv = (lkN q lv = some e) := rfl
theorem a_finB1 (res : List CRes) (r : AV) (css : List (List AV)) (s : S) : finB res r none css .normal s = withV (resultA s res) fun p => p.1 = r ∧ holdB s.boxes 0 css := by simp [finB, frA]
theorem a_finB2 (res : List CRes) (r : AV) (css : List (List AV)) (s : S) : finB res r none css .ret s = withV (resultA s res) fun p => p.1 = r ∧ holdB s.boxes 0 css := by simp [finB, frA]
theorem a_hold0 (l : List (Nat × Box)) (k : Nat) : holdB l k [] = True := rfl
theorem a_hold (l : List (Nat × Box)) (k : Nat) (cs : List AV) (css : List (List AV)) : holdB l k (cs :: css) = (withV (lkB k l) (fun x => x.cells = cs) ∧ holdB l (k + 1) css) := rfl
def tmpR : Option SV → Option (AV × Option Nat)
  | some (.dat a q) => some (a, q)
  | _ => none
theorem a_tmpR (a : AV) (q : Option Nat) : tmpR (some (.dat a q)) = some (a, q) := rfl
theorem a_res1 (s : S) (t : Nat) : resultA s [.tmp t] = tmpR (lk t s.slots) := rfl
def cellR (sz : Option Nat) (bx : List (Nat × Box)) : Option SV → Option (AV × Option Nat)
  | some (.ptr b off) => match lkB b bx with
    | some x => match partA x.cells off sz with
      | some a => some (a, match sz with | none => lkN off x.tags | some _ => none)
      | none => none
    | none => none
  | _ => none
def boxR1 (off : Nat) (sz : Option Nat) : Option Box → Option (AV × Option Nat)
  | some x => match partA x.cells off sz with
    | some a => some (a, match sz with | none => lkN off x.tags | some _ => none)
    | none => none
  | none => none
theorem a_res2 (s : S) (t : Nat) (sz : Option Nat) : resultA s [.cell t sz] = cellR sz s.boxes (lk t s.slots) := rfl
theorem a_cellR (sz : Option Nat) (bx : List (Nat × Box)) (b off : Nat) : cellR sz bx (some (.ptr b off)) = boxR1 off sz (lkB b bx) := by
  simp only [cellR, boxR1]
theorem a_boxR1 (off n : Nat) (x : Box) : boxR1 off (some n) (some x) = (partA x.cells off (some n)).map fun a => (a, none) := by
  simp only [boxR1] <;> cases partA x.cells off (some n) <;> rfl
theorem a_boxR2 (off : Nat) (x : Box) : boxR1 off none (some x) = (x.cells[off]?).map fun a => (a, lkN off x.tags) := by
  simp only [boxR1, partA] <;> cases x.cells[off]? <;> rfl
theorem a_res0 (s : S) : resultA s [] = some (.tup [], none) := rfl
theorem a_resM (s : S) (x y : CRes) (r : List CRes) : resultA s (x :: y :: r) = (ressA s (x :: y :: r)).map fun as => (.tup as, none) := rfl
def consR : Option (AV × Option Nat) → Option (List AV) → Option (List AV)
  | some p, some as => some (p.1 :: as)
  | _, _ => none
theorem a_consR (a : AV) (q : Option Nat) (as : List AV) : consR (some (a, q)) (some as) = some (a :: as) := rfl
theorem a_ress (s : S) (x : CRes) (r : List CRes) : ressA s (x :: r) = consR (resultA s [x]) (ressA s r) := by
  simp only [ressA, consR, resultA] <;> cases resA s x <;> cases ressA s r <;> rfl
theorem a_ress0 (s : S) : ressA s [] = some [] := rfl
set_option linter.defProp false
def EW0 :=
  And.intro @a_int (And.intro @a_bool (And.intro @a_float (And.intro @a_str (And.intro @a_nilp (And.intro @a_nils (And.intro @a_sl (And.intro @a_fn (And.intro @a_agg (And.intro @a_ref (And.intro @a_slots (And.intro @a_slots0 (And.intro @a_init (And.intro @a_slotsBv (And.intro @a_slotsBp (And.intro @a_slotsB0 (And.intro @a_boxesB (And.intro @a_boxesB0 (And.intro @a_initB (And.intro @a_fin1 (And.intro @a_fin2 (And.intro @a_fin3 (And.intro @a_fin4 (And.intro @a_fr (And.intro @a_finB1 (And.intro @a_finB2 (And.intro @a_hold0 (And.intro @a_hold (And.intro @a_tmpR (@a_res1)))))))))))))))))))))))))))))
def EW1 :=
  And.intro @a_res2 (And.intro @a_cellR (And.intro @a_boxR1 (And.intro @a_boxR2 (And.intro @a_res0 (And.intro @a_resM (And.intro @a_consR (And.intro @a_ress (@a_ress0))))))))
def EW :=
  And.intro @EW0 (@EW1)
end Go.Eng
namespace Go.Eng
set_option linter.unusedVariables false
set_option linter.unusedSimpArgs false
set_option linter.unnecessarySimpa false
open Go
set_option linter.unusedVariables false
set_option linter.unusedSimpArgs false
abbrev I (n : Int) : AV := .int .i64 n
abbrev B (b : Bool) : AV := .bool b
abbrev D (n : Nat) : AV := .float .f64 n
def w64 (n : Int) : Int := IntKind.i64.wrap n
def slAV {α : Type} (f : α → List AV) : Option (List α) → AV
  | none => .nils
  | some l => .sl (l.map f)
def intRow (n : Int) : List AV := [I n]
structure Ph where
  on : Bool
  min : Int
  gap : Int
  max : Int
  top : Int
  step : Int
  yellow : Int
  red : Int
  walk : Int
  blinks : Int
  recall : Int
  lock : Bool
  rest : Bool
  deriving Inhabited, DecidableEq
def Ph.cells (p : Ph) : List AV := [B p.on, I p.min, I p.gap, I p.max, I p.top, I p.step, I p.yellow, I p.red, I p.walk, I p.blinks, I p.recall, B p.lock, B p.rest]
structure Det where
  phase : Int
  on : Nat
  off : Nat
  delay : Nat
  extend : Nat
  maxOn : Int
  maxOff : Int
  deriving Inhabited, DecidableEq
def Det.cells (d : Det) : List AV := [I d.phase, D d.on, D d.off, D d.delay, D d.extend, I d.maxOn, I d.maxOff]
structure Rl where
  bars : Int
  clear : Int
  dwell : Int
  exit : Int
  delay : Int
  green : Int
  foot : Int
  hold : Int
  stay : Int
  most : Int
  limit : Int
  deriving Inhabited, DecidableEq
def Rl.cells (r : Rl) : List AV := [I r.bars, I r.clear, I r.dwell, I r.exit, I r.delay, I r.green, I r.foot, I r.hold, I r.stay, I r.most, I r.limit]
structure Bs where
  set : Int
  lock : Int
  deriving Inhabited, DecidableEq
def Bs.cells (b : Bs) : List AV := [I b.set, I b.lock]
structure Gr where
  a : Option (List Int)
  b : Option (List Int)
  deriving Inhabited, DecidableEq
def Gr.cells (g : Gr) : List AV := [slAV intRow g.a, slAV intRow g.b]
structure Tb where
  phases : List Ph
  groups : Option (List Gr)
  conflict : List Int
  detectors : Option (List Det)
  rails : Option (List Rl)
  buses : Option (List Bs)
  extend : Int
  budget : Int
  start : Int
  revert : Int
  least : Int
  flash : List Int
  window : Int
  share : Int
  deriving Inhabited, DecidableEq
def Tb.cells (t : Tb) : List AV :=
  t.phases.flatMap Ph.cells ++ (slAV Gr.cells t.groups :: (t.conflict.map I ++ (slAV Det.cells t.detectors :: slAV Rl.cells t.rails :: slAV Bs.cells t.buses ::
    I t.extend :: I t.budget :: I t.start :: I t.revert :: I t.least :: (t.flash.map I ++ [I t.window, I t.share]))))
structure Tb.Ok (t : Tb) : Prop where
  phases : t.phases.length = 8
  conflict : t.conflict.length = 8
  flash : t.flash.length = 8
  groups : (t.groups.getD []).length ≤ 1048576
  rows : ∀ g ∈ t.groups.getD [], (g.a.getD []).length ≤ 1048576 ∧ (g.b.getD []).length ≤ 1048576
  dets : (t.detectors.getD []).length ≤ 1048576
  rails : (t.rails.getD []).length ≤ 1048576
  buses : (t.buses.getD []).length ≤ 1048576
theorem flatMap_len {α : Type} {f : α → List AV} {z : Nat} (hf : ∀ x, (f x).length = z) : ∀ {l : List α}, (l.flatMap f).length = l.length * z
  | [] => by simp
  | x :: l => by simp [List.flatMap_cons, hf, flatMap_len hf (l := l), Nat.add_mul]; omega
theorem Ph.len (p : Ph) : p.cells.length = 13 := rfl
theorem Tb.len {t : Tb} (h : t.Ok) : t.cells.length = 131 := by
  simp [Tb.cells, flatMap_len Ph.len, h.phases, h.conflict, h.flash]
end Go.Eng
namespace Go.Eng.Z
open Go
set_option linter.defProp false
def o (d : Nat) (x : COp) : CO := ⟨some d, x, none⟩
def p (d : Nat) (x : COp) (g : Nat) : CO := ⟨some d, x, some (g, true)⟩
def q (d : Nat) (x : COp) (g : Nat) : CO := ⟨some d, x, some (g, false)⟩
def n (x : COp) : CO := ⟨none, x, none⟩
def M (d x : Nat) : CO := ⟨some d, .mv (.t x), none⟩
def V (d : Nat) (v : AV) : CO := ⟨some d, .mv (.k v), none⟩
def m (x : Nat) : COp := .mv (.t x)
def v (x : AV) : COp := .mv (.k x)
def l (x : Nat) : COp := .ld (.t x) none
def L (x z : Nat) : COp := .ld (.t x) (some z)
def f (x z : Nat) : COp := .fa (.t x) z
def s (x y z : Nat) : COp := .st (.t x) (.t y) z
def ss (x : Nat) (y : AV) (z : Nat) : COp := .st (.t x) (.k y) z
def A (x y a b : Nat) : COp := .iaA (.t x) (.t y) a b
def a (x y z : Nat) : COp := .iaS (.t x) (.t y) z
def P (x y : Nat) : COp := .pick (.t x) (.t y) (.k (.bool false))
def Q (x y : Nat) : COp := .pick (.t x) (.k (.bool true)) (.t y)
def h (x : Nat) : COp := .lenS (.t x)
def w (x : Nat) : COp := .box (.t x)
def b (g : BinOp) (x y : Nat) : COp := .bin g (.t x) (.t y)
def bb (g : BinOp) (x : Nat) (y : AV) : COp := .bin g (.t x) (.k y)
def e (x y : Nat) : COp := .ext (.t x) y
def i (x : Int) : AV := .int .i64 x
def t (x : Nat) : Opd := .t x
def k (x : AV) : Opd := .k x
def r (x : List CO) (y : CCode) : CCode := .seq (.reg x) y
def R (x : List CO) : CCode := .reg x
def j (x y : CCode) : CCode := .join x y
def c (x : Nat) (y z : CCode) : CCode := .cond (.t x) y z
def u (x : Nat) (y : CCode) : CCode := .block x y
def y : CCode := .ret
def z : CCode := .skip
def T : AV := .bool true
def F : AV := .bool false
def H :=
  And.intro @o.eq_1 (And.intro @p.eq_1 (And.intro @q.eq_1 (And.intro @n.eq_1 (And.intro @M.eq_1 (And.intro @V.eq_1 (And.intro @m.eq_1 (And.intro @v.eq_1 (And.intro @l.eq_1 (And.intro @L.eq_1 (And.intro @f.eq_1 (And.intro @s.eq_1 (And.intro @ss.eq_1 (And.intro @A.eq_1 (And.intro @a.eq_1 (And.intro @P.eq_1 (And.intro @Q.eq_1 (And.intro @h.eq_1 (And.intro @w.eq_1 (And.intro @b.eq_1 (And.intro @bb.eq_1 (And.intro @e.eq_1 (And.intro @i.eq_1 (And.intro @t.eq_1 (And.intro @k.eq_1 (And.intro @r.eq_1 (And.intro @R.eq_1 (And.intro @j.eq_1 (And.intro @c.eq_1 (And.intro @u.eq_1 (And.intro @y.eq_1 (And.intro @z.eq_1 (And.intro @T.eq_1 @F.eq_1))))))))))))))))))))))))))))))))
end Go.Eng.Z
namespace Go.Eng
set_option linter.unusedVariables false
set_option linter.unusedSimpArgs false
set_option linter.unnecessarySimpa false
open Go
set_option linter.unusedVariables false
set_option linter.unusedSimpArgs false
set_option maxRecDepth 10000
def place (v n : Int) : Int := if v.tmod n < 0 then w64 (v.tmod n + n) else v.tmod n
theorem a_slAV {α : Type} (f : α → List AV) (l : Option (List α)) : argSV (slAV f l) = .dat (slAV f l) none := by cases l <;> rfl
theorem a_rows {α : Type} (f : α → List AV) (l : Option (List α)) : rowsOf (slAV f l) = some ((l.getD []).map f) := by cases l <;> rfl
theorem a_len {α : Type} (f : α → List AV) (l : Option (List α)) : lenA (slAV f l) = some (.int .i64 (l.getD []).length) := by cases l <;> simp [lenA, slAV]
end Go.Eng
namespace Go.Eng
set_option linter.unusedVariables false
set_option linter.unusedSimpArgs false
set_option linter.unnecessarySimpa false
open Go
set_option linter.unusedVariables false
set_option linter.unusedSimpArgs false
set_option maxRecDepth 10000
structure Cs where
  car : Int
  foot : Int
  deriving Inhabited, DecidableEq
def Cs.cells (c : Cs) : List AV := [I c.car, I c.foot]
end Go.Eng
namespace Go.Eng
set_option linter.unusedVariables false
set_option linter.unusedSimpArgs false
set_option linter.unnecessarySimpa false
open Go
set_option linter.unusedVariables false
set_option linter.unusedSimpArgs false
set_option maxRecDepth 10000
def cutI (n a b : Int) : Int := if n < a then a else if b < n then b else n
end Go.Eng
namespace Go.Eng
set_option linter.unusedVariables false
set_option linter.unusedSimpArgs false
set_option linter.unnecessarySimpa false
open Go
open Go.RowKit (Below)
set_option linter.unusedVariables false
theorem BoxesAt.block {w : World} {π : Nat → Nat → Prop} : ∀ {css : List (List AV)} {Bs : List Nat}, BoxesAt w π css Bs → ∀ B ∈ Bs, B < w.heap.size
  | [], [], _, B, h => by cases h
  | cs :: css, B0 :: Bs, h, B, hB => by
    rcases List.mem_cons.1 hB with rfl | hB
    · obtain ⟨cur, el, h1, _⟩ := h.1
      exact (Array.getElem?_eq_some_iff.1 h1).1
    · exact h.2.block B hB
  | [], _ :: _, h, _, _ => h.elim
  | _ :: _, [], h, _, _ => h.elim
theorem BoxesAt.mono {w w' : World} {π : Nat → Nat → Prop} (hb : Below w.heap.size w w') (hp : ∀ b o, π b o → b < w.heap.size) : ∀ {css : List (List AV)} {Bs : List Nat}, BoxesAt w π css Bs → BoxesAt w' π css Bs
  | [], [], _ => trivial
  | cs :: css, B :: Bs, h => by
    obtain ⟨cur, el, h1, h2, h3, h4, h5⟩ := h.1
    refine ⟨⟨cur, el, ?_, h2.mono (fun _ _ h => h) (fun b o hbo => Below.cellOld hb (hp b o hbo)), h3, h4, h5⟩, h.2.mono hb hp⟩
    rw [hb.block B (Array.getElem?_eq_some_iff.1 h1).1, h1]
  | [], _ :: _, h => h.elim
  | _ :: _, [], h => h.elim
theorem BoxR.ref {w : World} {π π1 : Nat → Nat → Prop} (hp : ∀ b o, π b o → π1 b o) {B : Nat} {cs : List AV} {τ : Nat → Value} (h : BoxR τ w π B ⟨cs, []⟩) (h1 : ∀ o, π1 B o) : DV w π1 (.ref cs) (.pointer (some ⟨B, 0, none⟩)) := by
  obtain ⟨cur, el, hh, hd, hs, _, _⟩ := h
  have hget : ∀ (j : Nat) (a : AV), cs[j]? = some a → ∃ v, cur[j]? = some v ∧ DV w π a v := fun j a ha => by
    obtain ⟨v, hv, hv2⟩ := hd.get ha
    exact ⟨v, by simpa using hv, hv2⟩
  refine .ref cs B 0 (fun j => cur[j]!) (fun j a ha => hs a (List.mem_of_getElem? ha)) (fun j a _ => h1 _) (fun j a ha => ?_) (fun j a ha => ?_)
  · obtain ⟨v, hv, _⟩ := hget j a ha
    rw [Nat.zero_add]
    have hj : cur[j]! = v := by simp [Array.getElem!_eq_getD, Array.getD_eq_getD_getElem?, hv]
    simp only [hj]
    simp [World.cell?, hh, hv]
  · obtain ⟨v, hv, hv2⟩ := hget j a ha
    have hj : cur[j]! = v := by simp [Array.getElem!_eq_getD, Array.getD_eq_getD_getElem?, hv]
    simp only [hj]
    exact hv2.mono hp fun _ _ _ => rfl
theorem dvs_set {w : World} {π : Nat → Nat → Prop} {a b : AV} (hab : ∀ u, DV w π a u → ∃ b, DV w π b u) : ∀ {pre post : List AV} {vs : List Value}, DVs w π (pre ++ a :: post) vs → ∃ u, DV w π a u ∧ ∀ b, DV w π b u → DVs w π (pre ++ b :: post) vs := by
  intro pre post vs hd
  have hl := hd.1
  simp only [List.length_append, List.length_cons] at hl
  have hi : pre.length < vs.length := by omega
  refine ⟨vs[pre.length], hd.2 pre.length a _ (by simp) (by simp [hi]), fun b hb => ⟨by simp; omega, fun i x v h1 h2 => ?_⟩⟩
  by_cases hip : i = pre.length
  · subst hip
    simp at h1; subst h1
    rw [List.getElem?_eq_getElem hi] at h2; cases h2
    exact hb
  · refine hd.2 i x v ?_ h2
    rw [← h1]
    by_cases hlt : i < pre.length
    · simp [List.getElem?_append_left hlt]
    · rw [List.getElem?_append_right (by omega), List.getElem?_append_right (by omega)]
      obtain ⟨k, hk⟩ : ∃ k, i - pre.length = k + 1 := ⟨i - pre.length - 1, by omega⟩
      rw [hk]; rfl
theorem fnan_c {P : Program} {f : Nat} {pre post : List AV} {r : AV} {fr : Option Nat} (h : ∀ n, nanB n = true → (Pure P).c f (pre ++ .float .f64 n :: post) r fr) : (Pure P).c f (pre ++ .fnan :: post) r fr := by
  refine ⟨(h 9221120237041090560 (by decide +kernel)).1, fun w π vs hprot hd => ?_⟩
  obtain ⟨u, hu, hs⟩ := dvs_set (b := .fnan) (fun u hu => ⟨_, hu⟩) hd
  cases hu with
  | fnan n hn => exact (h n hn).2 w π vs hprot (hs _ (.float _ _))
end Go.Eng
namespace Go.Eng
set_option linter.unusedVariables false
set_option linter.unusedSimpArgs false
set_option linter.unnecessarySimpa false
open Go
set_option linter.unusedVariables false
set_option linter.unusedSimpArgs false
set_option maxRecDepth 10000
set_option maxHeartbeats 4000000
theorem intRow_len (n : Int) : (intRow n).length = 1 := rfl
set_option linter.defProp false
def RW :=
  And.intro @EV (And.intro @EW (And.intro @cond_true.{1} (And.intro @cond_false.{1} (And.intro @List.length_cons.{0} (And.intro @List.length_nil.{0} (And.intro @r_partO (And.intro @r_rowO (And.intro @r_blk4 (And.intro @List.take_succ_cons.{0} (And.intro @List.take_zero.{0} (And.intro @List.drop_succ_cons.{0} (And.intro @List.drop_zero.{0} (And.intro @List.nil_append.{0} (And.intro @List.cons_append.{0} (And.intro @List.append_nil.{0} (And.intro @List.contains_nil.{0} (And.intro @Bool.false_eq_true (And.intro @if_false.{1} (And.intro @if_true.{1} (And.intro @true_and (And.intro @List.getElem?_cons_zero.{0} (And.intro @List.getElem?_cons_succ.{0} (And.intro @Nat.le_refl (And.intro @p_some (And.intro @ge_iff_le.{0} (And.intro @List.filter_nil.{0} (And.intro @Option.map_some.{0,0} (And.intro @ne_eq.{1} (And.intro @not_false_eq_true (And.intro @Bool.not_true (And.intro @Bool.not_false (And.intro @List.mem_singleton.{0} (And.intro @forall_eq.{1} (And.intro @List.not_mem_nil.{0} (And.intro @false_implies (And.intro @implies_true.{0} (And.intro @implies_true.{1} (And.intro @List.forall_mem_map.{0,0} (And.intro @List.length_map.{0,0} (And.intro @and_true (And.intro @intRow_len (And.intro @a_slAV (And.intro @a_rows (And.intro @a_len (And.intro @Int.toNat_natCast (And.intro @List.getElem?_map.{0,0} (And.intro @Nat.zero_add (And.intro @Nat.add_zero (And.intro @List.mem_cons.{0} (And.intro @forall_eq_or_imp.{1} (And.intro @Nat.mul_one (And.intro @decide_true (And.intro @decide_false (And.intro @List.contains_cons.{0} (And.intro @Bool.or_false (And.intro @Bool.false_or (And.intro @Bool.or_true (@Bool.true_or))))))))))))))))))))))))))))))))))))))))))))))))))))))))))
def RY := And.intro @RW (And.intro @fillA.eq_1 (And.intro @fillA.eq_2 (And.intro @stTags.eq_1 (And.intro @stTags.eq_2 (And.intro @flat.eq_1 (And.intro @flat.eq_2 (And.intro @flat.eq_3 (And.intro @flat.eq_4 (And.intro @flat.eq_5 (And.intro @flat.eq_6 (And.intro @flat.eq_7 @flat.eq_8)))))))))))
def RX := And.intro @RY @setCells.eq_1
def KW :=
  And.intro @k_wv (And.intro @k_cl (And.intro @k_clp (And.intro @k_clr (And.intro @k_gd (And.intro @k_cd (And.intro @k_pk (@k_dg)))))))
end Go.Eng
namespace Go.Eng
set_option linter.unusedVariables false
set_option linter.unusedSimpArgs false
set_option linter.unnecessarySimpa false
open Go
section
open Z
set_option linter.unusedVariables false
def cc_law02_SecsLonger (g0 g1 g2 g3 g4 : Nat) : CFn := ⟨68,[.tmp 6],r [V 6 (F)] (r [M 11 0,M 12 1,o 13 (.call g0 [t 11,t 12]),M 7 13] (r [M 14 7,M 15 0,M 16 1,o 17 (.call g1 [t 15,t 16]),o 18 (.call g2 [t 14,t 17]),M 19 18,p 20 (m 7) 19,p 21 (m 1) 19,p 22 (m 0) 19,p 23 (.call g0 [t 21,t 22]) 19,p 24 (.call g2 [t 20,t 23]) 19,o 25 (P 19 24),M 8 25] (r [M 26 7,M 27 2,o 28 (.call g0 [t 26,t 27]),M 29 0,M 30 1,M 31 2,o 32 (.call g0 [t 30,t 31]),o 33 (.call g0 [t 29,t 32]),o 34 (.call g2 [t 28,t 33]),M 9 34] (r [M 35 7,o 36 (.call g3 [t 35]),M 37 0,o 38 (.call g3 [t 37]),M 39 38,q 40 (m 1) 39,q 41 (.call g3 [t 40]) 39,o 42 (Q 39 41),o 43 (.bb false (t 36) (t 42)),M 10 43] (r [M 44 8,M 45 44,p 46 (m 9) 45,o 47 (P 45 46),M 48 47,p 49 (m 10) 48,o 50 (P 48 49),M 51 50,p 52 (m 7) 51,p 53 (.call g3 [t 52]) 51,p 54 (m 53) 51,q 55 (m 7) 54,q 56 (m 0) 54,q 57 (b .geq 55 56) 54,q 58 (m 57) 54,p 59 (m 7) 58,p 60 (m 1) 58,p 61 (b .geq 59 60) 58,q 62 (P 58 61) 54,p 63 (Q 54 62) 51,o 64 (P 51 63),M 65 64,p 66 (.call g4 []) 65,o 67 (P 65 66),M 6 67] y)))))⟩
def cc_secs_Of : CFn := ⟨8,[.tmp 2],r [V 2 (.float .f64 0)] (r [M 3 0,o 4 (.mm true [t 3,k (i 0)]),o 5 (.mm false [t 4,k (i 9999)]),o 6 (.cvIF .f64 (t 5)),o 7 (bb .quo 6 (.float .f64 4621819117588971520)),M 2 7] y)⟩
def cc_secs_Ticks : CFn := ⟨15,[.tmp 2,.tmp 3],r [V 2 (i 0),V 3 (F)] (j (r [M 4 0,o 5 (bb .geq 4 (.float .f64 0)),M 6 5,p 7 (m 0) 6,p 8 (bb .leq 7 (.float .f64 4652006429231887155)) 6,o 9 (P 6 8),o 10 (.un .not (t 9))] (c 10 (r [V 2 (i 0),V 3 (F)] y) z)) (r [M 11 0,o 12 (.bin .mul (k (.float .f64 4621819117588971520)) (t 11)),o 13 (.xt .rte (t 12)),o 14 (.cvFI .i64 (t 13)),M 2 14,V 3 (T)] y))⟩
def cc_ref01_Alike (g0 : Nat) : CFn := ⟨18,[.tmp 4],r [V 4 (F)] (r [M 5 0,o 6 (.xt .fbits (t 5)),M 7 1,o 8 (.xt .fbits (t 7)),o 9 (b .eql 6 8),M 10 9,q 11 (m 0) 10,q 12 (.call g0 [t 11]) 10,q 13 (m 12) 10,p 14 (m 1) 13,p 15 (.call g0 [t 14]) 13,q 16 (P 13 15) 10,o 17 (Q 10 16),M 4 17] y)⟩
def cc_law02_awake (g0 g1 : Nat) : CFn := ⟨16,[.tmp 0],r [V 0 (F)] (r [o 4 (.call g0 [k (.float .f64 4598175219545276416)]),M 3 4,o 5 (e 3 0),o 6 (e 3 1),M 1 5,M 2 6] (r [M 7 1,o 8 (bb .eql 7 (i 2)),M 9 8,p 10 (m 2) 9,o 11 (P 9 10),M 12 11,p 13 (.call g1 [k (i 5)]) 12,p 14 (bb .eql 13 (.float .f64 4602678819172646912)) 12,o 15 (P 12 14),M 0 15] y))⟩
def cc_secs_Longer : CFn := ⟨8,[.tmp 4],r [V 4 (.float .f64 0)] (r [M 5 0,M 6 1,o 7 (.mm true [t 5,t 6]),M 4 7] y)⟩
def cc_ref01_Longer (g0 : Nat) : CFn := ⟨29,[.tmp 4],r [V 4 (.float .f64 0)] (j (u 0 (r [M 6 0,o 7 (.call g0 [t 6]),M 5 7] (c 5 (r [M 8 0,M 4 8] y) (r [M 10 1,o 11 (.call g0 [t 10]),M 12 11,q 13 (m 1) 12,q 14 (m 0) 12,q 15 (b .gtr 13 14) 12,o 16 (Q 12 15),M 9 16] (c 9 (r [M 17 1,M 4 17] y) (r [M 19 0,M 20 1,o 21 (b .gtr 19 20),M 18 21] (c 18 (r [M 22 0,M 4 22] y) z))))))) (r [M 23 0,o 24 (.xt .fbits (t 23)),M 25 1,o 26 (.xt .fbits (t 25)),o 27 (b .and 24 26),o 28 (.xt .ffrom (t 27)),M 4 28] y))⟩
def cc_ref01_Nan : CFn := ⟨6,[.tmp 2],r [V 2 (F)] (r [M 3 0,M 4 0,o 5 (b .neq 3 4),M 2 5] y)⟩
end
end Go.Eng
namespace Go.Eng
set_option linter.unusedVariables false
set_option linter.unusedSimpArgs false
set_option linter.unnecessarySimpa false
open Ieee
set_option linter.unusedVariables false
set_option linter.unusedSimpArgs false
set_option exponentiation.threshold 4000
def rnd (n d : Nat) : Nat := n / 2 ^ d + (if 2 ^ d < 2 * (n % 2 ^ d) ∨ (2 ^ d = 2 * (n % 2 ^ d) ∧ n / 2 ^ d % 2 = 1) then 1 else 0)
theorem pow_pos2 (d : Nat) : 0 < 2 ^ d := Nat.two_pow_pos d
theorem rnd_le (n d : Nat) : rnd n d ≤ n / 2 ^ d + 1 := by unfold rnd; split <;> omega
theorem le_rnd (n d : Nat) : n / 2 ^ d ≤ rnd n d := by unfold rnd; omega
theorem rnd_zero (n : Nat) : rnd n 0 = n := by simp [rnd, Nat.mod_one]
theorem rnd_scale (n d k : Nat) : rnd (n * 2 ^ k) (d + k) = rnd n d := by
  unfold rnd
  rw [Nat.pow_add, Nat.mul_div_mul_right _ _ (pow_pos2 k), Nat.mul_mod_mul_right]
  have hk := pow_pos2 k
  have e1 : (2 ^ d * 2 ^ k < 2 * (n % 2 ^ d * 2 ^ k)) ↔ (2 ^ d < 2 * (n % 2 ^ d)) := by
    rw [← Nat.mul_assoc]; exact Nat.mul_lt_mul_right hk
  have e2 : (2 ^ d * 2 ^ k = 2 * (n % 2 ^ d * 2 ^ k)) ↔ (2 ^ d = 2 * (n % 2 ^ d)) := by
    rw [← Nat.mul_assoc]; exact Nat.mul_left_inj (by omega)
  simp only [e1, e2]
theorem rnd_mono {n n' : Nat} (h : n ≤ n') (d : Nat) : rnd n d ≤ rnd n' d := by
  have hp := pow_pos2 d
  have hq : n / 2 ^ d ≤ n' / 2 ^ d := Nat.div_le_div_right h
  by_cases he : n / 2 ^ d = n' / 2 ^ d
  · unfold rnd
    rw [he]
    have h1 := Nat.div_add_mod n (2 ^ d)
    have h2 := Nat.div_add_mod n' (2 ^ d)
    rw [he] at h1
    have hr : n % 2 ^ d ≤ n' % 2 ^ d := by omega
    split <;> split <;> omega
  · have h1 := rnd_le n d
    have h2 := le_rnd n' d
    omega
theorem rnd_exact {n d : Nat} (q : Nat) : rnd (q * 2 ^ d) d = q := by
  have := rnd_scale q 0 d
  rw [Nat.zero_add, rnd_zero] at this
  exact this
theorem log2_lt' (n : Nat) : n < 2 ^ (n.log2 + 1) := Nat.lt_log2_self
theorem cut_even (s : Bool) (n d : Nat) : Toward.even.cut s n d = rnd n d := by
  unfold Toward.cut
  simp only [Nat.one_shiftLeft]
  by_cases hd : d ≤ n.log2 + 2
  · rw [Nat.min_eq_left hd]
    unfold rnd
    congr 1
    by_cases h1 : 2 ^ d < 2 * (n % 2 ^ d)
    · simp [h1]
    · by_cases h2 : 2 ^ d = 2 * (n % 2 ^ d)
      · by_cases h3 : n / 2 ^ d % 2 = 1
        · simp [← h2, h3]
        · simp [← h2, h3]
      · simp [h1, h2]
  · rw [Nat.min_eq_right (by omega)]
    have hl := log2_lt' n
    have h2 : 2 ^ (n.log2 + 2) = 2 * 2 ^ (n.log2 + 1) := by rw [Nat.pow_succ, Nat.mul_comm]
    have hd2 : 2 ^ (n.log2 + 2) ≤ 2 ^ d := Nat.pow_le_pow_right (by omega) (by omega)
    have e1 : n / 2 ^ (n.log2 + 2) = 0 := Nat.div_eq_of_lt (by omega)
    have e2 : n % 2 ^ (n.log2 + 2) = n := Nat.mod_eq_of_lt (by omega)
    have e3 : n / 2 ^ d = 0 := Nat.div_eq_of_lt (by omega)
    have e4 : n % 2 ^ d = n := Nat.mod_eq_of_lt (by omega)
    unfold rnd
    rw [e1, e2, e3, e4]
    have c1 : ¬ (2 ^ (n.log2 + 2) < 2 * n) := by omega
    have c2 : ¬ (2 ^ (n.log2 + 2) = 2 * n) := by omega
    have c3 : ¬ (2 ^ d < 2 * n) := by omega
    have c4 : ¬ (2 ^ d = 2 * n) := by omega
    simp [c1, c2, c3, c4]
def rV (r : Nat) : Nat := if r < 2 ^ 52 then r else (2 ^ 52 + r % 2 ^ 52) * 2 ^ (r / 2 ^ 52 - 1)
theorem rV_mono {r r' : Nat} (h : r ≤ r') : rV r ≤ rV r' := by
  unfold rV
  have hd : r / 2 ^ 52 ≤ r' / 2 ^ 52 := Nat.div_le_div_right h
  have hm := Nat.mod_lt r (pow_pos2 52)
  have hm' := Nat.mod_lt r' (pow_pos2 52)
  split
  · split
    · exact h
    · have : 1 ≤ 2 ^ (r' / 2 ^ 52 - 1) := pow_pos2 _
      calc r ≤ 2 ^ 52 + r' % 2 ^ 52 := by omega
        _ = (2 ^ 52 + r' % 2 ^ 52) * 1 := by omega
        _ ≤ _ := Nat.mul_le_mul_left _ this
  · split
    · omega
    · by_cases he : r / 2 ^ 52 = r' / 2 ^ 52
      · rw [he]
        have h1 := Nat.div_add_mod r (2 ^ 52)
        have h2 := Nat.div_add_mod r' (2 ^ 52)
        rw [he] at h1
        exact Nat.mul_le_mul_right _ (by omega)
      · have h0 : 1 ≤ r / 2 ^ 52 := by
          have : 2 ^ 52 ≤ r := by omega
          exact (Nat.le_div_iff_mul_le (pow_pos2 52)).2 (by omega)
        calc (2 ^ 52 + r % 2 ^ 52) * 2 ^ (r / 2 ^ 52 - 1) ≤ 2 ^ 53 * 2 ^ (r / 2 ^ 52 - 1) := Nat.mul_le_mul_right _ (by omega)
          _ = 2 ^ 52 * 2 ^ (r / 2 ^ 52) := by rw [← Nat.pow_add, ← Nat.pow_add]; congr 1; omega
          _ ≤ 2 ^ 52 * 2 ^ (r' / 2 ^ 52 - 1) := Nat.mul_le_mul_left _ (Nat.pow_le_pow_right (by omega) (by omega))
          _ ≤ _ := Nat.mul_le_mul_right _ (by omega)
def Lg (N : Nat) : Nat := max (N.log2 - 52) 1126
def Rg (N : Nat) : Nat := if N = 0 then 0 else min ((Lg N - 1126) * 2 ^ 52 + rnd N (Lg N)) (2047 * 2 ^ 52)
theorem Lg_le {N N' : Nat} (h0 : N ≠ 0) (h : N ≤ N') : Lg N ≤ Lg N' := by
  have : N.log2 ≤ N'.log2 := (Nat.le_log2 (by omega)).2 (Nat.le_trans (Nat.log2_self_le h0) h)
  unfold Lg; omega
theorem Lg_lt (N : Nat) : N < 2 ^ (Lg N + 53) := Nat.lt_of_lt_of_le (log2_lt' N) (Nat.pow_le_pow_right (by omega) (by unfold Lg; omega))
theorem Lg_q (N : Nat) : N / 2 ^ Lg N < 2 ^ 53 := by
  rw [Nat.div_lt_iff_lt_mul (pow_pos2 _), ← Nat.pow_add, Nat.add_comm]; exact Lg_lt N
theorem Lg_ge {N : Nat} (h : N ≠ 0) (hL : 1126 < Lg N) : 2 ^ 52 ≤ N / 2 ^ Lg N := by
  rw [Nat.le_div_iff_mul_le (pow_pos2 _), ← Nat.pow_add]
  refine Nat.le_trans (Nat.pow_le_pow_right (by omega) ?_) (Nat.log2_self_le h)
  unfold Lg at hL ⊢; omega
theorem Rg_mono {N N' : Nat} (h : N ≤ N') : Rg N ≤ Rg N' := by
  unfold Rg
  by_cases h0 : N = 0
  · simp [h0]
  · have h0' : N' ≠ 0 := by omega
    rw [if_neg h0, if_neg h0']
    have hL := Lg_le h0 h
    suffices (Lg N - 1126) * 2 ^ 52 + rnd N (Lg N) ≤ (Lg N' - 1126) * 2 ^ 52 + rnd N' (Lg N') by omega
    by_cases he : Lg N = Lg N'
    · rw [he]; have := rnd_mono h (Lg N'); omega
    · have h1 := Lg_q N
      have h2 := rnd_le N (Lg N)
      have h3 : 2 ^ 52 ≤ N' / 2 ^ Lg N' := Lg_ge h0' (by unfold Lg at he hL ⊢; omega)
      have h4 := le_rnd N' (Lg N')
      have h5 : (Lg N - 1126) + 1 ≤ Lg N' - 1126 := by unfold Lg at he hL ⊢; omega
      omega
theorem Rg_exact {N : Nat} (q : Nat) (h : N = q * 2 ^ Lg N) (hb : N < 2 ^ 3150) : Rg N < 2047 * 2 ^ 52 ∧ rV (Rg N) * 2 ^ 1126 = N := by
  by_cases h0 : N = 0
  · subst h0; simp [Rg, rV]
  · have hp := pow_pos2 (Lg N)
    have hq : N / 2 ^ Lg N = q := by
      have : q * 2 ^ Lg N / 2 ^ Lg N = q := Nat.mul_div_cancel _ hp
      rw [← h] at this; exact this
    have hr : rnd N (Lg N) = q := by
      have : rnd (q * 2 ^ Lg N) (Lg N) = q := rnd_exact (n := 0) q
      rw [← h] at this; exact this
    have hq53 := Lg_q N
    rw [hq] at hq53
    have hL : Lg N ≤ 3098 := by
      have : N.log2 < 3150 := (Nat.log2_lt h0).2 hb
      unfold Lg; omega
    have hlt : (Lg N - 1126) * 2 ^ 52 + q < 2047 * 2 ^ 52 := by omega
    have hRg : Rg N = (Lg N - 1126) * 2 ^ 52 + q := by unfold Rg; rw [if_neg h0, hr]; omega
    rw [hRg]
    refine ⟨hlt, ?_⟩
    have key : rV ((Lg N - 1126) * 2 ^ 52 + q) = q * 2 ^ (Lg N - 1126) := by
      by_cases hLe : Lg N = 1126
      · rw [hLe]
        simp only [Nat.sub_self, Nat.zero_mul, Nat.zero_add, Nat.pow_zero, Nat.mul_one]
        unfold rV
        split
        · rfl
        · have e1 : q / 2 ^ 52 = 1 := by omega
          have e2 : q % 2 ^ 52 = q - 2 ^ 52 := by omega
          rw [e1, e2]; omega
      · have hL1 : 1126 < Lg N := by unfold Lg at hLe ⊢; omega
        have h52 := Lg_ge h0 hL1
        rw [hq] at h52
        unfold rV
        have e1 : ((Lg N - 1126) * 2 ^ 52 + q) / 2 ^ 52 - 1 = Lg N - 1126 := by omega
        have e2 : 2 ^ 52 + ((Lg N - 1126) * 2 ^ 52 + q) % 2 ^ 52 = q := by omega
        rw [if_neg (by omega), e1, e2]
    rw [key, Nat.mul_assoc, ← Nat.pow_add]
    have : Lg N - 1126 + 1126 = Lg N := by have : 1126 ≤ Lg N := by unfold Lg; omega
                                           omega
    rw [this]; exact h.symm
theorem Rg_small {m k : Nat} (hm : m < 2 ^ 53) (hk : 1126 ≤ k) (hk2 : k ≤ 3090) : Rg (m * 2 ^ k) < 2047 * 2 ^ 52 ∧ rV (Rg (m * 2 ^ k)) * 2 ^ 1126 = m * 2 ^ k := by
  by_cases h0 : m = 0
  · subst h0; simp [Rg, rV]
  · have hl : (m * 2 ^ k).log2 = m.log2 + k := by
      have h1 : m * 2 ^ k ≠ 0 := Nat.mul_ne_zero h0 (by have := pow_pos2 k; omega)
      apply Nat.le_antisymm
      · have : (m * 2 ^ k).log2 < m.log2 + k + 1 := (Nat.log2_lt h1).2 (by
          rw [show m.log2 + k + 1 = (m.log2 + 1) + k by omega, Nat.pow_add]
          exact Nat.mul_lt_mul_of_pos_right (log2_lt' m) (pow_pos2 k))
        omega
      · exact (Nat.le_log2 h1).2 (by rw [Nat.pow_add]; exact Nat.mul_le_mul_right _ (Nat.log2_self_le h0))
    have hm52 : m.log2 ≤ 52 := by have := (Nat.log2_lt h0).2 hm; omega
    have hLk : Lg (m * 2 ^ k) ≤ k := by unfold Lg; omega
    refine Rg_exact (m * 2 ^ (k - Lg (m * 2 ^ k))) ?_ ?_
    · rw [Nat.mul_assoc, ← Nat.pow_add]; congr 2; omega
    · have := log2_lt' (m * 2 ^ k)
      refine Nat.lt_of_lt_of_le this (Nat.pow_le_pow_right (by omega) (by omega))
end Go.Eng
namespace Go.Eng
set_option linter.unusedVariables false
set_option linter.unusedSimpArgs false
set_option linter.unnecessarySimpa false
open Ieee
set_option linter.unusedVariables false
set_option linter.unusedSimpArgs false
set_option exponentiation.threshold 4000
abbrev DF : Format := Ieee.double
theorem df_binade : DF.binade = 2 ^ 52 := rfl
theorem df_sign : DF.signWeight = 2 ^ 63 := rfl
theorem df_inf : DF.infRung = 2047 * 2 ^ 52 := rfl
theorem df_least : DF.leastPlace = -1074 := by decide
theorem df_frac : DF.fractionBits = 52 := rfl
def dig (r : Nat) : Nat := if r < 2 ^ 52 then r else 2 ^ 52 + r % 2 ^ 52
def plc (r : Nat) : Nat := if r < 2 ^ 52 then 0 else r / 2 ^ 52 - 1
theorem rV_dig (r : Nat) : rV r = dig r * 2 ^ plc r := by unfold rV dig plc; split <;> simp
theorem dig_lt (r : Nat) : dig r < 2 ^ 53 := by unfold dig; split <;> omega
theorem read_pos {r : Nat} (h : r < 2047 * 2 ^ 52) : DF.read r = .number false (dig r) (-1074 + (plc r : Int)) := by
  have h1 : r / 2 ^ 63 % 2 = 0 := by omega
  have h2 : r % 2 ^ 63 = r := by omega
  unfold Format.read
  simp only [df_binade, df_sign, df_inf, df_least, h1, h2]
  unfold dig plc
  split
  · simp
  · simp [h]
theorem read_neg {r : Nat} (h : r < 2047 * 2 ^ 52) : DF.read (2 ^ 63 + r) = .number true (dig r) (-1074 + (plc r : Int)) := by
  have h1 : (2 ^ 63 + r) / 2 ^ 63 % 2 = 1 := by omega
  have h2 : (2 ^ 63 + r) % 2 ^ 63 = r := by omega
  unfold Format.read
  simp only [df_binade, df_sign, df_inf, df_least, h1, h2]
  unfold dig plc
  split
  · simp
  · simp [h]
theorem nearest_Rg (s : Bool) (m : Nat) (p : Int) (hp : -2200 ≤ p) : DF.nearest s m p = DF.word s (Rg (m * 2 ^ (p + 2200).toNat)) := by
  unfold Format.nearest
  by_cases h0 : m = 0
  · simp [h0, Rg]
  · rw [if_neg h0]
    obtain ⟨k, hk⟩ : ∃ k : Nat, p = (k : Int) - 2200 := ⟨(p + 2200).toNat, by omega⟩
    subst hk
    have ek : ((k : Int) - 2200 + 2200).toNat = k := by omega
    rw [ek]
    have h1 : m * 2 ^ k ≠ 0 := Nat.mul_ne_zero h0 (by have := pow_pos2 k; omega)
    have hl : (m * 2 ^ k).log2 = m.log2 + k := by
      apply Nat.le_antisymm
      · have : (m * 2 ^ k).log2 < m.log2 + k + 1 := (Nat.log2_lt h1).2 (by
          rw [show m.log2 + k + 1 = (m.log2 + 1) + k by omega, Nat.pow_add]
          exact Nat.mul_lt_mul_of_pos_right (log2_lt' m) (pow_pos2 k))
        omega
      · exact (Nat.le_log2 h1).2 (by rw [Nat.pow_add]; exact Nat.mul_le_mul_right _ (Nat.log2_self_le h0))
    have hlast : max ((k : Int) - 2200 + m.log2 - (DF.fractionBits : Nat)) DF.leastPlace = (Lg (m * 2 ^ k) : Int) - 2200 := by
      rw [df_least, df_frac]; unfold Lg; rw [hl]; omega
    simp only [hlast]
    simp only [cut_even, df_least, df_binade, df_inf]
    have hg : 1126 ≤ Lg (m * 2 ^ k) := by unfold Lg; omega
    have e1 : ((Lg (m * 2 ^ k) : Int) - 2200 - -1074).toNat = Lg (m * 2 ^ k) - 1126 := by omega
    have e2 : rnd (m <<< ((k : Int) - 2200 - ((Lg (m * 2 ^ k) : Int) - 2200)).toNat) ((Lg (m * 2 ^ k) : Int) - 2200 - ((k : Int) - 2200)).toNat = rnd (m * 2 ^ k) (Lg (m * 2 ^ k)) := by
      rw [Nat.shiftLeft_eq]
      generalize Lg (m * 2 ^ k) = L
      by_cases hLk : L ≤ k
      · have a1 : ((k : Int) - 2200 - ((L : Int) - 2200)).toNat = k - L := by omega
        have a2 : ((L : Int) - 2200 - ((k : Int) - 2200)).toNat = 0 := by omega
        rw [a1, a2]
        have := rnd_scale (m * 2 ^ (k - L)) 0 L
        rw [Nat.zero_add, Nat.mul_assoc, ← Nat.pow_add, Nat.sub_add_cancel hLk] at this
        exact this.symm
      · have a1 : ((k : Int) - 2200 - ((L : Int) - 2200)).toNat = 0 := by omega
        have a2 : ((L : Int) - 2200 - ((k : Int) - 2200)).toNat = L - k := by omega
        rw [a1, a2, Nat.pow_zero, Nat.mul_one]
        have := rnd_scale m (L - k) k
        rw [Nat.sub_add_cancel (by omega)] at this
        exact this.symm
    rw [e1, e2]
    unfold Rg
    rw [if_neg h1]
theorem word_pos (r : Nat) : DF.word false r = r := by unfold Format.word; simp
theorem write_pos (m : Nat) (p : Int) (hp : -2200 ≤ p) : DF.write (.number false m p) = Rg (m * 2 ^ (p + 2200).toNat) := by
  show DF.nearest false m p = _
  rw [nearest_Rg _ _ _ hp, word_pos]
def Fin (r : Nat) : Prop := r < 2047 * 2 ^ 52
def w10 : Nat := 4621819117588971520
theorem read_10 : DF.read w10 = .number false (5 * 2 ^ 50) (-49) := by decide
theorem mul_10 {r : Nat} (h : Fin r) : DF.mul w10 r = some (Rg (10 * rV r * 2 ^ 1126)) ∧ DF.mul r w10 = some (Rg (10 * rV r * 2 ^ 1126)) := by
  have e : 5 * 2 ^ 50 * dig r * 2 ^ ((-49 + (-1074 + (plc r : Int))) + 2200).toNat = 10 * rV r * 2 ^ 1126 := by
    have : ((-49 + (-1074 + (plc r : Int))) + 2200).toNat = plc r + 1077 := by omega
    rw [this, rV_dig, show (2 : Nat) ^ 1126 = 2 ^ 49 * 2 ^ 1077 by rw [← Nat.pow_add], Nat.pow_add, show 5 * 2 ^ 50 = 10 * 2 ^ 49 by decide]
    simp only [Nat.mul_assoc, Nat.mul_left_comm, Nat.mul_comm]
  constructor
  · unfold Format.mul
    rw [read_10, read_pos h]
    simp only [Datum.product, Option.map_some, Bool.false_bne, Bool.xor_false]
    rw [write_pos _ _ (by omega), e]
  · unfold Format.mul
    rw [read_10, read_pos h]
    simp only [Datum.product, Option.map_some, Bool.false_bne, Bool.xor_false]
    rw [write_pos _ _ (by omega), Nat.mul_comm (dig r), Int.add_comm (-1074 + (plc r : Int)) (-49), e]
theorem sum_pos (m n a b : Nat) : (Datum.number false m (-1074 + (a : Int))).sum (.number false n (-1074 + (b : Int))) = some (.number false (m * 2 ^ (a - min a b) + n * 2 ^ (b - min a b)) (-1074 + (min a b : Nat))) := by
  have e0 : min (-1074 + (a : Int)) (-1074 + (b : Int)) = -1074 + ((min a b : Nat) : Int) := by omega
  have e1 : ((-1074 + (a : Int)) - (-1074 + ((min a b : Nat) : Int))).toNat = a - min a b := by omega
  have e2 : ((-1074 + (b : Int)) - (-1074 + ((min a b : Nat) : Int))).toNat = b - min a b := by omega
  simp only [Datum.sum, e0, e1, e2, signed, Bool.false_eq_true, if_false, Nat.shiftLeft_eq]
  generalize m * 2 ^ (a - min a b) = x
  generalize n * 2 ^ (b - min a b) = y
  have h1 : ¬ ((x : Int) + (y : Int) < 0) := by omega
  have h2 : ((x : Int) + (y : Int)).natAbs = x + y := by omega
  rw [h2]
  simp [h1]
theorem sum_sub (m n a b : Nat) (h : n * 2 ^ b ≤ m * 2 ^ a) : (Datum.number false m (-1074 + (a : Int))).sum (.number true n (-1074 + (b : Int))) = some (.number false (m * 2 ^ (a - min a b) - n * 2 ^ (b - min a b)) (-1074 + (min a b : Nat))) := by
  have e0 : min (-1074 + (a : Int)) (-1074 + (b : Int)) = -1074 + ((min a b : Nat) : Int) := by omega
  have e1 : ((-1074 + (a : Int)) - (-1074 + ((min a b : Nat) : Int))).toNat = a - min a b := by omega
  have e2 : ((-1074 + (b : Int)) - (-1074 + ((min a b : Nat) : Int))).toNat = b - min a b := by omega
  simp only [Datum.sum, e0, e1, e2, signed, Bool.false_eq_true, if_false, if_true, Nat.shiftLeft_eq]
  have hxy : n * 2 ^ (b - min a b) ≤ m * 2 ^ (a - min a b) := by
    have hp := pow_pos2 (min a b)
    refine Nat.le_of_mul_le_mul_right ?_ hp
    rw [Nat.mul_assoc, Nat.mul_assoc, ← Nat.pow_add, ← Nat.pow_add, Nat.sub_add_cancel (by omega), Nat.sub_add_cancel (by omega)]
    exact h
  generalize m * 2 ^ (a - min a b) = x at *
  generalize n * 2 ^ (b - min a b) = y at *
  have h1 : ¬ ((x : Int) + -(y : Int) < 0) := by omega
  have h2 : ((x : Int) + -(y : Int)).natAbs = x - y := by omega
  rw [h2]
  simp [h1]
theorem scl (m a c : Nat) (h : c ≤ a) : m * 2 ^ (a - c) * 2 ^ (c + 1126) = m * 2 ^ a * 2 ^ 1126 := by
  rw [Nat.mul_assoc, ← Nat.pow_add, Nat.mul_assoc, ← Nat.pow_add, show a - c + (c + 1126) = a + 1126 by omega]
theorem add_pos {x y : Nat} (hx : Fin x) (hy : Fin y) : DF.add x y = some (Rg ((rV x + rV y) * 2 ^ 1126)) := by
  unfold Format.add
  rw [read_pos hx, read_pos hy, sum_pos, Option.map_some, write_pos _ _ (by omega)]
  have e : ((-1074 + ((min (plc x) (plc y) : Nat) : Int)) + 2200).toNat = min (plc x) (plc y) + 1126 := by omega
  rw [e, Nat.add_mul, scl _ _ _ (by omega), scl _ _ _ (by omega), ← rV_dig, ← rV_dig, ← Nat.add_mul]
theorem sub_pos {x y : Nat} (hx : Fin x) (hy : Fin y) (h : rV y ≤ rV x) : DF.sub x y = some (Rg ((rV x - rV y) * 2 ^ 1126)) := by
  unfold Format.sub
  rw [read_pos hx, read_pos hy]
  simp only [Datum.opposite, Bool.not_false]
  rw [rV_dig, rV_dig] at h
  rw [sum_sub _ _ _ _ h, Option.map_some, write_pos _ _ (by omega)]
  have e : ((-1074 + ((min (plc x) (plc y) : Nat) : Int)) + 2200).toNat = min (plc x) (plc y) + 1126 := by omega
  rw [e, Nat.sub_mul, scl _ _ _ (by omega), scl _ _ _ (by omega), ← rV_dig, ← rV_dig, ← Nat.sub_mul]
def ofN (n : Nat) : Nat := Rg (n * 2 ^ 2200)
theorem nearest_ofN (n : Nat) : Go.FloatKind.f64.nearest (n : Int) = ofN n := by
  show DF.write (.number (decide ((n : Int) < 0)) (n : Int).natAbs 0) = _
  have h1 : decide ((n : Int) < 0) = false := by simp
  rw [h1, Int.natAbs_natCast, write_pos _ _ (by omega), show ((0 : Int) + 2200).toNat = 2200 by omega]
  unfold ofN; with_reducible rfl
theorem ofN_fin {n : Nat} (h : n < 2 ^ 53) : Fin (ofN n) ∧ rV (ofN n) = n * 2 ^ 1074 := by
  have h2200 : (1126 : Nat) ≤ 2200 := by decide
  obtain ⟨h1, h2⟩ := Rg_small (m := n) (k := 2200) h (by omega) (by omega)
  refine ⟨h1, ?_⟩
  unfold ofN
  have hp := pow_pos2 1126
  refine Nat.eq_of_mul_eq_mul_right hp ?_
  rw [h2, Nat.mul_assoc, ← Nat.pow_add]
theorem grid {a : Nat} (h : a < 2 ^ 53) : Fin (Rg (a * 2 ^ 1064 * 2 ^ 1126)) ∧ rV (Rg (a * 2 ^ 1064 * 2 ^ 1126)) = a * 2 ^ 1064 := by
  have e : a * 2 ^ 1064 * 2 ^ 1126 = a * 2 ^ 2190 := by rw [Nat.mul_assoc, ← Nat.pow_add]
  obtain ⟨h1, h2⟩ := Rg_small (k := 2190) h (by omega) (by omega)
  rw [e]
  refine ⟨h1, ?_⟩
  have hp := pow_pos2 1126
  refine Nat.eq_of_mul_eq_mul_right hp ?_
  rw [h2, e]
theorem Rg_grid {N a b : Nat} (ha : a * 2 ^ 1064 * 2 ^ 1126 ≤ N) (hb : N ≤ b * 2 ^ 1064 * 2 ^ 1126) (h : b < 2 ^ 53) : Fin (Rg N) ∧ a * 2 ^ 1064 ≤ rV (Rg N) ∧ rV (Rg N) ≤ b * 2 ^ 1064 := by
  have hab : a < 2 ^ 53 := by
    have : a * (2 ^ 1064 * 2 ^ 1126) ≤ b * (2 ^ 1064 * 2 ^ 1126) := by rw [← Nat.mul_assoc, ← Nat.mul_assoc]; exact Nat.le_trans ha hb
    have := Nat.le_of_mul_le_mul_right this (Nat.mul_pos (pow_pos2 _) (pow_pos2 _))
    omega
  obtain ⟨f1, f2⟩ := grid hab
  obtain ⟨f3, f4⟩ := grid h
  have m1 := Rg_mono ha
  have m2 := Rg_mono hb
  refine ⟨?_, ?_, ?_⟩
  · unfold Fin at f3 ⊢; omega
  · rw [← f2]; exact rV_mono m1
  · rw [← f4]; exact rV_mono m2
theorem sh_pos (m a : Nat) : rnd (m <<< (-1074 + (a : Int)).toNat) (-(-1074 + (a : Int))).toNat = rnd (m * 2 ^ a) 1074 := by
  rw [Nat.shiftLeft_eq]
  by_cases h : 1074 ≤ a
  · have e1 : (-1074 + (a : Int)).toNat = a - 1074 := by omega
    have e2 : (-(-1074 + (a : Int))).toNat = 0 := by omega
    rw [e1, e2]
    have := rnd_scale (m * 2 ^ (a - 1074)) 0 1074
    rw [Nat.zero_add, Nat.mul_assoc, ← Nat.pow_add, Nat.sub_add_cancel h] at this
    exact this.symm
  · have e1 : (-1074 + (a : Int)).toNat = 0 := by omega
    have e2 : (-(-1074 + (a : Int))).toNat = 1074 - a := by omega
    rw [e1, e2, Nat.pow_zero, Nat.mul_one]
    have := rnd_scale m (1074 - a) a
    rw [Nat.sub_add_cancel (by omega)] at this
    exact this.symm
theorem rte_pos {r : Nat} (h : Fin r) : DF.write ((DF.read r).integral .even) = ofN (rnd (rV r) 1074) := by
  rw [read_pos h]
  simp only [Datum.integral, cut_even, sh_pos]
  rw [write_pos _ _ (by omega), ← rV_dig, show ((0 : Int) + 2200).toNat = 2200 by omega]
  unfold ofN; with_reducible rfl
theorem cut_zero (s : Bool) (n d : Nat) : Toward.zero.cut s n d = n / 2 ^ d := by
  unfold Toward.cut
  simp only [Nat.one_shiftLeft, Bool.toNat_false, Nat.add_zero]
  by_cases hd : d ≤ n.log2 + 2
  · rw [Nat.min_eq_left hd]
  · rw [Nat.min_eq_right (by omega)]
    have hl := log2_lt' n
    have h2 : 2 ^ (n.log2 + 2) = 2 * 2 ^ (n.log2 + 1) := by rw [Nat.pow_succ, Nat.mul_comm]
    have hd2 : 2 ^ (n.log2 + 2) ≤ 2 ^ d := Nat.pow_le_pow_right (by omega) (by omega)
    rw [Nat.div_eq_of_lt (by omega), Nat.div_eq_of_lt (by omega)]
theorem toInt_pos {r : Nat} (h : Fin r) : (DF.read r).toInt .zero = some ((rV r / 2 ^ 1074 : Nat) : Int) := by
  rw [read_pos h, rV_dig]
  unfold Datum.toInt
  simp only [Datum.integral, cut_zero, Nat.shiftLeft_eq, signed, Bool.false_eq_true, if_false, Nat.pow_zero, Nat.mul_one]
  congr 2
  generalize plc r = a
  generalize dig r = m
  by_cases h : 1074 ≤ a
  · have e1 : (-1074 + (a : Int)).toNat = a - 1074 := by omega
    have e2 : (-(-1074 + (a : Int))).toNat = 0 := by omega
    rw [e1, e2, Nat.pow_zero, Nat.div_one]
    have : m * 2 ^ a = m * 2 ^ (a - 1074) * 2 ^ 1074 := by rw [Nat.mul_assoc, ← Nat.pow_add, Nat.sub_add_cancel h]
    rw [this, Nat.mul_div_cancel _ (pow_pos2 _)]
  · have e1 : (-1074 + (a : Int)).toNat = 0 := by omega
    have e2 : (-(-1074 + (a : Int))).toNat = 1074 - a := by omega
    rw [e1, e2, Nat.pow_zero, Nat.mul_one]
    have : m * 2 ^ a / 2 ^ 1074 = m * 2 ^ a / (2 ^ (1074 - a) * 2 ^ a) := by rw [← Nat.pow_add, Nat.sub_add_cancel (by omega)]
    rw [this, Nat.mul_div_mul_right _ _ (pow_pos2 _)]
theorem toInt_ofN {n : Nat} (h : n < 2 ^ 53) : (DF.read (ofN n)).toInt .zero = some (n : Int) := by
  obtain ⟨h1, h2⟩ := ofN_fin h
  rw [toInt_pos h1, h2, Nat.mul_div_cancel _ (pow_pos2 _)]
def key (x : Nat) : Option Int :=
  match DF.read x with
  | .nan .. => none
  | .infinity s => some (if s then -(2 ^ 2200 : Nat) else (2 ^ 2200 : Nat))
  | .number s m i => some (signed s m (i + 1074).toNat)
theorem read_bounds (x : Nat) {s : Bool} {m : Nat} {i : Int} (h : DF.read x = .number s m i) : -1074 ≤ i ∧ i ≤ 971 ∧ m < 2 ^ 53 := by
  unfold Format.read at h
  dsimp only at h
  split at h
  · rename_i h1
    cases h
    rw [df_sign, df_binade] at h1
    rw [df_sign, df_least]
    omega
  · split at h
    · rename_i h1 h2
      cases h
      rw [df_sign, df_inf] at h2
      rw [df_sign, df_least, df_binade]
      omega
    · split at h <;> cases h
theorem signed_scale (s : Bool) (m a b : Nat) : signed s m (a + b) = signed s m a * ((2 ^ b : Nat) : Int) := by
  have e : ((m <<< (a + b) : Nat) : Int) = ((m <<< a : Nat) : Int) * ((2 ^ b : Nat) : Int) := by
    rw [Nat.shiftLeft_eq, Nat.shiftLeft_eq, Nat.pow_add, ← Nat.mul_assoc, Int.natCast_mul]
  unfold signed
  cases s
  · simp only [Bool.false_eq_true, if_false]; exact e
  · simp only [if_true, e, Int.neg_mul]
theorem cmp_scale (a b : Int) (k : Nat) : compare (a * ((2 ^ k : Nat) : Int)) (b * ((2 ^ k : Nat) : Int)) = compare a b := by
  have hp : (0 : Int) < ((2 ^ k : Nat) : Int) := by have := pow_pos2 k; omega
  have h1 : (a * ((2 ^ k : Nat) : Int) < b * ((2 ^ k : Nat) : Int)) ↔ a < b := Int.mul_lt_mul_right hp
  have h2 : (a * ((2 ^ k : Nat) : Int) = b * ((2 ^ k : Nat) : Int)) ↔ a = b := ⟨fun h => Int.eq_of_mul_eq_mul_right (by omega) h, fun h => by rw [h]⟩
  simp only [compare, compareOfLessAndEq, h1, h2]
theorem signed_lt {s : Bool} {m a : Nat} (hm : m < 2 ^ 53) (ha : a ≤ 2045) : -((2 ^ 2200 : Nat) : Int) < signed s m a ∧ signed s m a < ((2 ^ 2200 : Nat) : Int) := by
  have h1 : m * 2 ^ a < 2 ^ 53 * 2 ^ 2045 := Nat.lt_of_lt_of_le (Nat.mul_lt_mul_of_pos_right hm (pow_pos2 a)) (Nat.mul_le_mul_left _ (Nat.pow_le_pow_right (by omega) ha))
  have h2 : 2 ^ 53 * 2 ^ 2045 ≤ 2 ^ 2200 := by rw [← Nat.pow_add]; exact Nat.pow_le_pow_right (by omega) (by omega)
  have h3 : m * 2 ^ a < 2 ^ 2200 := Nat.lt_of_lt_of_le h1 h2
  unfold signed
  rw [Nat.shiftLeft_eq]
  generalize m * 2 ^ a = z at *
  generalize 2 ^ 2200 = w at *
  cases s <;> simp <;> omega
def kcmp : Option Int → Option Int → Option Ordering
  | some a, some b => some (compare a b)
  | _, _ => none
theorem cmp_lt {a b : Int} (h : a < b) : compare a b = .lt := by simp [compare, compareOfLessAndEq, h]
theorem cmp_gt {a b : Int} (h : b < a) : compare a b = .gt := by
  have h1 : ¬ a < b := by omega
  have h2 : ¬ a = b := by omega
  simp [compare, compareOfLessAndEq, h1, h2]
theorem cmp_eq {a b : Int} (h : a = b) : compare a b = .eq := by simp [compare, compareOfLessAndEq, h]
theorem order_key (x y : Nat) : DF.order x y = kcmp (key x) (key y) := by
  have big : (0 : Int) < ((2 ^ 2200 : Nat) : Int) := by have := pow_pos2 2200; omega
  unfold Format.order key
  cases hx : DF.read x with
  | nan s t => cases DF.read y <;> rfl
  | infinity s =>
    cases hy : DF.read y with
    | nan _ _ => rfl
    | infinity t =>
      simp only [Datum.order, kcmp]
      generalize ((2 ^ 2200 : Nat) : Int) = w at *
      cases s <;> cases t <;> simp only [Bool.false_eq_true, if_false, if_true]
      · rw [cmp_eq rfl]; rfl
      · rw [cmp_gt (by omega)]; rfl
      · rw [cmp_lt (by omega)]; rfl
      · rw [cmp_eq rfl]; rfl
    | number t n j =>
      obtain ⟨b1, b2, b3⟩ := read_bounds y hy
      obtain ⟨c1, c2⟩ := signed_lt (s := t) (a := (j + 1074).toNat) b3 (by omega)
      simp only [Datum.order, kcmp]
      generalize ((2 ^ 2200 : Nat) : Int) = w at *
      cases s <;> simp only [Bool.false_eq_true, if_false, if_true]
      · rw [cmp_gt c2]
      · rw [cmp_lt c1]
  | number s m i =>
    obtain ⟨b1, b2, b3⟩ := read_bounds x hx
    cases hy : DF.read y with
    | nan _ _ => rfl
    | infinity t =>
      obtain ⟨c1, c2⟩ := signed_lt (s := s) (a := (i + 1074).toNat) b3 (by omega)
      simp only [Datum.order, kcmp]
      generalize ((2 ^ 2200 : Nat) : Int) = w at *
      cases t <;> simp only [Bool.false_eq_true, if_false, if_true]
      · rw [cmp_lt c2]
      · rw [cmp_gt c1]
    | number t n j =>
      obtain ⟨d1, d2, d3⟩ := read_bounds y hy
      simp only [Datum.order, kcmp]
      have e1 : (i + 1074).toNat = (i - min i j).toNat + (min i j + 1074).toNat := by omega
      have e2 : (j + 1074).toNat = (j - min i j).toNat + (min i j + 1074).toNat := by omega
      rw [e1, e2, signed_scale, signed_scale, cmp_scale]
theorem key_pos {r : Nat} (h : Fin r) : key r = some (rV r : Int) := by
  unfold key
  rw [read_pos h]
  simp only [signed, Bool.false_eq_true, if_false, Nat.shiftLeft_eq]
  rw [rV_dig, show ((-1074 + (plc r : Int)) + 1074).toNat = plc r by omega]
theorem key_neg {r : Nat} (h : Fin r) : key (2 ^ 63 + r) = some (-(rV r : Int)) := by
  unfold key
  rw [read_neg h]
  simp only [signed, if_true, Nat.shiftLeft_eq]
  rw [rV_dig, show ((-1074 + (plc r : Int)) + 1074).toNat = plc r by omega]
end Go.Eng
namespace Go.Eng
set_option linter.unusedVariables false
set_option linter.unusedSimpArgs false
set_option linter.unnecessarySimpa false
open Ieee
set_option linter.unusedVariables false
set_option linter.unusedSimpArgs false
set_option exponentiation.threshold 4000
def w999 : Nat := 4652006429231887155
def w003 : Nat := 4584304132692975288
def geF (x y : Nat) : Bool := DF.order x y == some .gt || DF.order x y == some .eq
def leF (x y : Nat) : Bool := DF.order x y == some .lt || DF.order x y == some .eq
def ltF (x y : Nat) : Bool := DF.order x y == some .lt
def gtF (x y : Nat) : Bool := DF.order x y == some .gt
def eqF (x y : Nat) : Bool := DF.order x y == some .eq
def kle : Option Int → Option Int → Bool
  | some a, some b => decide (a ≤ b)
  | _, _ => false
def klt : Option Int → Option Int → Bool
  | some a, some b => decide (a < b)
  | _, _ => false
def keq : Option Int → Option Int → Bool
  | some a, some b => decide (a = b)
  | _, _ => false
theorem leF_key (x y : Nat) : leF x y = kle (key x) (key y) := by
  unfold leF
  rw [order_key]
  cases key x <;> cases key y <;> try rfl
  rename_i a b
  simp only [kcmp, kle]
  rcases Int.lt_trichotomy a b with h | h | h
  · rw [cmp_lt h]; simp; omega
  · rw [cmp_eq h]; simp; omega
  · rw [cmp_gt h]; simp; omega
theorem geF_key (x y : Nat) : geF x y = kle (key y) (key x) := by
  unfold geF
  rw [order_key]
  cases key x <;> cases key y <;> try rfl
  rename_i a b
  simp only [kcmp, kle]
  rcases Int.lt_trichotomy a b with h | h | h
  · rw [cmp_lt h]; simp; omega
  · rw [cmp_eq h]; simp; omega
  · rw [cmp_gt h]; simp; omega
theorem ltF_key (x y : Nat) : ltF x y = klt (key x) (key y) := by
  unfold ltF
  rw [order_key]
  cases key x <;> cases key y <;> try rfl
  rename_i a b
  simp only [kcmp, klt]
  rcases Int.lt_trichotomy a b with h | h | h
  · rw [cmp_lt h]; simp; omega
  · rw [cmp_eq h]; simp; omega
  · rw [cmp_gt h]; simp; omega
theorem gtF_key (x y : Nat) : gtF x y = klt (key y) (key x) := by
  unfold gtF
  rw [order_key]
  cases key x <;> cases key y <;> try rfl
  rename_i a b
  simp only [kcmp, klt]
  rcases Int.lt_trichotomy a b with h | h | h
  · rw [cmp_lt h]; simp; omega
  · rw [cmp_eq h]; simp; omega
  · rw [cmp_gt h]; simp; omega
theorem eqF_key (x y : Nat) : eqF x y = keq (key x) (key y) := by
  unfold eqF
  rw [order_key]
  cases key x <;> cases key y <;> try rfl
  rename_i a b
  simp only [kcmp, keq]
  rcases Int.lt_trichotomy a b with h | h | h
  · rw [cmp_lt h]; simp; omega
  · rw [cmp_eq h]; simp; omega
  · rw [cmp_gt h]; simp; omega
theorem fin_0 : Fin 0 := by unfold Fin; omega
theorem fin_999 : Fin w999 := by unfold Fin w999; omega
theorem fin_003 : Fin w003 := by unfold Fin w003; omega
theorem rV_0 : rV 0 = 0 := by simp [rV]
theorem key_0 : key 0 = some 0 := by rw [key_pos fin_0, rV_0]; rfl
theorem key_999 : key w999 = some (rV w999 : Int) := key_pos fin_999
theorem rV_eq_0 {r : Nat} (h : rV r = 0) : r = 0 := by
  unfold rV at h
  split at h
  · exact h
  · have := Nat.mul_pos (show 0 < 2 ^ 52 + r % 2 ^ 52 by omega) (pow_pos2 (r / 2 ^ 52 - 1))
    omega
theorem inR_word {s : Nat} (hs : s < 2 ^ 64) {a : Int} (hk : key s = some a) (h0 : 0 ≤ a) (h1 : a ≤ (rV w999 : Int)) : (Fin s ∧ a = (rV s : Int)) ∨ (s = 2 ^ 63 ∧ a = 0) := by
  have big : (rV w999 : Int) < ((2 ^ 2200 : Nat) : Int) := by
    have : rV w999 < 2 ^ 2200 := by decide +kernel
    omega
  by_cases hlt : s < 2 ^ 63
  · by_cases hf : Fin s
    · left
      rw [key_pos hf] at hk
      exact ⟨hf, (Option.some.inj hk).symm⟩
    · exfalso
      unfold Fin at hf
      unfold key Format.read at hk
      dsimp only at hk
      have e1 : s % DF.signWeight = s := by rw [df_sign]; omega
      have e2 : s / DF.signWeight % 2 = 0 := by rw [df_sign]; omega
      rw [e1, e2, df_binade, df_inf] at hk
      rw [if_neg (by omega), if_neg hf] at hk
      split at hk
      · cases hk
      · rename_i s' hh
        split at hh <;> try (cases hh; done)
        cases hh
        cases hk
        simp only [show ((0 : Nat) == 1) = false from rfl, Bool.false_eq_true, if_false] at h1
        omega
      · rename_i hh
        split at hh <;> cases hh
  · obtain ⟨r, rfl⟩ : ∃ r, s = 2 ^ 63 + r := ⟨s - 2 ^ 63, by omega⟩
    by_cases hf : Fin r
    · right
      rw [key_neg hf] at hk
      have := Option.some.inj hk
      have h3 : rV r = 0 := by omega
      have := rV_eq_0 h3
      subst this
      exact ⟨rfl, by omega⟩
    · exfalso
      unfold Fin at hf
      unfold key Format.read at hk
      dsimp only at hk
      have e1 : (2 ^ 63 + r) % DF.signWeight = r := by rw [df_sign]; omega
      have e2 : (2 ^ 63 + r) / DF.signWeight % 2 = 1 := by rw [df_sign]; omega
      rw [e1, e2, df_binade, df_inf] at hk
      rw [if_neg (by omega), if_neg hf] at hk
      split at hk
      · cases hk
      · rename_i s' hh
        split at hh <;> try (cases hh; done)
        cases hh
        cases hk
        simp only [show ((1 : Nat) == 1) = true from rfl, if_true] at h0
        have := pow_pos2 2200
        omega
      · rename_i hh
        split at hh <;> cases hh
def X10 (a : Nat) : Nat := Rg (10 * a * 2 ^ 1126)
def tkN (a : Nat) : Nat := rnd (rV (X10 a)) 1074
theorem X10_mono {a b : Nat} (h : a ≤ b) : X10 a ≤ X10 b := Rg_mono (Nat.mul_le_mul_right _ (Nat.mul_le_mul_left _ h))
theorem tkN_mono {a b : Nat} (h : a ≤ b) : tkN a ≤ tkN b := rnd_mono (rV_mono (X10_mono h)) _
theorem tkN_999 : tkN (rV w999) = 9999 := by decide +kernel
theorem X10_999 : X10 (rV w999) < 2047 * 2 ^ 52 := by decide +kernel
theorem X10_fin {a : Nat} (h : a ≤ rV w999) : Fin (X10 a) := by
  have h1 := X10_mono h
  have h2 := X10_999
  unfold Fin; omega
theorem tkN_le {a : Nat} (h : a ≤ rV w999) : tkN a ≤ 9999 := by rw [← tkN_999]; exact tkN_mono h
theorem tkN_0 : tkN 0 = 0 := by decide +kernel
def inR (s : Nat) : Bool := geF s 0 && leF s w999
def tk (s : Nat) : Nat := tkN ((key s).getD 0).toNat
theorem inR_iff {s : Nat} : inR s = true ↔ ∃ a : Nat, key s = some (a : Int) ∧ a ≤ rV w999 := by
  unfold inR
  rw [geF_key, leF_key, key_0, key_999]
  cases hk : key s with
  | none => simp [kle]
  | some a =>
    simp only [kle, Bool.and_eq_true, decide_eq_true_eq, Option.some.injEq]
    constructor
    · rintro ⟨h1, h2⟩; exact ⟨a.toNat, by omega, by omega⟩
    · rintro ⟨b, rfl, h⟩; omega
theorem tk_of {s a : Nat} (h : key s = some (a : Int)) : tk s = tkN a := by simp [tk, h]
theorem rte_is {x : Nat} (h : Fin x) : rteA x = some (.float .f64 (ofN (rnd (rV x) 1074))) := by
  have hr : FloatKind.f64.decode x = .number false (dig x) (-1074 + (plc x : Int)) := read_pos h
  unfold rteA
  rw [hr]
  dsimp only
  have := rte_pos h
  rw [read_pos h] at this
  exact congrArg (fun n => some (AV.float .f64 n)) this
theorem cvFI_is {x n : Nat} (h : (DF.read x).toInt .zero = some (n : Int)) (hn : n < 2 ^ 53) : cvFIA .i64 (.float .f64 x) = some (.int .i64 n) := by
  have h' : (FloatKind.f64.decode x).toInt .zero = some (n : Int) := h
  simp only [cvFIA, h']
  rw [if_pos]
  constructor
  · have : IntKind.i64.min = -(2 ^ 63) := by decide
    omega
  · have : IntKind.i64.max = 2 ^ 63 - 1 := by decide
    omega
theorem z_1 : DF.mul w10 (2 ^ 63) = some (2 ^ 63) := by decide +kernel
theorem z_4 : (DF.read (2 ^ 63)).toInt .zero = some ((0 : Nat) : Int) := by decide +kernel
theorem z_h1 : FloatKind.f64.decode (2 ^ 63) = .number true 0 (-1074) := by decide +kernel
theorem z_h2 : FloatKind.f64.encode ((Datum.number true 0 (-1074)).integral .even) = 2 ^ 63 := by decide +kernel
theorem z_3 : rteA (2 ^ 63) = some (.float .f64 (2 ^ 63)) := by
  unfold rteA
  rw [z_h1]
  show some (AV.float .f64 (FloatKind.f64.encode ((Datum.number true 0 (-1074)).integral .even))) = _
  rw [z_h2]
theorem ticks_run {s : Nat} (hs : s < 2 ^ 64) (h : inR s = true) : ∃ x y, DF.mul w10 s = some x ∧ rteA x = some (.float .f64 y) ∧ cvFIA .i64 (.float .f64 y) = some (.int .i64 (tk s)) := by
  obtain ⟨a, h1, h2⟩ := inR_iff.1 h
  have ht := tk_of h1
  rcases inR_word hs h1 (by omega) (by omega) with ⟨hf, ha⟩ | ⟨rfl, ha⟩
  · have ha : a = rV s := by omega
    subst ha
    have hX := X10_fin h2
    have hle := tkN_le h2
    refine ⟨X10 (rV s), ofN (rnd (rV (X10 (rV s))) 1074), (mul_10 hf).1, rte_is hX, ?_⟩
    rw [ht]
    exact cvFI_is (toInt_ofN (by unfold tkN at hle; omega)) (by omega)
  · have ha : a = 0 := by omega
    subst ha
    refine ⟨2 ^ 63, 2 ^ 63, z_1, z_3, ?_⟩
    rw [ht, tkN_0]
    exact cvFI_is z_4 (by omega)
theorem sub_le' {a b c d : Nat} (h : a ≤ b) (h' : d ≤ c) : a - c ≤ b - d := by omega
theorem le_scale {x y c : Nat} (h : x * 2 ^ c ≤ y * 2 ^ c) : x ≤ y := Nat.le_of_mul_le_mul_right h (pow_pos2 c)
theorem div_10 {k a : Nat} (hk : 1 ≤ k) (hk2 : k ≤ 9999) (h1 : 10 * a ≤ 1024 * k) (h2 : 1024 * k ≤ 10 * (a + 1)) : ∃ s, DF.div (ofN k) w10 = some s ∧ Fin s ∧ a * 2 ^ 1064 ≤ rV s ∧ rV s ≤ (a + 1) * 2 ^ 1064 := by
  obtain ⟨f1, f2⟩ := ofN_fin (n := k) (by omega)
  generalize ofN k = r at *
  have hd := dig_lt r
  rw [rV_dig] at f2
  -- the number is a normal one
  have hr52 : 2 ^ 52 ≤ r := by
    refine Nat.le_of_not_lt fun h => ?_
    have e1 : dig r = r := by unfold dig; rw [if_pos h]
    have e2 : plc r = 0 := by unfold plc; rw [if_pos h]
    rw [e1, e2, Nat.pow_zero, Nat.mul_one] at f2
    have : 1 * 2 ^ 1074 ≤ k * 2 ^ 1074 := Nat.mul_le_mul_right _ hk
    have : (2 : Nat) ^ 52 ≤ 2 ^ 1074 := Nat.pow_le_pow_right (by omega) (by omega)
    omega
  have hd52 : 2 ^ 52 ≤ dig r := by unfold dig; rw [if_neg (by omega)]; omega
  have hlog : (dig r).log2 = 52 := by
    have h0 : dig r ≠ 0 := by omega
    have a1 : (dig r).log2 < 53 := (Nat.log2_lt h0).2 hd
    have a2 : 52 ≤ (dig r).log2 := (Nat.le_log2 h0).2 hd52
    omega
  have hp : plc r ≤ 1036 := by
    refine Nat.le_of_not_lt fun h => ?_
    have b1 : 2 ^ 52 * 2 ^ 1037 ≤ dig r * 2 ^ plc r := Nat.mul_le_mul hd52 (Nat.pow_le_pow_right (by omega) h)
    rw [f2, ← Nat.pow_add] at b1
    have b2 : k * 2 ^ 1074 < 2 ^ 15 * 2 ^ 1074 := Nat.mul_lt_mul_of_pos_right (by omega) (pow_pos2 _)
    rw [← Nat.pow_add] at b2
    omega
  have hl10 : (5 * 2 ^ 50 : Nat).log2 = 52 := by decide
  have hmore : 54 + (5 * 2 ^ 50 : Nat).log2 - (dig r).log2 = 54 := by rw [hlog, hl10]
  have hdiv : DF.div r w10 = some (Rg ((2 * (dig r * 2 ^ 54 / (5 * 2 ^ 50)) + (dig r * 2 ^ 54 % (5 * 2 ^ 50) != 0).toNat) * 2 ^ (plc r + 1120))) := by
    unfold Format.div
    rw [read_10, read_pos f1]
    have hfb : DF.fractionBits + 2 = 54 := rfl
    rw [hfb]
    unfold Datum.quotient
    dsimp only
    rw [if_neg (by omega), hmore, Nat.shiftLeft_eq, Option.map_some]
    have : ((-1074 + (plc r : Int)) - -49 - (54 : Nat) - 1 + 2200).toNat = plc r + 1120 := by omega
    rw [show (false ^^ false) = false from rfl, write_pos _ _ (by omega), this]
  obtain ⟨n, hn⟩ : ∃ n : Nat, n = 5 * 2 ^ 50 := ⟨_, rfl⟩
  rw [← hn] at hdiv
  obtain ⟨D, hDD⟩ : ∃ D : Nat, D = dig r * 2 ^ 54 := ⟨_, rfl⟩
  rw [← hDD] at hdiv
  refine ⟨_, hdiv, ?_⟩
  -- the floor against a grid number
  have grid5 : ∀ z : Nat, (z * 2 ^ (1069 - plc r)) * n * 2 ^ plc r = 5 * z * 2 ^ 1119 := by
    intro z
    rw [hn]
    have : z * 2 ^ (1069 - plc r) * (5 * 2 ^ 50) * 2 ^ plc r = 5 * z * (2 ^ (1069 - plc r) * 2 ^ 50 * 2 ^ plc r) := by
      simp only [Nat.mul_assoc, Nat.mul_left_comm, Nat.mul_comm]
    rw [this, ← Nat.pow_add, ← Nat.pow_add]
    rw [show 1069 - plc r + 50 + plc r = 1119 by omega]
  have hD : D * 2 ^ plc r = 512 * k * 2 ^ 1119 := by
    rw [hDD]
    have : dig r * 2 ^ 54 * 2 ^ plc r = dig r * 2 ^ plc r * 2 ^ 54 := by simp only [Nat.mul_assoc, Nat.mul_left_comm, Nat.mul_comm]
    rw [this, f2, Nat.mul_assoc, ← Nat.pow_add, show 1074 + 54 = 9 + 1119 by omega, Nat.pow_add, ← Nat.mul_assoc, Nat.mul_comm k]
  have hn0 : 0 < n := by omega
  have lo : ∀ z, 5 * z ≤ 512 * k → z * 2 ^ (1069 - plc r) ≤ D / n := by
    intro z hz
    rw [Nat.le_div_iff_mul_le hn0]
    refine le_scale (c := plc r) ?_
    rw [grid5, hD]; exact Nat.mul_le_mul_right _ hz
  have hi : ∀ z, 512 * k ≤ 5 * z → 2 * (D / n) + (D % n != 0).toNat ≤ 2 * (z * 2 ^ (1069 - plc r)) := by
    intro z hz
    have hle : D ≤ z * 2 ^ (1069 - plc r) * n := by
      refine le_scale (c := plc r) ?_
      rw [grid5, hD]; exact Nat.mul_le_mul_right _ hz
    generalize z * 2 ^ (1069 - plc r) = Z at *
    have hdm := Nat.div_add_mod D n
    have h3 : D / n ≤ Z := by
      rw [← Nat.mul_div_cancel Z hn0]; exact Nat.div_le_div_right hle
    by_cases h0 : D % n = 0
    · simp [h0]; omega
    · have h4 : D / n < Z := by
        refine Nat.lt_of_le_of_ne h3 fun e => ?_
        rw [e, Nat.mul_comm] at hdm
        omega
      have h5 : (D % n != 0).toNat = 1 := by simp [h0]
      omega
  have sc : ∀ z : Nat, z * 2 ^ 1064 * 2 ^ 1126 = 2 * (z * 2 ^ (1069 - plc r)) * 2 ^ (plc r + 1120) := by
    intro z
    have : 2 * (z * 2 ^ (1069 - plc r)) * 2 ^ (plc r + 1120) = z * (2 ^ 1 * 2 ^ (1069 - plc r) * 2 ^ (plc r + 1120)) := by
      simp only [Nat.mul_assoc, Nat.mul_left_comm, Nat.mul_comm, Nat.pow_one]
    rw [this, ← Nat.pow_add, ← Nat.pow_add, Nat.mul_assoc, ← Nat.pow_add]
    rw [show 1 + (1069 - plc r) + (plc r + 1120) = 1064 + 1126 by omega]
  have hlo : a * 2 ^ 1064 * 2 ^ 1126 ≤ (2 * (D / n) + (D % n != 0).toNat) * 2 ^ (plc r + 1120) := by
    rw [sc]
    have := lo a (by omega)
    exact Nat.mul_le_mul_right _ (by omega)
  have hhi : (2 * (D / n) + (D % n != 0).toNat) * 2 ^ (plc r + 1120) ≤ (a + 1) * 2 ^ 1064 * 2 ^ 1126 := by
    rw [sc]
    exact Nat.mul_le_mul_right _ (hi (a + 1) (by omega))
  have hb : a + 1 < 2 ^ 53 := by omega
  exact Rg_grid hlo hhi hb
theorem rnd_grid {c k : Nat} (h1 : 1024 * k < c + 512) (h2 : c < 1024 * k + 512) : rnd c 10 = k := by
  unfold rnd; split <;> omega
theorem rnd_1064 (c : Nat) : rnd (c * 2 ^ 1064) 1074 = rnd c 10 := rnd_scale c 10 1064
theorem tk_grid {v a b k : Nat} (h1 : a * 2 ^ 1064 ≤ v) (h2 : v ≤ b * 2 ^ 1064) (hb : b < 2 ^ 40) (h3 : 1024 * k < 10 * a + 512) (h4 : 10 * b < 1024 * k + 512) : tkN v = k := by
  have e : ∀ z : Nat, 10 * (z * 2 ^ 1064) = 10 * z * 2 ^ 1064 := fun z => by rw [Nat.mul_assoc]
  have hx := Rg_grid (N := 10 * v * 2 ^ 1126) (a := 10 * a) (b := 10 * b) (by rw [← e]; exact Nat.mul_le_mul_right _ (Nat.mul_le_mul_left _ h1)) (by rw [← e]; exact Nat.mul_le_mul_right _ (Nat.mul_le_mul_left _ h2)) (by omega)
  obtain ⟨_, g1, g2⟩ := hx
  have m1 := rnd_mono g1 1074
  have m2 := rnd_mono g2 1074
  rw [rnd_1064] at m1 m2
  have hab : a ≤ b := le_scale (Nat.le_trans h1 h2)
  have r1 := rnd_grid (c := 10 * a) (k := k) (by omega) (by omega)
  have r2 := rnd_grid (c := 10 * b) (k := k) (by omega) (by omega)
  have : tkN v = rnd (rV (Rg (10 * v * 2 ^ 1126))) 1074 := rfl
  omega
theorem g003_lo : 30 * 2 ^ 1064 ≤ rV w003 := by decide +kernel
theorem g003_hi : rV w003 ≤ 31 * 2 ^ 1064 := by decide +kernel
theorem g999 : 1023897 * 2 ^ 1064 ≤ rV w999 := by decide +kernel
theorem div_9999 : DF.div (ofN 9999) w10 = some w999 := by decide +kernel
theorem div_0 : DF.div (ofN 0) w10 = some 0 := by decide +kernel
theorem tkN_003 : tkN (rV w003) = 0 := by decide +kernel
def near (off k : Nat) : Prop := ltF off 0 = false → gtF off w999 = false → inR off = true ∧ tk off = k
theorem near_of {v : Nat} {k : Nat} (hf : Fin v) (ht : tkN (rV v) = k) : near v k := by
  intro h1 h2
  rw [gtF_key, key_pos hf, key_999] at h2
  simp only [klt, decide_eq_false_iff_not] at h2
  exact ⟨inR_iff.2 ⟨rV v, key_pos hf, by omega⟩, by rw [tk_of (key_pos hf)]; exact ht⟩
theorem back {k : Nat} (hk : k ≤ 9999) : ∃ s u d, DF.div (ofN k) w10 = some s ∧ DF.add s w003 = some u ∧ DF.sub s w003 = some d ∧ s < 2 ^ 64 ∧ u < 2 ^ 64 ∧ inR s = true ∧ tk s = k ∧ near u k ∧ near d k ∧ d < 2 ^ 64 := by
  by_cases h0 : k = 0
  · subst h0
    have hd : DF.sub 0 w003 = some (2 ^ 63 + w003) := by decide +kernel
    have hu : DF.add 0 w003 = some w003 := by decide +kernel
    refine ⟨0, w003, 2 ^ 63 + w003, div_0, hu, hd, by omega, by unfold w003; omega, inR_iff.2 ⟨0, key_0, by omega⟩, by rw [tk_of (a := 0) key_0]; exact tkN_0, near_of fin_003 tkN_003, ?_, by unfold w003; omega⟩
    intro h1
    rw [ltF_key, key_neg fin_003, key_0] at h1
    simp only [klt, decide_eq_false_iff_not] at h1
    have : 0 < rV w003 := by decide +kernel
    omega
  · obtain ⟨s, h1, h2, h3, h4⟩ := div_10 (k := k) (a := 1024 * k / 10) (by omega) hk (by omega) (by omega)
    generalize ha : 1024 * k / 10 = a at *
    have ha1 : 10 * a ≤ 1024 * k := by omega
    have ha2 : 1024 * k ≤ 10 * a + 9 := by omega
    have hs999 : rV s ≤ rV w999 := by
      by_cases h9 : k = 9999
      · subst h9
        rw [div_9999] at h1
        cases h1
        exact Nat.le_refl _
      · refine Nat.le_trans h4 (Nat.le_trans (Nat.mul_le_mul_right _ (by omega)) g999)
    have hts : tkN (rV s) = k := tk_grid h3 h4 (by omega) (by omega) (by omega)
    have hsub : rV w003 ≤ rV s := Nat.le_trans g003_hi (Nat.le_trans (Nat.mul_le_mul_right _ (by omega)) h3)
    have hU := Rg_grid (N := (rV s + rV w003) * 2 ^ 1126) (a := a + 30) (b := a + 1 + 31) (Nat.mul_le_mul_right _ (by rw [Nat.add_mul]; exact Nat.add_le_add h3 g003_lo)) (Nat.mul_le_mul_right _ (by rw [Nat.add_mul (a + 1)]; exact Nat.add_le_add h4 g003_hi)) (by omega)
    have hD := Rg_grid (N := (rV s - rV w003) * 2 ^ 1126) (a := a - 31) (b := a + 1 - 30) (Nat.mul_le_mul_right _ (by rw [Nat.sub_mul]; exact sub_le' h3 g003_hi)) (Nat.mul_le_mul_right _ (by rw [Nat.sub_mul]; exact sub_le' h4 g003_lo)) (by omega)
    refine ⟨s, _, _, h1, add_pos h2 fin_003, sub_pos h2 fin_003 hsub, ?_, ?_, inR_iff.2 ⟨rV s, key_pos h2, hs999⟩, by rw [tk_of (key_pos h2)]; exact hts, ?_, ?_, ?_⟩
    · unfold Fin at h2; omega
    · have := hU.1; unfold Fin at this; omega
    · exact near_of hU.1 (tk_grid hU.2.1 hU.2.2 (by omega) (by omega) (by omega))
    · exact near_of hD.1 (tk_grid hD.2.1 hD.2.2 (by omega) (by omega) (by omega))
    · have := hD.1; unfold Fin at this; omega
end Go.Eng
namespace Go.Eng
set_option linter.unusedVariables false
set_option linter.unusedSimpArgs false
set_option linter.unnecessarySimpa false
open Go
set_option linter.unusedVariables false
set_option linter.unusedSimpArgs false
set_option maxRecDepth 10000
set_option maxHeartbeats 4000000
abbrev Fl (x : Nat) : AV := .float .f64 x
theorem f_geq (x y : Nat) : binA .geq (.float .f64 x) (.float .f64 y) = some (.bool (geF x y)) := rfl
theorem f_leq (x y : Nat) : binA .leq (.float .f64 x) (.float .f64 y) = some (.bool (leF x y)) := rfl
theorem f_gtr (x y : Nat) : binA .gtr (.float .f64 x) (.float .f64 y) = some (.bool (gtF x y)) := rfl
theorem f_lss (x y : Nat) : binA .lss (.float .f64 x) (.float .f64 y) = some (.bool (ltF x y)) := rfl
theorem f_eql (x y : Nat) : binA .eql (.float .f64 x) (.float .f64 y) = some (.bool (eqF x y)) := rfl
theorem f_neq (x y : Nat) : binA .neq (.float .f64 x) (.float .f64 y) = some (.bool (!eqF x y)) := rfl
theorem f_mul (x y : Nat) : binA .mul (.float .f64 x) (.float .f64 y) = arF .f64 (DF.mul x y) := rfl
theorem f_sub (x y : Nat) : binA .sub (.float .f64 x) (.float .f64 y) = arF .f64 (DF.sub x y) := rfl
theorem f_add (x y : Nat) : binA .add (.float .f64 x) (.float .f64 y) = arF .f64 (DF.add x y) := rfl
theorem f_quo (x y : Nat) : binA .quo (.float .f64 x) (.float .f64 y) = arF .f64 (DF.div x y) := rfl
theorem f_neg (x : Nat) : unA .neg (.float .f64 x) = some (.float .f64 (Op.negFloat .f64 x)) := rfl
set_option linter.defProp false
theorem ar_some (r : Nat) : arF .f64 (some r) = some (.float .f64 r) := rfl
theorem n_l (op : BinOp) (y : Nat) : binA op .fnan (.float .f64 y) = nanO op := by cases op <;> rfl
theorem n_r (op : BinOp) (y : Nat) : binA op (.float .f64 y) .fnan = nanO op := by cases op <;> rfl
theorem n_b (op : BinOp) : binA op .fnan .fnan = nanO op := by cases op <;> rfl
theorem n_neq : nanO .neq = some (.bool true) := rfl
theorem n_eql : nanO .eql = some (.bool false) := rfl
theorem n_sub : nanO .sub = some .fnan := rfl
theorem n_leq : nanO .leq = some (.bool false) := rfl
theorem n_lss : nanO .lss = some (.bool false) := rfl
theorem n_geq : nanO .geq = some (.bool false) := rfl
theorem n_gtr : nanO .gtr = some (.bool false) := rfl
def NAN := And.intro @n_l (And.intro @n_r (And.intro @n_b (And.intro n_neq (And.intro n_eql (And.intro n_sub (And.intro n_leq (And.intro n_lss (And.intro n_geq n_gtr))))))))
def FLW := And.intro @ar_some (And.intro @f_geq (And.intro @f_leq (And.intro @f_gtr (And.intro @f_lss (And.intro @f_eql (And.intro @f_neq (And.intro @f_mul (And.intro @f_sub (And.intro @f_add (And.intro @f_quo @f_neg))))))))))
def nanF (x : Nat) : Bool := !eqF x x
theorem nanF_key (x : Nat) : nanF x = (key x).isNone := by
  unfold nanF
  rw [eqF_key]
  cases key x <;> simp [keq]
def secW (k : Nat) : Nat := (DF.div (ofN k) w10).getD 0
def alikeF (x y : Nat) : Bool := ((x : Int) == (y : Int)) || nanF x && nanF y
def cut9 (n : Int) : Nat := (cutI n 0 9999).toNat
theorem cut9_le (n : Int) : cut9 n ≤ 9999 := by unfold cut9 cutI; split <;> (try split) <;> omega
theorem cut9_is (n : Int) : cutI n 0 9999 = (cut9 n : Int) := by unfold cut9 cutI; split <;> (try split) <;> omega
def tkAV (s : Nat) : AV := .tup [I (if inR s then (tk s : Int) else 0), B (inR s)]
def sTicks.Spec (C : Con) (f : Nat) : Prop := ∀ s : Nat, s < 2 ^ 64 → C.c f [Fl s] (tkAV s) none
def sOf.Spec (C : Con) (f : Nat) : Prop := ∀ n : Int, C.c f [I n] (Fl (secW (cut9 n))) none
def rNan.Spec (C : Con) (f : Nat) : Prop := ∀ s : Nat, C.c f [Fl s] (B (nanF s)) none
def rAlike.Spec (C : Con) (f : Nat) : Prop := ∀ x y : Nat, C.c f [Fl x, Fl y] (B (alikeF x y)) none
def awake02.Spec (C : Con) (f : Nat) : Prop := C.c f [] (B true) none
theorem div_some (k : Nat) (hk : k ≤ 9999) : DF.div (ofN k) w10 = some (secW k) := by
  obtain ⟨s, u, d, h, _⟩ := back hk
  unfold secW; rw [h]; rfl
section
variable {P : Program} (hm : P.follows .mixedOrders = true) {f : Nat}
include hm
theorem rNan.ok (hc : cFn P f = some cc_ref01_Nan) : rNan.Spec (Pure P) f := by
  intro s
  refine pure_of hm hc (by show 1 ≤ 6; decide) (aw_flat (keep := []) (i := 0) ?_)
  try simp only [I, B, D, RX, ↓ KW, seval, cc_ref01_Nan, Z.H, FLW]
  rfl
theorem rAlike.ok {fN : Nat} (hc : cFn P f = some (cc_ref01_Alike fN)) (hN : rNan.Spec (Pure P) fN) : rAlike.Spec (Pure P) f := by
  intro x y
  refine pure_of hm hc (by show 2 ≤ 18; decide) (aw_flat (keep := []) (i := 0) ?_)
  try simp only [I, B, D, RX, ↓ KW, seval, cc_ref01_Alike, Z.H, FLW]
  repeat' (first | (refine call_is (hN _) ?_; try simp only [I, B, D, RX, ↓ KW, seval, FLW]) | (((first | refine gd_split ?_ ?_ | refine cd_split ?_ ?_ | refine pk_split ?_ ?_) <;> intro h) <;> try simp only [I, B, D, RX, ↓ KW, seval, FLW, h]))
  all_goals simp_all [alikeF, B]
theorem sTicks.ok (hc : cFn P f = some cc_secs_Ticks) : sTicks.Spec (Pure P) f := by
  intro s hs
  have h1 : inR s = (geF s 0 && leF s 4652006429231887155) := rfl
  obtain ⟨b1, hb1⟩ : ∃ b, geF s 0 = b := ⟨_, rfl⟩
  obtain ⟨b2, hb2⟩ : ∃ b, leF s 4652006429231887155 = b := ⟨_, rfl⟩
  rw [hb1, hb2] at h1
  have hrun := fun h => ticks_run (s := s) hs h
  clear hs
  refine pure_of hm hc (by show 1 ≤ 15; decide) (aw_flat (keep := []) (i := 0) ?_)
  try simp only [I, B, D, RX, ↓ KW, seval, cc_secs_Ticks, Z.H, FLW]
  cases b1 <;> cases b2
  · try simp only [I, B, D, RX, ↓ KW, seval, FLW, hb1, hb2]
    rw [tkAV, h1]; rfl
  · try simp only [I, B, D, RX, ↓ KW, seval, FLW, hb1, hb2]
    rw [tkAV, h1]; rfl
  · try simp only [I, B, D, RX, ↓ KW, seval, FLW, hb1, hb2]
    rw [tkAV, h1]; rfl
  · obtain ⟨x, y, e1, e2, e3⟩ := hrun h1
    have e1' : DF.mul 4621819117588971520 s = some x := e1
    try simp only [I, B, D, RX, ↓ KW, seval, FLW, hb1, hb2, e1', e2, e3]
    rw [tkAV, h1]; rfl
theorem sOf.ok (hc : cFn P f = some cc_secs_Of) : sOf.Spec (Pure P) f := by
  intro n
  have h : DF.div (ofN (cut9 n)) 4621819117588971520 = some (secW (cut9 n)) := div_some (cut9 n) (cut9_le n)
  have h1 : (if 9999 < (if 0 > n then 0 else n) then 9999 else (if 0 > n then 0 else n)) = (cut9 n : Int) := by
    rw [← cut9_is]; unfold cutI; split <;> split <;> (try split) <;> omega
  have h2 := nearest_ofN (cut9 n)
  refine pure_of hm hc (by show 1 ≤ 8; decide) (aw_flat (keep := []) (i := 0) ?_)
  try simp only [I, B, D, RX, ↓ KW, seval, cc_secs_Of, Z.H, FLW]
  rw [h1]
  try simp only [I, B, D, RX, ↓ KW, seval, FLW, h2, h]
theorem awake02.ok {fT fO : Nat} (hc : cFn P f = some (cc_law02_awake fT fO)) (hT : sTicks.Spec (Pure P) fT) (hO : sOf.Spec (Pure P) fO) : awake02.Spec (Pure P) f := by
  have h1 : tkAV 4598175219545276416 = .tup [I 2, B true] := by
    have a1 : inR 4598175219545276416 = true := by decide +kernel
    have a2 : tk 4598175219545276416 = 2 := by decide +kernel
    unfold tkAV; rw [a1, a2]; rfl
  have h2 : eqF (secW (cut9 5)) 4602678819172646912 = true := by decide +kernel
  have hT' := hT 4598175219545276416 (by omega)
  rw [h1] at hT'
  refine pure_of hm hc (by show 0 ≤ 16; decide) (aw_flat (keep := []) (i := 0) ?_)
  try simp only [I, B, D, RX, ↓ KW, seval, cc_law02_awake, Z.H, FLW]
  refine call_is hT' ?_
  try simp only [I, B, D, RX, ↓ KW, seval, FLW]
  refine call_is (hO 5) ?_
  try simp only [I, B, D, RX, ↓ KW, seval, FLW, h2]
end
end Go.Eng
namespace Go.Eng
set_option linter.unusedVariables false
set_option linter.unusedSimpArgs false
set_option linter.unnecessarySimpa false
open Go
set_option linter.unusedVariables false
set_option linter.unusedSimpArgs false
set_option maxRecDepth 10000
set_option maxHeartbeats 4000000
open Ieee
set_option exponentiation.threshold 4000
theorem rV_succ (r : Nat) : rV r < rV (r + 1) := by
  unfold rV
  have hm := Nat.mod_lt r (pow_pos2 52)
  have hd := Nat.div_add_mod r (2 ^ 52)
  have hm' := Nat.mod_lt (r + 1) (pow_pos2 52)
  have hd' := Nat.div_add_mod (r + 1) (2 ^ 52)
  have hp := pow_pos2 52
  by_cases h1 : r + 1 < 2 ^ 52
  · rw [if_pos (by omega), if_pos h1]; omega
  · by_cases h0 : r < 2 ^ 52
    · rw [if_pos h0, if_neg h1]
      have e : r + 1 = 2 ^ 52 := by omega
      rw [e, Nat.mod_self, Nat.div_self hp]; simp; omega
    · rw [if_neg h0, if_neg h1]
      have hq : 1 ≤ r / 2 ^ 52 := (Nat.one_le_div_iff hp).2 (by omega)
      by_cases hc : r % 2 ^ 52 + 1 < 2 ^ 52
      · have e1 : (r + 1) % 2 ^ 52 = r % 2 ^ 52 + 1 := by
          rw [Nat.add_mod, Nat.mod_eq_of_lt (a := 1) (by decide), Nat.mod_eq_of_lt hc]
        have e2 : (r + 1) / 2 ^ 52 = r / 2 ^ 52 := by
          have := Nat.div_add_mod (r + 1) (2 ^ 52)
          rw [e1] at this
          have h3 : 2 ^ 52 * ((r + 1) / 2 ^ 52) = 2 ^ 52 * (r / 2 ^ 52) := by omega
          exact Nat.eq_of_mul_eq_mul_left hp h3
        rw [e1, e2]
        exact Nat.mul_lt_mul_of_pos_right (by omega) (pow_pos2 _)
      · have e0 : r % 2 ^ 52 = 2 ^ 52 - 1 := by omega
        have e3 : r + 1 = 2 ^ 52 * (r / 2 ^ 52 + 1) := by rw [Nat.mul_add]; omega
        have e1 : (r + 1) % 2 ^ 52 = 0 := by rw [e3, Nat.mul_mod_right]
        have e2 : (r + 1) / 2 ^ 52 = r / 2 ^ 52 + 1 := by rw [e3, Nat.mul_div_cancel_left _ hp]
        rw [e1, e2, e0]
        obtain ⟨q, hq⟩ : ∃ q, r / 2 ^ 52 = q + 1 := ⟨r / 2 ^ 52 - 1, by omega⟩
        rw [hq]
        have h4 : (2 ^ 52 + 0) * 2 ^ (q + 1 + 1 - 1) = (2 ^ 52 + 2 ^ 52) * 2 ^ (q + 1 - 1) := by
          rw [show q + 1 + 1 - 1 = q + 1 by omega, show q + 1 - 1 = q by omega, Nat.add_zero, ← Nat.mul_two, Nat.mul_assoc, Nat.mul_comm 2, ← Nat.pow_succ]
        rw [h4]
        exact Nat.mul_lt_mul_of_pos_right (by omega) (pow_pos2 _)
theorem rV_lt {a b : Nat} (h : a < b) : rV a < rV b := Nat.lt_of_lt_of_le (rV_succ a) (rV_mono h)
theorem rV_inj {a b : Nat} (h : rV a = rV b) : a = b := by
  rcases Nat.lt_trichotomy a b with h1 | h1 | h1
  · have := rV_lt h1; omega
  · exact h1
  · have := rV_lt h1; omega
def wInf : Nat := 2047 * 2 ^ 52
theorem rV_big {r : Nat} (h : Fin r) : rV r < 2 ^ 2200 := by
  have h1 : rV r < rV wInf := rV_lt (by unfold Fin at h; unfold wInf; exact h)
  have h2 : rV wInf < 2 ^ 2200 := by decide +kernel
  exact Nat.lt_trans h1 h2
theorem key_cases {x : Nat} (hx : x < 2 ^ 64) {a : Int} (hk : key x = some a) :
    (Fin x ∧ a = (rV x : Int)) ∨ (x = wInf ∧ a = ((2 ^ 2200 : Nat) : Int)) ∨ (∃ r, x = 2 ^ 63 + r ∧ Fin r ∧ a = -(rV r : Int)) ∨ (x = 2 ^ 63 + wInf ∧ a = -((2 ^ 2200 : Nat) : Int)) := by
  by_cases h63 : x < 2 ^ 63
  · by_cases hf : Fin x
    · rw [key_pos hf] at hk; exact .inl ⟨hf, (Option.some.inj hk).symm⟩
    · unfold Fin at hf
      unfold key Format.read at hk
      dsimp only at hk
      have e1 : x % DF.signWeight = x := by rw [df_sign]; omega
      have e2 : x / DF.signWeight % 2 = 0 := by rw [df_sign]; omega
      rw [e1, e2, df_binade, df_inf] at hk
      rw [if_neg (by omega), if_neg hf] at hk
      split at hk
      · cases hk
      · rename_i s' hh
        split at hh
        · rename_i he
          cases hh
          cases hk
          exact .inr (.inl ⟨he, by rw [if_neg (by decide)]⟩)
        · cases hh
      · rename_i hh
        split at hh <;> cases hh
  · obtain ⟨r, rfl⟩ : ∃ r, x = 2 ^ 63 + r := ⟨x - 2 ^ 63, by omega⟩
    by_cases hf : Fin r
    · rw [key_neg hf] at hk; exact .inr (.inr (.inl ⟨r, rfl, hf, (Option.some.inj hk).symm⟩))
    · unfold Fin at hf
      unfold key Format.read at hk
      dsimp only at hk
      have e1 : (2 ^ 63 + r) % DF.signWeight = r := by rw [df_sign]; omega
      have e2 : (2 ^ 63 + r) / DF.signWeight % 2 = 1 := by rw [df_sign]; omega
      rw [e1, e2, df_binade, df_inf] at hk
      rw [if_neg (by omega), if_neg hf] at hk
      split at hk
      · cases hk
      · rename_i s' hh
        split at hh
        · rename_i he
          cases hh
          cases hk
          exact .inr (.inr (.inr ⟨by rw [he]; rfl, by rw [if_pos (by decide)]⟩))
        · cases hh
      · rename_i hh
        split at hh <;> cases hh
theorem key_inj {x y : Nat} (hx : x < 2 ^ 64) (hy : y < 2 ^ 64) {a : Int} (h1 : key x = some a) (h2 : key y = some a) : x = y ∨ (x = 0 ∧ y = 2 ^ 63) ∨ (x = 2 ^ 63 ∧ y = 0) := by
  have p := pow_pos2 2200
  have z : ∀ r : Nat, rV r = 0 → r = 0 := fun r h => rV_eq_0 h
  rcases key_cases hx h1 with ⟨f1, e1⟩ | ⟨f1, e1⟩ | ⟨r, f1, g1, e1⟩ | ⟨f1, e1⟩ <;> rcases key_cases hy h2 with ⟨f2, e2⟩ | ⟨f2, e2⟩ | ⟨s, f2, g2, e2⟩ | ⟨f2, e2⟩
  · left; exact rV_inj (by omega)
  · exfalso; have := rV_big f1; generalize 2 ^ 2200 = w at *; omega
  · have q1 := z x (by omega); have q2 := z s (by omega); right; left; exact ⟨q1, by omega⟩
  · exfalso; generalize 2 ^ 2200 = w at *; omega
  · exfalso; have := rV_big f2; generalize 2 ^ 2200 = w at *; omega
  · left; omega
  · exfalso; generalize 2 ^ 2200 = w at *; omega
  · exfalso; generalize 2 ^ 2200 = w at *; omega
  · have q1 := z r (by omega); have q2 := z y (by omega); right; right; exact ⟨by omega, q2⟩
  · exfalso; generalize 2 ^ 2200 = w at *; omega
  · have := rV_inj (a := r) (b := s) (by omega); left; omega
  · exfalso; have := rV_big g1; generalize 2 ^ 2200 = w at *; omega
  · exfalso; generalize 2 ^ 2200 = w at *; omega
  · exfalso; generalize 2 ^ 2200 = w at *; omega
  · exfalso; have := rV_big g2; generalize 2 ^ 2200 = w at *; omega
  · left; omega
theorem neg_word {x : Nat} (hx : x < 2 ^ 64) (hk : (key x).isSome = true) : (FloatKind.f64.decode x).neg = decide (2 ^ 63 ≤ x) := by
  have e : FloatKind.f64.decode x = DF.read x := rfl
  rw [e]
  have e2 : (x / DF.signWeight % 2 == 1) = decide (2 ^ 63 ≤ x) := by
    rw [df_sign]
    by_cases h : 2 ^ 63 ≤ x
    · rw [show x / 2 ^ 63 % 2 = 1 by omega]; simp [h]
    · rw [show x / 2 ^ 63 % 2 = 0 by omega]; simp [h]
  rw [← e2]
  unfold Format.read
  dsimp only
  split
  · rfl
  · split
    · rfl
    · split <;> rfl
theorem nanB_key (x : Nat) : nanB x = (key x).isNone := by
  unfold nanB key
  rw [show FloatKind.f64.decode x = DF.read x from rfl]
  cases DF.read x <;> rfl
def rk (x : Nat) : Int := if x < 2 ^ 63 then (x : Int) else -((x : Int) - (2 ^ 63 : Nat)) - 1
theorem rk_inj {x y : Nat} (h : rk x = rk y) : x = y := by
  unfold rk at h
  split at h <;> split at h <;> omega
theorem rk_lt {x y : Nat} (hx : x < 2 ^ 64) (hy : y < 2 ^ 64) {a b : Int} (h1 : key x = some a) (h2 : key y = some b) (hl : a < b) : rk x < rk y := by
  have p := pow_pos2 2200
  have c : ∀ r s : Nat, rV r < rV s → r < s := fun r s h => by
    rcases Nat.lt_or_ge r s with h1 | h1
    · exact h1
    · have := rV_mono h1; omega
  have wi : wInf = 9218868437227405312 := rfl
  have fin : ∀ r, Fin r → r < 9218868437227405312 := fun r h => h
  unfold rk
  rcases key_cases hx h1 with ⟨f1, e1⟩ | ⟨f1, e1⟩ | ⟨r, f1, g1, e1⟩ | ⟨f1, e1⟩ <;> rcases key_cases hy h2 with ⟨f2, e2⟩ | ⟨f2, e2⟩ | ⟨s, f2, g2, e2⟩ | ⟨f2, e2⟩
  · have := c x y (by omega); have := fin _ f1; have := fin _ f2; rw [if_pos (by omega), if_pos (by omega)]; omega
  · have := fin _ f1; rw [if_pos (by omega), if_pos (by omega)]; omega
  · exfalso; omega
  · exfalso; omega
  · exfalso; have := rV_big f2; generalize 2 ^ 2200 = w at *; omega
  · exfalso; omega
  · exfalso; omega
  · exfalso; omega
  · have := fin _ g1; have := fin _ f2; rw [if_neg (by omega), if_pos (by omega)]; omega
  · have := fin _ g1; rw [if_neg (by omega), if_pos (by omega)]; omega
  · have := c s r (by omega); have := fin _ g1; have := fin _ g2; rw [if_neg (by omega), if_neg (by omega)]; omega
  · exfalso; have := rV_big g1; generalize 2 ^ 2200 = w at *; omega
  · have := fin _ f2; rw [if_neg (by omega), if_pos (by omega)]; omega
  · rw [if_neg (by omega), if_pos (by omega)]; omega
  · have := fin _ g2; rw [if_neg (by omega), if_neg (by omega)]; omega
  · exfalso; omega
def Wd (x : Nat) : Prop := x < 2 ^ 64 ∧ ∃ a, key x = some a
def lgN (x y : Nat) : Nat := if rk x < rk y then y else x
theorem lg_wd {x y : Nat} (hx : Wd x) (hy : Wd y) : Wd (lgN x y) := by unfold lgN; split <;> assumption
theorem lg_comm (x y : Nat) : lgN x y = lgN y x := by
  unfold lgN
  split <;> split <;> first | rfl | (apply rk_inj; omega) | omega
theorem lg_assoc (x y z : Nat) : lgN (lgN x y) z = lgN x (lgN y z) := by
  unfold lgN
  repeat' split
  all_goals first | rfl | (exfalso; omega) | (apply rk_inj; omega)
theorem lg_ge {x y : Nat} (hx : Wd x) (hy : Wd y) : geF (lgN x y) x = true := by
  obtain ⟨hx, a, h1⟩ := hx
  obtain ⟨hy, b, h2⟩ := hy
  rw [geF_key]
  unfold lgN
  split
  · rw [h1, h2]
    simp only [kle, decide_eq_true_eq]
    rcases Int.lt_or_le b a with h | h
    · have := rk_lt hy hx h2 h1 h; omega
    · exact h
  · rw [h1]; simp [kle]
theorem lg_ge' {x y : Nat} (hx : Wd x) (hy : Wd y) : geF (lgN x y) y = true := by rw [lg_comm]; exact lg_ge hy hx
theorem mm_lg {x y : Nat} (hx : Wd x) (hy : Wd y) : mmA true (Fl x) (Fl y) = some (Fl (lgN x y)) := by
  obtain ⟨hx, a, h1⟩ := hx
  obtain ⟨hy, b, h2⟩ := hy
  have ho : FloatKind.f64.format.order x y = some (compare a b) := by
    show DF.order x y = _
    rw [order_key, h1, h2]; rfl
  simp only [mmA, if_true, ho]
  rcases Int.lt_trichotomy a b with h | h | h
  · rw [cmp_lt h]
    have := rk_lt hx hy h1 h2 h
    simp [lgN, this]
  · subst h
    rw [cmp_eq rfl]
    have hn := neg_word hx (by rw [h1]; rfl)
    simp only [hn]
    rcases key_inj hx hy h1 h2 with h | ⟨h, h'⟩ | ⟨h, h'⟩
    · subst h; simp [lgN]
    · subst h h'; rfl
    · subst h h'; rfl
  · rw [cmp_gt h]
    have := rk_lt hy hx h2 h1 h
    simp only [lgN]; rw [if_neg (by omega)]
def fv : Option Nat → AV
  | none => .fnan
  | some n => Fl n
theorem a_fnan : argSV .fnan = .dat .fnan none := rfl
theorem a_fv (x : Option Nat) : argSV (fv x) = .dat (fv x) none := by cases x <;> rfl
def Vd : Option Nat → Prop
  | none => True
  | some n => Wd n
def lgO : Option Nat → Option Nat → Option Nat
  | some x, some y => some (lgN x y)
  | _, _ => none
theorem lgO_vd {x y : Option Nat} (hx : Vd x) (hy : Vd y) : Vd (lgO x y) := by
  cases x <;> cases y <;> first | trivial | exact lg_wd hx hy
theorem lgO_comm (x y : Option Nat) : lgO x y = lgO y x := by
  cases x <;> cases y <;> first | rfl | (simp only [lgO, lg_comm])
theorem lgO_assoc (x y z : Option Nat) : lgO (lgO x y) z = lgO x (lgO y z) := by
  cases x <;> cases y <;> cases z <;> first | rfl | (simp only [lgO, lg_assoc])
theorem mm_fv {x y : Option Nat} (hx : Vd x) (hy : Vd y) : mmA true (fv x) (fv y) = some (fv (lgO x y)) := by
  cases x <;> cases y <;> first | rfl | exact mm_lg hx hy
def sLonger.Spec (C : Con) (f : Nat) : Prop := ∀ x y : Option Nat, Vd x → Vd y → C.c f [fv x, fv y] (fv (lgO x y)) none
def rLonger.Spec (C : Con) (f : Nat) : Prop := ∀ x y : Option Nat, Vd x → Vd y → C.c f [fv x, fv y] (fv (lgO x y)) none
def rNanV.Spec (C : Con) (f : Nat) : Prop := ∀ x : Option Nat, Vd x → C.c f [fv x] (B x.isNone) none
def rAlikeV.Spec (C : Con) (f : Nat) : Prop := ∀ x y : Option Nat, Vd x → Vd y → C.c f [fv x, fv y] (B (x == y)) none
def secsLonger.Spec (C : Con) (f : Nat) : Prop := ∀ a b c : Nat, a < 2 ^ 64 → b < 2 ^ 64 → c < 2 ^ 64 → C.c f [Fl a, Fl b, Fl c] (B true) none
theorem nanF_wd {x : Nat} (h : Wd x) : nanF x = false := by
  obtain ⟨_, a, h⟩ := h
  rw [nanF_key, h]; rfl
theorem c_of {P : Program} {f n : Nat} {pre post : List AV} {r : AV} {fr : Option Nat} (hn : nanB n = true) (h : (Pure P).c f (pre ++ .fnan :: post) r fr) : (Pure P).c f (pre ++ .float .f64 n :: post) r fr := by
  refine ⟨h.1, fun w π vs hprot hd => ?_⟩
  obtain ⟨u, hu, hs⟩ := dvs_set (b := .fnan) (fun u hu => ⟨_, hu⟩) hd
  cases hu
  exact h.2 w π vs hprot (hs _ (.fnan _ hn))
section
variable {P : Program} (hm : P.follows .mixedOrders = true) {f : Nat}
include hm
theorem rNanV.ok (hc : cFn P f = some cc_ref01_Nan) : rNanV.Spec (Pure P) f := by
  intro x hx
  cases x with
  | none =>
    show (Pure P).c f [.fnan] (B true) none
    refine pure_of hm hc (by show 1 ≤ 6; decide) (aw_flat (keep := []) (i := 0) ?_)
    try simp only [I, B, D, RX, ↓ KW, seval, cc_ref01_Nan, Z.H, NAN, a_fnan]
  | some n =>
    have h := rNan.ok hm hc n
    rw [nanF_wd hx] at h
    exact h
theorem sLonger.ok (hc : cFn P f = some cc_secs_Longer) : sLonger.Spec (Pure P) f := by
  intro x y hx hy
  have h := mm_fv hx hy
  have g : ∀ x, (fv x).scalar = true := fun x => by cases x <;> rfl
  generalize lgO x y = z at *
  refine pure_of hm hc (by show 2 ≤ 8; decide) (aw_flat (keep := []) (i := 0) ?_)
  try simp only [I, B, D, RX, ↓ KW, seval, cc_secs_Longer, Z.H, h, a_fv]
theorem rAlikeV.ok {fN : Nat} (hc : cFn P f = some (cc_ref01_Alike fN)) (hN : rNan.Spec (Pure P) fN) : rAlikeV.Spec (Pure P) f := by
  have hA := rAlike.ok hm hc hN
  have nn : ∀ n, nanB n = true → nanF n = true := fun n h => by rw [nanF_key, ← nanB_key]; exact h
  have ne : ∀ n m : Nat, nanB n = true → Wd m → n ≠ m := fun n m h1 h2 e => by
    subst e
    obtain ⟨_, a, h⟩ := h2
    rw [nanB_key, h] at h1; cases h1
  intro x y hx hy
  cases x with
  | none =>
    refine fnan_c (pre := []) (post := [fv y]) fun n hn => ?_
    cases y with
    | none =>
      refine fnan_c (pre := [Fl n]) (post := []) fun m hm' => ?_
      have := hA n m
      rw [alikeF, nn n hn, nn m hm'] at this
      simpa using this
    | some m =>
      have := hA n m
      have hne := ne n m hn hy
      rw [alikeF, nn n hn, nanF_wd hy] at this
      have e : ((n : Int) == (m : Int)) = false := by simp; omega
      rw [e] at this
      exact this
  | some n =>
    cases y with
    | none =>
      refine fnan_c (pre := [Fl n]) (post := []) fun m hm' => ?_
      have := hA n m
      have hne := ne m n hm' hx
      rw [alikeF, nn m hm', nanF_wd hx] at this
      have e : ((n : Int) == (m : Int)) = false := by simp; omega
      rw [e] at this
      exact this
    | some m =>
      have := hA n m
      rw [alikeF, nanF_wd hx, nanF_wd hy] at this
      have e : ((n : Int) == (m : Int)) = (some n == some m) := by
        by_cases h : n = m
        · subst h; simp
        · have : ¬ (n : Int) = m := by omega
          rw [beq_eq_false_iff_ne.2 this, beq_eq_false_iff_ne.2 (fun e => h (Option.some.inj e))]
      rw [e] at this
      simp only [Bool.false_and, Bool.or_false] at this
      exact this
theorem rLonger.ok {fN : Nat} (hc : cFn P f = some (cc_ref01_Longer fN)) (hN : rNanV.Spec (Pure P) fN) : rLonger.Spec (Pure P) f := by
  intro x y hx hy
  have n1 := hN x hx
  have n2 := hN y hy
  cases x with
  | none =>
    have e : lgO none y = none := rfl
    rw [e]
    show (Pure P).c f [.fnan, fv y] .fnan none
    replace n1 : (Pure P).c fN [.fnan] (B true) none := n1
    refine pure_of hm hc (by show 2 ≤ 29; decide) (aw_flat (keep := []) (i := 0) ?_)
    try simp only [I, B, D, RX, ↓ KW, seval, cc_ref01_Longer, Z.H, a_fnan, a_fv]
    refine call_is n1 ?_
    try simp only [I, B, D, RX, ↓ KW, seval]
  | some x =>
    cases y with
    | none =>
      show (Pure P).c f [Fl x, .fnan] .fnan none
      replace n1 : (Pure P).c fN [Fl x] (B false) none := n1
      replace n2 : (Pure P).c fN [.fnan] (B true) none := n2
      refine pure_of hm hc (by show 2 ≤ 29; decide) (aw_flat (keep := []) (i := 0) ?_)
      try simp only [I, B, D, RX, ↓ KW, seval, cc_ref01_Longer, Z.H, a_fnan, a_fv]
      refine call_is n1 ?_
      try simp only [I, B, D, RX, ↓ KW, seval]
      refine call_is n2 ?_
      try simp only [I, B, D, RX, ↓ KW, seval]
    | some y =>
      show (Pure P).c f [Fl x, Fl y] (Fl (lgN x y)) none
      replace n1 : (Pure P).c fN [Fl x] (B false) none := n1
      replace n2 : (Pure P).c fN [Fl y] (B false) none := n2
      obtain ⟨hx, a, h1⟩ := hx
      obtain ⟨hy, b, h2⟩ := hy
      have g1 : gtF y x = decide (a < b) := by rw [gtF_key, h1, h2]; rfl
      have g2 : gtF x y = decide (b < a) := by rw [gtF_key, h1, h2]; rfl
      rcases Int.lt_trichotomy a b with h | h | h
      · rw [decide_eq_true h] at g1
        have := rk_lt hx hy h1 h2 h
        rw [show lgN x y = y by simp [lgN, this]]
        refine pure_of hm hc (by show 2 ≤ 29; decide) (aw_flat (keep := []) (i := 0) ?_)
        try simp only [I, B, D, RX, ↓ KW, seval, cc_ref01_Longer, Z.H, FLW]
        refine call_is n1 ?_
        try simp only [I, B, D, RX, ↓ KW, seval, FLW]
        refine call_is n2 ?_
        try simp only [I, B, D, RX, ↓ KW, seval, FLW, g1]
      · subst h
        rw [decide_eq_false (by omega)] at g1 g2
        have h3 : (bAnd .u64 (x : Int) (y : Int)).toNat = lgN x y := by
          rcases key_inj hx hy h1 h2 with h | ⟨h, h'⟩ | ⟨h, h'⟩
          · subst h
            have e : lgN x x = x := by simp [lgN]
            rw [e, bAnd, BitVec.and_self]
            have e2 : (BitVec.ofInt IntKind.u64.bits (x : Int)).toNat = x := by
              show (BitVec.ofInt 64 (x : Int)).toNat = x
              rw [BitVec.toNat_ofInt]; omega
            rw [e2]
            show (IntKind.wrap .u64 (x : Int)).toNat = x
            simp [IntKind.wrap, IntKind.bits, IntKind.signed]; omega
          · subst h h'; decide +kernel
          · subst h h'; decide +kernel
        refine pure_of hm hc (by show 2 ≤ 29; decide) (aw_flat (keep := []) (i := 0) ?_)
        try simp only [I, B, D, RX, ↓ KW, seval, cc_ref01_Longer, Z.H, FLW]
        refine call_is n1 ?_
        try simp only [I, B, D, RX, ↓ KW, seval, FLW]
        refine call_is n2 ?_
        try simp only [I, B, D, RX, ↓ KW, seval, FLW, g1, g2, h3]
      · have h' : ¬ a < b := by omega
        rw [decide_eq_false h'] at g1
        rw [decide_eq_true h] at g2
        have := rk_lt hy hx h2 h1 h
        rw [show lgN x y = x by unfold lgN; rw [if_neg (by omega)]]
        refine pure_of hm hc (by show 2 ≤ 29; decide) (aw_flat (keep := []) (i := 0) ?_)
        try simp only [I, B, D, RX, ↓ KW, seval, cc_ref01_Longer, Z.H, FLW]
        refine call_is n1 ?_
        try simp only [I, B, D, RX, ↓ KW, seval, FLW]
        refine call_is n2 ?_
        try simp only [I, B, D, RX, ↓ KW, seval, FLW, g1, g2]
theorem secsLongerV {fL fR fA fN fW : Nat} (hc : cFn P f = some (cc_law02_SecsLonger fL fR fA fN fW)) (hL : sLonger.Spec (Pure P) fL) (hR : rLonger.Spec (Pure P) fR) (hA : rAlikeV.Spec (Pure P) fA) (hN : rNanV.Spec (Pure P) fN) (hW : awake02.Spec (Pure P) fW) (a b c : Option Nat) (ha : Vd a) (hb : Vd b) (hcc : Vd c) : (Pure P).c f [fv a, fv b, fv c] (B true) none := by
  have hx := lgO_vd ha hb
  have c1 := hL a b ha hb
  have c2 := hR a b ha hb
  have c3 := hL b a hb ha
  have c4 := hL _ c hx hcc
  have c5 := hL b c hb hcc
  have c6 := hL a _ ha (lgO_vd hb hcc)
  have c7 := hA _ _ hx hx
  have c8 := hA _ _ (lgO_vd hx hcc) (lgO_vd hx hcc)
  rw [lgO_comm b a] at c3
  rw [← lgO_assoc] at c6
  rw [beq_self_eq_true] at c7 c8
  have n1 := hN _ hx
  have n2 := hN _ ha
  have n3 := hN _ hb
  have e : (lgO a b).isNone = (a.isNone || b.isNone) := by cases a <;> cases b <;> rfl
  have g : ∀ x y, a = some x → b = some y → lgO a b = some (lgN x y) := fun x y h1 h2 => by subst h1 h2; rfl
  refine pure_of hm hc (by show 3 ≤ 68; decide) (aw_flat (keep := []) (i := 0) ?_)
  try simp only [I, B, D, RX, ↓ KW, seval, cc_law02_SecsLonger, Z.H, a_fv]
  refine call_is c1 ?_
  try simp only [I, B, D, RX, ↓ KW, seval]
  refine call_is c2 ?_
  try simp only [I, B, D, RX, ↓ KW, seval]
  refine call_is c7 ?_
  try simp only [I, B, D, RX, ↓ KW, seval]
  refine call_is c3 ?_
  try simp only [I, B, D, RX, ↓ KW, seval]
  refine call_is c7 ?_
  try simp only [I, B, D, RX, ↓ KW, seval]
  refine call_is c4 ?_
  try simp only [I, B, D, RX, ↓ KW, seval]
  refine call_is c5 ?_
  try simp only [I, B, D, RX, ↓ KW, seval]
  refine call_is c6 ?_
  try simp only [I, B, D, RX, ↓ KW, seval]
  refine call_is c8 ?_
  try simp only [I, B, D, RX, ↓ KW, seval]
  refine call_is n1 ?_
  try simp only [I, B, D, RX, ↓ KW, seval]
  refine call_is n2 ?_
  try simp only [I, B, D, RX, ↓ KW, seval]
  cases a with
  | none =>
    try simp only [I, B, D, RX, ↓ KW, seval, Option.isNone, beq_self_eq_true, lgO]
    refine call_is n1 ?_
    try simp only [I, B, D, RX, ↓ KW, seval, Option.isNone, lgO, beq_self_eq_true]
    refine call_is hW ?_
    try simp only [I, B, D, RX, ↓ KW, seval]
  | some x =>
    try simp only [I, B, D, RX, ↓ KW, seval, Option.isNone, beq_self_eq_true, lgO]
    refine call_is n3 ?_
    cases b with
    | none =>
      try simp only [I, B, D, RX, ↓ KW, seval, Option.isNone, lgO, beq_self_eq_true]
      refine call_is n1 ?_
      try simp only [I, B, D, RX, ↓ KW, seval, Option.isNone, lgO, beq_self_eq_true]
      refine call_is hW ?_
      try simp only [I, B, D, RX, ↓ KW, seval]
    | some y =>
      have q1 := lg_ge ha hb
      have q2 := lg_ge' ha hb
      try simp only [I, B, D, RX, ↓ KW, seval, Option.isNone, lgO, beq_self_eq_true]
      refine call_is n1 ?_
      try simp only [I, B, D, RX, ↓ KW, seval, Option.isNone, lgO, FLW, q1, q2, fv]
      refine call_is hW ?_
      try simp only [I, B, D, RX, ↓ KW, seval]
theorem secsLonger.ok {fL fR fA fN fW : Nat} (hc : cFn P f = some (cc_law02_SecsLonger fL fR fA fN fW)) (hL : sLonger.Spec (Pure P) fL) (hR : rLonger.Spec (Pure P) fR) (hA : rAlikeV.Spec (Pure P) fA) (hN : rNanV.Spec (Pure P) fN) (hW : awake02.Spec (Pure P) fW) : secsLonger.Spec (Pure P) f := by
  intro a b c ha hb hcc
  have H := secsLongerV hm hc hL hR hA hN hW
  have of : ∀ n : Nat, n < 2 ^ 64 → (nanB n = true) ∨ Wd n := fun n hn => by
    cases hk : key n with
    | none => left; rw [nanB_key, hk]; rfl
    | some a => right; exact ⟨hn, a, hk⟩
  have H1 : ∀ x y : Option Nat, Vd x → Vd y → (Pure P).c f [fv x, fv y, Fl c] (B true) none := fun x y hx hy => by
    rcases of c hcc with h | h
    · exact c_of (pre := [fv x, fv y]) (post := []) h (H x y none hx hy trivial)
    · exact H x y (some c) hx hy h
  have H2 : ∀ x : Option Nat, Vd x → (Pure P).c f [fv x, Fl b, Fl c] (B true) none := fun x hx => by
    rcases of b hb with h | h
    · exact c_of (pre := [fv x]) (post := [Fl c]) h (H1 x none hx trivial)
    · exact H1 x (some b) hx h
  rcases of a ha with h | h
  · exact c_of (pre := []) (post := [Fl b, Fl c]) h (H2 none trivial)
  · exact H2 (some a) h
end
end Go.Eng
namespace Go.Eng
set_option linter.unusedVariables false
set_option linter.unusedSimpArgs false
set_option linter.unnecessarySimpa false
open Go
set_option linter.unusedVariables false
set_option linter.unusedSimpArgs false
set_option maxRecDepth 10000
set_option maxHeartbeats 4000000
def Al {α β : Type} (R : α → β → Prop) : List α → List β → Prop
  | [], [] => True
  | a :: l, b :: m => R a b ∧ Al R l m
  | _, _ => False
theorem Al.len {α β : Type} {R : α → β → Prop} : ∀ {l : List α} {m : List β}, Al R l m → l.length = m.length
  | [], [], _ => rfl
  | a :: l, b :: m, h => by simp [Al.len h.2]
  | [], b :: m, h => h.elim
  | a :: l, [], h => h.elim
theorem Al.get {α β : Type} {R : α → β → Prop} : ∀ {l : List α} {m : List β}, Al R l m → ∀ (i : Nat) (a : α) (b : β), l[i]? = some a → m[i]? = some b → R a b
  | a :: l, b :: m, h, 0, x, y, hx, hy => by simp at hx hy; subst hx; subst hy; exact h.1
  | a :: l, b :: m, h, i + 1, x, y, hx, hy => Al.get h.2 i x y (by simpa using hx) (by simpa using hy)
  | [], _, _, i, _, _, hx, _ => by simp at hx
theorem Al.mk {α β : Type} {R : α → β → Prop} : ∀ {l : List α} {m : List β}, l.length = m.length → (∀ (i : Nat) (a : α) (b : β), l[i]? = some a → m[i]? = some b → R a b) → Al R l m
  | [], [], _, _ => trivial
  | a :: l, b :: m, h, f => ⟨f 0 a b rfl rfl, Al.mk (by simpa using h) fun i x y hx hy => f (i + 1) x y (by simpa using hx) (by simpa using hy)⟩
theorem Al.append {α β : Type} {R : α → β → Prop} : ∀ {l : List α} {m : List β} {l' : List α} {m' : List β}, Al R l m → Al R l' m' → Al R (l ++ l') (m ++ m')
  | [], [], _, _, _, h => h
  | a :: l, b :: m, _, _, h, h' => ⟨h.1, Al.append h.2 h'⟩
theorem Al.n {α β : Type} {R : α → β → Prop} : Al R ([] : List α) ([] : List β) := trivial
theorem Al.c {α β : Type} {R : α → β → Prop} {a : α} {b : β} {l : List α} {m : List β} (h : R a b) (t : Al R l m) : Al R (a :: l) (b :: m) := ⟨h, t⟩
theorem Al.nil_inv {α β : Type} {R : α → β → Prop} {m : List β} (h : Al R [] m) : m = [] := by
  cases m with
  | nil => rfl
  | cons b m => exact h.elim
theorem Al.cons_inv {α β : Type} {R : α → β → Prop} {a : α} {l : List α} {m : List β} (h : Al R (a :: l) m) : ∃ b m', m = b :: m' ∧ R a b ∧ Al R l m' := by
  cases m with
  | nil => exact h.elim
  | cons b m => exact ⟨b, m, rfl, h.1, h.2⟩
inductive Sc where
  | bool
  | int (k : IntKind)
  | flt (k : FloatKind)
  | str
inductive Ty where
  | sc (s : Sc)
  | sl (l : List Ty)
def tyParts (sz : TypeId → Nat) (F : TypeId → Option (List Ty)) : Nat → List (Nat × TypeId) → Option (List Ty)
  | _, [] => some []
  | o, f :: r => if f.1 = o then match F f.2 with
      | some l => if sz f.2 = l.length then match tyParts sz F (o + l.length) r with
        | some m => some (l ++ m)
        | none => none
        else none
      | none => none
    else none
def tyOf (P : Program) : Nat → TypeId → Option (List Ty)
  | 0, _ => none
  | n + 1, t => match P.underlying t with
    | some .bool => some [.sc .bool]
    | some (.int k) => some [.sc (.int k)]
    | some (.float k) => some [.sc (.flt k)]
    | some .string => some [.sc .str]
    | some (.slice e) => match tyOf P n e with
      | some l => if P.cellsOf e = l.length ∧ 0 < l.length then some [.sl l] else none
      | none => none
    | some (.struct fs) => match tyParts P.cellsOf (tyOf P n) 0 (fs.toList.map fun f => (f.offset, f.type)) with
      | some l => if P.cellsOf t = l.length then some l else none
      | none => none
    | some (.array k e) => match tyParts P.cellsOf (tyOf P n) 0 ((List.range k).map fun i => (i * P.cellsOf e, e)) with
      | some l => if P.cellsOf t = l.length then some l else none
      | none => none
    | _ => none
def ScV : Sc → AV → Prop
  | .bool, .bool _ => True
  | .int k, .int k' n => k' = k ∧ (Lit.int k n).wf = true
  | .flt k, .float k' b => k' = k ∧ (Lit.float k b).wf = true
  | .str, .str s => s.size ≤ maxLen
  | _, _ => False
mutual
def TyV : Ty → AV → Prop
  | .sc s, a => ScV s a
  | .sl _, .nils => True
  | .sl l, .sl xs => xs.length ≤ maxLen ∧ ∀ r ∈ xs, TysV l r
  | _, _ => False
def TysV : List Ty → List AV → Prop
  | [], [] => True
  | t :: l, a :: r => TyV t a ∧ TysV l r
  | _, _ => False
end
theorem tysV_al : ∀ {l : List Ty} {as : List AV}, TysV l as ↔ Al TyV l as
  | [], [] => by simp [TysV, Al]
  | t :: l, a :: r => by simp only [TysV, Al]; rw [tysV_al (l := l) (as := r)]
  | [], a :: r => by simp [TysV, Al]
  | t :: l, [] => by simp [TysV, Al]
def oldP (W : World) : Nat → Nat → Prop := fun b _ => b < W.heap.size
theorem cell_lt {W : World} {a : Addr} {v : Value} (h : W.cell? a = some v) : a.block < W.heap.size := by
  unfold World.cell? at h
  split at h
  · rename_i hh; exact heap_lt hh
  · cases h
theorem ScV.scalar {s : Sc} {a : AV} (h : ScV s a) : a.scalar = true := by cases s <;> cases a <;> first | exact h.elim | rfl
theorem TyV.scalar {s : Ty} {a : AV} (h : TyV s a) : a.scalar = true := by
  cases s with
  | sc s => exact ScV.scalar (by simpa [TyV] using h)
  | sl l => cases a <;> first | rfl | (simp [TyV] at h)
section
variable {H : Type} {enc : TypeId × Value → H} {P : Program} {W : World} {base : Nat}
open Go.ChangeShapes Go.WideShapes Go.ChangeAt Go.RowKit
theorem trod_float {sp : Nat → Bool} {held : Bool} {b0 fuel : Nat} {t : TypeId} {cs : List Value} {x : DataW H × List MemPlace} {k : FloatKind} (ht : P.underlying t = some (.float k)) (h : DataW.trod enc P W b0 sp held fuel t cs = some x) : ∃ n, cs = [.float k n] ∧ (Lit.float k n).wf = true := by
  cases fuel with
  | zero => simp [DataW.trod] at h
  | succ n =>
    unfold DataW.trod at h
    rw [ht] at h
    split at h <;> simp_all
theorem parts_open {sp : TypeId → Nat} {G : TypeId → Option (List Ty)} {Tr : TypeId → List Value → Prop}
    (each : ∀ t l cs, G t = some l → Tr t cs → ∃ as, Al TyV l as ∧ Al (DV W (oldP W)) as cs) : ∀ (ps : List (Nat × TypeId)) (o : Nat) (l : List Ty) (cs : List Value), tyParts sp G o ps = some l → cs.length = o + l.length →
      (∀ (i : Nat) (f : Nat × TypeId), ps[i]? = some f → Tr f.2 ((cs.drop f.1).take (sp f.2))) → ∃ as, Al TyV l as ∧ Al (DV W (oldP W)) as (cs.drop o)
  | [], o, l, cs, h, hl, _ => by
    simp only [tyParts, Option.some.injEq] at h
    subst h
    refine ⟨[], trivial, ?_⟩
    rw [List.drop_of_length_le (by simp at hl; omega)]; trivial
  | f :: ps, o, l, cs, h, hl, htr => by
    simp only [tyParts] at h
    split at h <;> try (cases h; done)
    rename_i ho
    split at h <;> try (cases h; done)
    rename_i l1 hl1
    split at h <;> try (cases h; done)
    rename_i hsz
    split at h <;> try (cases h; done)
    rename_i m hm
    cases h
    have h0 := htr 0 f rfl
    rw [ho, hsz] at h0
    obtain ⟨as1, ht1, hd1⟩ := each f.2 l1 _ hl1 h0
    obtain ⟨as2, ht2, hd2⟩ := parts_open each ps (o + l1.length) m cs hm (by rw [hl]; simp; omega) (fun i g hg => htr (i + 1) g (by simpa using hg))
    refine ⟨as1 ++ as2, ht1.append ht2, ?_⟩
    have := hd1.append hd2
    rw [← List.drop_drop, List.take_append_drop] at this
    exact this
omit H enc P W base in
theorem cell_spot' {w : World} {b o : Nat} {sp : Option Nat} {v : Value} (h : w.cell? ⟨b, o, sp⟩ = some v) : sp = none := by
  cases sp with
  | none => rfl
  | some x => unfold World.cell? at h; split at h <;> simp at h
theorem add_off {a : Addr} {n : Nat} (h : a.spot = none) : a.add n = ⟨a.block, a.off + n, none⟩ := by
  obtain ⟨b, o, s⟩ := a
  simp only at h; subst h
  unfold Addr.add; split
  · rename_i hh; subst hh; rfl
  · rfl
theorem ty_open : ∀ (n : Nat) (t : TypeId) (l : List Ty), tyOf P n t = some l → ∀ (cs : List Value) (x : DataW H × List MemPlace) (fuel : Nat),
    DataW.trod enc P W 0 (fun _ => true) true fuel t cs = some x → ∃ as, Al TyV l as ∧ Al (DV W (oldP W)) as cs
  | 0, t, l, h, cs, x, fuel, hx => by cases h
  | n + 1, t, l, h, cs, x, fuel, hx => by
    simp only [tyOf] at h
    split at h
    · rename_i ht; cases h
      obtain ⟨b, rfl, _⟩ := DataW.trod_bool ht hx
      exact ⟨[.bool b], ⟨by simp [TyV, ScV], trivial⟩, ⟨.bool b, trivial⟩⟩
    · rename_i k ht; cases h
      obtain ⟨m, rfl, _, hw⟩ := DataW.trod_int ht hx
      exact ⟨[.int k m], ⟨by simp only [TyV]; exact ⟨rfl, hw⟩, trivial⟩, ⟨.int k m, trivial⟩⟩
    · rename_i k ht; cases h
      obtain ⟨m, rfl, hw⟩ := trod_float ht hx
      exact ⟨[.float k m], ⟨by simp only [TyV]; exact ⟨rfl, hw⟩, trivial⟩, ⟨.float k m, trivial⟩⟩
    · rename_i ht; cases h
      obtain ⟨s, rfl, _, hw⟩ := DataW.trod_string ht hx
      exact ⟨[.str s], ⟨by simp only [TyV]; exact hw, trivial⟩, ⟨.str s, trivial⟩⟩
    · rename_i e ht
      split at h <;> try (cases h; done)
      rename_i le hle
      split at h <;> try (cases h; done)
      rename_i hsz
      cases h
      obtain ⟨hsz, hpos⟩ := hsz
      rcases DataW.trod_slice ht hx with ⟨rfl, _⟩ | ⟨a, len, cap, elems, rest, k, _, rfl, _, _, hlc, hmx, hlen, hel, hrest, _⟩
      · exact ⟨[.nils], ⟨by simp [TyV], trivial⟩, ⟨.nils, trivial⟩⟩
      have spotOf : ∀ (y : DataW H × List MemPlace), (W.cells? 0 (a.add (0 * P.cellsOf e)) (P.cellsOf e)).bind (DataW.trod enc P W 0 (fun _ => true) true k e) = some y → a.spot = none := by
        intro y hy
        rw [Option.bind_eq_some_iff] at hy
        obtain ⟨cs, hcs, _⟩ := hy
        obtain ⟨_, hcl, hcell⟩ := World.cells?_some hcs
        have h0 := hcell 0 (by omega)
        obtain ⟨v, hv⟩ : ∃ v, cs[0]? = some v := ⟨_, List.getElem?_eq_getElem (by omega)⟩
        rw [hv] at h0
        obtain ⟨b, o, sp⟩ := a
        simp only [Nat.zero_mul, Addr.add, if_true] at h0
        exact cell_spot' h0
      have hspot : cap = 0 ∨ a.spot = none := by
        rcases Nat.eq_zero_or_pos cap with h | h
        · exact .inl h
        right
        rcases Nat.eq_zero_or_pos len with h' | h'
        · obtain ⟨hr1, hr2⟩ := hrest rfl
          have := hr2 0 (by omega)
          obtain ⟨y, hy⟩ : ∃ y, rest[0]? = some y := ⟨_, List.getElem?_eq_getElem (by omega)⟩
          rw [hy, h', Nat.zero_add] at this
          exact spotOf y this
        · have := hel 0 h'
          obtain ⟨y, hy⟩ : ∃ y, elems[0]? = some y := ⟨_, List.getElem?_eq_getElem (by omega)⟩
          rw [hy] at this
          exact spotOf y this
      rcases hspot with rfl | hspot
      · have : len = 0 := by omega
        subst this
        exact ⟨[.sl []], ⟨by simp [TyV], trivial⟩, ⟨.sl0 a, trivial⟩⟩
      have each : ∀ i, i < len → ∃ as cs, Al TyV le as ∧ Al (DV W (oldP W)) as cs ∧ ∀ j, j < le.length → W.cell? ⟨a.block, a.off + i * le.length + j, none⟩ = cs[j]? := by
        intro i hi
        have he := hel i hi
        have : elems[i]? ≠ none := by simp; omega
        obtain ⟨y, hy⟩ := Option.ne_none_iff_exists'.1 this
        rw [hy, Option.bind_eq_some_iff] at he
        obtain ⟨cs, hcs, htr⟩ := he
        obtain ⟨_, hcl, hcell⟩ := World.cells?_some hcs
        obtain ⟨as, hta, hda⟩ := ty_open n e le hle cs y k htr
        refine ⟨as, cs, hta, hda, fun j hj => ?_⟩
        have := hcell j (by omega)
        rw [← this, add_off (a := a.add _) (by rw [add_off hspot]), add_off hspot, hsz]
      obtain ⟨rows, hrl, hrt, hr⟩ : ∃ rows : List (List AV), rows.length = len ∧ (∀ r ∈ rows, Al TyV le r) ∧ ∀ i r, rows[i]? = some r → ∃ cs, Al (DV W (oldP W)) r cs ∧ ∀ j, j < le.length → W.cell? ⟨a.block, a.off + i * le.length + j, none⟩ = cs[j]? := by
        refine ⟨(List.range len).map fun i => if h : i < len then (each i h).choose else [], by simp, ?_, ?_⟩
        · intro r hr
          obtain ⟨i, hi, rfl⟩ := List.mem_map.1 hr
          rw [List.mem_range] at hi
          rw [dif_pos hi]
          exact (each i hi).choose_spec.choose_spec.1
        · intro i r hr
          rw [List.getElem?_map, Option.map_eq_some_iff] at hr
          obtain ⟨k, hk, rfl⟩ := hr
          have hi := (List.getElem?_eq_some_iff.1 hk).1
          simp at hi
          rw [List.getElem?_range hi] at hk
          cases hk
          rw [dif_pos hi]
          exact ⟨_, (each i hi).choose_spec.choose_spec.2⟩
      obtain ⟨b, off, spot⟩ := a
      simp only at hspot hr
      subst hspot
      refine ⟨[.sl rows], ⟨by simp only [TyV]; exact ⟨by omega, fun r hr => tysV_al.2 (hrt r hr)⟩, trivial⟩, ?_, trivial⟩
      have hz : ∀ (i : Nat) (r : List AV), rows[i]? = some r → r.length = le.length := fun i r h => (hrt r (List.mem_of_getElem? h)).len.symm
      have at_ : ∀ (i j : Nat) (r : List AV) (x : AV), rows[i]? = some r → r[j]? = some x → ∃ v, W.cell? ⟨b, off + i * le.length + j, none⟩ = some v ∧ DV W (oldP W) x v := by
        intro i j r x h1 h2
        obtain ⟨cs, hd, hc⟩ := hr i r h1
        have hj : j < le.length := by have := (List.getElem?_eq_some_iff.1 h2).1; have := hz i r h1; omega
        obtain ⟨v, hv⟩ : ∃ v, cs[j]? = some v := ⟨_, List.getElem?_eq_getElem (by have := hd.len; have := hz i r h1; omega)⟩
        exact ⟨v, (hc j hj).trans hv, hd.get j x v h2 hv⟩
      have key := DV.sl (w := W) (π := oldP W) rows b off cap le.length (fun i j => (W.cell? ⟨b, off + i * le.length + j, none⟩).getD default) (by omega) hz
        (fun i j r x h1 h2 => by
          obtain ⟨t, ht⟩ : ∃ t, le[j]? = some t := ⟨_, List.getElem?_eq_getElem (by have := (List.getElem?_eq_some_iff.1 h2).1; have := hz i r h1; omega)⟩
          exact TyV.scalar ((hrt r (List.mem_of_getElem? h1)).get j t x ht h2))
        (fun i j r x h1 h2 => by obtain ⟨v, hv, _⟩ := at_ i j r x h1 h2; exact cell_lt hv)
        (fun i j r x h1 h2 => by obtain ⟨v, hv, _⟩ := at_ i j r x h1 h2; rw [hv]; rfl)
        (fun i j r x h1 h2 => by obtain ⟨v, hv, hd⟩ := at_ i j r x h1 h2; rw [hv]; exact hd)
      rw [hrl] at key
      exact key
    · rename_i fs ht
      split at h <;> try (cases h; done)
      rename_i l' hl'
      split at h <;> try (cases h; done)
      rename_i hsz
      cases h
      obtain ⟨xs, k, _, _, hcl, hxl, hf⟩ := DataW.trod_struct ht hx
      have := parts_open (W := W) (Tr := fun t cs => ∃ x fuel, DataW.trod enc P W 0 (fun _ => true) true fuel t cs = some x) (fun t l cs h1 ⟨x, fuel, h3⟩ => ty_open n t l h1 cs x fuel h3) _ 0 l cs hl' (by omega) (fun i f hif => by
        rw [List.getElem?_map, Option.map_eq_some_iff] at hif
        obtain ⟨f, hif, rfl⟩ := hif
        have h1 := hf i f (by simpa using hif)
        have : xs[i]? ≠ none := by
          have := (List.getElem?_eq_some_iff.1 hif).1
          simp at this ⊢; omega
        obtain ⟨y, hy⟩ := Option.ne_none_iff_exists'.1 this
        exact ⟨y, k, h1.trans hy⟩)
      simpa using this
    · rename_i q e ht
      split at h <;> try (cases h; done)
      rename_i l' hl'
      split at h <;> try (cases h; done)
      rename_i hsz
      cases h
      obtain ⟨xs, k, _, _, hcl, hxl, hf⟩ := DataW.trod_array ht hx
      have := parts_open (W := W) (Tr := fun t cs => ∃ x fuel, DataW.trod enc P W 0 (fun _ => true) true fuel t cs = some x) (fun t l cs h1 ⟨x, fuel, h3⟩ => ty_open n t l h1 cs x fuel h3) _ 0 l cs hl' (by omega) (fun i f hif => by
        rw [List.getElem?_map, Option.map_eq_some_iff] at hif
        obtain ⟨f, hif, rfl⟩ := hif
        have hi := (List.getElem?_eq_some_iff.1 hif).1
        simp at hi
        rw [List.getElem?_range hi] at hif
        cases hif
        have h1 := hf i hi
        have : xs[i]? ≠ none := by simp; omega
        obtain ⟨y, hy⟩ := Option.ne_none_iff_exists'.1 this
        exact ⟨y, k, h1.trans hy⟩)
      simpa using this
    · cases h
def isAgg (P : Program) (t : TypeId) : Bool := match P.underlying t with
  | some (.struct _) | some (.array _ _) => true
  | _ => false
theorem arg_open1 {n : Nat} {t : TypeId} {k : Ty} {v : Value} {d : DataW H} {p : List MemPlace} (hl : tyOf P n t = some [k]) (ha : isAgg P t = false) (hval : Value.okWide P W .any base t v)
    (h : DataW.Trod enc P W 0 (fun _ => true) true t v d p) : ∃ a, TyV k a ∧ DV W (oldP W) a v := by
  obtain ⟨fuel, hf⟩ := h
  obtain ⟨as, ht, hd⟩ := ty_open n t [k] hl _ _ _ hf
  obtain ⟨a, as', rfl, hk, ht'⟩ := ht.cons_inv
  cases ht'.nil_inv
  obtain ⟨u, us, e, hdu, _⟩ := hd.cons_inv
  have hne : ∀ cs, v ≠ .agg cs := by
    rintro cs rfl
    unfold isAgg at ha
    unfold Value.okWide at hval
    split at hval
    · rename_i e; rw [e] at ha; cases ha
    · rename_i e; rw [e] at ha; cases ha
    · unfold Cell.okWide at hval
      split at hval <;> simp_all [Cell.ok]
  refine ⟨a, hk, ?_⟩
  cases v <;> simp [Value.cells] at e
  case agg cs => exact absurd rfl (hne cs)
  all_goals (obtain ⟨rfl, rfl⟩ := e; exact hdu)
theorem tyv_float {k : FloatKind} {a : AV} (h : TyV (.sc (.flt k)) a) : ∃ n, a = .float k n ∧ (Lit.float k n).wf = true := by
  simp only [TyV] at h
  cases a <;> first | exact h.elim | (obtain ⟨rfl, hw⟩ := h; exact ⟨_, rfl, hw⟩)
theorem flt_lt {n : Nat} (h : (Lit.float .f64 n).wf = true) : n < 2 ^ 64 := by simpa [Lit.wf] using h
theorem law_call {P : Program} {f : Nat} {args : List AV} {W : World} {vs : List Value} (h : (Pure P).c f args (.bool true) none) (hd : Al (DV W (oldP W)) args vs) :
    Calls P f vs.toArray W fun e w' => e = .returned (.bool true) ∧ Go.RowKit.Below W.heap.size W w' := by
  refine (h.2 W (oldP W) vs (fun _ _ h => h) ⟨hd.len, hd.get⟩).mono fun e w' ⟨v, π', he, hb, _, _, _, hdv, _⟩ => ?_
  cases hdv
  exact ⟨he, hb⟩
end
section
variable {H : Type} {enc : TypeId × Value → H} {P : Program} {W : World} {base : Nat}
open Go.ChangeShapes Go.WideShapes Go.ChangeAt Go.RowKit
def Came (enc : TypeId × Value → H) (P : Program) (W : World) (base : Nat) (t : TypeId) (v : Value) : Prop :=
  Value.okWide P W .any base t v ∧ ∃ d p, DataW.Trod enc P W 0 (fun _ => true) true t v d p
theorem args_open : ∀ {ts : List TypeId} {vs : List Value} {ds : List (DataW H)} {ps : List MemPlace}, DataW.TrodAll enc P W 0 (fun _ => true) true ts vs ds ps →
    (∀ (j : Nat) t v, ts[j]? = some t → vs[j]? = some v → Value.okWide P W .any base t v) → Al (Came enc P W base) ts vs
  | [], vs, ds, ps, h, _ => by obtain ⟨rfl, _, _⟩ := trodAll_nil h; trivial
  | t :: ts, vs, ds, ps, h, hv => by
    obtain ⟨v, vs', d, ds', p, q, rfl, rfl, rfl, h0, h1⟩ := trodAll_cons h
    exact ⟨⟨hv 0 t v rfl rfl, d, p, h0⟩, args_open h1 fun j t v h1 h2 => hv (j + 1) t v (by simpa using h1) (by simpa using h2)⟩
theorem args_close {W' : World} (hl : laidOutB P = true) : ∀ {ts : List TypeId} {vs : List Value} {ds : List (DataW H)} {ps : List MemPlace}, (ts.all fun t => P.readableRec t && decide (t < P.types.size)) = true →
    DataW.TrodAll enc P W 0 (fun _ => true) true ts vs ds ps → Below W.heap.size W W' → DataW.TrodAll enc P W' 0 (fun b => decide (b < W.heap.size)) true ts vs ds ps
  | [], vs, ds, ps, _, h, _ => by obtain ⟨rfl, rfl, rfl⟩ := trodAll_nil h; exact trodAll_mk0
  | t :: ts, vs, ds, ps, hr, h, hb => by
    have hlt := DataW.TrodAll.lt h
    obtain ⟨v, vs', d, ds', p, q, rfl, rfl, rfl, h0, h1⟩ := trodAll_cons h
    simp only [List.all_cons, Bool.and_eq_true, decide_eq_true_eq] at hr
    exact trodAll_cons_mk (Below.trod hl hr.1.1 hr.1.2 h0 hb fun x hx => hlt x (by simp [hx])) (args_close hl hr.2 h1 hb)
theorem came_one {n : Nat} {t : TypeId} {k : Ty} {v : Value} (hl : tyOf P n t = some [k]) (ha : isAgg P t = false) (h : Came enc P W base t v) : ∃ a, TyV k a ∧ DV W (oldP W) a v := by
  obtain ⟨h1, d, p, h2⟩ := h; exact arg_open1 hl ha h1 h2
theorem trodAll_lens {sp : Nat → Bool} {held : Bool} {b0 : Nat} : ∀ {ts : List TypeId} {vs : List Value} {ds : List (DataW H)} {ps : List MemPlace}, DataW.TrodAll enc P W b0 sp held ts vs ds ps → ds.length = ts.length
  | [], vs, ds, ps, h => by obtain ⟨_, rfl, _⟩ := trodAll_nil h; rfl
  | t :: ts, vs, ds, ps, h => by
    obtain ⟨v, vs', d, ds', p, q, rfl, rfl, rfl, h0, h1⟩ := trodAll_cons h
    simp [trodAll_lens h1]
end
theorem len_S {α : Type} {l : List α} {n : Nat} (h : l.length = n + 1) : ∃ a m, l = a :: m ∧ m.length = n := by
  cases l with
  | nil => cases h
  | cons a m => exact ⟨a, m, rfl, by simpa using h⟩
theorem len_1 {α : Type} {l : List α} (h : l.length = 1) : ∃ a, l = [a] := by obtain ⟨a, m, rfl, h2⟩ := len_S h; exact ⟨a, by rw [List.length_eq_zero_iff.1 h2]⟩
theorem len_2 {α : Type} {l : List α} (h : l.length = 2) : ∃ a b, l = [a, b] := by obtain ⟨a, m, rfl, h2⟩ := len_S h; obtain ⟨b, rfl⟩ := len_1 h2; exact ⟨a, b, rfl⟩
theorem len_3 {α : Type} {l : List α} (h : l.length = 3) : ∃ a b c, l = [a, b, c] := by obtain ⟨a, m, rfl, h2⟩ := len_S h; obtain ⟨b, c, rfl⟩ := len_2 h2; exact ⟨a, b, c, rfl⟩
end Go.Eng
