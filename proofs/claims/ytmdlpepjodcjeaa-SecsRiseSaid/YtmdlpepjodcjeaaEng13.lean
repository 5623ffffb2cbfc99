/- ENGINE, PART 13: one operation, whichever. -/
import Derived.Test.YtmdlpepjodcjeaaEng12
import Derived.Laws.Externs
namespace Go.Eng
set_option linter.unusedSimpArgs false
set_option linter.unnecessarySimpa false
open Go
open Go.RowKit (Below)
set_option linter.unusedVariables false

section
variable {P : Program} {nt : Nat} {n0 : Fen} {w0 : World} {π0 : Nat → Nat → Prop} {U : Nat → Prop} {s : S} {a : Act} {w : World} {β : Nat → Nat} {τ : Nat → Value} {π : Nat → Nat → Prop}

theorem Rel.idxO (R : Rel P nt n0 w0 π0 U s a w β τ π) {X : Operand} {x : Opd} {i : Int} (hx : cOpd X = some x) (hi : Eng.idxO (Eng.opdA s x) = some i) : ∃ k, a.eval X = .int k i := by
  cases h : Eng.opdA s x with
  | none => rw [h] at hi; cases hi
  | some b => rw [h] at hi; exact R.idx hx h hi

theorem Rel.slice (R : Rel P nt n0 w0 π0 U s a w β τ π) {t e : TypeId} {z : Nat} {X : Operand} {x : Opd} {lo hi : Option Operand} {lo' hi' : Option Opd} (ht : P.underlying t = some (.slice e)) (hz : szOf P e = some z) (hx : cOpd X = some x) (hl : cOpt lo = some lo') (hh : cOpt hi = some hi')
    {id : Nat} {K : SV → S → Prop} (h : aop (Pure P) id (.slS z x lo' hi') K s) :
    ∃ v y, (Instr.sliceAt t (a.eval X) (lo.map a.eval) (hi.map a.eval) none).run P w = .ok y w ∧ RV β τ w π v y ∧ v.inU U ∧ K v s := by
  simp only [aop] at h
  obtain ⟨b, hb, k1⟩ := withV_inv h
  obtain ⟨xs, hxs, k2⟩ := withV_inv k1
  obtain ⟨l, hlo, k3⟩ := withV_inv k2
  obtain ⟨m, hhi, ⟨hl0, hlm, hmx⟩, hrow, hK⟩ := withV_inv k3
  have hd := R.opdA hx hb
  have hsz := run_size (P := P) (w := w) hz
  -- the bounds
  have hlow : (lo = none ∧ l = 0) ∨ ∃ L k, lo = some L ∧ a.eval L = .int k l := by
    cases lo with
    | none => simp [cOpt] at hl; subst hl; simp [bndL] at hlo; exact .inl ⟨rfl, hlo.symm⟩
    | some L =>
      simp only [cOpt, Option.map_eq_some_iff] at hl
      obtain ⟨x', hx', rfl⟩ := hl
      obtain ⟨k, hk⟩ := R.idxO hx' hlo
      exact .inr ⟨L, k, rfl, hk⟩
  have hhigh : (hi = none ∧ m = xs.length) ∨ ∃ H k, hi = some H ∧ a.eval H = .int k m := by
    cases hi with
    | none => simp [cOpt] at hh; subst hh; simp [bndH] at hhi; exact .inl ⟨rfl, hhi.symm⟩
    | some H =>
      simp only [cOpt, Option.map_eq_some_iff] at hh
      obtain ⟨x', hx', rfl⟩ := hh
      obtain ⟨k, hk⟩ := R.idxO hx' hhi
      exact .inr ⟨H, k, rfl, hk⟩
  have hbnd : ∀ cap, xs.length ≤ cap → (Instr.sliceBounds true xs.length cap (lo.map a.eval) (hi.map a.eval) none).run P w = .ok (l.toNat, m.toNat, cap) w := by
    intro cap hcap
    have hm0 : (0 : Int) ≤ m := by omega
    have hmc : m ≤ cap := by omega
    have hmn : (m.toNat : Int) = m := Int.toNat_of_nonneg hm0
    rcases hlow with ⟨rfl, rfl⟩ | ⟨L, k, rfl, hL⟩ <;> rcases hhigh with ⟨rfl, hm⟩ | ⟨H, k', rfl, hH⟩
    · subst hm; simp [Instr.sliceBounds]
    · simp [Instr.sliceBounds, hH, run_sliceBound, hm0, hmc]
    · have hL' := run_sliceBound (P := P) w k l xs.length .sliceB hl0 (by omega)
      have hmx' : m.toNat = xs.length := by omega
      simp [Instr.sliceBounds, hL, hL', hmx']
    · have hH' := run_sliceBound (P := P) w k' m cap .sliceAcap hm0 hmc
      have hL' := run_sliceBound (P := P) w k l m.toNat .sliceB hl0 (by omega)
      simp [Instr.sliceBounds, hL, hH, hH', hL']
  have hat : (Instr.sliceAt t (a.eval X) (lo.map a.eval) (hi.map a.eval) none).run P w = (Instr.slice t (a.eval X) (lo.map a.eval) (hi.map a.eval) none).run P w := by
    simp [Instr.sliceAt, run_underlying ht]
  rw [hat]
  cases b <;> simp only [rowsOf] at hxs <;> try (cases hxs; done)
  · -- nil
    cases hxs
    have hv : a.eval X = .slice none 0 0 := by generalize a.eval X = v at hd; cases hd; rfl
    have h0 := hbnd 0 (by simp)
    simp at hmx
    have hlz : l = 0 := by omega
    have hmz : m = 0 := by omega
    subst hlz hmz
    refine ⟨.dat .nils none, .slice none 0 0, ?_, ⟨.nils, fun t ht => by cases ht⟩, trivial, hK⟩
    simp only [List.length_nil] at h0
    simp [hv, Instr.slice, run_underlying ht, h0, hsz]
  · cases hxs
    generalize hv : a.eval X = v at hd
    cases hd with
    | sl _ B off cap z' f h1 h2 h3 h4 h5 h6 =>
      have h0 := hbnd cap h1
      have hln : l.toNat ≤ m.toNat := by omega
      have hmn : m.toNat ≤ xs.length := by omega
      have hlen : ((xs.take m.toNat).drop l.toNat).length = m.toNat - l.toNat := by simp; omega
      have hget : ∀ (i : Nat) (r : List AV), ((xs.take m.toNat).drop l.toNat)[i]? = some r → xs[l.toNat + i]? = some r := by
        intro i r hr
        rw [List.getElem?_drop, List.getElem?_take] at hr
        split at hr
        · exact hr
        · cases hr
      have hrun : (Instr.slice t (.slice (some ⟨B, off, none⟩) xs.length cap) (lo.map a.eval) (hi.map a.eval) none).run P w = .ok (.slice (some (if cap = l.toNat then ⟨B, off, none⟩ else ⟨B, off + l.toNat * z, none⟩)) (m.toNat - l.toNat) (cap - l.toNat)) w := by
        simp only [Instr.slice, Sem.run_bind, run_underlying ht, Result.andThen_ok, h0, hsz, Sem.run_pure]
        split <;> simp [addr_add]
      refine ⟨.dat (.sl ((xs.take m.toNat).drop l.toNat)) none, _, hrun, ⟨?_, fun t ht => by cases ht⟩, trivial, hK⟩
      rw [← hlen]
      by_cases hcl : cap = l.toNat
      · rw [if_pos hcl]
        have hnil : (xs.take m.toNat).drop l.toNat = [] := List.eq_nil_of_length_eq_zero (by rw [hlen]; omega)
        rw [hnil]
        exact .sl [] B off _ z' f (by simp) (fun i r hr => by simp at hr) (fun i j r a hr => by simp at hr) (fun i j r a hr => by simp at hr) (fun i j r a hr => by simp at hr) (fun i j r a hr => by simp at hr)
      · rw [if_neg hcl]
        have hzz : ∀ (i : Nat) (r : List AV), ((xs.take m.toNat).drop l.toNat)[i]? = some r → z' = z := fun i r hr => by
          rw [← h2 _ _ (hget i r hr)]; exact hrow r (List.mem_of_getElem? (hget i r hr))
        refine .sl _ B (off + l.toNat * z) _ z (fun i j => f (l.toNat + i) j) (by rw [hlen]; omega) (fun i r hr => hrow r (List.mem_of_getElem? (hget i r hr))) (fun i j r x hr hx => h3 _ j r x (hget i r hr) hx) (fun i j r x hr hx => ?_) (fun i j r x hr hx => ?_) (fun i j r x hr hx => h6 _ j r x (hget i r hr) hx)
        · have e := hzz i r hr
          subst e
          have := h4 _ j r x (hget i r hr) hx
          rwa [show off + (l.toNat + i) * z' + j = off + l.toNat * z' + i * z' + j by rw [Nat.add_mul]; omega] at this
        · have e := hzz i r hr
          subst e
          have := h5 _ j r x (hget i r hr) hx
          rwa [show off + (l.toNat + i) * z' + j = off + l.toNat * z' + i * z' + j by rw [Nat.add_mul]; omega] at this

/-- two structs or arrays of plain types -/
theorem eqc_run {t : TypeId} {ks : List CK} {neg : Bool} {op : BinOp} (hop : (op = .eql ∧ neg = false) ∨ (op = .neq ∧ neg = true)) (hk : plainK P 20 t = some ks) (hg : (aggB P t && !P.eqGuardType P.depth t) = true) {as bs : List AV} {X Y : Operand} {x y : Value} {e : Bool}
    (hx : DV w π (.agg as) x) (hy : DV w π (.agg bs) y) (he : cellsEq ks as bs = some e) : (do eqGuard op t X Y x y; binOp op t x y : Sem Value).run P w = .ok (.bool (e != neg)) w := by
  simp only [Bool.and_eq_true, Bool.not_eq_true'] at hg
  cases hx with
  | agg _ xs h1 h2 h3 =>
    cases hy with
    | agg _ ys k1 k2 k3 =>
      have hvx : Val w π P t as (.agg xs) := by
        unfold Val; rw [if_pos hg.1]; exact ⟨xs, rfl, ⟨by simpa using h1, fun i a v ha hv => h3 i a v ha (by simpa using hv)⟩, h2⟩
      have hvy : Val w π P t bs (.agg ys) := by
        unfold Val; rw [if_pos hg.1]; exact ⟨ys, rfl, ⟨by simpa using k1, fun i a v ha hv => k3 i a v ha (by simpa using hv)⟩, k2⟩
      have hr := eq_run 20 t ks hk Op.maxDepth (by decide) as bs _ _ e hvx hvy he
      have hgd := run_eqGuard_agg w op t X Y xs ys hg.2
      rw [Sem.run_bind, hgd]
      rcases hop with ⟨rfl, rfl⟩ | ⟨rfl, rfl⟩
      · simp [binOp, Op.equal, hr]
      · simp [binOp, Op.equal, hr]

theorem Tok.weaken {n n' e : Nat} {v : Value} (h : Tok P w π n e v) (hn : n' ≤ n) : Tok P w π n' e v := by
  rcases h with h | ⟨B, len, cap, cur, i, h1, h2, h3⟩
  · exact .inl h
  · exact .inr ⟨B, len, cap, cur, i, h1, by omega, h3⟩

/-- behind a call -/
theorem Rel.called (R : Rel P nt n0 w0 π0 U s a w β τ π) {id : Nat} (hid : ¬ U id) {w' : World} {π' : Nat → Nat → Prop} {v : Value} {r : AV} {fr : Option Nat} (hbel : Below w.heap.size w w') (hp : ∀ b o, π b o → π' b o) (hp' : ∀ b o, π' b o → π b o ∨ w.heap.size ≤ b)
    (hpl : ∀ b o, π' b o → b < w'.heap.size) (hd : DV w' π' r v) (ht : ∀ t, fr = some t → Tok P w' π' w.heap.size t v) :
    ∃ τ', RV β τ' w' π' (.dat r (fr.map fun _ => id)) v ∧ Rel P nt n0 w0 π0 (also U id) { s with live := match (generalizing := false) fr with | some e => (id, e) :: s.live | none => s.live } a w' β τ' π' := by
  have hsz : n0.n ≤ w.heap.size := Nat.le_trans R.n0le R.below.size
  cases fr with
  | none => exact ⟨τ, ⟨hd, fun t h => by cases h⟩, R.frame (fun _ _ => rfl) (fun _ _ => rfl) (fun _ h => .inl h) hp hp' hpl hbel⟩
  | some e =>
    have R1 : Rel P nt n0 w0 π0 U s a w' β τ π' := R.frame (fun _ _ => rfl) (fun _ _ => rfl) (fun _ h => h) hp hp' hpl hbel
    have htk := ht e rfl
    refine ⟨upd τ id v, ⟨hd, fun t h => by cases h; rw [upd_same]⟩, R1.addTok hid (htk.weaken hsz) (fun q e' B hq hB hB' => ?_) (fun b x hb hB' => ?_)⟩
    · have h1 := ((R.live q e' hq).2.block hB).2
      have h2 := (htk.block hB').1
      omega
    · have h1 := R.blocks_lt hb
      have h2 := (htk.block hB').1
      omega

theorem nodupB_spec : ∀ {l : List Nat}, nodupB l = true → l.Nodup
  | [], _ => List.nodup_nil
  | b :: bs, h => by
    simp only [nodupB, Bool.and_eq_true, Bool.not_eq_true'] at h
    rw [List.nodup_cons]
    exact ⟨by simpa using h.1, nodupB_spec h.2⟩

theorem cellsA_spec {l : List (Nat × Box)} : ∀ {ids : List Nat} {css : List (List AV)}, cellsA l ids = some css → css.length = ids.length ∧ ∀ (k : Nat) (b : Nat), ids[k]? = some b → ∃ x, lkB b l = some x ∧ css[k]? = some x.cells
  | [], css, h => by simp [cellsA] at h; subst h; exact ⟨rfl, fun k b hb => by simp at hb⟩
  | b :: bs, css, h => by
    simp only [cellsA] at h
    split at h <;> try (cases h; done)
    rename_i x css' h1 h2
    cases h
    obtain ⟨e, hs⟩ := cellsA_spec h2
    refine ⟨by simp [e], fun k b' hb => ?_⟩
    cases k with
    | zero => simp at hb; subst hb; exact ⟨x, h1, rfl⟩
    | succ k => exact hs k b' (by simpa using hb)

theorem lkB_setBs : ∀ {ids : List Nat} {css : List (List AV)} {l : List (Nat × Box)} {n : Nat} {x : Box}, ids.Nodup → css.length = ids.length → lkB n (setBs ids css l) = some x →
    (∃ (k : Nat) (cs : List AV), ids[k]? = some n ∧ css[k]? = some cs ∧ x = ⟨cs, []⟩ ∧ ∃ y, lkB n l = some y) ∨ (n ∉ ids ∧ lkB n l = some x)
  | [], css, l, n, x, _, _, h => .inr ⟨by simp, by cases css <;> exact h⟩
  | b :: bs, [], l, n, x, _, hl, h => by simp at hl
  | b :: bs, cs :: css, l, n, x, hnd, hl, h => by
    simp only [setBs] at h
    rw [List.nodup_cons] at hnd
    rcases lkB_setBs hnd.2 (by simpa using hl) h with ⟨k, cs', h1, h2, h3, y, hy⟩ | ⟨h1, h2⟩
    · refine .inl ⟨k + 1, cs', by simpa using h1, by simpa using h2, h3, ?_⟩
      rcases lkB_setB hy with ⟨_, _, y', hy'⟩ | ⟨_, hy'⟩
      · exact ⟨y', by rename_i e _; rw [e]; exact hy'⟩
      · exact ⟨y, hy'⟩
    · rcases lkB_setB h2 with ⟨e, hx, y, hy⟩ | ⟨hne, hx⟩
      · subst e; exact .inl ⟨0, cs, rfl, rfl, hx, y, hy⟩
      · exact .inr ⟨by simp [hne, h1], hx⟩

theorem BoxesAt.get {w : World} {π : Nat → Nat → Prop} : ∀ {css : List (List AV)} {Bs : List Nat}, BoxesAt w π css Bs → css.length = Bs.length ∧ ∀ (k : Nat) (cs : List AV) (B : Nat), css[k]? = some cs → Bs[k]? = some B → BoxR (fun _ => undef) w π B ⟨cs, []⟩
  | [], [], h => ⟨rfl, fun k cs B h => by simp at h⟩
  | [], B :: Bs, h => h.elim
  | cs :: css, [], h => h.elim
  | cs :: css, B :: Bs, h => by
    obtain ⟨e, hs⟩ := BoxesAt.get h.2
    refine ⟨by simp [e], fun k cs' B' h1 h2 => ?_⟩
    cases k with
    | zero => simp at h1 h2; subst h1; subst h2; exact h.1
    | succ k => exact hs k cs' B' (by simpa using h1) (by simpa using h2)

theorem BoxR.noTags {τ τ' : Nat → Value} {w : World} {π : Nat → Nat → Prop} {B : Nat} {x : Box} (h : BoxR τ w π B x) : BoxR τ' w π B ⟨x.cells, []⟩ := by
  obtain ⟨cur, el, h1, h2, h3, _, h5⟩ := h
  exact ⟨cur, el, h1, h2, h3, fun o q hq => (by cases hq), h5⟩

theorem Rel.boxesAt (R : Rel P nt n0 w0 π0 U s a w β τ π) : ∀ {ids : List Nat} {css : List (List AV)}, cellsA s.boxes ids = some css → BoxesAt w π css (ids.map β)
  | [], css, h => by simp [cellsA] at h; subst h; trivial
  | b :: bs, css, h => by
    simp only [cellsA] at h
    split at h <;> try (cases h; done)
    rename_i x css' h1 h2
    cases h
    exact ⟨(R.boxes b x h1).2.2.1.noTags, R.boxesAt h2⟩

theorem Rel.nodup (R : Rel P nt n0 w0 π0 U s a w β τ π) : ∀ {ids : List Nat} {css : List (List AV)}, ids.Nodup → cellsA s.boxes ids = some css → (ids.map β).Nodup
  | [], css, _, h => List.nodup_nil
  | b :: bs, css, hnd, h => by
    simp only [cellsA] at h
    split at h <;> try (cases h; done)
    rename_i x css' h1 h2
    rw [List.nodup_cons] at hnd
    simp only [List.map_cons, List.nodup_cons]
    refine ⟨fun hm => ?_, R.nodup hnd.2 h2⟩
    obtain ⟨b', hb', e⟩ := List.mem_map.1 hm
    obtain ⟨k, hk⟩ := List.mem_iff_getElem?.1 hb'
    obtain ⟨y, hy, _⟩ := (cellsA_spec h2).2 k b' hk
    have := R.inj b' b y x hy h1 e
    exact hnd.1 (this ▸ hb')

theorem Rel.svsA (R : Rel P nt n0 w0 π0 U s a w β τ π) : ∀ {Xs : List Operand} {xs : List Opd} {pas : List (Option AV)} {ids : List Nat}, Xs.mapM cOpd = some xs → Eng.svsA s xs = some (pas, ids) → ArgsR w π pas (ids.map β) (Xs.map a.eval)
  | [], xs, pas, ids, hx, hv => by
    simp at hx; subst hx
    simp [Eng.svsA] at hv
    obtain ⟨rfl, rfl⟩ := hv
    trivial
  | X :: Xs, xs, pas, ids, hx, hv => by
    simp only [List.mapM_cons, Option.bind_eq_bind, Option.bind_eq_some_iff, Option.pure_def, Option.some.injEq] at hx
    obtain ⟨x, hx, xs', hxs, rfl⟩ := hx
    simp only [Eng.svsA] at hv
    split at hv <;> try (cases hv; done)
    · rename_i av q as bs h1 h2
      cases hv
      exact ⟨(R.opd hx h1).1.1, R.svsA hxs h2⟩
    · rename_i cs as bs h1 h2
      cases hv
      exact ⟨RV.ref.1 (R.opd hx h1).1, R.svsA hxs h2⟩
    · rename_i b as bs h1 h2
      cases hv
      exact ⟨(R.opd hx h1).1, R.svsA hxs h2⟩

/-- behind a call that was given pointers -/
theorem Rel.calledB (R : Rel P nt n0 w0 π0 U s a w β τ π) {id : Nat} (hid : ¬ U id) {ids : List Nat} {css css' : List (List AV)} (hnd : ids.Nodup) (hcs : cellsA s.boxes ids = some css) (hlen : css'.length = css.length)
    {w' : World} {π' : Nat → Nat → Prop} {v : Value} {r : AV} {fr : Option Nat} (hbel : Blw (Fen.topB w (ids.map β)) w w') (hp : ∀ b o, π b o → π' b o) (hp' : ∀ b o, π' b o → π b o ∨ w.heap.size ≤ b)
    (hpl : ∀ b o, π' b o → b < w'.heap.size) (hbx : BoxesAt w' π' css' (ids.map β)) (hd : DV w' π' r v) (ht : ∀ t, fr = some t → Tok P w' π' w.heap.size t v) :
    ∃ τ', RV β τ' w' π' (.dat r (fr.map fun _ => id)) v ∧ Rel P nt n0 w0 π0 (also U id) { s with boxes := setBs ids css' s.boxes, live := match (generalizing := false) fr with | some e => (id, e) :: s.live | none => s.live } a w' β τ' π' := by
  obtain ⟨hlc, hget⟩ := cellsA_spec hcs
  have hlen' : css'.length = ids.length := by omega
  have hsz : n0.n ≤ w.heap.size := Nat.le_trans R.n0le R.below.size
  have hmem : ∀ B, B ∈ ids.map β → ∃ b x, b ∈ ids ∧ lkB b s.boxes = some x ∧ β b = B := fun B hB => by
    obtain ⟨b, hb, e⟩ := List.mem_map.1 hB
    obtain ⟨k, hk⟩ := List.mem_iff_getElem?.1 hb
    obtain ⟨x, hx, _⟩ := hget k b hk
    exact ⟨b, x, hb, hx, e⟩
  have hother : ∀ k, k < w.heap.size → k ∉ ids.map β → w'.heap[k]? = w.heap[k]? := fun k hk hx => hbel.block k hk hx
  have hnp : ∀ B, B ∈ ids.map β → ∀ o, ¬ π B o := fun B hB => by
    obtain ⟨b, x, _, hx, e⟩ := hmem B hB
    obtain ⟨_, _, ⟨_, _, _, _, _, _, hn⟩, _⟩ := R.boxes b x hx
    rw [← e]; exact hn
  have hc : ∀ b o, π b o → w'.cell? ⟨b, o, none⟩ = w.cell? ⟨b, o, none⟩ := fun b o h =>
    World.cell?_of_block (w := w) (hother b (R.prot b o h) (fun hm => hnp b hm o h))
  have hboxlt : ∀ b x, lkB b s.boxes = some x → β b < w.heap.size := fun b x h => R.blocks_lt h
  have hold : ∀ b x, lkB b (setBs ids css' s.boxes) = some x → ∃ y, lkB b s.boxes = some y := fun b x h => by
    rcases lkB_setBs hnd hlen' h with ⟨_, _, _, _, _, hy⟩ | ⟨_, hx⟩
    · exact hy
    · exact ⟨x, hx⟩
  have R1 : Rel P nt n0 w0 π0 U { s with boxes := setBs ids css' s.boxes } a w' β τ π' := by
    refine ⟨R.size, fun t v h => ?_, fun b x h => ?_, fun b b' x x' h h' e => ?_, fun q e h => ?_, R.liveInj, fun q e b x h h' hB => ?_, R.below.trans ⟨hbel.os, hbel.tape, hbel.output, hbel.size, fun k hk hX => ?_, hbel.others⟩, R.n0le, hpl, fun b o h => hp _ _ (R.prot0 b o h), fun b o h => ?_, R.fore, R.foreU, fun b o h => (hc b o (R.prot0 b o h)).trans (R.kept b o h)⟩
    · obtain ⟨⟨x, hx, hv⟩, hu⟩ := R.slots t v h
      exact ⟨⟨x, hx, RV.mono (fun _ _ => rfl) (fun _ _ => rfl) hp hc hu hv⟩, hu⟩
    · rcases lkB_setBs hnd hlen' h with ⟨k, cs, h1, h2, rfl, y, hy⟩ | ⟨hni, hx⟩
      · obtain ⟨g1, g2, g3, g4⟩ := R.boxes b y hy
        refine ⟨g1, g2, ?_, fun o q hq => by cases hq⟩
        exact (hbx.get.2 k cs (β b) h2 (by simp [h1])).noTags
      · obtain ⟨g1, g2, g3, g4⟩ := R.boxes b x hx
        have hnm : β b ∉ ids.map β := fun hm => by
          obtain ⟨b', x', hb', hx', e⟩ := hmem _ hm
          exact hni (R.inj b' b x' x hx' hx e ▸ hb')
        refine ⟨g1, g2, g3.keep (fun _ _ => rfl) g4 (hother _ (hboxlt b x hx) hnm) hp hc (fun o ho => ?_), g4⟩
        rcases hp' _ _ ho with h | h
        · obtain ⟨_, _, _, _, _, _, hn⟩ := g3; exact hn o h
        · have := hboxlt b x hx; omega
    · obtain ⟨y, hy⟩ := hold b x h
      obtain ⟨y', hy'⟩ := hold b' x' h'
      exact R.inj b b' y y' hy hy' e
    · obtain ⟨h1, h2⟩ := R.live q e h
      refine ⟨h1, h2.keep (fun B hB => hother B (h2.block hB).2 (fun hm => ?_)) (fun B o hB ho => ?_)⟩
      · obtain ⟨b, x, _, hx, eb⟩ := hmem B hm
        exact R.liveBox q e b x h hx (by rw [hB, eb])
      · rcases hp' _ _ ho with h | h
        · exact h
        · have := (h2.block hB).2; omega
    · obtain ⟨y, hy⟩ := hold b x h'
      exact R.liveBox q e b y h hy hB
    · refine hother k (by omega) (fun hm => ?_)
      obtain ⟨b, x, _, hx, eb⟩ := hmem k hm
      rcases (R.boxes b x hx).2.1 with h | h
      · omega
      · rw [eb] at h; exact hX h.2
    · rcases hp' b o h with h | h
      · exact R.protOld b o h
      · exact .inr (by omega)
  cases fr with
  | none => exact ⟨τ, ⟨hd, fun t h => by cases h⟩, R1.sub fun _ h => .inl h⟩
  | some e =>
    have htk := ht e rfl
    refine ⟨upd τ id v, ⟨hd, fun t h => by cases h; rw [upd_same]⟩, R1.addTok hid (htk.weaken hsz) (fun q e' B hq hB hB' => ?_) (fun b x hb hB' => ?_)⟩
    · have h1 := ((R.live q e' hq).2.block hB).2
      have h2 := (htk.block hB').1
      omega
    · obtain ⟨y, hy⟩ := hold b x hb
      have h1 := hboxlt b y hy
      have h2 := (htk.block hB').1
      omega

theorem lkB_delB {m : Nat} : ∀ {l : List (Nat × Box)} {n : Nat}, lkB n (delB m l) = if n = m then none else lkB n l
  | [], n => by simp [delB, lkB]
  | (k, v) :: r, n => by
    have ih := lkB_delB (m := m) (l := r) (n := n)
    simp only [delB]
    by_cases hmk : m = k
    · subst hmk
      simp only [beq_self_eq_true, cond_true, lkB, ih]
      by_cases hn : n = m
      · simp [hn]
      · have hn' : (n == m) = false := by simpa using hn
        simp [hn, hn']
    · have hmk' : (m == k) = false := by simpa using hmk
      simp only [hmk', cond_false, lkB, ih]
      by_cases hnk : n = k
      · simp [hnk, Ne.symm hmk]
      · have hnk' : (n == k) = false := by simpa using hnk
        simp [hnk']

theorem lk_frzL {b : Nat} {cs : List AV} : ∀ {l : List (Nat × SV)} {t : Nat}, lk t (frzL b cs l) = (lk t l).map (frzV b cs)
  | [], t => rfl
  | (m, v) :: r, t => by
    simp only [frzL, lk]
    cases h : t == m
    · simp only [cond_false]; exact lk_frzL
    · rfl

/-- a box turns into what never turns again -/
theorem Rel.freeze (R : Rel P nt n0 w0 π0 U s a w β τ π) {b : Nat} {x : Box} (hb : lkB b s.boxes = some x) (h4 : 4 ≤ b) :
    ∃ π' : Nat → Nat → Prop, (∀ B o, π B o → π' B o) ∧ Rel P nt n0 w0 π0 U { s with slots := frzL b x.cells s.slots, boxes := delB b s.boxes } a w β τ π' ∧ DV w π' (.ref x.cells) (.pointer (some ⟨β b, 0, none⟩)) := by
  obtain ⟨hUb, hokb, hbox, htg⟩ := R.boxes b x hb
  have hlt := R.blocks_lt hb
  have hown : n0.n ≤ β b := by rcases hokb with h | h; exact h; exact absurd h.1 (by omega)
  obtain ⟨f, hf, hsc, hdv, _⟩ := hbox.cells
  have hp : ∀ B o, π B o → (fun B o => π B o ∨ (B = β b ∧ o < x.cells.length)) B o := fun _ _ h => .inl h
  have hin : ∀ (j : Nat) (c : AV), x.cells[j]? = some c → j < x.cells.length := fun j c hc => (List.getElem?_eq_some_iff.1 hc).1
  have href : ∀ d, RV β τ w (fun B o => π B o ∨ (B = β b ∧ o < x.cells.length)) (.rp (x.cells.drop d)) (.pointer (some ⟨β b, d, none⟩)) := by
    intro d
    refine ⟨β b, d, fun j => f (d + j), rfl, ?_, ?_, ?_, ?_⟩ <;> intro j c hc <;> rw [List.getElem?_drop] at hc
    · exact hsc _ _ hc
    · exact .inr ⟨rfl, hin _ _ hc⟩
    · exact hf _ (hin _ _ hc)
    · exact (hdv _ _ hc).mono hp (fun _ _ _ => rfl)
  refine ⟨_, hp, ?_, RV.ref.1 (by simpa using href 0)⟩
  have hdel : ∀ c y, lkB c (delB b s.boxes) = some y → c ≠ b ∧ lkB c s.boxes = some y := fun c y h => by
    rw [lkB_delB] at h
    split at h
    · cases h
    · rename_i hne; exact ⟨hne, h⟩
  refine ⟨R.size, fun t v h => ?_, fun c y h => ?_, fun c c' y y' h h' e => R.inj c c' y y' (hdel c y h).2 (hdel c' y' h').2 e, fun q e h => ?_, R.liveInj, fun q e c y h h' hB => R.liveBox q e c y h (hdel c y h').2 hB, R.below, R.n0le, fun B o h => ?_, fun B o h => .inl (R.prot0 B o h), fun B o h => ?_, R.fore, R.foreU, R.kept⟩
  · simp only [lk_frzL, Option.map_eq_some_iff] at h
    obtain ⟨u, hu, rfl⟩ := h
    obtain ⟨⟨y, hy, hr⟩, hi⟩ := R.slots t u hu
    have hm : RV β τ w (fun B o => π B o ∨ (B = β b ∧ o < x.cells.length)) u y := RV.mono (fun _ _ => rfl) (fun _ _ => rfl) hp (fun _ _ _ => rfl) hi hr
    cases u with
    | dat av q => exact ⟨⟨y, hy, hm⟩, hi⟩
    | rp cs => exact ⟨⟨y, hy, hm⟩, hi⟩
    | undef => exact ⟨⟨y, hy, hm⟩, hi⟩
    | ptr c o =>
      simp only [frzV]
      by_cases hcb : c = b
      · subst hcb
        simp only [beq_self_eq_true, cond_true]
        have e : y = .pointer (some ⟨β c, o, none⟩) := hr
        subst e
        exact ⟨⟨_, hy, href o⟩, trivial⟩
      · have hcb' : (c == b) = false := by simpa using hcb
        simp only [hcb', cond_false]
        exact ⟨⟨y, hy, hm⟩, hi⟩
  · obtain ⟨hne, hc⟩ := hdel c y h
    obtain ⟨g1, g2, g3, g4⟩ := R.boxes c y hc
    refine ⟨g1, g2, g3.keep (fun _ _ => rfl) g4 rfl hp (fun _ _ _ => rfl) (fun o ho => ?_), g4⟩
    rcases ho with ho | ⟨ho, _⟩
    · obtain ⟨_, _, _, _, _, _, hn⟩ := g3; exact hn o ho
    · exact hne (R.inj c b y x hc hb ho)
  · obtain ⟨h1, h2⟩ := R.live q e h
    refine ⟨h1, h2.keep (fun B hB => rfl) (fun B o hB ho => ?_)⟩
    rcases ho with ho | ⟨ho, _⟩
    · exact ho
    · exact absurd (ho ▸ hB) (R.liveBox q e b x h hb)
  · rcases h with h | ⟨rfl, _⟩
    · exact R.prot B o h
    · exact hlt
  · rcases h with h | ⟨rfl, _⟩
    · exact R.protOld B o h
    · exact .inr hown

theorem cellsA_delB {l : List (Nat × Box)} {b : Nat} : ∀ {ids : List Nat} {css : List (List AV)}, b ∉ ids → cellsA l ids = some css → cellsA (delB b l) ids = some css
  | [], css, _, h => h
  | c :: ids, css, hn, h => by
    simp only [cellsA] at h ⊢
    have hne : c ≠ b := fun e => hn (e ▸ List.mem_cons_self ..)
    split at h <;> try (cases h; done)
    rename_i x css' h1 h2
    rw [lkB_delB, if_neg hne, h1, cellsA_delB (fun hm => hn (List.mem_cons_of_mem _ hm)) h2]
    exact h

theorem Rel.freezes : ∀ {ids : List Nat} {css : List (List AV)} {s : S} {π : Nat → Nat → Prop}, Rel P nt n0 w0 π0 U s a w β τ π → ids.Nodup → ownIds ids = true → cellsA s.boxes ids = some css →
    ∃ π' : Nat → Nat → Prop, (∀ B o, π B o → π' B o) ∧ Rel P nt n0 w0 π0 U (frzs ids css s) a w β τ π' ∧ ∀ (k : Nat) (b : Nat) (cs : List AV), ids[k]? = some b → css[k]? = some cs → DV w π' (.ref cs) (.pointer (some ⟨β b, 0, none⟩))
  | [], css, s, π, R, _, _, h => by
    simp [cellsA] at h; subst h
    exact ⟨π, fun _ _ h => h, R, fun k b cs h => by simp at h⟩
  | b :: ids, css, s, π, R, hnd, hown, h => by
    simp only [cellsA] at h
    split at h <;> try (cases h; done)
    rename_i x css' h1 h2
    cases h
    rw [List.nodup_cons] at hnd
    simp only [ownIds, Bool.and_eq_true, decide_eq_true_eq] at hown
    obtain ⟨π1, m1, R1, d1⟩ := R.freeze h1 hown.1
    obtain ⟨π2, m2, R2, d2⟩ := Rel.freezes R1 hnd.2 hown.2 (cellsA_delB hnd.1 h2)
    refine ⟨π2, fun B o h => m2 _ _ (m1 _ _ h), R2, fun k c cs hk hc => ?_⟩
    cases k with
    | zero => simp at hk hc; subst hk; subst hc; exact d1.mono m2 (fun _ _ _ => rfl)
    | succ k => exact d2 k c cs (by simpa using hk) (by simpa using hc)

theorem fillP_DVs {w : World} {π π' : Nat → Nat → Prop} (hp : ∀ B o, π B o → π' B o) : ∀ {pas : List (Option AV)} {css : List (List AV)} {Bs : List Nat} {vs : List Value}, ArgsR w π pas Bs vs → css.length = Bs.length →
    (∀ (k : Nat) (cs : List AV) (B : Nat), css[k]? = some cs → Bs[k]? = some B → DV w π' (.ref cs) (.pointer (some ⟨B, 0, none⟩))) → DVs w π' (fillP pas css) vs
  | [], css, Bs, vs, h, _, _ => by
    have : vs = [] := by cases Bs <;> cases vs <;> first | rfl | exact h.elim
    subst this
    have : fillP [] css = [] := by cases css <;> rfl
    rw [this]; exact .nil _ _
  | some av :: pas, css, Bs, [], h, _, _ => by cases Bs <;> exact h.elim
  | some av :: pas, css, Bs, v :: vs, h, hl, hr => by
    have h' : DV w π av v ∧ ArgsR w π pas Bs vs := by cases Bs <;> exact h
    have e : fillP (some av :: pas) css = av :: fillP pas css := by cases css <;> rfl
    rw [e]
    exact .cons (h'.1.mono hp (fun _ _ _ => rfl)) (fillP_DVs hp h'.2 hl hr)
  | none :: pas, css, [], vs, h, _, _ => by cases vs <;> exact h.elim
  | none :: pas, css, B :: Bs, [], h, _, _ => h.elim
  | none :: pas, [], B :: Bs, v :: vs, h, hl, _ => by simp at hl
  | none :: pas, cs :: css, B :: Bs, v :: vs, h, hl, hr => by
    obtain ⟨rfl, h2⟩ := h
    exact .cons (hr 0 cs B rfl rfl) (fillP_DVs hp h2 (by simpa using hl) (fun k cs B h1 h2 => hr (k + 1) cs B (by simpa using h1) (by simpa using h2)))

theorem frzs_live : ∀ {ids : List Nat} {css : List (List AV)} {s : S}, (frzs ids css s).live = s.live
  | [], css, s => by cases css <;> rfl
  | b :: ids, [], s => rfl
  | b :: ids, cs :: css, s => frzs_live (ids := ids) (css := css)

theorem chunkA_len (z : Nat) : ∀ (n : Nat) (cs : List AV), (chunkA z n cs).length = n
  | 0, _ => rfl
  | n + 1, cs => by simp [chunkA, chunkA_len z n]
theorem chunkA_at (z : Nat) : ∀ (n : Nat) (cs : List AV) (i : Nat) (r : List AV), (chunkA z n cs)[i]? = some r → i < n ∧ r = (cs.drop (i * z)).take z
  | 0, _, i, r, h => by simp [chunkA] at h
  | n + 1, cs, 0, r, h => by simp only [chunkA, List.getElem?_cons_zero, Option.some.injEq] at h; subst h; simp
  | n + 1, cs, i + 1, r, h => by
    simp only [chunkA, List.getElem?_cons_succ] at h
    obtain ⟨h1, h2⟩ := chunkA_at z n _ i r h
    refine ⟨by omega, ?_⟩
    rw [h2, List.drop_drop]
    congr 2
    rw [Nat.succ_mul, Nat.add_comm]
theorem ref_sl {π : Nat → Nat → Prop} {cs : List AV} {B o : Nat} (h : DV w π (.ref cs) (.pointer (some ⟨B, o, none⟩))) {off n z : Nat} (hn : n * z ≤ (cs.drop off).length) : DV w π (.sl (chunkA z n (cs.drop off))) (.slice (some ⟨B, o + off, none⟩) n n) := by
  cases h with
  | ref _ _ _ f h1 h2 h3 h4 =>
    have hget : ∀ (i j : Nat) (r : List AV) (a : AV), (chunkA z n (cs.drop off))[i]? = some r → r[j]? = some a → cs[off + (i * z + j)]? = some a := by
      intro i j r a hi hj
      obtain ⟨_, rfl⟩ := chunkA_at z n _ i r hi
      rw [List.getElem?_take] at hj
      split at hj
      · rw [List.getElem?_drop, List.getElem?_drop] at hj; rw [← hj]
      · cases hj
    have e : ∀ i j, o + off + i * z + j = o + (off + (i * z + j)) := fun i j => by omega
    have hl := chunkA_len z n (cs.drop off)
    have key := DV.sl (w := w) (π := π) (chunkA z n (cs.drop off)) B (o + off) n z (fun i j => f (off + (i * z + j))) (by omega) (fun i r hi => ?_) (fun i j r a hi hj => h1 _ _ (hget i j r a hi hj)) (fun i j r a hi hj => by rw [e]; exact h2 _ _ (hget i j r a hi hj)) (fun i j r a hi hj => by rw [e]; exact h3 _ _ (hget i j r a hi hj)) (fun i j r a hi hj => h4 _ _ (hget i j r a hi hj))
    · rw [hl] at key; exact key
    · obtain ⟨hin, rfl⟩ := chunkA_at z n _ i r hi
      have : (i + 1) * z ≤ n * z := Nat.mul_le_mul_right _ hin
      rw [Nat.succ_mul] at this
      simp only [List.length_take, List.length_drop] at hn ⊢
      omega
theorem slA_run {t : TypeId} {n e z B off : Nat} (ht : P.underlying t = some (.array n e)) (hz : szOf P e = some z) :
    (Instr.sliceAt t (.pointer (some ⟨B, off, none⟩)) none none none).run P w = .ok (.slice (some ⟨B, off, none⟩) n n) w := by
  simp [Instr.sliceAt, run_underlying ht, Instr.sureAddr, Instr.sliceBounds, run_size hz, Addr.add]
def fltV : AV → Value
  | .float _ r => .float .f64 r
  | _ => undef
def rteS (b : Nat) : Ieee.Datum → Sem Value
  | .nan s t => if FloatKind.f64.format.quiet t = t then pure (.float .f64 b) else do
      let kept ← choose (.extern "math.Floor,Ceil,Trunc,RoundToEven.signallingNaN kept" 2)
      pure (.float .f64 (if kept == 1 then b else FloatKind.f64.encode (.nan s (FloatKind.f64.format.quiet t))))
  | d => pure (.float .f64 (FloatKind.f64.encode (d.integral .even)))
def rteD (b : Nat) : Ieee.Datum → Option AV
  | .nan _ t => if FloatKind.f64.format.quiet t = t then some (.float .f64 b) else none
  | d => some (.float .f64 (FloatKind.f64.encode (d.integral .even)))
theorem rteD_run {π : Nat → Nat → Prop} {b : Nat} {v : AV} : ∀ {d : Ieee.Datum}, rteD b d = some v → (rteS b d).run P w = .ok (fltV v) w ∧ DV w π v (fltV v)
  | .nan s t, h => by
    simp only [rteD] at h
    split at h <;> try (cases h; done)
    rename_i hq
    cases h
    simp only [rteS, hq, if_true]
    exact ⟨rfl, .float _ _⟩
  | .number s m i, h => by cases h; exact ⟨rfl, .float _ _⟩
  | .infinity s, h => by cases h; exact ⟨rfl, .float _ _⟩
theorem rte_run {π : Nat → Nat → Prop} {b : Nat} {v : AV} (h : rteA b = some v) : ((Extern.MathFloor.toIntegral "math.RoundToEven" .even) #[.float .f64 b]).run P w = .ok (fltV v) w ∧ DV w π v (fltV v) :=
  by
  have hto : Extern.MathFloor.toIntegral "math.RoundToEven" .even #[.float .f64 b] = rteS b (FloatKind.f64.decode b) := by
    show ((match FloatKind.f64.decode b with
            | .nan s t => if FloatKind.f64.format.quiet t = t then pure (.float .f64 b) else do
                let kept ← choose (.extern "math.Floor,Ceil,Trunc,RoundToEven.signallingNaN kept" 2)
                pure (.float .f64 (if kept == 1 then b else FloatKind.f64.encode (.nan s (FloatKind.f64.format.quiet t))))
            | d => pure (.float .f64 (FloatKind.f64.encode (d.integral .even)))) : Sem Value) = _
    generalize FloatKind.f64.decode b = d
    cases d <;> rfl
  have hta : rteD b (FloatKind.f64.decode b) = some v := by
    rw [← h]
    show rteD b (FloatKind.f64.decode b) = ((match FloatKind.f64.decode b with
      | .nan _ t => if FloatKind.f64.format.quiet t = t then some (.float .f64 b) else none
      | d => some (.float .f64 (FloatKind.f64.encode (d.integral .even)))) : Option AV)
    generalize FloatKind.f64.decode b = d
    cases d <;> rfl
  rw [hto]
  exact rteD_run hta
theorem xt_run {f : FuncId} {e : Xt} (he : xtOf P f = some e) {a v : AV} {x : Value} (hv : xtA e a = some v) (hd : DV w π a x) : ∃ u, (callFunc f #[x]).run P w = .ok (.value u) w ∧ DV w π v u := by
  unfold xtOf at he
  split at he <;> try (cases he; done)
  rename_i fn hf
  split at he <;> try (cases he; done)
  rename_i hb
  simp only [Bool.and_eq_true] at hb
  have hb1 : fn.body = none := by simpa using hb.1
  have hb2 : Extern.findNext fn = none := by simpa using hb.2
  split at he
  · rename_i hn
    have hn := eq_of_beq hn
    cases he
    have hfi : Extern.find fn = some Extern.MathFloatBits.float64bits := by unfold Extern.find; rw [hn]; rfl
    cases a <;> try (cases hv; done)
    rename_i k b
    cases k <;> cases hv
    cases hd
    refine ⟨.int .u64 b, ?_, .int _ _⟩
    rw [run_callFunc_extern hf (by rw [hn]; rfl) (by rw [hb1]; rfl) hb2 hfi]
    rfl
  · split at he
    · rename_i hn
      have hn := eq_of_beq hn
      cases he
      have hfi : Extern.find fn = some Extern.MathFloatBits.float64frombits := by unfold Extern.find; rw [hn]; rfl
      cases a <;> try (cases hv; done)
      rename_i k b
      cases k <;> cases hv
      cases hd
      refine ⟨.float .f64 b.toNat, ?_, .float _ _⟩
      rw [run_callFunc_extern hf (by rw [hn]; rfl) (by rw [hb1]; rfl) hb2 hfi]
      rfl
    · split at he <;> try (cases he; done)
      rename_i hn
      have hn := eq_of_beq hn
      cases he
      have hfi : Extern.find fn = some (Extern.MathFloor.toIntegral "math.RoundToEven" .even) := by unfold Extern.find; rw [hn]; rfl
      cases a <;> try (cases hv; done)
      rename_i k b
      cases k <;> try (cases hv; done)
      cases hd
      have hv : rteA b = some v := hv
      have hrun : ((Extern.MathFloor.toIntegral "math.RoundToEven" .even) #[.float .f64 b]).run P w = .ok (fltV v) w ∧ DV w π v (fltV v) := by
        exact rte_run hv
      refine ⟨_, ?_, hrun.2⟩
      rw [run_callFunc_extern hf (by rw [hn]; rfl) (by rw [hb1]; rfl) hb2 hfi, hrun.1]
      rfl
theorem callFunc_run {f : Nat} (hc : callable P f = true) (args : Array Value) : (callFunc f args).run P w = .ok (.enter f args) w := by
  unfold callable at hc
  split at hc
  · rename_i fn hfn
    simp only [Bool.and_eq_true, bne_iff_ne, ne_eq] at hc
    obtain ⟨b, hb⟩ := Option.isSome_iff_exists.1 hc.2
    simp [callFunc, hfn, hc.1, hb]
  · cases hc

theorem aop_sound (R : Rel P nt n0 w0 π0 U s a w β τ π) {o : Oper} {c : COp} {id : Nat} (hid : ¬ U id) (hc : cOp P o.op = some c) {K : SV → S → Prop} (h : aop (Pure P) id c K s) {next : Act → World → Prop} {Q : Exit → Act → World → Prop}
    (hn : ∀ v s' x w' β' τ' π', K v s' → RV β' τ' w' π' v x → v.inU (also U id) → Rel P nt n0 w0 π0 (also U id) s' a w' β' τ' π' → next (a.put o.dst x) w') : o.wp P a w next Q := by
  obtain ⟨dst, op, type, pos, after, guard⟩ := o
  simp only at hc
  have hsub : ∀ n, U n → also U id n := fun n h => .inl h
  have hdat : ∀ (v : AV), (SV.dat v none).inU (also U id) := fun _ => trivial
  -- a value, nothing else
  have fin : ∀ {v : SV} {y : Value}, (execOp a.eval ⟨dst, op, type, pos, after, guard⟩).run P w = .ok (.value y) w → RV β τ w π v y → v.inU U → K v s → Oper.wp P ⟨dst, op, type, pos, after, guard⟩ a w next Q := by
    intro v y hr hv hu hK
    unfold Oper.wp
    rw [hr]
    exact hn v s y w β τ π hK hv (SV.inU_mono hsub hu) (R.sub hsub)
  have find : ∀ {v : AV} {y : Value}, (execOp a.eval ⟨dst, op, type, pos, after, guard⟩).run P w = .ok (.value y) w → DV w π v y → K (.dat v none) s → Oper.wp P ⟨dst, op, type, pos, after, guard⟩ a w next Q :=
    fun {v y} hr hv hK => fin (v := .dat v none) hr ⟨hv, fun t ht => by cases ht⟩ trivial hK
  cases op <;> simp only [cOp] at hc <;> try (cases hc; done)
  case move x =>
    simp only [Option.map_eq_some_iff] at hc
    obtain ⟨x', hx, rfl⟩ := hc
    simp only [aop] at h
    obtain ⟨v, hv, hK⟩ := withV_inv h
    obtain ⟨hr, hu⟩ := R.opd hx hv
    exact fin rfl hr hu hK
  case assign x =>
    simp only [Option.map_eq_some_iff] at hc
    obtain ⟨x', hx, rfl⟩ := hc
    simp only [aop] at h
    obtain ⟨v, hv, hK⟩ := withV_inv h
    obtain ⟨hr, hu⟩ := R.opd hx hv
    exact fin rfl hr hu hK
  case pick cc aa bb =>
    split at hc <;> try (cases hc; done)
    rename_i c' a' b' h1 h2 h3
    cases hc
    simp only [aop] at h
    obtain ⟨t, ht, h⟩ := withV_inv h
    have hd := R.opdA h1 ht
    cases t <;> try (exact h.elim)
    rename_i t
    obtain ⟨u, hu, h⟩ := withV_inv h
    obtain ⟨v, hv, hK1, hK2⟩ := withV_inv h
    have hb := hd.bool_inv
    obtain ⟨ra, ua⟩ := R.opd h2 hu
    obtain ⟨rb, ub⟩ := R.opd h3 hv
    cases t
    · exact fin (by simp [execOp, hb, asBool]) rb ub (hK2 rfl)
    · exact fin (by simp [execOp, hb, asBool]) ra ua (hK1 rfl)
  case alloc t =>
    simp only [Option.map_eq_some_iff] at hc
    obtain ⟨zs, hz, rfl⟩ := hc
    simp only [aop] at h
    obtain ⟨z, hzr, hzd, hzs⟩ := zero_run (P := P) (w := w) (π := π) hz
    have hr : (execOp a.eval ⟨dst, .alloc t, type, pos, after, guard⟩).run P w = .ok (.value (.pointer (some ⟨w.heap.size, 0, none⟩))) (w.alloc (.cells z.cells t)) := by
      simp [execOp, Instr.alloc, hzr, newVar, Go.newRow]
    unfold Oper.wp
    rw [hr]
    exact hn _ _ _ _ _ _ _ h (show RV (upd β id w.heap.size) τ _ π (.ptr id 0) _ by simp [RV, upd_same]) (.inr rfl) (R.newBox hid t hzd hzs)
  case box t x =>
    simp only [Option.map_eq_some_iff] at hc
    obtain ⟨x', hx, rfl⟩ := hc
    simp only [aop] at h
    obtain ⟨av, hv, h⟩ := withV_inv h
    have hd := R.opdA hx hv
    have hr : (execOp a.eval ⟨dst, .box t x, type, pos, after, guard⟩).run P w = .ok (.value (.pointer (some ⟨w.heap.size, 0, none⟩))) (w.alloc (.cells (a.eval x).cells t)) := by
      simp [execOp, Instr.box, newVar, Go.newRow]
    obtain ⟨hok, hK⟩ := h
    obtain ⟨hcd, hcs⟩ := hd.cells (fun vs e => by subst e; simp [stOk] at hok)
    unfold Oper.wp
    rw [hr]
    exact hn _ _ _ _ _ _ _ hK (show RV (upd β id w.heap.size) τ _ π (.ptr id 0) _ by simp [RV, upd_same]) (.inr rfl) (R.newBox hid t hcd hcs)
  case build t ps =>
    split at hc <;> try (cases hc; done)
    rename_i zs ps' hz hps
    split at hc <;> try (cases hc; done)
    rename_i hfit
    cases hc
    simp only [Bool.and_eq_true] at hfit
    obtain ⟨v, y, hr, hv, hu, hK⟩ := R.build hz hps hfit.1 hfit.2 h
    exact fin (by simp only [execOp, Sem.run_bind, hr, Result.andThen_ok, Sem.run_pure]) hv hu hK
  case buildSlice t n ps =>
    split at hc <;> try (cases hc; done)
    rename_i e ht
    split at hc <;> try (cases hc; done)
    rename_i zs z xs hz hsz hxs
    split at hc <;> try (cases hc; done)
    rename_i hok
    cases hc
    obtain ⟨v, y, s', w', τ', π', hr, hv, hu, hK, R'⟩ := R.buildSlice ht hz hsz hxs hok hid h
    unfold Oper.wp
    have : (execOp a.eval ⟨dst, .buildSlice t n ps, type, pos, after, guard⟩).run P w = .ok (.value y) w' := by simp only [execOp, Sem.run_bind, hr, Result.andThen_ok, Sem.run_pure]
    rw [this]
    exact hn v s' y w' β τ' π' hK hv hu R'
  case load t x =>
    split at hc <;> try (cases hc; done)
    rename_i r x' hr hx
    cases hc
    obtain ⟨v, y, hr, hv, hu, hK⟩ := R.load hx hr h
    exact fin (by simp only [execOp, Sem.run_bind, hr, Result.andThen_ok, Sem.run_pure]) hv hu hK
  case store t x v =>
    split at hc <;> try (cases hc; done)
    rename_i z x' v' hz hx hv
    cases hc
    obtain ⟨s', w', hr, hK, R'⟩ := R.store hx hv hz h
    unfold Oper.wp
    have : (execOp a.eval ⟨dst, .store t x v, type, pos, after, guard⟩).run P w = .ok .skip w' := by simp only [execOp, Sem.run_bind, hr, Result.andThen_ok, Sem.run_pure]
    rw [this]
    exact hn .undef s' undef w' β τ π hK rfl trivial (R'.sub hsub)
  case nilCheck x =>
    simp only [Option.map_eq_some_iff] at hc
    obtain ⟨x', hx, rfl⟩ := hc
    simp only [aop] at h
    obtain ⟨v, hv, h⟩ := withV_inv h
    obtain ⟨hr, hu⟩ := R.opd hx hv
    cases v with
    | ptr b o =>
      have he : a.eval x = .pointer (some ⟨β b, o, none⟩) := hr
      exact fin (v := .ptr b o) (by simp [execOp, he]) (show RV β τ w π (.ptr b o) (.pointer (some ⟨β b, o, none⟩)) from rfl) hu h
    | rp cs =>
      obtain ⟨B, off, f, he, hrest⟩ := hr
      exact fin (v := .rp cs) (by simp [execOp, he]) (show RV β τ w π (.rp cs) (.pointer (some ⟨B, off, none⟩)) from ⟨B, off, f, rfl, hrest⟩) trivial h
    | undef => exact h.elim
    | dat av q =>
      cases av <;> try (exact h.elim)
      rename_i fn as bs
      cases fn <;> try (exact h.elim)
      rename_i f
      have hr' := hr
      obtain ⟨hd, htag⟩ := hr
      generalize hvx : a.eval x = y at hd hr'
      cases hd
      exact fin (by simp [execOp, hvx]) hr' hu h
  case binOp op t x y yt =>
    split at hc <;> try (cases hc; done)
    rename_i x' y' hx hy
    split at hc
    · rename_i hsc
      cases hc
      simp only [aop] at h
      obtain ⟨av, hav, h⟩ := withV_inv h
      obtain ⟨bv, hbv, h⟩ := withV_inv h
      obtain ⟨v, hv, hK⟩ := withV_inv h
      obtain ⟨u, hu, hd⟩ := bin_run (P := P) (X := x) (Y := y) hsc hv (R.opdA hx hav) (R.opdA hy hbv)
      exact find (by simp only [execOp]; rw [Sem.run_bind, hu]; rfl) hd hK
    · split at hc
      · rename_i hbb
        have key : ∀ neg, ((op = .eql ∧ neg = false) ∨ (op = .neq ∧ neg = true)) → c = .bb neg x' y' → Oper.wp P ⟨dst, .binOp op t x y yt, type, pos, after, guard⟩ a w next Q := by
          intro neg hop e
          subst e
          simp only [aop] at h
          obtain ⟨av, hav, h⟩ := withV_inv h
          obtain ⟨bv, hbv, h⟩ := withV_inv h
          obtain ⟨v, hv, hK⟩ := withV_inv h
          obtain ⟨u, hu, hd⟩ := bb_run (P := P) (X := x) (Y := y) hop hbb hv (R.opdA hx hav) (R.opdA hy hbv)
          exact find (by simp only [execOp]; rw [Sem.run_bind, hu]; rfl) hd hK
        split at hc <;> try (cases hc; done)
        · cases hc; exact key false (.inl ⟨rfl, rfl⟩) rfl
        · cases hc; exact key true (.inr ⟨rfl, rfl⟩) rfl
      · have key : ∀ neg, ((op = .eql ∧ neg = false) ∨ (op = .neq ∧ neg = true)) → cEq P t neg x' y' = some c → Oper.wp P ⟨dst, .binOp op t x y yt, type, pos, after, guard⟩ a w next Q := by
          intro neg hop he
          unfold cEq at he
          split at he <;> try (cases he; done)
          rename_i ks hk
          split at he <;> try (cases he; done)
          rename_i hg
          cases he
          simp only [aop] at h
          obtain ⟨av, hav, h⟩ := withV_inv h
          cases av <;> try (exact h.elim)
          obtain ⟨bv, hbv, h⟩ := withV_inv h
          cases bv <;> try (exact h.elim)
          obtain ⟨e, he, hK⟩ := withV_inv h
          have hr := eqc_run (P := P) (X := x) (Y := y) hop hk hg (R.opdA hx hav) (R.opdA hy hbv) he
          exact find (by simp only [execOp]; rw [Sem.run_bind, hr]; rfl) (.bool _) hK
        split at hc <;> try (cases hc; done)
        · exact key false (.inl ⟨rfl, rfl⟩) hc
        · exact key true (.inr ⟨rfl, rfl⟩) hc
  case unOp op t x =>
    simp only [Option.map_eq_some_iff] at hc
    obtain ⟨x', hx, rfl⟩ := hc
    simp only [aop] at h
    obtain ⟨av, hav, h⟩ := withV_inv h
    obtain ⟨v, hv, hK⟩ := withV_inv h
    obtain ⟨u, hu, hd⟩ := un_run (P := P) hv (R.opdA hx hav)
    exact find (by simp only [execOp, Sem.run_bind, hu, Result.andThen_ok, Sem.run_pure]) hd hK
  case convert sr ds x =>
    simp only [Option.bind_eq_some_iff] at hc
    obtain ⟨x', hx, hc⟩ := hc
    have hcc := hc
    have key : ∀ {av v : AV}, Eng.opdA s x' = some av → ((∃ k, c = .cvII k x' ∧ cvIIA k av = some v) ∨ (∃ k, c = .cvIF k x' ∧ cvIFA k av = some v) ∨ (∃ k, c = .cvFI k x' ∧ cvFIA k av = some v)) → K (.dat v none) s → Oper.wp P ⟨dst, .convert sr ds x, type, pos, after, guard⟩ a w next Q := by
      intro av v hav hor hK
      obtain ⟨u, hu, hd⟩ := conv_run (P := P) (X := x) hcc (R.opdA hx hav) hor
      exact find (by simp only [execOp, Sem.run_bind, hu, Result.andThen_ok, Sem.run_pure]) hd hK
    unfold cConv at hc
    split at hc <;> try (cases hc; done)
    all_goals
      cases hc
      simp only [aop] at h
      obtain ⟨av, hav, h⟩ := withV_inv h
      obtain ⟨v, hv, hK⟩ := withV_inv h
      first
        | exact key hav (.inl ⟨_, rfl, hv⟩) hK
        | exact key hav (.inr (.inl ⟨_, rfl, hv⟩)) hK
        | exact key hav (.inr (.inr ⟨_, rfl, hv⟩)) hK
  case makeFunc fn first caps =>
    cases fn <;> simp only [] at hc <;> try (cases hc; done)
    rename_i f
    split at hc <;> try (cases hc; done)
    rename_i as bs h1 h2
    split at hc <;> try (cases hc; done)
    cases hc
    simp only [aop] at h
    obtain ⟨xs, hxs, h⟩ := withV_inv h
    obtain ⟨⟨pas, ids⟩, hsv, hok, h⟩ := withV_inv h
    obtain ⟨css, hcs, hK⟩ := withV_inv h
    simp only [Bool.and_eq_true] at hok
    have d1 := R.opdsA (by simpa [cOpds] using h1) hxs
    have d2 := R.svsA (by simpa [cOpds] using h2) hsv
    obtain ⟨π', hp, R', href⟩ := Rel.freezes R (nodupB_spec hok.1) hok.2 hcs
    have hlc := (cellsA_spec hcs).1
    have d3 := fillP_DVs hp d2 (by simpa using hlc) (fun k cs B h1 h2 => by
      rw [List.getElem?_map, Option.map_eq_some_iff] at h2
      obtain ⟨b, hb, rfl⟩ := h2
      exact href k b cs hb h1)
    have d1' := d1.mono hp (fun _ _ _ => rfl)
    have hr : (execOp a.eval ⟨dst, .makeFunc (.func f) first caps, type, pos, after, guard⟩).run P w = .ok (.value (.func (.func f) (first.map a.eval) (caps.map a.eval))) w := by simp [execOp, Instr.makeFunc]
    unfold Oper.wp
    rw [hr]
    refine hn (.dat (.fn (.func f) xs (fillP pas css)) none) _ _ _ _ _ _ hK ⟨?_, fun t ht => by cases ht⟩ trivial (R'.sub hsub)
    exact .fn _ _ _ _ _ (by simpa using d1'.1) (by simpa using d3.1) (fun i x v hx hv => d1'.2 i x v hx (by simpa using hv)) (fun i x v hx hv => d3.2 i x v hx (by simpa using hv))
  case slice t x lo hi mx =>
    cases mx <;> simp only [] at hc <;> try (cases hc; done)
    split at hc <;> try (cases hc; done)
    · rename_i e x' lo' hi' ht hx hl hh
      simp only [Option.map_eq_some_iff] at hc
      obtain ⟨z, hz, rfl⟩ := hc
      obtain ⟨v, y, hr, hv, hu, hK⟩ := R.slice ht hz hx hl hh h
      exact fin (by simp only [execOp, Sem.run_bind, Option.map_none, hr, Result.andThen_ok, Sem.run_pure]) hv hu hK
    rename_i n e x' ht hx hl hh
    simp only [Option.map_eq_some_iff] at hc
    obtain ⟨z, hz, rfl⟩ := hc
    have e1 : lo = none := by cases lo with | none => rfl | some y => simp [cOpt] at hl
    have e2 : hi = none := by cases hi with | none => rfl | some y => simp [cOpt] at hh
    subst e1 e2
    simp only [aop] at h
    obtain ⟨v, hv, h⟩ := withV_inv h
    have hrv := (R.opd hx hv).1
    cases v <;> try (exact h.elim)
    · rename_i b off
      obtain ⟨h4, h⟩ := h
      obtain ⟨bx, hb, hlen, hK⟩ := withV_inv h
      have he : a.eval x = .pointer (some ⟨β b, off, none⟩) := hrv
      have hcs : cellsA s.boxes [b] = some [bx.cells] := by simp [cellsA, hb]
      obtain ⟨π', hp, R', href⟩ := Rel.freezes R (ids := [b]) (by simp) (by simp [ownIds, h4]) hcs
      have hr : (execOp a.eval ⟨dst, .slice t x none none none, type, pos, after, guard⟩).run P w = .ok (.value (.slice (some ⟨β b, off, none⟩) n n)) w := by
        simp only [execOp, Option.map_none, he, Sem.run_bind, slA_run ht hz, Result.andThen_ok, Sem.run_pure]
      unfold Oper.wp
      rw [hr]
      refine hn _ _ _ _ _ _ _ hK ⟨?_, fun t ht => by cases ht⟩ trivial (R'.sub hsub)
      have := ref_sl (href 0 b bx.cells rfl rfl) hlen
      simpa using this
    · rename_i cs
      obtain ⟨hlen, hK⟩ := h
      obtain ⟨B, o, f, he, h1, h2, h3, h5⟩ := hrv
      have hd : DV w π (.ref cs) (.pointer (some ⟨B, o, none⟩)) := .ref cs B o f h1 h2 h3 h5
      have := ref_sl (off := 0) hd (by simpa using hlen)
      refine find ?_ (by simpa using this) hK
      have he : a.eval x = .pointer (some ⟨B, o, none⟩) := he
      simp only [execOp, Option.map_none, he, Sem.run_bind, slA_run ht hz, Result.andThen_ok, Sem.run_pure]
  case fieldAddr t x f =>
    split at hc <;> try (cases hc; done)
    rename_i fd x' hf hx
    split at hc <;> try (cases hc; done)
    rename_i hz
    cases hc
    obtain ⟨v, y, hr, hv, hu, hK⟩ := R.fieldAddr hx hf hz h
    exact fin (by simp only [execOp, Sem.run_bind, hr, Result.andThen_ok, Sem.run_pure]) hv hu hK
  case field t x f =>
    split at hc <;> try (cases hc; done)
    rename_i fd x' hf hx
    simp only [Option.map_eq_some_iff] at hc
    obtain ⟨r, hr, rfl⟩ := hc
    simp only [aop] at h
    obtain ⟨av, hav, h⟩ := withV_inv h
    have hd := R.opdA hx hav
    cases av <;> try (exact h.elim)
    rename_i cs
    obtain ⟨v, hv, hK⟩ := withV_inv h
    unfold fieldOf at hf
    split at hf <;> try (cases hf; done)
    rename_i fs hu
    generalize he : a.eval x = u at hd
    cases hd with
    | agg _ us h1 h2 h3 =>
      obtain ⟨u, hpu, hdu⟩ := part_run (P := P) hr h1 h2 h3 hv
      exact find (by simp [execOp, he, Instr.field, asAgg, run_underlying hu, hf, hpu]) hdu hK
  case indexAddr t x i =>
    split at hc <;> try (cases hc; done)
    · rename_i n e x' i' ht hx hi
      simp only [Option.map_eq_some_iff] at hc
      obtain ⟨z, hz, rfl⟩ := hc
      obtain ⟨v, y, hr, hv, hu, hK⟩ := R.indexArr hx hi ht hz h
      exact fin (by simp only [execOp, Sem.run_bind, hr, Result.andThen_ok, Sem.run_pure]) hv hu hK
    · rename_i e x' i' ht hx hi
      simp only [Option.map_eq_some_iff] at hc
      obtain ⟨z, hz, rfl⟩ := hc
      obtain ⟨v, y, hr, hv, hu, hK⟩ := R.indexSl hx hi ht hz h
      exact fin (by simp only [execOp, Sem.run_bind, hr, Result.andThen_ok, Sem.run_pure]) hv hu hK
  case index t x i =>
    split at hc <;> try (cases hc; done)
    rotate_left
    · rename_i x' i' ht hx hi
      cases hc
      simp only [aop] at h
      obtain ⟨av, hav, h⟩ := withV_inv h
      have hd := R.opdA hx hav
      cases av <;> try (exact h.elim)
      rename_i bs
      obtain ⟨b, hb, h⟩ := withV_inv h
      obtain ⟨j, hj, h⟩ := withV_inv h
      obtain ⟨v, hv, hK⟩ := withV_inv h
      obtain ⟨k, hk⟩ := R.idx hi hb hj
      generalize he : a.eval x = u at hd
      cases hd
      unfold byteA at hv
      split at hv <;> try (cases hv; done)
      rename_i hlt
      cases hv
      exact find (by simp [execOp, he, Instr.index, hk, asIntOf, run_underlying ht, hlt]) (.int _ _) hK
    rename_i n e x' i' ht hx hi
    split at hc <;> try (cases hc; done)
    rename_i z r hz hr
    cases hc
    simp only [aop] at h
    obtain ⟨av, hav, h⟩ := withV_inv h
    have hd := R.opdA hx hav
    cases av <;> try (exact h.elim)
    rename_i cs
    obtain ⟨b, hb, h⟩ := withV_inv h
    obtain ⟨j, hj, h⟩ := withV_inv h
    obtain ⟨hlt, h⟩ := h
    obtain ⟨v, hv, hK⟩ := withV_inv h
    obtain ⟨k, hk⟩ := R.idx hi hb hj
    have hsz := run_size (w := w) hz
    generalize he : a.eval x = u at hd
    cases hd with
    | agg _ us h1 h2 h3 =>
      obtain ⟨u, hpu, hdu⟩ := part_run (P := P) hr h1 h2 h3 hv
      exact find (by simp [execOp, he, Instr.index, hk, asIntOf, run_underlying ht, hlt, hsz, hpu]) hdu hK
  case extract x i =>
    simp only [Option.map_eq_some_iff] at hc
    obtain ⟨x', hx, rfl⟩ := hc
    simp only [aop] at h
    obtain ⟨av, hav, h⟩ := withV_inv h
    obtain ⟨v, hv, hK⟩ := withV_inv h
    obtain ⟨u, hu, hd⟩ := ext_run (P := P) hv (R.opdA hx hav)
    exact find (by simp only [execOp, Sem.run_bind, hu, Result.andThen_ok, Sem.run_pure]) hd hK
  case call cl =>
    obtain ⟨callee, args, argTypes⟩ := cl
    -- a call
    have enter : ∀ {f : Nat} {as : List AV} {vs : List Value} {r : AV} {fr : Option Nat}, Pure0 P f as r fr → DVs w π as vs →
        (execOp a.eval ⟨dst, .call ⟨callee, args, argTypes⟩, type, pos, after, guard⟩).run P w = .ok (.enter f vs.toArray) w →
        K (.dat r (fr.map fun _ => id)) { s with live := match (generalizing := false) fr with | some e => (id, e) :: s.live | none => s.live } →
        Oper.wp P ⟨dst, .call ⟨callee, args, argTypes⟩, type, pos, after, guard⟩ a w next Q := by
      intro f as vs r fr hp hd hr hK
      unfold Oper.wp
      rw [hr, Oper.upon_enter]
      refine (hp.2 w π vs R.prot hd).mono ?_
      rintro e w' ⟨v, π', rfl, hbel, hp1, hp2, hp3, hdv, htk⟩
      obtain ⟨τ', hrv, R'⟩ := R.called hid hbel hp1 hp2 hp3 hdv htk
      exact hn _ _ _ _ _ _ _ hK hrv (by cases fr with | none => trivial | some e => exact .inr rfl) R'
    simp only [cCall] at hc
    split at hc
    · rename_i f
      by_cases hcall : callable P f = true
      rotate_left
      · rw [if_neg hcall] at hc
        split at hc <;> try (cases hc; done)
        rename_i e x hxt hargs
        simp only [Option.map_eq_some_iff] at hc
        obtain ⟨x', hx, rfl⟩ := hc
        simp only [aop] at h
        obtain ⟨av, hav, h⟩ := withV_inv h
        obtain ⟨v, hv, hK⟩ := withV_inv h
        obtain ⟨u, hu, hdu⟩ := xt_run hxt hv (R.opdA hx hav)
        have eX : args = #[x] := Array.toList_inj.1 (by simpa using hargs)
        subst eX
        exact find (by simp [execOp, resolve, Act.eval, Deferred.ofValue, invoke]; simpa [Act.eval] using hu) hdu hK
      rw [if_pos hcall] at hc
      simp only [Option.map_eq_some_iff] at hc
      obtain ⟨xs, hxs, hce⟩ := hc
      split at hce
      · subst hce
        simp only [aop] at h
        obtain ⟨⟨pas, ids⟩, hsv, hnd, h⟩ := withV_inv h
        obtain ⟨css, hcs, r, fr, css', hp, hK⟩ := withV_inv h
        have hp : PureB P f css pas r fr css' := hp
        obtain ⟨hca, hl1, _, hp⟩ := hp
        have hnd' : ids.Nodup := nodupB_spec hnd
        have harg := R.svsA (by simpa [cOpds] using hxs) hsv
        have e1 : (args.toList.map a.eval).toArray = args.map a.eval := Array.toList_inj.1 (by simp)
        have hr : (execOp a.eval ⟨dst, .call ⟨.value (.func f), args, argTypes⟩, type, pos, after, guard⟩).run P w = .ok (.enter f (args.toList.map a.eval).toArray) w := by
          rw [e1]; simp [execOp, resolve, Act.eval, Deferred.ofValue, invoke, callFunc_run hcall]
        unfold Oper.wp
        rw [hr, Oper.upon_enter]
        refine (hp w π (ids.map β) (args.toList.map a.eval) R.prot (R.nodup hnd' hcs) (R.boxesAt hcs) harg).mono ?_
        rintro e w' ⟨v, π', rfl, hbel, hp1, hp2, hp3, hbx, hdv, htk⟩
        obtain ⟨τ', hrv, R'⟩ := R.calledB hid hnd' hcs hl1 hbel hp1 hp2 hp3 hbx hdv htk
        exact hn _ _ _ _ _ _ _ hK hrv (by cases fr with | none => trivial | some e => exact .inr rfl) R'
      subst hce
      simp only [aop] at h
      obtain ⟨as, has, r, fr, hp, hK⟩ := withV_inv h
      have hd := R.opdsA (by simpa [cOpds] using hxs) has
      have e1 : (args.toList.map a.eval).toArray = args.map a.eval := Array.toList_inj.1 (by simp)
      exact enter hp hd (by rw [e1]; simp [execOp, resolve, Act.eval, Deferred.ofValue, invoke, callFunc_run hcall]) hK
    · rename_i g hg
      split at hc <;> try (cases hc; done)
      rename_i g' xs hg' hxs
      cases hc
      simp only [aop] at h
      obtain ⟨av, hav, h⟩ := withV_inv h
      have hdg := R.opdA hg' hav
      cases av <;> try (exact h.elim)
      rename_i fn first caps
      cases fn <;> try (exact h.elim)
      rename_i f
      obtain ⟨as, has, r, fr, hp, hK⟩ := withV_inv h
      have hd := R.opdsA (by simpa [cOpds] using hxs) has
      generalize he : a.eval g = u at hdg
      cases hdg with
      | fn _ _ vs _ us h1 h2 h3 h4 =>
        have d1 : DVs w π first vs.toList := ⟨by simpa using h1, fun i x v hx hv => h3 i x v hx (by simpa using hv)⟩
        have d2 : DVs w π caps us.toList := ⟨by simpa using h2, fun i x v hx hv => h4 i x v hx (by simpa using hv)⟩
        have e1 : (vs.toList ++ (args.toList.map a.eval) ++ us.toList).toArray = vs ++ args.map a.eval ++ us := by
          apply Array.toList_inj.1; simp
        refine enter hp ((d1.append hd).append d2) ?_ hK
        rw [e1]
        simp [execOp, resolve, he, Deferred.ofValue, invoke, callFunc_run (show Pure0 P _ _ _ _ from hp).1]
    · -- len
      split at hc <;> try (cases hc; done)
      rename_i t x hT hX
      split at hc <;> try (cases hc; done)
      · rename_i e ht
        simp only [Option.map_eq_some_iff] at hc
        obtain ⟨x', hx, rfl⟩ := hc
        simp only [aop] at h
        obtain ⟨av, hav, h⟩ := withV_inv h
        obtain ⟨v, hv, hK⟩ := withV_inv h
        obtain ⟨u, hu, hd⟩ := len_run (P := P) ht hT (Xs := args.map a.eval) (by simp [hX]) (R.opdA hx hav) hv type
        exact find (by simp [execOp, resolve, invoke, builtin, hu]) hd hK
      · rename_i n e ht
        cases hc
        simp only [aop] at h
        exact find (v := .int .i64 n) (y := .int .i64 n) (by simp [execOp, resolve, invoke, builtin, Builtin.len_, hT, hX, run_underlying ht, goInt]) (.int _ _) h
    · -- append
      split at hc <;> try (cases hc; done)
      rename_i t t' x y hT hX
      split at hc <;> try (cases hc; done)
      rename_i htt
      subst htt
      split at hc <;> try (cases hc; done)
      rename_i e x' y' ht hx hy
      split at hc <;> try (cases hc; done)
      rename_i i hi
      split at hc <;> try (cases hc; done)
      rename_i zv hz
      split at hc <;> try (cases hc; done)
      rename_i hsz
      cases hc
      obtain ⟨v, u, s', w', τ', π', hr, hv, hu, hK, R'⟩ := R.append ht hi hz hsz hx hy hid type h
      have eT : argTypes = #[t, t] := Array.toList_inj.1 (by simpa using hT)
      have eX : args = #[x, y] := Array.toList_inj.1 (by simpa using hX)
      subst eT eX
      unfold Oper.wp
      have : (execOp a.eval ⟨dst, .call ⟨.builtin .append, #[x, y], #[t, t]⟩, type, pos, after, guard⟩).run P w = .ok (.value u) w' := by
        simp [execOp, resolve, invoke, builtin, hr]
      rw [this]
      exact hn v s' u w' β τ' π' hK hv hu R'
    · simp only [Option.map_eq_some_iff] at hc
      obtain ⟨xs, hxs, rfl⟩ := hc
      simp only [aop] at h
      obtain ⟨as, has, h⟩ := withV_inv h
      have hd := R.opdsA (by simpa [cOpds] using hxs) has
      cases as with
      | nil => exact h.elim
      | cons b as =>
        obtain ⟨v, hv, hK⟩ := withV_inv h
        obtain ⟨args⟩ := args
        cases args with
        | nil => have := hd.1; simp at this
        | cons y ys =>
          obtain ⟨u, hu, hdu⟩ := mm_run (P := P) hv (hd.2 0 b (a.eval y) rfl rfl) (us := ys.map a.eval) ⟨by have := hd.1; simpa using this, fun i a v h1 h2 => hd.2 (i + 1) a v (by simpa using h1) (by simpa using h2)⟩
          simp only [if_true] at hu
          exact find (by simp [execOp, resolve, invoke, builtin, Builtin.max_, hu]) hdu hK
    · simp only [Option.map_eq_some_iff] at hc
      obtain ⟨xs, hxs, rfl⟩ := hc
      simp only [aop] at h
      obtain ⟨as, has, h⟩ := withV_inv h
      have hd := R.opdsA (by simpa [cOpds] using hxs) has
      cases as with
      | nil => exact h.elim
      | cons b as =>
        obtain ⟨v, hv, hK⟩ := withV_inv h
        obtain ⟨args⟩ := args
        cases args with
        | nil => have := hd.1; simp at this
        | cons y ys =>
          obtain ⟨u, hu, hdu⟩ := mm_run (P := P) hv (hd.2 0 b (a.eval y) rfl rfl) (us := ys.map a.eval) ⟨by have := hd.1; simpa using this, fun i a v h1 h2 => hd.2 (i + 1) a v (by simpa using h1) (by simpa using h2)⟩
          simp only [Bool.false_eq_true, if_false] at hu
          exact find (by simp [execOp, resolve, invoke, builtin, Builtin.min_, hu]) hdu hK
    · cases hc
end
end Go.Eng
