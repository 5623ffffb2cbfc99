/- The engine and the library, part 2 of 3: what the proofs of this seat need of them. -/
import Derived.Test.YtmdlpepjodcjeaaPk1
namespace Go.Eng
set_option linter.unusedVariables false
set_option linter.unusedSimpArgs false
set_option linter.unnecessarySimpa false
open Go
open Go.RowKit (Below)
set_option linter.unusedVariables false
section
variable {P : Program} {nt : Nat} {n0 : Fen} {w0 : World} {π0 : Nat → Nat → Prop} {U : Nat → Prop} {s : S} {a : Act} {w : World} {β : Nat → Nat} {τ : Nat → Value} {π : Nat → Nat → Prop}
theorem Rel.idxO (R : Rel P nt n0 w0 π0 U s a w β τ π) {X : Operand} {x : Opd} {i : Int} (hx : cOpd X = some x) (hi : Eng.idxO (Eng.opdA s x) = some i) : ∃ k, a.eval X = .int k i := by
  cases h : Eng.opdA s x with
  | none => rw [h] at hi; cases hi
  | some b => rw [h] at hi; exact R.idx hx h hi
theorem Rel.slice (R : Rel P nt n0 w0 π0 U s a w β τ π) {t e : TypeId} {z : Nat} {X : Operand} {x : Opd} {lo hi : Option Operand} {lo' hi' : Option Opd} (ht : P.underlying t = some (.slice e)) (hz : szOf P e = some z) (hx : cOpd X = some x) (hl : cOpt lo = some lo') (hh : cOpt hi = some hi')
    {id : Nat} {K : SV → S → Prop} (h : aop (Pure P) id (.slS z x lo' hi') K s) :
    ∃ v y, (Instr.sliceAt t (a.eval X) (lo.map a.eval) (hi.map a.eval) none).run P w = .ok y w ∧ RV β τ w π v y ∧ v.inU U ∧ K v s := by
  simp only [aop] at h
  obtain ⟨b, hb, k1⟩ := withV_inv h
  obtain ⟨xs, hxs, k2⟩ := withV_inv k1
  obtain ⟨l, hlo, k3⟩ := withV_inv k2
  obtain ⟨m, hhi, ⟨hl0, hlm, hmx⟩, hrow, hK⟩ := withV_inv k3
  have hd := R.opdA hx hb
  have hsz := run_size (P := P) (w := w) hz
  -- the bounds
  have hlow : (lo = none ∧ l = 0) ∨ ∃ L k, lo = some L ∧ a.eval L = .int k l := by
    cases lo with
    | none => simp [cOpt] at hl; subst hl; simp [bndL] at hlo; exact .inl ⟨rfl, hlo.symm⟩
    | some L =>
      simp only [cOpt, Option.map_eq_some_iff] at hl
      obtain ⟨x', hx', rfl⟩ := hl
      obtain ⟨k, hk⟩ := R.idxO hx' hlo
      exact .inr ⟨L, k, rfl, hk⟩
  have hhigh : (hi = none ∧ m = xs.length) ∨ ∃ H k, hi = some H ∧ a.eval H = .int k m := by
    cases hi with
    | none => simp [cOpt] at hh; subst hh; simp [bndH] at hhi; exact .inl ⟨rfl, hhi.symm⟩
    | some H =>
      simp only [cOpt, Option.map_eq_some_iff] at hh
      obtain ⟨x', hx', rfl⟩ := hh
      obtain ⟨k, hk⟩ := R.idxO hx' hhi
      exact .inr ⟨H, k, rfl, hk⟩
  have hbnd : ∀ cap, xs.length ≤ cap → (Instr.sliceBounds true xs.length cap (lo.map a.eval) (hi.map a.eval) none).run P w = .ok (l.toNat, m.toNat, cap) w := by
    intro cap hcap
    have hm0 : (0 : Int) ≤ m := by omega
    have hmc : m ≤ cap := by omega
    have hmn : (m.toNat : Int) = m := Int.toNat_of_nonneg hm0
    rcases hlow with ⟨rfl, rfl⟩ | ⟨L, k, rfl, hL⟩ <;> rcases hhigh with ⟨rfl, hm⟩ | ⟨H, k', rfl, hH⟩
    · subst hm; simp [Instr.sliceBounds]
    · simp [Instr.sliceBounds, hH, run_sliceBound, hm0, hmc]
    · have hL' := run_sliceBound (P := P) w k l xs.length .sliceB hl0 (by omega)
      have hmx' : m.toNat = xs.length := by omega
      simp [Instr.sliceBounds, hL, hL', hmx']
    · have hH' := run_sliceBound (P := P) w k' m cap .sliceAcap hm0 hmc
      have hL' := run_sliceBound (P := P) w k l m.toNat .sliceB hl0 (by omega)
      simp [Instr.sliceBounds, hL, hH, hH', hL']
  have hat : (Instr.sliceAt t (a.eval X) (lo.map a.eval) (hi.map a.eval) none).run P w = (Instr.slice t (a.eval X) (lo.map a.eval) (hi.map a.eval) none).run P w := by
    simp [Instr.sliceAt, run_underlying ht]
  rw [hat]
  cases b <;> simp only [rowsOf] at hxs <;> try (cases hxs; done)
  · -- nil
    cases hxs
    have hv : a.eval X = .slice none 0 0 := by generalize a.eval X = v at hd; cases hd; rfl
    have h0 := hbnd 0 (by simp)
    simp at hmx
    have hlz : l = 0 := by omega
    have hmz : m = 0 := by omega
    subst hlz hmz
    refine ⟨.dat .nils none, .slice none 0 0, ?_, ⟨.nils, fun t ht => by cases ht⟩, trivial, hK⟩
    simp only [List.length_nil] at h0
    simp [hv, Instr.slice, run_underlying ht, h0, hsz]
  · cases hxs
    generalize hv : a.eval X = v at hd
    cases hd with
    | sl0 A =>
      have h0 := hbnd 0 (by simp)
      simp at hmx
      have hlz : l = 0 := by omega
      have hmz : m = 0 := by omega
      subst hlz hmz
      refine ⟨.dat (.sl []) none, .slice (some A) 0 0, ?_, ⟨.sl0 A, fun t ht => by cases ht⟩, trivial, hK⟩
      simp only [List.length_nil] at h0
      simp [Instr.slice, run_underlying ht, h0, hsz]
    | sl _ B off cap z' f h1 h2 h3 h4 h5 h6 =>
      have h0 := hbnd cap h1
      have hln : l.toNat ≤ m.toNat := by omega
      have hmn : m.toNat ≤ xs.length := by omega
      have hlen : ((xs.take m.toNat).drop l.toNat).length = m.toNat - l.toNat := by simp; omega
      have hget : ∀ (i : Nat) (r : List AV), ((xs.take m.toNat).drop l.toNat)[i]? = some r → xs[l.toNat + i]? = some r := by
        intro i r hr
        rw [List.getElem?_drop, List.getElem?_take] at hr
        split at hr
        · exact hr
        · cases hr
      have hrun : (Instr.slice t (.slice (some ⟨B, off, none⟩) xs.length cap) (lo.map a.eval) (hi.map a.eval) none).run P w = .ok (.slice (some (if cap = l.toNat then ⟨B, off, none⟩ else ⟨B, off + l.toNat * z, none⟩)) (m.toNat - l.toNat) (cap - l.toNat)) w := by
        simp only [Instr.slice, Sem.run_bind, run_underlying ht, Result.andThen_ok, h0, hsz, Sem.run_pure]
        split <;> simp [addr_add]
      refine ⟨.dat (.sl ((xs.take m.toNat).drop l.toNat)) none, _, hrun, ⟨?_, fun t ht => by cases ht⟩, trivial, hK⟩
      rw [← hlen]
      by_cases hcl : cap = l.toNat
      · rw [if_pos hcl]
        have hnil : (xs.take m.toNat).drop l.toNat = [] := List.eq_nil_of_length_eq_zero (by rw [hlen]; omega)
        rw [hnil]
        exact .sl [] B off _ z' f (by simp) (fun i r hr => by simp at hr) (fun i j r a hr => by simp at hr) (fun i j r a hr => by simp at hr) (fun i j r a hr => by simp at hr) (fun i j r a hr => by simp at hr)
      · rw [if_neg hcl]
        have hzz : ∀ (i : Nat) (r : List AV), ((xs.take m.toNat).drop l.toNat)[i]? = some r → z' = z := fun i r hr => by
          rw [← h2 _ _ (hget i r hr)]; exact hrow r (List.mem_of_getElem? (hget i r hr))
        refine .sl _ B (off + l.toNat * z) _ z (fun i j => f (l.toNat + i) j) (by rw [hlen]; omega) (fun i r hr => hrow r (List.mem_of_getElem? (hget i r hr))) (fun i j r x hr hx => h3 _ j r x (hget i r hr) hx) (fun i j r x hr hx => ?_) (fun i j r x hr hx => ?_) (fun i j r x hr hx => h6 _ j r x (hget i r hr) hx)
        · have e := hzz i r hr
          subst e
          have := h4 _ j r x (hget i r hr) hx
          rwa [show off + (l.toNat + i) * z' + j = off + l.toNat * z' + i * z' + j by rw [Nat.add_mul]; omega] at this
        · have e := hzz i r hr
          subst e
          have := h5 _ j r x (hget i r hr) hx
          rwa [show off + (l.toNat + i) * z' + j = off + l.toNat * z' + i * z' + j by rw [Nat.add_mul]; omega] at this
theorem eqc_run {t : TypeId} {ks : List CK} {neg : Bool} {op : BinOp} (hop : (op = .eql ∧ neg = false) ∨ (op = .neq ∧ neg = true)) (hk : plainK P 20 t = some ks) (hg : (aggB P t && !P.eqGuardType P.depth t) = true) {as bs : List AV} {X Y : Operand} {x y : Value} {e : Bool}
    (hx : DV w π (.agg as) x) (hy : DV w π (.agg bs) y) (he : cellsEq ks as bs = some e) : (do eqGuard op t X Y x y; binOp op t x y : Sem Value).run P w = .ok (.bool (e != neg)) w := by
  simp only [Bool.and_eq_true, Bool.not_eq_true'] at hg
  cases hx with
  | agg _ xs h1 h2 h3 =>
    cases hy with
    | agg _ ys k1 k2 k3 =>
      have hvx : Val w π P t as (.agg xs) := by
        unfold Val; rw [if_pos hg.1]; exact ⟨xs, rfl, ⟨by simpa using h1, fun i a v ha hv => h3 i a v ha (by simpa using hv)⟩, h2⟩
      have hvy : Val w π P t bs (.agg ys) := by
        unfold Val; rw [if_pos hg.1]; exact ⟨ys, rfl, ⟨by simpa using k1, fun i a v ha hv => k3 i a v ha (by simpa using hv)⟩, k2⟩
      have hr := eq_run 20 t ks hk Op.maxDepth (by decide) as bs _ _ e hvx hvy he
      have hgd := run_eqGuard_agg w op t X Y xs ys hg.2
      rw [Sem.run_bind, hgd]
      rcases hop with ⟨rfl, rfl⟩ | ⟨rfl, rfl⟩
      · simp [binOp, Op.equal, hr]
      · simp [binOp, Op.equal, hr]
theorem isn_run {t : TypeId} {neg : Bool} {op : BinOp} (hop : (op = .eql ∧ neg = false) ∨ (op = .neq ∧ neg = true)) (hs : sliceB P t = true) {a : AV} {b : Bool} {X Y : Operand} {x y : Value}
    (hb : nilA neg a = some b) (hx : DV w π a x) (hy : DV w π .nils y) : (do eqGuard op t X Y x y; binOp op t x y : Sem Value).run P w = .ok (.bool b) w := by
  have hu : ∃ e, P.underlying t = some (.slice e) := by
    unfold sliceB at hs; split at hs
    · exact ⟨_, by assumption⟩
    · cases hs
  obtain ⟨e, hu⟩ := hu
  cases hy
  have hrun : ∀ (A : Option Addr) (n c : Nat), (binOp .eql t (.slice A n c) (.slice none 0 0)).run P w = .ok (.bool A.isNone) w := fun A n c => Lib.run_eql_slice_nil w t e A n c 0 0 hu
  have hrun2 : ∀ (A : Option Addr) (n c : Nat), (binOp .neq t (.slice A n c) (.slice none 0 0)).run P w = .ok (.bool !A.isNone) w := fun A n c => by
    simp only [binOp]
    simp [Op.equal, Op.maxDepth, Lib.run_equalIn_slice_nil w 9999 t e A n c 0 0 hu]
  cases hx <;> simp only [nilA, Option.some.injEq, reduceCtorEq] at hb <;> subst hb
  all_goals (rcases hop with ⟨rfl, rfl⟩ | ⟨rfl, rfl⟩ <;> rw [Sem.run_bind, guard_run _ _ _ _ (fun _ h => by cases h) (fun h => by cases h)])
  all_goals first | exact hrun _ _ _ | exact hrun2 _ _ _
theorem Tok.weaken {n n' e : Nat} {v : Value} (h : Tok P w π n e v) (hn : n' ≤ n) : Tok P w π n' e v := by
  rcases h with h | ⟨B, len, cap, cur, i, h1, h2, h3⟩
  · exact .inl h
  · exact .inr ⟨B, len, cap, cur, i, h1, by omega, h3⟩
theorem Rel.called (R : Rel P nt n0 w0 π0 U s a w β τ π) {id : Nat} (hid : ¬ U id) {w' : World} {π' : Nat → Nat → Prop} {v : Value} {r : AV} {fr : Option Nat} (hbel : Below w.heap.size w w') (hp : ∀ b o, π b o → π' b o) (hp' : ∀ b o, π' b o → π b o ∨ w.heap.size ≤ b)
    (hpl : ∀ b o, π' b o → b < w'.heap.size) (hd : DV w' π' r v) (ht : ∀ t, fr = some t → Tok P w' π' w.heap.size t v) :
    ∃ τ', RV β τ' w' π' (.dat r (fr.map fun _ => id)) v ∧ Rel P nt n0 w0 π0 (also U id) { s with live := match (generalizing := false) fr with | some e => (id, e) :: s.live | none => s.live } a w' β τ' π' := by
  have hsz : n0.n ≤ w.heap.size := Nat.le_trans R.n0le R.below.size
  cases fr with
  | none => exact ⟨τ, ⟨hd, fun t h => by cases h⟩, R.frame (fun _ _ => rfl) (fun _ _ => rfl) (fun _ h => .inl h) hp hp' hpl hbel⟩
  | some e =>
    have R1 : Rel P nt n0 w0 π0 U s a w' β τ π' := R.frame (fun _ _ => rfl) (fun _ _ => rfl) (fun _ h => h) hp hp' hpl hbel
    have htk := ht e rfl
    refine ⟨upd τ id v, ⟨hd, fun t h => by cases h; rw [upd_same]⟩, R1.addTok hid (htk.weaken hsz) (fun q e' B hq hB hB' => ?_) (fun b x hb hB' => ?_)⟩
    · have h1 := ((R.live q e' hq).2.block hB).2
      have h2 := (htk.block hB').1
      omega
    · have h1 := R.blocks_lt hb
      have h2 := (htk.block hB').1
      omega
theorem nodupB_spec : ∀ {l : List Nat}, nodupB l = true → l.Nodup
  | [], _ => List.nodup_nil
  | b :: bs, h => by
    simp only [nodupB, Bool.and_eq_true, Bool.not_eq_true'] at h
    rw [List.nodup_cons]
    exact ⟨by simpa using h.1, nodupB_spec h.2⟩
theorem cellsA_spec {l : List (Nat × Box)} : ∀ {ids : List Nat} {css : List (List AV)}, cellsA l ids = some css → css.length = ids.length ∧ ∀ (k : Nat) (b : Nat), ids[k]? = some b → ∃ x, lkB b l = some x ∧ css[k]? = some x.cells
  | [], css, h => by simp [cellsA] at h; subst h; exact ⟨rfl, fun k b hb => by simp at hb⟩
  | b :: bs, css, h => by
    simp only [cellsA] at h
    split at h <;> try (cases h; done)
    rename_i x css' h1 h2
    cases h
    obtain ⟨e, hs⟩ := cellsA_spec h2
    refine ⟨by simp [e], fun k b' hb => ?_⟩
    cases k with
    | zero => simp at hb; subst hb; exact ⟨x, h1, rfl⟩
    | succ k => exact hs k b' (by simpa using hb)
theorem lkB_setBs : ∀ {ids : List Nat} {css : List (List AV)} {l : List (Nat × Box)} {n : Nat} {x : Box}, ids.Nodup → css.length = ids.length → lkB n (setBs ids css l) = some x →
    (∃ (k : Nat) (cs : List AV), ids[k]? = some n ∧ css[k]? = some cs ∧ x = ⟨cs, []⟩ ∧ ∃ y, lkB n l = some y) ∨ (n ∉ ids ∧ lkB n l = some x)
  | [], css, l, n, x, _, _, h => .inr ⟨by simp, by cases css <;> exact h⟩
  | b :: bs, [], l, n, x, _, hl, h => by simp at hl
  | b :: bs, cs :: css, l, n, x, hnd, hl, h => by
    simp only [setBs] at h
    rw [List.nodup_cons] at hnd
    rcases lkB_setBs hnd.2 (by simpa using hl) h with ⟨k, cs', h1, h2, h3, y, hy⟩ | ⟨h1, h2⟩
    · refine .inl ⟨k + 1, cs', by simpa using h1, by simpa using h2, h3, ?_⟩
      rcases lkB_setB hy with ⟨_, _, y', hy'⟩ | ⟨_, hy'⟩
      · exact ⟨y', by rename_i e _; rw [e]; exact hy'⟩
      · exact ⟨y, hy'⟩
    · rcases lkB_setB h2 with ⟨e, hx, y, hy⟩ | ⟨hne, hx⟩
      · subst e; exact .inl ⟨0, cs, rfl, rfl, hx, y, hy⟩
      · exact .inr ⟨by simp [hne, h1], hx⟩
theorem BoxesAt.get {w : World} {π : Nat → Nat → Prop} : ∀ {css : List (List AV)} {Bs : List Nat}, BoxesAt w π css Bs → css.length = Bs.length ∧ ∀ (k : Nat) (cs : List AV) (B : Nat), css[k]? = some cs → Bs[k]? = some B → BoxR (fun _ => undef) w π B ⟨cs, []⟩
  | [], [], h => ⟨rfl, fun k cs B h => by simp at h⟩
  | [], B :: Bs, h => h.elim
  | cs :: css, [], h => h.elim
  | cs :: css, B :: Bs, h => by
    obtain ⟨e, hs⟩ := BoxesAt.get h.2
    refine ⟨by simp [e], fun k cs' B' h1 h2 => ?_⟩
    cases k with
    | zero => simp at h1 h2; subst h1; subst h2; exact h.1
    | succ k => exact hs k cs' B' (by simpa using h1) (by simpa using h2)
theorem BoxR.noTags {τ τ' : Nat → Value} {w : World} {π : Nat → Nat → Prop} {B : Nat} {x : Box} (h : BoxR τ w π B x) : BoxR τ' w π B ⟨x.cells, []⟩ := by
  obtain ⟨cur, el, h1, h2, h3, _, h5⟩ := h
  exact ⟨cur, el, h1, h2, h3, fun o q hq => (by cases hq), h5⟩
theorem Rel.boxesAt (R : Rel P nt n0 w0 π0 U s a w β τ π) : ∀ {ids : List Nat} {css : List (List AV)}, cellsA s.boxes ids = some css → BoxesAt w π css (ids.map β)
  | [], css, h => by simp [cellsA] at h; subst h; trivial
  | b :: bs, css, h => by
    simp only [cellsA] at h
    split at h <;> try (cases h; done)
    rename_i x css' h1 h2
    cases h
    exact ⟨(R.boxes b x h1).2.2.1.noTags, R.boxesAt h2⟩
theorem Rel.nodup (R : Rel P nt n0 w0 π0 U s a w β τ π) : ∀ {ids : List Nat} {css : List (List AV)}, ids.Nodup → cellsA s.boxes ids = some css → (ids.map β).Nodup
  | [], css, _, h => List.nodup_nil
  | b :: bs, css, hnd, h => by
    simp only [cellsA] at h
    split at h <;> try (cases h; done)
    rename_i x css' h1 h2
    rw [List.nodup_cons] at hnd
    simp only [List.map_cons, List.nodup_cons]
    refine ⟨fun hm => ?_, R.nodup hnd.2 h2⟩
    obtain ⟨b', hb', e⟩ := List.mem_map.1 hm
    obtain ⟨k, hk⟩ := List.mem_iff_getElem?.1 hb'
    obtain ⟨y, hy, _⟩ := (cellsA_spec h2).2 k b' hk
    have := R.inj b' b y x hy h1 e
    exact hnd.1 (this ▸ hb')
theorem Rel.svsA (R : Rel P nt n0 w0 π0 U s a w β τ π) : ∀ {Xs : List Operand} {xs : List Opd} {pas : List (Option AV)} {ids : List Nat}, Xs.mapM cOpd = some xs → Eng.svsA s xs = some (pas, ids) → ArgsR w π pas (ids.map β) (Xs.map a.eval)
  | [], xs, pas, ids, hx, hv => by
    simp at hx; subst hx
    simp [Eng.svsA] at hv
    obtain ⟨rfl, rfl⟩ := hv
    trivial
  | X :: Xs, xs, pas, ids, hx, hv => by
    simp only [List.mapM_cons, Option.bind_eq_bind, Option.bind_eq_some_iff, Option.pure_def, Option.some.injEq] at hx
    obtain ⟨x, hx, xs', hxs, rfl⟩ := hx
    simp only [Eng.svsA] at hv
    split at hv <;> try (cases hv; done)
    · rename_i av q as bs h1 h2
      cases hv
      exact ⟨(R.opd hx h1).1.1, R.svsA hxs h2⟩
    · rename_i cs as bs h1 h2
      cases hv
      exact ⟨RV.ref.1 (R.opd hx h1).1, R.svsA hxs h2⟩
    · rename_i b as bs h1 h2
      cases hv
      exact ⟨(R.opd hx h1).1, R.svsA hxs h2⟩
theorem Rel.calledB (R : Rel P nt n0 w0 π0 U s a w β τ π) {id : Nat} (hid : ¬ U id) {ids : List Nat} {css css' : List (List AV)} (hnd : ids.Nodup) (hcs : cellsA s.boxes ids = some css) (hlen : css'.length = css.length)
    {w' : World} {π' : Nat → Nat → Prop} {v : Value} {r : AV} {fr : Option Nat} (hbel : Blw (Fen.topB w (ids.map β)) w w') (hp : ∀ b o, π b o → π' b o) (hp' : ∀ b o, π' b o → π b o ∨ w.heap.size ≤ b)
    (hpl : ∀ b o, π' b o → b < w'.heap.size) (hbx : BoxesAt w' π' css' (ids.map β)) (hd : DV w' π' r v) (ht : ∀ t, fr = some t → Tok P w' π' w.heap.size t v) :
    ∃ τ', RV β τ' w' π' (.dat r (fr.map fun _ => id)) v ∧ Rel P nt n0 w0 π0 (also U id) { s with boxes := setBs ids css' s.boxes, live := match (generalizing := false) fr with | some e => (id, e) :: s.live | none => s.live } a w' β τ' π' := by
  obtain ⟨hlc, hget⟩ := cellsA_spec hcs
  have hlen' : css'.length = ids.length := by omega
  have hsz : n0.n ≤ w.heap.size := Nat.le_trans R.n0le R.below.size
  have hmem : ∀ B, B ∈ ids.map β → ∃ b x, b ∈ ids ∧ lkB b s.boxes = some x ∧ β b = B := fun B hB => by
    obtain ⟨b, hb, e⟩ := List.mem_map.1 hB
    obtain ⟨k, hk⟩ := List.mem_iff_getElem?.1 hb
    obtain ⟨x, hx, _⟩ := hget k b hk
    exact ⟨b, x, hb, hx, e⟩
  have hother : ∀ k, k < w.heap.size → k ∉ ids.map β → w'.heap[k]? = w.heap[k]? := fun k hk hx => hbel.block k hk hx
  have hnp : ∀ B, B ∈ ids.map β → ∀ o, ¬ π B o := fun B hB => by
    obtain ⟨b, x, _, hx, e⟩ := hmem B hB
    obtain ⟨_, _, ⟨_, _, _, _, _, _, hn⟩, _⟩ := R.boxes b x hx
    rw [← e]; exact hn
  have hc : ∀ b o, π b o → w'.cell? ⟨b, o, none⟩ = w.cell? ⟨b, o, none⟩ := fun b o h =>
    World.cell?_of_block (w := w) (hother b (R.prot b o h) (fun hm => hnp b hm o h))
  have hboxlt : ∀ b x, lkB b s.boxes = some x → β b < w.heap.size := fun b x h => R.blocks_lt h
  have hold : ∀ b x, lkB b (setBs ids css' s.boxes) = some x → ∃ y, lkB b s.boxes = some y := fun b x h => by
    rcases lkB_setBs hnd hlen' h with ⟨_, _, _, _, _, hy⟩ | ⟨_, hx⟩
    · exact hy
    · exact ⟨x, hx⟩
  have R1 : Rel P nt n0 w0 π0 U { s with boxes := setBs ids css' s.boxes } a w' β τ π' := by
    refine ⟨R.size, fun t v h => ?_, fun b x h => ?_, fun b b' x x' h h' e => ?_, fun q e h => ?_, R.liveInj, fun q e b x h h' hB => ?_, R.below.trans ⟨hbel.os, hbel.tape, hbel.output, hbel.size, fun k hk hX => ?_, hbel.others⟩, R.n0le, hpl, fun b o h => hp _ _ (R.prot0 b o h), fun b o h => ?_, R.fore, R.foreU, fun b o h => (hc b o (R.prot0 b o h)).trans (R.kept b o h)⟩
    · obtain ⟨⟨x, hx, hv⟩, hu⟩ := R.slots t v h
      exact ⟨⟨x, hx, RV.mono (fun _ _ => rfl) (fun _ _ => rfl) hp hc hu hv⟩, hu⟩
    · rcases lkB_setBs hnd hlen' h with ⟨k, cs, h1, h2, rfl, y, hy⟩ | ⟨hni, hx⟩
      · obtain ⟨g1, g2, g3, g4⟩ := R.boxes b y hy
        refine ⟨g1, g2, ?_, fun o q hq => by cases hq⟩
        exact (hbx.get.2 k cs (β b) h2 (by simp [h1])).noTags
      · obtain ⟨g1, g2, g3, g4⟩ := R.boxes b x hx
        have hnm : β b ∉ ids.map β := fun hm => by
          obtain ⟨b', x', hb', hx', e⟩ := hmem _ hm
          exact hni (R.inj b' b x' x hx' hx e ▸ hb')
        refine ⟨g1, g2, g3.keep (fun _ _ => rfl) g4 (hother _ (hboxlt b x hx) hnm) hp hc (fun o ho => ?_), g4⟩
        rcases hp' _ _ ho with h | h
        · obtain ⟨_, _, _, _, _, _, hn⟩ := g3; exact hn o h
        · have := hboxlt b x hx; omega
    · obtain ⟨y, hy⟩ := hold b x h
      obtain ⟨y', hy'⟩ := hold b' x' h'
      exact R.inj b b' y y' hy hy' e
    · obtain ⟨h1, h2⟩ := R.live q e h
      refine ⟨h1, h2.keep (fun B hB => hother B (h2.block hB).2 (fun hm => ?_)) (fun B o hB ho => ?_)⟩
      · obtain ⟨b, x, _, hx, eb⟩ := hmem B hm
        exact R.liveBox q e b x h hx (by rw [hB, eb])
      · rcases hp' _ _ ho with h | h
        · exact h
        · have := (h2.block hB).2; omega
    · obtain ⟨y, hy⟩ := hold b x h'
      exact R.liveBox q e b y h hy hB
    · refine hother k (by omega) (fun hm => ?_)
      obtain ⟨b, x, _, hx, eb⟩ := hmem k hm
      rcases (R.boxes b x hx).2.1 with h | h
      · omega
      · rw [eb] at h; exact hX h.2
    · rcases hp' b o h with h | h
      · exact R.protOld b o h
      · exact .inr (by omega)
  cases fr with
  | none => exact ⟨τ, ⟨hd, fun t h => by cases h⟩, R1.sub fun _ h => .inl h⟩
  | some e =>
    have htk := ht e rfl
    refine ⟨upd τ id v, ⟨hd, fun t h => by cases h; rw [upd_same]⟩, R1.addTok hid (htk.weaken hsz) (fun q e' B hq hB hB' => ?_) (fun b x hb hB' => ?_)⟩
    · have h1 := ((R.live q e' hq).2.block hB).2
      have h2 := (htk.block hB').1
      omega
    · obtain ⟨y, hy⟩ := hold b x hb
      have h1 := hboxlt b y hy
      have h2 := (htk.block hB').1
      omega
theorem lkB_delB {m : Nat} : ∀ {l : List (Nat × Box)} {n : Nat}, lkB n (delB m l) = if n = m then none else lkB n l
  | [], n => by simp [delB, lkB]
  | (k, v) :: r, n => by
    have ih := lkB_delB (m := m) (l := r) (n := n)
    simp only [delB]
    by_cases hmk : m = k
    · subst hmk
      simp only [beq_self_eq_true, cond_true, lkB, ih]
      by_cases hn : n = m
      · simp [hn]
      · have hn' : (n == m) = false := by simpa using hn
        simp [hn, hn']
    · have hmk' : (m == k) = false := by simpa using hmk
      simp only [hmk', cond_false, lkB, ih]
      by_cases hnk : n = k
      · simp [hnk, Ne.symm hmk]
      · have hnk' : (n == k) = false := by simpa using hnk
        simp [hnk']
theorem lk_frzL {b : Nat} {cs : List AV} : ∀ {l : List (Nat × SV)} {t : Nat}, lk t (frzL b cs l) = (lk t l).map (frzV b cs)
  | [], t => rfl
  | (m, v) :: r, t => by
    simp only [frzL, lk]
    cases h : t == m
    · simp only [cond_false]; exact lk_frzL
    · rfl
theorem Rel.freeze (R : Rel P nt n0 w0 π0 U s a w β τ π) {b : Nat} {x : Box} (hb : lkB b s.boxes = some x) (h4 : 4 ≤ b) :
    ∃ π' : Nat → Nat → Prop, (∀ B o, π B o → π' B o) ∧ Rel P nt n0 w0 π0 U { s with slots := frzL b x.cells s.slots, boxes := delB b s.boxes } a w β τ π' ∧ DV w π' (.ref x.cells) (.pointer (some ⟨β b, 0, none⟩)) := by
  obtain ⟨hUb, hokb, hbox, htg⟩ := R.boxes b x hb
  have hlt := R.blocks_lt hb
  have hown : n0.n ≤ β b := by rcases hokb with h | h; exact h; exact absurd h.1 (by omega)
  obtain ⟨f, hf, hsc, hdv, _⟩ := hbox.cells
  have hp : ∀ B o, π B o → (fun B o => π B o ∨ (B = β b ∧ o < x.cells.length)) B o := fun _ _ h => .inl h
  have hin : ∀ (j : Nat) (c : AV), x.cells[j]? = some c → j < x.cells.length := fun j c hc => (List.getElem?_eq_some_iff.1 hc).1
  have href : ∀ d, RV β τ w (fun B o => π B o ∨ (B = β b ∧ o < x.cells.length)) (.rp (x.cells.drop d)) (.pointer (some ⟨β b, d, none⟩)) := by
    intro d
    refine ⟨β b, d, fun j => f (d + j), rfl, ?_, ?_, ?_, ?_⟩ <;> intro j c hc <;> rw [List.getElem?_drop] at hc
    · exact hsc _ _ hc
    · exact .inr ⟨rfl, hin _ _ hc⟩
    · exact hf _ (hin _ _ hc)
    · exact (hdv _ _ hc).mono hp (fun _ _ _ => rfl)
  refine ⟨_, hp, ?_, RV.ref.1 (by simpa using href 0)⟩
  have hdel : ∀ c y, lkB c (delB b s.boxes) = some y → c ≠ b ∧ lkB c s.boxes = some y := fun c y h => by
    rw [lkB_delB] at h
    split at h
    · cases h
    · rename_i hne; exact ⟨hne, h⟩
  refine ⟨R.size, fun t v h => ?_, fun c y h => ?_, fun c c' y y' h h' e => R.inj c c' y y' (hdel c y h).2 (hdel c' y' h').2 e, fun q e h => ?_, R.liveInj, fun q e c y h h' hB => R.liveBox q e c y h (hdel c y h').2 hB, R.below, R.n0le, fun B o h => ?_, fun B o h => .inl (R.prot0 B o h), fun B o h => ?_, R.fore, R.foreU, R.kept⟩
  · simp only [lk_frzL, Option.map_eq_some_iff] at h
    obtain ⟨u, hu, rfl⟩ := h
    obtain ⟨⟨y, hy, hr⟩, hi⟩ := R.slots t u hu
    have hm : RV β τ w (fun B o => π B o ∨ (B = β b ∧ o < x.cells.length)) u y := RV.mono (fun _ _ => rfl) (fun _ _ => rfl) hp (fun _ _ _ => rfl) hi hr
    cases u with
    | dat av q => exact ⟨⟨y, hy, hm⟩, hi⟩
    | rp cs => exact ⟨⟨y, hy, hm⟩, hi⟩
    | undef => exact ⟨⟨y, hy, hm⟩, hi⟩
    | vs _ _ _ _ => exact ⟨⟨y, hy, hm⟩, hi⟩
    | ptr c o =>
      simp only [frzV]
      by_cases hcb : c = b
      · subst hcb
        simp only [beq_self_eq_true, cond_true]
        have e : y = .pointer (some ⟨β c, o, none⟩) := hr
        subst e
        exact ⟨⟨_, hy, href o⟩, trivial⟩
      · have hcb' : (c == b) = false := by simpa using hcb
        simp only [hcb', cond_false]
        exact ⟨⟨y, hy, hm⟩, hi⟩
  · obtain ⟨hne, hc⟩ := hdel c y h
    obtain ⟨g1, g2, g3, g4⟩ := R.boxes c y hc
    refine ⟨g1, g2, g3.keep (fun _ _ => rfl) g4 rfl hp (fun _ _ _ => rfl) (fun o ho => ?_), g4⟩
    rcases ho with ho | ⟨ho, _⟩
    · obtain ⟨_, _, _, _, _, _, hn⟩ := g3; exact hn o ho
    · exact hne (R.inj c b y x hc hb ho)
  · obtain ⟨h1, h2⟩ := R.live q e h
    refine ⟨h1, h2.keep (fun B hB => rfl) (fun B o hB ho => ?_)⟩
    rcases ho with ho | ⟨ho, _⟩
    · exact ho
    · exact absurd (ho ▸ hB) (R.liveBox q e b x h hb)
  · rcases h with h | ⟨rfl, _⟩
    · exact R.prot B o h
    · exact hlt
  · rcases h with h | ⟨rfl, _⟩
    · exact R.protOld B o h
    · exact .inr hown
theorem cellsA_delB {l : List (Nat × Box)} {b : Nat} : ∀ {ids : List Nat} {css : List (List AV)}, b ∉ ids → cellsA l ids = some css → cellsA (delB b l) ids = some css
  | [], css, _, h => h
  | c :: ids, css, hn, h => by
    simp only [cellsA] at h ⊢
    have hne : c ≠ b := fun e => hn (e ▸ List.mem_cons_self ..)
    split at h <;> try (cases h; done)
    rename_i x css' h1 h2
    rw [lkB_delB, if_neg hne, h1, cellsA_delB (fun hm => hn (List.mem_cons_of_mem _ hm)) h2]
    exact h
theorem Rel.freezes : ∀ {ids : List Nat} {css : List (List AV)} {s : S} {π : Nat → Nat → Prop}, Rel P nt n0 w0 π0 U s a w β τ π → ids.Nodup → ownIds ids = true → cellsA s.boxes ids = some css →
    ∃ π' : Nat → Nat → Prop, (∀ B o, π B o → π' B o) ∧ Rel P nt n0 w0 π0 U (frzs ids css s) a w β τ π' ∧ ∀ (k : Nat) (b : Nat) (cs : List AV), ids[k]? = some b → css[k]? = some cs → DV w π' (.ref cs) (.pointer (some ⟨β b, 0, none⟩))
  | [], css, s, π, R, _, _, h => by
    simp [cellsA] at h; subst h
    exact ⟨π, fun _ _ h => h, R, fun k b cs h => by simp at h⟩
  | b :: ids, css, s, π, R, hnd, hown, h => by
    simp only [cellsA] at h
    split at h <;> try (cases h; done)
    rename_i x css' h1 h2
    cases h
    rw [List.nodup_cons] at hnd
    simp only [ownIds, Bool.and_eq_true, decide_eq_true_eq] at hown
    obtain ⟨π1, m1, R1, d1⟩ := R.freeze h1 hown.1
    obtain ⟨π2, m2, R2, d2⟩ := Rel.freezes R1 hnd.2 hown.2 (cellsA_delB hnd.1 h2)
    refine ⟨π2, fun B o h => m2 _ _ (m1 _ _ h), R2, fun k c cs hk hc => ?_⟩
    cases k with
    | zero => simp at hk hc; subst hk; subst hc; exact d1.mono m2 (fun _ _ _ => rfl)
    | succ k => exact d2 k c cs (by simpa using hk) (by simpa using hc)
theorem fillP_DVs {w : World} {π π' : Nat → Nat → Prop} (hp : ∀ B o, π B o → π' B o) : ∀ {pas : List (Option AV)} {css : List (List AV)} {Bs : List Nat} {vs : List Value}, ArgsR w π pas Bs vs → css.length = Bs.length →
    (∀ (k : Nat) (cs : List AV) (B : Nat), css[k]? = some cs → Bs[k]? = some B → DV w π' (.ref cs) (.pointer (some ⟨B, 0, none⟩))) → DVs w π' (fillP pas css) vs
  | [], css, Bs, vs, h, _, _ => by
    have : vs = [] := by cases Bs <;> cases vs <;> first | rfl | exact h.elim
    subst this
    have : fillP [] css = [] := by cases css <;> rfl
    rw [this]; exact .nil _ _
  | some av :: pas, css, Bs, [], h, _, _ => by cases Bs <;> exact h.elim
  | some av :: pas, css, Bs, v :: vs, h, hl, hr => by
    have h' : DV w π av v ∧ ArgsR w π pas Bs vs := by cases Bs <;> exact h
    have e : fillP (some av :: pas) css = av :: fillP pas css := by cases css <;> rfl
    rw [e]
    exact .cons (h'.1.mono hp (fun _ _ _ => rfl)) (fillP_DVs hp h'.2 hl hr)
  | none :: pas, css, [], vs, h, _, _ => by cases vs <;> exact h.elim
  | none :: pas, css, B :: Bs, [], h, _, _ => h.elim
  | none :: pas, [], B :: Bs, v :: vs, h, hl, _ => by simp at hl
  | none :: pas, cs :: css, B :: Bs, v :: vs, h, hl, hr => by
    obtain ⟨rfl, h2⟩ := h
    exact .cons (hr 0 cs B rfl rfl) (fillP_DVs hp h2 (by simpa using hl) (fun k cs B h1 h2 => hr (k + 1) cs B (by simpa using h1) (by simpa using h2)))
theorem frzs_live : ∀ {ids : List Nat} {css : List (List AV)} {s : S}, (frzs ids css s).live = s.live
  | [], css, s => by cases css <;> rfl
  | b :: ids, [], s => rfl
  | b :: ids, cs :: css, s => frzs_live (ids := ids) (css := css)
theorem chunkA_len (z : Nat) : ∀ (n : Nat) (cs : List AV), (chunkA z n cs).length = n
  | 0, _ => rfl
  | n + 1, cs => by simp [chunkA, chunkA_len z n]
theorem chunkA_at (z : Nat) : ∀ (n : Nat) (cs : List AV) (i : Nat) (r : List AV), (chunkA z n cs)[i]? = some r → i < n ∧ r = (cs.drop (i * z)).take z
  | 0, _, i, r, h => by simp [chunkA] at h
  | n + 1, cs, 0, r, h => by simp only [chunkA, List.getElem?_cons_zero, Option.some.injEq] at h; subst h; simp
  | n + 1, cs, i + 1, r, h => by
    simp only [chunkA, List.getElem?_cons_succ] at h
    obtain ⟨h1, h2⟩ := chunkA_at z n _ i r h
    refine ⟨by omega, ?_⟩
    rw [h2, List.drop_drop]
    congr 2
    rw [Nat.succ_mul, Nat.add_comm]
theorem ref_sl {π : Nat → Nat → Prop} {cs : List AV} {B o : Nat} (h : DV w π (.ref cs) (.pointer (some ⟨B, o, none⟩))) {off n z : Nat} (hn : n * z ≤ (cs.drop off).length) : DV w π (.sl (chunkA z n (cs.drop off))) (.slice (some ⟨B, o + off, none⟩) n n) := by
  cases h with
  | ref _ _ _ f h1 h2 h3 h4 =>
    have hget : ∀ (i j : Nat) (r : List AV) (a : AV), (chunkA z n (cs.drop off))[i]? = some r → r[j]? = some a → cs[off + (i * z + j)]? = some a := by
      intro i j r a hi hj
      obtain ⟨_, rfl⟩ := chunkA_at z n _ i r hi
      rw [List.getElem?_take] at hj
      split at hj
      · rw [List.getElem?_drop, List.getElem?_drop] at hj; rw [← hj]
      · cases hj
    have e : ∀ i j, o + off + i * z + j = o + (off + (i * z + j)) := fun i j => by omega
    have hl := chunkA_len z n (cs.drop off)
    have key := DV.sl (w := w) (π := π) (chunkA z n (cs.drop off)) B (o + off) n z (fun i j => f (off + (i * z + j))) (by omega) (fun i r hi => ?_) (fun i j r a hi hj => h1 _ _ (hget i j r a hi hj)) (fun i j r a hi hj => by rw [e]; exact h2 _ _ (hget i j r a hi hj)) (fun i j r a hi hj => by rw [e]; exact h3 _ _ (hget i j r a hi hj)) (fun i j r a hi hj => h4 _ _ (hget i j r a hi hj))
    · rw [hl] at key; exact key
    · obtain ⟨hin, rfl⟩ := chunkA_at z n _ i r hi
      have : (i + 1) * z ≤ n * z := Nat.mul_le_mul_right _ hin
      rw [Nat.succ_mul] at this
      simp only [List.length_take, List.length_drop] at hn ⊢
      omega
theorem slA_run {t : TypeId} {n e z B off : Nat} (ht : P.underlying t = some (.array n e)) (hz : szOf P e = some z) :
    (Instr.sliceAt t (.pointer (some ⟨B, off, none⟩)) none none none).run P w = .ok (.slice (some ⟨B, off, none⟩) n n) w := by
  simp [Instr.sliceAt, run_underlying ht, Instr.sureAddr, Instr.sliceBounds, run_size hz, Addr.add]
theorem slV_run {t : TypeId} {n e z B off : Nat} (ht : P.underlying t = some (.array n e)) (hz : szOf P e = some z) {k : IntKind} {j : Int} (h0 : 0 ≤ j) (h1 : j ≤ n) :
    (Instr.sliceAt t (.pointer (some ⟨B, off, none⟩)) none (some (.int k j)) none).run P w = .ok (.slice (some ⟨B, off, none⟩) j.toNat n) w := by
  have hH := run_sliceBound (P := P) w k j n .sliceAlen h0 h1
  simp [Instr.sliceAt, run_underlying ht, Instr.sureAddr, Instr.sliceBounds, run_size hz, Addr.add, hH]
def fltV : AV → Value
  | .float _ r => .float .f64 r
  | _ => undef
def rteS (b : Nat) : Ieee.Datum → Sem Value
  | .nan s t => if FloatKind.f64.format.quiet t = t then pure (.float .f64 b) else do
      let kept ← choose (.extern "math.Floor,Ceil,Trunc,RoundToEven.signallingNaN kept" 2)
      pure (.float .f64 (if kept == 1 then b else FloatKind.f64.encode (.nan s (FloatKind.f64.format.quiet t))))
  | d => pure (.float .f64 (FloatKind.f64.encode (d.integral .even)))
def rteD (b : Nat) : Ieee.Datum → Option AV
  | .nan _ t => if FloatKind.f64.format.quiet t = t then some (.float .f64 b) else none
  | d => some (.float .f64 (FloatKind.f64.encode (d.integral .even)))
theorem rteD_run {π : Nat → Nat → Prop} {b : Nat} {v : AV} : ∀ {d : Ieee.Datum}, rteD b d = some v → (rteS b d).run P w = .ok (fltV v) w ∧ DV w π v (fltV v)
  | .nan s t, h => by
    simp only [rteD] at h
    split at h <;> try (cases h; done)
    rename_i hq
    cases h
    simp only [rteS, hq, if_true]
    exact ⟨rfl, .float _ _⟩
  | .number s m i, h => by cases h; exact ⟨rfl, .float _ _⟩
  | .infinity s, h => by cases h; exact ⟨rfl, .float _ _⟩
theorem rte_run {π : Nat → Nat → Prop} {b : Nat} {v : AV} (h : rteA b = some v) : ((Extern.MathFloor.toIntegral "math.RoundToEven" .even) #[.float .f64 b]).run P w = .ok (fltV v) w ∧ DV w π v (fltV v) :=
  by
  have hto : Extern.MathFloor.toIntegral "math.RoundToEven" .even #[.float .f64 b] = rteS b (FloatKind.f64.decode b) := by
    show ((match FloatKind.f64.decode b with
            | .nan s t => if FloatKind.f64.format.quiet t = t then pure (.float .f64 b) else do
                let kept ← choose (.extern "math.Floor,Ceil,Trunc,RoundToEven.signallingNaN kept" 2)
                pure (.float .f64 (if kept == 1 then b else FloatKind.f64.encode (.nan s (FloatKind.f64.format.quiet t))))
            | d => pure (.float .f64 (FloatKind.f64.encode (d.integral .even)))) : Sem Value) = _
    generalize FloatKind.f64.decode b = d
    cases d <;> rfl
  have hta : rteD b (FloatKind.f64.decode b) = some v := by
    rw [← h]
    show rteD b (FloatKind.f64.decode b) = ((match FloatKind.f64.decode b with
      | .nan _ t => if FloatKind.f64.format.quiet t = t then some (.float .f64 b) else none
      | d => some (.float .f64 (FloatKind.f64.encode (d.integral .even)))) : Option AV)
    generalize FloatKind.f64.decode b = d
    cases d <;> rfl
  rw [hto]
  exact rteD_run hta
theorem xt_run {f : FuncId} {e : Xt} (he : xtOf P f = some e) {a v : AV} {x : Value} (hv : xtA e a = some v) (hd : DV w π a x) : ∃ u, (callFunc f #[x]).run P w = .ok (.value u) w ∧ DV w π v u := by
  unfold xtOf at he
  split at he <;> try (cases he; done)
  rename_i fn hf
  split at he <;> try (cases he; done)
  rename_i hb
  simp only [Bool.and_eq_true] at hb
  have hb1 : fn.body = none := by simpa using hb.1
  have hb2 : Extern.findNext fn = none := by simpa using hb.2
  split at he
  · rename_i hn
    have hn := eq_of_beq hn
    cases he
    have hfi : Extern.find fn = some Extern.MathFloatBits.float64bits := by unfold Extern.find; rw [hn]; rfl
    cases a <;> try (cases hv; done)
    rename_i k b
    cases k <;> cases hv
    cases hd
    refine ⟨.int .u64 b, ?_, .int _ _⟩
    rw [run_callFunc_extern hf (by rw [hn]; rfl) (by rw [hb1]; rfl) hb2 hfi]
    rfl
  · split at he
    · rename_i hn
      have hn := eq_of_beq hn
      cases he
      have hfi : Extern.find fn = some Extern.MathFloatBits.float64frombits := by unfold Extern.find; rw [hn]; rfl
      cases a <;> try (cases hv; done)
      rename_i k b
      cases k <;> cases hv
      cases hd
      refine ⟨.float .f64 b.toNat, ?_, .float _ _⟩
      rw [run_callFunc_extern hf (by rw [hn]; rfl) (by rw [hb1]; rfl) hb2 hfi]
      rfl
    · split at he <;> try (cases he; done)
      rename_i hn
      have hn := eq_of_beq hn
      cases he
      have hfi : Extern.find fn = some (Extern.MathFloor.toIntegral "math.RoundToEven" .even) := by unfold Extern.find; rw [hn]; rfl
      cases a <;> try (cases hv; done)
      rename_i k b
      cases k <;> try (cases hv; done)
      cases hd
      have hv : rteA b = some v := hv
      have hrun : ((Extern.MathFloor.toIntegral "math.RoundToEven" .even) #[.float .f64 b]).run P w = .ok (fltV v) w ∧ DV w π v (fltV v) := by
        exact rte_run hv
      refine ⟨_, ?_, hrun.2⟩
      rw [run_callFunc_extern hf (by rw [hn]; rfl) (by rw [hb1]; rfl) hb2 hfi, hrun.1]
      rfl
theorem callFunc_run {f : Nat} (hc : callable P f = true) (args : Array Value) : (callFunc f args).run P w = .ok (.enter f args) w := by
  unfold callable at hc
  split at hc
  · rename_i fn hfn
    simp only [Bool.and_eq_true, bne_iff_ne, ne_eq] at hc
    obtain ⟨b, hb⟩ := Option.isSome_iff_exists.1 hc.2
    simp [callFunc, hfn, hc.1, hb]
  · cases hc
theorem aop_sound (R : Rel P nt n0 w0 π0 U s a w β τ π) {o : Oper} {c : COp} {id : Nat} (hid : ¬ U id) (hc : cOp P o.op = some c) {K : SV → S → Prop} (h : aop (Pure P) id c K s) {next : Act → World → Prop} {Q : Exit → Act → World → Prop}
    (hn : ∀ v s' x w' β' τ' π', K v s' → RV β' τ' w' π' v x → v.inU (also U id) → Rel P nt n0 w0 π0 (also U id) s' a w' β' τ' π' → next (a.put o.dst x) w') : o.wp P a w next Q := by
  obtain ⟨dst, op, type, pos, after, guard⟩ := o
  simp only at hc
  have hsub : ∀ n, U n → also U id n := fun n h => .inl h
  have hdat : ∀ (v : AV), (SV.dat v none).inU (also U id) := fun _ => trivial
  -- a value, nothing else
  have fin : ∀ {v : SV} {y : Value}, (execOp a.eval ⟨dst, op, type, pos, after, guard⟩).run P w = .ok (.value y) w → RV β τ w π v y → v.inU U → K v s → Oper.wp P ⟨dst, op, type, pos, after, guard⟩ a w next Q := by
    intro v y hr hv hu hK
    unfold Oper.wp
    rw [hr]
    exact hn v s y w β τ π hK hv (SV.inU_mono hsub hu) (R.sub hsub)
  have find : ∀ {v : AV} {y : Value}, (execOp a.eval ⟨dst, op, type, pos, after, guard⟩).run P w = .ok (.value y) w → DV w π v y → K (.dat v none) s → Oper.wp P ⟨dst, op, type, pos, after, guard⟩ a w next Q :=
    fun {v y} hr hv hK => fin (v := .dat v none) hr ⟨hv, fun t ht => by cases ht⟩ trivial hK
  cases op <;> simp only [cOp] at hc <;> try (cases hc; done)
  case move x =>
    simp only [Option.map_eq_some_iff] at hc
    obtain ⟨x', hx, rfl⟩ := hc
    simp only [aop] at h
    obtain ⟨v, hv, hK⟩ := withV_inv h
    obtain ⟨hr, hu⟩ := R.opd hx hv
    exact fin rfl hr hu hK
  case assign x =>
    simp only [Option.map_eq_some_iff] at hc
    obtain ⟨x', hx, rfl⟩ := hc
    simp only [aop] at h
    obtain ⟨v, hv, hK⟩ := withV_inv h
    obtain ⟨hr, hu⟩ := R.opd hx hv
    exact fin rfl hr hu hK
  case pick cc aa bb =>
    split at hc <;> try (cases hc; done)
    rename_i c' a' b' h1 h2 h3
    cases hc
    simp only [aop] at h
    obtain ⟨t, ht, h⟩ := withV_inv h
    have hd := R.opdA h1 ht
    cases t <;> try (exact h.elim)
    rename_i t
    obtain ⟨u, hu, h⟩ := withV_inv h
    obtain ⟨v, hv, hK1, hK2⟩ := withV_inv h
    have hb := hd.bool_inv
    obtain ⟨ra, ua⟩ := R.opd h2 hu
    obtain ⟨rb, ub⟩ := R.opd h3 hv
    cases t
    · exact fin (by simp [execOp, hb, asBool]) rb ub (hK2 rfl)
    · exact fin (by simp [execOp, hb, asBool]) ra ua (hK1 rfl)
  case alloc t =>
    simp only [Option.map_eq_some_iff] at hc
    obtain ⟨zs, hz, rfl⟩ := hc
    simp only [aop] at h
    obtain ⟨z, hzr, hzd, hzs⟩ := zero_run (P := P) (w := w) (π := π) hz
    have hr : (execOp a.eval ⟨dst, .alloc t, type, pos, after, guard⟩).run P w = .ok (.value (.pointer (some ⟨w.heap.size, 0, none⟩))) (w.alloc (.cells z.cells t)) := by
      simp [execOp, Instr.alloc, hzr, newVar, Go.newRow]
    unfold Oper.wp
    rw [hr]
    exact hn _ _ _ _ _ _ _ h (show RV (upd β id w.heap.size) τ _ π (.ptr id 0) _ by simp [RV, upd_same]) (.inr rfl) (R.newBox hid t hzd hzs)
  case box t x =>
    simp only [Option.map_eq_some_iff] at hc
    obtain ⟨x', hx, rfl⟩ := hc
    simp only [aop] at h
    obtain ⟨av, hv, h⟩ := withV_inv h
    have hd := R.opdA hx hv
    have hr : (execOp a.eval ⟨dst, .box t x, type, pos, after, guard⟩).run P w = .ok (.value (.pointer (some ⟨w.heap.size, 0, none⟩))) (w.alloc (.cells (a.eval x).cells t)) := by
      simp [execOp, Instr.box, newVar, Go.newRow]
    obtain ⟨hok, hK⟩ := h
    obtain ⟨hcd, hcs⟩ := hd.cells (fun vs e => by subst e; simp [stOk] at hok)
    unfold Oper.wp
    rw [hr]
    exact hn _ _ _ _ _ _ _ hK (show RV (upd β id w.heap.size) τ _ π (.ptr id 0) _ by simp [RV, upd_same]) (.inr rfl) (R.newBox hid t hcd hcs)
  case build t ps =>
    split at hc <;> try (cases hc; done)
    rename_i zs ps' hz hps
    split at hc <;> try (cases hc; done)
    rename_i hfit
    cases hc
    simp only [Bool.and_eq_true] at hfit
    obtain ⟨v, y, hr, hv, hu, hK⟩ := R.build hz hps hfit.1 hfit.2 h
    exact fin (by simp only [execOp, Sem.run_bind, hr, Result.andThen_ok, Sem.run_pure]) hv hu hK
  case buildSlice t n ps =>
    split at hc <;> try (cases hc; done)
    rename_i e ht
    split at hc <;> try (cases hc; done)
    rename_i zs z xs hz hsz hxs
    split at hc <;> try (cases hc; done)
    rename_i hok
    cases hc
    obtain ⟨v, y, s', w', τ', π', hr, hv, hu, hK, R'⟩ := R.buildSlice ht hz hsz hxs hok hid h
    unfold Oper.wp
    have : (execOp a.eval ⟨dst, .buildSlice t n ps, type, pos, after, guard⟩).run P w = .ok (.value y) w' := by simp only [execOp, Sem.run_bind, hr, Result.andThen_ok, Sem.run_pure]
    rw [this]
    exact hn v s' y w' β τ' π' hK hv hu R'
  case load t x =>
    split at hc <;> try (cases hc; done)
    rename_i r x' hr hx
    cases hc
    obtain ⟨v, y, hr, hv, hu, hK⟩ := R.load hx hr h
    exact fin (by simp only [execOp, Sem.run_bind, hr, Result.andThen_ok, Sem.run_pure]) hv hu hK
  case store t x v =>
    split at hc <;> try (cases hc; done)
    rename_i z x' v' hz hx hv
    cases hc
    obtain ⟨s', w', hr, hK, R'⟩ := R.store hx hv hz h
    unfold Oper.wp
    have : (execOp a.eval ⟨dst, .store t x v, type, pos, after, guard⟩).run P w = .ok .skip w' := by simp only [execOp, Sem.run_bind, hr, Result.andThen_ok, Sem.run_pure]
    rw [this]
    exact hn .undef s' undef w' β τ π hK rfl trivial (R'.sub hsub)
  case nilCheck x =>
    simp only [Option.map_eq_some_iff] at hc
    obtain ⟨x', hx, rfl⟩ := hc
    simp only [aop] at h
    obtain ⟨v, hv, h⟩ := withV_inv h
    obtain ⟨hr, hu⟩ := R.opd hx hv
    cases v with
    | ptr b o =>
      have he : a.eval x = .pointer (some ⟨β b, o, none⟩) := hr
      exact fin (v := .ptr b o) (by simp [execOp, he]) (show RV β τ w π (.ptr b o) (.pointer (some ⟨β b, o, none⟩)) from rfl) hu h
    | rp cs =>
      obtain ⟨B, off, f, he, hrest⟩ := hr
      exact fin (v := .rp cs) (by simp [execOp, he]) (show RV β τ w π (.rp cs) (.pointer (some ⟨B, off, none⟩)) from ⟨B, off, f, rfl, hrest⟩) trivial h
    | undef => exact h.elim
    | vs _ _ _ _ => exact h.elim
    | dat av q =>
      cases av <;> try (exact h.elim)
      case ref cs =>
        obtain ⟨B, off, f, he, hrest⟩ := (RV.ref (β := β) (τ := τ)).2 hr.1
        exact fin (v := .rp cs) (by simp [execOp, he]) (show RV β τ w π (.rp cs) (.pointer (some ⟨B, off, none⟩)) from ⟨B, off, f, rfl, hrest⟩) trivial h
      rename_i fn as bs
      cases fn <;> try (exact h.elim)
      rename_i f
      have hr' := hr
      obtain ⟨hd, htag⟩ := hr
      generalize hvx : a.eval x = y at hd hr'
      cases hd
      exact fin (by simp [execOp, hvx]) hr' hu h
  case binOp op t x y yt =>
    split at hc <;> try (cases hc; done)
    rename_i x' y' hx hy
    split at hc
    · rename_i hsc
      cases hc
      simp only [aop] at h
      obtain ⟨av, hav, h⟩ := withV_inv h
      obtain ⟨bv, hbv, h⟩ := withV_inv h
      obtain ⟨v, hv, hK⟩ := withV_inv h
      obtain ⟨u, w', hw', hu, hd⟩ := bin_run (P := P) (X := x) (Y := y) hsc hv (R.opdA hx hav) (R.opdA hy hbv)
      rcases hw' with rfl | rfl
      · exact find (by simp only [execOp]; rw [Sem.run_bind, hu]; rfl) hd hK
      · have hr : (execOp a.eval ⟨dst, .binOp op t x y yt, type, pos, after, guard⟩).run P w = .ok (.value u) w.drew := by
          simp only [execOp]; rw [Sem.run_bind, hu]; rfl
        unfold Oper.wp
        rw [hr]
        exact hn (.dat v none) _ _ _ _ _ _ hK ⟨Drw.dv (Or.inr rfl) hd, fun t ht => by cases ht⟩ trivial (R.draw.sub hsub)
    · split at hc
      · rename_i hbb
        have key : ∀ neg, ((op = .eql ∧ neg = false) ∨ (op = .neq ∧ neg = true)) → c = .bb neg x' y' → Oper.wp P ⟨dst, .binOp op t x y yt, type, pos, after, guard⟩ a w next Q := by
          intro neg hop e
          subst e
          simp only [aop] at h
          obtain ⟨av, hav, h⟩ := withV_inv h
          obtain ⟨bv, hbv, h⟩ := withV_inv h
          obtain ⟨v, hv, hK⟩ := withV_inv h
          obtain ⟨u, hu, hd⟩ := bb_run (P := P) (X := x) (Y := y) hop hbb hv (R.opdA hx hav) (R.opdA hy hbv)
          exact find (by simp only [execOp]; rw [Sem.run_bind, hu]; rfl) hd hK
        split at hc <;> try (cases hc; done)
        · cases hc; exact key false (.inl ⟨rfl, rfl⟩) rfl
        · cases hc; exact key true (.inr ⟨rfl, rfl⟩) rfl
      split at hc
      · rename_i hsl
        have key : ∀ neg, ((op = .eql ∧ neg = false) ∨ (op = .neq ∧ neg = true)) → y' = .k .nils → c = .isn neg x' → Oper.wp P ⟨dst, .binOp op t x y yt, type, pos, after, guard⟩ a w next Q := by
          intro neg hop ey e
          subst e ey
          simp only [aop] at h
          obtain ⟨av, hav, h⟩ := withV_inv h
          obtain ⟨b, hb, hK⟩ := withV_inv h
          have hr := isn_run (P := P) (X := x) (Y := y) hop hsl hb (R.opdA hx hav) (R.opdA (v := .nils) hy rfl)
          exact find (by simp only [execOp]; rw [Sem.run_bind, hr]; rfl) (.bool _) hK
        split at hc <;> try (cases hc; done)
        · cases hc; exact key false (.inl ⟨rfl, rfl⟩) rfl rfl
        · cases hc; exact key true (.inr ⟨rfl, rfl⟩) rfl rfl
      · have key : ∀ neg, ((op = .eql ∧ neg = false) ∨ (op = .neq ∧ neg = true)) → cEq P t neg x' y' = some c → Oper.wp P ⟨dst, .binOp op t x y yt, type, pos, after, guard⟩ a w next Q := by
          intro neg hop he
          unfold cEq at he
          split at he <;> try (cases he; done)
          rename_i ks hk
          split at he <;> try (cases he; done)
          rename_i hg
          cases he
          simp only [aop] at h
          obtain ⟨av, hav, h⟩ := withV_inv h
          cases av <;> try (exact h.elim)
          obtain ⟨bv, hbv, h⟩ := withV_inv h
          cases bv <;> try (exact h.elim)
          obtain ⟨e, he, hK⟩ := withV_inv h
          have hr := eqc_run (P := P) (X := x) (Y := y) hop hk hg (R.opdA hx hav) (R.opdA hy hbv) he
          exact find (by simp only [execOp]; rw [Sem.run_bind, hr]; rfl) (.bool _) hK
        split at hc <;> try (cases hc; done)
        · exact key false (.inl ⟨rfl, rfl⟩) hc
        · exact key true (.inr ⟨rfl, rfl⟩) hc
  case unOp op t x =>
    simp only [Option.map_eq_some_iff] at hc
    obtain ⟨x', hx, rfl⟩ := hc
    simp only [aop] at h
    obtain ⟨av, hav, h⟩ := withV_inv h
    obtain ⟨v, hv, hK⟩ := withV_inv h
    obtain ⟨u, hu, hd⟩ := un_run (P := P) hv (R.opdA hx hav)
    exact find (by simp only [execOp, Sem.run_bind, hu, Result.andThen_ok, Sem.run_pure]) hd hK
  case convert sr ds x =>
    simp only [Option.bind_eq_some_iff] at hc
    obtain ⟨x', hx, hc⟩ := hc
    have hcc := hc
    have key : ∀ {av v : AV}, Eng.opdA s x' = some av → ((∃ k, c = .cvII k x' ∧ cvIIA k av = some v) ∨ (∃ k, c = .cvIF k x' ∧ cvIFA k av = some v) ∨ (∃ k, c = .cvFI k x' ∧ cvFIA k av = some v)) → K (.dat v none) s → Oper.wp P ⟨dst, .convert sr ds x, type, pos, after, guard⟩ a w next Q := by
      intro av v hav hor hK
      obtain ⟨u, hu, hd⟩ := conv_run (P := P) (X := x) hcc (R.opdA hx hav) hor
      exact find (by simp only [execOp, Sem.run_bind, hu, Result.andThen_ok, Sem.run_pure]) hd hK
    unfold cConv at hc
    split at hc <;> try (cases hc; done)
    all_goals
      cases hc
      simp only [aop] at h
      obtain ⟨av, hav, h⟩ := withV_inv h
      obtain ⟨v, hv, hK⟩ := withV_inv h
      first
        | exact key hav (.inl ⟨_, rfl, hv⟩) hK
        | exact key hav (.inr (.inl ⟨_, rfl, hv⟩)) hK
        | exact key hav (.inr (.inr ⟨_, rfl, hv⟩)) hK
  case makeFunc fn first caps =>
    cases fn <;> simp only [] at hc <;> try (cases hc; done)
    rename_i f
    split at hc <;> try (cases hc; done)
    rename_i as bs h1 h2
    split at hc <;> try (cases hc; done)
    cases hc
    simp only [aop] at h
    obtain ⟨xs, hxs, h⟩ := withV_inv h
    obtain ⟨⟨pas, ids⟩, hsv, hok, h⟩ := withV_inv h
    obtain ⟨css, hcs, hK⟩ := withV_inv h
    simp only [Bool.and_eq_true] at hok
    have d1 := R.opdsA (by simpa [cOpds] using h1) hxs
    have d2 := R.svsA (by simpa [cOpds] using h2) hsv
    obtain ⟨π', hp, R', href⟩ := Rel.freezes R (nodupB_spec hok.1) hok.2 hcs
    have hlc := (cellsA_spec hcs).1
    have d3 := fillP_DVs hp d2 (by simpa using hlc) (fun k cs B h1 h2 => by
      rw [List.getElem?_map, Option.map_eq_some_iff] at h2
      obtain ⟨b, hb, rfl⟩ := h2
      exact href k b cs hb h1)
    have d1' := d1.mono hp (fun _ _ _ => rfl)
    have hr : (execOp a.eval ⟨dst, .makeFunc (.func f) first caps, type, pos, after, guard⟩).run P w = .ok (.value (.func (.func f) (first.map a.eval) (caps.map a.eval))) w := by simp [execOp, Instr.makeFunc]
    unfold Oper.wp
    rw [hr]
    refine hn (.dat (.fn (.func f) xs (fillP pas css)) none) _ _ _ _ _ _ hK ⟨?_, fun t ht => by cases ht⟩ trivial (R'.sub hsub)
    exact .fn _ _ _ _ _ (by simpa using d1'.1) (by simpa using d3.1) (fun i x v hx hv => d1'.2 i x v hx (by simpa using hv)) (fun i x v hx hv => d3.2 i x v hx (by simpa using hv))
  case slice t x lo hi mx =>
    cases mx <;> simp only [] at hc <;> try (cases hc; done)
    split at hc <;> try (cases hc; done)
    · rename_i e x' lo' hi' ht hx hl hh
      simp only [Option.map_eq_some_iff] at hc
      obtain ⟨z, hz, rfl⟩ := hc
      obtain ⟨v, y, hr, hv, hu, hK⟩ := R.slice ht hz hx hl hh h
      exact fin (by simp only [execOp, Sem.run_bind, Option.map_none, hr, Result.andThen_ok, Sem.run_pure]) hv hu hK
    · rename_i n e x' ht hx hl hh
      simp only [Option.map_eq_some_iff] at hc
      obtain ⟨z, hz, rfl⟩ := hc
      have e1 : lo = none := by cases lo with | none => rfl | some y => simp [cOpt] at hl
      have e2 : hi = none := by cases hi with | none => rfl | some y => simp [cOpt] at hh
      subst e1 e2
      simp only [aop] at h
      obtain ⟨v, hv, h⟩ := withV_inv h
      have hrv := (R.opd hx hv).1
      cases v <;> try (exact h.elim)
      · rename_i b off
        obtain ⟨h4, h⟩ := h
        obtain ⟨bx, hb, hlen, hK⟩ := withV_inv h
        have he : a.eval x = .pointer (some ⟨β b, off, none⟩) := hrv
        have hcs : cellsA s.boxes [b] = some [bx.cells] := by simp [cellsA, hb]
        obtain ⟨π', hp, R', href⟩ := Rel.freezes R (ids := [b]) (by simp) (by simp [ownIds, h4]) hcs
        have hr : (execOp a.eval ⟨dst, .slice t x none none none, type, pos, after, guard⟩).run P w = .ok (.value (.slice (some ⟨β b, off, none⟩) n n)) w := by
          simp only [execOp, Option.map_none, he, Sem.run_bind, slA_run ht hz, Result.andThen_ok, Sem.run_pure]
        unfold Oper.wp
        rw [hr]
        refine hn _ _ _ _ _ _ _ hK ⟨?_, fun t ht => by cases ht⟩ trivial (R'.sub hsub)
        have := ref_sl (href 0 b bx.cells rfl rfl) hlen
        simpa using this
      · rename_i cs
        obtain ⟨hlen, hK⟩ := h
        obtain ⟨B, o, f, he, h1, h2, h3, h5⟩ := hrv
        have hd : DV w π (.ref cs) (.pointer (some ⟨B, o, none⟩)) := .ref cs B o f h1 h2 h3 h5
        have := ref_sl (off := 0) hd (by simpa using hlen)
        refine find ?_ (by simpa using this) hK
        have he : a.eval x = .pointer (some ⟨B, o, none⟩) := he
        simp only [execOp, Option.map_none, he, Sem.run_bind, slA_run ht hz, Result.andThen_ok, Sem.run_pure]
    · rename_i n e x' hi' ht hx hl hh
      simp only [Option.map_eq_some_iff] at hc
      obtain ⟨z, hz, rfl⟩ := hc
      have e1 : lo = none := by cases lo with | none => rfl | some y => simp [cOpt] at hl
      subst e1
      cases hi with
      | none => simp [cOpt] at hh
      | some hi =>
        simp only [cOpt, Option.map_eq_some_iff, Option.some.injEq, exists_eq_right] at hh
        simp only [aop] at h
        obtain ⟨v, hv, h⟩ := withV_inv h
        have hrv := (R.opd hx hv).1
        have hru := (R.opd hx hv).2
        cases v <;> try (exact h.elim)
        rename_i b off
        obtain ⟨b1, hb1, h⟩ := withV_inv h
        obtain ⟨j, hj, ⟨h0, h1⟩, hK⟩ := withV_inv h
        obtain ⟨k, hk⟩ := R.idx hh hb1 hj
        have he : a.eval x = .pointer (some ⟨β b, off, none⟩) := hrv
        have hr : (execOp a.eval ⟨dst, .slice t x none (some hi) none, type, pos, after, guard⟩).run P w = .ok (.value (.slice (some ⟨β b, off, none⟩) j.toNat n)) w := by
          simp only [execOp, Option.map_none, Option.map_some, he, hk, Sem.run_bind, slV_run ht hz h0 h1, Result.andThen_ok, Sem.run_pure]
        exact fin (v := .vs b off j.toNat z) hr ⟨n, by omega, rfl⟩ hru hK
  case fieldAddr t x f =>
    split at hc <;> try (cases hc; done)
    rename_i fd x' hf hx
    split at hc <;> try (cases hc; done)
    rename_i hz
    cases hc
    obtain ⟨v, y, hr, hv, hu, hK⟩ := R.fieldAddr hx hf hz h
    exact fin (by simp only [execOp, Sem.run_bind, hr, Result.andThen_ok, Sem.run_pure]) hv hu hK
  case field t x f =>
    split at hc <;> try (cases hc; done)
    rename_i fd x' hf hx
    simp only [Option.map_eq_some_iff] at hc
    obtain ⟨r, hr, rfl⟩ := hc
    simp only [aop] at h
    obtain ⟨av, hav, h⟩ := withV_inv h
    have hd := R.opdA hx hav
    cases av <;> try (exact h.elim)
    rename_i cs
    obtain ⟨v, hv, hK⟩ := withV_inv h
    unfold fieldOf at hf
    split at hf <;> try (cases hf; done)
    rename_i fs hu
    generalize he : a.eval x = u at hd
    cases hd with
    | agg _ us h1 h2 h3 =>
      obtain ⟨u, hpu, hdu⟩ := part_run (P := P) hr h1 h2 h3 hv
      exact find (by simp [execOp, he, Instr.field, asAgg, run_underlying hu, hf, hpu]) hdu hK
  case indexAddr t x i =>
    split at hc <;> try (cases hc; done)
    · rename_i n e x' i' ht hx hi
      simp only [Option.map_eq_some_iff] at hc
      obtain ⟨z, hz, rfl⟩ := hc
      obtain ⟨v, y, hr, hv, hu, hK⟩ := R.indexArr hx hi ht hz h
      exact fin (by simp only [execOp, Sem.run_bind, hr, Result.andThen_ok, Sem.run_pure]) hv hu hK
    · rename_i e x' i' ht hx hi
      simp only [Option.map_eq_some_iff] at hc
      obtain ⟨z, hz, rfl⟩ := hc
      obtain ⟨v, y, hr, hv, hu, hK⟩ := R.indexSl hx hi ht hz h
      exact fin (by simp only [execOp, Sem.run_bind, hr, Result.andThen_ok, Sem.run_pure]) hv hu hK
  case index t x i =>
    split at hc <;> try (cases hc; done)
    rotate_left
    · rename_i x' i' ht hx hi
      cases hc
      simp only [aop] at h
      obtain ⟨av, hav, h⟩ := withV_inv h
      have hd := R.opdA hx hav
      cases av <;> try (exact h.elim)
      rename_i bs
      obtain ⟨b, hb, h⟩ := withV_inv h
      obtain ⟨j, hj, h⟩ := withV_inv h
      obtain ⟨v, hv, hK⟩ := withV_inv h
      obtain ⟨k, hk⟩ := R.idx hi hb hj
      generalize he : a.eval x = u at hd
      cases hd
      unfold byteA at hv
      split at hv <;> try (cases hv; done)
      rename_i hlt
      cases hv
      exact find (by simp [execOp, he, Instr.index, hk, asIntOf, run_underlying ht, hlt]) (.int _ _) hK
    rename_i n e x' i' ht hx hi
    split at hc <;> try (cases hc; done)
    rename_i z r hz hr
    cases hc
    simp only [aop] at h
    obtain ⟨av, hav, h⟩ := withV_inv h
    have hd := R.opdA hx hav
    cases av <;> try (exact h.elim)
    rename_i cs
    obtain ⟨b, hb, h⟩ := withV_inv h
    obtain ⟨j, hj, h⟩ := withV_inv h
    obtain ⟨hlt, h⟩ := h
    obtain ⟨v, hv, hK⟩ := withV_inv h
    obtain ⟨k, hk⟩ := R.idx hi hb hj
    have hsz := run_size (w := w) hz
    generalize he : a.eval x = u at hd
    cases hd with
    | agg _ us h1 h2 h3 =>
      obtain ⟨u, hpu, hdu⟩ := part_run (P := P) hr h1 h2 h3 hv
      exact find (by simp [execOp, he, Instr.index, hk, asIntOf, run_underlying ht, hlt, hsz, hpu]) hdu hK
  case extract x i =>
    simp only [Option.map_eq_some_iff] at hc
    obtain ⟨x', hx, rfl⟩ := hc
    simp only [aop] at h
    obtain ⟨av, hav, h⟩ := withV_inv h
    obtain ⟨v, hv, hK⟩ := withV_inv h
    obtain ⟨u, hu, hd⟩ := ext_run (P := P) hv (R.opdA hx hav)
    exact find (by simp only [execOp, Sem.run_bind, hu, Result.andThen_ok, Sem.run_pure]) hd hK
  case call cl =>
    obtain ⟨callee, args, argTypes⟩ := cl
    -- a call
    have enter : ∀ {f : Nat} {as : List AV} {vs : List Value} {r : AV} {fr : Option Nat}, Pure0 P f as r fr → DVs w π as vs →
        (execOp a.eval ⟨dst, .call ⟨callee, args, argTypes⟩, type, pos, after, guard⟩).run P w = .ok (.enter f vs.toArray) w →
        K (.dat r (fr.map fun _ => id)) { s with live := match (generalizing := false) fr with | some e => (id, e) :: s.live | none => s.live } →
        Oper.wp P ⟨dst, .call ⟨callee, args, argTypes⟩, type, pos, after, guard⟩ a w next Q := by
      intro f as vs r fr hp hd hr hK
      unfold Oper.wp
      rw [hr, Oper.upon_enter]
      refine (hp.2 w π vs R.prot hd).mono ?_
      rintro e w' ⟨v, π', rfl, hbel, hp1, hp2, hp3, hdv, htk⟩
      obtain ⟨τ', hrv, R'⟩ := R.called hid hbel hp1 hp2 hp3 hdv htk
      exact hn _ _ _ _ _ _ _ hK hrv (by cases fr with | none => trivial | some e => exact .inr rfl) R'
    simp only [cCall] at hc
    split at hc
    · rename_i f
      by_cases hcall : callable P f = true
      rotate_left
      · rw [if_neg hcall] at hc
        split at hc <;> try (cases hc; done)
        rename_i e x hxt hargs
        simp only [Option.map_eq_some_iff] at hc
        obtain ⟨x', hx, rfl⟩ := hc
        simp only [aop] at h
        obtain ⟨av, hav, h⟩ := withV_inv h
        obtain ⟨v, hv, hK⟩ := withV_inv h
        obtain ⟨u, hu, hdu⟩ := xt_run hxt hv (R.opdA hx hav)
        have eX : args = #[x] := Array.toList_inj.1 (by simpa using hargs)
        subst eX
        exact find (by simp [execOp, resolve, Act.eval, Deferred.ofValue, invoke]; simpa [Act.eval] using hu) hdu hK
      rw [if_pos hcall] at hc
      simp only [Option.map_eq_some_iff] at hc
      obtain ⟨xs, hxs, hce⟩ := hc
      split at hce
      · subst hce
        simp only [aop] at h
        obtain ⟨⟨pas, ids⟩, hsv, hnd, h⟩ := withV_inv h
        obtain ⟨css, hcs, r, fr, css', hp, hK⟩ := withV_inv h
        have hp : PureB P f css pas r fr css' := hp
        obtain ⟨hca, hl1, _, hp⟩ := hp
        have hnd' : ids.Nodup := nodupB_spec hnd
        have harg := R.svsA (by simpa [cOpds] using hxs) hsv
        have e1 : (args.toList.map a.eval).toArray = args.map a.eval := Array.toList_inj.1 (by simp)
        have hr : (execOp a.eval ⟨dst, .call ⟨.value (.func f), args, argTypes⟩, type, pos, after, guard⟩).run P w = .ok (.enter f (args.toList.map a.eval).toArray) w := by
          rw [e1]; simp [execOp, resolve, Act.eval, Deferred.ofValue, invoke, callFunc_run hcall]
        unfold Oper.wp
        rw [hr, Oper.upon_enter]
        refine (hp w π (ids.map β) (args.toList.map a.eval) R.prot (R.nodup hnd' hcs) (R.boxesAt hcs) harg).mono ?_
        rintro e w' ⟨v, π', rfl, hbel, hp1, hp2, hp3, hbx, hdv, htk⟩
        obtain ⟨τ', hrv, R'⟩ := R.calledB hid hnd' hcs hl1 hbel hp1 hp2 hp3 hbx hdv htk
        exact hn _ _ _ _ _ _ _ hK hrv (by cases fr with | none => trivial | some e => exact .inr rfl) R'
      subst hce
      simp only [aop] at h
      obtain ⟨as, has, r, fr, hp, hK⟩ := withV_inv h
      have hd := R.opdsA (by simpa [cOpds] using hxs) has
      have e1 : (args.toList.map a.eval).toArray = args.map a.eval := Array.toList_inj.1 (by simp)
      exact enter hp hd (by rw [e1]; simp [execOp, resolve, Act.eval, Deferred.ofValue, invoke, callFunc_run hcall]) hK
    · rename_i g hg
      split at hc <;> try (cases hc; done)
      rename_i g' xs hg' hxs
      simp only [Option.some.injEq] at hc
      split at hc
      · subst hc
        simp only [aop] at h
        obtain ⟨av, hav, h⟩ := withV_inv h
        have hdg := R.opdA hg' hav
        cases av <;> try (exact h.elim)
        rename_i fn first caps
        cases fn <;> try (exact h.elim)
        rename_i f
        cases first <;> try (exact h.elim)
        cases caps <;> try (exact h.elim)
        obtain ⟨⟨pas, ids⟩, hsv, hnd, h⟩ := withV_inv h
        obtain ⟨css, hcs, r, fr, css', hp, hK⟩ := withV_inv h
        have hp : PureB P f css pas r fr css' := hp
        obtain ⟨hca, hl1, _, hp⟩ := hp
        have hnd' : ids.Nodup := nodupB_spec hnd
        have harg := R.svsA (by simpa [cOpds] using hxs) hsv
        have e1 : (args.toList.map a.eval).toArray = args.map a.eval := Array.toList_inj.1 (by simp)
        have hr : (execOp a.eval ⟨dst, .call ⟨.value g, args, argTypes⟩, type, pos, after, guard⟩).run P w = .ok (.enter f (args.toList.map a.eval).toArray) w := by
          generalize he : a.eval g = u at hdg
          cases hdg with
          | fn _ _ vs _ us h1 h2 h3 h4 =>
            have e2 : vs = #[] := Array.size_eq_zero_iff.1 (by simpa using h1.symm)
            have e3 : us = #[] := Array.size_eq_zero_iff.1 (by simpa using h2.symm)
            subst e2 e3
            rw [e1]; simp [execOp, resolve, he, Deferred.ofValue, invoke, callFunc_run hca]
        unfold Oper.wp
        rw [hr, Oper.upon_enter]
        refine (hp w π (ids.map β) (args.toList.map a.eval) R.prot (R.nodup hnd' hcs) (R.boxesAt hcs) harg).mono ?_
        rintro e w' ⟨v, π', rfl, hbel, hp1, hp2, hp3, hbx, hdv, htk⟩
        obtain ⟨τ', hrv, R'⟩ := R.calledB hid hnd' hcs hl1 hbel hp1 hp2 hp3 hbx hdv htk
        exact hn _ _ _ _ _ _ _ hK hrv (by cases fr with | none => trivial | some e => exact .inr rfl) R'
      subst hc
      simp only [aop] at h
      obtain ⟨av, hav, h⟩ := withV_inv h
      have hdg := R.opdA hg' hav
      cases av <;> try (exact h.elim)
      rename_i fn first caps
      cases fn <;> try (exact h.elim)
      rename_i f
      obtain ⟨as, has, r, fr, hp, hK⟩ := withV_inv h
      have hd := R.opdsA (by simpa [cOpds] using hxs) has
      generalize he : a.eval g = u at hdg
      cases hdg with
      | fn _ _ vs _ us h1 h2 h3 h4 =>
        have d1 : DVs w π first vs.toList := ⟨by simpa using h1, fun i x v hx hv => h3 i x v hx (by simpa using hv)⟩
        have d2 : DVs w π caps us.toList := ⟨by simpa using h2, fun i x v hx hv => h4 i x v hx (by simpa using hv)⟩
        have e1 : (vs.toList ++ (args.toList.map a.eval) ++ us.toList).toArray = vs ++ args.map a.eval ++ us := by
          apply Array.toList_inj.1; simp
        refine enter hp ((d1.append hd).append d2) ?_ hK
        rw [e1]
        simp [execOp, resolve, he, Deferred.ofValue, invoke, callFunc_run (show Pure0 P _ _ _ _ from hp).1]
    · -- len
      split at hc <;> try (cases hc; done)
      rename_i t x hT hX
      split at hc <;> try (cases hc; done)
      · rename_i e ht
        simp only [Option.map_eq_some_iff] at hc
        obtain ⟨x', hx, rfl⟩ := hc
        simp only [aop] at h
        obtain ⟨av, hav, h⟩ := withV_inv h
        obtain ⟨v, hv, hK⟩ := withV_inv h
        obtain ⟨u, hu, hd⟩ := len_run (P := P) ht hT (Xs := args.map a.eval) (by simp [hX]) (R.opdA hx hav) hv type
        exact find (by simp [execOp, resolve, invoke, builtin, hu]) hd hK
      · rename_i n e ht
        cases hc
        simp only [aop] at h
        exact find (v := .int .i64 n) (y := .int .i64 n) (by simp [execOp, resolve, invoke, builtin, Builtin.len_, hT, hX, run_underlying ht, goInt]) (.int _ _) h
    · -- append
      split at hc <;> try (cases hc; done)
      rename_i t t' x y hT hX
      split at hc <;> try (cases hc; done)
      rename_i htt
      subst htt
      split at hc <;> try (cases hc; done)
      rename_i e x' y' ht hx hy
      split at hc <;> try (cases hc; done)
      rename_i i hi
      split at hc <;> try (cases hc; done)
      rename_i zv hz
      split at hc <;> try (cases hc; done)
      rename_i hsz
      cases hc
      obtain ⟨v, u, s', w', τ', π', hr, hv, hu, hK, R'⟩ := R.append ht hi hz hsz hx hy hid type h
      have eT : argTypes = #[t, t] := Array.toList_inj.1 (by simpa using hT)
      have eX : args = #[x, y] := Array.toList_inj.1 (by simpa using hX)
      subst eT eX
      unfold Oper.wp
      have : (execOp a.eval ⟨dst, .call ⟨.builtin .append, #[x, y], #[t, t]⟩, type, pos, after, guard⟩).run P w = .ok (.value u) w' := by
        simp [execOp, resolve, invoke, builtin, hr]
      rw [this]
      exact hn v s' u w' β τ' π' hK hv hu R'
    · simp only [Option.map_eq_some_iff] at hc
      obtain ⟨xs, hxs, rfl⟩ := hc
      simp only [aop] at h
      obtain ⟨as, has, h⟩ := withV_inv h
      have hd := R.opdsA (by simpa [cOpds] using hxs) has
      cases as with
      | nil => exact h.elim
      | cons b as =>
        obtain ⟨v, hv, hK⟩ := withV_inv h
        obtain ⟨args⟩ := args
        cases args with
        | nil => have := hd.1; simp at this
        | cons y ys =>
          obtain ⟨u, w', hw', hu, hdu⟩ := mm_run (P := P) hv (hd.2 0 b (a.eval y) rfl rfl) (us := ys.map a.eval) ⟨by have := hd.1; simpa using this, fun i a v h1 h2 => hd.2 (i + 1) a v (by simpa using h1) (by simpa using h2)⟩
          simp only [if_true] at hu
          have hr : (execOp a.eval ⟨dst, .call ⟨.builtin .max, ⟨y :: ys⟩, argTypes⟩, type, pos, after, guard⟩).run P w = .ok (.value u) w' := by simp [execOp, resolve, invoke, builtin, Builtin.max_, hu]
          unfold Oper.wp
          rw [hr]
          exact hn (.dat v none) _ _ _ _ _ _ hK ⟨hdu, fun t ht => by cases ht⟩ trivial (R.draws hw' |>.sub hsub)
    · simp only [Option.map_eq_some_iff] at hc
      obtain ⟨xs, hxs, rfl⟩ := hc
      simp only [aop] at h
      obtain ⟨as, has, h⟩ := withV_inv h
      have hd := R.opdsA (by simpa [cOpds] using hxs) has
      cases as with
      | nil => exact h.elim
      | cons b as =>
        obtain ⟨v, hv, hK⟩ := withV_inv h
        obtain ⟨args⟩ := args
        cases args with
        | nil => have := hd.1; simp at this
        | cons y ys =>
          obtain ⟨u, w', hw', hu, hdu⟩ := mm_run (P := P) hv (hd.2 0 b (a.eval y) rfl rfl) (us := ys.map a.eval) ⟨by have := hd.1; simpa using this, fun i a v h1 h2 => hd.2 (i + 1) a v (by simpa using h1) (by simpa using h2)⟩
          simp only [Bool.false_eq_true, if_false] at hu
          have hr : (execOp a.eval ⟨dst, .call ⟨.builtin .min, ⟨y :: ys⟩, argTypes⟩, type, pos, after, guard⟩).run P w = .ok (.value u) w' := by simp [execOp, resolve, invoke, builtin, Builtin.min_, hu]
          unfold Oper.wp
          rw [hr]
          exact hn (.dat v none) _ _ _ _ _ _ hK ⟨hdu, fun t ht => by cases ht⟩ trivial (R.draws hw' |>.sub hsub)
    · cases hc
theorem chunkA_flat (z : Nat) : ∀ (n : Nat) (cs : List AV), (chunkA z n cs).flatten = cs.take (n * z)
  | 0, cs => by simp [chunkA]
  | n + 1, cs => by
    rw [chunkA, List.flatten_cons, chunkA_flat z n, Nat.succ_mul, Nat.add_comm, List.take_add]
theorem chunkA_rows (z : Nat) : ∀ (n : Nat) (cs : List AV), n * z ≤ cs.length → ∀ r ∈ chunkA z n cs, r.length = z
  | 0, cs, _, r, h => by simp [chunkA] at h
  | n + 1, cs, hl, r, h => by
    rw [Nat.succ_mul] at hl
    rw [chunkA] at h
    rcases List.mem_cons.1 h with rfl | h
    · simp; omega
    · exact chunkA_rows z n (cs.drop z) (by simp; omega) r h
theorem Rel.appendV (R : Rel P nt n0 w0 π0 U s a w β τ π) {t e : TypeId} {i : TypeInfo} {zv : Value} {X : Operand} {x : Opd} {y : Nat} (ht : P.underlying t = some (.slice e)) (hi : P.info? e = some i) (hz : i.zero = some zv) (hsz : (0 < i.size && zv.cells.size == i.size && 0 < i.bytes) = true)
    (hx : cOpd X = some x) {id : Nat} (hid : ¬ U id) (ty : TypeId) {K : SV → S → Prop} (h : aop (Pure P) id (.appV e i.size i.bytes (.t y) x) K s) :
    ∃ v u s' w' τ' π', (Builtin.append_ #[t, t] ty #[.slice none 0 0, a.eval (.tmp y)]).run P w = .ok u w' ∧ RV β τ' w' π' v u ∧ v.inU (also U id) ∧ K v s' ∧ Rel P nt n0 w0 π0 (also U id) s' a w' β τ' π' := by
  simp only [Bool.and_eq_true, decide_eq_true_eq, beq_iff_eq] at hsz
  obtain ⟨⟨hz0, hzs⟩, hb0⟩ := hsz
  have hsub : ∀ n, U n → also U id n := fun n h => .inl h
  simp only [aop] at h
  obtain ⟨p, hp, h⟩ := withV_inv h
  have hrp := (R.opd (X := .tmp y) (x := .t y) rfl hp).1
  cases p <;> try (exact h.elim)
  rename_i b off n z'
  obtain ⟨q, hq, h2⟩ := withV_inv h
  clear h
  cases q <;> try (exact h2.elim)
  rename_i b' o'
  obtain ⟨⟨hbb, hzz⟩, h3⟩ := h2
  obtain ⟨bx, hb, ⟨hlen, hbytes⟩, hK⟩ := withV_inv h3
  clear h3
  subst hbb hzz
  obtain ⟨cap, hcap, hv⟩ := hrp
  obtain ⟨_, _, hbox, _⟩ := R.boxes b' bx hb
  obtain ⟨f, hf, hsc, hdv, _⟩ := hbox.cells
  rw [hv]
  simp only [List.length_drop] at hlen
  by_cases hn0 : n = 0
  · subst hn0
    rw [if_pos rfl] at hK
    refine ⟨.dat .nils none, .slice none 0 0, s, w, τ, π, ?_, ⟨.nils, fun t ht => by cases ht⟩, trivial, hK, R.sub hsub⟩
    simp [Builtin.append_, run_underlying ht, sizeOf, typeInfo, hi, Builtin.lenOf, Builtin.firstCells, loadCells, loadCellsFrom]
  · rw [if_neg hn0] at hK
    have hpos : 0 < n := Nat.pos_of_ne_zero hn0
    have h63 : n ≤ maxLen := by
      have := Nat.le_mul_of_pos_right n hb0
      simp only [maxLen]; omega
    have hl0 := chunkA_len i.size n (bx.cells.drop off)
    have hrow := chunkA_rows i.size n (bx.cells.drop off) (by simp; omega)
    have hfl := chunkA_flat i.size n (bx.cells.drop off)
    have hget : ∀ (j : Nat) (c : AV), (chunkA i.size n (bx.cells.drop off)).flatten[j]? = some c → j < n * i.size ∧ bx.cells[off + j]? = some c := by
      intro j c hj
      rw [hfl, List.getElem?_take] at hj
      split at hj
      · rename_i hjl; rw [List.getElem?_drop] at hj; exact ⟨hjl, hj⟩
      · cases hj
    have hnews : ((List.range (n * i.size)).map fun j => f (off + j)).length = n * i.size := by simp
    have hcell : ∀ j v, ((List.range (n * i.size)).map fun j => f (off + j))[j]? = some v → w.cell? ((⟨β b', off, none⟩ : Addr).add j) = some v := by
      intro j v hj
      rw [List.getElem?_map, Option.map_eq_some_iff] at hj
      obtain ⟨k, hk, rfl⟩ := hj
      have hkl : j < n * i.size := by
        rcases Nat.lt_or_ge j (n * i.size) with h | h
        · exact h
        · rw [List.getElem?_eq_none (by simpa using h)] at hk; cases hk
      rw [List.getElem?_range hkl] at hk
      cases hk
      rw [addr_add]
      exact hf _ (by omega)
    have hdn : DVs w π (chunkA i.size n (bx.cells.drop off)).flatten ((List.range (n * i.size)).map fun j => f (off + j)) := by
      refine ⟨by rw [hfl]; simp; omega, fun j c v hc hj => ?_⟩
      obtain ⟨hjl, hc⟩ := hget j c hc
      rw [List.getElem?_map, List.getElem?_range hjl] at hj
      cases hj
      exact hdv _ _ hc
    have hscn : ∀ r ∈ chunkA i.size n (bx.cells.drop off), ∀ x ∈ r, x.scalar = true := by
      intro r hr x hx
      have hm : x ∈ (chunkA i.size n (bx.cells.drop off)).flatten := List.mem_flatten.2 ⟨r, hr, hx⟩
      rw [hfl] at hm
      obtain ⟨j, hj⟩ := List.mem_iff_getElem?.1 (List.mem_of_mem_drop (List.mem_of_mem_take hm))
      exact hsc j x hj
    have hrun := run_append_nil (P := P) w t ty e i zv ht hi hz ⟨β b', off, none⟩ n cap _ hnews hcell hpos (by simp only [maxLen] at h63; omega) (by omega)
    obtain ⟨π', R', hd'⟩ := R.grown (id := id) (old := 0) hi hz rfl hzs hz0 hid (zs := chunkA i.size n (bx.cells.drop off)) (vs := (List.range (n * i.size)).map fun j => f (off + j)) (by rw [hl0, hnews]) hdn hrow hscn (by rw [hl0]; exact h63) rfl
    rw [hl0] at R' hd'
    exact ⟨.dat (.sl _) (some id), _, _, _, _, _, hrun, ⟨hd', fun t ht => by cases ht; rw [upd_same]⟩, .inr rfl, hK, R'⟩
theorem appV_sound (R : Rel P nt n0 w0 π0 U s a w β τ π) {o : Oper} {ops : List Oper} {c : COp} {id : Nat} (hid : ¬ U id) (hc : appVOf P ops o.op = some c) {K : SV → S → Prop} (h : aop (Pure P) id c K s) {next : Act → World → Prop} {Q : Exit → Act → World → Prop}
    (hn : ∀ v s' x w' β' τ' π', K v s' → RV β' τ' w' π' v x → v.inU (also U id) → Rel P nt n0 w0 π0 (also U id) s' a w' β' τ' π' → next (a.put o.dst x) w') : o.wp P a w next Q := by
  obtain ⟨dst, op, type, pos, after, guard⟩ := o
  simp only at hc
  unfold appVOf at hc
  split at hc <;> try (cases hc; done)
  rename_i cl
  split at hc <;> try (cases hc; done)
  rename_i t t' y hcal hT hX
  split at hc <;> try (cases hc; done)
  rename_i htt
  subst htt
  split at hc <;> try (cases hc; done)
  rename_i e x' ht hx
  split at hc <;> try (cases hc; done)
  rename_i i hi
  split at hc <;> try (cases hc; done)
  rename_i zv hz
  split at hc <;> try (cases hc; done)
  rename_i hsz
  cases hc
  obtain ⟨X, hX1, hX2⟩ := Option.bind_eq_some_iff.1 hx
  obtain ⟨v, u, s', w', τ', π', hr, hv, hu, hK, R'⟩ := R.appendV ht hi hz hsz hX2 hid type h
  obtain ⟨callee, args, argTypes⟩ := cl
  simp only at hcal hT hX
  have eT : argTypes = #[t, t] := Array.toList_inj.1 (by simpa using hT)
  have eX : args = #[.const (.slice none 0 0), .tmp y] := Array.toList_inj.1 (by simpa using hX)
  subst eT eX hcal
  unfold Oper.wp
  have : (execOp a.eval ⟨dst, .call ⟨.builtin .append, #[.const (.slice none 0 0), .tmp y], #[t, t]⟩, type, pos, after, guard⟩).run P w = .ok (.value u) w' := by
    have e0 : a.eval (.const (.slice none 0 0)) = .slice none 0 0 := rfl
    simp [execOp, resolve, invoke, builtin, hr, e0]
  rw [this]
  exact hn v s' u w' β τ' π' hK hv hu R'
end
end Go.Eng
namespace Go.Eng
set_option linter.unusedVariables false
set_option linter.unusedSimpArgs false
set_option linter.unnecessarySimpa false
open Go
set_option linter.unusedVariables false
set_option linter.unusedSimpArgs false
structure Agr (l lb : List Nat) (ap : Bool) (s s2 : S) : Prop where
  slots : ∀ t ∈ l, lk t s2.slots = lk t s.slots
  boxes : ∀ t ∈ lb, ∀ b off x, lk t s.slots = some (.ptr b off) → lkB b s.boxes = some x → lkB b s2.boxes = some x
  live : ap = true → ∀ t ∈ l, ∀ a q e, lk t s.slots = some (.dat a (some q)) → lkN q s.live = some e → lkN q s2.live = some e
section
variable {l lb : List Nat} {ap : Bool} {s s2 : S}
theorem Agr.sub (h : Agr l lb ap s s2) {l' : List Nat} (hs : ∀ t ∈ l', t ∈ l) : Agr l' lb ap s s2 :=
  ⟨fun t ht => h.slots t (hs t ht), h.boxes, fun e t ht => h.live e t (hs t ht)⟩
theorem Agr.opd (h : Agr l lb ap s s2) {x : Opd} (hx : ∀ t ∈ x.rd, t ∈ l) {v : SV} (hv : Eng.opd s x = some v) : Eng.opd s2 x = some v := by
  cases x with
  | t n => simp only [Eng.opd] at hv ⊢; rw [h.slots n (hx n (by simp [Opd.rd])), hv]
  | k v => exact hv
theorem Agr.opdA (h : Agr l lb ap s s2) {x : Opd} (hx : ∀ t ∈ x.rd, t ∈ l) {v : AV} (hv : Eng.opdA s x = some v) : Eng.opdA s2 x = some v := by
  unfold Eng.opdA at hv ⊢
  cases ho : Eng.opd s x with
  | none => rw [ho] at hv; cases hv
  | some u => rw [h.opd hx ho]; rw [ho] at hv; exact hv
theorem Agr.opdsA (h : Agr l lb ap s s2) : ∀ {xs : List Opd} (hx : ∀ t ∈ opdsRd xs, t ∈ l) {vs : List AV} (hv : Eng.opdsA s xs = some vs), Eng.opdsA s2 xs = some vs
  | [], _, vs, hv => hv
  | x :: xs, hx, vs, hv => by
    simp only [Eng.opdsA] at hv ⊢
    cases h1 : Eng.opdA s x with
    | none => simp [h1] at hv
    | some a =>
      cases h2 : Eng.opdsA s xs with
      | none => simp [h1, h2] at hv
      | some as =>
        rw [h.opdA (fun t ht => hx t (by simp [opdsRd, ht])) h1, h.opdsA (fun t ht => hx t (by simp [opdsRd, ht])) h2]
        simpa [h1, h2] using hv
theorem Agr.partsA (h : Agr l lb ap s s2) : ∀ {xs : List (Nat × Nat × Opd)} (hx : ∀ t ∈ partsRd xs, t ∈ l) {vs : List (Nat × List AV)} (hv : Eng.partsA s xs = some vs), Eng.partsA s2 xs = some vs
  | [], _, vs, hv => hv
  | (o, z, x) :: xs, hx, vs, hv => by
    simp only [Eng.partsA] at hv ⊢
    cases h1 : Eng.opdA s x with
    | none => simp [h1] at hv
    | some a =>
      cases h2 : Eng.partsA s xs with
      | none => simp [h1, h2] at hv
      | some as =>
        rw [h.opdA (fun t ht => hx t (by simp [partsRd, ht])) h1, h.partsA (fun t ht => hx t (by simp [partsRd, ht])) h2]
        simpa only [h1, h2] using hv
theorem Agr.rowsA (h : Agr l lb ap s s2) {z : Nat} : ∀ {xs : List Opd} (hx : ∀ t ∈ opdsRd xs, t ∈ l) {vs : List (List AV)} (hv : Eng.rowsA s z xs = some vs), Eng.rowsA s2 z xs = some vs
  | [], _, vs, hv => hv
  | x :: xs, hx, vs, hv => by
    simp only [Eng.rowsA] at hv ⊢
    cases h1 : Eng.opdA s x with
    | none => simp [h1] at hv
    | some a =>
      cases h2 : Eng.rowsA s z xs with
      | none => simp [h1, h2] at hv
      | some as =>
        rw [h.opdA (fun t ht => hx t (by simp [opdsRd, ht])) h1, h.rowsA (fun t ht => hx t (by simp [opdsRd, ht])) h2]
        simpa only [h1, h2] using hv
theorem Agr.bndL (h : Agr l lb ap s s2) {x : Option Opd} (hx : ∀ t ∈ optRd x, t ∈ l) {i : Int} (hv : Eng.bndL s x = some i) : Eng.bndL s2 x = some i := by
  cases x with
  | none => exact hv
  | some x =>
    simp only [Eng.bndL] at hv ⊢
    cases h1 : Eng.opdA s x with
    | none => simp [h1, Eng.idxO] at hv
    | some a => rw [h.opdA hx h1]; rw [h1] at hv; exact hv
theorem Agr.bndH (h : Agr l lb ap s s2) {xs : List (List AV)} {x : Option Opd} (hx : ∀ t ∈ optRd x, t ∈ l) {i : Int} (hv : Eng.bndH s xs x = some i) : Eng.bndH s2 xs x = some i := by
  cases x with
  | none => exact hv
  | some x =>
    simp only [Eng.bndH] at hv ⊢
    cases h1 : Eng.opdA s x with
    | none => simp [h1, Eng.idxO] at hv
    | some a => rw [h.opdA hx h1]; rw [h1] at hv; exact hv
theorem Agr.cellsA (h : Agr l lb ap s s2) : ∀ {xs : List Opd} (hx : ∀ t ∈ opdsRd xs, t ∈ l) (hx' : ∀ t ∈ opdsRd xs, t ∈ lb) {p : List (Option AV) × List Nat} (hv : Eng.svsA s xs = some p) {css : List (List AV)} (hc : Eng.cellsA s.boxes p.2 = some css), Eng.svsA s2 xs = some p ∧ Eng.cellsA s2.boxes p.2 = some css
  | [], _, _, p, hv, css, hc => by
    simp only [Eng.svsA, Option.some.injEq] at hv ⊢
    subst hv
    exact ⟨rfl, hc⟩
  | x :: xs, hx, hx', p, hv, css, hc => by
    simp only [Eng.svsA] at hv ⊢
    split at hv <;> try (cases hv; done)
    · rename_i a q as bs h1 h2
      cases hv
      obtain ⟨i1, i2⟩ := h.cellsA (fun t ht => hx t (by simp [opdsRd, ht])) (fun t ht => hx' t (by simp [opdsRd, ht])) h2 hc
      rw [h.opd (fun t ht => hx t (by simp [opdsRd, ht])) h1, i1]
      exact ⟨rfl, i2⟩
    · rename_i cs as bs h1 h2
      cases hv
      obtain ⟨i1, i2⟩ := h.cellsA (fun t ht => hx t (by simp [opdsRd, ht])) (fun t ht => hx' t (by simp [opdsRd, ht])) h2 hc
      rw [h.opd (fun t ht => hx t (by simp [opdsRd, ht])) h1, i1]
      exact ⟨rfl, i2⟩
    · rename_i b as bs h1 h2
      cases hv
      simp only [Eng.cellsA] at hc
      split at hc <;> try (cases hc; done)
      rename_i y css' hy hcs
      cases hc
      obtain ⟨i1, i2⟩ := h.cellsA (fun t ht => hx t (by simp [opdsRd, ht])) (fun t ht => hx' t (by simp [opdsRd, ht])) h2 hcs
      rw [h.opd (fun t ht => hx t (by simp [opdsRd, ht])) h1, i1]
      refine ⟨rfl, ?_⟩
      have hyb : Eng.lkB b s2.boxes = some y := by
        cases x with
        | t n => exact h.boxes n (hx' n (by simp [opdsRd, Opd.rd])) b 0 y h1 hy
        | k v => simp [Eng.opd] at h1
      simp only [Eng.cellsA, hyb, i2]
theorem Agr.cellsP (h : Agr l lb ap s s2) : ∀ {xs : List Opd} (hx : ∀ t ∈ opdsRd xs, t ∈ l) (hx' : ∀ t ∈ opdsRd xs, t ∈ lb) {p : List (Option AV) × List Nat} (hv : Eng.svsA s xs = some p) {css : List (List AV)} (hc : Eng.cellsP s.boxes p.2 = some css), Eng.svsA s2 xs = some p ∧ Eng.cellsP s2.boxes p.2 = some css
  | [], _, _, p, hv, css, hc => by
    simp only [Eng.svsA, Option.some.injEq] at hv ⊢
    subst hv
    exact ⟨rfl, hc⟩
  | x :: xs, hx, hx', p, hv, css, hc => by
    simp only [Eng.svsA] at hv ⊢
    split at hv <;> try (cases hv; done)
    · rename_i a q as bs h1 h2
      cases hv
      obtain ⟨i1, i2⟩ := h.cellsP (fun t ht => hx t (by simp [opdsRd, ht])) (fun t ht => hx' t (by simp [opdsRd, ht])) h2 hc
      rw [h.opd (fun t ht => hx t (by simp [opdsRd, ht])) h1, i1]
      exact ⟨rfl, i2⟩
    · rename_i cs as bs h1 h2
      cases hv
      obtain ⟨i1, i2⟩ := h.cellsP (fun t ht => hx t (by simp [opdsRd, ht])) (fun t ht => hx' t (by simp [opdsRd, ht])) h2 hc
      rw [h.opd (fun t ht => hx t (by simp [opdsRd, ht])) h1, i1]
      exact ⟨rfl, i2⟩
    · rename_i b as bs h1 h2
      cases hv
      simp only [Eng.cellsP] at hc
      split at hc <;> try (cases hc; done)
      rename_i cs css' hy hcs
      cases hc
      obtain ⟨i1, i2⟩ := h.cellsP (fun t ht => hx t (by simp [opdsRd, ht])) (fun t ht => hx' t (by simp [opdsRd, ht])) h2 hcs
      rw [h.opd (fun t ht => hx t (by simp [opdsRd, ht])) h1, i1]
      refine ⟨rfl, ?_⟩
      have hyb : Eng.lkB b s2.boxes = some ⟨cs, []⟩ := by
        cases x with
        | t n => exact h.boxes n (hx' n (by simp [opdsRd, Opd.rd])) b 0 _ h1 hy
        | k v => simp [Eng.opd] at h1
      simp only [Eng.cellsP, hyb, i2]
theorem Agr.lkB (h : Agr l lb ap s s2) {x : Opd} (hx : ∀ t ∈ x.rd, t ∈ lb) {b off : Nat} {bx : Box} (hv : Eng.opd s x = some (.ptr b off)) (hb : Eng.lkB b s.boxes = some bx) : Eng.lkB b s2.boxes = some bx := by
  cases x with
  | t n => exact h.boxes n (hx n (by simp [Opd.rd])) b off bx hv hb
  | k v => simp [Eng.opd] at hv
end
inductive Delta where
  | no
  | box (b : Box)
  | live (e : Nat)
  | app (q e : Nat)
  | st (b : Nat) (x : Box)
  | calls (ids : List Nat) (css : List (List AV)) (fr : Option Nat)
  | frz (ids : List Nat) (css : List (List AV))
def Delta.app' (d : Delta) (id : Nat) (s : S) : S :=
  match d with
  | .no => s
  | .box b => { s with boxes := (id, b) :: s.boxes }
  | .live e => { s with live := (id, e) :: s.live }
  | .app q e => { s with live := (id, e) :: delN q s.live }
  | .st b x => { s with boxes := setB b x s.boxes }
  | .calls ids css fr => { s with boxes := setBs ids css s.boxes, live := match fr with | some e => (id, e) :: s.live | none => s.live }
  | .frz ids css => frzs ids css s
def Delta.ok (d : Delta) (o : COp) (s : S) : Prop :=
  match d with
  | .st b _ => o.isFrz = false ∧ ∃ t ∈ o.wrB, ∃ off, lk t s.slots = some (.ptr b off)
  | .calls ids _ _ => o.isFrz = false ∧ ∀ b ∈ ids, ∃ t ∈ o.wrB, ∃ off, lk t s.slots = some (.ptr b off)
  | .frz ids _ => o.isFrz = true ∧ ∀ b ∈ ids, ∃ t ∈ o.wrB, ∃ off, lk t s.slots = some (.ptr b off)
  | .app q _ => o.isApp = true ∧ ∃ t ∈ o.rd, ∃ a, lk t s.slots = some (.dat a (some q))
  | _ => True
def Box.inU (U : Nat → Prop) (x : Box) : Prop := ∀ o q, lkN o x.tags = some q → U q
def Delta.inU (U : Nat → Prop) (d : Delta) : Prop :=
  match d with
  | .box b => b.inU U
  | .app q _ => U q
  | .st b x => U b ∧ x.inU U
  | .calls ids _ _ => ∀ b ∈ ids, U b
  | _ => True
structure S.inU (U : Nat → Prop) (s : S) : Prop where
  slots : ∀ t v, lk t s.slots = some v → v.inU U
  boxes : ∀ b x, lkB b s.boxes = some x → U b ∧ x.inU U
  live : ∀ q e, lkN q s.live = some e → U q
theorem S.inU.opd {U : Nat → Prop} {s : S} (h : s.inU U) {x : Opd} {v : SV} (hv : Eng.opd s x = some v) : v.inU U := by
  cases x with
  | t n => exact h.slots n v hv
  | k a => simp only [Eng.opd, Option.some.injEq] at hv; subst hv; trivial
theorem opd_ptr {s : S} {x : Opd} {b off : Nat} (h : opd s x = some (.ptr b off)) : ∃ t ∈ x.rd, ∃ off', lk t s.slots = some (.ptr b off') := by
  cases x with
  | t n => exact ⟨n, by simp [Opd.rd], off, h⟩
  | k v => simp [opd] at h
theorem svsA_ptr {s : S} : ∀ {xs : List Opd} {p : List (Option AV) × List Nat}, svsA s xs = some p → ∀ b ∈ p.2, ∃ t ∈ opdsRd xs, ∃ off, lk t s.slots = some (.ptr b off)
  | [], p, h, b, hb => by simp [svsA] at h; subst h; cases hb
  | x :: xs, p, h, b, hb => by
    unfold svsA at h
    split at h
    · rename_i h1 h2
      cases h
      obtain ⟨t, ht, hl⟩ := svsA_ptr h2 b hb
      exact ⟨t, by simp [opdsRd, ht], hl⟩
    · rename_i h1 h2
      cases h
      obtain ⟨t, ht, hl⟩ := svsA_ptr h2 b hb
      exact ⟨t, by simp [opdsRd, ht], hl⟩
    · rename_i h1 h2
      cases h
      rcases List.mem_cons.1 hb with rfl | hb
      · obtain ⟨t, ht, hl⟩ := opd_ptr h1
        exact ⟨t, by simp [opdsRd, ht], hl⟩
      · obtain ⟨t, ht, hl⟩ := svsA_ptr h2 b hb
        exact ⟨t, by simp [opdsRd, ht], hl⟩
    · cases h
def FromP (id : Nat) (o : COp) (s : S) (v : SV) : Prop := ∀ b off, v = .ptr b off → (b = id ∧ o.isAl = true) ∨ ∃ t ∈ o.ptrSrc, ∃ off', lk t s.slots = some (.ptr b off')
theorem FromP.dat {id : Nat} {o : COp} {s : S} {a : AV} {q : Option Nat} : FromP id o s (.dat a q) := fun _ _ h => by cases h
theorem FromP.undef {id : Nat} {o : COp} {s : S} : FromP id o s .undef := fun _ _ h => by cases h
theorem FromP.rp {id : Nat} {o : COp} {s : S} {cs : List AV} : FromP id o s (.rp cs) := fun _ _ h => by cases h
def Path (C : Con) (id : Nat) (o : COp) (K : SV → S → Prop) (s : S) : Prop :=
  ∃ v d, K v (Delta.app' d id s) ∧ d.ok o s ∧ (∀ U, s.inU U → v.inU (also U id) ∧ d.inU U) ∧ FromP id o s v ∧ ∀ s2, Agr o.rd o.rdB o.isApp s s2 → ∀ K' : SV → S → Prop, K' v (d.app' id s2) → aop C id o K' s2
section
variable {C : Con} {id : Nat} {o : COp} {K : SV → S → Prop} {s : S}
theorem Path.val {a : AV} (hK : K (.dat a none) s) (h : ∀ s2, Agr o.rd o.rdB o.isApp s s2 → ∀ K' : SV → S → Prop, K' (.dat a none) s2 → aop C id o K' s2) : Path C id o K s :=
  ⟨.dat a none, .no, hK, trivial, fun U _ => ⟨trivial, trivial⟩, .dat, h⟩
theorem Path.sv {v : SV} (hK : K v s) (hv : ∀ U, s.inU U → v.inU U) (hp : FromP id o s v) (h : ∀ s2, Agr o.rd o.rdB o.isApp s s2 → ∀ K' : SV → S → Prop, K' v s2 → aop C id o K' s2) : Path C id o K s :=
  ⟨v, .no, hK, trivial, fun U hs => ⟨SV.inU_mono (fun n h => .inl h) (hv U hs), trivial⟩, hp, h⟩
theorem aop_path (h : aop C id o K s) : Path C id o K s := by
  cases o <;> simp only [aop] at h
  case mv x =>
    obtain ⟨v, hv, hK⟩ := withV_inv h
    exact Path.sv hK (fun U hs => hs.opd hv) (fun b off e => .inr (opd_ptr (by rw [hv, e]))) fun s2 ag K' hk => by simpa [aop, ag.opd (fun t ht => ht) hv] using hk
  case pick c a b =>
    obtain ⟨t, ht, h⟩ := withV_inv h
    cases t <;> try (exact h.elim)
    rename_i t
    obtain ⟨u, hu, h⟩ := withV_inv h
    obtain ⟨v, hv, hK1, hK2⟩ := withV_inv h
    cases t
    · exact Path.sv (hK2 rfl) (fun U hs => hs.opd hv) (fun b' off e => .inr (by obtain ⟨t, ht, hl⟩ := opd_ptr (x := b) (by rw [hv, e]); exact ⟨t, by simp [COp.ptrSrc, ht], hl⟩)) fun s2 ag K' hk => by
        simpa [aop, ag.opdA (x := c) (by simp [COp.rd]; grind) ht, ag.opd (x := a) (by simp [COp.rd]; grind) hu, ag.opd (x := b) (by simp [COp.rd]; grind) hv] using hk
    · exact Path.sv (hK1 rfl) (fun U hs => hs.opd hu) (fun b' off e => .inr (by obtain ⟨t, ht, hl⟩ := opd_ptr (x := a) (by rw [hu, e]); exact ⟨t, by simp [COp.ptrSrc, ht], hl⟩)) fun s2 ag K' hk => by
        simpa [aop, ag.opdA (x := c) (by simp [COp.rd]; grind) ht, ag.opd (x := a) (by simp [COp.rd]; grind) hu, ag.opd (x := b) (by simp [COp.rd]; grind) hv] using hk
  case alloc cs =>
    exact ⟨.ptr id 0, .box ⟨cs, []⟩, h, trivial, fun U _ => ⟨.inr rfl, fun o q hq => by cases hq⟩, fun b off e => by cases e; exact .inl ⟨rfl, rfl⟩, fun s2 ag K' hk => hk⟩
  case box x =>
    obtain ⟨a, ha, hok, hK⟩ := withV_inv h
    exact ⟨.ptr id 0, .box ⟨a.cells, []⟩, hK, trivial, fun U _ => ⟨.inr rfl, fun o q hq => by cases hq⟩, fun b off e => by cases e; exact .inl ⟨rfl, rfl⟩, fun s2 ag K' hk => by
      simpa [aop, ag.opdA (x := x) (by simp [COp.rd]) ha, hok, Delta.app'] using hk⟩
  case build zs ps =>
    obtain ⟨p, hp, hK⟩ := withV_inv h
    exact Path.val hK fun s2 ag K' hk => by simpa [aop, ag.partsA (by simp [COp.rd]) hp] using hk
  case bsl e z xs =>
    obtain ⟨p, hp, hK⟩ := withV_inv h
    exact ⟨.dat (.sl p) (some id), .live e, hK, trivial, fun U hs => ⟨.inr rfl, trivial⟩, .dat, fun s2 ag K' hk => by simpa [aop, ag.rowsA (by simp [COp.rd]) hp, Delta.app'] using hk⟩
  case ld x sz =>
    obtain ⟨p, hp, h⟩ := withV_inv h
    cases p <;> try (exact h.elim)
    · rename_i b off
      obtain ⟨bx, hb, h⟩ := withV_inv h
      obtain ⟨a, ha, hK⟩ := withV_inv h
      refine Path.sv hK (fun U hs => ?_) .dat fun s2 ag K' hk => by simpa [aop, ag.opd (x := x) (by simp [COp.rd]) hp, ag.lkB (x := x) (by simp [COp.rdB]) hp hb, ha] using hk
      cases sz with
      | some n => trivial
      | none =>
        cases hq : lkN off bx.tags with
        | none => trivial
        | some q => exact (hs.boxes b bx hb).2 off q hq
    · rename_i cs
      obtain ⟨a, ha, hK⟩ := withV_inv h
      exact Path.val hK fun s2 ag K' hk => by simpa [aop, ag.opd (x := x) (by simp [COp.rd]) hp, ha] using hk
  case st x v sz =>
    obtain ⟨p, hp, h⟩ := withV_inv h
    cases p <;> try (exact h.elim)
    rename_i b off
    obtain ⟨bx, hb, h⟩ := withV_inv h
    obtain ⟨u, hu, h⟩ := withV_inv h
    cases u <;> try (exact h.elim)
    rename_i a q
    obtain ⟨h1, h2, h3, hK⟩ := h
    refine ⟨.undef, .st b ⟨setCells bx.cells off a.cells, match (generalizing := false) q with | some q => (off, q) :: bx.tags.filter (fun p => p.1 < off || off + sz ≤ p.1) | none => bx.tags.filter (fun p => p.1 < off || off + sz ≤ p.1)⟩, hK, ⟨rfl, opd_ptr (x := x) hp⟩, fun U hs => ⟨trivial, ?_, ?_⟩, .undef, fun s2 ag K' hk => ?_⟩
    · exact (hs.boxes b bx hb).1
    · intro o q' hq'
      have hfil : ∀ q', lkN o (bx.tags.filter (fun p => p.1 < off || off + sz ≤ p.1)) = some q' → U q' := fun q' hq' =>
        (hs.boxes b bx hb).2 o q' (lkN_filter hq' (fun x => rfl)).1
      cases q with
      | none => exact hfil q' hq'
      | some q =>
        simp only [lkN] at hq'
        cases hoo : o == off
        · rw [hoo] at hq'; exact hfil q' hq'
        · rw [hoo] at hq'
          simp only [cond_true, Option.some.injEq] at hq'
          subst hq'
          exact hs.opd hu
    · simp only [aop, ag.opd (x := x) (by simp [COp.rd]; grind) hp, ag.opd (x := v) (by simp [COp.rd]; grind) hu, ag.lkB (x := x) (by simp [COp.rdB]) hp hb, withV_some]
      exact ⟨h1, h2, h3, hk⟩
  case fa x off =>
    obtain ⟨p, hp, h⟩ := withV_inv h
    cases p <;> try (exact h.elim)
    · exact Path.sv h (fun U hs => (hs.opd hp : (SV.ptr _ _).inU U)) (fun b' off' e => .inr (by cases e; exact opd_ptr (x := x) hp)) fun s2 ag K' hk => by simpa [aop, ag.opd (x := x) (by simp [COp.rd]) hp] using hk
    · exact Path.sv h (fun U hs => trivial) .rp fun s2 ag K' hk => by simpa [aop, ag.opd (x := x) (by simp [COp.rd]) hp] using hk
  case iaA x i n z =>
    obtain ⟨p, hp, h⟩ := withV_inv h
    obtain ⟨a, ha, h⟩ := withV_inv h
    obtain ⟨j, hj, hlt, h⟩ := withV_inv h
    cases p <;> try (exact h.elim)
    · exact Path.sv h (fun U hs => (hs.opd hp : (SV.ptr _ _).inU U)) (fun b' off' e => .inr (by cases e; exact opd_ptr (x := x) hp)) fun s2 ag K' hk => by simpa [aop, ag.opd (x := x) (by simp [COp.rd]; grind) hp, ag.opdA (x := i) (by simp [COp.rd]; grind) ha, hj, hlt] using hk
    · exact Path.sv h (fun U hs => trivial) .rp fun s2 ag K' hk => by simpa [aop, ag.opd (x := x) (by simp [COp.rd]; grind) hp, ag.opdA (x := i) (by simp [COp.rd]; grind) ha, hj, hlt] using hk
  case iaS x i z =>
    obtain ⟨p, hp, h⟩ := withV_inv h
    obtain ⟨a, ha, h⟩ := withV_inv h
    obtain ⟨j, hj, h⟩ := withV_inv h
    obtain ⟨xs, hxs, hlt, h⟩ := withV_inv h
    obtain ⟨row, hrow, hz, hK⟩ := withV_inv h
    refine Path.sv hK (fun U hs => trivial) .rp fun s2 ag K' hk => ?_
    simp only [aop, ag.opdA (x := x) (by simp [COp.rd]; grind) hp, ag.opdA (x := i) (by simp [COp.rd]; grind) ha, hj, hxs, hrow, withV_some]
    exact ⟨hlt, hz, hk⟩
  case fld x off sz =>
    obtain ⟨p, hp, h⟩ := withV_inv h
    cases p <;> try (exact h.elim)
    obtain ⟨a, ha, hK⟩ := withV_inv h
    exact Path.val hK fun s2 ag K' hk => by simpa [aop, ag.opdA (x := x) (by simp [COp.rd]) hp, ha] using hk
  case ixA x i n z sz =>
    obtain ⟨p, hp, h⟩ := withV_inv h
    cases p <;> try (exact h.elim)
    obtain ⟨a, ha, h⟩ := withV_inv h
    obtain ⟨j, hj, hlt, h⟩ := withV_inv h
    obtain ⟨b, hb, hK⟩ := withV_inv h
    exact Path.val hK fun s2 ag K' hk => by simpa [aop, ag.opdA (x := x) (by simp [COp.rd]; grind) hp, ag.opdA (x := i) (by simp [COp.rd]; grind) ha, hj, hlt, hb] using hk
  case bin op x y =>
    obtain ⟨a, ha, h⟩ := withV_inv h
    obtain ⟨b, hb, h⟩ := withV_inv h
    obtain ⟨v, hv, hK⟩ := withV_inv h
    exact Path.val hK fun s2 ag K' hk => by simpa [aop, ag.opdA (x := x) (by simp [COp.rd]; grind) ha, ag.opdA (x := y) (by simp [COp.rd]; grind) hb, hv] using hk
  case eqc ks neg x y =>
    obtain ⟨a, ha, h⟩ := withV_inv h
    cases a <;> try (exact h.elim)
    obtain ⟨b, hb, h⟩ := withV_inv h
    cases b <;> try (exact h.elim)
    obtain ⟨v, hv, hK⟩ := withV_inv h
    exact Path.val hK fun s2 ag K' hk => by simpa [aop, ag.opdA (x := x) (by simp [COp.rd]; grind) ha, ag.opdA (x := y) (by simp [COp.rd]; grind) hb, hv] using hk
  case bb neg x y =>
    obtain ⟨a, ha, h⟩ := withV_inv h
    obtain ⟨b, hb, h⟩ := withV_inv h
    obtain ⟨v, hv, hK⟩ := withV_inv h
    exact Path.val hK fun s2 ag K' hk => by simpa [aop, ag.opdA (x := x) (by simp [COp.rd]; grind) ha, ag.opdA (x := y) (by simp [COp.rd]; grind) hb, hv] using hk
  case un op x =>
    obtain ⟨a, ha, h⟩ := withV_inv h
    obtain ⟨v, hv, hK⟩ := withV_inv h
    exact Path.val hK fun s2 ag K' hk => by simpa [aop, ag.opdA (x := x) (by simp [COp.rd]) ha, hv] using hk
  case cvII k x =>
    obtain ⟨a, ha, h⟩ := withV_inv h
    obtain ⟨v, hv, hK⟩ := withV_inv h
    exact Path.val hK fun s2 ag K' hk => by simpa [aop, ag.opdA (x := x) (by simp [COp.rd]) ha, hv] using hk
  case cvIF k x =>
    obtain ⟨a, ha, h⟩ := withV_inv h
    obtain ⟨v, hv, hK⟩ := withV_inv h
    exact Path.val hK fun s2 ag K' hk => by simpa [aop, ag.opdA (x := x) (by simp [COp.rd]) ha, hv] using hk
  case cvFI k x =>
    obtain ⟨a, ha, h⟩ := withV_inv h
    obtain ⟨v, hv, hK⟩ := withV_inv h
    exact Path.val hK fun s2 ag K' hk => by simpa [aop, ag.opdA (x := x) (by simp [COp.rd]) ha, hv] using hk
  case cvSame x =>
    obtain ⟨v, hv, hK⟩ := withV_inv h
    exact Path.sv hK (fun U hs => hs.opd hv) (fun b off e => .inr (opd_ptr (by rw [hv, e]))) fun s2 ag K' hk => by simpa [aop, ag.opd (fun t ht => ht) hv] using hk
  case lenS x =>
    obtain ⟨a, ha, h⟩ := withV_inv h
    obtain ⟨v, hv, hK⟩ := withV_inv h
    exact Path.val hK fun s2 ag K' hk => by simpa [aop, ag.opdA (x := x) (by simp [COp.rd]) ha, hv] using hk
  case lenK n => exact Path.val h fun s2 ag K' hk => by simpa [aop] using hk
  case slV x n z hi =>
    obtain ⟨p, hp, h⟩ := withV_inv h
    cases p <;> try (exact h.elim)
    rename_i b off
    obtain ⟨a, ha, h2⟩ := withV_inv h
    obtain ⟨j, hj, hlt, hK⟩ := withV_inv h2
    refine Path.sv hK (fun U hs => ?_) (fun b' o' e => by cases e) fun s2 ag K' hk => ?_
    · have : (SV.ptr b off).inU U := hs.opd hp
      exact this
    · simp only [aop, ag.opd (x := x) (by simp [COp.rd]; grind) hp, ag.opdA (x := hi) (by simp [COp.rd]; grind) ha, hj, withV_some]
      exact ⟨hlt, hk⟩
  case appV e z bytes y x =>
    obtain ⟨p, hp, h⟩ := withV_inv h
    cases p <;> try (exact h.elim)
    rename_i b off n z'
    obtain ⟨q, hq, h2⟩ := withV_inv h
    cases q <;> try (exact h2.elim)
    rename_i b' o'
    obtain ⟨⟨e1, e2⟩, h3⟩ := h2
    obtain ⟨bx, hb, h4, hK⟩ := withV_inv h3
    have hy : ∀ t ∈ y.rd, t ∈ (COp.appV e z bytes y x).rd := by simp [COp.rd]; grind
    have hx : ∀ t ∈ x.rd, t ∈ (COp.appV e z bytes y x).rd := by simp [COp.rd]; grind
    rw [e1] at hq
    by_cases hn : n = 0
    · rw [if_pos hn] at hK
      refine Path.val hK fun s2 ag K' hk => ?_
      have hb2 := ag.lkB (x := x) (by simp [COp.rdB]) hq hb
      simp only [aop, ag.opd hy hp, ag.opd hx hq, withV_some, if_pos hn, hb2]
      exact ⟨⟨trivial, e2⟩, h4, hk⟩
    · rw [if_neg hn] at hK
      refine ⟨.dat (.sl (chunkA z n (bx.cells.drop off))) (some id), .live e, hK, trivial, fun U hs => ⟨.inr rfl, trivial⟩, .dat, fun s2 ag K' hk => ?_⟩
      have hb2 := ag.lkB (x := x) (by simp [COp.rdB]) hq hb
      simp only [aop, ag.opd hy hp, ag.opd hx hq, withV_some, if_neg hn, hb2]
      exact ⟨⟨trivial, e2⟩, h4, hk⟩
  case app e z bytes x y =>
    obtain ⟨p, hp, h⟩ := withV_inv h
    cases p <;> try (exact h.elim)
    rename_i a q
    obtain ⟨xs, hxs, h⟩ := withV_inv h
    obtain ⟨b, hb, h⟩ := withV_inv h
    obtain ⟨ys, hys, h1, h2, h3, h⟩ := withV_inv h
    have hx : ∀ t ∈ x.rd, t ∈ (COp.app e z bytes x y).rd := by simp [COp.rd]; grind
    have hy : ∀ t ∈ y.rd, t ∈ (COp.app e z bytes x y).rd := by simp [COp.rd]; grind
    cases a <;> try (exact h.elim)
    · -- nil
      simp only [] at h
      split at h
      · rename_i he
        refine Path.val h fun s2 ag K' hk => ?_
        simp only [aop, ag.opd hx hp, ag.opdA hy hb, hxs, hys, withV_some, if_pos he]
        exact ⟨h1, h2, h3, hk⟩
      · rename_i he
        refine ⟨.dat (.sl (xs ++ ys)) (some id), .live e, h, trivial, fun U hs => ⟨.inr rfl, trivial⟩, .dat, fun s2 ag K' hk => ?_⟩
        simp only [aop, ag.opd hx hp, ag.opdA hy hb, hxs, hys, withV_some, if_neg he]
        exact ⟨h1, h2, h3, hk⟩
    · cases q with
      | none => exact h.elim
      | some q =>
        obtain ⟨hq, hK⟩ := h
        have hsrc : ∃ t ∈ (COp.app e z bytes x y).rd, ∃ a, lk t s.slots = some (.dat a (some q)) := by
          cases x with
          | t n => exact ⟨n, hx n (by simp [Opd.rd]), _, hp⟩
          | k v => simp [opd] at hp
        refine ⟨.dat (.sl (xs ++ ys)) (some id), .app q e, hK, ⟨rfl, hsrc⟩, fun U hs => ⟨.inr rfl, hs.live q e hq⟩, .dat, fun s2 ag K' hk => ?_⟩
        have hq2 : lkN q s2.live = some e := by
          cases x with
          | t n => exact ag.live rfl n (hx n (by simp [Opd.rd])) _ q e hp hq
          | k v => simp [opd] at hp
        simp only [aop, ag.opd hx hp, ag.opdA hy hb, hxs, hys, withV_some]
        exact ⟨h1, h2, h3, hq2, hk⟩
  case call f args =>
    obtain ⟨as, has, r, fr, hc, hK⟩ := withV_inv h
    cases fr with
    | none => exact Path.val hK fun s2 ag K' hk => by simp only [aop, ag.opdsA (by simp [COp.rd]) has, withV_some]; exact ⟨r, none, hc, hk⟩
    | some e => exact ⟨.dat r (some id), .live e, hK, trivial, fun U hs => ⟨.inr rfl, trivial⟩, .dat, fun s2 ag K' hk => by simp only [aop, ag.opdsA (by simp [COp.rd]) has, withV_some]; exact ⟨r, some e, hc, hk⟩⟩
  case callp f args =>
    obtain ⟨p, hp, hnd, h⟩ := withV_inv h
    obtain ⟨css, hcs, r, fr, css', hc, hK⟩ := withV_inv h
    have hin : ∀ U, s.inU U → ∀ b ∈ p.2, U b := by
      intro U hs b hb
      obtain ⟨k, hk⟩ := List.mem_iff_getElem?.1 hb
      obtain ⟨x, hx, _⟩ := (cellsA_spec hcs).2 k b hk
      exact (hs.boxes b x hx).1
    have hgo : ∀ s2, Agr (COp.callp f args).rd (COp.callp f args).rdB (COp.callp f args).isApp s s2 → ∀ K' : SV → S → Prop, K' (.dat r (fr.map fun _ => id)) (Delta.app' (.calls p.2 css' fr) id s2) → aop C id (.callp f args) K' s2 := by
      intro s2 ag K' hk
      obtain ⟨h1, h2⟩ := ag.cellsA (xs := args) (by simp [COp.rd]) (by simp [COp.rdB]) hp hcs
      simp only [aop, h1, h2, withV_some]
      exact ⟨hnd, r, fr, css', hc, hk⟩
    exact ⟨.dat r (fr.map fun _ => id), .calls p.2 css' fr, hK, ⟨rfl, svsA_ptr hp⟩, fun U hs => ⟨by cases fr with | none => trivial | some e => exact .inr rfl, hin U hs⟩, .dat, hgo⟩
  case callv g args =>
    obtain ⟨a, ha, h⟩ := withV_inv h
    cases a <;> try (exact h.elim)
    rename_i fn first caps
    cases fn <;> try (exact h.elim)
    obtain ⟨as, has, r, fr, hc, hK⟩ := withV_inv h
    have hg : ∀ t ∈ g.rd, t ∈ (COp.callv g args).rd := by simp [COp.rd]; grind
    have has' : ∀ t ∈ opdsRd args, t ∈ (COp.callv g args).rd := by simp [COp.rd]; grind
    cases fr with
    | none => exact Path.val hK fun s2 ag K' hk => by simp only [aop, ag.opdA hg ha, ag.opdsA has' has, withV_some]; exact ⟨r, none, hc, hk⟩
    | some e => exact ⟨.dat r (some id), .live e, hK, trivial, fun U hs => ⟨.inr rfl, trivial⟩, .dat, fun s2 ag K' hk => by simp only [aop, ag.opdA hg ha, ag.opdsA has' has, withV_some]; exact ⟨r, some e, hc, hk⟩⟩
  case ext x i =>
    obtain ⟨a, ha, h⟩ := withV_inv h
    obtain ⟨v, hv, hK⟩ := withV_inv h
    exact Path.val hK fun s2 ag K' hk => by simpa [aop, ag.opdA (x := x) (by simp [COp.rd]) ha, hv] using hk
  case xt e x =>
    obtain ⟨a, ha, h⟩ := withV_inv h
    obtain ⟨v, hv, hK⟩ := withV_inv h
    exact Path.val hK fun s2 ag K' hk => by simpa [aop, ag.opdA (x := x) (by simp [COp.rd]) ha, hv] using hk
  case ixB x i =>
    obtain ⟨p, hp, h⟩ := withV_inv h
    cases p <;> try (exact h.elim)
    obtain ⟨a, ha, h⟩ := withV_inv h
    obtain ⟨j, hj, h⟩ := withV_inv h
    obtain ⟨b, hb, hK⟩ := withV_inv h
    exact Path.val hK fun s2 ag K' hk => by simpa [aop, ag.opdA (x := x) (by simp [COp.rd]; grind) hp, ag.opdA (x := i) (by simp [COp.rd]; grind) ha, hj, hb] using hk
  case isn neg x =>
    obtain ⟨a, ha, h⟩ := withV_inv h
    obtain ⟨v, hv, hK⟩ := withV_inv h
    exact Path.val hK fun s2 ag K' hk => by simpa [aop, ag.opdA (x := x) (by simp [COp.rd]) ha, hv] using hk
  case callr f args =>
    obtain ⟨p, hp, hnd, h⟩ := withV_inv h
    obtain ⟨css, hcs, r, hc, hK⟩ := withV_inv h
    refine Path.val hK fun s2 ag K' hk => ?_
    obtain ⟨h1, h2⟩ := ag.cellsP (xs := args) (by simp [COp.rd]) (by simp [COp.rdB]) hp hcs
    simp only [aop, h1, h2, withV_some]
    exact ⟨hnd, r, hc, hk⟩
  case callvr g args =>
    obtain ⟨a, ha, h⟩ := withV_inv h
    cases a <;> try (exact h.elim)
    rename_i fn first caps
    cases fn <;> try (exact h.elim)
    rename_i f
    cases first <;> try (exact h.elim)
    cases caps <;> try (exact h.elim)
    obtain ⟨p, hp, hnd, h⟩ := withV_inv h
    obtain ⟨css, hcs, r, hc, hK⟩ := withV_inv h
    have hg : ∀ t ∈ g.rd, t ∈ (COp.callvr g args).rd := by simp [COp.rd]; grind
    refine Path.val hK fun s2 ag K' hk => ?_
    obtain ⟨h1, h2⟩ := ag.cellsP (xs := args) (by simp [COp.rd]; grind) (by simp [COp.rdB]) hp hcs
    simp only [aop, ag.opdA hg ha, h1, h2, withV_some]
    exact ⟨hnd, r, hc, hk⟩
  case callvp g args =>
    obtain ⟨a, ha, h⟩ := withV_inv h
    cases a <;> try (exact h.elim)
    rename_i fn first caps
    cases fn <;> try (exact h.elim)
    rename_i f
    cases first <;> try (exact h.elim)
    cases caps <;> try (exact h.elim)
    obtain ⟨p, hp, hnd, h⟩ := withV_inv h
    obtain ⟨css, hcs, r, fr, css', hc, hK⟩ := withV_inv h
    have hin : ∀ U, s.inU U → ∀ b ∈ p.2, U b := by
      intro U hs b hb
      obtain ⟨k, hk⟩ := List.mem_iff_getElem?.1 hb
      obtain ⟨x, hx, _⟩ := (cellsA_spec hcs).2 k b hk
      exact (hs.boxes b x hx).1
    have hg : ∀ t ∈ g.rd, t ∈ (COp.callvp g args).rd := by simp [COp.rd]; grind
    have hgo : ∀ s2, Agr (COp.callvp g args).rd (COp.callvp g args).rdB (COp.callvp g args).isApp s s2 → ∀ K' : SV → S → Prop, K' (.dat r (fr.map fun _ => id)) (Delta.app' (.calls p.2 css' fr) id s2) → aop C id (.callvp g args) K' s2 := by
      intro s2 ag K' hk
      obtain ⟨h1, h2⟩ := ag.cellsA (xs := args) (by simp [COp.rd]; grind) (by simp [COp.rdB]) hp hcs
      simp only [aop, ag.opdA hg ha, h1, h2, withV_some]
      exact ⟨hnd, r, fr, css', hc, hk⟩
    exact ⟨.dat r (fr.map fun _ => id), .calls p.2 css' fr, hK, ⟨rfl, svsA_ptr hp⟩, fun U hs => ⟨by cases fr with | none => trivial | some e => exact .inr rfl, hin U hs⟩, .dat, hgo⟩
  case slA x n z =>
    obtain ⟨p, hp, h⟩ := withV_inv h
    cases p <;> try (exact h.elim)
    · rename_i b off
      obtain ⟨h4, h⟩ := h
      obtain ⟨bx, hb, hlen, hK⟩ := withV_inv h
      refine ⟨_, .frz [b] [bx.cells], hK, ⟨rfl, fun b' hb' => ?_⟩, fun U hs => ⟨trivial, trivial⟩, .dat, fun s2 ag K' hk => ?_⟩
      · simp only [List.mem_singleton] at hb'; subst hb'; exact opd_ptr (x := x) hp
      · simp only [aop, ag.opd (x := x) (by simp [COp.rd]) hp, ag.lkB (x := x) (by simp [COp.rdB]) hp hb, withV_some]
        exact ⟨h4, hlen, hk⟩
    · obtain ⟨hlen, hK⟩ := h
      refine Path.val hK fun s2 ag K' hk => ?_
      simp only [aop, ag.opd (x := x) (by simp [COp.rd]) hp, withV_some]
      exact ⟨hlen, hk⟩
  case mkf fn a b =>
    obtain ⟨as, has, h⟩ := withV_inv h
    obtain ⟨p, hp, hok, h⟩ := withV_inv h
    obtain ⟨css, hcs, hK⟩ := withV_inv h
    have hgo : ∀ s2, Agr (COp.mkf fn a b).rd (COp.mkf fn a b).rdB (COp.mkf fn a b).isApp s s2 → ∀ K' : SV → S → Prop, K' (.dat (.fn fn as (fillP p.1 css)) none) (frzs p.2 css s2) → aop C id (.mkf fn a b) K' s2 := by
      intro s2 ag K' hk
      obtain ⟨h1, h2⟩ := ag.cellsA (xs := b) (by simp [COp.rd]; grind) (by simp [COp.rdB]) hp hcs
      simp only [aop, ag.opdsA (xs := a) (by simp [COp.rd]; grind) has, h1, h2, withV_some]
      exact ⟨hok, hk⟩
    cases b with
    | nil =>
      simp [svsA] at hp
      subst hp
      have e : ∀ s : S, frzs [] css s = s := fun s => by cases css <;> rfl
      simp only [e] at hK hgo
      exact Path.val hK hgo
    | cons x b => exact ⟨_, .frz p.2 css, hK, ⟨rfl, svsA_ptr hp⟩, fun U hs => ⟨trivial, trivial⟩, .dat, hgo⟩
  case slS z x lo hi =>
    obtain ⟨a, ha, h⟩ := withV_inv h
    obtain ⟨xs, hxs, h⟩ := withV_inv h
    obtain ⟨l, hl, h⟩ := withV_inv h
    obtain ⟨m, hm, h1, h2, hK⟩ := withV_inv h
    refine Path.val hK fun s2 ag K' hk => ?_
    simp only [aop, ag.opdA (x := x) (by simp [COp.rd]; grind) ha, hxs, ag.bndL (x := lo) (by simp [COp.rd]; grind) hl, ag.bndH (x := hi) (by simp [COp.rd]; grind) hm, withV_some]
    exact ⟨h1, h2, hk⟩
  case nc x =>
    obtain ⟨p, hp, h⟩ := withV_inv h
    cases p with
    | ptr b o => exact Path.sv h (fun U hs => (hs.opd hp : (SV.ptr _ _).inU U)) (fun b' off' e => .inr (by cases e; exact opd_ptr (x := x) hp)) fun s2 ag K' hk => by simpa [aop, ag.opd (x := x) (by simp [COp.rd]) hp] using hk
    | rp cs => exact Path.sv h (fun U hs => trivial) .rp fun s2 ag K' hk => by simpa [aop, ag.opd (x := x) (by simp [COp.rd]) hp] using hk
    | undef => exact h.elim
    | vs _ _ _ _ => exact h.elim
    | dat a q =>
      cases a <;> try (exact h.elim)
      case ref cs => exact Path.sv h (fun U hs => trivial) .rp fun s2 ag K' hk => by simpa [aop, ag.opd (x := x) (by simp [COp.rd]) hp] using hk
      rename_i fn as bs
      cases fn <;> try (exact h.elim)
      exact Path.sv h (fun U hs => hs.opd (v := .dat _ q) hp) .dat fun s2 ag K' hk => by simpa [aop, ag.opd (x := x) (by simp [COp.rd]) hp] using hk
  case mm mx args =>
    obtain ⟨as, has, h⟩ := withV_inv h
    cases as with
    | nil => exact h.elim
    | cons a r =>
      obtain ⟨v, hv, hK⟩ := withV_inv h
      exact Path.val hK fun s2 ag K' hk => by simpa [aop, ag.opdsA (xs := args) (by simp [COp.rd]) has, hv] using hk
end
end Go.Eng
namespace Go.Eng
set_option linter.unusedVariables false
set_option linter.unusedSimpArgs false
set_option linter.unnecessarySimpa false
open Go
set_option linter.unusedVariables false
set_option linter.unusedSimpArgs false
theorem cbeq {α : Type} (n m : Nat) (x y : α) : (bif n == m then x else y) = if n = m then x else y := by
  by_cases h : n = m
  · simp [h]
  · have h' : (n == m) = false := by simpa using h
    simp [h, h']
def astep (C : Con) (id : Nat) (o : CO) (K : S → Prop) (s : S) : Prop :=
  aguard s o.g (aop C id o.op (fun v s' => K (s'.put o.dst v)) s) (K (s.put o.dst .undef))
theorem aops_cons {C : Con} {base i : Nat} {o : CO} {r : List CO} {K : S → Prop} {s : S} : aops C base i (o :: r) K s = astep C (base + i) o (aops C base (i + 1) r K) s := rfl
theorem Agr.refl {l lb : List Nat} {ap : Bool} {s : S} : Agr l lb ap s s := ⟨fun _ _ => rfl, fun _ _ _ _ _ _ h => h, fun _ _ _ _ _ _ _ h => h⟩
theorem Agr.trans {l lb : List Nat} {ap : Bool} {s s2 s3 : S} (hl : ∀ t ∈ lb, t ∈ l) (h : Agr l lb ap s s2) (k : Agr l lb ap s2 s3) : Agr l lb ap s s3 :=
  ⟨fun t ht => (k.slots t ht).trans (h.slots t ht), fun t ht b off x hv hb => k.boxes t ht b off x (by rw [h.slots t (hl t ht)]; exact hv) (h.boxes t ht b off x hv hb),
   fun e t ht a q e' hv hq => k.live e t ht a q e' (by rw [h.slots t ht]; exact hv) (h.live e t ht a q e' hv hq)⟩
theorem lk_put {s : S} {d : Option Nat} {v : SV} {t : Nat} : lk t (s.put d v).slots = if d = some t then some v else lk t s.slots := by
  cases d with
  | none => simp [S.put]
  | some d =>
    simp only [S.put, lk, cbeq]
    by_cases h : t = d
    · subst h; simp
    · have h2 : ¬ (some d = some t) := fun e => h (Option.some.inj e).symm
      rw [if_neg h, if_neg h2]
theorem put_boxes {s : S} {d : Option Nat} {v : SV} : (s.put d v).boxes = s.boxes := by cases d <;> rfl
theorem put_live {s : S} {d : Option Nat} {v : SV} : (s.put d v).live = s.live := by cases d <;> rfl
theorem lkB_setB' {m : Nat} {b : Box} : ∀ {l : List (Nat × Box)} {n : Nat}, lkB n (setB m b l) = if n = m then (lkB m l).map fun _ => b else lkB n l
  | [], n => by simp [setB, lkB]
  | (k, v) :: r, n => by
    have ih := lkB_setB' (m := m) (b := b) (l := r) (n := n)
    simp only [setB, cbeq]
    by_cases hmk : m = k
    · subst hmk
      simp only [if_true, lkB, cbeq]
      by_cases hn : n = m
      · simp [hn]
      · simp [hn]
    · simp only [hmk, if_false, lkB, cbeq, ih]
      by_cases hnk : n = k
      · have : ¬ n = m := fun e => hmk (e.symm.trans hnk)
        simp [hnk, Ne.symm hmk]
      · simp only [hnk, if_false]
theorem lkN_delN' {m : Nat} : ∀ {l : List (Nat × Nat)} {n : Nat}, lkN n (delN m l) = if n = m then none else lkN n l
  | [], n => by simp [delN, lkN]
  | (k, v) :: r, n => by
    have ih := lkN_delN' (m := m) (l := r) (n := n)
    simp only [delN, cbeq]
    by_cases hmk : m = k
    · subst hmk
      simp only [if_true, lkN, cbeq, ih]
      by_cases hn : n = m
      · simp [hn]
      · simp [hn]
    · simp only [hmk, if_false, lkN, cbeq, ih]
      by_cases hnk : n = k
      · simp [hnk, Ne.symm hmk]
      · simp only [hnk, if_false]
structure SEq (s s2 : S) : Prop where
  slots : ∀ t, lk t s2.slots = lk t s.slots
  boxes : ∀ b, lkB b s2.boxes = lkB b s.boxes
  live : ∀ q, lkN q s2.live = lkN q s.live
theorem SEq.refl {s : S} : SEq s s := ⟨fun _ => rfl, fun _ => rfl, fun _ => rfl⟩
theorem SEq.symm {s s2 : S} (h : SEq s s2) : SEq s2 s := ⟨fun t => (h.slots t).symm, fun t => (h.boxes t).symm, fun t => (h.live t).symm⟩
theorem SEq.trans {s s2 s3 : S} (h : SEq s s2) (k : SEq s2 s3) : SEq s s3 := ⟨fun t => (k.slots t).trans (h.slots t), fun t => (k.boxes t).trans (h.boxes t), fun t => (k.live t).trans (h.live t)⟩
theorem SEq.agr {s s2 : S} (h : SEq s s2) {l lb : List Nat} {ap : Bool} : Agr l lb ap s s2 :=
  ⟨fun t _ => h.slots t, fun t _ b off x _ hb => by rw [h.boxes]; exact hb, fun _ t _ a q e _ hq => by rw [h.live]; exact hq⟩
theorem SEq.put {s s2 : S} (h : SEq s s2) (d : Option Nat) (v : SV) : SEq (s.put d v) (s2.put d v) :=
  ⟨fun t => by rw [lk_put, lk_put, h.slots], fun b => by rw [put_boxes, put_boxes]; exact h.boxes b, fun b => by rw [put_live, put_live]; exact h.live b⟩
theorem setBs_congr : ∀ {ids : List Nat} {css : List (List AV)} {l l2 : List (Nat × Box)}, (∀ b, lkB b l2 = lkB b l) → ∀ b, lkB b (setBs ids css l2) = lkB b (setBs ids css l)
  | [], css, l, l2, h, b => by cases css <;> exact h b
  | i :: ids, [], l, l2, h, b => h b
  | i :: ids, cs :: css, l, l2, h, b => by
    simp only [setBs]
    exact setBs_congr (fun b => by simp only [lkB_setB', h]) b
theorem SEq.frzs {ids : List Nat} : ∀ {css : List (List AV)} {s s2 : S}, SEq s s2 → SEq (frzs ids css s) (frzs ids css s2) := by
  induction ids with
  | nil => intro css s s2 h; cases css <;> exact h
  | cons b ids ih =>
    intro css s s2 h
    cases css with
    | nil => exact h
    | cons cs css =>
      exact ih ⟨fun t => by simp only [lk_frzL, h.slots], fun c => by simp only [lkB_delB, h.boxes], h.live⟩
theorem SEq.app {s s2 : S} (h : SEq s s2) (d : Delta) (id : Nat) : SEq (d.app' id s) (d.app' id s2) := by
  cases d with
  | frz ids css => exact h.frzs
  | no => exact h
  | box b => exact ⟨h.slots, fun c => by simp only [Delta.app', lkB, h.boxes], h.live⟩
  | live e => exact ⟨h.slots, h.boxes, fun q => by simp only [Delta.app', lkN, h.live]⟩
  | app q0 e => exact ⟨h.slots, h.boxes, fun q => by simp only [Delta.app', lkN, h.live, lkN_delN']⟩
  | st b x => exact ⟨h.slots, fun c => by simp only [Delta.app', h.boxes, lkB_setB'], h.live⟩
  | calls ids css fr => exact ⟨h.slots, setBs_congr h.boxes, fun q => by cases fr <;> simp only [Delta.app', lkN, h.live]⟩
theorem SEq.inU {s s2 : S} (h : SEq s s2) {U : Nat → Prop} (hs : s.inU U) : s2.inU U :=
  ⟨fun t v hv => hs.slots t v (by rw [← h.slots]; exact hv), fun b x hb => hs.boxes b x (by rw [← h.boxes]; exact hb), fun q e hq => hs.live q e (by rw [← h.live]; exact hq)⟩
def Does (C : Con) (id : Nat) (o : CO) (s : S) (v : SV) (d : Delta) : Prop :=
  (d.ok o.op s ∧ FromP id o.op s v) ∧ ∀ s2, Agr o.rd o.op.rdB o.op.isApp s s2 → ∀ K', K' ((d.app' id s2).put o.dst v) → astep C id o K' s2
theorem inU_put {s : S} {U : Nat → Prop} (h : s.inU U) {d : Option Nat} {v : SV} (hv : v.inU U) : (s.put d v).inU U := by
  refine ⟨fun t u hu => ?_, fun b x hb => h.boxes b x (by rwa [put_boxes] at hb), fun q e hq => h.live q e (by rwa [put_live] at hq)⟩
  rw [lk_put] at hu
  split at hu
  · cases hu; exact hv
  · exact h.slots t u hu
theorem inU_sub {s : S} {U U' : Nat → Prop} (hU : ∀ n, U n → U' n) (h : s.inU U) : s.inU U' :=
  ⟨fun t v hv => SV.inU_mono hU (h.slots t v hv), fun b x hb => ⟨hU _ (h.boxes b x hb).1, fun o q hq => hU _ ((h.boxes b x hb).2 o q hq)⟩, fun q e hq => hU _ (h.live q e hq)⟩
theorem setBs_inU : ∀ {ids : List Nat} {css : List (List AV)} {l : List (Nat × Box)} {U : Nat → Prop}, (∀ b x, lkB b l = some x → U b ∧ x.inU U) → (∀ b ∈ ids, U b) → ∀ b x, lkB b (setBs ids css l) = some x → U b ∧ x.inU U
  | [], css, l, U, h, hi, b, x, hb => by cases css <;> exact h b x hb
  | i :: ids, [], l, U, h, hi, b, x, hb => h b x hb
  | i :: ids, cs :: css, l, U, h, hi, b, x, hb => by
    simp only [setBs] at hb
    refine setBs_inU (fun b x hx => ?_) (fun b hb => hi b (List.mem_cons_of_mem _ hb)) b x hb
    rw [lkB_setB'] at hx
    split at hx
    · rename_i e
      cases hl : lkB i l with
      | none => simp [hl] at hx
      | some y =>
        simp [hl] at hx; subst hx
        exact ⟨e ▸ hi i (List.mem_cons_self ..), fun o q hq => by cases hq⟩
    · exact h b x hx
theorem frzs_inU {ids : List Nat} {U : Nat → Prop} : ∀ {css : List (List AV)} {s : S}, s.inU U → (frzs ids css s).inU U := by
  induction ids with
  | nil => intro css s h; cases css <;> exact h
  | cons b ids ih =>
    intro css s h
    cases css with
    | nil => exact h
    | cons cs css =>
      refine ih ⟨fun t v hv => ?_, fun c x hc => ?_, h.live⟩
      · simp only [lk_frzL, Option.map_eq_some_iff] at hv
        obtain ⟨u, hu, rfl⟩ := hv
        have hi := h.slots t u hu
        cases u with
        | ptr c o =>
          simp only [frzV, cbeq]
          split
          · trivial
          · exact hi
        | dat a q => exact hi
        | rp cs => exact hi
        | undef => exact hi
        | vs _ _ _ _ => exact hi
      · simp only [lkB_delB] at hc
        split at hc
        · cases hc
        · exact h.boxes c x hc
theorem inU_app {s : S} {U : Nat → Prop} (h : s.inU U) {d : Delta} {id : Nat} (hd : d.inU U) : (d.app' id s).inU (also U id) := by
  have h' : s.inU (also U id) := inU_sub (fun n hn => .inl hn) h
  cases d with
  | no => exact h'
  | frz ids css => exact frzs_inU h'
  | box b =>
    refine ⟨h'.slots, fun b' x hb => ?_, h'.live⟩
    simp only [Delta.app', lkB] at hb
    by_cases he : b' = id
    · subst he
      simp at hb; subst hb
      exact ⟨.inr rfl, fun o q hq => .inl (hd o q hq)⟩
    · have he' : (b' == id) = false := by simpa using he
      rw [he'] at hb; exact h'.boxes b' x hb
  | live e =>
    refine ⟨h'.slots, h'.boxes, fun q e' hq => ?_⟩
    simp only [Delta.app', lkN] at hq
    by_cases he : q = id
    · subst he; exact .inr rfl
    · have he' : (q == id) = false := by simpa using he
      rw [he'] at hq; exact h'.live q e' hq
  | app q0 e =>
    refine ⟨h'.slots, h'.boxes, fun q e' hq => ?_⟩
    simp only [Delta.app', lkN] at hq
    by_cases he : q = id
    · subst he; exact .inr rfl
    · have he' : (q == id) = false := by simpa using he
      rw [he', lkN_delN'] at hq
      simp only [cond_false] at hq
      split at hq
      · cases hq
      · exact h'.live q e' hq
  | st b0 x0 =>
    refine ⟨h'.slots, fun b x hb => ?_, h'.live⟩
    simp only [Delta.app', lkB_setB'] at hb
    split at hb
    · rename_i he
      cases hl : lkB b0 s.boxes with
      | none => simp [hl] at hb
      | some y =>
        simp [hl] at hb; subst hb
        exact ⟨.inl (he ▸ hd.1), fun o q hq => .inl (hd.2 o q hq)⟩
    · exact h'.boxes b x hb
  | calls ids css fr =>
    refine ⟨h'.slots, setBs_inU h'.boxes (fun b hb => .inl (hd b hb)), fun q e' hq => ?_⟩
    cases fr with
    | none => exact h'.live q e' hq
    | some e =>
      simp only [Delta.app', lkN, cbeq] at hq
      split at hq
      · rename_i he; subst he; exact .inr rfl
      · exact h'.live q e' hq
section
variable {C : Con} {id : Nat} {o : CO} {K : S → Prop} {s : S}
theorem CO.rd_op {o : CO} {t : Nat} (h : t ∈ o.op.rd) : t ∈ o.rd := by simp [CO.rd, h]
theorem astep_path (h : astep C id o K s) : ∃ v d, Does C id o s v d ∧ K ((d.app' id s).put o.dst v) ∧ ∀ U, s.inU U → ((d.app' id s).put o.dst v).inU (also U id) := by
  have main : ∀ {K : S → Prop}, aop C id o.op (fun v s' => K (s'.put o.dst v)) s → ∃ (v : SV) (d : Delta), (d.ok o.op s ∧ FromP id o.op s v) ∧ (∀ s2, Agr o.rd o.op.rdB o.op.isApp s s2 → ∀ K' : S → Prop, K' ((d.app' id s2).put o.dst v) → aop C id o.op (fun v s' => K' (s'.put o.dst v)) s2) ∧ K ((d.app' id s).put o.dst v) ∧ ∀ U, s.inU U → ((d.app' id s).put o.dst v).inU (also U id) := by
    intro K h
    obtain ⟨v, d, hK, hok, hU, hfp, hs⟩ := aop_path h
    exact ⟨v, d, ⟨hok, hfp⟩, fun s2 ag K' hk => hs s2 (ag.sub fun t ht => CO.rd_op ht) _ hk, hK, fun U hU' => inU_put (inU_app hU' (hU U hU').2) (hU U hU').1⟩
  have skip : K (s.put o.dst .undef) → (∀ s2, Agr o.rd o.op.rdB o.op.isApp s s2 → ∀ K', K' (s2.put o.dst .undef) → astep C id o K' s2) → ∃ v d, Does C id o s v d ∧ K ((d.app' id s).put o.dst v) ∧ ∀ U, s.inU U → ((d.app' id s).put o.dst v).inU (also U id) := by
    intro hK hs
    exact ⟨.undef, .no, ⟨⟨trivial, .undef⟩, hs⟩, hK, fun U hU => inU_put (inU_sub (fun n h => .inl h) hU) trivial⟩
  unfold astep aguard at h
  cases hg : o.g with
  | none =>
    simp only [hg] at h
    obtain ⟨v, d, h1, h2, h3, h4⟩ := main h
    exact ⟨v, d, ⟨h1, fun s2 ag K' hk => by unfold astep aguard; simp only [hg]; exact h2 s2 ag K' hk⟩, h3, h4⟩
  | some p =>
    obtain ⟨t, want⟩ := p
    have htm : t ∈ o.rd := by simp [CO.rd, hg]
    simp only [hg] at h
    cases hl : lk t s.slots with
    | none => simp [hl] at h
    | some v =>
      have hl2 : ∀ s2, Agr o.rd o.op.rdB o.op.isApp s s2 → lk t s2.slots = some v := fun s2 ag => by rw [ag.slots t htm, hl]
      simp only [hl] at h
      cases v with
      | ptr b o => exact h.elim
      | rp cs => exact h.elim
      | vs _ _ _ _ => exact h.elim
      | undef => exact skip h fun s2 ag K' hk => by unfold astep aguard; simp only [hg, hl2 s2 ag]; exact hk
      | dat a q =>
        cases a <;> try (exact h.elim)
        rename_i b
        by_cases hb : b = want
        · obtain ⟨v, d, h1, h2, h3, h4⟩ := main (h.1 hb)
          exact ⟨v, d, ⟨h1, fun s2 ag K' hk => by
            unfold astep aguard; simp only [hg, hl2 s2 ag]
            exact ⟨fun _ => h2 s2 ag K' hk, fun hn => by subst hb; cases b <;> cases hn⟩⟩, h3, h4⟩
        · have hb' : b = !want := by cases b <;> cases want <;> simp_all
          exact skip (h.2 hb') fun s2 ag K' hk => by
            unfold astep aguard; simp only [hg, hl2 s2 ag]
            exact ⟨fun e => absurd e hb, fun _ => hk⟩
end
structure EB (α : Type) where
  tgt : Nat
  g : Option α → Option α
def EB.ap {α : Type} (e : EB α) (f : Nat → Option α) : Nat → Option α := fun c => if c = e.tgt then e.g (f c) else f c
def apE {α : Type} (l : List (EB α)) (f : Nat → Option α) : Nat → Option α := l.foldl (fun f e => e.ap f) f
theorem EB.comm {α : Type} {e e' : EB α} (h : e.tgt ≠ e'.tgt) (f : Nat → Option α) : e.ap (e'.ap f) = e'.ap (e.ap f) := by
  funext c
  simp only [EB.ap]
  by_cases h1 : c = e.tgt
  · have h2 : c ≠ e'.tgt := fun e2 => h (h1.symm.trans e2)
    simp [h1, h2]
    have : ¬ e.tgt = e'.tgt := h
    simp [this]
  · simp [h1]
theorem apE_comm1 {α : Type} {e : EB α} : ∀ {l : List (EB α)} {f : Nat → Option α}, (∀ e' ∈ l, e.tgt ≠ e'.tgt) → apE l (e.ap f) = e.ap (apE l f)
  | [], f, _ => rfl
  | a :: l, f, h => by
    show apE l (a.ap (e.ap f)) = e.ap (apE l (a.ap f))
    rw [← EB.comm (h a List.mem_cons_self)]
    exact apE_comm1 fun e' he' => h e' (List.mem_cons_of_mem _ he')
theorem apE_comm {α : Type} {l' : List (EB α)} : ∀ {l : List (EB α)} {f : Nat → Option α}, (∀ e ∈ l, ∀ e' ∈ l', e.tgt ≠ e'.tgt) → apE l (apE l' f) = apE l' (apE l f)
  | [], f, _ => rfl
  | e :: l, f, h => by
    show apE l (e.ap (apE l' f)) = apE l' (apE l (e.ap f))
    rw [← apE_comm1 (h e List.mem_cons_self)]
    exact apE_comm fun a ha => h a (List.mem_cons_of_mem _ ha)
theorem apE_other {α : Type} {c : Nat} : ∀ {l : List (EB α)} {f : Nat → Option α}, (∀ e ∈ l, e.tgt ≠ c) → apE l f c = f c
  | [], f, _ => rfl
  | e :: l, f, h => by
    show apE l (e.ap f) c = f c
    rw [apE_other fun a ha => h a (List.mem_cons_of_mem _ ha)]
    exact if_neg (fun e2 => h e List.mem_cons_self e2.symm)
def wB : Delta → List Nat
  | .st b _ => [b]
  | .calls ids _ _ => ids
  | .frz ids _ => ids
  | _ => []
def eB (d : Delta) (id : Nat) : List (EB Box) :=
  match d with
  | .box b => [⟨id, fun _ => some b⟩]
  | .st b x => [⟨b, Option.map fun _ => x⟩]
  | .calls ids css _ => (ids.zip css).map fun p => ⟨p.1, Option.map fun _ => ⟨p.2, []⟩⟩
  | .frz ids css => (ids.zip css).map fun p => ⟨p.1, fun _ => none⟩
  | _ => []
def eL (d : Delta) (id : Nat) : List (EB Nat) :=
  match d with
  | .live e => [⟨id, fun _ => some e⟩]
  | .app q e => [⟨q, fun _ => none⟩, ⟨id, fun _ => some e⟩]
  | .calls _ _ (some e) => [⟨id, fun _ => some e⟩]
  | _ => []
def fz (d : Delta) : SV → SV :=
  match d with
  | .frz ids css => fun v => (ids.zip css).foldl (fun v p => frzV p.1 p.2 v) v
  | _ => fun v => v
theorem setBs_apE : ∀ {ids : List Nat} {css : List (List AV)} {l : List (Nat × Box)}, (fun b => lkB b (setBs ids css l)) = apE ((ids.zip css).map fun p => (⟨p.1, Option.map fun _ => ⟨p.2, []⟩⟩ : EB Box)) (fun b => lkB b l)
  | [], css, l => by cases css <;> rfl
  | i :: ids, [], l => rfl
  | i :: ids, cs :: css, l => by
    show (fun b => lkB b (setBs ids css (setB i ⟨cs, []⟩ l))) = _
    rw [setBs_apE (ids := ids) (css := css)]
    refine congrArg (apE _) (funext fun b => ?_)
    rw [lkB_setB']
    show _ = if b = i then _ else _
    split
    · rename_i e; subst e; rfl
    · rfl
theorem frzs_apE : ∀ {ids : List Nat} {css : List (List AV)} {s : S}, (fun b => lkB b (frzs ids css s).boxes) = apE ((ids.zip css).map fun p => (⟨p.1, fun _ => none⟩ : EB Box)) (fun b => lkB b s.boxes)
  | [], css, s => by cases css <;> rfl
  | i :: ids, [], s => rfl
  | i :: ids, cs :: css, s => by
    show (fun b => lkB b (frzs ids css { s with slots := frzL i cs s.slots, boxes := delB i s.boxes }).boxes) = _
    rw [frzs_apE (ids := ids) (css := css)]
    refine congrArg (apE _) (funext fun b => ?_)
    rw [lkB_delB]
    rfl
theorem frzs_slots : ∀ {ids : List Nat} {css : List (List AV)} {s : S} (t : Nat), lk t (frzs ids css s).slots = (lk t s.slots).map fun v => (ids.zip css).foldl (fun v p => frzV p.1 p.2 v) v
  | [], css, s, t => by cases css <;> simp [frzs]
  | i :: ids, [], s, t => by simp [frzs]
  | i :: ids, cs :: css, s, t => by
    show lk t (frzs ids css { s with slots := frzL i cs s.slots, boxes := delB i s.boxes }).slots = _
    rw [frzs_slots (ids := ids) (css := css) t, lk_frzL, Option.map_map]
    rfl
theorem app_boxes' (d : Delta) (id : Nat) (s : S) : (fun b => lkB b (d.app' id s).boxes) = apE (eB d id) (fun b => lkB b s.boxes) := by
  cases d with
  | box b => funext c; simp only [Delta.app', lkB, cbeq]; show _ = if c = id then _ else _; rfl
  | st b x =>
    funext c; simp only [Delta.app', lkB_setB']
    show _ = if c = b then _ else _
    split
    · rename_i e; subst e; rfl
    · rfl
  | calls ids css fr => exact setBs_apE
  | frz ids css => exact frzs_apE
  | _ => rfl
theorem app_live' (d : Delta) (id : Nat) (s : S) : (fun b => lkN b (d.app' id s).live) = apE (eL d id) (fun b => lkN b s.live) := by
  cases d with
  | live e => funext c; simp only [Delta.app', lkN, cbeq]; rfl
  | app q e => funext c; simp only [Delta.app', lkN, cbeq, lkN_delN']; show _ = if c = id then _ else if c = q then _ else _; rfl
  | calls ids css fr => cases fr with
    | none => rfl
    | some e => funext c; simp only [Delta.app', lkN, cbeq]; rfl
  | frz ids css => simp only [Delta.app', frzs_live]; rfl
  | _ => rfl
theorem app_slots' (d : Delta) (id : Nat) (s : S) (t : Nat) : lk t (d.app' id s).slots = (lk t s.slots).map (fz d) := by
  cases d with
  | frz ids css => exact frzs_slots t
  | _ => simp [Delta.app', fz]
theorem eB_tgt {d : Delta} {id : Nat} {e : EB Box} (h : e ∈ eB d id) : e.tgt = id ∨ e.tgt ∈ wB d := by
  cases d with
  | box b => simp [eB] at h; subst h; exact .inl rfl
  | st b x => simp [eB] at h; subst h; exact .inr (by simp [wB])
  | calls ids css fr =>
    simp only [eB, List.mem_map] at h
    obtain ⟨p, hm, rfl⟩ := h; exact .inr (List.of_mem_zip hm).1
  | frz ids css =>
    simp only [eB, List.mem_map] at h
    obtain ⟨p, hm, rfl⟩ := h; exact .inr (List.of_mem_zip hm).1
  | _ => simp [eB] at h
theorem frz_fold : ∀ {l : List (Nat × List AV)} {v : SV}, l.foldl (fun v p => frzV p.1 p.2 v) v = v ∨ ∃ cs b o, v = .ptr b o ∧ b ∈ l.map (·.1) ∧ l.foldl (fun v p => frzV p.1 p.2 v) v = .rp cs
  | [], v => .inl rfl
  | p :: l, v => by
    simp only [List.foldl_cons]
    cases v with
    | ptr b o =>
      by_cases e : b = p.1
      · refine .inr ⟨p.2.drop o, b, o, rfl, by simp [e], ?_⟩
        have : frzV p.1 p.2 (.ptr b o) = .rp (p.2.drop o) := by simp [frzV, e]
        rw [this]
        rcases frz_fold (l := l) (v := .rp (p.2.drop o)) with h | ⟨_, _, _, h, _⟩
        · exact h
        · cases h
      · have : frzV p.1 p.2 (.ptr b o) = .ptr b o := by have e' : (b == p.1) = false := by simpa using e
                                                        simp [frzV, e']
        rw [this]
        rcases frz_fold (l := l) (v := .ptr b o) with h | ⟨cs, b', o', h, hm, h2⟩
        · exact .inl h
        · cases h; exact .inr ⟨cs, b, o, rfl, List.mem_cons_of_mem _ hm, h2⟩
    | _ =>
      show l.foldl _ _ = _ ∨ _
      rcases frz_fold (l := l) (v := _) with h | ⟨_, _, _, h, _⟩
      · exact .inl h
      · cases h
theorem fz_shape (d : Delta) (v : SV) : fz d v = v ∨ ∃ cs b o ids css, d = .frz ids css ∧ v = .ptr b o ∧ b ∈ wB d ∧ fz d v = .rp cs := by
  cases d with
  | frz ids css =>
    rcases frz_fold (l := ids.zip css) (v := v) with h | ⟨cs, b, o, h1, h2, h3⟩
    · exact .inl h
    · refine .inr ⟨cs, b, o, ids, css, rfl, h1, ?_, h3⟩
      obtain ⟨p, hp, rfl⟩ := List.mem_map.1 h2
      exact (List.of_mem_zip hp).1
  | _ => exact .inl rfl
theorem fz_rp (d : Delta) (cs : List AV) : fz d (.rp cs) = .rp cs := by
  rcases fz_shape d (.rp cs) with h | ⟨_, _, _, _, _, _, h, _⟩
  · exact h
  · cases h
theorem fz_comm {dx dy : Delta} (hd : ∀ b ∈ wB dx, b ∉ wB dy) (v : SV) : fz dy (fz dx v) = fz dx (fz dy v) := by
  rcases fz_shape dx v with h | ⟨cs, b, o, _, _, _, rfl, hb, h⟩
  · rw [h]
    rcases fz_shape dy v with k | ⟨cs', b', o', _, _, _, rfl, hb', k⟩
    · rw [k, h]
    · rw [k, fz_rp]
  · rcases fz_shape dy (.ptr b o) with k | ⟨cs', b', o', _, _, _, e, hb', k⟩
    · rw [k, h, fz_rp]
    · cases e; exact absurd hb' (hd b hb)
def isFrzD : Delta → Bool
  | .frz _ _ => true
  | _ => false
theorem wB_src {C : Con} {id : Nat} {o : CO} {s : S} {v : SV} {d : Delta} (h : Does C id o s v d) : ∀ b ∈ wB d, ∃ t ∈ o.op.wrB, ∃ off, lk t s.slots = some (.ptr b off) := by
  intro b hb
  have h := h.1.1
  cases d <;> simp [wB] at hb
  · subst hb; exact h.2
  · exact h.2 b hb
  · exact h.2 b hb
theorem frz_src {C : Con} {id : Nat} {o : CO} {s : S} {v : SV} {d : Delta} (h : Does C id o s v d) (hf : isFrzD d = true) : o.op.isFrz = true := by
  have h := h.1.1
  cases d <;> first | (cases hf; done) | exact h.1
theorem wrB_rdB {o : COp} {t : Nat} (h : t ∈ o.wrB) : t ∈ o.rdB := by cases o <;> first | exact h | (simp [COp.wrB] at h; done)
theorem rdB_rd {o : COp} {t : Nat} (h : t ∈ o.rdB) : t ∈ o.rd := by cases o <;> simp [COp.rdB] at h <;> simp [COp.rd, h]
theorem ptrSrc_rd {o : COp} {t : Nat} (h : t ∈ o.ptrSrc) : t ∈ o.rd := by
  cases o <;> simp [COp.ptrSrc] at h <;> first | (simp [COp.rd, h]; done) | (rcases h with h | h <;> simp [COp.rd, h])
def Clear (x y : CO) (s : S) : Prop := ∀ b, (∃ t ∈ x.op.wrB, ∃ off, lk t s.slots = some (.ptr b off)) →
  (∀ t ∈ y.op.rdB, ∀ off, lk t s.slots ≠ some (.ptr b off)) ∧ (x.op.isFrz = true → ∀ t ∈ y.rd, ∀ off, lk t s.slots ≠ some (.ptr b off))
theorem indep_spec {x y : CO} (h : x.indep y = true) : (∀ d, x.dst = some d → d ∉ y.rd ∧ y.dst ≠ some d) ∧ (∀ d, y.dst = some d → d ∉ x.rd) ∧ (x.op.isApp = true → y.op.isApp = false) := by
  unfold CO.indep at h
  simp only [Bool.and_eq_true, Bool.not_eq_true'] at h
  obtain ⟨⟨h1, h2⟩, h5⟩ := h
  refine ⟨fun d hd => ?_, fun d hd => ?_, fun hx => ?_⟩
  · rw [hd] at h1
    simp at h1
    exact ⟨h1.1, h1.2⟩
  · rw [hd] at h2
    simpa using h2
  · rw [hx] at h5
    simpa using h5
theorem commute {C : Con} {x y : CO} (hap : x.indep y = true) {U : Nat → Prop} {s : S} (hU : s.inU U) {i j : Nat} (hi : ¬ U i) (hj : ¬ U j) (hij : i ≠ j) (cx : Clear x y s) (cy : Clear y x s)
    {vx vy : SV} {dx dy : Delta} (hx : Does C i x s vx dx) (hy : Does C j y ((dx.app' i s).put x.dst vx) vy dy) :
    Agr y.rd y.op.rdB y.op.isApp ((dx.app' i s).put x.dst vx) s ∧ Agr x.rd x.op.rdB x.op.isApp s ((dy.app' j s).put y.dst vy) ∧
      SEq ((dy.app' j ((dx.app' i s).put x.dst vx)).put y.dst vy) ((dx.app' i ((dy.app' j s).put y.dst vy)).put x.dst vx) := by
  obtain ⟨h1, h2, h5⟩ := indep_spec hap
  have wx := wB_src hx
  have wxU : ∀ b ∈ wB dx, U b := fun b hb => by obtain ⟨t, _, off, hl⟩ := wx b hb; exact hU.slots t _ hl
  -- what y looks at
  have sy : ∀ t ∈ y.rd, lk t ((dx.app' i s).put x.dst vx).slots = lk t s.slots := fun t ht => by
    rw [lk_put, if_neg (fun e => (h1 t e).1 ht), app_slots']
    cases hl : lk t s.slots with
    | none => rfl
    | some v =>
      simp only [Option.map_some]
      rcases fz_shape dx v with h | ⟨cs, b, o, ids, css, hd, rfl, hb, h⟩
      · rw [h]
      · exact absurd hl ((cx b (wx b hb)).2 (frz_src hx (by rw [hd]; rfl)) t ht o)
  have wy : ∀ b ∈ wB dy, ∃ t ∈ y.op.wrB, ∃ off, lk t s.slots = some (.ptr b off) := fun b hb => by
    obtain ⟨t, ht, off, hl⟩ := wB_src hy b hb
    rw [sy t (CO.rd_op (rdB_rd (wrB_rdB ht)))] at hl
    exact ⟨t, ht, off, hl⟩
  have wyU : ∀ b ∈ wB dy, U b := fun b hb => by obtain ⟨t, _, off, hl⟩ := wy b hb; exact hU.slots t _ hl
  have hdis : ∀ b ∈ wB dx, b ∉ wB dy := fun b hb hb' => by
    obtain ⟨t, ht, off, hl⟩ := wy b hb'
    exact (cx b (wx b hb)).1 t (wrB_rdB ht) off hl
  have sx : ∀ t ∈ x.rd, lk t ((dy.app' j s).put y.dst vy).slots = lk t s.slots := fun t ht => by
    rw [lk_put, if_neg (fun e => h2 t e ht), app_slots']
    cases hl : lk t s.slots with
    | none => rfl
    | some v =>
      simp only [Option.map_some]
      rcases fz_shape dy v with h | ⟨cs, b, o, ids, css, hd, rfl, hb, h⟩
      · rw [h]
      · exact absurd hl ((cy b (wy b hb)).2 (frz_src hy (by rw [hd]; rfl)) t ht o)
  -- tokens
  have tx : ∀ q0 e, dx = .app q0 e → U q0 ∧ x.op.isApp = true := fun q0 e hd => by
    have := hx.1.1; rw [hd] at this
    obtain ⟨h, t, ht, a, hl⟩ := this
    exact ⟨hU.slots t _ hl, h⟩
  have ty : ∀ q0 e, dy = .app q0 e → U q0 ∧ y.op.isApp = true := fun q0 e hd => by
    have := hy.1.1; rw [hd] at this
    obtain ⟨h, t, ht, a, hl⟩ := this
    rw [sy t (CO.rd_op ht)] at hl
    exact ⟨hU.slots t _ hl, h⟩
  have lx : ∀ e ∈ eL dx i, e.tgt = i ∨ (U e.tgt ∧ x.op.isApp = true) := fun e he => by
    cases hdx : dx <;> rw [hdx] at he <;> simp [eL] at he
    · subst he; exact .inl rfl
    · rcases he with rfl | rfl
      · exact .inr (tx _ _ hdx)
      · exact .inl rfl
    · rename_i fr; cases fr <;> simp at he; subst he; exact .inl rfl
  have ly : ∀ e ∈ eL dy j, e.tgt = j ∨ (U e.tgt ∧ y.op.isApp = true) := fun e he => by
    cases hdy : dy <;> rw [hdy] at he <;> simp [eL] at he
    · subst he; exact .inl rfl
    · rcases he with rfl | rfl
      · exact .inr (ty _ _ hdy)
      · exact .inl rfl
    · rename_i fr; cases fr <;> simp at he; subst he; exact .inl rfl
  have bxs : ∀ (d : Delta) (id : Nat) (s : S) (b : Nat), lkB b (d.app' id s).boxes = apE (eB d id) (fun b => lkB b s.boxes) b := fun d id s b => congrFun (app_boxes' d id s) b
  have lvs : ∀ (d : Delta) (id : Nat) (s : S) (b : Nat), lkN b (d.app' id s).live = apE (eL d id) (fun b => lkN b s.live) b := fun d id s b => congrFun (app_live' d id s) b
  refine ⟨⟨fun t ht => (sy t ht).symm, fun t ht b off z hv hb => ?_, fun hap' t ht a q e hv hq => ?_⟩, ⟨sx, fun t ht b off z hv hb => ?_, fun hap' t ht a q e hv hq => ?_⟩, ?_⟩
  · rw [sy t (CO.rd_op (rdB_rd ht))] at hv
    have hUb : U b := hU.slots t _ hv
    rw [put_boxes, bxs, apE_other] at hb
    · exact hb
    · intro e he hee
      rcases eB_tgt he with h | h
      · exact hi (by rw [← h, hee]; exact hUb)
      · exact (cx _ (wx _ h)).1 t ht off (by rw [hee]; exact hv)
  · rw [sy t ht] at hv
    have hUq : U q := hU.slots t _ hv
    rw [put_live, lvs, apE_other] at hq
    · exact hq
    · intro e he hee
      rcases lx e he with h | ⟨_, h⟩
      · exact hi (by rw [← h, hee]; exact hUq)
      · have := h5 h; rw [hap'] at this; cases this
  · have hUb : U b := hU.slots t _ hv
    rw [put_boxes, bxs, apE_other]
    · exact hb
    · intro e he hee
      rcases eB_tgt he with h | h
      · exact hj (by rw [← h, hee]; exact hUb)
      · exact (cy _ (wy _ h)).1 t ht off (by rw [hee]; exact hv)
  · have hUq : U q := hU.slots t _ hv
    rw [put_live, lvs, apE_other]
    · exact hq
    · intro e he hee
      rcases ly e he with h | ⟨_, h⟩
      · exact hj (by rw [← h, hee]; exact hUq)
      · have := h5 hap'; rw [h] at this; cases this
  · have vxs : fz dy vx = vx := by
      rcases fz_shape dy vx with h | ⟨cs, b, o, ids, css, hd, hv, hb, h⟩
      · exact h
      · exfalso
        rcases hx.1.2 b o hv with ⟨rfl, _⟩ | ⟨t, ht, off, hl⟩
        · exact hi (wyU _ hb)
        · exact (cy b (wy b hb)).2 (frz_src hy (by rw [hd]; rfl)) t (CO.rd_op (ptrSrc_rd ht)) off hl
    have vys : fz dx vy = vy := by
      rcases fz_shape dx vy with h | ⟨cs, b, o, ids, css, hd, hv, hb, h⟩
      · exact h
      · exfalso
        rcases hy.1.2 b o hv with ⟨rfl, _⟩ | ⟨t, ht, off, hl⟩
        · exact hj (wxU _ hb)
        · rw [sy t (CO.rd_op (ptrSrc_rd ht))] at hl
          exact (cx b (wx b hb)).2 (frz_src hx (by rw [hd]; rfl)) t (CO.rd_op (ptrSrc_rd ht)) off hl
    refine ⟨fun t => ?_, fun b => ?_, fun q => ?_⟩
    · simp only [lk_put, app_slots']
      by_cases ex : x.dst = some t
      · have ey : y.dst ≠ some t := (h1 t ex).2
        simp [ex, ey, vxs]
      · by_cases ey : y.dst = some t
        · simp [ex, ey, vys]
        · simp only [ex, ey, if_false, Option.map_map]
          congr 1
          funext v
          exact (fz_comm hdis v).symm
    · rw [put_boxes, put_boxes, bxs, bxs]
      have e1 : (fun b => lkB b ((dx.app' i s).put x.dst vx).boxes) = apE (eB dx i) (fun b => lkB b s.boxes) := by rw [put_boxes]; exact app_boxes' dx i s
      have e2 : (fun b => lkB b ((dy.app' j s).put y.dst vy).boxes) = apE (eB dy j) (fun b => lkB b s.boxes) := by rw [put_boxes]; exact app_boxes' dy j s
      rw [e1, e2]
      refine congrFun (apE_comm (fun e he e' he' h => ?_)) b
      rcases eB_tgt he with k | k <;> rcases eB_tgt he' with k' | k'
      · exact hij (by rw [← k, ← k', h])
      · exact hi (wyU i (by rw [← k, h]; exact k'))
      · exact hj (wxU j (by rw [← k', ← h]; exact k))
      · exact hdis _ k (by rw [h]; exact k')
    · rw [put_live, put_live, lvs, lvs]
      have e1 : (fun b => lkN b ((dx.app' i s).put x.dst vx).live) = apE (eL dx i) (fun b => lkN b s.live) := by rw [put_live]; exact app_live' dx i s
      have e2 : (fun b => lkN b ((dy.app' j s).put y.dst vy).live) = apE (eL dy j) (fun b => lkN b s.live) := by rw [put_live]; exact app_live' dy j s
      rw [e1, e2]
      refine congrFun (apE_comm (fun e he e' he' h => ?_)) q
      rcases lx e he with k | ⟨k, kk⟩ <;> rcases ly e' he' with k' | ⟨k', kk'⟩
      · exact hij (by rw [← k, ← k', h])
      · exact hi (by rw [← k, h]; exact k')
      · exact hj (by rw [← k', ← h]; exact k)
      · have := h5 kk; rw [kk'] at this; cases this
end Go.Eng
namespace Go.Eng
set_option linter.unusedVariables false
set_option linter.unusedSimpArgs false
set_option linter.unnecessarySimpa false
open Go
set_option linter.unusedVariables false
set_option linter.unusedSimpArgs false
theorem getD_both {listed : Array Bool} {i : Nat} (h : listed.getD i true = false) : listed.getD i false = false := by
  rcases Nat.lt_or_ge i listed.size with h' | h'
  · simp [h'] at h ⊢; exact h
  · simp [Array.getElem?_eq_none h'] at h
theorem getD_in {listed : Array Bool} {i : Nat} (hi : i < listed.size) (h : listed.getD i false = false) : listed.getD i true = false := by
  simp [hi] at h ⊢; exact h
def aAny (C : Con) (base : Nat) (ops : Array Oper) (cos : List CO) (K : S → Prop) : Nat → Array Bool → S → Prop
  | 0, l, s => Region.ready .any ops l = [] ∧ K s
  | f + 1, l, s => (Region.ready .any ops l = [] → K s) ∧ ∀ i ∈ Region.ready .any ops l, ∃ o, cos[i]? = some o ∧ astep C (base + i) o (aAny C base ops cos K f (l.setIfInBounds i true)) s
def UL (base : Nat) (l : Array Bool) : Nat → Prop := fun n => n < base ∨ ∃ i, n = base + i ∧ l.getD i false = true
section
variable {C : Con} {base : Nat} {ops : Array Oper} {cos : List CO} {K : S → Prop}
theorem aAny_congr (hK : ∀ s s2, SEq s s2 → K s → K s2) : ∀ (f : Nat) (l : Array Bool) (s s2 : S), SEq s s2 → aAny C base ops cos K f l s → aAny C base ops cos K f l s2
  | 0, l, s, s2, he, h => ⟨h.1, hK _ _ he h.2⟩
  | f + 1, l, s, s2, he, h => ⟨fun h0 => hK _ _ he (h.1 h0), fun i hi => by
      obtain ⟨o, ho, hs⟩ := h.2 i hi
      refine ⟨o, ho, ?_⟩
      obtain ⟨v, d, hd, hk, _⟩ := astep_path hs
      exact hd.2 s2 he.agr _ (aAny_congr hK f _ _ _ ((he.app d _).put _ _) hk)⟩
theorem UL_not {l : Array Bool} {i : Nat} (h : l.getD i true = false) : ¬ UL base l (base + i) := by
  rintro (h' | ⟨k, hk, hl⟩)
  · omega
  · have : k = i := by omega
    subst this
    rw [getD_both h] at hl
    cases hl
theorem UL_set {l : Array Bool} {i : Nat} (hi : i < l.size) {n : Nat} (h : also (UL base l) (base + i) n) : UL base (l.setIfInBounds i true) n := by
  rcases h with (h | ⟨k, hk, hl⟩) | h
  · exact .inl h
  · exact .inr ⟨k, hk, getD_set_true hl⟩
  · exact .inr ⟨i, h, by simp [hi]⟩
theorem lt_of_ready {md : Region.Mode} {l : Array Bool} {i : Nat} (h : i ∈ Region.ready md ops l) : i < l.size := by
  have h0 := (mem_ready.1 h).1
  rcases Nat.lt_or_ge i l.size with h' | h'
  · exact h'
  · simp [Array.getElem?_eq_none h'] at h0
def Closed (ops : Array Oper) (l : Array Bool) : Prop := ∀ k ok, ops[k]? = some ok → l.getD k false = true → ∀ e ∈ ok.after, Region.binds .any e = true → l.getD e.on false = true
theorem Closed.set {l : Array Bool} (h : Closed ops l) {i : Nat} (hi : i ∈ Region.ready .any ops l) : Closed ops (l.setIfInBounds i true) := by
  obtain ⟨_, oi, hoi, hall⟩ := mem_ready.1 hi
  intro k ok hk hl e he hb
  by_cases hik : i = k
  · subst hik
    have : ok = oi := Option.some.inj (hk.symm.trans hoi)
    subst this
    exact getD_set_true (hall e he hb)
  · rw [getD_set_ne false hik] at hl
    exact getD_set_true (h k ok hk hl e he hb)
theorem waits_not {l : Array Bool} (hc : Closed ops l) {i j : Nat} (hi : l.getD i true = false) (hj : j ∈ Region.ready .any ops l) {oj : Oper} (hoj : ops[j]? = some oj) :
    oj.after.any (fun e => Region.binds .any e && e.on == i) = false ∧ waits ops.toList i oj = false := by
  obtain ⟨_, oj', hoj', hall⟩ := mem_ready.1 hj
  have : oj' = oj := Option.some.inj (hoj'.symm.trans hoj)
  subst this
  have hif := getD_both hi
  constructor
  · rw [Bool.eq_false_iff]
    intro h
    obtain ⟨e, he, hb⟩ := Array.any_eq_true'.1 h
    simp only [Bool.and_eq_true, beq_iff_eq] at hb
    have := hall e he hb.1
    rw [hb.2, hif] at this; cases this
  · rw [Bool.eq_false_iff]
    intro h
    obtain ⟨e, he, hb⟩ := Array.any_eq_true'.1 h
    simp only [Bool.and_eq_true, Bool.or_eq_true, beq_iff_eq] at hb
    have h1 := hall e he hb.1
    rcases hb.2 with h2 | h2
    · rw [h2, hif] at h1; cases h1
    · split at h2
      · rename_i ok hok
        obtain ⟨e', he', hb'⟩ := Array.any_eq_true'.1 h2
        simp only [Bool.and_eq_true, beq_iff_eq] at hb'
        have h3 := hc e.on ok (by simpa using hok) h1 e' he' hb'.1
        rw [hb'.2, hif] at h3; cases h3
      · cases h2
end
def Rooted (T : List (Nat × Tag)) (s : S) : Prop := ∀ t b off, lk t s.slots = some (.ptr b off) → (look T t).okT b = true
theorem rooted_step {C : Con} {T : List (Nat × Tag)} {id : Nat} {o : CO} {s : S} {v : SV} {d : Delta} (hd : Does C id o s v d) (hs : stepOk T id o = true) (hR : Rooted T s) : Rooted T ((d.app' id s).put o.dst v) := by
  intro t b off hl
  rw [lk_put] at hl
  split at hl
  · rename_i e
    cases hl
    unfold stepOk at hs
    rw [e] at hs
    simp only at hs
    cases hz : look T t with
    | none => rfl
    | some z =>
      rw [hz] at hs
      simp only at hs
      rcases hd.1.2 b off rfl with ⟨rfl, ha⟩ | ⟨u, hu, off', hlu⟩
      · rw [if_pos ha] at hs
        simpa [Tag.okT] using hs
      · have hna : ¬ o.op.isAl = true := fun ha => by
          revert hu ha; cases o.op <;> simp [COp.ptrSrc, COp.isAl]
        rw [if_neg hna] at hs
        have h1 := List.all_eq_true.1 hs u hu
        have h2 := hR u b off' hlu
        cases hzu : look T u with
        | none => rw [hzu] at h1; cases h1
        | some z' =>
          rw [hzu] at h1 h2
          simp only [Bool.or_eq_true, beq_iff_eq] at h1
          simp only [Tag.okT, beq_iff_eq] at h2 ⊢
          rcases h1 with h1 | h1
          · rw [h1] at h2; cases h2
          · rw [← h1]; exact h2
  · rw [app_slots'] at hl
    cases hv : lk t s.slots with
    | none => rw [hv] at hl; cases hl
    | some w =>
      rw [hv] at hl
      simp only [Option.map_some, Option.some.injEq] at hl
      rcases fz_shape d w with h | ⟨cs, b', o', _, _, _, _, _, h⟩
      · rw [h] at hl; subst hl; exact hR t b off hv
      · rw [h] at hl; cases hl
theorem dis_ok {z z' : Tag} {b : Nat} (h : z.dis z' = true) (h1 : z.okT b = true) (h2 : z'.okT b = true) : False := by
  cases z with
  | none => cases z' with
    | none => cases h
    | some z' => cases z' with
      | none => simp [Tag.okT] at h2
      | some b' => cases h
  | some z => cases z with
    | none => simp [Tag.okT] at h1
    | some a => cases z' with
      | none => cases h
      | some z' => cases z' with
        | none => simp [Tag.okT] at h2
        | some b' =>
          simp [Tag.okT] at h1 h2
          subst h1; subst h2
          simp [Tag.dis] at h
theorem clear_of {T : List (Nat × Tag)} {x y : CO} {s : S} (h : x.half T y = true) (hR : Rooted T s) : Clear x y s := by
  rintro b ⟨t, ht, off, hl⟩
  have h := List.all_eq_true.1 h t ht
  simp only [Bool.and_eq_true, Bool.or_eq_true, Bool.not_eq_true'] at h
  refine ⟨fun u hu off' hlu => ?_, fun hf u hu off' hlu => ?_⟩
  · exact dis_ok (List.all_eq_true.1 h.1 u hu) (hR t b off hl) (hR u b off' hlu)
  · rcases h.2 with h2 | h2
    · rw [hf] at h2; cases h2
    · exact dis_ok (List.all_eq_true.1 h2 u hu) (hR t b off hl) (hR u b off' hlu)
theorem half_mono {T : List (Nat × Tag)} {x y : CO} (h : x.half [] y = true) : x.half T y = true := by
  unfold CO.half at h ⊢
  rw [List.all_eq_true] at h ⊢
  intro t ht
  have h := h t ht
  simp only [Bool.and_eq_true, Bool.or_eq_true, List.all_eq_true] at h ⊢
  refine ⟨fun u hu => ?_, h.2.imp id fun h2 u hu => ?_⟩
  · have := h.1 u hu; cases this
  · have := h2 u hu; cases this
theorem apart_mono {T : List (Nat × Tag)} {x y : CO} (h : x.apart y = true) : x.apartT T y = true := by
  unfold CO.apart CO.apartT at *
  simp only [Bool.and_eq_true] at h ⊢
  exact ⟨⟨h.1.1, half_mono h.1.2⟩, half_mono h.2⟩
theorem badOk_spec {T : List (Nat × Tag)} {ops : List CO} {i j : Nat} {x y : CO} (hi : ops[i]? = some x) (hj : ops[j]? = some y) : ∀ {bad : List (Nat × Nat)}, badOk T ops bad = true → bad.contains (i, j) = true → x.apartT T y = true
  | [], _, h => by cases h
  | (k, l) :: r, h, hm => by
    simp only [badOk, Bool.and_eq_true] at h
    rw [List.contains_cons, Bool.or_eq_true] at hm
    rcases hm with hm | hm
    · have e : (i, j) = (k, l) := by simpa using hm
      cases e
      have := h.1
      rw [hi, hj] at this
      exact this
    · exact badOk_spec hi hj h.2 hm
theorem stepsOk_spec {T : List (Nat × Tag)} {base : Nat} : ∀ {l : List CO} {i : Nat}, stepsOk T base i l = true → ∀ (k : Nat) (o : CO), l[k]? = some o → stepOk T (base + (i + k)) o = true
  | [], i, h, k, o, hk => by simp at hk
  | a :: l, i, h, k, o, hk => by
    simp only [stepsOk, Bool.and_eq_true] at h
    cases k with
    | zero => simp at hk; subst hk; exact h.1
    | succ k =>
      have := stepsOk_spec h.2 k o (by simpa using hk)
      rw [show i + (k + 1) = i + 1 + k by omega]; exact this
theorem stepsOk_nil {base : Nat} : ∀ {l : List CO} {i : Nat}, stepsOk [] base i l = true
  | [], i => rfl
  | a :: l, i => by
    simp only [stepsOk, Bool.and_eq_true]
    refine ⟨?_, stepsOk_nil⟩
    unfold stepOk
    split <;> rfl
theorem entryOk_spec {T : List (Nat × Tag)} : ∀ {sl : List (Nat × SV)}, entryOk T sl = true → ∀ t b off, lk t sl = some (.ptr b off) → (look T t).okT b = true
  | [], _, t, b, off, hl => by cases hl
  | (m, v) :: r, h, t, b, off, hl => by
    simp only [lk, cbeq] at hl
    split at hl
    · rename_i e
      cases hl
      subst e
      simp only [entryOk, Bool.and_eq_true] at h
      exact h.1
    · refine entryOk_spec (sl := r) ?_ t b off hl
      cases v <;> first | exact h | (simp only [entryOk, Bool.and_eq_true] at h; exact h.2)
section
variable {C : Con} {base : Nat} {ops : Array Oper} {cos : List CO} {K : S → Prop} {T : List (Nat × Tag)}
theorem aAny_first (hT : ∀ k ok, cos[k]? = some ok → stepOk T (base + k) ok = true) (hK : ∀ s s2, SEq s s2 → K s → K s2) (hlen : cos.length = ops.size) {i : Nat} {oi : CO} (hi : cos[i]? = some oi) :
    ∀ (f : Nat) (l : Array Bool) (s : S),
      (∀ j pj oj, ops[j]? = some pj → cos[j]? = some oj → j ≠ i → l.getD j true = false → pj.after.any (fun e => Region.binds .any e && e.on == i) = false → waits ops.toList i pj = false → oi.apartT T oj = true) →
      Closed ops l → i ∈ Region.ready .any ops l → s.inU (UL base l) → Rooted T s → astep C (base + i) oi (aAny C base ops cos K f (l.setIfInBounds i true)) s → aAny C base ops cos K (f + 1) l s := by
  intro f
  induction f with
  | zero =>
    intro l s _ _ hr hU hR H
    refine ⟨fun h => (by rw [h] at hr; cases hr), fun j hj => ?_⟩
    by_cases hji : j = i
    · subst hji; exact ⟨oi, hi, H⟩
    · obtain ⟨v, d, hd, hk, _⟩ := astep_path H
      have := ready_mono hj hji
      rw [hk.1] at this
      cases this
  | succ f ih =>
    intro l s hfree hcl hr hU hR H
    refine ⟨fun h => (by rw [h] at hr; cases hr), fun j hj => ?_⟩
    by_cases hji : j = i
    · subst hji; exact ⟨oi, hi, H⟩
    · obtain ⟨vi, di, hdi, hki, hUi⟩ := astep_path H
      obtain ⟨oj, hoj, hsj⟩ := hki.2 j (ready_mono hj hji)
      obtain ⟨vj, dj, hdj, hkj, hUj⟩ := astep_path hsj
      have hjun := (mem_ready.1 hj).1
      have hiun := (mem_ready.1 hr).1
      obtain ⟨pj, hpj, _⟩ := (mem_ready.1 hj).2
      obtain ⟨w1, w2⟩ := waits_not hcl hiun hj hpj
      have hap := hfree j pj oj hpj hoj hji hjun w1 w2
      unfold CO.apartT at hap
      simp only [Bool.and_eq_true] at hap
      obtain ⟨a1, a2, a3⟩ := commute hap.1.1 hU (UL_not hiun) (UL_not hjun) (by omega) (clear_of hap.1.2 hR) (clear_of hap.2 hR) hdi hdj
      -- the state behind j
      have hsj0 : astep C (base + j) oj (fun s3 => s3 = (dj.app' (base + j) s).put oj.dst vj) s := hdj.2 s a1 _ rfl
      have hUj0 : ((dj.app' (base + j) s).put oj.dst vj).inU (UL base (l.setIfInBounds j true)) := by
        obtain ⟨v', d', _, hk', hU'⟩ := astep_path hsj0
        have := hU' _ hU
        rw [hk'] at this
        exact inU_sub (fun n hn => UL_set (lt_of_ready hj) hn) this
      have hRj0 : Rooted T ((dj.app' (base + j) s).put oj.dst vj) := by
        obtain ⟨v', d', hd', hk', _⟩ := astep_path hsj0
        have := rooted_step hd' (hT j oj hoj) hR
        rw [hk'] at this
        exact this
      refine ⟨oj, hoj, hdj.2 s a1 _ ?_⟩
      refine ih (l.setIfInBounds j true) _ ?_ (hcl.set hj) (ready_mono hr (Ne.symm hji)) hUj0 hRj0 ?_
      · intro k pk ok hpk hok hki' hun hno hno2
        refine hfree k pk ok hpk hok hki' ?_ hno hno2
        by_cases hjk : j = k
        · subst hjk; exact hjun
        · rw [getD_set_ne true hjk] at hun; exact hun
      · refine hdi.2 _ a2 _ ?_
        rw [Array.setIfInBounds_comm _ _ hji]
        exact aAny_congr hK f _ _ _ a3 hkj
end
theorem drawRow_spec {bad : List (Nat × Nat)} {ops : List Oper} {i : Nat} {x : CO} : ∀ {os : List Oper} {ys : List CO} {k : Nat}, drawRow bad ops i x k os ys = true → ∀ (j : Nat) (pj : Oper) (oj : CO), os[j]? = some pj → ys[j]? = some oj → i < k + j →
    pj.after.any (fun e => Region.binds .any e && e.on == i) = true ∨ x.apart oj = true ∨ waits ops i pj = true ∨ bad.contains (i, k + j) = true
  | [], ys, k, h, j, pj, oj, h1, h2, h3 => by simp at h1
  | o :: os, [], k, h, j, pj, oj, h1, h2, h3 => by simp at h2
  | o :: os, y :: ys, k, h, j, pj, oj, h1, h2, h3 => by
    simp only [drawRow, Bool.and_eq_true, Bool.or_eq_true, decide_eq_true_eq] at h
    cases j with
    | zero =>
      simp at h1 h2
      subst h1; subst h2
      rcases h.1 with (((h | h) | h) | h) | h
      · omega
      · exact .inl h
      · exact .inr (.inl h)
      · exact .inr (.inr (.inl h))
      · exact .inr (.inr (.inr h))
    | succ j =>
      have := drawRow_spec h.2 j pj oj (by simpa using h1) (by simpa using h2) (by omega)
      rw [show k + 1 + j = k + (j + 1) by omega] at this
      exact this
theorem drawRows_spec {bad : List (Nat × Nat)} {ops : List Oper} {cos : List CO} : ∀ {os : List Oper} {ys : List CO} {k : Nat}, drawRows bad ops cos k os ys = true → ∀ (i : Nat) (pi : Oper) (oi : CO), os[i]? = some pi → ys[i]? = some oi →
    (∀ e ∈ pi.after, Region.binds .any e = true → e.on < k + i) ∧ drawRow bad ops (k + i) oi 0 ops cos = true
  | [], ys, k, h, j, pj, oj, h1, h2 => by simp at h1
  | o :: os, [], k, h, j, pj, oj, h1, h2 => by simp at h2
  | o :: os, y :: ys, k, h, j, pj, oj, h1, h2 => by
    simp only [drawRows, Bool.and_eq_true] at h
    cases j with
    | zero =>
      simp at h1 h2
      subst h1; subst h2
      refine ⟨fun e he hb => ?_, h.1.2⟩
      have := Array.all_eq_true_iff_forall_mem.1 h.1.1 e he
      simpa [hb] using this
    | succ j =>
      have := drawRows_spec h.2 j pj oj (by simpa using h1) (by simpa using h2)
      rw [show k + 1 + j = k + (j + 1) by omega] at this
      exact this
def Ro (x x' : CO) : Prop := x' = x ∨ x' = x.ro
theorem Ro.dst {x x' : CO} (h : Ro x x') : x'.dst = x.dst := by rcases h with rfl | rfl <;> rfl
theorem Ro.rd {x x' : CO} (h : Ro x x') : x'.rd = x.rd := by
  rcases h with rfl | rfl
  · rfl
  · cases x with | mk d o g => cases o <;> rfl
theorem Ro.rdB {x x' : CO} (h : Ro x x') : x'.op.rdB = x.op.rdB := by
  rcases h with rfl | rfl
  · rfl
  · cases x with | mk d o g => cases o <;> rfl
theorem Ro.app {x x' : CO} (h : Ro x x') : x'.op.isApp = x.op.isApp := by
  rcases h with rfl | rfl
  · rfl
  · cases x with | mk d o g => cases o <;> rfl
theorem Ro.frz {x x' : CO} (h : Ro x x') : x'.op.isFrz = x.op.isFrz := by
  rcases h with rfl | rfl
  · rfl
  · cases x with | mk d o g => cases o <;> rfl
theorem Ro.wrB {x x' : CO} (h : Ro x x') : x'.op.wrB = x.op.wrB ∨ x'.op.wrB = [] := by
  rcases h with rfl | rfl
  · exact .inl rfl
  · cases x with | mk d o g => cases o <;> first | exact .inl rfl | exact .inr rfl
theorem Ro.indep {x x' y y' : CO} (hx : Ro x x') (hy : Ro y y') : x'.indep y' = x.indep y := by
  simp only [CO.indep, hx.dst, hy.dst, hx.rd, hy.rd, hx.app, hy.app]
theorem Ro.half {T : List (Nat × Tag)} {x x' y y' : CO} (hx : Ro x x') (hy : Ro y y') (h : x.half T y = true) : x'.half T y' = true := by
  simp only [CO.half, hy.rdB, hy.rd, hx.frz] at h ⊢
  rcases hx.wrB with e | e
  · rw [e]; exact h
  · rw [e]; rfl
theorem Ro.apart {x x' y y' : CO} (hx : Ro x x') (hy : Ro y y') (h : x.apart y = true) : x'.apart y' = true := by
  simp only [CO.apart, CO.apartT, Bool.and_eq_true] at h ⊢
  exact ⟨⟨by rw [hx.indep hy]; exact h.1.1, hx.half hy h.1.2⟩, hy.half hx h.2⟩
theorem roL_get {ro : List Nat} : ∀ {l : List CO} {k i : Nat} {c' : CO}, (roL ro k l)[i]? = some c' → ∃ c, l[i]? = some c ∧ Ro c c'
  | [], k, i, c', h => by simp [roL] at h
  | o :: l, k, 0, c', h => by
    simp only [roL, List.getElem?_cons_zero, Option.some.injEq] at h
    refine ⟨o, rfl, ?_⟩
    cases hk : ro.contains k with
    | true => rw [hk] at h; exact .inr h.symm
    | false => rw [hk] at h; exact .inl h.symm
  | o :: l, k, i + 1, c', h => by
    simp only [roL, List.getElem?_cons_succ] at h ⊢
    exact roL_get h
theorem roL_len {ro : List Nat} : ∀ {l : List CO} {k : Nat}, (roL ro k l).length = l.length
  | [], k => rfl
  | o :: l, k => by simp only [roL, List.length_cons, roL_len]
theorem roL_dsts {ro : List Nat} : ∀ {l : List CO} {k : Nat}, dstsOf (roL ro k l) = dstsOf l
  | [], k => rfl
  | o :: l, k => by
    simp only [roL, dstsOf, roL_dsts]
    cases ro.contains k <;> rfl
theorem roL_fit {n : Nat} {ro : List Nat} : ∀ {l : List CO} {k : Nat}, dstFits n (roL ro k l) = dstFits n l
  | [], k => rfl
  | o :: l, k => by
    simp only [roL, dstFits, roL_fit]
    cases ro.contains k <;> rfl
theorem Ro.of (ro : List Nat) (k : Nat) (o : CO) : Ro o (bif ro.contains k then o.ro else o) := by
  cases ro.contains k
  · exact .inl rfl
  · exact .inr rfl
theorem drawRow_ro {bad : List (Nat × Nat)} {ops : List Oper} {i : Nat} {x x' : CO} (hx : Ro x x') {ro : List Nat} : ∀ {os : List Oper} {ys : List CO} {k m : Nat}, drawRow bad ops i x k os ys = true → drawRow bad ops i x' k os (roL ro m ys) = true
  | [], ys, k, m, h => rfl
  | o :: os, [], k, m, h => rfl
  | o :: os, y :: ys, k, m, h => by
    simp only [roL, drawRow, Bool.and_eq_true, Bool.or_eq_true, decide_eq_true_eq] at h ⊢
    refine ⟨?_, drawRow_ro hx h.2⟩
    rcases h.1 with (((h | h) | h) | h) | h
    · exact .inl (.inl (.inl (.inl h)))
    · exact .inl (.inl (.inl (.inr h)))
    · exact .inl (.inl (.inr (hx.apart (.of ro m y) h)))
    · exact .inl (.inr h)
    · exact .inr h
theorem drawRows_ro {bad : List (Nat × Nat)} {ops : List Oper} {cos : List CO} {ro : List Nat} {m : Nat} : ∀ {os : List Oper} {ys : List CO} {k : Nat}, drawRows bad ops cos k os ys = true → drawRows bad ops (roL ro m cos) k os (roL ro k ys) = true
  | [], ys, k, h => rfl
  | o :: os, [], k, h => rfl
  | o :: os, y :: ys, k, h => by
    simp only [roL, drawRows, Bool.and_eq_true] at h ⊢
    exact ⟨⟨h.1.1, drawRow_ro (.of ro k y) h.1.2⟩, drawRows_ro h.2⟩
theorem drawOk_ro {bad : List (Nat × Nat)} {ops : List Oper} {cos : List CO} {ro : List Nat} (h : drawOk bad ops cos = true) : drawOk bad ops (roL ro 0 cos) = true := drawRows_ro h
theorem cellsP_congr {l l2 : List (Nat × Box)} (h : ∀ b, lkB b l2 = lkB b l) : ∀ {ids : List Nat}, cellsP l2 ids = cellsP l ids
  | [] => rfl
  | b :: bs => by simp only [cellsP, h b, cellsP_congr h (ids := bs)]
theorem cellsP_A {l : List (Nat × Box)} : ∀ {ids : List Nat} {css : List (List AV)}, cellsP l ids = some css → cellsA l ids = some css
  | [], css, h => h
  | b :: bs, css, h => by
    simp only [cellsP] at h
    split at h <;> try (cases h; done)
    rename_i cs css' h1 h2
    cases h
    simp only [cellsA, h1, cellsP_A h2]
theorem setBs_same : ∀ {ids : List Nat} {css : List (List AV)} {l : List (Nat × Box)}, cellsP l ids = some css → ∀ b, lkB b (setBs ids css l) = lkB b l
  | [], css, l, h, b => rfl
  | i :: is, css, l, h, b => by
    simp only [cellsP] at h
    split at h <;> try (cases h; done)
    rename_i cs css' h1 h2
    cases h
    have e : ∀ n, lkB n (setB i ⟨cs, []⟩ l) = lkB n l := fun n => by
      rw [lkB_setB']
      split
      · rename_i e; subst e; rw [h1]; rfl
      · rfl
    rw [setBs, setBs_same (by rw [cellsP_congr e]; exact h2), e]
theorem aop_ro {C : Con} {id : Nat} {o : COp} {K : SV → S → Prop} {s : S} (h : aop C id o.ro K s) : aop C id o (fun v s' => ∃ s0, SEq s' s0 ∧ K v s0) s := by
  have same : aop C id o K s → aop C id o (fun v s' => ∃ s0, SEq s' s0 ∧ K v s0) s := fun h => by
    obtain ⟨v, d, hK, _, _, _, hs⟩ := aop_path h
    exact hs s .refl _ ⟨_, .refl, hK⟩
  cases o <;> try (exact same h)
  case callp f args =>
    obtain ⟨p, hp, hnd, h⟩ := withV_inv (h : withV _ _)
    obtain ⟨css, hcs, r, hc, hK⟩ := withV_inv h
    simp only [aop, hp, cellsP_A hcs, withV_some]
    exact ⟨hnd, r, none, css, hc, s, ⟨fun _ => rfl, fun b => (setBs_same hcs b).symm, fun _ => rfl⟩, hK⟩
  case callvp g args =>
    obtain ⟨a, ha, h⟩ := withV_inv (h : withV _ _)
    cases a <;> try (exact h.elim)
    rename_i fn first caps
    cases fn <;> try (exact h.elim)
    rename_i f
    cases first <;> try (exact h.elim)
    cases caps <;> try (exact h.elim)
    obtain ⟨p, hp, hnd, h⟩ := withV_inv h
    obtain ⟨css, hcs, r, hc, hK⟩ := withV_inv h
    simp only [aop, ha, hp, cellsP_A hcs, withV_some]
    exact ⟨hnd, r, none, css, hc, s, ⟨fun _ => rfl, fun b => (setBs_same hcs b).symm, fun _ => rfl⟩, hK⟩
theorem astep_ro {C : Con} {id : Nat} {c c' : CO} (hr : Ro c c') {K : S → Prop} {s : S} (h : astep C id c' K s) : astep C id c (fun s' => ∃ s0, SEq s' s0 ∧ K s0) s := by
  rcases hr with rfl | rfl
  · obtain ⟨v, d, hd, hK, _⟩ := astep_path h
    exact hd.2 s .refl _ ⟨_, .refl, hK⟩
  · have run : aop C id c.op.ro (fun v s' => K (s'.put c.dst v)) s → aop C id c.op (fun v s' => ∃ s0, SEq (s'.put c.dst v) s0 ∧ K s0) s := fun h => by
      have := aop_ro h
      obtain ⟨v, d, ⟨s0, he, hK⟩, _, _, _, hs⟩ := aop_path this
      exact hs s .refl _ ⟨_, he.put _ _, hK⟩
    cases c with
    | mk dst op g =>
      have h : aguard s g (aop C id op.ro (fun v s' => K (s'.put dst v)) s) (K (s.put dst .undef)) := h
      have run : aop C id op.ro (fun v s' => K (s'.put dst v)) s → aop C id op (fun v s' => ∃ s0, SEq (s'.put dst v) s0 ∧ K s0) s := run
      show aguard s g (aop C id op (fun v s' => ∃ s0, SEq (s'.put dst v) s0 ∧ K s0) s) (∃ s0, SEq (s.put dst .undef) s0 ∧ K s0)
      unfold aguard at h ⊢
      cases g with
      | none => exact run h
      | some p =>
        obtain ⟨t, want⟩ := p
        simp only at h ⊢
        cases hl : lk t s.slots with
        | none => simp [hl] at h
        | some v =>
          simp only [hl] at h
          cases v with
          | ptr b o => exact h.elim
          | rp cs => exact h.elim
          | vs _ _ _ _ => exact h.elim
          | undef => exact ⟨_, .refl, h⟩
          | dat a q =>
            cases a <;> try (exact h.elim)
            exact ⟨fun e => run (h.1 e), fun e => ⟨_, .refl, h.2 e⟩⟩
section
variable {C : Con} {base : Nat} {ops : Array Oper} {cos : List CO} {K : S → Prop}
theorem any_of_text {T : List (Nat × Tag)} {bad : List (Nat × Nat)} (hT : ∀ k ok, cos[k]? = some ok → stepOk T (base + k) ok = true) (hbad : badOk T cos bad = true) (hK : ∀ s s2, SEq s s2 → K s → K s2) (hlen : cos.length = ops.size) (hok : drawOk bad ops.toList cos = true) :
    ∀ (rest : List CO) (i : Nat) (l : Array Bool) (s : S), cos.drop i = rest → i + rest.length = ops.size → l.size = ops.size → (∀ j, j < ops.size → l.getD j false = decide (j < i)) →
      s.inU (UL base l) → Rooted T s → aops C base i rest K s → aAny C base ops cos K rest.length l s
  | [], i, l, s, hd, hn, hl, hl', hU, hR, h => by
    refine ⟨?_, h⟩
    rw [List.eq_nil_iff_forall_not_mem]
    intro j hj
    have h1 := (mem_ready.1 hj).1
    have h2 := lt_of_ready hj
    have h3 := hl' j (by omega)
    rw [getD_both h1] at h3
    simp at hn h3
    omega
  | o :: rest, i, l, s, hd, hn, hl, hl', hU, hR, h => by
    have hio : cos[i]? = some o := by
      have : (cos.drop i)[0]? = some o := by rw [hd]; rfl
      simpa using this
    have hilt : i < ops.size := by simp at hn; omega
    have hpi : ops[i]? = some ops[i] := by simp [hilt]
    obtain ⟨hedge, hrow⟩ := drawRows_spec hok i ops[i] o (by simpa using hpi) hio
    simp only [Nat.zero_add] at hedge hrow
    have hiun : l.getD i true = false := by
      have := hl' i hilt
      simp at this
      exact getD_in (by omega) (by simpa using this)
    have hcl : Closed ops l := by
      intro k ok hk hlk e he hb
      have hkn : k < ops.size := (Array.getElem?_eq_some_iff.1 hk).1
      rw [hl' k hkn] at hlk
      simp at hlk
      obtain ⟨ok', hok'⟩ : ∃ x, cos[k]? = some x := ⟨cos[k]'(by omega), by simp [hlen, hkn]⟩
      have := (drawRows_spec hok k ok ok' (by simpa using hk) hok').1 e he hb
      rw [hl' e.on (by omega)]
      simp; omega
    have hr : i ∈ Region.ready .any ops l := by
      rw [mem_ready]
      refine ⟨hiun, ops[i], hpi, fun e he hb => ?_⟩
      have := hedge e he hb
      rw [hl' e.on (by omega)]
      simpa using this
    refine aAny_first hT hK hlen hio rest.length l s ?_ hcl hr hU hR ?_
    · intro j pj oj hpj hoj hji hjun hno hno2
      have hjn : j < ops.size := (Array.getElem?_eq_some_iff.1 hpj).1
      have hlj := hl' j hjn
      rw [getD_both hjun] at hlj
      simp at hlj
      have hij : i < 0 + j := by omega
      rcases drawRow_spec hrow j pj oj (by simpa using hpj) hoj hij with h | h | h | h
      · rw [hno] at h; cases h
      · exact apart_mono h
      · rw [hno2] at h; cases h
      · rw [Nat.zero_add] at h; exact badOk_spec hio hoj hbad h
    · rw [aops_cons] at h
      obtain ⟨v, d, hdoes, hs', hi'⟩ := astep_path h
      have hU' := hi' _ hU
      have hR' := rooted_step hdoes (hT i o hio) hR
      refine hdoes.2 s .refl _ ?_
      generalize (d.app' (base + i) s).put o.dst v = s' at hs' hU' hR'
      have hlsz : (l.setIfInBounds i true).size = ops.size := by simp [hl]
      refine any_of_text hT hbad hK hlen hok rest (i + 1) _ s' ?_ (by simp at hn ⊢; omega) hlsz (fun j hj => ?_) (inU_sub (fun n hn => UL_set (by omega) hn) hU') hR' hs'
      · rw [← List.tail_drop, hd]; rfl
      · by_cases hij : i = j
        · subst hij; simp [hl, hilt]
        · rw [getD_set_ne false hij, hl' j hj]
          by_cases hlt : j < i
          · simp [hlt]; omega
          · simp [hlt]; omega
end
section
variable {P : Program} {nt : Nat} {n0 : Fen} {w0 : World} {π0 : Nat → Nat → Prop} {U : Nat → Prop} {s : S} {a : Act} {w : World} {β : Nat → Nat} {τ : Nat → Value} {π : Nat → Nat → Prop}
theorem Rel.inU (R : Rel P nt n0 w0 π0 U s a w β τ π) : s.inU U :=
  ⟨fun t v hv => (R.slots t v hv).2, fun b x hb => ⟨(R.boxes b x hb).1, fun o q hq => (R.boxes b x hb).2.2.2 o q hq⟩, fun q e hq => (R.live q e hq).1⟩
theorem Rel.seq (R : Rel P nt n0 w0 π0 U s a w β τ π) {s2 : S} (h : SEq s s2) : Rel P nt n0 w0 π0 U s2 a w β τ π where
  size := R.size
  slots := fun t v hv => R.slots t v (by rw [← h.slots]; exact hv)
  boxes := fun b x hb => R.boxes b x (by rw [← h.boxes]; exact hb)
  inj := fun b b' x x' hb hb' => R.inj b b' x x' (by rw [← h.boxes]; exact hb) (by rw [← h.boxes]; exact hb')
  live := fun q e hq => R.live q e (by rw [← h.live]; exact hq)
  liveInj := fun q q' e e' B hq hq' => R.liveInj q q' e e' B (by rw [← h.live]; exact hq) (by rw [← h.live]; exact hq')
  liveBox := fun q e b x hq hb => R.liveBox q e b x (by rw [← h.live]; exact hq) (by rw [← h.boxes]; exact hb)
  below := R.below
  n0le := R.n0le
  prot := R.prot
  prot0 := R.prot0
  protOld := R.protOld
  fore := R.fore
  foreU := R.foreU
  kept := R.kept
theorem Rel.nx (R : Rel P nt n0 w0 π0 U s a w β τ π) (n : Nat) : Rel P nt n0 w0 π0 U { s with nx := n } a w β τ π :=
  R.seq ⟨fun _ => rfl, fun _ => rfl, fun _ => rfl⟩
theorem cGuard_spec {ops : Array Oper} {g : Option (Nat × Bool)} {g' : Option (Nat × Bool)} (h : cGuard ops g = some g') : (g = none ∧ g' = none) ∨ ∃ j w t, g = some (j, w) ∧ (ops[j]?).bind (·.dst) = some t ∧ g' = some (t, w) := by
  unfold cGuard at h
  split at h
  · cases h; exact .inl ⟨rfl, rfl⟩
  · rename_i j w
    split at h
    · rename_i t ht
      cases h
      exact .inr ⟨j, w, t, rfl, ht, rfl⟩
    · cases h
theorem step_sound (R : Rel P nt n0 w0 π0 U s a w β τ π) {ops : Array Oper} {o : Oper} {c : CO} {id : Nat} (hid : ¬ U id) (hc : cOper P ops o = some c) (hfit : ∀ d, c.dst = some d → d < nt) {K : S → Prop} (h : astep (Pure P) id c K s)
    {next : Act → World → Prop} {Q : Exit → Act → World → Prop}
    (hn : ∀ s' x w' β' τ' π', K s' → Rel P nt n0 w0 π0 (also U id) s' (a.put o.dst x) w' β' τ' π' → next (a.put o.dst x) w') :
    if Region.wanted o (yielded ops a.tmps) then o.wp P a w next Q else next (a.put o.dst undef) w := by
  unfold cOper at hc
  split at hc <;> try (cases hc; done)
  rename_i cop g hop hg
  cases hc
  simp only at hfit
  have run : aop (Pure P) id cop (fun v s' => K (s'.put o.dst v)) s → o.wp P a w next Q := fun h => by
    unfold cOpR at hop
    split at hop
    · rename_i c' hv'
      cases hop
      exact appV_sound R hid hv' h fun v s' x w' β' τ' π' hK hv hu R' => hn _ _ _ _ _ _ hK (R'.put o.dst hfit hv hu)
    · exact aop_sound R hid hop h fun v s' x w' β' τ' π' hK hv hu R' => hn _ _ _ _ _ _ hK (R'.put o.dst hfit hv hu)
  have skip : K (s.put o.dst .undef) → next (a.put o.dst undef) w := fun h =>
    hn _ _ _ _ _ _ h ((R.sub fun n h => .inl h).put o.dst hfit rfl trivial)
  unfold astep aguard at h
  rcases cGuard_spec hg with ⟨h1, h2⟩ | ⟨j, want, t, h1, h2, h3⟩
  · subst h2
    simp only at h
    simp only [Region.wanted, h1, if_true]
    exact run h
  · subst h3
    simp only at h
    cases hl : lk t s.slots with
    | none => simp [hl] at h
    | some v =>
      obtain ⟨⟨x, hx, hrv⟩, hui⟩ := R.slots t v hl
      simp only [hl] at h
      have hy : ∀ b, x = .bool b → yielded ops a.tmps j = some b := fun b hb => by
        unfold yielded; rw [h2]; simp [hx, hb]
      cases v with
      | ptr b o => exact h.elim
      | rp cs => exact h.elim
      | vs _ _ _ _ => exact h.elim
      | undef =>
        have hxu : x = undef := hrv
        have hy' : yielded ops a.tmps j = none := by
          unfold yielded; rw [h2]; simp [hx, hxu, undef]
        simp only [Region.wanted, h1, hy']
        exact skip h
      | dat av q =>
        cases av <;> try (exact h.elim)
        rename_i b
        have hxb : x = .bool b := hrv.1.bool_inv
        simp only [Region.wanted, h1, hy b hxb]
        by_cases hb : b = want
        · subst hb; simp; exact run (h.1 rfl)
        · have hb' : b = !want := by cases b <;> cases want <;> first | rfl | exact absurd rfl hb
          have : (some b == some want) = false := by subst hb'; cases want <;> rfl
          rw [this]
          exact skip (h.2 hb')
def cOperR (P : Program) (ops : Array Oper) (o : Oper) (c' : CO) : Prop := ∃ c, cOper P ops o = some c ∧ Ro c c'
theorem step_soundR (R : Rel P nt n0 w0 π0 U s a w β τ π) {ops : Array Oper} {o : Oper} {c : CO} {id : Nat} (hid : ¬ U id) (hc : cOperR P ops o c) (hfit : ∀ d, c.dst = some d → d < nt) {K : S → Prop} (h : astep (Pure P) id c K s)
    {next : Act → World → Prop} {Q : Exit → Act → World → Prop}
    (hn : ∀ s' x w' β' τ' π', K s' → Rel P nt n0 w0 π0 (also U id) s' (a.put o.dst x) w' β' τ' π' → next (a.put o.dst x) w') :
    if Region.wanted o (yielded ops a.tmps) then o.wp P a w next Q else next (a.put o.dst undef) w := by
  obtain ⟨c0, hc0, hr⟩ := hc
  refine step_sound R hid hc0 (fun d hd => hfit d (by rw [hr.dst]; exact hd)) (astep_ro hr h) ?_
  rintro s' x w' β' τ' π' ⟨s0, he, hk⟩ R'
  exact hn s0 x w' β' τ' π' hk (R'.seq he)
def FW (r : Option Nat) : Fence := { Fence.wide with round := r }
theorem callsIn_FW {r : Option Nat} {n : Nat} {f : FuncId} {args : Array Value} {w : World} {R : Ending → World → Prop} : CallsIn (FW r) n P f args w R ↔ Calls P f args w R :=
  ⟨fun h => callsIn_wide.1 (show CallsIn Fence.wide n P f args w R from h), fun h => (show CallsIn Fence.wide n P f args w R from callsIn_wide.2 h)⟩
theorem rowsIn_FW {r : Option Nat} {n : Nat} {row : String} {args : Array Value} {w : World} {R : Value → World → Prop} (h : Rows P row args w R) : RowsIn (FW r) n P row args w R :=
  fun c cs _ => let ⟨v, w', hr, s⟩ := h c cs; ⟨v, w', hr, (show StepsIn (Machine.fenced P Fence.wide) P _ _ from stepsIn_wide.2 s)⟩
theorem op_in {r : Option Nat} {n : Nat} {o : Oper} {a : Act} {w : World} {K : Act → World → Prop} {Q : Exit → Act → World → Prop} (h : o.wp P a w K Q) (hd : ∀ c, o.op ≠ .defer c) : o.wpIn (FW r) n P a w K Q := by
  refine ⟨fun _ _ => trivial, ?_⟩
  rw [Oper.semAt_eq _ _ _ hd]
  unfold Oper.wp at h
  generalize (execOp a.eval o).run P w = res at h ⊢
  cases res with
  | ok x w' =>
    cases x <;> simp only [Oper.upon, Oper.uponIn] at h ⊢ <;> first
      | exact h
      | exact h.elim
      | exact ⟨fun hd => by simp [FW, Fence.wide] at hd, callsIn_FW.2 h⟩
      | exact ⟨fun hd => by simp [FW, Fence.wide] at hd, rowsIn_FW h⟩
  | halt x w' => cases x <;> simp only [Oper.upon, Oper.uponIn] at h ⊢ <;> first | exact h | exact h.elim
def Puts (T : Nat → Prop) (a0 a : Act) : Prop := a.defers = a0.defers ∧ ∀ t, T t → a.tmps[t]? = a0.tmps[t]?
theorem Puts.refl (T : Nat → Prop) (a : Act) : Puts T a a := ⟨rfl, fun _ _ => rfl⟩
theorem Puts.put {T : Nat → Prop} {a0 a : Act} (h : Puts T a0 a) {d : Option Nat} (hd : ∀ t, d = some t → ¬ T t) (x : Value) : Puts T a0 (a.put d x) := by
  cases d with
  | none => exact h
  | some d =>
    refine ⟨h.1, fun t ht => ?_⟩
    have hne : t ≠ d := fun e => hd d rfl (e ▸ ht)
    simp only [Act.put]
    rw [Array.getElem?_setIfInBounds_ne (Ne.symm hne)]
    exact h.2 t ht
theorem wpOp_sound (R : Rel P nt n0 w0 π0 U s a w β τ π) {ops : Array Oper} {o : Oper} {c : CO} {i id : Nat} (ho : ops[i]? = some o) (hid : ¬ U id) (hc : cOperR P ops o c) (hfit : ∀ d, c.dst = some d → d < nt) {K : S → Prop} (h : astep (Pure P) id c K s)
    {next : Act → World → Prop} {Q : Exit → Act → World → Prop}
    (hn : ∀ s' x w' β' τ' π', K s' → Rel P nt n0 w0 π0 (also U id) s' (a.put o.dst x) w' β' τ' π' → next (a.put o.dst x) w') {r : Option Nat} {n : Nat} : wpOpIn (FW r) n P ops Q i next a w := by
  have := step_soundR R hid hc hfit h (Q := Q) hn
  have hnd : ∀ c, o.op ≠ .defer c := by
    intro c' e
    obtain ⟨c0, hc, _⟩ := hc
    unfold cOper at hc
    rw [e] at hc
    simp [cOpR, appVOf, cOp] at hc
  unfold wpOpIn
  simp only [ho]
  split
  · rename_i hw; rw [if_pos hw] at this; exact op_in this hnd
  · rename_i hw; rw [if_neg hw] at this; exact ⟨fun _ _ => trivial, this⟩
theorem cOper_dst {ops : Array Oper} {o : Oper} {c : CO} (hc : cOper P ops o = some c) : c.dst = o.dst := by
  unfold cOper at hc
  split at hc <;> try (cases hc; done)
  cases hc; rfl
theorem cOperR_dst {ops : Array Oper} {o : Oper} {c : CO} (hc : cOperR P ops o c) : c.dst = o.dst := by
  obtain ⟨c0, h0, hr⟩ := hc
  rw [hr.dst, cOper_dst h0]
theorem cOpers_spec {ops : Array Oper} : ∀ {l : List Oper} {cs : List CO}, cOpers P ops l = some cs → cs.length = l.length ∧ ∀ (i : Nat) (o : Oper) (c : CO), l[i]? = some o → cs[i]? = some c → cOper P ops o = some c
  | [], cs, h => by simp [cOpers] at h; subst h; exact ⟨rfl, fun i o c h => by simp at h⟩
  | o :: l, cs, h => by
    unfold cOpers at h
    split at h <;> try (cases h; done)
    rename_i c cs' h1 h2
    cases h
    obtain ⟨e, hs⟩ := cOpers_spec h2
    refine ⟨by simp [e], fun i o' c' ho hc => ?_⟩
    cases i with
    | zero => simp at ho hc; subst ho; subst hc; exact h1
    | succ i => exact hs i o' c' (by simpa using ho) (by simpa using hc)
theorem dstFits_spec {n : Nat} : ∀ {l : List CO}, dstFits n l = true → ∀ (i : Nat) (c : CO) (d : Nat), l[i]? = some c → c.dst = some d → d < n
  | [], h, i, c, d, hi, hd => by simp at hi
  | o :: l, h, i, c, d, hi, hd => by
    simp only [dstFits, Bool.and_eq_true] at h
    cases i with
    | zero =>
      simp at hi; subst hi
      have := h.1
      rw [hd] at this
      simpa using this
    | succ i => exact dstFits_spec h.2 i c d (by simpa using hi) hd
theorem text_sound {ops : Array Oper} {cos : List CO} {base : Nat} (hlen : cos.length = ops.size) (hcos : ∀ (i : Nat) (o : Oper) (c : CO), ops[i]? = some o → cos[i]? = some c → cOperR P ops o c) (hfit : ∀ (i : Nat) (c : CO) (d : Nat), cos[i]? = some c → c.dst = some d → d < nt)
    {T : Nat → Prop} {a0 : Act} (hT : ∀ (i : Nat) (c : CO) (d : Nat), cos[i]? = some c → c.dst = some d → ¬ T d) {r : Option Nat} {m : Nat}
    {K : S → Prop} {Q : Exit → Act → World → Prop} (hQ : ∀ s a w β τ π U, (∀ n, U n → n < base + ops.size) → K s → Puts T a0 a → Rel P nt n0 w0 π0 U s a w β τ π → Q .normal a w) :
    ∀ (rest : List CO) (i : Nat) (s : S) (a : Act) (w : World) (β : Nat → Nat) (τ : Nat → Value) (π : Nat → Nat → Prop) (U : Nat → Prop), cos.drop i = rest → i + rest.length = ops.size → (∀ n, U n → n < base + i) → Puts T a0 a → Rel P nt n0 w0 π0 U s a w β τ π →
      aops (Pure P) base i rest K s → wpOpsIn (FW r) m P ops Q (List.range' i rest.length) a w
  | [], i, s, a, w, β, τ, π, U, hd, hn, hU, hp, R, h => hQ s a w β τ π U (fun n h => by have := hU n h; simp at hn; omega) h hp R
  | o :: rest, i, s, a, w, β, τ, π, U, hd, hn, hU, hp, R, h => by
    have hio : cos[i]? = some o := by
      have : (cos.drop i)[0]? = some o := by rw [hd]; rfl
      simpa using this
    have hilt : i < ops.size := by simp at hn; omega
    have hpi : ops[i]? = some ops[i] := by simp [hilt]
    rw [aops_cons] at h
    simp only [List.length_cons, List.range'_succ]
    rw [wpOpsIn_cons]
    refine wpOp_sound R hpi (fun h => by have := hU _ h; omega) (hcos i _ o hpi hio) (hfit i o · hio) h fun s' x w' β' τ' π' hK R' => ?_
    refine text_sound hlen hcos hfit hT hQ rest (i + 1) s' _ w' β' τ' π' _ ?_ (by simp at hn; omega) (fun n h => ?_) (hp.put (fun d hd => hT i o d hio (by rw [cOperR_dst (hcos i _ o hpi hio)]; exact hd)) x) R' hK
    · rw [← List.tail_drop, hd]; rfl
    · rcases h with h | h
      · have := hU n h; omega
      · omega
theorem any_sound {ops : Array Oper} {cos : List CO} {base : Nat} (hcos : ∀ (i : Nat) (o : Oper) (c : CO), ops[i]? = some o → cos[i]? = some c → cOperR P ops o c) (hfit : ∀ (i : Nat) (c : CO) (d : Nat), cos[i]? = some c → c.dst = some d → d < nt)
    {T : Nat → Prop} {a0 : Act} (hT : ∀ (i : Nat) (c : CO) (d : Nat), cos[i]? = some c → c.dst = some d → ¬ T d) {r : Option Nat} {m : Nat}
    {K : S → Prop} {Q : Exit → Act → World → Prop} (hQ : ∀ s a w β τ π U, (∀ n, U n → n < base + ops.size) → K s → Puts T a0 a → Rel P nt n0 w0 π0 U s a w β τ π → Q .normal a w) :
    ∀ (f : Nat) (l : Array Bool) (s : S) (a : Act) (w : World) (β : Nat → Nat) (τ : Nat → Value) (π : Nat → Nat → Prop), l.size = ops.size → Puts T a0 a → Rel P nt n0 w0 π0 (UL base l) s a w β τ π →
      aAny (Pure P) base ops cos K f l s → wpAnyIn (FW r) m P .any ops Q f l a w := by
  have small : ∀ l : Array Bool, l.size = ops.size → ∀ n, UL base l n → n < base + ops.size := by
    rintro l hl n (h | ⟨i, hi, h⟩)
    · omega
    · have : i < l.size := by
        rcases Nat.lt_or_ge i l.size with h' | h'
        · exact h'
        · simp [Array.getElem?_eq_none h'] at h
      omega
  intro f
  induction f with
  | zero => intro l s a w β τ π hl hp R h; exact ⟨h.1, hQ s a w β τ π _ (small l hl) h.2 hp R⟩
  | succ f ih =>
    intro l s a w β τ π hl hp R h
    refine ⟨fun h0 => hQ s a w β τ π _ (small l hl) (h.1 h0) hp R, fun i hi => ?_⟩
    obtain ⟨o, ho, hs⟩ := h.2 i hi
    obtain ⟨hun, pi, hpi, _⟩ := mem_ready.1 hi
    refine wpOp_sound R hpi (UL_not hun) (hcos i pi o hpi ho) (hfit i o · ho) hs fun s' x w' β' τ' π' hK R' => ?_
    exact ih _ s' _ w' β' τ' π' (by simp [hl]) (hp.put (fun d hd => hT i o d ho (by rw [cOperR_dst (hcos i pi o hpi ho)]; exact hd)) x) (R'.sub fun n hn => UL_set (lt_of_ready hi) hn) hK
theorem dstsOf_mem {c : CO} {d : Nat} : ∀ {l : List CO}, c ∈ l → c.dst = some d → d ∈ dstsOf l
  | o :: l, h, hd => by
    simp only [dstsOf, List.mem_append]
    rcases List.mem_cons.1 h with rfl | h
    · exact .inl (by rw [hd]; simp)
    · exact .inr (dstsOf_mem h hd)
theorem region_sound (hm : P.follows .mixedOrders = true) {id : Nat} {ops : Array Oper} {draws : Bool} {cos0 : List CO} (hc : cOpers P ops ops.toList = some cos0) (ro : List Nat) (hd : draws = true → ∃ bad T, drawOk bad ops.toList cos0 = true ∧ badOk T (roL ro 0 cos0) bad = true ∧ stepsOk T s.nx 0 (roL ro 0 cos0) = true ∧ Rooted T s) (hfit : dstFits nt cos0 = true)
    (R : Rel P nt n0 w0 π0 U s a w β τ π) (hU : ∀ n, U n → n < s.nx) {K : S → Prop} {Q : Exit → Act → World → Prop} (h : aops (Pure P) s.nx 0 (roL ro 0 cos0) K s)
    {T : Nat → Prop} (hT : ∀ d, d ∈ dstsOf cos0 → ¬ T d) {r : Option Nat} {m : Nat}
    (hQ : ∀ s' a' w β τ π U, (∀ n, U n → n < s.nx + cos0.length) → K s' → Puts T a a' → Rel P nt n0 w0 π0 U s' a' w β τ π → Q .normal a' w) : (Code.region id ops draws).wpIn (FW r) m P Q a w := by
  obtain ⟨hlen0, hcos0⟩ := cOpers_spec hc
  have hd : draws = true → ∃ bad T, drawOk bad ops.toList (roL ro 0 cos0) = true ∧ badOk T (roL ro 0 cos0) bad = true ∧ stepsOk T s.nx 0 (roL ro 0 cos0) = true ∧ Rooted T s := fun e => by
    obtain ⟨bad, T, h1, h2⟩ := hd e
    exact ⟨bad, T, drawOk_ro h1, h2⟩
  have hfit : dstFits nt (roL ro 0 cos0) = true := by rw [roL_fit]; exact hfit
  have hT : ∀ d, d ∈ dstsOf (roL ro 0 cos0) → ¬ T d := by rw [roL_dsts]; exact hT
  have hlen : (roL ro 0 cos0).length = ops.size := by rw [roL_len]; simpa using hlen0
  have hQ : ∀ s' a' w β τ π U, (∀ n, U n → n < s.nx + (roL ro 0 cos0).length) → K s' → Puts T a a' → Rel P nt n0 w0 π0 U s' a' w β τ π → Q .normal a' w := by rw [roL_len]; exact hQ
  have hcos : ∀ (i : Nat) (o : Oper) (c : CO), ops[i]? = some o → (roL ro 0 cos0)[i]? = some c → cOperR P ops o c := fun i o c h1 h2 => by
    obtain ⟨c0, h3, h4⟩ := roL_get h2
    exact ⟨c0, hcos0 i o c0 (by simpa using h1) h3, h4⟩
  clear hlen0 hcos0 hc
  generalize roL ro 0 cos0 = cos at *
  have hT : ∀ (i : Nat) (c : CO) (d : Nat), cos[i]? = some c → c.dst = some d → ¬ T d := fun i c d hi hd => hT d (dstsOf_mem (List.mem_of_getElem? hi) hd)
  have hfit := dstFits_spec hfit
  rw [hlen] at hQ
  cases draws with
  | false =>
    refine wpIn_region ?_
    have := text_sound (r := r) (m := m) hlen hcos hfit hT hQ cos 0 s a w β τ π U rfl (by simpa using hlen) (by simpa using hU) (.refl _ _) R h
    rw [hlen] at this
    rw [List.range_eq_range']
    exact this
  | true =>
    obtain ⟨bad, Tb, hok, hbad, hst, hRt⟩ := hd rfl
    have hst' : ∀ k ok, cos[k]? = some ok → stepOk Tb (s.nx + k) ok = true := fun k ok hk => by have := stepsOk_spec hst k ok hk; rwa [Nat.zero_add] at this
    refine wpIn_region_any hm ?_
    have R' : Rel P nt n0 w0 π0 (UL s.nx (Array.replicate ops.size false)) s a w.drew β τ π := R.draw.sub fun n hn => .inl (hU n hn)
    have h2 : aops (Pure P) s.nx 0 cos (fun s2 => ∃ s1, SEq s1 s2 ∧ K s1) s := by
      clear hQ
      have gen : ∀ (base' : Nat) (r : List CO) (i : Nat) (s : S) {K' : S → Prop}, (∀ s, K s → K' s) → aops (Pure P) base' i r K s → aops (Pure P) base' i r K' s := by
        intro base' r
        induction r with
        | nil => intro i s K' hk h; exact hk s h
        | cons o r ih =>
          intro i s K' hk h
          rw [aops_cons] at h ⊢
          obtain ⟨v, d, hd, hk', _⟩ := astep_path h
          exact hd.2 s .refl _ (ih _ _ hk hk')
      exact gen s.nx cos 0 s (fun s h => ⟨s, .refl, h⟩) h
    have h3 := any_of_text hst' hbad (fun s s2 he ⟨s1, h1, hk⟩ => ⟨s1, h1.trans he, hk⟩) hlen hok cos 0 (Array.replicate ops.size false) s rfl (by simpa using hlen) (by simp) (fun j hj => by simp [hj]) R'.inU hRt h2
    rw [hlen] at h3
    refine any_sound hcos hfit hT ?_ ops.size _ s a w.drew β τ π (by simp) (.refl _ _) R' h3
    rintro s2 a w β τ π U hU ⟨s1, he, hk⟩ hp R2
    exact hQ s1 a w β τ π U hU hk hp (R2.seq he.symm)
end
end Go.Eng
namespace Go.Eng
set_option linter.unusedVariables false
set_option linter.unusedSimpArgs false
set_option linter.unnecessarySimpa false
open Go
open Go.RowKit (Below)
set_option linter.unusedVariables false
set_option linter.unusedSimpArgs false
theorem lk_mem : ∀ {l : List (Nat × SV)} {t : Nat} {v : SV}, lk t l = some v → (t, v) ∈ l
  | [], t, v, h => by cases h
  | (m, u) :: r, t, v, h => by
    simp only [lk, cbeq] at h
    split at h
    · rename_i e; cases h; subst e; exact List.mem_cons_self ..
    · exact List.mem_cons_of_mem _ (lk_mem h)
theorem lkB_mem : ∀ {l : List (Nat × Box)} {t : Nat} {v : Box}, lkB t l = some v → (t, v) ∈ l
  | [], t, v, h => by cases h
  | (m, u) :: r, t, v, h => by
    simp only [lkB, cbeq] at h
    split at h
    · rename_i e; cases h; subst e; exact List.mem_cons_self ..
    · exact List.mem_cons_of_mem _ (lkB_mem h)
theorem lkN_mem : ∀ {l : List (Nat × Nat)} {t : Nat} {v : Nat}, lkN t l = some v → (t, v) ∈ l
  | [], t, v, h => by cases h
  | (m, u) :: r, t, v, h => by
    simp only [lkN, cbeq] at h
    split at h
    · rename_i e; cases h; subst e; exact List.mem_cons_self ..
    · exact List.mem_cons_of_mem _ (lkN_mem h)
theorem leSlots_mem {m : List (Nat × Nat)} {nx : Nat} {a : List (Nat × SV)} : ∀ {l : List (Nat × SV)}, leSlots m nx a l → ∀ t v, (t, v) ∈ l → ∃ u, lk t a = some u ∧ leSV m nx u v
  | [], h, t, v, hm => by cases hm
  | (t0, v0) :: r, h, t, v, hm => by
    rcases List.mem_cons.1 hm with e | e
    · cases e; exact withV_inv h.1
    · exact leSlots_mem h.2 t v e
theorem leTags_mem {m : List (Nat × Nat)} {nx : Nat} {a : List (Nat × Nat)} : ∀ {l : List (Nat × Nat)}, leTags m nx a l → ∀ o q, (o, q) ∈ l → lkN o a = some (ren m q) ∧ q < nx
  | [], h, t, v, hm => by cases hm
  | (t0, v0) :: r, h, t, v, hm => by
    rcases List.mem_cons.1 hm with e | e
    · cases e; exact h.1
    · exact leTags_mem h.2 t v e
theorem leBoxes_mem {m : List (Nat × Nat)} {nx : Nat} {a : List (Nat × Box)} : ∀ {l : List (Nat × Box)}, leBoxes m nx a l → ∀ b x, (b, x) ∈ l → ∃ y, lkB b a = some y ∧ y.cells = x.cells ∧ leTags m nx y.tags x.tags ∧ b < nx
  | [], h, t, v, hm => by cases hm
  | (t0, v0) :: r, h, t, v, hm => by
    rcases List.mem_cons.1 hm with e | e
    · cases e; obtain ⟨y, h1, h2⟩ := withV_inv h.1; exact ⟨y, h1, h2⟩
    · exact leBoxes_mem h.2 t v e
theorem leLive_mem {m : List (Nat × Nat)} {nx : Nat} {a : List (Nat × Nat)} : ∀ {l : List (Nat × Nat)}, leLive m nx a l → ∀ q e, (q, e) ∈ l → lkN (ren m q) a = some e ∧ q < nx
  | [], h, t, v, hm => by cases hm
  | (t0, v0) :: r, h, t, v, hm => by
    rcases List.mem_cons.1 hm with e | e
    · cases e; exact h.1
    · exact leLive_mem h.2 t v e
theorem nodup_inj {α : Type} {f : α → Nat} : ∀ {l : List α}, (l.map f).Nodup → ∀ x y, x ∈ l → y ∈ l → f x = f y → x = y
  | [], h, x, y, hx, hy, e => by cases hx
  | a :: l, h, x, y, hx, hy, e => by
    simp only [List.map_cons, List.nodup_cons] at h
    rcases List.mem_cons.1 hx with kx | kx <;> rcases List.mem_cons.1 hy with ky | ky
    · rw [kx, ky]
    · exact absurd (by rw [← kx, e]; exact List.mem_map_of_mem ky) h.1
    · exact absurd (by rw [← ky, ← e]; exact List.mem_map_of_mem kx) h.1
    · exact nodup_inj h.2 x y kx ky e
section
variable {P : Program} {nt : Nat} {n0 : Fen} {w0 : World} {π0 : Nat → Nat → Prop} {s s1 : S} {a : Act} {w : World}
def RelN (P : Program) (nt : Nat) (n0 : Fen) (w0 : World) (π0 : Nat → Nat → Prop) (s : S) (a : Act) (w : World) : Prop :=
  4 ≤ s.nx ∧ ∃ β τ π U, (∀ n, U n → n < s.nx) ∧ Rel P nt n0 w0 π0 U s a w β τ π
theorem Rel.le {U : Nat → Prop} {β : Nat → Nat} {τ : Nat → Value} {π : Nat → Nat → Prop} (R : Rel P nt n0 w0 π0 U s a w β τ π) (h : Le s s1) : RelN P nt n0 w0 π0 s1 a w := by
  obtain ⟨h0, m, h1, h2, h3, h4⟩ := h
  refine ⟨h0, β, fun q => τ (ren m q), π, fun n => n < s1.nx, fun n h => h, ?_⟩
  refine { size := R.size, slots := ?_, boxes := ?_, inj := ?_, live := ?_, liveInj := ?_, liveBox := ?_, below := R.below, n0le := R.n0le, prot := R.prot, prot0 := R.prot0, protOld := R.protOld, fore := R.fore, foreU := fun k hk => by show k < s1.nx; omega, kept := R.kept }
  · intro t v hv
    obtain ⟨u, hu, hle⟩ := leSlots_mem h1 t v (lk_mem hv)
    obtain ⟨⟨x, hx, hr⟩, hU⟩ := R.slots t u hu
    cases u with
    | dat au qu =>
      cases v with
      | dat av qv =>
        cases qv with
        | none =>
          have e : au = av := by cases qu <;> exact hle
          subst e
          exact ⟨⟨x, hx, hr.1, fun t ht => by cases ht⟩, trivial⟩
        | some q =>
          cases qu with
          | none => exact hle.elim
          | some q0 =>
            obtain ⟨e, e2, hq⟩ := hle
            subst e
            refine ⟨⟨x, hx, hr.1, fun t ht => ?_⟩, hq⟩
            cases ht
            show x = τ (ren m q)
            rw [← e2]; exact hr.2 q0 rfl
      | _ => cases qu <;> exact hle.elim
    | ptr b o =>
      cases v with
      | ptr b' o' =>
        obtain ⟨e1, e2, e3⟩ := hle
        subst e1 e2
        exact ⟨⟨x, hx, hr⟩, e3⟩
      | _ => exact hle.elim
    | rp cs =>
      cases v with
      | rp cs' =>
        have e : cs = cs' := hle
        subst e
        exact ⟨⟨x, hx, hr⟩, trivial⟩
      | _ => exact hle.elim
    | undef =>
      cases v with
      | undef => exact ⟨⟨x, hx, hr⟩, trivial⟩
      | _ => exact hle.elim
    | vs _ _ _ _ => cases v <;> exact hle.elim
  · intro b x hb
    obtain ⟨y, hy, hcs, htg, hlt⟩ := leBoxes_mem h2 b x (lkB_mem hb)
    obtain ⟨_, hn, ⟨cur, el, c1, c2, c3, c4, c5⟩, hq⟩ := R.boxes b y hy
    refine ⟨hlt, hn, ⟨cur, el, c1, by rw [← hcs]; exact c2, by rw [← hcs]; exact c3, fun o q ho => ?_, c5⟩, fun o q ho => ?_⟩
    · exact c4 o _ (leTags_mem htg o q (lkN_mem ho)).1
    · exact (leTags_mem htg o q (lkN_mem ho)).2
  · intro b b' x x' hb hb' e
    obtain ⟨y, hy, _⟩ := leBoxes_mem h2 b x (lkB_mem hb)
    obtain ⟨y', hy', _⟩ := leBoxes_mem h2 b' x' (lkB_mem hb')
    exact R.inj b b' y y' hy hy' e
  · intro q e hq
    obtain ⟨h5, h6⟩ := leLive_mem h3 q e (lkN_mem hq)
    exact ⟨h6, (R.live _ e h5).2⟩
  · intro q q' e e' B hq hq' hB hB'
    have hm := lkN_mem hq
    have hm' := lkN_mem hq'
    obtain ⟨h5, _⟩ := leLive_mem h3 q e hm
    obtain ⟨h5', _⟩ := leLive_mem h3 q' e' hm'
    have := R.liveInj _ _ e e' B h5 h5' hB hB'
    have := nodup_inj h4 _ _ hm hm' this
    exact congrArg Prod.fst this
  · intro q e b x hq hb
    obtain ⟨h5, _⟩ := leLive_mem h3 q e (lkN_mem hq)
    obtain ⟨y, hy, _⟩ := leBoxes_mem h2 b x (lkB_mem hb)
    exact R.liveBox _ e b y h5 hy
variable {U : Nat → Prop} {β : Nat → Nat} {τ : Nat → Value} {π : Nat → Nat → Prop}
theorem Rel.rew (R : Rel P nt n0 w0 π0 U s a w β τ π) {w1 : World} (hb : Blw n0 w1 w) (hn : n0.n ≤ w1.heap.size) (hk : ∀ b o, π0 b o → w.cell? ⟨b, o, none⟩ = w1.cell? ⟨b, o, none⟩) : Rel P nt n0 w1 π0 U s a w β τ π := { R with below := hb, n0le := hn, kept := hk }
theorem Rel.reb (R : Rel P nt n0 w0 π0 U s a w β τ π) : Rel P nt n0 w π0 U s a w β τ π := R.rew (.refl _ _) (Nat.le_trans R.n0le R.below.size) (fun _ _ _ => rfl)
theorem RelN.below (R : RelN P nt n0 w0 π0 s a w) : Blw n0 w0 w := let ⟨_, _, _, _, _, _, R0⟩ := R; R0.below
theorem RelN.n0le (R : RelN P nt n0 w0 π0 s a w) : n0.n ≤ w0.heap.size := let ⟨_, _, _, _, _, _, R0⟩ := R; R0.n0le
theorem RelN.rew (R : RelN P nt n0 w0 π0 s a w) {w1 : World} (hb : Blw n0 w1 w) (hn : n0.n ≤ w1.heap.size) (hk : ∀ b o, π0 b o → w.cell? ⟨b, o, none⟩ = w1.cell? ⟨b, o, none⟩) : RelN P nt n0 w1 π0 s a w := let ⟨h, β, τ, π, U, hU, R⟩ := R; ⟨h, β, τ, π, U, hU, R.rew hb hn hk⟩
theorem RelN.kept (R : RelN P nt n0 w0 π0 s a w) : ∀ b o, π0 b o → w.cell? ⟨b, o, none⟩ = w0.cell? ⟨b, o, none⟩ := let ⟨_, _, _, _, _, _, R0⟩ := R; R0.kept
theorem RelN.back {π1 : Nat → Nat → Prop} {w1 : World} (R : RelN P nt n0 w1 π1 s a w) (h1 : ∀ b o, π0 b o → π1 b o) (h2 : ∀ b o, π1 b o → π0 b o ∨ n0.n ≤ b) (hb : Blw n0 w0 w) (hn : n0.n ≤ w0.heap.size) (hk : ∀ b o, π0 b o → w.cell? ⟨b, o, none⟩ = w0.cell? ⟨b, o, none⟩) : RelN P nt n0 w0 π0 s a w :=
  let ⟨h, β, τ, π, U, hU, R⟩ := R
  ⟨h, β, τ, π, U, hU, { R with below := hb, n0le := hn, kept := hk, prot0 := fun b o h => R.prot0 b o (h1 b o h), protOld := fun b o h => (R.protOld b o h).elim (h2 b o) .inr }⟩
theorem RelN.reb (R : RelN P nt n0 w0 π0 s a w) : RelN P nt n0 w π0 s a w := let ⟨h, β, τ, π, U, hU, R⟩ := R; ⟨h, β, τ, π, U, hU, R.reb⟩
theorem RelN.acts (R : RelN P nt n0 w0 π0 s a w) {a' : Act} (h : a'.tmps = a.tmps) : RelN P nt n0 w0 π0 s a' w :=
  let ⟨h4, β, τ, π, U, hU, R⟩ := R
  ⟨h4, β, τ, π, U, hU, { R with size := by rw [h]; exact R.size, slots := fun t v hv => by rw [h]; exact R.slots t v hv }⟩
theorem RelN.old (R : RelN P nt n0 w0 π0 s a w) {w' : World} (hb : Below w.heap.size w w') : RelN P nt n0 w0 π0 s a w' :=
  let ⟨h, β, τ, π, U, hU, R⟩ := R
  ⟨h, β, τ, π, U, hU, R.frame (fun _ _ => rfl) (fun _ _ => rfl) (fun _ h => h) (fun _ _ h => h) (fun _ _ h => .inl h) (fun b o h => Nat.lt_of_lt_of_le (R.prot b o h) hb.size) hb⟩
theorem cell_putObj {w : World} {l : Nat} {o o' : Obj} (h : w.heap[l]? = some o) (hc : o.isCells = false) (hc' : o'.isCells = false) (x : Addr) : (w.putObj l o').cell? x = w.cell? x := by
  have hlt := (Array.getElem?_eq_some_iff.1 h).1
  by_cases e : x.block = l
  · unfold World.cell?
    rw [e, World.putObj_heap_same hlt, h]
    cases o <;> cases o' <;> first | (cases hc; done) | (cases hc'; done) | rfl
  · exact World.cell?_of_block (World.putObj_heap_other e)
theorem Blw.putObj {n : Fen} {w w' : World} (h : Blw n w w') {l : Nat} (hl : w.heap.size ≤ l) (hn : n.n ≤ l) (o : Obj) : Blw n w (w'.putObj l o) :=
  ⟨h.os, h.tape, h.output, by simpa using h.size, fun k hk hx => (World.putObj_heap_other (by omega)).trans (h.block k hk hx), fun k x hk hx => (World.putObj_heap_other (by have := (Array.getElem?_eq_some_iff.1 hk).1; omega)).trans (h.others k x hk hx)⟩
theorem RelN.putObj (R : RelN P nt n0 w0 π0 s a w) {l : Nat} {o o' : Obj} (h : w.heap[l]? = some o) (hc : o.isCells = false) (hc' : o'.isCells = false) : RelN P nt n0 (w.putObj l o') π0 s a (w.putObj l o') := by
  obtain ⟨h4, β, τ, π, U, hU, R⟩ := R
  have hcl : ∀ b o, π b o → (w.putObj l o').cell? ⟨b, o, none⟩ = w.cell? ⟨b, o, none⟩ := fun b x _ => cell_putObj h hc hc' _
  have hoth : ∀ (B : Nat) (cur : Array Value) (el : TypeId) (f : Nat × Nat), w.heap[B]? = some (.cells cur el f) → (w.putObj l o').heap[B]? = w.heap[B]? := fun B cur el f hB => World.putObj_heap_other (fun e => by subst e; rw [h] at hB; cases hB; cases hc)
  refine ⟨h4, β, τ, π, U, hU, { R with slots := ?_, boxes := ?_, live := ?_, below := .refl _ _, n0le := ?_, prot := ?_, kept := fun _ _ _ => rfl }⟩
  · intro t v hv
    obtain ⟨⟨x, hx, hr⟩, hu⟩ := R.slots t v hv
    exact ⟨⟨x, hx, RV.mono (fun _ _ => rfl) (fun _ _ => rfl) (fun _ _ h => h) hcl hu hr⟩, hu⟩
  · intro b x hb
    obtain ⟨g1, g2, g3, g4⟩ := R.boxes b x hb
    have g3' := g3
    obtain ⟨cur, el, hh, _, _, _, hn⟩ := g3'
    exact ⟨g1, g2, g3.keep (fun _ _ => rfl) g4 (hoth _ _ _ _ hh) (fun _ _ h => h) hcl hn, g4⟩
  · intro q e hq
    obtain ⟨g1, g2⟩ := R.live q e hq
    refine ⟨g1, g2.keep (fun B hB => ?_) (fun B o _ h => h)⟩
    rcases g2 with e | ⟨B', len, cap, cur, i, e, _, hh, _⟩
    · rw [e] at hB; cases hB
    · rw [e] at hB; cases hB; exact hoth _ _ _ _ hh
  · simpa using Nat.le_trans R.n0le R.below.size
  · intro b o hb; simpa using R.prot b o hb
theorem lk_cutL {wr : List Nat} {t : Nat} : ∀ {l : List (Nat × SV)} {v : SV}, lk t (cutL wr l) = some v → ¬ t ∈ wr ∧ lk t l = some v
  | [], v, h => by cases h
  | (m, u) :: r, v, h => by
    simp only [cutL] at h
    cases hc : wr.contains m with
    | true =>
      rw [hc] at h
      obtain ⟨h1, h2⟩ := lk_cutL (l := r) h
      refine ⟨h1, ?_⟩
      have hne : ¬ t = m := fun e => h1 (by subst e; simpa using hc)
      simp only [lk, cbeq, hne, if_false]; exact h2
    | false =>
      rw [hc] at h
      simp only [cond_false, lk, cbeq] at h ⊢
      by_cases e : t = m
      · rw [if_pos e] at h ⊢
        exact ⟨fun hm => by subst e; simp at hc; exact hc hm, h⟩
      · rw [if_neg e] at h ⊢
        exact lk_cutL (l := r) h
theorem RelN.cut (R : RelN P nt n0 w0 π0 s a w) {wr : List Nat} {a1 : Act} (hk : ∀ t, ¬ t ∈ wr → a.tmps[t]? = a1.tmps[t]?) (hs : a1.tmps.size = nt) : RelN P nt n0 w0 π0 (cutS wr s) a1 w := by
  obtain ⟨h4, β, τ, π, U, hU, R⟩ := R
  refine ⟨h4, β, τ, π, U, hU, { R with size := hs, slots := fun t v hv => ?_ }⟩
  obtain ⟨h1, h2⟩ := lk_cutL hv
  rw [← hk t h1]
  exact R.slots t v h2
theorem putPs_sound : ∀ {ps : List Nat} {xs : List AV} {s : S} {t : Array Value}, (∀ p ∈ ps, p < nt) → (∀ x ∈ xs, flatV x = true) → Rel P nt n0 w0 π0 U s { tmps := t, defers := [] } w β τ π →
    Rel P nt n0 w0 π0 U (putPs ps xs s) { tmps := (ps.zip (xs.map valA)).foldl (fun t p => t.setIfInBounds p.1 p.2) t, defers := [] } w β τ π
  | [], xs, s, t, _, _, R => by cases xs <;> exact R
  | p :: ps, [], s, t, _, _, R => R
  | p :: ps, x :: xs, s, t, hp, hx, R => by
    have R1 := R.put (some p) (v := .dat x none) (x := valA x) (fun q hq => by cases hq; exact hp p List.mem_cons_self) ⟨.flat (hx x List.mem_cons_self), fun t ht => by cases ht⟩ trivial
    exact putPs_sound (ps := ps) (xs := xs) (fun q hq => hp q (List.mem_cons_of_mem _ hq)) (fun y hy => hx y (List.mem_cons_of_mem _ hy)) R1
theorem putPs_nx : ∀ {ps : List Nat} {xs : List AV} {s : S}, (putPs ps xs s).nx = s.nx
  | [], xs, s => by cases xs <;> rfl
  | p :: ps, [], s => rfl
  | p :: ps, x :: xs, s => by rw [putPs, putPs_nx]; rfl
theorem foldl_set_other : ∀ {l : List (Nat × Value)} {t : Array Value} {k : Nat}, (∀ p ∈ l, p.1 ≠ k) → (l.foldl (fun t p => t.setIfInBounds p.1 p.2) t)[k]? = t[k]?
  | [], t, k, _ => rfl
  | p :: l, t, k, h => by
    rw [List.foldl_cons, foldl_set_other (fun q hq => h q (List.mem_cons_of_mem _ hq))]
    exact Array.getElem?_setIfInBounds_ne (h p List.mem_cons_self)
def Loop1 (r : Option Nat) (w : World) : Prop := ∀ l, r = some l → ∃ r₀, w.heap[l]? = some (.loop r₀)
def mkD (D : Nat) : Deferred := { target := .collected D, args := #[] }
def Marks (n0 : Fen) (a : Act) (w : World) : Prop := ∃ Ds : List Nat, a.defers = Ds.map mkD ∧ Ds.Nodup ∧ ∀ D ∈ Ds, n0.n ≤ D ∧ w.heap[D]? = some (.deferred (some []))
def RelT (P : Program) (nt : Nat) (n0 : Fen) (w0 : World) (π0 : Nat → Nat → Prop) (r : Option Nat) (T : Nat → Prop) (a0 : Array Value) (s : S) (a : Act) (w : World) : Prop :=
  RelN P nt n0 w0 π0 s a w ∧ Loop1 r w ∧ Marks n0 a w ∧ ∀ t, T t → a.tmps[t]? = a0[t]?
def Lift (P : Program) (nt : Nat) (n0 : Fen) (w0 : World) (π0 : Nat → Nat → Prop) (r : Option Nat) (T : Nat → Prop) (a0 : Array Value) (QA : Exit → S → Prop) (e : Exit) (a : Act) (w : World) : Prop := ∃ s, QA e s ∧ RelT P nt n0 w0 π0 r T a0 s a w
theorem RelN.down (R : RelN P nt n0 w0 π0 s a w) {F : S → Prop} (h : Eng.down F s) : ∃ s', F s' ∧ RelN P nt n0 w0 π0 s' a w := by
  obtain ⟨s1, ⟨hle, hF⟩ | hF⟩ := h
  · obtain ⟨_, β, τ, π, U, hU, R⟩ := R
    exact ⟨s1, hF, R.le hle⟩
  · exact ⟨s, hF, R⟩
def Pins (L : List (Nat × Obj)) (w : World) : Prop := ∀ p ∈ L, w.heap[p.1]? = some p.2
theorem Pins.others {L : List (Nat × Obj)} {w w' : World} (h : Pins L w) (hc : ∀ p ∈ L, p.2.isCells = false) (ho : ∀ (k : Nat) (o : Obj), w.heap[k]? = some o → o.isCells = false → w'.heap[k]? = some o) : Pins L w' :=
  fun p hp => ho _ _ (h p hp) (hc p hp)
theorem Pins.putObj {L : List (Nat × Obj)} {w : World} (h : Pins L w) {l : Nat} (hl : ∀ p ∈ L, p.1 ≠ l) (o : Obj) : Pins L (w.putObj l o) :=
  fun p hp => (World.putObj_heap_other (hl p hp)).trans (h p hp)
theorem below_others {w w' : World} (h : Below w.heap.size w w') (k : Nat) (o : Obj) (hk : w.heap[k]? = some o) : w'.heap[k]? = some o := (h.block k (Array.getElem?_eq_some_iff.1 hk).1).trans hk
theorem Loop1.others {r : Option Nat} {w w' : World} (h : Loop1 r w) (ho : ∀ (k : Nat) (o : Obj), w.heap[k]? = some o → o.isCells = false → w'.heap[k]? = some o) : Loop1 r w' :=
  fun l hl => let ⟨r₀, hr⟩ := h l hl; ⟨r₀, ho _ _ hr rfl⟩
theorem Marks.others {n0 : Fen} {a a' : Act} {w w' : World} (h : Marks n0 a w) (ha : a'.defers = a.defers) (ho : ∀ (k : Nat) (o : Obj), w.heap[k]? = some o → o.isCells = false → w'.heap[k]? = some o) : Marks n0 a' w' :=
  let ⟨Ds, h1, h2, h3⟩ := h; ⟨Ds, ha.trans h1, h2, fun D hD => ⟨(h3 D hD).1, ho _ _ (h3 D hD).2 rfl⟩⟩
theorem enter_any {P : Program} {r : Option Nat} {w : World} (hr : Loop1 r w) (fn : FuncId) (tmps : Array Value) (ps : Array Tmp) (as bd : Code) :
    ∃ (l : Nat) (Ds : List Nat) (W1 : World) (dd : Nat), (Instr.enterLoop fn tmps ps as bd r).run P w = .ok (l, Ds.map mkD) W1 ∧ w.heap.size ≤ l ∧
      W1.heap[l]? = some (.loop { state := .ready, pending := none, fn, tmps, params := ps, assign := as, body := bd, defers := dd }) ∧ Below w.heap.size w W1 ∧ Ds.Nodup ∧
      ∀ D ∈ Ds, w.heap.size ≤ D ∧ D ≠ l ∧ W1.heap[D]? = some (.deferred (some [])) := by
  cases r with
  | none =>
    refine ⟨w.heap.size + 1, [w.heap.size], _, w.heap.size, run_enterLoop_outer fn tmps ps as bd, by omega, ?_, ?_, by simp, ?_⟩
    · have := World.alloc_heap_new (w.alloc (.deferred (some []))) (.loop { state := .ready, pending := none, fn, tmps, params := ps, assign := as, body := bd, defers := w.heap.size })
      rwa [World.size_alloc] at this
    · exact (((Below.refl _ w).alloc (Nat.le_refl _) _).alloc (by simp) _)
    · intro D hD
      simp only [List.mem_singleton] at hD
      subst hD
      exact ⟨Nat.le_refl _, by omega, (Below.heap_alloc _ _ _ (by simp)).trans (World.alloc_heap_new w _)⟩
  | some l₀ =>
    obtain ⟨r₀, h⟩ := hr l₀ rfl
    exact ⟨w.heap.size, [], _, r₀.defers, run_enterLoop_inner h fn tmps ps as bd, Nat.le_refl _, World.alloc_heap_new w _, (Below.refl _ w).alloc (Nat.le_refl _) _, by simp, by simp⟩
theorem DV.fn_inv {π : Nat → Nat → Prop} {gf : Nat} {caps : List AV} {v : Value} (h : DV w π (.fn (.func gf) [] caps) v) : ∃ us : Array Value, v = .func (.func gf) #[] us ∧ DVs w π caps us.toList := by
  cases h with
  | fn f as vs bs us h1 h2 h3 h4 =>
    have : vs = #[] := by simpa using h1.symm
    subst this
    exact ⟨us, rfl, by simpa using h2, fun i a v ha hv => h4 i a v ha (by simpa using hv)⟩
section
variable {nt : Nat} {n0 : Fen} {π0 : Nat → Nat → Prop} {T : Nat → Prop} {a0 : Array Value} {r : Option Nat} {n : Nat} {QA : Exit → S → Prop}
theorem rfor_sound {g : Operand} {ps : Array Tmp} {as bd : Code} {g' : Opd} {ca cb : CCode} {wr : List Nat} (hg : cOpd g = some g') (hps : ∀ t ∈ ps.toList, t < nt ∧ t ∈ wr) (hwa : ∀ t ∈ ca.writes, t ∈ wr) (hwb : ∀ t ∈ cb.writes, t ∈ wr)
    (ihA : ∀ (π0 : Nat → Nat → Prop) (T : Nat → Prop) (a0 : Array Value), (∀ t, T t → ¬ t ∈ ca.writes) → ∀ (r : Option Nat) (n : Nat) (w0 : World) (QA : Exit → S → Prop) (s : S) (a : Act) (w : World), RelT P nt n0 w0 π0 r T a0 s a w → aw (Pure P) ca QA s → as.wpIn (FW r) n P (Lift P nt n0 w0 π0 r T a0 QA) a w)
    (ihB : ∀ (π0 : Nat → Nat → Prop) (T : Nat → Prop) (a0 : Array Value), (∀ t, T t → ¬ t ∈ cb.writes) → ∀ (r : Option Nat) (n : Nat) (w0 : World) (QA : Exit → S → Prop) (s : S) (a : Act) (w : World), RelT P nt n0 w0 π0 r T a0 s a w → aw (Pure P) cb QA s → bd.wpIn (FW r) n P (Lift P nt n0 w0 π0 r T a0 QA) a w)
    (R : RelT P nt n0 w0 π0 r T a0 s a w) (h : aw (Pure P) (.rfor g' ps.toList wr ca cb) QA s) : (Code.rangeFunc g ps as bd).wpIn (FW r) n P (Lift P nt n0 w0 π0 r T a0 QA) a w := by
  simp only [aw] at h
  obtain ⟨gv, hgv, xs, hit, hlen, F, hF0, hFg, hround, hdone⟩ := withV_inv h
  clear h
  obtain ⟨RN, RL, ⟨Ds1, hm1, hm2, hm3⟩, RK⟩ := R
  have hsize : a.tmps.size = nt := let ⟨_, _, _, _, _, _, R⟩ := RN; R.size
  obtain ⟨gf, caps, rfl, hcall, hflat, hiter⟩ := hit
  obtain ⟨s0, hs0, RN0⟩ := RN.down hF0
  obtain ⟨π1, us, hus, husd, hπ0, hπ1, hπl, RN1⟩ : ∃ (π1 : Nat → Nat → Prop) (us : Array Value), a.eval g = .func (.func gf) #[] us ∧ DVs w π1 caps us.toList ∧ (∀ b o, π0 b o → π1 b o) ∧ (∀ b o, π1 b o → π0 b o ∨ n0.n ≤ b) ∧ (∀ b o, π1 b o → b < w.heap.size) ∧ RelN P nt n0 w π1 s0 a w := by
    obtain ⟨h4, β, τ, π, U, hU, R⟩ := RN0
    obtain ⟨us, h1, h2⟩ := DV.fn_inv (R.opdA hg (hFg 0 s0 hs0))
    exact ⟨π, us, h1, h2, R.prot0, R.protOld, R.prot, h4, β, τ, π, U, hU, { R with below := .refl _ _, n0le := Nat.le_trans R.n0le R.below.size, kept := fun _ _ _ => rfl, prot0 := fun _ _ h => h, protOld := fun _ _ h => .inl h }⟩
  refine wpIn_rangeFunc ?_
  intro fn _
  obtain ⟨l, Ds0, W1, dd, hent, hl, hrec1, hb1, hnd0, hDs0⟩ := enter_any (P := P) RL fn a.tmps ps as bd
  obtain ⟨rec, hrec⟩ : ∃ rec : LoopState → Option Code → Loop, rec = fun st pe => { state := st, pending := pe, fn, tmps := a.tmps, params := ps, assign := as, body := bd, defers := dd } := ⟨_, rfl⟩
  have hrec1 : W1.heap[l]? = some (.loop (rec .ready none)) := by rw [hrec]; exact hrec1
  -- what lies pinned
  obtain ⟨L, hL⟩ : ∃ L : List (Nat × Obj), L = (Ds0 ++ Ds1).map (fun D => (D, Obj.deferred (some []))) ++ (match r with | some l₀ => (match w.heap[l₀]? with | some o => [(l₀, o)] | none => []) | none => []) := ⟨_, rfl⟩
  have hLc : ∀ p ∈ L, p.2.isCells = false := by
    intro p hp
    rw [hL, List.mem_append] at hp
    rcases hp with hp | hp
    · obtain ⟨D, _, rfl⟩ := List.mem_map.1 hp; rfl
    · cases r with
      | none => cases hp
      | some l₀ =>
        obtain ⟨r₀, hr⟩ := RL l₀ rfl
        simp only [hr, List.mem_singleton] at hp
        subst hp; rfl
  have hLl : ∀ p ∈ L, p.1 ≠ l := by
    intro p hp
    rw [hL, List.mem_append] at hp
    rcases hp with hp | hp
    · obtain ⟨D, hD, rfl⟩ := List.mem_map.1 hp
      rcases List.mem_append.1 hD with hD | hD
      · exact (hDs0 D hD).2.1
      · have := (Array.getElem?_eq_some_iff.1 (hm3 D hD).2).1
        simp only; omega
    · cases r with
      | none => cases hp
      | some l₀ =>
        obtain ⟨r₀, hr⟩ := RL l₀ rfl
        simp only [hr, List.mem_singleton] at hp
        subst hp
        have := (Array.getElem?_eq_some_iff.1 hr).1
        simp only; omega
  have hL1 : Pins L W1 := by
    intro p hp
    rw [hL, List.mem_append] at hp
    rcases hp with hp | hp
    · obtain ⟨D, hD, rfl⟩ := List.mem_map.1 hp
      rcases List.mem_append.1 hD with hD | hD
      · exact (hDs0 D hD).2.2
      · exact below_others hb1 _ _ (hm3 D hD).2
    · cases r with
      | none => cases hp
      | some l₀ =>
        obtain ⟨r₀, hr⟩ := RL l₀ rfl
        simp only [hr, List.mem_singleton] at hp
        subst hp
        exact below_others hb1 _ _ hr
  have hLloop : ∀ W, Pins L W → Loop1 r W := by
    intro W hW l₀ e
    subst e
    obtain ⟨r₀, hr⟩ := RL l₀ rfl
    exact ⟨r₀, hW (l₀, .loop r₀) (by rw [hL]; simp [hr])⟩
  have hLmarks : ∀ W, Pins L W → Marks n0 { a with defers := Ds0.map mkD ++ a.defers } W := by
    intro W hW
    refine ⟨Ds0 ++ Ds1, by simp [hm1], ?_, fun D hD => ⟨?_, hW (D, _) (by rw [hL]; exact List.mem_append_left _ (List.mem_map.2 ⟨D, hD, rfl⟩))⟩⟩
    · refine List.nodup_append.2 ⟨hnd0, hm2, fun x hx y hy e => ?_⟩
      subst e
      have h1 := (hDs0 x hx).1
      have h2 := (Array.getElem?_eq_some_iff.1 (hm3 x hy).2).1
      omega
    · rcases List.mem_append.1 hD with hD | hD
      · exact Nat.le_trans (Nat.le_trans RN.n0le RN.below.size) (hDs0 D hD).1
      · exact (hm3 D hD).1
  have hl0 : w0.heap.size ≤ l := Nat.le_trans RN.below.size hl
  have hln : n0.n ≤ l := Nat.le_trans RN.n0le hl0
  have home : ∀ (s' : S) (W2 : World), RelN P nt n0 w π1 s' a W2 → ∀ {o : Loop}, W2.heap[l]? = some (.loop o) → ∀ (o' : Loop), RelN P nt n0 w0 π0 s' a (W2.putObj l (.loop o')) := by
    intro s' W2 R' o ho o'
    refine (R'.putObj ho rfl rfl).back hπ0 hπ1 ((RN.below.trans R'.below).putObj hl0 hln _) RN.n0le fun b x hb => ?_
    rw [cell_putObj ho rfl rfl, R'.kept b x (hπ0 b x hb)]
    exact RN.kept b x hb
  refine ⟨l, Ds0.map mkD, W1, { target := .fn (.func gf) us, args := #[.func (.yield l) #[] #[]] }, W1, gf, #[.func (.yield l) #[] #[]] ++ us, W1, hent, ?_, fun _ _ => trivial, ?_, fun h => by simp [FW, Fence.wide] at h, ?_⟩
  · simp only [resolve, hus]; simp [go_sem]
  · simp [invoke, go_sem, callFunc_run hcall]
  refine callsIn_FW.2 ?_
  have := hiter l
    (fun i W => (∃ s', F i s' ∧ RelN P nt n0 w π1 s' a W) ∧ Pins L W ∧ W.heap[l]? = some (.loop (rec .ready none)))
    (fun W => ∃ c s', ((c = .ret ∧ QA .ret s') ∨ ∃ id, c = .exit id ∧ QA (.exit id) s') ∧ RelN P nt n0 w π1 s' a W ∧ Pins L W ∧ W.heap[l]? = some (.loop (rec .done (some c))))
    W1 π1 us.toList (fun b o h => Nat.lt_of_lt_of_le (hπl b o h) hb1.size) (husd.mono (fun _ _ h => h) (fun b o h => Below.cellOld hb1 (hπl b o h))) ?_ ?_ ?_ ?_ ⟨⟨s0, hs0, RN1.old hb1⟩, hL1, hrec1⟩
  · refine (by simpa using this : Calls P gf (#[.func (.yield l) #[] #[]] ++ us) W1 _).mono ?_
    rintro e W2 ⟨⟨v, rfl⟩, ⟨⟨s', hs', R'⟩, hp, hr⟩ | ⟨c, s', hq, R', hp, hr⟩⟩
    · refine ⟨none, _, by have := run_endLoop (P := P) hr (by rw [hrec]; simp); rw [hrec] at this; exact this, s', hdone s' hs', ?_⟩
      have hp2 := hp.putObj hLl (.loop { rec .ready none with state := .exhausted })
      rw [hrec] at hp2
      exact ⟨(home _ _ R' hr _).acts rfl, hLloop _ hp2, hLmarks _ hp2, RK⟩
    · refine ⟨some c, _, by have := run_endLoop (P := P) hr (by rw [hrec]; simp); rw [hrec] at this; exact this, ?_⟩
      have hp2 := hp.putObj hLl (.loop { rec .done (some c) with state := .exhausted })
      rw [hrec] at hp2
      have RT : RelT P nt n0 w0 π0 r T a0 s' { a with defers := Ds0.map mkD ++ a.defers } (W2.putObj l (.loop { rec .done (some c) with state := .exhausted })) := by
        rw [hrec]
        exact ⟨(home _ _ R' hr _).acts rfl, hLloop _ hp2, hLmarks _ hp2, RK⟩
      rw [hrec] at RT
      rcases hq with ⟨rfl, hq⟩ | ⟨id, rfl, hq⟩
      · exact wpIn_ret ⟨s', hq, RT⟩
      · exact wpIn_exit ⟨s', hq, RT⟩
  · rintro i W ⟨⟨s', hs', R'⟩, _, _⟩ b o hb
    rw [R'.kept b o hb]
    exact (Below.cellOld hb1 (hπl b o hb)).symm
  · rintro i W W' ⟨⟨s', hs', R'⟩, hp, hr⟩ hb
    exact ⟨⟨s', hs', R'.old hb⟩, hp.others hLc (fun k o hk _ => below_others hb k o hk), below_others hb _ _ hr⟩
  · rintro W W' ⟨c, s', hq, R', hp, hr⟩ hb
    exact ⟨c, s', hq, R'.old hb, hp.others hLc (fun k o hk _ => below_others hb k o hk), below_others hb _ _ hr⟩
  · rintro m i x W hx ⟨⟨s', hs', R'⟩, hp, hr⟩
    have hxl := hlen x (List.mem_of_getElem? hx)
    have hy := run_yield (P := P) (args := (x.map valA).toArray) hr (by rw [hrec]; simpa using hxl)
    rw [hrec] at hy
    refine ⟨fn, _, as, bd, hy, roundIn_of_wpIn trivial ?_⟩
    have etm : (ps.zip (x.map valA).toArray).foldl (fun tmps p => tmps.setIfInBounds p.1 p.2) a.tmps = (ps.toList.zip (x.map valA)).foldl (fun t p => t.setIfInBounds p.1 p.2) a.tmps := by
      rw [← Array.foldl_toList]; simp [Array.toList_zip]
    have RP : RelN P nt n0 W π1 (putPs ps.toList x s') { tmps := (ps.toList.zip (x.map valA)).foldl (fun t p => t.setIfInBounds p.1 p.2) a.tmps, defers := [] } W := by
      obtain ⟨h4, β, τ, π, U, hU, R2⟩ := (R'.acts (a' := { tmps := a.tmps, defers := [] }) rfl).reb
      refine ⟨by rw [putPs_nx]; exact h4, β, τ, π, U, fun k hk => by rw [putPs_nx]; exact hU k hk, ?_⟩
      exact putPs_sound (fun p hp => (hps p hp).1) (hflat x (List.mem_of_getElem? hx)) R2
    have hkeep : ∀ t, ¬ t ∈ wr → ((ps.toList.zip (x.map valA)).foldl (fun t p => t.setIfInBounds p.1 p.2) a.tmps)[t]? = a.tmps[t]? :=
      fun t ht => foldl_set_other (fun p hp e => ht (e ▸ (hps p.1 (List.of_mem_zip hp).1).2))
    have hA := ihA π1 (fun t => ¬ t ∈ wr) a.tmps (fun t ht hw => ht (hwa t hw)) (some l) m W _ _ _ _ ⟨RP, fun l' e => by cases e; exact ⟨_, hr⟩, ⟨[], rfl, .nil, by simp⟩, hkeep⟩ (hround i x s' hx hs')
    have hA : as.wpIn (Fence.wide.inRound l) m P (Lift P nt n0 W π1 (some l) (fun t => ¬ t ∈ wr) a.tmps (onlyN (aw (Pure P) cb (rfQ wr (F (i + 1)) QA)))) { tmps := (ps.zip (x.map valA).toArray).foldl (fun tmps p => tmps.setIfInBounds p.1 p.2) a.tmps, defers := [] } W := by rw [etm]; exact hA
    refine wpIn_mono hA ?_
    rintro e a₁ w₁ ⟨s1, hq1, RN2, _, hmk1, hk1⟩
    cases e <;> try exact hq1.elim
    have hr1 := RN2.below.others _ _ hr rfl
    have hp1 := hp.others hLc RN2.below.others
    refine ⟨_, run_beginRound hr1 (by rw [hrec]), ?_⟩
    have hlt1 := (Array.getElem?_eq_some_iff.1 hr1).1
    have hr2 : (w₁.putObj l (.loop { rec .ready none with state := .busy })).heap[l]? = some (.loop { rec .ready none with state := .busy }) := World.putObj_heap_same hlt1
    have hp2 := hp1.putObj hLl (.loop { rec .ready none with state := .busy })
    have RN4 := RN2.putObj hr1 rfl (o' := .loop { rec .ready none with state := .busy }) rfl
    have hmk2 : Marks n0 a₁ (w₁.putObj l (.loop { rec .ready none with state := .busy })) := by
      obtain ⟨Ds, h1, h2, h3⟩ := hmk1
      refine ⟨Ds, h1, h2, fun D hD => ⟨(h3 D hD).1, (World.putObj_heap_other (fun e => ?_)).trans (h3 D hD).2⟩⟩
      subst e
      have := (h3 D hD).2
      rw [hr1] at this; cases this
    have hbl2 : Blw n0 w (w₁.putObj l (.loop { rec .ready none with state := .busy })) := (R'.below.trans RN2.below).putObj hl hln _
    have hB := ihB π1 (fun t => ¬ t ∈ wr) a.tmps (fun t ht hw => ht (hwb t hw)) (some l) m (w₁.putObj l (.loop { rec .ready none with state := .busy })) (rfQ wr (F (i + 1)) QA) s1 a₁ _ ⟨RN4, fun l' e => by cases e; exact ⟨_, hr2⟩, hmk2, hk1⟩ hq1
    refine wpIn_mono (show bd.wpIn (Fence.wide.inRound l) m P (Lift P nt n0 (w₁.putObj l (.loop { rec .ready none with state := .busy })) π1 (some l) (fun t => ¬ t ∈ wr) a.tmps (rfQ wr (F (i + 1)) QA)) a₁ _ from hB) ?_
    rintro e a3 W3 ⟨s3, hq3, RN3, _, _, hk3⟩
    have hr3 := RN3.below.others _ _ hr2 rfl
    have hp3 := hp2.others hLc RN3.below.others
    have hbl3 := hbl2.trans RN3.below
    have fin : ∀ (jump : Option Code), (Instr.endRound l jump).run P W3 = .ok (.bool jump.isNone) (W3.putObj l (.loop (rec (if jump.isNone then .ready else .done) jump))) ∧
        (W3.putObj l (.loop (rec (if jump.isNone then .ready else .done) jump))).heap[l]? = some (.loop (rec (if jump.isNone then .ready else .done) jump)) := fun jump => by
      have := run_endRound (P := P) jump hr3
      rw [hrec] at this ⊢
      exact ⟨this, World.putObj_heap_same (Array.getElem?_eq_some_iff.1 hr3).1⟩
    have back : ∀ (s4 : S), RelN P nt n0 (w₁.putObj l (.loop { rec .ready none with state := .busy })) π1 s4 a W3 → ∀ st pe, RelN P nt n0 w π1 s4 a (W3.putObj l (.loop (rec st pe))) := fun s4 R4 st pe =>
      (R4.putObj hr3 rfl rfl).rew (hbl3.putObj hl hln _) RN1.n0le fun b o hb => by
        rw [cell_putObj hr3 rfl rfl, R4.kept b o hb, cell_putObj hr1 rfl rfl, RN2.kept b o hb, R'.kept b o hb]
    cases e with
    | normal =>
      obtain ⟨s4, hs4, R4⟩ := (RN3.cut (wr := wr) (a1 := a) hk3 hsize).down hq3
      obtain ⟨f1, f2⟩ := fin none
      exact ⟨_, _, f1, .inl ⟨rfl, ⟨s4, hs4, back s4 R4 _ _⟩, hp3.putObj hLl _, f2⟩⟩
    | ret =>
      obtain ⟨f1, f2⟩ := fin (some .ret)
      exact ⟨_, _, f1, .inr ⟨rfl, .ret, _, .inl ⟨rfl, hq3⟩, back _ (RN3.cut (wr := wr) (a1 := a) hk3 hsize) _ _, hp3.putObj hLl _, f2⟩⟩
    | exit id =>
      obtain ⟨f1, f2⟩ := fin (some (.exit id))
      exact ⟨_, _, f1, .inr ⟨rfl, .exit id, _, .inr ⟨id, rfl, hq3⟩, back _ (RN3.cut (wr := wr) (a1 := a) hk3 hsize) _ _, hp3.putObj hLl _, f2⟩⟩
    | _ => exact hq3.elim
end
theorem RelT.sub {π0 : Nat → Nat → Prop} {r : Option Nat} {T : Nat → Prop} {a0 : Array Value} (R : RelT P nt n0 w0 π0 r T a0 s a w) {a' : Act} {w' : World} {s' : S} (hp : Puts T a a') (RN : RelN P nt n0 w π0 s' a' w') : RelT P nt n0 w0 π0 r T a0 s' a' w' :=
  ⟨RN.rew (R.1.below.trans RN.below) R.1.n0le (fun b o h => (RN.kept b o h).trans (R.1.kept b o h)), R.2.1.others RN.below.others, R.2.2.1.others hp.1 RN.below.others, fun t ht => (hp.2 t ht).trans (R.2.2.2 t ht)⟩
theorem RelT.down {π0 : Nat → Nat → Prop} {r : Option Nat} {T : Nat → Prop} {a0 : Array Value} (R : RelT P nt n0 w0 π0 r T a0 s a w) {F : S → Prop} (h : Eng.down F s) : ∃ s', F s' ∧ RelT P nt n0 w0 π0 r T a0 s' a w :=
  let ⟨s', h1, h2⟩ := R.1.down h; ⟨s', h1, h2, R.2⟩
theorem after_some : ∀ (c : Code) (cc : CCode), cCode P c = some cc → ∀ l, (findLabel c l).isSome = (cc.after l).isSome := by
  intro c
  induction c with
  | seq x y ihx ihy =>
    intro cc hc l
    simp only [cCode] at hc
    split at hc <;> try (cases hc; done)
    rename_i cx cy hcx hcy
    have hx := ihx cx hcx l
    have hy := ihy cy hcy l
    cases hc
    have key : (findLabel (.seq x y) l).isSome = (match cx.after l with | some r => some (CCode.join r cy) | none => cy.after l).isSome := by
      simp only [findLabel]
      cases h1 : findLabel x l <;> cases h2 : cx.after l <;> simp_all
    split <;> exact key
  | label l' => intro cc hc l; cases hc; simp only [findLabel, CCode.after]; split <;> rfl
  | skip => intro cc hc l; cases hc; rfl
  | region id ops draws =>
    intro cc hc l
    simp only [cCode] at hc
    split at hc <;> try (cases hc; done)
    split at hc
    · split at hc
      · split at hc <;> try (cases hc; done)
        cases hc; rfl
      · split at hc <;> try (cases hc; done)
        cases hc; rfl
    · cases hc; rfl
  | cond cd x y ihx ihy =>
    intro cc hc l
    simp only [cCode] at hc
    split at hc <;> try (cases hc; done)
    cases hc; rfl
  | block id c ih => intro cc hc l; simp only [cCode, Option.map_eq_some_iff] at hc; obtain ⟨c', hc', rfl⟩ := hc; rfl
  | loop c ih => intro cc hc l; simp only [cCode, Option.map_eq_some_iff] at hc; obtain ⟨c', hc', rfl⟩ := hc; rfl
  | exit id => intro cc hc l; cases hc; rfl
  | ret => intro cc hc l; cases hc; rfl
  | goto l' => intro cc hc l; cases hc; rfl
  | scope c ih =>
    intro cc hc l
    simp only [cCode] at hc
    split at hc <;> try (cases hc; done)
    split at hc <;> try (cases hc; done)
    simp only [Option.map_eq_some_iff] at hc
    obtain ⟨r, _, rfl⟩ := hc
    rfl
  | rangeFunc g ps as bd ihA ihB =>
    intro cc hc l
    simp only [cCode] at hc
    split at hc <;> try (cases hc; done)
    split at hc <;> try (cases hc; done)
    cases hc; rfl
  | _ => intro cc hc; cases hc
section
variable {F : Fence} {m : Nat} {Q : Exit → Act → World → Prop}
theorem stepR_scope {b : Frame} {k : List Item} {cs : List Frame} {c : Code} : step P (lone (b.atR a (.code (.scope c) :: k)) cs w) = .next (lone (b.atR a (.code c :: .inScope c :: k)) cs w) :=
  step_lone_go (by simp [stepG, stepG.exec, Frame.atR])
theorem stepR_inScope {b : Frame} {k : List Item} {cs : List Frame} {c : Code} : step P (lone (b.atR a (.inScope c :: k)) cs w) = .next (lone (b.atR a k) cs w) :=
  step_lone_go (by simp [stepG, stepG.exec, Frame.atR])
theorem wpIn_scope {c rest : Code} {l : Nat} (hf : findLabel c l = some rest) (G : Act → World → Prop)
    (h : c.wpIn F m P (fun e a w => match e with | .goto l' => l' = l ∧ G a w | e => Q e a w) a w)
    (hr : ∀ a w, G a w → rest.wpIn F m P (Exit.noGoto Q) a w) : (Code.scope c).wpIn F m P Q a w := by
  intro b k cs hro hb hroom
  have h0 : (lone (b.atR a (.code (.scope c) :: k)) cs w).fenced P F := fenced_calm hb hroom rfl
  have leave : ∀ {e : Exit} {a₁ : Act} {w₁ : World} {m1 : Machine}, StepsIn (Machine.fenced P F) P (lone (b.atR a (.code (.scope c) :: k)) cs w) m1 → (∀ l, e ≠ .goto l) → ArrivesIn (Machine.fenced P F) P m1 b (.inScope c :: k) cs e a₁ w₁ →
      ArrivesIn (Machine.fenced P F) P (lone (b.atR a (.code (.scope c) :: k)) cs w) b k cs e a₁ w₁ := by
    intro e a₁ w₁ m1 hs hne harr
    cases e with
    | normal => exact hs.trans (StepsIn.trans harr (.one (fenced_calm hb hroom rfl) stepR_inScope))
    | exit id => exact ⟨fun k' hk => hs.trans (harr.1 k' (by simpa [exitTo] using hk)), fun hr' hk => let ⟨k₁, h1, h2⟩ := harr.2 hr' (by simpa [exitTo] using hk); ⟨k₁, h1, hs.trans h2⟩⟩
    | goto l => exact absurd rfl (hne l)
    | ret => exact .of_steps hs harr
    | panic ch => exact .of_steps hs harr
    | outgrown => exact .of_steps hs harr
  have hstart : StepsIn (Machine.fenced P F) P (lone (b.atR a (.code (.scope c) :: k)) cs w) (lone (b.atR a (.code c :: .inScope c :: k)) cs w) := .one h0 stepR_scope
  obtain ⟨e, a₁, w₁, hq, harr⟩ := h b (.inScope c :: k) cs hro hb hroom
  have other : (∀ l, e ≠ .goto l) → Q e a₁ w₁ → ∃ e a' w', Q e a' w' ∧ ArrivesIn (Machine.fenced P F) P (lone (b.atR a (.code (.scope c) :: k)) cs w) b k cs e a' w' := fun hne hq => ⟨e, a₁, w₁, hq, leave hstart hne harr⟩
  cases e with
  | goto l' =>
    obtain ⟨rfl, hG⟩ := hq
    have hto := harr.1 (.code rest :: .inScope c :: k) (by simp [gotoIn, hf])
    obtain ⟨e2, a₂, w₂, hq2, harr2⟩ := hr a₁ w₁ hG b (.inScope c :: k) cs hro hb hroom
    have other2 : (∀ l, e2 ≠ .goto l) → Q e2 a₂ w₂ → ∃ e a' w', Q e a' w' ∧ ArrivesIn (Machine.fenced P F) P (lone (b.atR a (.code (.scope c) :: k)) cs w) b k cs e a' w' := fun hne hq => ⟨e2, a₂, w₂, hq, leave (hstart.trans hto) hne harr2⟩
    cases e2 with
    | goto l2 => exact hq2.elim
    | _ => exact other2 (fun l h => by cases h) hq2
  | _ => exact other (fun l h => by cases h) hq
end
def Sound (P : Program) (nt : Nat) (n0 : Fen) (c : Code) (cc : CCode) : Prop :=
  cc.fits nt = true → ∀ (π0 : Nat → Nat → Prop) (T : Nat → Prop) (a0 : Array Value), (∀ t, T t → ¬ t ∈ cc.writes) → ∀ (r : Option Nat) (n : Nat) (w0 : World) (QA : Exit → S → Prop) (s : S) (a : Act) (w : World),
    RelT P nt n0 w0 π0 r T a0 s a w → aw (Pure P) cc QA s → c.wpIn (FW r) n P (Lift P nt n0 w0 π0 r T a0 QA) a w
theorem join_sound {x y : Code} {cx cy : CCode} (hx : Sound P nt n0 x cx) (hy : Sound P nt n0 y cy) : Sound P nt n0 (.seq x y) (.join cx cy) := by
  intro hf π0 T a0 hT r n w0 QA s a w R h
  have nn : ∀ (e : Exit) (G : S → Prop) (s' : S) (a' : Act) (w' : World), e ≠ .normal → athen G QA e s' → RelT P nt n0 w0 π0 r T a0 s' a' w' → Exit.then (y.wpIn (FW r) n P (Lift P nt n0 w0 π0 r T a0 QA)) (Lift P nt n0 w0 π0 r T a0 QA) e a' w' := by
    intro e G s' a' w' hne hq R'
    cases e with
    | normal => exact absurd rfl hne
    | _ => exact ⟨s', hq, R'⟩
  simp only [CCode.fits, Bool.and_eq_true] at hf
  simp only [CCode.writes, List.mem_append, not_or] at hT
  refine wpIn_seq (wpIn_mono (hx hf.1 π0 T a0 (fun t ht => (hT t ht).1) r n w0 _ s a w R h) ?_)
  rintro e a' w' ⟨s', hq, R'⟩
  cases e with
  | normal =>
    obtain ⟨s2, hF, R2⟩ := R'.down hq
    exact hy hf.2 π0 T a0 (fun t ht => (hT t ht).2) r n w0 QA s2 a' w' R2 hF
  | _ => exact nn _ _ s' a' w' (by simp) hq R'
theorem seq_sound {x y : Code} {cx cy : CCode} (hx : Sound P nt n0 x cx) (hy : Sound P nt n0 y cy) : Sound P nt n0 (.seq x y) (.seq cx cy) := by
  intro hf π0 T a0 hT r n w0 QA s a w R h
  simp only [CCode.fits, Bool.and_eq_true] at hf
  simp only [CCode.writes, List.mem_append, not_or] at hT
  refine wpIn_seq (wpIn_mono (hx hf.1 π0 T a0 (fun t ht => (hT t ht).1) r n w0 _ s a w R h) ?_)
  rintro e a' w' ⟨s', hq, R'⟩
  cases e with
  | normal => exact hy hf.2 π0 T a0 (fun t ht => (hT t ht).2) r n w0 QA s' a' w' R' hq
  | _ => exact ⟨s', hq, R'⟩
theorem aw_sound' (hm : P.follows .mixedOrders = true) : ∀ (c : Code), (∀ cc, cCode P c = some cc → Sound P nt n0 c cc) ∧ ∀ l rest cc ccr, findLabel c l = some rest → cCode P c = some cc → cc.after l = some ccr → Sound P nt n0 rest ccr := by
  intro c
  induction c with
  | skip =>
    refine ⟨?_, fun l rest cc ccr h => by cases h⟩
    intro cc hc _ π0 T a0 _ r n w0 QA s a w R h; cases hc; exact wpIn_skip ⟨s, h, R⟩
  | region id ops draws =>
    refine ⟨?_, fun l rest cc ccr h => by cases h⟩
    intro cc hc hf π0 T a0 hT r n w0 QA s a w R h
    obtain ⟨h4, β, τ, π, U, hU, R0⟩ := R.1
    simp only [cCode] at hc
    split at hc <;> try (cases hc; done)
    rename_i cos hcos
    have fin : ∀ (ro : List Nat) (s1 : S) (π1 : Nat → Nat → Prop), Rel P nt n0 w0 π0 U s1 a w β τ π1 → s1.nx = s.nx → (draws = true → ∃ bad T, drawOk bad ops.toList cos = true ∧ badOk T (roL ro 0 cos) bad = true ∧ stepsOk T s1.nx 0 (roL ro 0 cos) = true ∧ Rooted T s1) → dstFits nt cos = true → (∀ t, T t → ¬ t ∈ dstsOf cos) →
        aops (Pure P) s1.nx 0 (roL ro 0 cos) (fun s' => QA .normal { s' with nx := s.nx + cos.length }) s1 → (Code.region id ops draws).wpIn (FW r) n P (Lift P nt n0 w0 π0 r T a0 QA) a w := by
      intro ro s1 π1 R1 hnx hd hf hT h
      refine region_sound (w0 := w) hm hcos ro hd hf R1.reb (by rw [hnx]; exact hU) h (T := T) (fun d hd ht => hT d ht hd) ?_
      intro s' a' w' β' τ' π' U' hU' hK hp R'
      rw [hnx] at hU'
      exact ⟨_, hK, R.sub hp ⟨by show 4 ≤ s.nx + _; omega, β', τ', π', U', hU', R'.nx _⟩⟩
    split at hc
    · split at hc
      · split at hc <;> try (cases hc; done)
        rename_i hok
        cases hc
        exact fin [] s π R0 rfl (fun _ => ⟨[], [], hok, rfl, stepsOk_nil, fun _ _ _ _ => rfl⟩) hf hT (by rw [roL_nil]; exact h)
      · split at hc <;> try (cases hc; done)
        rename_i hok
        cases hc
        rw [Bool.and_eq_true] at hok
        obtain ⟨ids, hids, h⟩ := h
        obtain ⟨css, hcss, ro, hdyn, h⟩ := withV_inv h
        rw [Bool.and_eq_true] at hids
        obtain ⟨π1, _, R1, _⟩ := R0.freezes (nodupB_spec hids.1) hids.2 hcss
        simp only [dynOk, dynT, Bool.and_eq_true] at hdyn
        exact fin ro _ π1 R1 frzs_nx (fun _ => ⟨_, _, hok.1, hdyn.2, hdyn.1.2, fun t b off hl => entryOk_spec hdyn.1.1 t b off hl⟩) hf hT h
    · rename_i hdr
      cases hc
      exact fin [] s π R0 rfl (fun e => absurd e hdr) hf hT (by rw [roL_nil]; exact h)
  | seq x y ihx ihy =>
    refine ⟨?_, ?_⟩
    · intro cc hc
      simp only [cCode] at hc
      split at hc <;> try (cases hc; done)
      rename_i cx cy hcx hcy
      cases hc
      split
      · exact seq_sound (ihx.1 cx hcx) (ihy.1 cy hcy)
      · exact join_sound (ihx.1 cx hcx) (ihy.1 cy hcy)
    · intro l rest cc ccr hf hc ha
      simp only [cCode] at hc
      split at hc <;> try (cases hc; done)
      rename_i cx cy hcx hcy
      cases hc
      have ha' : (match cx.after l with | some r => some (CCode.join r cy) | none => cy.after l) = some ccr := by
        split at ha <;> exact ha
      have hs := after_some x cx hcx l
      simp only [findLabel] at hf
      split at hf
      · rename_i rx hrx
        cases hf
        rw [hrx] at hs
        cases hax : cx.after l with
        | none => rw [hax] at hs; cases hs
        | some cr =>
          rw [hax] at ha'
          cases ha'
          exact join_sound (ihx.2 l rx cx cr hrx hcx hax) (ihy.1 cy hcy)
      · rename_i hrx
        rw [hrx] at hs
        cases hax : cx.after l with
        | some cr => rw [hax] at hs; cases hs
        | none =>
          rw [hax] at ha'
          exact ihy.2 l rest cy ccr hf hcy ha'
  | cond cd x y ihx ihy =>
    refine ⟨?_, fun l rest cc ccr h => by cases h⟩
    intro cc hc hf π0 T a0 hT r n w0 QA s a w R h
    simp only [cCode] at hc
    split at hc <;> try (cases hc; done)
    rename_i c' cx cy hcc hcx hcy
    cases hc
    simp only [CCode.fits, Bool.and_eq_true] at hf
    simp only [CCode.writes, List.mem_append, not_or] at hT
    simp only [aw] at h
    obtain ⟨v, hv, h⟩ := withV_inv h
    obtain ⟨β, τ, π, U, hU, R0⟩ := R.1.2
    have hd := R0.opdA hcc hv
    cases v <;> try (exact h.elim)
    rename_i t
    exact wpIn_cond_split hd.bool_inv (fun e => ihx.1 cx hcx hf.1 π0 T a0 (fun t ht => (hT t ht).1) r n w0 QA s a w R (h.1 e)) (fun e => ihy.1 cy hcy hf.2 π0 T a0 (fun t ht => (hT t ht).2) r n w0 QA s a w R (h.2 e))
  | block id c ih =>
    refine ⟨?_, fun l rest cc ccr h => by cases h⟩
    intro cc hc hf π0 T a0 hT r n w0 QA s a w R h
    simp only [cCode, Option.map_eq_some_iff] at hc
    obtain ⟨c', hc', rfl⟩ := hc
    refine wpIn_block (wpIn_mono (ih.1 c' hc' hf π0 T a0 hT r n w0 _ s a w R h) ?_)
    rintro e a' w' ⟨s', hq, R'⟩
    cases e with
    | exit id' =>
      simp only [ablock] at hq
      simp only [Exit.inBlock]
      by_cases hid : id' = id
      · rw [if_pos hid] at hq ⊢; exact ⟨s', hq, R'⟩
      · rw [if_neg hid] at hq ⊢; exact ⟨s', hq, R'⟩
    | _ => exact ⟨s', hq, R'⟩
  | loop c ih =>
    refine ⟨?_, fun l rest cc ccr h => by cases h⟩
    intro cc hc hf π0 T a0 hT r n w0 QA s a w R h
    simp only [cCode, Option.map_eq_some_iff] at hc
    obtain ⟨c', hc', rfl⟩ := hc
    obtain ⟨s0, ⟨m, hn⟩, R0⟩ := R.down h
    refine wpIn_loop_rounds m ?_
    have key : ∀ (m : Nat) (s : S) (a : Act) (w : World), RelT P nt n0 w0 π0 r T a0 s a w → ARounds (aw (Pure P) c') QA m s → Code.roundsIn (FW r) n P c (Lift P nt n0 w0 π0 r T a0 QA) m a w := by
      intro m
      induction m with
      | zero => intro s a w _ h; exact h.elim
      | succ m ihn =>
        intro s a w R h
        rw [roundsIn_succ]
        refine wpIn_mono (ih.1 c' hc' hf π0 T a0 hT r n w0 _ s a w R h) ?_
        rintro e a' w' ⟨s', hq, R'⟩
        cases e with
        | normal =>
          obtain ⟨s2, hF, R2⟩ := R'.down hq
          exact ihn s2 a' w' R2 hF
        | _ => exact ⟨s', hq, R'⟩
    exact key m s0 a w R0 hn
  | exit id =>
    refine ⟨?_, fun l rest cc ccr h => by cases h⟩
    intro cc hc _ π0 T a0 _ r n w0 QA s a w R h; cases hc; exact wpIn_exit ⟨s, h, R⟩
  | ret =>
    refine ⟨?_, fun l rest cc ccr h => by cases h⟩
    intro cc hc _ π0 T a0 _ r n w0 QA s a w R h; cases hc; exact wpIn_ret ⟨s, h, R⟩
  | rangeFunc g ps as bd ihA ihB =>
    refine ⟨?_, fun l rest cc ccr h => by cases h⟩
    intro cc hc hf π0 T a0 hT r n w0 QA s a w R h
    simp only [cCode] at hc
    split at hc <;> try (cases hc; done)
    rename_i g' ca cb hg hca hcb
    split at hc <;> try (cases hc; done)
    cases hc
    simp only [CCode.fits, Bool.and_eq_true, List.all_eq_true, decide_eq_true_eq] at hf
    obtain ⟨⟨⟨⟨⟨f1, f2⟩, f3⟩, f4⟩, f5⟩, f6⟩ := hf
    exact rfor_sound hg (fun t ht => ⟨f1 t ht, by simpa using f4 t ht⟩) (fun t ht => by simpa using f5 t ht) (fun t ht => by simpa using f6 t ht) (ihA.1 ca hca f2) (ihB.1 cb hcb f3) R h
  | label l' =>
    refine ⟨?_, ?_⟩
    · intro cc hc _ π0 T a0 _ r n w0 QA s a w R h; cases hc; exact wpIn_label ⟨s, h, R⟩
    · intro l rest cc ccr hf hc ha
      cases hc
      simp only [findLabel] at hf
      split at hf <;> try (cases hf; done)
      rename_i he
      cases hf
      simp only [CCode.after, he, if_true, Option.some.injEq] at ha
      subst ha
      intro _ π0 T a0 _ r n w0 QA s a w R h
      exact wpIn_skip ⟨s, h, R⟩
  | goto l' =>
    refine ⟨?_, fun l rest cc ccr h => by cases h⟩
    intro cc hc _ π0 T a0 _ r n w0 QA s a w R h; cases hc; exact wpIn_goto ⟨s, h, R⟩
  | scope c ih =>
    refine ⟨?_, fun l rest cc ccr h => by cases h⟩
    intro cc hc hf π0 T a0 hT r n w0 QA s a w R h
    simp only [cCode] at hc
    split at hc <;> try (cases hc; done)
    rename_i c' hc'
    split at hc <;> try (cases hc; done)
    rename_i l hl
    simp only [Option.map_eq_some_iff] at hc
    obtain ⟨cr, hcr, rfl⟩ := hc
    simp only [CCode.fits, Bool.and_eq_true] at hf
    simp only [CCode.writes, List.mem_append, not_or] at hT
    have hs := after_some c c' hc' l
    rw [hcr] at hs
    cases hfl : findLabel c l with
    | none => rw [hfl] at hs; cases hs
    | some rest =>
      refine wpIn_scope hfl (Lift P nt n0 w0 π0 r T a0 (fun _ => aw (Pure P) cr (noGo QA)) .normal) (wpIn_mono (ih.1 c' hc' hf.1 π0 T a0 (fun t ht => (hT t ht).1) r n w0 _ s a w R h) ?_) ?_
      · rintro e a' w' ⟨s', hq, R'⟩
        cases e with
        | goto l' => exact ⟨hq.1, s', hq.2, R'⟩
        | _ => exact ⟨s', hq, R'⟩
      · rintro a' w' ⟨s', hq, R'⟩
        refine wpIn_mono (ih.2 l rest c' cr hfl hc' hcr hf.2 π0 T a0 (fun t ht => (hT t ht).2) r n w0 _ s' a' w' R' hq) ?_
        rintro e a2 w2 ⟨s2, hq2, R2⟩
        cases e with
        | goto l' => exact hq2.elim
        | _ => exact ⟨s2, hq2, R2⟩
  | _ => exact ⟨fun cc hc => (by cases hc), fun l rest cc ccr h => (by cases h)⟩
theorem aw_sound (hm : P.follows .mixedOrders = true) : ∀ (c : Code) (cc : CCode), cCode P c = some cc → cc.fits nt = true → ∀ (π0 : Nat → Nat → Prop) (T : Nat → Prop) (a0 : Array Value), (∀ t, T t → ¬ t ∈ cc.writes) → ∀ (r : Option Nat) (n : Nat) (w0 : World) (QA : Exit → S → Prop) (s : S) (a : Act) (w : World),
    RelT P nt n0 w0 π0 r T a0 s a w → aw (Pure P) cc QA s → c.wpIn (FW r) n P (Lift P nt n0 w0 π0 r T a0 QA) a w := fun c cc hc => (aw_sound' hm c).1 cc hc
end
end Go.Eng
