/- ENGINE, PART 11: composite slices, append, cuts of slices. -/
import Derived.Test.YtmdlpepjodcjeaaEng10
namespace Go.Eng
set_option linter.unusedSimpArgs false
set_option linter.unnecessarySimpa false
open Go
open Go.RowKit (Below)
set_option linter.unusedVariables false

section
variable {P : Program} {nt : Nat} {n0 : Fen} {w0 : World} {π0 : Nat → Nat → Prop} {U : Nat → Prop} {s : S} {a : Act} {w : World} {β : Nat → Nat} {τ : Nat → Value} {π : Nat → Nat → Prop}

theorem Rel.fillRows (R : Rel P nt n0 w0 π0 U s a w β τ π) (z : Nat) : ∀ (Xs : List (Nat × Operand)) (xs : List Opd) (rows : List (List AV)) (k : Nat) (pre tail : List AV) (us : Array Value),
    Xs.map (·.1) = (List.range Xs.length).map (· + k) → Xs.mapM (fun p => cOpd p.2) = some xs → rowsA s z xs = some rows → DVs w π (pre ++ tail) us.toList → (∀ c ∈ pre ++ tail, c.scalar = true) → pre.length = k * z → tail.length = Xs.length * z →
    ∃ us', Instr.fill (fun i => some (i * z, z)) us (Xs.map fun p => (p.1, a.eval p.2)) = some us' ∧ DVs w π (pre ++ rows.flatten) us'.toList ∧ (∀ c ∈ pre ++ rows.flatten, c.scalar = true) ∧ rows.length = Xs.length ∧ ∀ r ∈ rows, r.length = z
  | [], xs, rows, k, pre, tail, us, h1, h2, h3, hd, hs, hp, ht => by
    simp at h2; subst h2
    simp [rowsA] at h3; subst h3
    have : tail = [] := List.eq_nil_of_length_eq_zero (by simpa using ht)
    subst this
    exact ⟨us, rfl, by simpa using hd, by simpa using hs, rfl, by simp⟩
  | (i, X) :: Xs, xs, rows, k, pre, tail, us, h1, h2, h3, hd, hs, hp, ht => by
    simp only [List.mapM_cons, Option.bind_eq_bind, Option.bind_eq_some_iff, Option.pure_def, Option.some.injEq] at h2
    obtain ⟨x, hx, xs', hxs, rfl⟩ := h2
    simp only [rowsA] at h3
    split at h3
    · rename_i av rows' hav hrows
      split at h3
      · rename_i hz
        obtain ⟨hz, hok⟩ := hz
        cases h3
        have hi : i = k := by
          have := congrArg (fun l => l[0]?) h1
          simpa using this
        subst hi
        have h1' : Xs.map (·.1) = (List.range Xs.length).map (· + (i + 1)) := by
          have h1t := congrArg List.tail h1
          simp only [List.map_cons, List.tail_cons, List.length_cons, List.range_succ_eq_map, List.map_map] at h1t
          rw [h1t]
          apply List.map_congr_left
          intro q _
          simp; omega
        have hdv := R.opdA hx hav
        obtain ⟨hcs, hsc⟩ := hdv.cells (fun vs e => by subst e; simp [stOk] at hok)
        have hsz : (a.eval X).cells.size = z := by have := hcs.1; simp at this; omega
        have husz : us.size = pre.length + tail.length := by have := hd.1; simp at this; omega
        have htl : tail.length = Xs.length * z + z := by rw [ht]; simp [Nat.add_mul]
        obtain ⟨us1, he, hl1, hs1⟩ := fill_cons (place := fun i => some (i * z, z)) (cells := us) (i := i) (off := i * z) (v := a.eval X) (rest := Xs.map fun p => (p.1, a.eval p.2)) (by rw [hsz]) (by omega)
        have hsp := hd.splice hcs (off := i * z) (by simp; omega)
        have heq : (pre ++ tail).take (i * z) ++ av.cells ++ (pre ++ tail).drop (i * z + av.cells.length) = (pre ++ av.cells) ++ tail.drop z := by
          rw [← hp, List.take_left, hz, List.drop_append, List.drop_eq_nil_of_le (by omega)]
          simp
        rw [heq] at hsp
        have hsall : ∀ c ∈ (pre ++ av.cells) ++ tail.drop z, c.scalar = true := by
          intro c hc
          simp only [List.mem_append] at hc
          rcases hc with (hc | hc) | hc
          · exact hs c (by simp [hc])
          · exact hsc c hc
          · exact hs c (by simp [List.mem_of_mem_drop hc])
        obtain ⟨us', hf, hd', hs', hlen, hrl⟩ := R.fillRows z Xs xs' rows' (i + 1) (pre ++ av.cells) (tail.drop z) us1 h1' hxs hrows (by rw [hl1]; exact hsp) hsall (by simp [hp, hz, Nat.add_mul]) (by simp; omega)
        refine ⟨us', by rw [List.map_cons, he]; exact hf, by simpa [List.append_assoc] using hd', by simpa [List.append_assoc] using hs', by simp [hlen], ?_⟩
        intro r hr
        rcases List.mem_cons.1 hr with rfl | hr
        · exact hz
        · exact hrl r hr
      · cases h3
    · cases h3

theorem Rel.buildSlice (R : Rel P nt n0 w0 π0 U s a w β τ π) {t e : TypeId} {n z : Nat} {Xs : Array (Nat × Operand)} {zs : List AV} {xs : List Opd} (ht : P.underlying t = some (.slice e)) (hzv : zeroOf P e = some zs) (hz : szOf P e = some z)
    (hxs : Xs.toList.mapM (fun p => cOpd p.2) = some xs) (hok : (n * z ≤ 16777216 && 0 < z && zs.length == z && Xs.toList.map (·.1) == List.range n) = true) {id : Nat} (hid : ¬ U id) {K : SV → S → Prop} (h : aop (Pure P) id (.bsl e z xs) K s) :
    ∃ v y s' w' τ' π', (Instr.buildSlice t n (Xs.map fun (i, x) => (i, a.eval x))).run P w = .ok y w' ∧ RV β τ' w' π' v y ∧ v.inU (also U id) ∧ K v s' ∧ Rel P nt n0 w0 π0 (also U id) s' a w' β τ' π' := by
  simp only [aop] at h
  obtain ⟨rows, hrows, hK⟩ := withV_inv h
  simp only [Bool.and_eq_true, decide_eq_true_eq, beq_iff_eq] at hok
  obtain ⟨⟨⟨hn, hz0⟩, hzl⟩, hidx⟩ := hok
  obtain ⟨zv, hzr, hzd, hzsc⟩ := zero_run (P := P) (w := w) (π := π) hzv
  have hXl : Xs.toList.length = n := by have := congrArg List.length hidx; simpa using this
  have hzsz : zv.cells.size = z := by have := hzd.1; simp at this; omega
  -- the row of zeros that is filled
  have hinit : DVs w π ([] ++ (List.range (n * z)).map fun i => zs.getD (i % z) default) ((Array.range (n * z)).map (zv.cells[· % zv.cells.size]!)).toList := by
    refine ⟨by simp, fun i c u hc hu => ?_⟩
    simp only [List.nil_append, List.getElem?_map, Array.toList_map, Array.toList_range] at hc hu
    by_cases hi : i < n * z
    · have hm : i % z < z := Nat.mod_lt _ hz0
      rw [List.getElem?_range hi] at hc hu
      simp only [Option.map_some, Option.some.injEq] at hc hu
      subst hc; subst hu
      have h1 : zs[i % z]? = some (zs.getD (i % z) default) := by
        rw [List.getD_eq_getElem?_getD, List.getElem?_eq_getElem (by omega)]; simp
      have h2 : zv.cells.toList[i % z]? = some (zv.cells[i % zv.cells.size]!) := by
        rw [hzsz]
        have : i % z < zv.cells.size := by omega
        simp [this]
      exact hzd.2 _ _ _ h1 h2
    · rw [List.getElem?_eq_none (by simp; omega)] at hc
      simp at hc
  have hinits : ∀ c ∈ ([] : List AV) ++ (List.range (n * z)).map fun i => zs.getD (i % z) default, c.scalar = true := by
    intro c hc
    simp only [List.nil_append, List.mem_map, List.mem_range] at hc
    obtain ⟨i, hi, rfl⟩ := hc
    have hm : i % z < zs.length := by rw [hzl]; exact Nat.mod_lt _ hz0
    rw [List.getD_eq_getElem?_getD, List.getElem?_eq_getElem hm]
    exact hzsc _ (List.getElem_mem hm)
  obtain ⟨us', hf, hd, hs, hlen, hrl⟩ := R.fillRows z Xs.toList xs rows 0 [] _ _ (by rw [hidx, hXl]; simp) hxs hrows hinit hinits (by simp) (by simp [hXl])
  simp only [List.nil_append] at hd hs
  have hrn : rows.length = n := by rw [hlen, hXl]
  have husz : us'.size = n * z := by have := hd.1; rw [flat_len hrl, hrn] at this; simpa using this.symm
  obtain ⟨R', hdv⟩ := R.newRow (xs := rows) (z := z) (cap := n) (cs := us') e hrl (by omega) (by rw [hrn]; omega) (fun i x v hx hv => hd.2 i x v hx (by simpa using hv)) (fun r hr x hx => hs x (List.mem_flatten.2 ⟨r, hr, hx⟩))
  obtain ⟨i, hi, hisz⟩ : ∃ i, P.info? e = some i ∧ i.size = z := by
    simp only [szOf, Option.map_eq_some_iff] at hz
    obtain ⟨i, hi, hiz⟩ := hz
    exact ⟨i, hi, hiz⟩
  have hsz0 : n0.n ≤ w.heap.size := Nat.le_trans R.n0le R.below.size
  have R2 := R'.addTok (v := .slice (some ⟨w.heap.size, 0, none⟩) rows.length n) hid (by
      refine .inr ⟨w.heap.size, rows.length, n, us', i, rfl, hsz0, heap_alloc_new w _, by omega, ?_, hi, by rw [hisz]; exact husz, fun o ho hc => ?_⟩
      · have := Nat.le_mul_of_pos_right n hz0
        simp only [maxLen]; omega
      · rw [hisz] at ho
        rcases hc with h | ⟨_, h⟩
        · have := R.prot _ _ h; omega
        · omega)
    (fun q e' B hq hB hB' => by
      have h1 := ((R.live q e' hq).2.block hB).2
      simp [ownB] at hB'
      omega)
    (fun b x hb hB' => by
      obtain ⟨_, _, ⟨cur, el, hh, _⟩, _⟩ := R.boxes b x hb
      have := heap_lt hh
      simp [ownB] at hB'
      omega)
  refine ⟨.dat (.sl rows) (some id), _, _, _, _, _, ?_, ⟨hdv, fun t ht => by cases ht; rw [upd_same]⟩, .inr rfl, hK, R2⟩
  have hlim : ¬ (n * z > 16777216) := by omega
  have htl : (Xs.map fun (i, x) => (i, a.eval x)).toList = Xs.toList.map fun p => (p.1, a.eval p.2) := by simp
  by_cases hnz : n * z = 0
  · have hn0 : n = 0 := by
      rcases Nat.mul_eq_zero.1 hnz with h | h
      · exact h
      · omega
    subst hn0
    have hX : Xs.toList = [] := List.eq_nil_of_length_eq_zero hXl
    have hus : us' = #[] := by
      apply Array.eq_empty_of_size_eq_zero
      rw [husz]; simp
    have hX' : Xs = #[] := by cases Xs; simp at hX; subst hX; rfl
    subst hX' hus
    simp [Instr.buildSlice, run_underlying ht, run_size (w := w) hz, Instr.fill, Go.newRow, hrn]
    congr 2
    exact Array.eq_empty_of_size_eq_zero (by simp)
  · simp only [Instr.buildSlice, Sem.run_bind, run_underlying ht, Result.andThen_ok, run_size (w := w) hz]
    rw [if_neg (by simpa using hlim)]
    simp only [hnz, if_false, Sem.run_bind, Sem.run_pure, Result.andThen_ok, hzr, htl, hf, Go.newRow, run_newObj, hrn]
    rfl

/-- the cells of a slice that is read, as a list of values -/
theorem DV.news {ys : List (List AV)} {B off m c : Nat} {z : Nat} (h : DV w π (.sl ys) (.slice (some ⟨B, off, none⟩) m c)) (hz : ∀ r ∈ ys, r.length = z) :
    m = ys.length ∧ ∃ news : List Value, news.length = m * z ∧ (∀ j u, news[j]? = some u → w.cell? ((⟨B, off, none⟩ : Addr).add j) = some u) ∧ (∀ u ∈ news, u.oneCell' = true) ∧ DVs w π ys.flatten news ∧ ∀ r ∈ ys, ∀ x ∈ r, x.scalar = true := by
  cases h with
  | sl _ _ _ cap z' f h1 h2 h3 h4 h5 h6 =>
    refine ⟨rfl, ?_⟩
    have hfl := flat_len hz
    -- every place of the row is some element's
    have hat : ∀ q, q < ys.length * z → ∃ (i j : Nat) (r : List AV) (x : AV), ys[i]? = some r ∧ r[j]? = some x ∧ q = i * z + j ∧ ys.flatten[q]? = some x ∧ z' = z := by
      intro q hq
      have hz0 : 0 < z := by
        rcases Nat.eq_zero_or_pos z with e | e
        · subst e; simp at hq
        · exact e
      have hi : q / z < ys.length := by rw [Nat.div_lt_iff_lt_mul hz0]; exact hq
      have hr := List.getElem?_eq_getElem hi
      have hrl := hz _ (List.getElem_mem hi)
      have hj : q % z < (ys[q / z]).length := by rw [hrl]; exact Nat.mod_lt _ hz0
      have hx := List.getElem?_eq_getElem hj
      have hq' : q / z * z + q % z = q := by rw [Nat.mul_comm]; exact Nat.div_add_mod q z
      refine ⟨q / z, q % z, _, _, hr, hx, hq'.symm, ?_, by rw [← h2 _ _ hr, hrl]⟩
      have := flat_get hz hr hx
      rwa [hq'] at this
    refine ⟨(List.range (ys.length * z)).map fun q => f (q / z) (q % z), by simp, ?_, ?_, ⟨by simp [hfl], ?_⟩, fun r hr x hx => ?_⟩
    · intro q u hu
      have hq : q < ys.length * z := by
        rcases Nat.lt_or_ge q (ys.length * z) with h' | h'
        · exact h'
        · rw [List.getElem?_eq_none (by simp; omega)] at hu; cases hu
      obtain ⟨i, j, r, x, hr, hx, he, _, hzz⟩ := hat q hq
      subst hzz
      have hz0 : 0 < z' := by
        rcases Nat.eq_zero_or_pos z' with e | e
        · subst e; simp at hq
        · exact e
      have hjz : j < z' := by
        rw [← h2 _ _ hr]
        rcases Nat.lt_or_ge j r.length with h' | h'
        · exact h'
        · rw [List.getElem?_eq_none h'] at hx; cases hx
      have hdv : q / z' = i := by rw [he, Nat.mul_comm, Nat.mul_add_div hz0, Nat.div_eq_of_lt hjz, Nat.add_zero]
      have hmd : q % z' = j := by rw [he, Nat.mul_comm, Nat.mul_add_mod, Nat.mod_eq_of_lt hjz]
      simp only [List.getElem?_map, List.getElem?_range hq, Option.map_some, Option.some.injEq] at hu
      subst hu
      rw [addr_add, hdv, hmd, he, ← Nat.add_assoc]
      exact h5 i j r x hr hx
    · intro u hu
      simp only [List.mem_map, List.mem_range] at hu
      obtain ⟨q, hq, rfl⟩ := hu
      obtain ⟨i, j, r, x, hr, hx, he, _, hzz⟩ := hat q hq
      subst hzz
      have hz0 : 0 < z' := by
        rcases Nat.eq_zero_or_pos z' with e | e
        · subst e; simp at hq
        · exact e
      have hjz : j < z' := by
        rw [← h2 _ _ hr]
        rcases Nat.lt_or_ge j r.length with h' | h'
        · exact h'
        · rw [List.getElem?_eq_none h'] at hx; cases hx
      have hdv : q / z' = i := by rw [he, Nat.mul_comm, Nat.mul_add_div hz0, Nat.div_eq_of_lt hjz, Nat.add_zero]
      have hmd : q % z' = j := by rw [he, Nat.mul_comm, Nat.mul_add_mod, Nat.mod_eq_of_lt hjz]
      rw [hdv, hmd]
      exact (h6 i j r x hr hx).oneCell (h3 i j r x hr hx)
    · intro q x u hx hu
      have hq : q < ys.length * z := by
        rcases Nat.lt_or_ge q (ys.length * z) with h' | h'
        · exact h'
        · rw [List.getElem?_eq_none (by rw [hfl]; omega)] at hx; cases hx
      obtain ⟨i, j, r, x', hr, hx', he, hfx, hzz⟩ := hat q hq
      subst hzz
      have hxx : x = x' := by rw [hx] at hfx; exact Option.some.inj hfx
      subst hxx
      have hz0 : 0 < z' := by
        rcases Nat.eq_zero_or_pos z' with e | e
        · subst e; simp at hq
        · exact e
      have hjz : j < z' := by
        rw [← h2 _ _ hr]
        rcases Nat.lt_or_ge j r.length with h' | h'
        · exact h'
        · rw [List.getElem?_eq_none h'] at hx'; cases hx'
      have hdv : q / z' = i := by rw [he, Nat.mul_comm, Nat.mul_add_div hz0, Nat.div_eq_of_lt hjz, Nat.add_zero]
      have hmd : q % z' = j := by rw [he, Nat.mul_comm, Nat.mul_add_mod, Nat.mod_eq_of_lt hjz]
      simp only [List.getElem?_map, List.getElem?_range hq, Option.map_some, Option.some.injEq] at hu
      subst hu
      rw [hdv, hmd]
      exact h6 i j r x hr hx'
    · obtain ⟨i, hi⟩ := List.mem_iff_getElem?.1 hr
      obtain ⟨j, hj⟩ := List.mem_iff_getElem?.1 hx
      exact h3 i j r x hi hj

theorem own_ne {v : Value} {B : Nat} (h : ownB v = some B) (hB : B < w.heap.size) : ownB v ≠ some w.heap.size := by
  rw [h]; intro e; cases e; omega

theorem Rel.blocks_lt (R : Rel P nt n0 w0 π0 U s a w β τ π) {b : Nat} {x : Box} (h : lkB b s.boxes = some x) : β b < w.heap.size := by
  obtain ⟨_, _, ⟨cur, el, hh, _⟩, _⟩ := R.boxes b x h
  exact heap_lt hh

/-- what the two arms of a growing append end in -/
theorem Rel.grown (R : Rel P nt n0 w0 π0 U s a w β τ π) {id e z old : Nat} {i : TypeInfo} {zv : Value} (hi : P.info? e = some i) (hz : i.zero = some zv) (hsz : i.size = z) (hzs : zv.cells.size = z) (hz0 : 0 < z) (hid : ¬ U id) {zs : List (List AV)} {vs : List Value} (hlv : vs.length = zs.length * z) (hd : DVs w π zs.flatten vs) (hrow : ∀ r ∈ zs, r.length = z) (hsc : ∀ r ∈ zs, ∀ x ∈ r, x.scalar = true)
    (h63 : zs.length ≤ maxLen) {cs : Array Value} (hcs : cs = vs.toArray ++ Builtin.zeroCells zv.cells (grownCap w zs.length old e - zs.length)) :
    ∃ π', Rel P nt n0 w0 π0 (also U id) { s with live := (id, e) :: s.live } a (w.drew.alloc (.cells cs e)) β (upd τ id (.slice (some ⟨w.heap.size, 0, none⟩) zs.length (grownCap w zs.length old e))) π' ∧
      DV (w.drew.alloc (.cells cs e)) π' (.sl zs) (.slice (some ⟨w.heap.size, 0, none⟩) zs.length (grownCap w zs.length old e)) := by
  have hge := grownCap_ge w zs.length old e
  have hcm : grownCap w zs.length old e ≤ maxLen := grownCap_le_maxLen w zs.length old e h63
  have hsize : cs.size = grownCap w zs.length old e * z := by
    rw [hcs]
    simp only [Array.size_append, List.size_toArray, size_zeroCells, hzs, hlv, ← Nat.add_mul]
    congr 1; omega
  have hsz0 : n0.n ≤ w.heap.size := Nat.le_trans R.n0le R.below.size
  obtain ⟨R', hdv⟩ := R.draw.newRow (xs := zs) (z := z) (cap := grownCap w zs.length old e) (cs := cs) e hrow hge (by rw [hsize]; exact Nat.mul_le_mul_right _ hge)
    (fun q x v hx hv => by
      have hq : q < vs.length := by
        rw [hlv, ← flat_len hrow]
        rcases Nat.lt_or_ge q zs.flatten.length with h' | h'
        · exact h'
        · rw [List.getElem?_eq_none h'] at hx; cases hx
      rw [hcs, Array.getElem?_append_left (by simpa using hq)] at hv
      exact DV.mono (w := w) (w' := w.drew) (π := π) (fun _ _ h => h) (fun _ _ _ => rfl) (hd.2 q x v hx (by simpa using hv))) hsc
  refine ⟨_, R'.addTok hid ?_ ?_ ?_, hdv⟩
  · refine .inr ⟨w.heap.size, zs.length, grownCap w zs.length old e, cs, i, rfl, hsz0, heap_alloc_new w.drew _, hge, hcm, hi, by rw [hsz]; exact hsize, fun o ho hc => ?_⟩
    rw [hsz] at ho
    rcases hc with h | ⟨_, h⟩
    · have := R.prot _ _ h; omega
    · omega
  · intro q e' B hq hB hB'
    have h1 := ((R.live q e' hq).2.block hB).2
    simp [ownB] at hB'
    omega
  · intro b x hb hB'
    have := R.blocks_lt hb
    simp [ownB] at hB'
    omega

theorem Rel.append (R : Rel P nt n0 w0 π0 U s a w β τ π) {t e : TypeId} {i : TypeInfo} {zv : Value} {X Y : Operand} {x y : Opd} (ht : P.underlying t = some (.slice e)) (hi : P.info? e = some i) (hz : i.zero = some zv) (hsz : (0 < i.size && zv.cells.size == i.size && 0 < i.bytes) = true)
    (hx : cOpd X = some x) (hy : cOpd Y = some y) {id : Nat} (hid : ¬ U id) (ty : TypeId) {K : SV → S → Prop} (h : aop (Pure P) id (.app e i.size i.bytes x y) K s) :
    ∃ v u s' w' τ' π', (Builtin.append_ #[t, t] ty #[a.eval X, a.eval Y]).run P w = .ok u w' ∧ RV β τ' w' π' v u ∧ v.inU (also U id) ∧ K v s' ∧ Rel P nt n0 w0 π0 (also U id) s' a w' β τ' π' := by
  simp only [Bool.and_eq_true, decide_eq_true_eq, beq_iff_eq] at hsz
  obtain ⟨⟨hz0, hzs⟩, hb0⟩ := hsz
  simp only [aop] at h
  obtain ⟨p, hp, k1⟩ := withV_inv h
  obtain ⟨hr, hU⟩ := R.opd hx hp
  cases p with
  | ptr _ _ => exact k1.elim
  | rp _ => exact k1.elim
  | undef => exact k1.elim
  | dat av q =>
    obtain ⟨xs, hxs, k2⟩ := withV_inv k1
    obtain ⟨b, hb, k3⟩ := withV_inv k2
    obtain ⟨ys, hys, hbytes, hrx, hry, k4⟩ := withV_inv k3
    obtain ⟨hdx, htag⟩ := hr
    have hdy := R.opdA hy hb
    have hsub : ∀ n, U n → also U id n := fun n h => .inl h
    -- what is appended: nil, or a slice whose cells are known
    have hnews : (a.eval Y = .slice none 0 0 ∧ ys = []) ∨ ∃ B off m c, a.eval Y = .slice (some ⟨B, off, none⟩) m c ∧ m = ys.length ∧ ∃ news : List Value, news.length = m * i.size ∧ (∀ j u, news[j]? = some u → w.cell? ((⟨B, off, none⟩ : Addr).add j) = some u) ∧ (∀ u ∈ news, u.oneCell' = true) ∧ DVs w π ys.flatten news ∧ ∀ r ∈ ys, ∀ x ∈ r, x.scalar = true := by
      cases b <;> simp only [rowsOf] at hys <;> try (cases hys; done)
      · cases hys
        generalize a.eval Y = v at hdy
        cases hdy
        exact .inl ⟨rfl, rfl⟩
      · cases hys
        generalize a.eval Y = v at hdy
        cases hdy with
        | sl _ B off cap z f h1 h2 h3 h4 h5 h6 =>
          obtain ⟨hm, hn⟩ := DV.news (.sl ys B off cap z f h1 h2 h3 h4 h5 h6) hry
          exact .inr ⟨B, off, _, cap, rfl, rfl, hn⟩
    have h63' : (xs.length + ys.length) ≤ maxLen := by
      have := Nat.le_mul_of_pos_right (xs.length + ys.length) hb0
      simp only [maxLen]; omega
    cases av <;> simp only [rowsOf] at hxs <;> try (cases hxs; done)
    case nils =>
      cases hxs
      have hvx : a.eval X = .slice none 0 0 := by generalize a.eval X = v at hdx; cases hdx; rfl
      by_cases hy0 : ys = []
      · subst hy0
        simp only [if_true] at k4
        refine ⟨.dat .nils none, .slice none 0 0, s, w, τ, π, ?_, ⟨.nils, fun t ht => by cases ht⟩, trivial, k4, R.sub hsub⟩
        rcases hnews with ⟨hyv, _⟩ | ⟨B, off, m, c, hyv, hm, news, hl, _⟩
        · rw [hvx, hyv]
          simp [Builtin.append_, run_underlying ht, sizeOf, typeInfo, hi, Builtin.lenOf, Builtin.firstCells]
        · simp at hm; subst hm
          rw [hvx, hyv]
          simp [Builtin.append_, run_underlying ht, sizeOf, typeInfo, hi, Builtin.lenOf, Builtin.firstCells, loadCells, loadCellsFrom]
      · simp only [hy0, if_false, List.nil_append] at k4
        rcases hnews with ⟨_, hy0'⟩ | ⟨B, off, m, c, hyv, rfl, news, hl, hcell, hone, hdn, hscn⟩
        · exact absurd hy0' hy0
        · have hpos : 0 < ys.length := List.length_pos_iff.2 hy0
          simp only [List.length_nil, Nat.zero_add] at hbytes h63'
          have hrun := run_append_nil (P := P) w t ty e i zv ht hi hz ⟨B, off, none⟩ ys.length c news hl hcell hpos (by simp only [maxLen] at h63'; omega) (by omega)
          obtain ⟨π', R', hdv⟩ := R.grown (old := 0) hi hz rfl hzs hz0 hid hl hdn hry hscn h63' rfl
          exact ⟨.dat (.sl ys) (some id), _, _, _, _, _, by rw [hvx, hyv]; exact hrun, ⟨hdv, fun t ht => by cases ht; rw [upd_same]⟩, .inr rfl, k4, R'⟩
    case sl l =>
      cases hxs
      cases q with
      | none => exact k4.elim
      | some q =>
        obtain ⟨hlive, hK⟩ := k4
        have hτ : a.eval X = τ q := htag q rfl
        obtain ⟨hUq, htok⟩ := R.live q e hlive
        generalize hvx : a.eval X = v at hdx hτ
        rcases htok with hnil | ⟨B, len, cap, cur, i', hsl, hB0, hh, hlc, hcm, hi', hcur, hfree⟩
        · rw [← hτ] at hnil
          subst hnil
          cases hdx
        · rw [← hτ] at hsl
          have hii : i' = i := by rw [hi] at hi'; exact (Option.some.inj hi').symm
          subst hii
          subst hsl
          have hown : ownB (τ q) = some B := by rw [← hτ]; rfl
          have hlen : len = xs.length := by cases hdx; rfl
          subst hlen
          obtain ⟨_, olds, hol, holds, holdone, hdo, hsco⟩ := DV.news hdx hrx
          have hcell0 : ∀ (j : Nat) (u : Value), olds[j]? = some u → cur[j]? = some u := by
            intro j u hu
            have := holds j u hu
            rw [addr_add, Nat.zero_add, cell_of_row w B j cur e (0, 0) hh] at this
            exact this
          have hrows : ∀ r ∈ xs ++ ys, r.length = i'.size := fun r hr => by
            rcases List.mem_append.1 hr with hr | hr
            · exact hrx r hr
            · exact hry r hr
          have hol' : olds.length = xs.length * i'.size := hol
          -- what is appended, whatever it is, as a list of values
          have hsplit : xs.flatten ++ ys.flatten = (xs ++ ys).flatten := by simp
          have hcurle : xs.length * i'.size ≤ cur.size := by rw [hcur]; exact Nat.mul_le_mul_right _ hlc
          have hneB : ∀ q' e', lkN q' (delN q s.live) = some e' → ownB (τ q') ≠ some B := by
            intro q' e' hq' hB'
            obtain ⟨h1, h2⟩ := lkN_delN hq'
            exact h2 (R.liveInj q' q e' e B h1 hlive hB' hown)
          have hbox : ∀ b x, lkB b s.boxes = some x → β b ≠ B := fun b x hb e' => R.liveBox q e b x hlive hb (by rw [hown, e'])
          by_cases hroom : xs.length + ys.length ≤ cap
          · -- in place
            have key : ∃ (news : List Value), news.length = ys.length * i'.size ∧ DVs w π ys.flatten news ∧ (∀ r ∈ ys, ∀ x ∈ r, x.scalar = true) ∧
                (Builtin.append_ #[t, t] ty #[.slice (some ⟨B, 0, none⟩) xs.length cap, a.eval Y]).run P w = .ok (.slice (some ⟨B, 0, none⟩) (xs.length + ys.length) cap) (w.setRow B (cur.toList.take (xs.length * i'.size) ++ news ++ cur.toList.drop (xs.length * i'.size + news.length)).toArray) := by
              rcases hnews with ⟨hyv, rfl⟩ | ⟨C, off, m, c, hyv, rfl, news, hl, hcell, hone, hdn, hscn⟩
              · refine ⟨[], by simp, ⟨rfl, fun i a v h => by simp at h⟩, by simp, ?_⟩
                rw [hyv]
                have hself : w.setRow B (cur.toList.take (xs.length * i'.size) ++ [] ++ cur.toList.drop (xs.length * i'.size + ([] : List Value).length)).toArray = w := by
                  have := setRow_self w B cur e (0, 0) hh
                  simpa using this
                rw [hself]
                simp at hroom
                simp [Builtin.append_, run_underlying ht, sizeOf, typeInfo, hi, Builtin.lenOf, Builtin.firstCells, hroom, storeCells]
              · refine ⟨news, hl, hdn, hscn, ?_⟩
                rw [hyv]
                exact run_append_room (P := P) w t ty e i' ht hi B xs.length cap cur hh ⟨C, off, none⟩ ys.length c news hl hcell hone hroom (by rw [hl, hcur, ← Nat.add_mul]; exact Nat.mul_le_mul_right _ hroom)
            obtain ⟨news, hl, hdn, hscn, hrun⟩ := key
            have hfit : xs.length * i'.size + news.length ≤ cur.size := by rw [hl, hcur, ← Nat.add_mul]; exact Nat.mul_le_mul_right _ hroom
            have hget := list_splice cur.toList news (xs.length * i'.size) (by simpa using hfit)
            generalize hcur' : (cur.toList.take (xs.length * i'.size) ++ news ++ cur.toList.drop (xs.length * i'.size + news.length)).toArray = cur' at hrun
            have hget' : ∀ o, cur'[o]? = if o < xs.length * i'.size then cur[o]? else if o < xs.length * i'.size + news.length then news[o - xs.length * i'.size]? else cur[o]? := by
              intro o
              rw [← hcur', List.getElem?_toArray, hget]
              simp
            have R1 := (R.delTok q).rowWrite (m := (xs.length + ys.length) * i'.size) (cur' := cur') hB0 hh (fun o ho => by
              rw [hget' o, if_pos]
              rcases Nat.lt_or_ge o (xs.length * i'.size) with h' | h'
              · exact h'
              · exact absurd ho (hfree o h')) hneB hbox
            have hh' : (w.setRow B cur').heap[B]? = some (.cells cur' e (0, 0)) := setRow_heap w _ cur _ e _ hh
            have hcsz : cur'.size = cur.size := by
              rw [← hcur']; simp; omega
            have hlive' : ∀ q' e' C, lkN q' (delN q s.live) = some e' → ownB (τ q') = some C → ownB (Value.slice (some ⟨B, 0, none⟩) (xs.length + ys.length) cap) ≠ some C := by
              intro q' e' C hq' hC hB'
              simp [ownB] at hB'
              exact hneB q' e' hq' (by rw [hC, hB'])
            have R2 := R1.addTok (id := id) (e := e) (v := .slice (some ⟨B, 0, none⟩) (xs.length + ys.length) cap) hid
              (.inr ⟨B, xs.length + ys.length, cap, cur', i', rfl, hB0, hh', hroom, hcm, hi, by rw [hcsz, hcur], fun o ho hc => by
                rcases hc with h | ⟨_, h⟩
                · exact hfree o (by rw [Nat.add_mul] at ho; omega) h
                · omega⟩) hlive' (fun b x hb hB' => hbox b x hb (by simpa [ownB] using hB'.symm))
            refine ⟨.dat (.sl (xs ++ ys)) (some id), _, _, _, _, _, hrun, ⟨?_, fun t ht => by cases ht; rw [upd_same]⟩, .inr rfl, hK, R2⟩
            -- the longer slice reads as the longer list
            have hmono : ∀ {x : AV} {v : Value}, DV w π x v → DV (w.setRow B cur') (grow π B ((xs.length + ys.length) * i'.size)) x v := fun h => h.mono (fun _ _ h => .inl h) (fun b o h => by
              by_cases e' : b = B
              · subst e'
                rw [cell_of_row _ _ _ cur' e (0, 0) hh', cell_of_row _ _ _ cur e (0, 0) hh, hget' o, if_pos]
                rcases Nat.lt_or_ge o (xs.length * i'.size) with h' | h'
                · exact h'
                · exact absurd h (hfree o h')
              · exact cell_setRow_other w _ cur' ⟨b, o, none⟩ e')
            have hall : ∀ (j : Nat) (x : AV), (xs ++ ys).flatten[j]? = some x → ∃ v, cur'[j]? = some v ∧ DV w π x v := by
              intro j x hx
              rw [← hsplit] at hx
              rw [hget' j]
              by_cases hj : j < xs.length * i'.size
              · rw [if_pos hj]
                rw [List.getElem?_append_left (by rw [flat_len hrx]; exact hj)] at hx
                obtain ⟨v, hv, hd⟩ := hdo.get hx
                exact ⟨v, hcell0 j v hv, hd⟩
              · rw [if_neg hj]
                rw [List.getElem?_append_right (by rw [flat_len hrx]; omega), flat_len hrx] at hx
                obtain ⟨v, hv, hd⟩ := hdn.get hx
                have : j - xs.length * i'.size < news.length := by
                  rcases Nat.lt_or_ge (j - xs.length * i'.size) news.length with h' | h'
                  · exact h'
                  · rw [List.getElem?_eq_none h'] at hv; cases hv
                rw [if_pos (by omega)]
                exact ⟨v, hv, hd⟩
            have hxyl : xs.length + ys.length = (xs ++ ys).length := by simp
            rw [hxyl]
            refine .sl (xs ++ ys) B 0 cap i'.size (fun i j => cur'.getD (i * i'.size + j) undef) (by simpa using hroom) (fun i r hr => hrows r (List.mem_of_getElem? hr)) (fun i j r x hr hx => ?_) (fun i j r x hr hx => ?_) (fun i j r x hr hx => ?_) (fun i j r x hr hx => ?_)
            · rcases List.mem_append.1 (List.mem_of_getElem? hr) with hr' | hr'
              · exact hsco r hr' x (List.mem_of_getElem? hx)
              · exact hscn r hr' x (List.mem_of_getElem? hx)
            · refine .inr ⟨rfl, ?_⟩
              have hf := flat_get hrows hr hx
              rcases Nat.lt_or_ge (i * i'.size + j) ((xs ++ ys).length * i'.size) with h' | h'
              · omega
              · rw [List.getElem?_eq_none (by rw [flat_len hrows]; exact h')] at hf; cases hf
            · obtain ⟨v, hv, hd⟩ := hall _ x (flat_get hrows hr hx)
              rw [Nat.zero_add, cell_of_row _ _ _ cur' e (0, 0) hh', hv]
              simp [hv]
            · obtain ⟨v, hv, hd⟩ := hall _ x (flat_get hrows hr hx)
              simp only [Array.getD_eq_getD_getElem?, hv, Option.getD_some]
              have hmd := hmono hd
              rw [hxyl] at hmd
              exact hmd
          · -- a new row
            rcases hnews with ⟨hyv, rfl⟩ | ⟨C, off, m, c, hyv, rfl, news, hl, hcell, hone, hdn, hscn⟩
            · simp at hroom; omega
            · have hrun := run_append_grow (P := P) w t ty e i' zv ht hi hz ⟨B, 0, none⟩ xs.length cap olds hol holds ⟨C, off, none⟩ ys.length c news hl hcell (by omega) (by simp only [maxLen] at h63'; omega) (growslice_fits (by omega) hbytes)
              have hxyl : xs.length + ys.length = (xs ++ ys).length := by simp
              have hlv : (olds ++ news).length = (xs ++ ys).length * i'.size := by simp [hol, hl, Nat.add_mul]
              have hdv : DVs w π (xs ++ ys).flatten (olds ++ news) := by rw [← hsplit]; exact hdo.append hdn
              have hscxy : ∀ r ∈ xs ++ ys, ∀ x ∈ r, x.scalar = true := fun r hr => by
                rcases List.mem_append.1 hr with hr | hr
                · exact hsco r hr
                · exact hscn r hr
              obtain ⟨π', R', hd'⟩ := (R.delTok q).grown (old := cap) hi hz rfl hzs hz0 hid hlv hdv hrows hscxy (by rw [← hxyl]; exact h63') rfl
              rw [hyv]
              rw [hxyl] at hrun
              refine ⟨.dat (.sl (xs ++ ys)) (some id), _, _, _, upd τ id (.slice (some ⟨w.heap.size, 0, none⟩) (xs ++ ys).length (grownCap w (xs ++ ys).length cap e)), π', hrun, ⟨?_, fun t ht => by cases ht; rw [upd_same]⟩, .inr rfl, hK, ?_⟩
              · have e1 : olds.toArray ++ news.toArray = (olds ++ news).toArray := by simp
                rw [e1]; exact hd'
              · have e1 : olds.toArray ++ news.toArray = (olds ++ news).toArray := by simp
                rw [e1]; exact R'
end
end Go.Eng
