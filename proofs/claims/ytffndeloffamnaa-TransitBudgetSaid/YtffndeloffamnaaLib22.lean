/- LIBRARY, PART 22: the buses that are in a set, one after the other: from what is shown of the function in each program, what a loop over it is given. -/
import Derived.Test.YtffndeloffamnaaLib19
namespace Go.Eng
set_option linter.unnecessarySimpa false
open Go
set_option linter.unusedVariables false
set_option linter.unusedSimpArgs false
set_option maxRecDepth 10000
set_option maxHeartbeats 4000000
open Go.RowKit
def cntF (p : Nat → Bool) (k : Nat) : Nat := ((List.range k).filter p).length
theorem cntF_succ (p : Nat → Bool) (k : Nat) : cntF p (k + 1) = if p k then cntF p k + 1 else cntF p k := by
  simp only [cntF, List.range_succ, List.filter_append, List.filter_cons, List.filter_nil]
  split <;> simp
theorem cntF_at (p : Nat → Bool) {k : Nat} (hp : p k = true) : ∀ n, k < n → ((List.range n).filter p)[cntF p k]? = some k
  | n + 1, h => by
    simp only [List.range_succ, List.filter_append]
    by_cases hk : k < n
    · have ih := cntF_at p hp n hk
      rw [List.getElem?_append_left (List.getElem?_eq_some_iff.1 ih).1, ih]
    · obtain rfl : k = n := by omega
      rw [List.getElem?_append_right (by simp [cntF])]
      simp [cntF, hp]
theorem bits_one (s : Int) {k : Nat} (hk : k < 8) : (bits .and .i64 (s / 2 ^ k) 1 = 1) ↔ tb s k = true := by
  have h := shr_and s hk
  have e : min k IntKind.i64.bits = k := by have : IntKind.i64.bits = 64 := rfl; omega
  rw [e, Int.fdiv_eq_ediv_of_nonneg _ (by exact Int.pow_nonneg (by decide))] at h
  have h' : bits .and .i64 (s / 2 ^ k) 1 = if tb s k then 1 else 0 := h
  rw [h']
  cases tb s k <;> simp

/-- what is shown of the function: it is given a row of buses -/
def EachSome (P : Program) (fn : Nat) : Prop := ∀ (l B1 o1 B2 o2 b off len cap : Nat) (s : Int) (f : Nat → Nat → Int) (J : Nat → World → Prop) (Jx : World → Prop) (W : World) (cnt : Nat → Nat), cnt 0 = 0 →
    (∀ k, k < 4 → bits .and .i64 (s / 2 ^ k) 1 = 1 → cnt (k + 1) = cnt k + 1) → (∀ k, k < 4 → ¬ bits .and .i64 (s / 2 ^ k) 1 = 1 → cnt (k + 1) = cnt k) → len ≤ cap →
    W.cell? ⟨B1, o1 + 115, none⟩ = some (.slice (some ⟨b, off, none⟩) len cap) →
    (∀ i wr, J i wr → (∀ k, k < min len 4 → wr.cell? ⟨b, off + k * 2, none⟩ = some (.int .i64 (f k 0)) ∧ wr.cell? ⟨b, off + k * 2 + 1, none⟩ = some (.int .i64 (f k 1))) ∧ wr.cell? ⟨B2, o2, none⟩ = some (.int .i64 s)) →
    (∀ i wr o, J i wr → J i (wr.alloc o)) → (∀ wr o, Jx wr → Jx (wr.alloc o)) →
    (∀ n k wr, k < min len 4 → bits .and .i64 (s / 2 ^ k) 1 = 1 → J (cnt k) wr → YieldAt Fence.wide n P l #[.int .i64 k, .agg #[.int .i64 (f k 0), .int .i64 (f k 1)]] wr fun e W' => (e = .returned (.bool true) ∧ J (cnt k + 1) W') ∨ (e = .returned (.bool false) ∧ Jx W')) →
    J 0 W →
    Calls P fn #[.func (.yield l) #[] #[], .pointer (some ⟨B1, o1, none⟩), .pointer (some ⟨B2, o2, none⟩)] W fun e W' => (∃ v, e = .returned v) ∧ (J (cnt (min len 4)) W' ∨ Jx W')
/-- and: no row at all -/
def EachNone (P : Program) (fn : Nat) : Prop := ∀ (l B1 o1 B2 o2 : Nat) (J : World → Prop) (W : World), W.cell? ⟨B1, o1 + 115, none⟩ = some (.slice none 0 0) → (∀ wr o, J wr → J (wr.alloc o)) → J W →
    Calls P fn #[.func (.yield l) #[] #[], .pointer (some ⟨B1, o1, none⟩), .pointer (some ⟨B2, o2, none⟩)] W fun e W' => (∃ v, e = .returned v) ∧ J W'

theorem below_alloc (w : World) (o : Obj) : Below w.heap.size w (w.alloc o) := (Below.refl _ w).alloc (Nat.le_refl _) o
theorem dv_int {w : World} {π : Nat → Nat → Prop} {k : IntKind} {n : Int} {v : Value} (h : DV w π (.int k n) v) : v = .int k n := by cases h; rfl

theorem each1.of {P : Program} {fn : Nat} (hca : callable P fn = true) (hS : EachSome P fn) (hN : EachNone P fn) : each1.Spec (Pure P) fn := by
  intro t s ht
  refine ⟨fn, _, rfl, hca, ?_, ?_⟩
  · intro x hx a ha
    obtain ⟨k, _, rfl⟩ := List.mem_map.1 hx
    simp only [busRow, List.mem_cons, List.not_mem_nil, or_false] at ha
    rcases ha with rfl | rfl <;> simp [flatV, flat1, Bs.cells, I]
  intro l J Jx W π vs hπ dv hJk hJb hJxb hY h0
  obtain ⟨hlen, hdv⟩ := dv
  match vs, hlen with
  | [v0, v1], _ =>
  have d0 := hdv 0 _ _ rfl rfl
  have d1 := hdv 1 _ _ rfl rfl
  cases d0 with
  | ref _ B1 o1 g1 a1 a2 a3 a4 =>
  cases d1 with
  | ref _ B2 o2 g2 b1 b2 b3 b4 =>
  have hsl := a3 115 _ (Tb.buses_at ht)
  have hdb := a4 115 _ (Tb.buses_at ht)
  have hs0 := b3 0 (I s) rfl
  rw [dv_int (b4 0 (I s) rfl), Nat.add_zero] at hs0
  have hp2 : π B2 o2 := by have := b2 0 (I s) rfl; rwa [Nat.add_zero] at this
  have hst : ∀ i wr o, J i wr → J i (World.alloc wr o) := fun i wr o h => hJb i _ _ h (below_alloc _ _)
  have hstx : ∀ wr o, Jx wr → Jx (World.alloc wr o) := fun wr o h => hJxb _ _ h (below_alloc _ _)
  generalize hgv : g1 115 = gv at hsl hdb
  cases hbb : t.buses with
  | none =>
    rw [hbb] at hdb
    cases hdb
    have he : eachK t s = [] := by simp [eachK, nBus, hbb]
    refine (hN l B1 o1 B2 o2 (J 0) W hsl (fun wr o => hst 0 wr o) h0).mono ?_
    rintro e W' ⟨h1, h2⟩
    exact ⟨h1, .inl (by rw [he]; exact h2)⟩
  | some L =>
    rw [hbb] at hdb
    generalize hxs : L.map Bs.cells = xs at hdb
    have hdb' : DV W π (.sl xs) gv := by rw [← hxs]; exact hdb
    cases hdb' with
    | sl _ B off cap z f c1 c2 c3 c4 c5 c6 =>
    have hxl : xs.length = L.length := by rw [← hxs]; simp
    have hrow : ∀ k, k < L.length → xs[k]? = some (busAt t k).cells := fun k hk => by
      rw [← hxs]; simp [busAt, hbb, hk]
    have hz : ∀ k, k < L.length → z = 2 := fun k hk => (c2 k _ (hrow k hk)).symm
    have hcell : ∀ k, k < L.length → (W.cell? ⟨B, off + k * 2, none⟩ = some (.int .i64 (busAt t k).set) ∧ W.cell? ⟨B, off + k * 2 + 1, none⟩ = some (.int .i64 (busAt t k).lock)) ∧ π B (off + k * 2) ∧ π B (off + k * 2 + 1) := fun k hk => by
      have hz' := hz k hk
      subst hz'
      have e0 := c5 k 0 _ _ (hrow k hk) rfl
      have e1 := c5 k 1 _ _ (hrow k hk) rfl
      rw [dv_int (c6 k 0 _ _ (hrow k hk) rfl)] at e0
      rw [dv_int (c6 k 1 _ _ (hrow k hk) rfl)] at e1
      exact ⟨⟨e0, e1⟩, c4 k 0 _ _ (hrow k hk) rfl, c4 k 1 _ _ (hrow k hk) rfl⟩
    have hnb : nBus t = min xs.length 4 := by simp [nBus, hbb, hxl]
    have hek : ((eachK t s).map (busRow t)).length = cntF (fun k => tb s k) (min xs.length 4) := by simp [eachK, cntF, hnb]
    rw [hek]
    refine hS l B1 o1 B2 o2 B off xs.length cap s (fun k c => if c = 0 then (busAt t k).set else (busAt t k).lock) J Jx W (cntF fun k => tb s k) rfl ?_ ?_ c1 hsl ?_ hst hstx ?_ h0
    · intro k hk hb; rw [cntF_succ, if_pos ((bits_one s (by omega)).1 hb)]
    · intro k hk hb; rw [cntF_succ, if_neg (fun h => hb ((bits_one s (by omega)).2 h))]
    · intro i wr hJ
      refine ⟨fun k hk => ?_, ?_⟩
      · obtain ⟨⟨e0, e1⟩, p0, p1⟩ := hcell k (by omega)
        simp only [if_true, if_neg (show ¬ (1 : Nat) = 0 by decide)]
        exact ⟨(hJk i wr hJ _ _ p0).trans e0, (hJk i wr hJ _ _ p1).trans e1⟩
      · exact (hJk i wr hJ _ _ hp2).trans hs0
    · intro n k wr hk hb hJ
      have hb' := (bits_one s (by omega)).1 hb
      have hat := cntF_at (fun k => tb s k) hb' (nBus t) (by omega)
      have hx : ((eachK t s).map (busRow t))[cntF (fun k => tb s k) k]? = some (busRow t k) := by rw [List.getElem?_map, eachK, hat]; rfl
      exact hY n _ _ wr hx hJ

end Go.Eng
