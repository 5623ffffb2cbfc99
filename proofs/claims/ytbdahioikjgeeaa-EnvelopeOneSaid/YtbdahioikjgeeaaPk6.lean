/- The engine and the library, part 6 of 6: what the proofs of this seat need of them. -/
import Derived.Test.YtbdahioikjgeeaaPk5
namespace Go.Eng
set_option linter.unusedVariables false
set_option linter.unusedSimpArgs false
set_option linter.unnecessarySimpa false
open Go
set_option linter.unusedVariables false
set_option linter.unusedSimpArgs false
set_option maxRecDepth 10000
set_option maxHeartbeats 4000000
theorem ceq_ints : ∀ (l l' : List Int) (n : Nat) (ks : List CK) (as bs : List AV), l.length = n → l'.length = n → cellsEq (List.replicate n .i ++ ks) (l.map I ++ as) (l'.map I ++ bs) = (cellsEq ks as bs).map fun r => decide (l = l') && r
  | [], [], n, ks, as, bs, h, h' => by subst h; cases h : cellsEq ks as bs <;> simp [h]
  | [], y :: l', n, ks, as, bs, h, h' => by simp at h h'; omega
  | x :: l, [], n, ks, as, bs, h, h' => by simp at h h'; omega
  | x :: l, y :: l', 0, ks, as, bs, h, h' => by simp at h
  | x :: l, y :: l', n + 1, ks, as, bs, h, h' => by
    have ih := ceq_ints l l' n ks as bs (by simpa using h) (by simpa using h')
    simp only [List.replicate_succ, List.cons_append, List.map_cons, cellsEq, cellEq, if_true, ih]
    cases cellsEq ks as bs with
    | none => rfl
    | some r =>
      simp only [Option.map_some, Option.some.injEq, List.cons.injEq]
      by_cases h1 : x = y <;> by_cases h2 : l = l' <;> simp [h1, h2]
def shK : List CK := [.i, .i, .i, .i, .i, .i, .i, .i, .i, .i, .i, .i, .i, .i, .i, .i, .i, .i, .i, .i, .i, .i, .i, .i, .i, .i, .i, .i, .i, .i, .i, .i, .b]
theorem sh_eq {s s' : Sh} (h : s.Ok) (h' : s'.Ok) : cellsEq shK s.cells s'.cells = some (decide (s = s')) := by
  have e : shK = List.replicate 8 .i ++ (List.replicate 8 .i ++ (List.replicate 8 .i ++ (List.replicate 8 .i ++ [.b]))) := rfl
  rw [e, Sh.cells, Sh.cells, ceq_ints _ _ _ _ _ _ h.colour h'.colour, ceq_ints _ _ _ _ _ _ h.time h'.time, ceq_ints _ _ _ _ _ _ h.foot h'.foot, ceq_ints _ _ _ _ _ _ h.ftime h'.ftime]
  cases s; cases s'
  simp only [cellsEq, cellEq, Option.map_some, Bool.and_true, Option.some.injEq, Sh.mk.injEq]
  simp only [Bool.decide_and]
  congr 4
def envAll.Spec (C : Con) (f : Nat) : Prop := ∀ (t : Tb) (a b : Sh) (s : Stt), t.Ln → a.Ok → b.Ok → s.Ok → C.c f [.agg t.cells, .agg a.cells, .agg b.cells, .agg s.cells] (B true) none
def envOne.Spec (C : Con) (f : Nat) : Prop := ∀ (l : Option (List Int)) (a b : Sh) (k : Int), a.Ok → b.Ok → C.c f [slAV intRow l, .agg a.cells, .agg b.cells, I k] (B true) none
def envSafe.Spec (C : Con) (f : Nat) : Prop := ∀ (l : Option (List Int)) (row : Option (List Sh)), (∀ s ∈ row.getD [], s.Ok) → C.c f [slAV intRow l, slAV Sh.cells row] (B true) none
def SymC (c : List Int) : Prop := ∀ i j : Nat, i < 8 → j < 8 → tb (cAt c i) j = tb (cAt c j) i
theorem cAt_set {c : List Int} {p i : Nat} {v : Int} (hp : p < c.length) : cAt (c.set p v) i = if i = p then v else cAt c i := by
  simp only [cAt, List.getD_eq_getElem?_getD, List.getElem?_set]
  by_cases h : p = i
  · subst h; simp [hp]
  · have : ¬ i = p := fun e => h e.symm
    simp [h, this]
theorem symC_step {t : Tb} {l : Option (List Int)} {p q : Nat} {c : List Int} (hc : c.length = 8) (hp : p < 8) (hq : q < p) (h : SymC c) : SymC (confStep t l p q c) := by
  unfold confStep
  split
  · intro i j hi hj
    have hpl : p < c.length := by omega
    have hql : q < (c.set p (withR (cAt c p) q)).length := by simp; omega
    have hqp : ¬ q = p := by omega
    simp only [cAt_set hql, cAt_set hpl, hqp, if_false]
    have hs := h i j hi hj
    by_cases h1 : i = q <;> by_cases h2 : j = q <;> by_cases h3 : i = p <;> by_cases h4 : j = p <;>
      simp_all [tb_withR, show q < 8 by omega] <;> omega
  · exact h
theorem symC_row {t : Tb} {l : Option (List Int)} {p : Nat} {c : List Int} (hc : c.length = 8) (hp : p < 8) (h : SymC c) : ∀ q, q ≤ p → SymC (confRow t l p q c)
  | 0, _ => h
  | q + 1, hq => symC_step (by rw [confRow_len, hc]) hp (by omega) (symC_row hc hp h q (by omega))
theorem symC_to {t : Tb} {l : Option (List Int)} : ∀ p, p ≤ 8 → SymC (confTo t l p)
  | 0, _ => by
    intro i j hi hj
    have : ∀ i : Nat, cAt (confTo t l 0) i = 0 := by
      intro i
      simp only [cAt, confTo, List.getD_eq_getElem?_getD, List.getElem?_replicate]; split <;> rfl
    rw [this, this, tb_zero, tb_zero]
  | p + 1, hp => symC_row (confTo_len p) (by omega) (symC_to p (by omega)) p (Nat.le_refl p)
theorem table_sym (l : Option (List Int)) {p q : Nat} (hp : p < 8) (hq : q < 8) : tb (conAt (tableOf l) p) q = tb (conAt (tableOf l) q) p :=
  symC_to (rowsOf' l).2 (rowsOf_le l) p q hp hq
def SafeSh (t : Tb) (s : Sh) : Prop := (∀ p q, p < 8 → q < 8 → clashB t p q = true → s.c p = 0 ∨ s.c q = 0) ∧ ∀ p, p < 8 → s.c p ≠ 0 → (phAt t p).on = true
theorem colour_begins {t : Tb} {a b : Sh} {p : Nat} (h : colourE t a b p = true) (ha : a.c p = 0) (hb : b.c p ≠ 0) : b.c p = 1 ∧ (phAt t p).on = true ∧ freeE t a b p = true := by
  unfold colourE at h
  simp only [ha] at h
  repeat' (split at h)
  all_goals simp_all
theorem safe_next {t : Tb} {a b : Sh} (hsym : ∀ p q, p < 8 → q < 8 → tb (conAt t p) q = tb (conAt t q) p) (hal : allowedE t a b = true) (h : SafeSh t a) : SafeSh t b := by
  have hcol : ∀ p, p < 8 → colourE t a b p = true := by
    intro p hp
    have := List.all_eq_true.1 hal p (List.mem_range.2 hp)
    simp only [Bool.and_eq_true] at this
    exact this.1
  have hon : ∀ p, p < 8 → b.c p ≠ 0 → (phAt t p).on = true := by
    intro p hp hb
    by_cases ha : a.c p = 0
    · exact (colour_begins (hcol p hp) ha hb).2.1
    · exact h.2 p hp ha
  have key : ∀ p q, p < 8 → q < 8 → tb (conAt t p) q = true → a.c p = 0 → b.c p ≠ 0 → b.c q ≠ 0 → False := by
    intro p q hp hq hc ha hb hb'
    obtain ⟨_, _, hfree⟩ := colour_begins (hcol p hp) ha hb
    have := List.all_eq_true.1 hfree q (by simp only [List.mem_filter, List.mem_range]; exact ⟨hq, hc⟩)
    simp only [clashE, Bool.not_eq_true', Bool.and_eq_false_iff, Bool.or_eq_false_iff] at this
    rcases this with h1 | ⟨h1, h2⟩
    · rw [hon q hq hb'] at h1; cases h1
    · have h1' : a.c q = 0 := by simpa using h1
      have := (colour_begins (hcol q hq) h1' hb').1
      simp [this] at h2
  refine ⟨fun p q hp hq hc => ?_, hon⟩
  by_cases h1 : b.c p = 0
  · exact .inl h1
  by_cases h2 : b.c q = 0
  · exact .inr h2
  exfalso
  have hc1 : tb (conAt t p) q = true ∧ tb (conAt t q) p = true := by
    simp only [clashB, hasR_tb hq, hasR_tb hp, Bool.or_eq_true] at hc
    have := hsym p q hp hq
    rcases hc with hc | hc
    · exact ⟨hc, by rw [← this]; exact hc⟩
    · exact ⟨by rw [this]; exact hc, hc⟩
  rcases h.1 p q hp hq hc with ha | ha
  · exact key p q hp hq hc1.1 ha h1 h2
  · exact key q p hq hp hc1.2 ha h2 h1
theorem safe_all {t : Tb} {l : List Sh} (hsym : ∀ p q, p < 8 → q < 8 → tb (conAt t p) q = tb (conAt t q) p) (h0 : SafeSh t (l.getD 0 default)) : ∀ i, i < runsN t l → SafeSh t (l.getD i default)
  | 0, _ => h0
  | i + 1, hi => safe_next hsym (by have := runsN_ok (t := t) (l := l) (j := i + 1) (by omega) hi; simpa using this) (safe_all hsym h0 i (by omega))
theorem begin_safe (t : Tb) : SafeSh t (shOf (begE t)) := by
  have : ∀ p, p < 8 → (shOf (begE t)).c p = 0 := by
    intro p hp
    show (mixTo (fun p => ((begE t).rn p).colour) (fun _ => 0) 8).getD p 0 = 0
    rw [mixTo_get _ _ _ hp, if_pos hp]
    simp [Stt.rn, begE, begTo, hp, runOf]
  exact ⟨fun p q hp _ _ => .inl (this p hp), fun p hp h => absurd (this p hp) h⟩
section
variable {P : Program} (hm : P.follows .mixedOrders = true) {f : Nat}
include hm
theorem envAll.ok {fA fB fO fS fw : Nat} (hc : cFn P f = some (cc_law27_EnvelopeAll fA fB fO fS fw)) (hA : allowed27.Spec (Pure P) fA) (hB : allowed23.Spec (Pure P) fB) (hO : Of27.Spec (Pure P) fO) (hS : Shape23.Spec (Pure P) fS) (hw : awake27.Spec (Pure P) fw) : envAll.Spec (Pure P) f := by
  intro t a b s ht ha hb hs
  have wt := ht.whole
  have wa := Sh.whole ha
  have wb := Sh.whole hb
  have ws := Stt.whole hs
  have lt := ht.len
  have la := Sh.len ha
  have lb := Sh.len hb
  have ls := Stt.len hs
  have h1 := hA t a b ⟨ht, ha, hb⟩
  have h2 := hB t a b ⟨ht, ha, hb⟩
  generalize allowedE t a b = e at *
  have he : (e == e) = true := by simp
  have hq : cellsEq shK (shOf s).cells (shOf s).cells = some true := by rw [sh_eq (shOf_ok s) (shOf_ok s)]; simp
  simp only [shK] at hq
  refine pure_of hm hc (by show 4 ≤ 28; decide) (aw_flat (keep := []) (i := 0) ?_)
  try simp only [I, B, D, RW, ↓ KW, fillA, setCells, stTags, flat, Nat.reduceBEq, Nat.reduceAdd, Nat.reduceLeDiff, Int.reduceNe, Int.reduceBEq, Int.reduceEq, reduceCtorEq, Nat.reduceMul, Int.reduceLT, Int.reduceLE, Int.reduceToNat, cc_law27_EnvelopeAll, wt, wa, wb, ws, lt, la, lb, ls, he, hq, e_neF]
  refine call_is h1 ?_
  try simp only [I, B, D, RW, ↓ KW, fillA, setCells, stTags, flat, Nat.reduceBEq, Nat.reduceAdd, Nat.reduceLeDiff, Int.reduceNe, Int.reduceBEq, Int.reduceEq, reduceCtorEq, Nat.reduceMul, Int.reduceLT, Int.reduceLE, Int.reduceToNat, wt, wa, wb, ws, lt, la, lb, ls, he, hq, e_neF]
  refine call_is h2 ?_
  try simp only [I, B, D, RW, ↓ KW, fillA, setCells, stTags, flat, Nat.reduceBEq, Nat.reduceAdd, Nat.reduceLeDiff, Int.reduceNe, Int.reduceBEq, Int.reduceEq, reduceCtorEq, Nat.reduceMul, Int.reduceLT, Int.reduceLE, Int.reduceToNat, wt, wa, wb, ws, lt, la, lb, ls, he, hq, e_neF]
  refine call_is (hO s hs) ?_
  try simp only [I, B, D, RW, ↓ KW, fillA, setCells, stTags, flat, Nat.reduceBEq, Nat.reduceAdd, Nat.reduceLeDiff, Int.reduceNe, Int.reduceBEq, Int.reduceEq, reduceCtorEq, Nat.reduceMul, Int.reduceLT, Int.reduceLE, Int.reduceToNat, wt, wa, wb, ws, lt, la, lb, ls, he, hq, e_neF]
  refine call_is (hS s hs) ?_
  try simp only [I, B, D, RW, ↓ KW, fillA, setCells, stTags, flat, Nat.reduceBEq, Nat.reduceAdd, Nat.reduceLeDiff, Int.reduceNe, Int.reduceBEq, Int.reduceEq, reduceCtorEq, Nat.reduceMul, Int.reduceLT, Int.reduceLE, Int.reduceToNat, wt, wa, wb, ws, lt, la, lb, ls, he, hq, e_neF]
  refine call_is hw ?_
  try simp only [I, B, D, RW, ↓ KW, fillA, setCells, stTags, flat, Nat.reduceBEq, Nat.reduceAdd, Nat.reduceLeDiff, Int.reduceNe, Int.reduceBEq, Int.reduceEq, reduceCtorEq, Nat.reduceMul, Int.reduceLT, Int.reduceLE, Int.reduceToNat]
theorem envOne.ok {fT fN fP fM fA fB fw : Nat} (hc : cFn P f = some (cc_law27_EnvelopeOne fT fN fP fM fA fB fw)) (hT : Table.Spec (Pure P) fT) (hN : near.Spec (Pure P) fN) (hP : Place.Spec (Pure P) fP) (hM : refMore.Spec (Pure P) fM) (hA : allowed27.Spec (Pure P) fA) (hB : allowed23.Spec (Pure P) fB) (hw : awake27.Spec (Pure P) fw) : envOne.Spec (Pure P) f := by
  intro l a b k ha hb
  have ht := (tableOf_ok l).ln
  have wt := ht.whole
  have lt := ht.len
  have wa := Sh.whole ha
  have wb := Sh.whole hb
  have la := Sh.len ha
  have lb := Sh.len hb
  generalize hTe : tableOf l = t at *
  have hz : setCells z131_45020 0 t.cells = t.cells := set_all (by rw [lt]; rfl)
  have hzl : z131_45020.length = 131 := rfl
  have hzl' : z33_15518.length = 33 := rfl
  have na := hN t a ht ha
  have nb := hN t b ht hb
  have oa := nearTo_ok t a 8
  have ob := nearTo_ok t b 8
  have za : setCells z33_15518 0 (nearE t a).cells = (nearE t a).cells := set_all (by rw [nearE, Sh.len oa]; rfl)
  have zb : setCells z33_15518 0 (nearE t b).cells = (nearE t b).cells := set_all (by rw [nearE, Sh.len ob]; rfl)
  have lna := Sh.len oa
  have lnb := Sh.len ob
  obtain ⟨hp0, hp8⟩ := place_range (v := k) (n := 8) (by decide) (by decide)
  refine pure_of hm hc (by show 4 ≤ 69; decide) (aw_flat (keep := []) (i := 0) ?_)
  try simp only [I, B, D, RW, ↓ KW, fillA, stTags, flat, Nat.reduceBEq, Nat.reduceAdd, Nat.reduceLeDiff, Int.reduceNe, Int.reduceBEq, Int.reduceEq, reduceCtorEq, Nat.reduceMul, Int.reduceLT, Int.reduceLE, Int.reduceToNat, cc_law27_EnvelopeOne, wt, lt, wa, wb, la, lb, hz, hzl, hzl', za, zb, lna, lnb]
  refine call_is (hTe ▸ hT l) ?_
  try simp only [I, B, D, RW, ↓ KW, fillA, stTags, flat, Nat.reduceBEq, Nat.reduceAdd, Nat.reduceLeDiff, Int.reduceNe, Int.reduceBEq, Int.reduceEq, reduceCtorEq, Nat.reduceMul, Int.reduceLT, Int.reduceLE, Int.reduceToNat, wt, lt, wa, wb, la, lb, hz, hzl, hzl', za, zb, lna, lnb]
  refine call_is na ?_
  try simp only [I, B, D, RW, ↓ KW, fillA, stTags, flat, Nat.reduceBEq, Nat.reduceAdd, Nat.reduceLeDiff, Int.reduceNe, Int.reduceBEq, Int.reduceEq, reduceCtorEq, Nat.reduceMul, Int.reduceLT, Int.reduceLE, Int.reduceToNat, wt, lt, wa, wb, la, lb, hz, hzl, hzl', za, zb, lna, lnb, nearE]
  refine call_is nb ?_
  try simp only [I, B, D, RW, ↓ KW, fillA, stTags, flat, Nat.reduceBEq, Nat.reduceAdd, Nat.reduceLeDiff, Int.reduceNe, Int.reduceBEq, Int.reduceEq, reduceCtorEq, Nat.reduceMul, Int.reduceLT, Int.reduceLE, Int.reduceToNat, wt, lt, wa, wb, la, lb, hz, hzl, hzl', za, zb, lna, lnb, nearE]
  refine call_is (hP k 8 (by decide)) ?_
  try simp only [I, B, D, RW, ↓ KW, fillA, stTags, flat, Nat.reduceBEq, Nat.reduceAdd, Nat.reduceLeDiff, Int.reduceNe, Int.reduceBEq, Int.reduceEq, reduceCtorEq, Nat.reduceMul, Int.reduceLT, Int.reduceLE, Int.reduceToNat, wt, lt, wa, wb, la, lb, hz, hzl, hzl', za, zb, lna, lnb, nearE]
  refine aw_loop' (fun y : Nat × Sh × Sh => (⟨[(13, .dat (I y.1) none), (12, .dat (I (place k 8)) none), (10, .ptr 14 0), (11, .ptr 19 0), (9, .ptr 9 0)], [(9, ⟨t.cells, []⟩), (14, ⟨y.2.1.cells, []⟩), (19, ⟨y.2.2.cells, []⟩)], [], 400⟩ : S)) (fun y => 8 - y.1) (fun y => y.1 ≤ 8 ∧ y.2.1.Ok ∧ y.2.2.Ok) ?_ (0, nearTo t a 8, nearTo t b 8) ⟨by simp, oa, ob⟩ ?_
  · rintro ⟨q, x, y⟩ ⟨hq, ox, oy⟩ A back
    simp only at hq ox oy
    have hwr := wrap_succ (k := q) (by omega)
    try simp only [I, B, D, RW, ↓ KW, fillA, stTags, flat, Nat.reduceBEq, Nat.reduceAdd, Nat.reduceLeDiff, Int.reduceNe, Int.reduceBEq, Int.reduceEq, reduceCtorEq, Nat.reduceMul, Int.reduceLT, Int.reduceLE, Int.reduceToNat]
    refine cd_split (fun h2 => ?_) (fun h2 => ?_) <;> try simp only [I, B, D, RW, ↓ KW, fillA, stTags, flat, Nat.reduceBEq, Nat.reduceAdd, Nat.reduceLeDiff, Int.reduceNe, Int.reduceBEq, Int.reduceEq, reduceCtorEq, Nat.reduceMul, Int.reduceLT, Int.reduceLE, Int.reduceToNat, h2]
    · have h8 : q < 8 := by have := of_decide_eq_true h2; omega
      have hx : 0 ≤ (q : Int) ∧ (q : Int) < (8 : Nat) := by omega
      refine cd_split (fun h3 => ?_) (fun h3 => ?_) <;> try simp only [I, B, D, RW, ↓ KW, fillA, stTags, flat, Nat.reduceBEq, Nat.reduceAdd, Nat.reduceLeDiff, Int.reduceNe, Int.reduceBEq, Int.reduceEq, reduceCtorEq, Nat.reduceMul, Int.reduceLT, Int.reduceLE, Int.reduceToNat, h3]
      · have x1 := Sh.setC_is ox h8 0
        have ox1 := Sh.okC ox (k := q) 0
        have x2 := Sh.setF_is ox1 h8 0
        have ox2 := Sh.okF ox1 (k := q) 0
        have x3 := Sh.setG_is ox2 h8 0
        have ox3 := Sh.okG ox2 (k := q) 0
        have y1 := Sh.setC_is oy h8 0
        have oy1 := Sh.okC oy (k := q) 0
        have y2 := Sh.setF_is oy1 h8 0
        have oy2 := Sh.okF oy1 (k := q) 0
        have y3 := Sh.setG_is oy2 h8 0
        have oy3 := Sh.okG oy2 (k := q) 0
        obtain ⟨_, rt, _, _⟩ := Sh.at ox3 h8
        have y4 := Sh.setT_is oy3 h8 (moreE ((((x.setC q 0).setF q 0).setG q 0).t q))
        have oy4 := Sh.okT oy3 (k := q) (moreE ((((x.setC q 0).setF q 0).setG q 0).t q))
        obtain ⟨X, hX⟩ : ∃ X, X = ((x.setC q 0).setF q 0).setG q 0 := ⟨_, rfl⟩
        rw [← hX] at x3 ox3 rt y4 oy4
        obtain ⟨Y, hY⟩ : ∃ Y, Y = (((y.setC q 0).setF q 0).setG q 0).setT q (moreE (X.t q)) := ⟨_, rfl⟩
        rw [← hY] at y4 oy4
        have e0 := Sh.len ox
        have e1 := Sh.len ox1
        have e2 := Sh.len ox2
        have f0 := Sh.len oy
        have f1 := Sh.len oy1
        have f2 := Sh.len oy2
        have f3 := Sh.len oy3
        try simp only [I, B, D, RW, ↓ KW, fillA, stTags, flat, Nat.reduceBEq, Nat.reduceAdd, Nat.reduceLeDiff, Int.reduceNe, Int.reduceBEq, Int.reduceEq, reduceCtorEq, Nat.reduceMul, Int.reduceLT, Int.reduceLE, Int.reduceToNat, hx, x1, x2, x3, y1, y2, y3, e0, e1, e2, f0, f1, f2, rt]
        refine ⟨by omega, by omega, by omega, by omega, by omega, by omega, ?_⟩
        refine call_is (hM _) ?_
        try simp only [I, B, D, RW, ↓ KW, fillA, stTags, flat, Nat.reduceBEq, Nat.reduceAdd, Nat.reduceLeDiff, Int.reduceNe, Int.reduceBEq, Int.reduceEq, reduceCtorEq, Nat.reduceMul, Int.reduceLT, Int.reduceLE, Int.reduceToNat, hx, y1, y2, y3, y4, f3]
        refine ⟨by omega, back (q + 1, X, Y) _ ⟨by omega, ox3, oy4⟩ (by simp only; omega) ?_⟩
        refine le_tok2 (by decide) ?_ ?_ ?_ ?_ <;> simp [intRow, ownSV, ownL, leSlots, lv_dat, lv_tok, lv_ptr, lv_rp, lv_undef, leBoxes, leTags, leLive, tokM, tokB, tokT, ren, liveInj, r_lk, r_lkN, r_lkB, r_lkN0, I, B, D, withV_some, hwr, x1, x2, x3, y1, y2, y3, y4]
      · try simp only [I, B, D, RW, ↓ KW, fillA, stTags, flat, Nat.reduceBEq, Nat.reduceAdd, Nat.reduceLeDiff, Int.reduceNe, Int.reduceBEq, Int.reduceEq, reduceCtorEq, Nat.reduceMul, Int.reduceLT, Int.reduceLE, Int.reduceToNat]
        refine back (q + 1, x, y) _ ⟨by omega, ox, oy⟩ (by simp only; omega) ?_
        refine le_tok2 (by decide) ?_ ?_ ?_ ?_ <;> simp [intRow, ownSV, ownL, leSlots, lv_dat, lv_tok, lv_ptr, lv_rp, lv_undef, leBoxes, leTags, leLive, tokM, tokB, tokT, ren, liveInj, r_lk, r_lkN, r_lkB, r_lkN0, I, B, D, withV_some, hwr]
    · have wx := Sh.whole ox
      have wy := Sh.whole oy
      have h1 := hA t x y ⟨ht, ox, oy⟩
      have h2 := hB t x y ⟨ht, ox, oy⟩
      generalize allowedE t x y = e at *
      have he : (e == e) = true := by simp
      try simp only [I, B, D, RW, ↓ KW, fillA, stTags, flat, Nat.reduceBEq, Nat.reduceAdd, Nat.reduceLeDiff, Int.reduceNe, Int.reduceBEq, Int.reduceEq, reduceCtorEq, Nat.reduceMul, Int.reduceLT, Int.reduceLE, Int.reduceToNat, wt, wx, wy]
      refine call_is h1 ?_
      try simp only [I, B, D, RW, ↓ KW, fillA, stTags, flat, Nat.reduceBEq, Nat.reduceAdd, Nat.reduceLeDiff, Int.reduceNe, Int.reduceBEq, Int.reduceEq, reduceCtorEq, Nat.reduceMul, Int.reduceLT, Int.reduceLE, Int.reduceToNat, wt, wx, wy]
      refine call_is h2 ?_
      try simp only [I, B, D, RW, ↓ KW, fillA, stTags, flat, Nat.reduceBEq, Nat.reduceAdd, Nat.reduceLeDiff, Int.reduceNe, Int.reduceBEq, Int.reduceEq, reduceCtorEq, Nat.reduceMul, Int.reduceLT, Int.reduceLE, Int.reduceToNat, he]
      refine call_is hw ?_
      try simp only [I, B, D, RW, ↓ KW, fillA, stTags, flat, Nat.reduceBEq, Nat.reduceAdd, Nat.reduceLeDiff, Int.reduceNe, Int.reduceBEq, Int.reduceEq, reduceCtorEq, Nat.reduceMul, Int.reduceLT, Int.reduceLE, Int.reduceToNat]
  · have za' : setCells z33_15518 0 (nearTo t a 8).cells = (nearTo t a 8).cells := za
    have zb' : setCells z33_15518 0 (nearTo t b 8).cells = (nearTo t b 8).cells := zb
    refine le_tok2 (by decide) ?_ ?_ ?_ ?_ <;> simp [intRow, ownSV, ownL, leSlots, lv_dat, lv_tok, lv_ptr, lv_rp, lv_undef, leBoxes, leTags, leLive, tokM, tokB, tokT, ren, liveInj, r_lk, r_lkN, r_lkB, r_lkN0, I, B, D, withV_some, za', zb', nearE]
theorem envSafe.ok {fT fw fB fO e fN fR fC : Nat} (hc : cFn P f = some (cc_law27_EnvelopeSafe fT fw fB fO e fN fR fC)) (hT : Table.Spec (Pure P) fT) (hw : awake27.Spec (Pure P) fw) (hB : begin19.Spec (Pure P) fB) (hO : Of27.Spec (Pure P) fO) (hN : near.Spec (Pure P) fN) (hR : Runs.Spec (Pure P) fR) (hC : clash00.Spec (Pure P) fC) : envSafe.Spec (Pure P) f := by
  intro l row hrow
  have ht := (tableOf_ok l).ln
  have hsym : ∀ p q, p < 8 → q < 8 → tb (conAt (tableOf l) p) q = tb (conAt (tableOf l) q) p := fun p q hp hq => table_sym l hp hq
  have wt := ht.whole
  have lt := ht.len
  generalize hTe : tableOf l = t at *
  have hz : setCells z131_45020 0 t.cells = t.cells := set_all (by rw [lt]; rfl)
  have hzl : z131_45020.length = 131 := rfl
  refine pure_of hm hc (by show 2 ≤ 87; decide) (aw_flat (keep := []) (i := 0) ?_)
  try simp only [I, B, D, RW, ↓ KW, fillA, stTags, flat, Nat.reduceBEq, Nat.reduceAdd, Nat.reduceLeDiff, Int.reduceNe, Int.reduceBEq, Int.reduceEq, reduceCtorEq, Nat.reduceMul, Int.reduceLT, Int.reduceLE, Int.reduceToNat, cc_law27_EnvelopeSafe, wt, lt, hz, hzl, a_slAV]
  refine call_is (hTe ▸ hT l) ?_
  try simp only [I, B, D, RW, ↓ KW, fillA, stTags, flat, Nat.reduceBEq, Nat.reduceAdd, Nat.reduceLeDiff, Int.reduceNe, Int.reduceBEq, Int.reduceEq, reduceCtorEq, Nat.reduceMul, Int.reduceLT, Int.reduceLE, Int.reduceToNat, wt, lt, hz, hzl, a_len]
  refine cd_split (fun hlen => ?_) (fun hlen => ?_) <;> try simp only [I, B, D, RW, ↓ KW, fillA, stTags, flat, Nat.reduceBEq, Nat.reduceAdd, Nat.reduceLeDiff, Int.reduceNe, Int.reduceBEq, Int.reduceEq, reduceCtorEq, Nat.reduceMul, Int.reduceLT, Int.reduceLE, Int.reduceToNat, hlen]
  · refine call_is hw ?_
    try simp only [I, B, D, RW, ↓ KW, fillA, stTags, flat, Nat.reduceBEq, Nat.reduceAdd, Nat.reduceLeDiff, Int.reduceNe, Int.reduceBEq, Int.reduceEq, reduceCtorEq, Nat.reduceMul, Int.reduceLT, Int.reduceLE, Int.reduceToNat]
  have hn40 : (row.getD []).length ≤ 40 := by have := of_decide_eq_false hlen; omega
  try simp only [I, B, D, RW, ↓ KW, fillA, stTags, flat, Nat.reduceBEq, Nat.reduceAdd, Nat.reduceLeDiff, Int.reduceNe, Int.reduceBEq, Int.reduceEq, reduceCtorEq, Nat.reduceMul, Int.reduceLT, Int.reduceLE, Int.reduceToNat, wt, lt, hz, hzl]
  refine call_is (hB t ht) ?_
  try simp only [I, B, D, RW, ↓ KW, fillA, stTags, flat, Nat.reduceBEq, Nat.reduceAdd, Nat.reduceLeDiff, Int.reduceNe, Int.reduceBEq, Int.reduceEq, reduceCtorEq, Nat.reduceMul, Int.reduceLT, Int.reduceLE, Int.reduceToNat]
  refine call_is (hO _ (begE_ok t)) ?_
  have l0 := Sh.len (shOf_ok (begE t))
  try simp only [I, B, D, RW, ↓ KW, fillA, stTags, flat, Nat.reduceBEq, Nat.reduceAdd, Nat.reduceLeDiff, Int.reduceNe, Int.reduceBEq, Int.reduceEq, reduceCtorEq, Nat.reduceMul, Int.reduceLT, Int.reduceLE, Int.reduceToNat, wt, lt, hz, hzl, l0]
  refine aw_loop' (fun k : Nat => (⟨[(7, .dat (I k) none), (1, .dat (slAV Sh.cells row) none), (6, .dat (.sl ((shOf (begE t) :: ((row.getD []).take k).map (nearE t)).map Sh.cells)) (some 0)), (5, .ptr 7 0)], [(7, ⟨t.cells, []⟩)], [(0, e)], 400⟩ : S)) (fun k => (row.getD []).length - k) (fun k => k ≤ (row.getD []).length) ?_ 0 (by omega) ?_
  · intro k hk A back
    have hwr := wrap_succ (k := k) (by omega)
    try simp only [I, B, D, RW, ↓ KW, fillA, stTags, flat, Nat.reduceBEq, Nat.reduceAdd, Nat.reduceLeDiff, Int.reduceNe, Int.reduceBEq, Int.reduceEq, reduceCtorEq, Nat.reduceMul, Int.reduceLT, Int.reduceLE, Int.reduceToNat, a_len]
    refine cd_split (fun h2 => ?_) (fun h2 => ?_) <;> try simp only [I, B, D, RW, ↓ KW, fillA, stTags, flat, Nat.reduceBEq, Nat.reduceAdd, Nat.reduceLeDiff, Int.reduceNe, Int.reduceBEq, Int.reduceEq, reduceCtorEq, Nat.reduceMul, Int.reduceLT, Int.reduceLE, Int.reduceToNat, a_len, h2]
    · have hlt : k < (row.getD []).length := by have := of_decide_eq_true h2; omega
      obtain ⟨x, hx⟩ : ∃ x, (row.getD [])[k]? = some x := ⟨_, List.getElem?_eq_getElem hlt⟩
      have ox := hrow x (List.mem_of_getElem? hx)
      have hnx := take_next hx
      have wx := Sh.whole ox
      have lx := Sh.len ox
      have ln := Sh.len (nearTo_ok t x 8)
      try simp only [I, B, D, RW, ↓ KW, fillA, stTags, flat, Nat.reduceBEq, Nat.reduceAdd, Nat.reduceLeDiff, Int.reduceNe, Int.reduceBEq, Int.reduceEq, reduceCtorEq, Nat.reduceMul, Int.reduceLT, Int.reduceLE, Int.reduceToNat, wt, lt, hz, hzl, a_rows, hx, wx, lx]
      refine ⟨by omega, ?_⟩
      refine call_is (hN t x ht ox) ?_
      try simp only [I, B, D, RW, ↓ KW, fillA, stTags, flat, Nat.reduceBEq, Nat.reduceAdd, Nat.reduceLeDiff, Int.reduceNe, Int.reduceBEq, Int.reduceEq, reduceCtorEq, Nat.reduceMul, Int.reduceLT, Int.reduceLE, Int.reduceToNat, nearE, ln]
      have hall : ∀ j : Sh, (nearTo t j 8).cells.length = 33 := fun j => Sh.len (nearTo_ok t j 8)
      have hll : (List.take k (row.getD [])).length ≤ k := by simp; omega
      refine ⟨by omega, ⟨l0, fun j _ => hall j⟩, back (k + 1) _ (by omega) (by omega) ?_⟩
      refine le_tok2 (by decide) ?_ ?_ ?_ ?_ <;> simp [intRow, ownSV, ownL, leSlots, lv_dat, lv_tok, lv_ptr, lv_rp, lv_undef, leBoxes, leTags, leLive, tokM, tokB, tokT, ren, liveInj, r_lk, r_lkN, r_lkB, r_lkN0, I, B, D, withV_some, hwr, hnx, nearE]
    · have hke : k = (row.getD []).length := by have := of_decide_eq_false h2; omega
      subst hke
      rw [List.take_length]
      obtain ⟨L, hL⟩ : ∃ L, L = shOf (begE t) :: (row.getD []).map (nearE t) := ⟨_, rfl⟩
      have hsafe : ∀ i, i < runsN t L → SafeSh t (L.getD i default) := safe_all hsym (by rw [hL]; exact begin_safe t)
      have hLo : ∀ s ∈ L, s.Ok := by
        rw [hL]; intro s hs
        rcases List.mem_cons.1 hs with rfl | hs
        · exact shOf_ok _
        · obtain ⟨x, _, rfl⟩ := List.mem_map.1 hs; exact nearTo_ok _ _ _
      have hLl : L.length ≤ 41 := by rw [hL]; simp; exact hn40
      rw [← hL]
      have hr := hR t (some L) ht hLo (by simp; omega)
      simp only [slAV, Option.getD_some] at hr
      have hrl := runsN_le t L
      generalize runsN t L = n at *
      try simp only [I, B, D, RW, ↓ KW, fillA, stTags, flat, Nat.reduceBEq, Nat.reduceAdd, Nat.reduceLeDiff, Int.reduceNe, Int.reduceBEq, Int.reduceEq, reduceCtorEq, Nat.reduceMul, Int.reduceLT, Int.reduceLE, Int.reduceToNat, wt, lt, hz, hzl]
      refine call_is hr ?_
      have g1 : decide ((n : Int) < 0) = false := by simp
      have g2 : decide ((n : Int) > (L.length : Int)) = false := by simp; omega
      try simp only [I, B, D, RW, ↓ KW, fillA, stTags, flat, Nat.reduceBEq, Nat.reduceAdd, Nat.reduceLeDiff, Int.reduceNe, Int.reduceBEq, Int.reduceEq, reduceCtorEq, Nat.reduceMul, Int.reduceLT, Int.reduceLE, Int.reduceToNat, wt, lt, hz, hzl, g1, g2]
      refine aw_loop' (fun i : Nat => (⟨[(9, .dat (I i) none), (8, .dat (I n) none), (5, .ptr 7 0), (6, .dat (.sl (L.map Sh.cells)) none)], [(7, ⟨t.cells, []⟩)], [], 400⟩ : S)) (fun i => n - i) (fun i => i ≤ n) ?_ 0 (by omega) ?_
      · intro i hi A1 back1
        have hw1 := wrap_succ (k := i) (by omega)
        try simp only [I, B, D, RW, ↓ KW, fillA, stTags, flat, Nat.reduceBEq, Nat.reduceAdd, Nat.reduceLeDiff, Int.reduceNe, Int.reduceBEq, Int.reduceEq, reduceCtorEq, Nat.reduceMul, Int.reduceLT, Int.reduceLE, Int.reduceToNat]
        refine cd_split (fun h3 => ?_) (fun h3 => ?_) <;> try simp only [I, B, D, RW, ↓ KW, fillA, stTags, flat, Nat.reduceBEq, Nat.reduceAdd, Nat.reduceLeDiff, Int.reduceNe, Int.reduceBEq, Int.reduceEq, reduceCtorEq, Nat.reduceMul, Int.reduceLT, Int.reduceLE, Int.reduceToNat, h3]
        · have hin : i < n := by have := of_decide_eq_true h3; omega
          refine aw_loop' (fun p : Nat => (⟨[(10, .dat (I p) none), (9, .dat (I i) none), (8, .dat (I n) none), (5, .ptr 7 0), (6, .dat (.sl (L.map Sh.cells)) none)], [(7, ⟨t.cells, []⟩)], [], 400⟩ : S)) (fun p => 8 - p) (fun p => p ≤ 8) ?_ 0 (by omega) ?_
          · intro p hp A2 back2
            have hw2 := wrap_succ (k := p) (by omega)
            try simp only [I, B, D, RW, ↓ KW, fillA, stTags, flat, Nat.reduceBEq, Nat.reduceAdd, Nat.reduceLeDiff, Int.reduceNe, Int.reduceBEq, Int.reduceEq, reduceCtorEq, Nat.reduceMul, Int.reduceLT, Int.reduceLE, Int.reduceToNat]
            refine cd_split (fun h4 => ?_) (fun h4 => ?_) <;> try simp only [I, B, D, RW, ↓ KW, fillA, stTags, flat, Nat.reduceBEq, Nat.reduceAdd, Nat.reduceLeDiff, Int.reduceNe, Int.reduceBEq, Int.reduceEq, reduceCtorEq, Nat.reduceMul, Int.reduceLT, Int.reduceLE, Int.reduceToNat, h4]
            · have hp8 : p < 8 := by have := of_decide_eq_true h4; omega
              refine aw_loop' (fun q : Nat => (⟨[(11, .dat (I q) none), (10, .dat (I p) none), (9, .dat (I i) none), (8, .dat (I n) none), (5, .ptr 7 0), (6, .dat (.sl (L.map Sh.cells)) none)], [(7, ⟨t.cells, []⟩)], [], 400⟩ : S)) (fun q => p - q) (fun q => q ≤ p) ?_ 0 (by omega) ?_
              · intro q hq A3 back3
                have hw3 := wrap_succ (k := q) (by omega)
                try simp only [I, B, D, RW, ↓ KW, fillA, stTags, flat, Nat.reduceBEq, Nat.reduceAdd, Nat.reduceLeDiff, Int.reduceNe, Int.reduceBEq, Int.reduceEq, reduceCtorEq, Nat.reduceMul, Int.reduceLT, Int.reduceLE, Int.reduceToNat]
                refine cd_split (fun h5 => ?_) (fun h5 => ?_) <;> try simp only [I, B, D, RW, ↓ KW, fillA, stTags, flat, Nat.reduceBEq, Nat.reduceAdd, Nat.reduceLeDiff, Int.reduceNe, Int.reduceBEq, Int.reduceEq, reduceCtorEq, Nat.reduceMul, Int.reduceLT, Int.reduceLE, Int.reduceToNat, h5]
                · have hqp : q < p := by have := of_decide_eq_true h5; omega
                  have hx1 : 0 ≤ (p : Int) ∧ (p : Int) < (8 : Nat) := by omega
                  have hx2 : 0 ≤ (q : Int) ∧ (q : Int) < (8 : Nat) := by omega
                  have hx3 : 0 ≤ (i : Int) ∧ (i : Int) < ((L.length : Nat) : Int) := by omega
                  have hil : i < L.length := by omega
                  obtain ⟨x, hx⟩ : ∃ x, L[i]? = some x := ⟨_, List.getElem?_eq_getElem hil⟩
                  have ox := hLo x (List.mem_of_getElem? hx)
                  have dx : L.getD i default = x := by rw [List.getD_eq_getElem?_getD, hx]; rfl
                  have sx := hsafe i hin
                  rw [dx] at sx
                  obtain ⟨a1, _, _, _⟩ := Sh.at ox hp8
                  obtain ⟨b1, _, _, _⟩ := Sh.at ox (show q < 8 by omega)
                  have lx := Sh.len ox
                  have a1' : (x.cells.drop p)[0]? = some (AV.int .i64 (x.c p)) := by rw [List.getElem?_drop]; exact a1
                  have b1' : (x.cells.drop q)[0]? = some (AV.int .i64 (x.c q)) := by rw [List.getElem?_drop]; exact b1
                  try simp only [I, B, D, RW, ↓ KW, fillA, stTags, flat, Nat.reduceBEq, Nat.reduceAdd, Nat.reduceLeDiff, Int.reduceNe, Int.reduceBEq, Int.reduceEq, reduceCtorEq, Nat.reduceMul, Int.reduceLT, Int.reduceLE, Int.reduceToNat, wt, hx1, hx2, hx3, hx, a1', b1', lx]
                  refine call_is (hC t p q ht hp8 (by omega)) ?_
                  try simp only [I, B, D, RW, ↓ KW, fillA, stTags, flat, Nat.reduceBEq, Nat.reduceAdd, Nat.reduceLeDiff, Int.reduceNe, Int.reduceBEq, Int.reduceEq, reduceCtorEq, Nat.reduceMul, Int.reduceLT, Int.reduceLE, Int.reduceToNat, wt, hx1, hx2, hx3, hx, a1', b1', lx]
                  cases hcl : clashB t p q
                  · try simp only [I, B, D, RW, ↓ KW, fillA, stTags, flat, Nat.reduceBEq, Nat.reduceAdd, Nat.reduceLeDiff, Int.reduceNe, Int.reduceBEq, Int.reduceEq, reduceCtorEq, Nat.reduceMul, Int.reduceLT, Int.reduceLE, Int.reduceToNat, wt, hx1, hx2, hx3, hx, a1', b1', lx]
                    refine back3 (q + 1) _ (by omega) (by omega) ?_
                    refine le_tok2 (by decide) ?_ ?_ ?_ ?_ <;> simp [intRow, ownSV, ownL, leSlots, lv_dat, lv_tok, lv_ptr, lv_rp, lv_undef, leBoxes, leTags, leLive, tokM, tokB, tokT, ren, liveInj, r_lk, r_lkN, r_lkB, r_lkN0, I, B, D, withV_some, hw3]
                  · try simp only [I, B, D, RW, ↓ KW, fillA, stTags, flat, Nat.reduceBEq, Nat.reduceAdd, Nat.reduceLeDiff, Int.reduceNe, Int.reduceBEq, Int.reduceEq, reduceCtorEq, Nat.reduceMul, Int.reduceLT, Int.reduceLE, Int.reduceToNat, wt, hx1, hx2, hx3, hx, a1', b1', lx]
                    have hs := sx.1 p q hp8 (by omega) hcl
                    cases hz1 : x.c p != 0
                    · try simp only [I, B, D, RW, ↓ KW, fillA, stTags, flat, Nat.reduceBEq, Nat.reduceAdd, Nat.reduceLeDiff, Int.reduceNe, Int.reduceBEq, Int.reduceEq, reduceCtorEq, Nat.reduceMul, Int.reduceLT, Int.reduceLE, Int.reduceToNat, wt, hx1, hx2, hx3, hx, a1', b1', lx, hz1]
                      refine back3 (q + 1) _ (by omega) (by omega) ?_
                      refine le_tok2 (by decide) ?_ ?_ ?_ ?_ <;> simp [intRow, ownSV, ownL, leSlots, lv_dat, lv_tok, lv_ptr, lv_rp, lv_undef, leBoxes, leTags, leLive, tokM, tokB, tokT, ren, liveInj, r_lk, r_lkN, r_lkB, r_lkN0, I, B, D, withV_some, hw3]
                    · cases hz2 : x.c q != 0
                      · try simp only [I, B, D, RW, ↓ KW, fillA, stTags, flat, Nat.reduceBEq, Nat.reduceAdd, Nat.reduceLeDiff, Int.reduceNe, Int.reduceBEq, Int.reduceEq, reduceCtorEq, Nat.reduceMul, Int.reduceLT, Int.reduceLE, Int.reduceToNat, wt, hx1, hx2, hx3, hx, a1', b1', lx, hz1, hz2]
                        refine back3 (q + 1) _ (by omega) (by omega) ?_
                        refine le_tok2 (by decide) ?_ ?_ ?_ ?_ <;> simp [intRow, ownSV, ownL, leSlots, lv_dat, lv_tok, lv_ptr, lv_rp, lv_undef, leBoxes, leTags, leLive, tokM, tokB, tokT, ren, liveInj, r_lk, r_lkN, r_lkB, r_lkN0, I, B, D, withV_some, hw3]
                      · exfalso; simp at hz1 hz2; omega
                · try simp only [I, B, D, RW, ↓ KW, fillA, stTags, flat, Nat.reduceBEq, Nat.reduceAdd, Nat.reduceLeDiff, Int.reduceNe, Int.reduceBEq, Int.reduceEq, reduceCtorEq, Nat.reduceMul, Int.reduceLT, Int.reduceLE, Int.reduceToNat]
                  refine back2 (p + 1) _ (by omega) (by omega) ?_
                  refine le_tok2 (by decide) ?_ ?_ ?_ ?_ <;> simp [intRow, ownSV, ownL, leSlots, lv_dat, lv_tok, lv_ptr, lv_rp, lv_undef, leBoxes, leTags, leLive, tokM, tokB, tokT, ren, liveInj, r_lk, r_lkN, r_lkB, r_lkN0, I, B, D, withV_some, hw2]
              · refine le_tok2 (by decide) ?_ ?_ ?_ ?_ <;> simp [intRow, ownSV, ownL, leSlots, lv_dat, lv_tok, lv_ptr, lv_rp, lv_undef, leBoxes, leTags, leLive, tokM, tokB, tokT, ren, liveInj, r_lk, r_lkN, r_lkB, r_lkN0, I, B, D, withV_some]
            · try simp only [I, B, D, RW, ↓ KW, fillA, stTags, flat, Nat.reduceBEq, Nat.reduceAdd, Nat.reduceLeDiff, Int.reduceNe, Int.reduceBEq, Int.reduceEq, reduceCtorEq, Nat.reduceMul, Int.reduceLT, Int.reduceLE, Int.reduceToNat]
              refine back1 (i + 1) _ (by omega) (by omega) ?_
              refine le_tok2 (by decide) ?_ ?_ ?_ ?_ <;> simp [intRow, ownSV, ownL, leSlots, lv_dat, lv_tok, lv_ptr, lv_rp, lv_undef, leBoxes, leTags, leLive, tokM, tokB, tokT, ren, liveInj, r_lk, r_lkN, r_lkB, r_lkN0, I, B, D, withV_some, hw1]
          · refine le_tok2 (by decide) ?_ ?_ ?_ ?_ <;> simp [intRow, ownSV, ownL, leSlots, lv_dat, lv_tok, lv_ptr, lv_rp, lv_undef, leBoxes, leTags, leLive, tokM, tokB, tokT, ren, liveInj, r_lk, r_lkN, r_lkB, r_lkN0, I, B, D, withV_some]
        · try simp only [I, B, D, RW, ↓ KW, fillA, stTags, flat, Nat.reduceBEq, Nat.reduceAdd, Nat.reduceLeDiff, Int.reduceNe, Int.reduceBEq, Int.reduceEq, reduceCtorEq, Nat.reduceMul, Int.reduceLT, Int.reduceLE, Int.reduceToNat]
          refine call_is hw ?_
          try simp only [I, B, D, RW, ↓ KW, fillA, stTags, flat, Nat.reduceBEq, Nat.reduceAdd, Nat.reduceLeDiff, Int.reduceNe, Int.reduceBEq, Int.reduceEq, reduceCtorEq, Nat.reduceMul, Int.reduceLT, Int.reduceLE, Int.reduceToNat]
      · refine le_tok2 (by decide) ?_ ?_ ?_ ?_ <;> simp [intRow, ownSV, ownL, leSlots, lv_dat, lv_tok, lv_ptr, lv_rp, lv_undef, leBoxes, leTags, leLive, tokM, tokB, tokT, ren, liveInj, r_lk, r_lkN, r_lkB, r_lkN0, I, B, D, withV_some]
  · refine le_tok2 (by decide) ?_ ?_ ?_ ?_ <;> simp [intRow, ownSV, ownL, leSlots, lv_dat, lv_tok, lv_ptr, lv_rp, lv_undef, leBoxes, leTags, leLive, tokM, tokB, tokT, ren, liveInj, r_lk, r_lkN, r_lkB, r_lkN0, I, B, D, withV_some]
end
end Go.Eng
namespace Go.Eng
set_option linter.unusedVariables false
set_option linter.unusedSimpArgs false
set_option linter.unnecessarySimpa false
open Go
set_option linter.unusedVariables false
set_option linter.unusedSimpArgs false
set_option maxRecDepth 10000
set_option maxHeartbeats 4000000
open Go.RowKit
def cntF (p : Nat → Bool) (k : Nat) : Nat := ((List.range k).filter p).length
theorem cntF_succ (p : Nat → Bool) (k : Nat) : cntF p (k + 1) = if p k then cntF p k + 1 else cntF p k := by
  simp only [cntF, List.range_succ, List.filter_append, List.filter_cons, List.filter_nil]
  split <;> simp
theorem cntF_at (p : Nat → Bool) {k : Nat} (hp : p k = true) : ∀ n, k < n → ((List.range n).filter p)[cntF p k]? = some k
  | n + 1, h => by
    simp only [List.range_succ, List.filter_append]
    by_cases hk : k < n
    · have ih := cntF_at p hp n hk
      rw [List.getElem?_append_left (List.getElem?_eq_some_iff.1 ih).1, ih]
    · obtain rfl : k = n := by omega
      rw [List.getElem?_append_right (by simp [cntF])]
      simp [cntF, hp]
theorem bits_one (s : Int) {k : Nat} (hk : k < 8) : (bits .and .i64 (s / 2 ^ k) 1 = 1) ↔ tb s k = true := by
  have h := shr_and s hk
  have e : min k IntKind.i64.bits = k := by have : IntKind.i64.bits = 64 := rfl; omega
  rw [e, Int.fdiv_eq_ediv_of_nonneg _ (by exact Int.pow_nonneg (by decide))] at h
  have h' : bits .and .i64 (s / 2 ^ k) 1 = if tb s k then 1 else 0 := h
  rw [h']
  cases tb s k <;> simp
def EachSome (P : Program) (fn : Nat) : Prop := ∀ (l B1 o1 B2 o2 b off len cap : Nat) (s : Int) (f : Nat → Nat → Int) (J : Nat → World → Prop) (Jx : World → Prop) (W : World) (cnt : Nat → Nat), cnt 0 = 0 →
    (∀ k, k < 4 → bits .and .i64 (s / 2 ^ k) 1 = 1 → cnt (k + 1) = cnt k + 1) → (∀ k, k < 4 → ¬ bits .and .i64 (s / 2 ^ k) 1 = 1 → cnt (k + 1) = cnt k) → len ≤ cap →
    W.cell? ⟨B1, o1 + 115, none⟩ = some (.slice (some ⟨b, off, none⟩) len cap) →
    (∀ i wr, J i wr → (∀ k, k < min len 4 → wr.cell? ⟨b, off + k * 2, none⟩ = some (.int .i64 (f k 0)) ∧ wr.cell? ⟨b, off + k * 2 + 1, none⟩ = some (.int .i64 (f k 1))) ∧ wr.cell? ⟨B2, o2, none⟩ = some (.int .i64 s)) →
    (∀ i wr o, J i wr → J i (wr.alloc o)) → (∀ wr o, Jx wr → Jx (wr.alloc o)) →
    (∀ n k wr, k < min len 4 → bits .and .i64 (s / 2 ^ k) 1 = 1 → J (cnt k) wr → YieldAt Fence.wide n P l #[.int .i64 k, .agg #[.int .i64 (f k 0), .int .i64 (f k 1)]] wr fun e W' => (e = .returned (.bool true) ∧ J (cnt k + 1) W') ∨ (e = .returned (.bool false) ∧ Jx W')) →
    J 0 W →
    Calls P fn #[.func (.yield l) #[] #[], .pointer (some ⟨B1, o1, none⟩), .pointer (some ⟨B2, o2, none⟩)] W fun e W' => (∃ v, e = .returned v) ∧ (J (cnt (min len 4)) W' ∨ Jx W')
def EachNone (P : Program) (fn : Nat) : Prop := ∀ (x : Option Addr) (l B1 o1 B2 o2 : Nat) (J : World → Prop) (W : World), W.cell? ⟨B1, o1 + 115, none⟩ = some (.slice x 0 0) → (∀ wr o, J wr → J (wr.alloc o)) → J W →
    Calls P fn #[.func (.yield l) #[] #[], .pointer (some ⟨B1, o1, none⟩), .pointer (some ⟨B2, o2, none⟩)] W fun e W' => (∃ v, e = .returned v) ∧ J W'
theorem below_alloc (w : World) (o : Obj) : Below w.heap.size w (w.alloc o) := (Below.refl _ w).alloc (Nat.le_refl _) o
theorem dv_int {w : World} {π : Nat → Nat → Prop} {k : IntKind} {n : Int} {v : Value} (h : DV w π (.int k n) v) : v = .int k n := by cases h; rfl
theorem each1.of {P : Program} {fn : Nat} (hca : callable P fn = true) (hS : EachSome P fn) (hN : EachNone P fn) : each1.Spec (Pure P) fn := by
  intro t s ht
  refine ⟨fn, _, rfl, hca, ?_, ?_⟩
  · intro x hx a ha
    obtain ⟨k, _, rfl⟩ := List.mem_map.1 hx
    simp only [busRow, List.mem_cons, List.not_mem_nil, or_false] at ha
    rcases ha with rfl | rfl <;> simp [flatV, flat1, Bs.cells, I]
  intro l J Jx W π vs hπ dv hJk hJb hJxb hY h0
  obtain ⟨hlen, hdv⟩ := dv
  match vs, hlen with
  | [v0, v1], _ =>
  have d0 := hdv 0 _ _ rfl rfl
  have d1 := hdv 1 _ _ rfl rfl
  cases d0 with
  | ref _ B1 o1 g1 a1 a2 a3 a4 =>
  cases d1 with
  | ref _ B2 o2 g2 b1 b2 b3 b4 =>
  have hsl := a3 115 _ (Tb.buses_at ht)
  have hdb := a4 115 _ (Tb.buses_at ht)
  have hs0 := b3 0 (I s) rfl
  rw [dv_int (b4 0 (I s) rfl), Nat.add_zero] at hs0
  have hp2 : π B2 o2 := by have := b2 0 (I s) rfl; rwa [Nat.add_zero] at this
  have hst : ∀ i wr o, J i wr → J i (World.alloc wr o) := fun i wr o h => hJb i _ _ h (below_alloc _ _)
  have hstx : ∀ wr o, Jx wr → Jx (World.alloc wr o) := fun wr o h => hJxb _ _ h (below_alloc _ _)
  generalize hgv : g1 115 = gv at hsl hdb
  cases hbb : t.buses with
  | none =>
    rw [hbb] at hdb
    cases hdb
    have he : eachK t s = [] := by simp [eachK, nBus, hbb]
    refine (hN none l B1 o1 B2 o2 (J 0) W hsl (fun wr o => hst 0 wr o) h0).mono ?_
    rintro e W' ⟨h1, h2⟩
    exact ⟨h1, .inl (by rw [he]; exact h2)⟩
  | some L =>
    rw [hbb] at hdb
    generalize hxs : L.map Bs.cells = xs at hdb
    have hdb' : DV W π (.sl xs) gv := by rw [← hxs]; exact hdb
    cases hdb' with
    | sl0 a =>
      have hL : L = [] := by simpa using hxs
      have he : eachK t s = [] := by simp [eachK, nBus, hbb, hL]
      refine (hN (some a) l B1 o1 B2 o2 (J 0) W hsl (fun wr o => hst 0 wr o) h0).mono ?_
      rintro e W' ⟨h1, h2⟩
      exact ⟨h1, .inl (by rw [he]; exact h2)⟩
    | sl _ B off cap z f c1 c2 c3 c4 c5 c6 =>
    have hxl : xs.length = L.length := by rw [← hxs]; simp
    have hrow : ∀ k, k < L.length → xs[k]? = some (busAt t k).cells := fun k hk => by
      rw [← hxs]; simp [busAt, hbb, hk]
    have hz : ∀ k, k < L.length → z = 2 := fun k hk => (c2 k _ (hrow k hk)).symm
    have hcell : ∀ k, k < L.length → (W.cell? ⟨B, off + k * 2, none⟩ = some (.int .i64 (busAt t k).set) ∧ W.cell? ⟨B, off + k * 2 + 1, none⟩ = some (.int .i64 (busAt t k).lock)) ∧ π B (off + k * 2) ∧ π B (off + k * 2 + 1) := fun k hk => by
      have hz' := hz k hk
      subst hz'
      have e0 := c5 k 0 _ _ (hrow k hk) rfl
      have e1 := c5 k 1 _ _ (hrow k hk) rfl
      rw [dv_int (c6 k 0 _ _ (hrow k hk) rfl)] at e0
      rw [dv_int (c6 k 1 _ _ (hrow k hk) rfl)] at e1
      exact ⟨⟨e0, e1⟩, c4 k 0 _ _ (hrow k hk) rfl, c4 k 1 _ _ (hrow k hk) rfl⟩
    have hnb : nBus t = min xs.length 4 := by simp [nBus, hbb, hxl]
    have hek : ((eachK t s).map (busRow t)).length = cntF (fun k => tb s k) (min xs.length 4) := by simp [eachK, cntF, hnb]
    rw [hek]
    refine hS l B1 o1 B2 o2 B off xs.length cap s (fun k c => if c = 0 then (busAt t k).set else (busAt t k).lock) J Jx W (cntF fun k => tb s k) rfl ?_ ?_ c1 hsl ?_ hst hstx ?_ h0
    · intro k hk hb; rw [cntF_succ, if_pos ((bits_one s (by omega)).1 hb)]
    · intro k hk hb; rw [cntF_succ, if_neg (fun h => hb ((bits_one s (by omega)).2 h))]
    · intro i wr hJ
      refine ⟨fun k hk => ?_, ?_⟩
      · obtain ⟨⟨e0, e1⟩, p0, p1⟩ := hcell k (by omega)
        simp only [if_true, if_neg (show ¬ (1 : Nat) = 0 by decide)]
        exact ⟨(hJk i wr hJ _ _ p0).trans e0, (hJk i wr hJ _ _ p1).trans e1⟩
      · exact (hJk i wr hJ _ _ hp2).trans hs0
    · intro n k wr hk hb hJ
      have hb' := (bits_one s (by omega)).1 hb
      have hat := cntF_at (fun k => tb s k) hb' (nBus t) (by omega)
      have hx : ((eachK t s).map (busRow t))[cntF (fun k => tb s k) k]? = some (busRow t k) := by rw [List.getElem?_map, eachK, hat]; rfl
      exact hY n _ _ wr hx hJ
end Go.Eng
namespace Go.Eng
set_option linter.unusedVariables false
set_option linter.unusedSimpArgs false
set_option linter.unnecessarySimpa false
open Go
set_option linter.unusedVariables false
set_option linter.unusedSimpArgs false
set_option maxRecDepth 10000
set_option maxHeartbeats 4000000
open Go.RowKit
def HasCall (P : Program) (fH : Nat) : Prop := ∀ (s p : Int) (w : World), Calls P fH #[.int .i64 s, .int .i64 p] w fun e w' => e = .returned (.bool (hasS s p)) ∧ Below w.heap.size w w'
theorem HasCall.of {P : Program} {fH : Nat} (h : setHas.Spec (Pure P) fH) : HasCall P fH := by
  intro s p w
  refine ((h s p).2 w (fun _ _ => False) [.int .i64 s, .int .i64 p] (fun _ _ h => h.elim) ⟨rfl, ?_⟩).mono fun e w' ⟨v, π', he, hb, _, _, _, hdv, _⟩ => ?_
  · intro i a v ha hv
    match i with
    | 0 => simp at ha hv; subst ha; subst hv; exact .int _ _
    | 1 => simp at ha hv; subst ha; subst hv; exact .int _ _
    | i + 2 => simp at ha
  cases hdv
  exact ⟨he, hb⟩
def SetEach (P : Program) (fn : Nat) : Prop := ∀ (l B2 o2 : Nat) (s : Int) (J : Nat → World → Prop) (Jx : World → Prop) (W : World) (cnt : Nat → Nat), cnt 0 = 0 →
    (∀ k : Nat, k < 8 → hasS s k = true → cnt (k + 1) = cnt k + 1) → (∀ k : Nat, k < 8 → hasS s k = false → cnt (k + 1) = cnt k) →
    (∀ i wr, J i wr → wr.cell? ⟨B2, o2, none⟩ = some (.int .i64 s)) →
    (∀ i wr wr', J i wr → Below wr.heap.size wr wr' → J i wr') → (∀ wr wr', Jx wr → Below wr.heap.size wr wr' → Jx wr') →
    (∀ (n k : Nat) wr, k < 8 → hasS s k = true → J (cnt k) wr → YieldAt Fence.wide n P l #[.int .i64 k] wr fun e W' => (e = .returned (.bool true) ∧ J (cnt k + 1) W') ∨ (e = .returned (.bool false) ∧ Jx W')) →
    J 0 W →
    Calls P fn #[.func (.yield l) #[] #[], .pointer (some ⟨B2, o2, none⟩)] W fun e W' => (∃ v, e = .returned v) ∧ (J (cnt 8) W' ∨ Jx W')
theorem setEach1.of {P : Program} {fn : Nat} (hca : callable P fn = true) (hS : SetEach P fn) : setEach1.Spec (Pure P) fn := by
  intro s
  refine ⟨fn, _, rfl, hca, ?_, ?_⟩
  · intro x hx a ha
    obtain ⟨k, _, rfl⟩ := List.mem_map.1 hx
    simp only [List.mem_cons, List.not_mem_nil, or_false] at ha
    subst ha; simp [flatV, flat1, I]
  intro l J Jx W π vs hπ dv hJk hJb hJxb hY h0
  obtain ⟨hlen, hdv⟩ := dv
  match vs, hlen with
  | [v1], _ =>
  have d1 := hdv 0 _ _ rfl rfl
  cases d1 with
  | ref _ B2 o2 g2 b1 b2 b3 b4 =>
  have hs0 := b3 0 (I s) rfl
  rw [dv_int (b4 0 (I s) rfl), Nat.add_zero] at hs0
  have hp2 : π B2 o2 := by have := b2 0 (I s) rfl; rwa [Nat.add_zero] at this
  have hek : (((List.range 8).filter fun p => tb s p).map fun (p : Nat) => [I p]).length = cntF (fun k => tb s k) 8 := by simp [cntF]
  rw [hek]
  refine hS l B2 o2 s J Jx W (cntF fun k => tb s k) rfl ?_ ?_ ?_ (fun i wr wr' h hb => hJb i _ _ h hb) (fun wr wr' h hb => hJxb _ _ h hb) ?_ h0
  · intro k hk hb; rw [hasS_tb (by omega)] at hb; rw [cntF_succ, if_pos hb]
  · intro k hk hb; rw [hasS_tb (by omega)] at hb; rw [cntF_succ, if_neg (by rw [hb]; simp)]
  · intro i wr hJ
    exact (hJk i wr hJ _ _ hp2).trans hs0
  · intro n k wr hk hb hJ
    rw [hasS_tb (by omega)] at hb
    have hat := cntF_at (fun k => tb s k) hb 8 (by omega)
    have hx : (((List.range 8).filter fun p => tb s p).map fun (p : Nat) => [I p])[cntF (fun k => tb s k) k]? = some [I k] := by rw [List.getElem?_map, hat]; rfl
    exact hY n _ _ wr hx hJ
end Go.Eng
namespace Go.Eng
set_option linter.unusedVariables false
set_option linter.unusedSimpArgs false
set_option linter.unnecessarySimpa false
open Go
set_option linter.unusedVariables false
set_option linter.unusedSimpArgs false
set_option maxRecDepth 10000
set_option maxHeartbeats 4000000
def Al {α β : Type} (R : α → β → Prop) : List α → List β → Prop
  | [], [] => True
  | a :: l, b :: m => R a b ∧ Al R l m
  | _, _ => False
theorem Al.len {α β : Type} {R : α → β → Prop} : ∀ {l : List α} {m : List β}, Al R l m → l.length = m.length
  | [], [], _ => rfl
  | a :: l, b :: m, h => by simp [Al.len h.2]
  | [], b :: m, h => h.elim
  | a :: l, [], h => h.elim
theorem Al.get {α β : Type} {R : α → β → Prop} : ∀ {l : List α} {m : List β}, Al R l m → ∀ (i : Nat) (a : α) (b : β), l[i]? = some a → m[i]? = some b → R a b
  | a :: l, b :: m, h, 0, x, y, hx, hy => by simp at hx hy; subst hx; subst hy; exact h.1
  | a :: l, b :: m, h, i + 1, x, y, hx, hy => Al.get h.2 i x y (by simpa using hx) (by simpa using hy)
  | [], _, _, i, _, _, hx, _ => by simp at hx
theorem Al.mk {α β : Type} {R : α → β → Prop} : ∀ {l : List α} {m : List β}, l.length = m.length → (∀ (i : Nat) (a : α) (b : β), l[i]? = some a → m[i]? = some b → R a b) → Al R l m
  | [], [], _, _ => trivial
  | a :: l, b :: m, h, f => ⟨f 0 a b rfl rfl, Al.mk (by simpa using h) fun i x y hx hy => f (i + 1) x y (by simpa using hx) (by simpa using hy)⟩
theorem Al.append {α β : Type} {R : α → β → Prop} : ∀ {l : List α} {m : List β} {l' : List α} {m' : List β}, Al R l m → Al R l' m' → Al R (l ++ l') (m ++ m')
  | [], [], _, _, _, h => h
  | a :: l, b :: m, _, _, h, h' => ⟨h.1, Al.append h.2 h'⟩
theorem Al.n {α β : Type} {R : α → β → Prop} : Al R ([] : List α) ([] : List β) := trivial
theorem Al.c {α β : Type} {R : α → β → Prop} {a : α} {b : β} {l : List α} {m : List β} (h : R a b) (t : Al R l m) : Al R (a :: l) (b :: m) := ⟨h, t⟩
theorem Al.nil_inv {α β : Type} {R : α → β → Prop} {m : List β} (h : Al R [] m) : m = [] := by
  cases m with
  | nil => rfl
  | cons b m => exact h.elim
theorem Al.cons_inv {α β : Type} {R : α → β → Prop} {a : α} {l : List α} {m : List β} (h : Al R (a :: l) m) : ∃ b m', m = b :: m' ∧ R a b ∧ Al R l m' := by
  cases m with
  | nil => exact h.elim
  | cons b m => exact ⟨b, m, rfl, h.1, h.2⟩
inductive Sc where
  | bool
  | int (k : IntKind)
  | flt (k : FloatKind)
  | str
inductive Ty where
  | sc (s : Sc)
  | sl (l : List Ty)
def tyParts (sz : TypeId → Nat) (F : TypeId → Option (List Ty)) : Nat → List (Nat × TypeId) → Option (List Ty)
  | _, [] => some []
  | o, f :: r => if f.1 = o then match F f.2 with
      | some l => if sz f.2 = l.length then match tyParts sz F (o + l.length) r with
        | some m => some (l ++ m)
        | none => none
        else none
      | none => none
    else none
def tyOf (P : Program) : Nat → TypeId → Option (List Ty)
  | 0, _ => none
  | n + 1, t => match P.underlying t with
    | some .bool => some [.sc .bool]
    | some (.int k) => some [.sc (.int k)]
    | some (.float k) => some [.sc (.flt k)]
    | some .string => some [.sc .str]
    | some (.slice e) => match tyOf P n e with
      | some l => if P.cellsOf e = l.length ∧ 0 < l.length then some [.sl l] else none
      | none => none
    | some (.struct fs) => match tyParts P.cellsOf (tyOf P n) 0 (fs.toList.map fun f => (f.offset, f.type)) with
      | some l => if P.cellsOf t = l.length then some l else none
      | none => none
    | some (.array k e) => match tyParts P.cellsOf (tyOf P n) 0 ((List.range k).map fun i => (i * P.cellsOf e, e)) with
      | some l => if P.cellsOf t = l.length then some l else none
      | none => none
    | _ => none
def ScV : Sc → AV → Prop
  | .bool, .bool _ => True
  | .int k, .int k' n => k' = k ∧ (Lit.int k n).wf = true
  | .flt k, .float k' b => k' = k ∧ (Lit.float k b).wf = true
  | .str, .str s => s.size ≤ maxLen
  | _, _ => False
mutual
def TyV : Ty → AV → Prop
  | .sc s, a => ScV s a
  | .sl _, .nils => True
  | .sl l, .sl xs => xs.length ≤ maxLen ∧ ∀ r ∈ xs, TysV l r
  | _, _ => False
def TysV : List Ty → List AV → Prop
  | [], [] => True
  | t :: l, a :: r => TyV t a ∧ TysV l r
  | _, _ => False
end
theorem tysV_al : ∀ {l : List Ty} {as : List AV}, TysV l as ↔ Al TyV l as
  | [], [] => by simp [TysV, Al]
  | t :: l, a :: r => by simp only [TysV, Al]; rw [tysV_al (l := l) (as := r)]
  | [], a :: r => by simp [TysV, Al]
  | t :: l, [] => by simp [TysV, Al]
def oldP (W : World) : Nat → Nat → Prop := fun b _ => b < W.heap.size
theorem cell_lt {W : World} {a : Addr} {v : Value} (h : W.cell? a = some v) : a.block < W.heap.size := by
  unfold World.cell? at h
  split at h
  · rename_i hh; exact heap_lt hh
  · cases h
theorem ScV.scalar {s : Sc} {a : AV} (h : ScV s a) : a.scalar = true := by cases s <;> cases a <;> first | exact h.elim | rfl
theorem TyV.scalar {s : Ty} {a : AV} (h : TyV s a) : a.scalar = true := by
  cases s with
  | sc s => exact ScV.scalar (by simpa [TyV] using h)
  | sl l => cases a <;> first | rfl | (simp [TyV] at h)
section
variable {H : Type} {enc : TypeId × Value → H} {P : Program} {W : World} {base : Nat}
open Go.ChangeShapes Go.WideShapes Go.ChangeAt Go.RowKit
theorem trod_float {sp : Nat → Bool} {held : Bool} {b0 fuel : Nat} {t : TypeId} {cs : List Value} {x : DataW H × List MemPlace} {k : FloatKind} (ht : P.underlying t = some (.float k)) (h : DataW.trod enc P W b0 sp held fuel t cs = some x) : ∃ n, cs = [.float k n] ∧ (Lit.float k n).wf = true := by
  cases fuel with
  | zero => simp [DataW.trod] at h
  | succ n =>
    unfold DataW.trod at h
    rw [ht] at h
    split at h <;> simp_all
theorem parts_open {sp : TypeId → Nat} {G : TypeId → Option (List Ty)} {Tr : TypeId → List Value → Prop}
    (each : ∀ t l cs, G t = some l → Tr t cs → ∃ as, Al TyV l as ∧ Al (DV W (oldP W)) as cs) : ∀ (ps : List (Nat × TypeId)) (o : Nat) (l : List Ty) (cs : List Value), tyParts sp G o ps = some l → cs.length = o + l.length →
      (∀ (i : Nat) (f : Nat × TypeId), ps[i]? = some f → Tr f.2 ((cs.drop f.1).take (sp f.2))) → ∃ as, Al TyV l as ∧ Al (DV W (oldP W)) as (cs.drop o)
  | [], o, l, cs, h, hl, _ => by
    simp only [tyParts, Option.some.injEq] at h
    subst h
    refine ⟨[], trivial, ?_⟩
    rw [List.drop_of_length_le (by simp at hl; omega)]; trivial
  | f :: ps, o, l, cs, h, hl, htr => by
    simp only [tyParts] at h
    split at h <;> try (cases h; done)
    rename_i ho
    split at h <;> try (cases h; done)
    rename_i l1 hl1
    split at h <;> try (cases h; done)
    rename_i hsz
    split at h <;> try (cases h; done)
    rename_i m hm
    cases h
    have h0 := htr 0 f rfl
    rw [ho, hsz] at h0
    obtain ⟨as1, ht1, hd1⟩ := each f.2 l1 _ hl1 h0
    obtain ⟨as2, ht2, hd2⟩ := parts_open each ps (o + l1.length) m cs hm (by rw [hl]; simp; omega) (fun i g hg => htr (i + 1) g (by simpa using hg))
    refine ⟨as1 ++ as2, ht1.append ht2, ?_⟩
    have := hd1.append hd2
    rw [← List.drop_drop, List.take_append_drop] at this
    exact this
omit H enc P W base in
theorem cell_spot' {w : World} {b o : Nat} {sp : Option Nat} {v : Value} (h : w.cell? ⟨b, o, sp⟩ = some v) : sp = none := by
  cases sp with
  | none => rfl
  | some x => unfold World.cell? at h; split at h <;> simp at h
theorem add_off {a : Addr} {n : Nat} (h : a.spot = none) : a.add n = ⟨a.block, a.off + n, none⟩ := by
  obtain ⟨b, o, s⟩ := a
  simp only at h; subst h
  unfold Addr.add; split
  · rename_i hh; subst hh; rfl
  · rfl
theorem ty_open : ∀ (n : Nat) (t : TypeId) (l : List Ty), tyOf P n t = some l → ∀ (cs : List Value) (x : DataW H × List MemPlace) (fuel : Nat),
    DataW.trod enc P W 0 (fun _ => true) true fuel t cs = some x → ∃ as, Al TyV l as ∧ Al (DV W (oldP W)) as cs
  | 0, t, l, h, cs, x, fuel, hx => by cases h
  | n + 1, t, l, h, cs, x, fuel, hx => by
    simp only [tyOf] at h
    split at h
    · rename_i ht; cases h
      obtain ⟨b, rfl, _⟩ := DataW.trod_bool ht hx
      exact ⟨[.bool b], ⟨by simp [TyV, ScV], trivial⟩, ⟨.bool b, trivial⟩⟩
    · rename_i k ht; cases h
      obtain ⟨m, rfl, _, hw⟩ := DataW.trod_int ht hx
      exact ⟨[.int k m], ⟨by simp only [TyV]; exact ⟨rfl, hw⟩, trivial⟩, ⟨.int k m, trivial⟩⟩
    · rename_i k ht; cases h
      obtain ⟨m, rfl, hw⟩ := trod_float ht hx
      exact ⟨[.float k m], ⟨by simp only [TyV]; exact ⟨rfl, hw⟩, trivial⟩, ⟨.float k m, trivial⟩⟩
    · rename_i ht; cases h
      obtain ⟨s, rfl, _, hw⟩ := DataW.trod_string ht hx
      exact ⟨[.str s], ⟨by simp only [TyV]; exact hw, trivial⟩, ⟨.str s, trivial⟩⟩
    · rename_i e ht
      split at h <;> try (cases h; done)
      rename_i le hle
      split at h <;> try (cases h; done)
      rename_i hsz
      cases h
      obtain ⟨hsz, hpos⟩ := hsz
      rcases DataW.trod_slice ht hx with ⟨rfl, _⟩ | ⟨a, len, cap, elems, rest, k, _, rfl, _, _, hlc, hmx, hlen, hel, hrest, _⟩
      · exact ⟨[.nils], ⟨by simp [TyV], trivial⟩, ⟨.nils, trivial⟩⟩
      have spotOf : ∀ (y : DataW H × List MemPlace), (W.cells? 0 (a.add (0 * P.cellsOf e)) (P.cellsOf e)).bind (DataW.trod enc P W 0 (fun _ => true) true k e) = some y → a.spot = none := by
        intro y hy
        rw [Option.bind_eq_some_iff] at hy
        obtain ⟨cs, hcs, _⟩ := hy
        obtain ⟨_, hcl, hcell⟩ := World.cells?_some hcs
        have h0 := hcell 0 (by omega)
        obtain ⟨v, hv⟩ : ∃ v, cs[0]? = some v := ⟨_, List.getElem?_eq_getElem (by omega)⟩
        rw [hv] at h0
        obtain ⟨b, o, sp⟩ := a
        simp only [Nat.zero_mul, Addr.add, if_true] at h0
        exact cell_spot' h0
      have hspot : cap = 0 ∨ a.spot = none := by
        rcases Nat.eq_zero_or_pos cap with h | h
        · exact .inl h
        right
        rcases Nat.eq_zero_or_pos len with h' | h'
        · obtain ⟨hr1, hr2⟩ := hrest rfl
          have := hr2 0 (by omega)
          obtain ⟨y, hy⟩ : ∃ y, rest[0]? = some y := ⟨_, List.getElem?_eq_getElem (by omega)⟩
          rw [hy, h', Nat.zero_add] at this
          exact spotOf y this
        · have := hel 0 h'
          obtain ⟨y, hy⟩ : ∃ y, elems[0]? = some y := ⟨_, List.getElem?_eq_getElem (by omega)⟩
          rw [hy] at this
          exact spotOf y this
      rcases hspot with rfl | hspot
      · have : len = 0 := by omega
        subst this
        exact ⟨[.sl []], ⟨by simp [TyV], trivial⟩, ⟨.sl0 a, trivial⟩⟩
      have each : ∀ i, i < len → ∃ as cs, Al TyV le as ∧ Al (DV W (oldP W)) as cs ∧ ∀ j, j < le.length → W.cell? ⟨a.block, a.off + i * le.length + j, none⟩ = cs[j]? := by
        intro i hi
        have he := hel i hi
        have : elems[i]? ≠ none := by simp; omega
        obtain ⟨y, hy⟩ := Option.ne_none_iff_exists'.1 this
        rw [hy, Option.bind_eq_some_iff] at he
        obtain ⟨cs, hcs, htr⟩ := he
        obtain ⟨_, hcl, hcell⟩ := World.cells?_some hcs
        obtain ⟨as, hta, hda⟩ := ty_open n e le hle cs y k htr
        refine ⟨as, cs, hta, hda, fun j hj => ?_⟩
        have := hcell j (by omega)
        rw [← this, add_off (a := a.add _) (by rw [add_off hspot]), add_off hspot, hsz]
      obtain ⟨rows, hrl, hrt, hr⟩ : ∃ rows : List (List AV), rows.length = len ∧ (∀ r ∈ rows, Al TyV le r) ∧ ∀ i r, rows[i]? = some r → ∃ cs, Al (DV W (oldP W)) r cs ∧ ∀ j, j < le.length → W.cell? ⟨a.block, a.off + i * le.length + j, none⟩ = cs[j]? := by
        refine ⟨(List.range len).map fun i => if h : i < len then (each i h).choose else [], by simp, ?_, ?_⟩
        · intro r hr
          obtain ⟨i, hi, rfl⟩ := List.mem_map.1 hr
          rw [List.mem_range] at hi
          rw [dif_pos hi]
          exact (each i hi).choose_spec.choose_spec.1
        · intro i r hr
          rw [List.getElem?_map, Option.map_eq_some_iff] at hr
          obtain ⟨k, hk, rfl⟩ := hr
          have hi := (List.getElem?_eq_some_iff.1 hk).1
          simp at hi
          rw [List.getElem?_range hi] at hk
          cases hk
          rw [dif_pos hi]
          exact ⟨_, (each i hi).choose_spec.choose_spec.2⟩
      obtain ⟨b, off, spot⟩ := a
      simp only at hspot hr
      subst hspot
      refine ⟨[.sl rows], ⟨by simp only [TyV]; exact ⟨by omega, fun r hr => tysV_al.2 (hrt r hr)⟩, trivial⟩, ?_, trivial⟩
      have hz : ∀ (i : Nat) (r : List AV), rows[i]? = some r → r.length = le.length := fun i r h => (hrt r (List.mem_of_getElem? h)).len.symm
      have at_ : ∀ (i j : Nat) (r : List AV) (x : AV), rows[i]? = some r → r[j]? = some x → ∃ v, W.cell? ⟨b, off + i * le.length + j, none⟩ = some v ∧ DV W (oldP W) x v := by
        intro i j r x h1 h2
        obtain ⟨cs, hd, hc⟩ := hr i r h1
        have hj : j < le.length := by have := (List.getElem?_eq_some_iff.1 h2).1; have := hz i r h1; omega
        obtain ⟨v, hv⟩ : ∃ v, cs[j]? = some v := ⟨_, List.getElem?_eq_getElem (by have := hd.len; have := hz i r h1; omega)⟩
        exact ⟨v, (hc j hj).trans hv, hd.get j x v h2 hv⟩
      have key := DV.sl (w := W) (π := oldP W) rows b off cap le.length (fun i j => (W.cell? ⟨b, off + i * le.length + j, none⟩).getD default) (by omega) hz
        (fun i j r x h1 h2 => by
          obtain ⟨t, ht⟩ : ∃ t, le[j]? = some t := ⟨_, List.getElem?_eq_getElem (by have := (List.getElem?_eq_some_iff.1 h2).1; have := hz i r h1; omega)⟩
          exact TyV.scalar ((hrt r (List.mem_of_getElem? h1)).get j t x ht h2))
        (fun i j r x h1 h2 => by obtain ⟨v, hv, _⟩ := at_ i j r x h1 h2; exact cell_lt hv)
        (fun i j r x h1 h2 => by obtain ⟨v, hv, _⟩ := at_ i j r x h1 h2; rw [hv]; rfl)
        (fun i j r x h1 h2 => by obtain ⟨v, hv, hd⟩ := at_ i j r x h1 h2; rw [hv]; exact hd)
      rw [hrl] at key
      exact key
    · rename_i fs ht
      split at h <;> try (cases h; done)
      rename_i l' hl'
      split at h <;> try (cases h; done)
      rename_i hsz
      cases h
      obtain ⟨xs, k, _, _, hcl, hxl, hf⟩ := DataW.trod_struct ht hx
      have := parts_open (W := W) (Tr := fun t cs => ∃ x fuel, DataW.trod enc P W 0 (fun _ => true) true fuel t cs = some x) (fun t l cs h1 ⟨x, fuel, h3⟩ => ty_open n t l h1 cs x fuel h3) _ 0 l cs hl' (by omega) (fun i f hif => by
        rw [List.getElem?_map, Option.map_eq_some_iff] at hif
        obtain ⟨f, hif, rfl⟩ := hif
        have h1 := hf i f (by simpa using hif)
        have : xs[i]? ≠ none := by
          have := (List.getElem?_eq_some_iff.1 hif).1
          simp at this ⊢; omega
        obtain ⟨y, hy⟩ := Option.ne_none_iff_exists'.1 this
        exact ⟨y, k, h1.trans hy⟩)
      simpa using this
    · rename_i q e ht
      split at h <;> try (cases h; done)
      rename_i l' hl'
      split at h <;> try (cases h; done)
      rename_i hsz
      cases h
      obtain ⟨xs, k, _, _, hcl, hxl, hf⟩ := DataW.trod_array ht hx
      have := parts_open (W := W) (Tr := fun t cs => ∃ x fuel, DataW.trod enc P W 0 (fun _ => true) true fuel t cs = some x) (fun t l cs h1 ⟨x, fuel, h3⟩ => ty_open n t l h1 cs x fuel h3) _ 0 l cs hl' (by omega) (fun i f hif => by
        rw [List.getElem?_map, Option.map_eq_some_iff] at hif
        obtain ⟨f, hif, rfl⟩ := hif
        have hi := (List.getElem?_eq_some_iff.1 hif).1
        simp at hi
        rw [List.getElem?_range hi] at hif
        cases hif
        have h1 := hf i hi
        have : xs[i]? ≠ none := by simp; omega
        obtain ⟨y, hy⟩ := Option.ne_none_iff_exists'.1 this
        exact ⟨y, k, h1.trans hy⟩)
      simpa using this
    · cases h
def isAgg (P : Program) (t : TypeId) : Bool := match P.underlying t with
  | some (.struct _) | some (.array _ _) => true
  | _ => false
theorem arg_open {n : Nat} {t : TypeId} {l : List Ty} {v : Value} {d : DataW H} {p : List MemPlace} (hl : tyOf P n t = some l) (ha : isAgg P t = true) (hval : Value.okWide P W .any base t v)
    (h : DataW.Trod enc P W 0 (fun _ => true) true t v d p) : ∃ as, Al TyV l as ∧ DV W (oldP W) (.agg as) v := by
  obtain ⟨fuel, hf⟩ := h
  obtain ⟨as, ht, hd⟩ := ty_open n t l hl _ _ _ hf
  refine ⟨as, ht, ?_⟩
  have : ∃ cs, v = .agg cs := by
    unfold isAgg at ha
    unfold Value.okWide at hval
    split at hval
    · exact ⟨_, hval.choose_spec.1⟩
    · exact ⟨_, hval.choose_spec.1⟩
    · rename_i h1 h2
      split at ha
      · rename_i e; exact absurd e (h1 _)
      · rename_i e; exact absurd e (h2 _ _)
      · cases ha
  obtain ⟨cs, rfl⟩ := this
  simp only [Value.cells] at hd
  refine .agg as cs (by simpa using hd.len) (fun a ha => ?_) (fun i a v h1 h2 => hd.get i a v h1 (by simpa using h2))
  obtain ⟨i, hi⟩ := List.getElem?_of_mem ha
  obtain ⟨s, hs⟩ : ∃ s, l[i]? = some s := ⟨_, List.getElem?_eq_getElem (by have := ht.len; have := (List.getElem?_eq_some_iff.1 hi).1; omega)⟩
  exact TyV.scalar (ht.get i s a hs hi)
theorem arg_open1 {n : Nat} {t : TypeId} {k : Ty} {v : Value} {d : DataW H} {p : List MemPlace} (hl : tyOf P n t = some [k]) (ha : isAgg P t = false) (hval : Value.okWide P W .any base t v)
    (h : DataW.Trod enc P W 0 (fun _ => true) true t v d p) : ∃ a, TyV k a ∧ DV W (oldP W) a v := by
  obtain ⟨fuel, hf⟩ := h
  obtain ⟨as, ht, hd⟩ := ty_open n t [k] hl _ _ _ hf
  obtain ⟨a, as', rfl, hk, ht'⟩ := ht.cons_inv
  cases ht'.nil_inv
  obtain ⟨u, us, e, hdu, _⟩ := hd.cons_inv
  have hne : ∀ cs, v ≠ .agg cs := by
    rintro cs rfl
    unfold isAgg at ha
    unfold Value.okWide at hval
    split at hval
    · rename_i e; rw [e] at ha; cases ha
    · rename_i e; rw [e] at ha; cases ha
    · unfold Cell.okWide at hval
      split at hval <;> simp_all [Cell.ok]
  refine ⟨a, hk, ?_⟩
  cases v <;> simp [Value.cells] at e
  case agg cs => exact absurd rfl (hne cs)
  all_goals (obtain ⟨rfl, rfl⟩ := e; exact hdu)
theorem tyv_int {k : IntKind} {a : AV} (h : TyV (.sc (.int k)) a) : ∃ n, a = .int k n ∧ (Lit.int k n).wf = true := by
  simp only [TyV] at h
  cases a <;> first | exact h.elim | (obtain ⟨rfl, hw⟩ := h; exact ⟨_, rfl, hw⟩)
theorem tyv_bool {a : AV} (h : TyV (.sc .bool) a) : ∃ b, a = .bool b := by
  simp only [TyV] at h
  cases a <;> first | exact h.elim | exact ⟨_, rfl⟩
theorem tyv_float {k : FloatKind} {a : AV} (h : TyV (.sc (.flt k)) a) : ∃ n, a = .float k n ∧ (Lit.float k n).wf = true := by
  simp only [TyV] at h
  cases a <;> first | exact h.elim | (obtain ⟨rfl, hw⟩ := h; exact ⟨_, rfl, hw⟩)
theorem tyv_sl {α : Type} {f : α → List AV} {Q : α → Prop} {l : List Ty} (row : ∀ r, Al TyV l r → ∃ x, r = f x ∧ Q x) {a : AV} (h : TyV (.sl l) a) : ∃ xs : Option (List α), a = slAV f xs ∧ (xs.getD []).length ≤ maxLen ∧ ∀ x ∈ xs.getD [], Q x := by
  cases a <;> simp only [TyV] at h
  · exact ⟨none, rfl, by simp, by simp⟩
  rename_i xs
  have : ∀ (xs : List (List AV)), (∀ r ∈ xs, TysV l r) → ∃ m : List α, xs = m.map f ∧ ∀ x ∈ m, Q x := by
    intro xs
    induction xs with
    | nil => intro _; exact ⟨[], rfl, by simp⟩
    | cons r xs ih =>
      intro h
      obtain ⟨m, rfl, hm⟩ := ih (fun r hr => h r (List.mem_cons_of_mem _ hr))
      obtain ⟨x, rfl, hx⟩ := row _ (tysV_al.1 (h _ List.mem_cons_self))
      exact ⟨x :: m, rfl, by simpa using ⟨hx, hm⟩⟩
  obtain ⟨m, rfl, hm⟩ := this xs h.2
  exact ⟨some m, rfl, by simpa using h.1, hm⟩
theorem tyv_ints {k : IntKind} {a : AV} (h : TyV (.sl [.sc (.int k)]) a) : ∃ l : Option (List Int), a = slAV (fun n => [.int k n]) l ∧ (l.getD []).length ≤ maxLen ∧ ∀ n ∈ l.getD [], (Lit.int k n).wf = true :=
  tyv_sl (fun r hr => by
    obtain ⟨a, as, rfl, h1, h2⟩ := hr.cons_inv
    cases h2.nil_inv
    obtain ⟨n, rfl, hn⟩ := tyv_int h1
    exact ⟨n, rfl, hn⟩) h
theorem al_ints {k : IntKind} : ∀ {n : Nat} {ts : List Ty} {as : List AV}, Al TyV (List.replicate n (.sc (.int k)) ++ ts) as → ∃ (l : List Int) (bs : List AV), as = l.map (.int k) ++ bs ∧ l.length = n ∧ (∀ x ∈ l, (Lit.int k x).wf = true) ∧ Al TyV ts bs
  | 0, ts, as, h => ⟨[], as, rfl, rfl, by simp, h⟩
  | n + 1, ts, as, h => by
    obtain ⟨a, r, rfl, h1, h2⟩ := Al.cons_inv (l := List.replicate n (.sc (.int k)) ++ ts) h
    obtain ⟨x, rfl, hx⟩ := tyv_int h1
    obtain ⟨l, bs, rfl, hl, hw, hb⟩ := al_ints h2
    exact ⟨x :: l, bs, rfl, by simp [hl], by simpa using ⟨hx, hw⟩, hb⟩
theorem al_rows {α : Type} {f : α → List AV} {Q : α → Prop} {l : List Ty} (row : ∀ ts as, Al TyV (l ++ ts) as → ∃ x bs, as = f x ++ bs ∧ Q x ∧ Al TyV ts bs) : ∀ {n : Nat} {ts : List Ty} {as : List AV}, Al TyV ((List.replicate n l).flatten ++ ts) as → ∃ (xs : List α) (bs : List AV), as = xs.flatMap f ++ bs ∧ xs.length = n ∧ (∀ x ∈ xs, Q x) ∧ Al TyV ts bs
  | 0, ts, as, h => ⟨[], as, rfl, rfl, by simp, h⟩
  | n + 1, ts, as, h => by
    simp only [List.replicate_succ, List.flatten_cons, List.append_assoc] at h
    obtain ⟨x, r, rfl, hx, h2⟩ := row _ _ h
    obtain ⟨xs, bs, rfl, hl, hw, hb⟩ := al_rows row h2
    exact ⟨x :: xs, bs, by simp, by simp [hl], by simpa using ⟨hx, hw⟩, hb⟩
theorem law_call {P : Program} {f : Nat} {args : List AV} {W : World} {vs : List Value} (h : (Pure P).c f args (.bool true) none) (hd : Al (DV W (oldP W)) args vs) :
    Calls P f vs.toArray W fun e w' => e = .returned (.bool true) ∧ Go.RowKit.Below W.heap.size W w' := by
  refine (h.2 W (oldP W) vs (fun _ _ h => h) ⟨hd.len, hd.get⟩).mono fun e w' ⟨v, π', he, hb, _, _, _, hdv, _⟩ => ?_
  cases hdv
  exact ⟨he, hb⟩
end
section
variable {H : Type} {enc : TypeId × Value → H} {P : Program} {W : World} {base : Nat}
open Go.ChangeShapes Go.WideShapes Go.ChangeAt Go.RowKit
def Came (enc : TypeId × Value → H) (P : Program) (W : World) (base : Nat) (t : TypeId) (v : Value) : Prop :=
  Value.okWide P W .any base t v ∧ ∃ d p, DataW.Trod enc P W 0 (fun _ => true) true t v d p
theorem args_open : ∀ {ts : List TypeId} {vs : List Value} {ds : List (DataW H)} {ps : List MemPlace}, DataW.TrodAll enc P W 0 (fun _ => true) true ts vs ds ps →
    (∀ (j : Nat) t v, ts[j]? = some t → vs[j]? = some v → Value.okWide P W .any base t v) → Al (Came enc P W base) ts vs
  | [], vs, ds, ps, h, _ => by obtain ⟨rfl, _, _⟩ := trodAll_nil h; trivial
  | t :: ts, vs, ds, ps, h, hv => by
    obtain ⟨v, vs', d, ds', p, q, rfl, rfl, rfl, h0, h1⟩ := trodAll_cons h
    exact ⟨⟨hv 0 t v rfl rfl, d, p, h0⟩, args_open h1 fun j t v h1 h2 => hv (j + 1) t v (by simpa using h1) (by simpa using h2)⟩
theorem args_close {W' : World} (hl : laidOutB P = true) : ∀ {ts : List TypeId} {vs : List Value} {ds : List (DataW H)} {ps : List MemPlace}, (ts.all fun t => P.readableRec t && decide (t < P.types.size)) = true →
    DataW.TrodAll enc P W 0 (fun _ => true) true ts vs ds ps → Below W.heap.size W W' → DataW.TrodAll enc P W' 0 (fun b => decide (b < W.heap.size)) true ts vs ds ps
  | [], vs, ds, ps, _, h, _ => by obtain ⟨rfl, rfl, rfl⟩ := trodAll_nil h; exact trodAll_mk0
  | t :: ts, vs, ds, ps, hr, h, hb => by
    have hlt := DataW.TrodAll.lt h
    obtain ⟨v, vs', d, ds', p, q, rfl, rfl, rfl, h0, h1⟩ := trodAll_cons h
    simp only [List.all_cons, Bool.and_eq_true, decide_eq_true_eq] at hr
    exact trodAll_cons_mk (Below.trod hl hr.1.1 hr.1.2 h0 hb fun x hx => hlt x (by simp [hx])) (args_close hl hr.2 h1 hb)
theorem came_agg {n : Nat} {t : TypeId} {l : List Ty} {v : Value} (hl : tyOf P n t = some l) (ha : isAgg P t = true) (h : Came enc P W base t v) : ∃ as, Al TyV l as ∧ DV W (oldP W) (.agg as) v := by
  obtain ⟨h1, d, p, h2⟩ := h; exact arg_open hl ha h1 h2
theorem came_one {n : Nat} {t : TypeId} {k : Ty} {v : Value} (hl : tyOf P n t = some [k]) (ha : isAgg P t = false) (h : Came enc P W base t v) : ∃ a, TyV k a ∧ DV W (oldP W) a v := by
  obtain ⟨h1, d, p, h2⟩ := h; exact arg_open1 hl ha h1 h2
theorem trodAll_lens {sp : Nat → Bool} {held : Bool} {b0 : Nat} : ∀ {ts : List TypeId} {vs : List Value} {ds : List (DataW H)} {ps : List MemPlace}, DataW.TrodAll enc P W b0 sp held ts vs ds ps → ds.length = ts.length
  | [], vs, ds, ps, h => by obtain ⟨_, rfl, _⟩ := trodAll_nil h; rfl
  | t :: ts, vs, ds, ps, h => by
    obtain ⟨v, vs', d, ds', p, q, rfl, rfl, rfl, h0, h1⟩ := trodAll_cons h
    simp [trodAll_lens h1]
end
theorem len_S {α : Type} {l : List α} {n : Nat} (h : l.length = n + 1) : ∃ a m, l = a :: m ∧ m.length = n := by
  cases l with
  | nil => cases h
  | cons a m => exact ⟨a, m, rfl, by simpa using h⟩
theorem len_1 {α : Type} {l : List α} (h : l.length = 1) : ∃ a, l = [a] := by obtain ⟨a, m, rfl, h2⟩ := len_S h; exact ⟨a, by rw [List.length_eq_zero_iff.1 h2]⟩
theorem len_2 {α : Type} {l : List α} (h : l.length = 2) : ∃ a b, l = [a, b] := by obtain ⟨a, m, rfl, h2⟩ := len_S h; obtain ⟨b, rfl⟩ := len_1 h2; exact ⟨a, b, rfl⟩
theorem len_3 {α : Type} {l : List α} (h : l.length = 3) : ∃ a b c, l = [a, b, c] := by obtain ⟨a, m, rfl, h2⟩ := len_S h; obtain ⟨b, c, rfl⟩ := len_2 h2; exact ⟨a, b, c, rfl⟩
theorem len_4 {α : Type} {l : List α} (h : l.length = 4) : ∃ a b c d, l = [a, b, c, d] := by obtain ⟨a, m, rfl, h2⟩ := len_S h; obtain ⟨b, c, d, rfl⟩ := len_3 h2; exact ⟨a, b, c, d, rfl⟩
theorem len_5 {α : Type} {l : List α} (h : l.length = 5) : ∃ a b c d e, l = [a, b, c, d, e] := by obtain ⟨a, m, rfl, h2⟩ := len_S h; obtain ⟨b, c, d, e, rfl⟩ := len_4 h2; exact ⟨a, b, c, d, e, rfl⟩
end Go.Eng
namespace Go.Eng
set_option linter.unusedVariables false
set_option linter.unusedSimpArgs false
set_option linter.unnecessarySimpa false
open Go
set_option linter.unusedVariables false
set_option linter.unusedSimpArgs false
set_option maxRecDepth 10000
set_option maxHeartbeats 4000000
def iw (n : Int) : Prop := (Lit.int .i64 n).wf = true
def fw (n : Nat) : Prop := (Lit.float .f64 n).wf = true
abbrev kB : Ty := .sc .bool
abbrev kI : Ty := .sc (.int .i64)
abbrev kF : Ty := .sc (.flt .f64)
theorem al_bool {ts : List Ty} {as : List AV} (h : Al TyV (kB :: ts) as) : ∃ b r, as = B b :: r ∧ Al TyV ts r := by
  obtain ⟨a, r, rfl, h1, h2⟩ := h.cons_inv
  obtain ⟨b, rfl⟩ := tyv_bool h1
  exact ⟨b, r, rfl, h2⟩
theorem al_int {ts : List Ty} {as : List AV} (h : Al TyV (kI :: ts) as) : ∃ n r, as = I n :: r ∧ iw n ∧ Al TyV ts r := by
  obtain ⟨a, r, rfl, h1, h2⟩ := h.cons_inv
  obtain ⟨b, rfl, hw⟩ := tyv_int h1
  exact ⟨b, r, rfl, hw, h2⟩
theorem al_flt {ts : List Ty} {as : List AV} (h : Al TyV (kF :: ts) as) : ∃ n r, as = D n :: r ∧ fw n ∧ Al TyV ts r := by
  obtain ⟨a, r, rfl, h1, h2⟩ := h.cons_inv
  obtain ⟨b, rfl, hw⟩ := tyv_float h1
  exact ⟨b, r, rfl, hw, h2⟩
theorem al_sl {α : Type} {f : α → List AV} {Q : α → Prop} {l : List Ty} (row : ∀ ts as, Al TyV (l ++ ts) as → ∃ x bs, as = f x ++ bs ∧ Q x ∧ Al TyV ts bs) {ts : List Ty} {as : List AV} (h : Al TyV (.sl l :: ts) as) :
    ∃ (xs : Option (List α)) (r : List AV), as = slAV f xs :: r ∧ (xs.getD []).length ≤ maxLen ∧ (∀ x ∈ xs.getD [], Q x) ∧ Al TyV ts r := by
  obtain ⟨a, r, rfl, h1, h2⟩ := h.cons_inv
  obtain ⟨xs, rfl, hl, hq⟩ := tyv_sl (f := f) (Q := Q) (fun r hr => by
    obtain ⟨x, bs, rfl, hx, hb⟩ := row [] r (by simpa using hr)
    cases hb.nil_inv
    exact ⟨x, by simp, hx⟩) h1
  exact ⟨xs, r, rfl, hl, hq, h2⟩
theorem row_int (ts : List Ty) (as : List AV) (h : Al TyV ([kI] ++ ts) as) : ∃ (x : Int) (bs : List AV), as = intRow x ++ bs ∧ iw x ∧ Al TyV ts bs := by
  obtain ⟨x, r, rfl, hx, h1⟩ := al_int h
  exact ⟨x, r, rfl, hx, h1⟩
def kPh : List Ty := [kB, kI, kI, kI, kI, kI, kI, kI, kI, kI, kI, kB, kB]
def kGr : List Ty := [.sl [kI], .sl [kI]]
def kDet : List Ty := [kI, kF, kF, kF, kF, kI, kI]
def kRl : List Ty := [kI, kI, kI, kI, kI, kI, kI, kI, kI, kI, kI]
def kBs : List Ty := [kI, kI]
def kTb : List Ty := (List.replicate 8 kPh).flatten ++ (.sl kGr :: (List.replicate 8 kI ++ (.sl kDet :: .sl kRl :: .sl kBs :: (List.replicate 5 kI ++ (List.replicate 8 kI ++ (List.replicate 2 kI ++ []))))))
def Ph.W (p : Ph) : Prop := iw p.min ∧ iw p.gap ∧ iw p.max ∧ iw p.top ∧ iw p.step ∧ iw p.yellow ∧ iw p.red ∧ iw p.walk ∧ iw p.blinks ∧ iw p.recall
def Det.W (d : Det) : Prop := iw d.phase ∧ fw d.on ∧ fw d.off ∧ fw d.delay ∧ fw d.extend ∧ iw d.maxOn ∧ iw d.maxOff
def Rl.W (r : Rl) : Prop := iw r.bars ∧ iw r.clear ∧ iw r.dwell ∧ iw r.exit ∧ iw r.delay ∧ iw r.green ∧ iw r.foot ∧ iw r.hold ∧ iw r.stay ∧ iw r.most ∧ iw r.limit
def Bs.W (b : Bs) : Prop := iw b.set ∧ iw b.lock
def Gr.W (g : Gr) : Prop := ((g.a.getD []).length ≤ maxLen ∧ ∀ x ∈ g.a.getD [], iw x) ∧ (g.b.getD []).length ≤ maxLen ∧ ∀ x ∈ g.b.getD [], iw x
structure Tb.W (t : Tb) : Prop where
  ln : t.Ln
  phases : ∀ p ∈ t.phases, p.W
  groups : (t.groups.getD []).length ≤ maxLen ∧ ∀ g ∈ t.groups.getD [], g.W
  conflict : ∀ x ∈ t.conflict, iw x
  dets : (t.detectors.getD []).length ≤ maxLen ∧ ∀ d ∈ t.detectors.getD [], d.W
  rails : (t.rails.getD []).length ≤ maxLen ∧ ∀ d ∈ t.rails.getD [], d.W
  buses : (t.buses.getD []).length ≤ maxLen ∧ ∀ d ∈ t.buses.getD [], d.W
  nums : iw t.extend ∧ iw t.budget ∧ iw t.start ∧ iw t.revert ∧ iw t.least ∧ iw t.window ∧ iw t.share
  flash : ∀ x ∈ t.flash, iw x
theorem row_ph (ts : List Ty) (as : List AV) (h : Al TyV (kPh ++ ts) as) : ∃ (x : Ph) (bs : List AV), as = x.cells ++ bs ∧ x.W ∧ Al TyV ts bs := by
  obtain ⟨b, _, rfl, h1⟩ := al_bool h
  obtain ⟨n1, _, rfl, w1, h2⟩ := al_int h1
  obtain ⟨n2, _, rfl, w2, h3⟩ := al_int h2
  obtain ⟨n3, _, rfl, w3, h4⟩ := al_int h3
  obtain ⟨n4, _, rfl, w4, h5⟩ := al_int h4
  obtain ⟨n5, _, rfl, w5, h6⟩ := al_int h5
  obtain ⟨n6, _, rfl, w6, h7⟩ := al_int h6
  obtain ⟨n7, _, rfl, w7, h8⟩ := al_int h7
  obtain ⟨n8, _, rfl, w8, h9⟩ := al_int h8
  obtain ⟨n9, _, rfl, w9, h10⟩ := al_int h9
  obtain ⟨n10, _, rfl, w10, h11⟩ := al_int h10
  obtain ⟨b2, _, rfl, h12⟩ := al_bool h11
  obtain ⟨b3, r, rfl, h13⟩ := al_bool h12
  exact ⟨⟨b, n1, n2, n3, n4, n5, n6, n7, n8, n9, n10, b2, b3⟩, r, rfl, ⟨w1, w2, w3, w4, w5, w6, w7, w8, w9, w10⟩, h13⟩
theorem row_det (ts : List Ty) (as : List AV) (h : Al TyV (kDet ++ ts) as) : ∃ (x : Det) (bs : List AV), as = x.cells ++ bs ∧ x.W ∧ Al TyV ts bs := by
  obtain ⟨n1, _, rfl, w1, h1⟩ := al_int h
  obtain ⟨n2, _, rfl, w2, h2⟩ := al_flt h1
  obtain ⟨n3, _, rfl, w3, h3⟩ := al_flt h2
  obtain ⟨n4, _, rfl, w4, h4⟩ := al_flt h3
  obtain ⟨n5, _, rfl, w5, h5⟩ := al_flt h4
  obtain ⟨n6, _, rfl, w6, h6⟩ := al_int h5
  obtain ⟨n7, r, rfl, w7, h7⟩ := al_int h6
  exact ⟨⟨n1, n2, n3, n4, n5, n6, n7⟩, r, rfl, ⟨w1, w2, w3, w4, w5, w6, w7⟩, h7⟩
theorem row_rl (ts : List Ty) (as : List AV) (h : Al TyV (kRl ++ ts) as) : ∃ (x : Rl) (bs : List AV), as = x.cells ++ bs ∧ x.W ∧ Al TyV ts bs := by
  obtain ⟨n1, _, rfl, w1, h1⟩ := al_int h
  obtain ⟨n2, _, rfl, w2, h2⟩ := al_int h1
  obtain ⟨n3, _, rfl, w3, h3⟩ := al_int h2
  obtain ⟨n4, _, rfl, w4, h4⟩ := al_int h3
  obtain ⟨n5, _, rfl, w5, h5⟩ := al_int h4
  obtain ⟨n6, _, rfl, w6, h6⟩ := al_int h5
  obtain ⟨n7, _, rfl, w7, h7⟩ := al_int h6
  obtain ⟨n8, _, rfl, w8, h8⟩ := al_int h7
  obtain ⟨n9, _, rfl, w9, h9⟩ := al_int h8
  obtain ⟨n10, _, rfl, w10, h10⟩ := al_int h9
  obtain ⟨n11, r, rfl, w11, h11⟩ := al_int h10
  exact ⟨⟨n1, n2, n3, n4, n5, n6, n7, n8, n9, n10, n11⟩, r, rfl, ⟨w1, w2, w3, w4, w5, w6, w7, w8, w9, w10, w11⟩, h11⟩
theorem row_bs (ts : List Ty) (as : List AV) (h : Al TyV (kBs ++ ts) as) : ∃ (x : Bs) (bs : List AV), as = x.cells ++ bs ∧ x.W ∧ Al TyV ts bs := by
  obtain ⟨n1, _, rfl, w1, h1⟩ := al_int h
  obtain ⟨n2, r, rfl, w2, h2⟩ := al_int h1
  exact ⟨⟨n1, n2⟩, r, rfl, ⟨w1, w2⟩, h2⟩
theorem row_gr (ts : List Ty) (as : List AV) (h : Al TyV (kGr ++ ts) as) : ∃ (x : Gr) (bs : List AV), as = x.cells ++ bs ∧ x.W ∧ Al TyV ts bs := by
  obtain ⟨x, _, rfl, l1, w1, h1⟩ := al_sl row_int h
  obtain ⟨y, r, rfl, l2, w2, h2⟩ := al_sl row_int h1
  exact ⟨⟨x, y⟩, r, rfl, ⟨⟨l1, w1⟩, l2, w2⟩, h2⟩
theorem row_tb (ts : List Ty) (as : List AV) (h : Al TyV (kTb ++ ts) as) : ∃ (t : Tb) (bs : List AV), as = t.cells ++ bs ∧ t.W ∧ Al TyV ts bs := by
  simp only [kTb, List.append_assoc, List.cons_append, List.nil_append] at h
  obtain ⟨ps, _, rfl, l1, w1, h1⟩ := al_rows row_ph h
  obtain ⟨gs, _, rfl, l2, w2, h2⟩ := al_sl row_gr h1
  obtain ⟨cs, _, rfl, l3, w3, h3⟩ := al_ints h2
  obtain ⟨ds, _, rfl, l4, w4, h4⟩ := al_sl row_det h3
  obtain ⟨rs, _, rfl, l5, w5, h5⟩ := al_sl row_rl h4
  obtain ⟨bs, _, rfl, l6, w6, h6⟩ := al_sl row_bs h5
  obtain ⟨ns, _, rfl, l7, w7, h7⟩ := al_ints h6
  obtain ⟨fs, _, rfl, l8, w8, h8⟩ := al_ints h7
  obtain ⟨ms, r, rfl, l9, w9, h9⟩ := al_ints h8
  obtain ⟨n1, n2, n3, n4, n5, rfl⟩ := len_5 l7
  obtain ⟨m1, m2, rfl⟩ := len_2 l9
  simp only [List.mem_cons, List.not_mem_nil, or_false, forall_eq_or_imp, forall_eq] at w7 w9
  refine ⟨⟨ps, gs, cs, ds, rs, bs, n1, n2, n3, n4, n5, fs, m1, m2⟩, r, by simp [Tb.cells], ⟨⟨l1, l3, l8⟩, w1, ⟨l2, w2⟩, w3, ⟨l4, w4⟩, ⟨l5, w5⟩, ⟨l6, w6⟩, ?_, w8⟩, h9⟩
  exact ⟨w7.1, w7.2.1, w7.2.2.1, w7.2.2.2.1, w7.2.2.2.2, w9.1, w9.2⟩
theorem open_tb {as : List AV} (h : Al TyV kTb as) : ∃ t : Tb, as = t.cells ∧ t.W := by
  obtain ⟨t, bs, rfl, hw, hb⟩ := row_tb [] as (by simpa using h)
  cases hb.nil_inv
  exact ⟨t, by simp, hw⟩
def kSh : List Ty := List.replicate 8 kI ++ (List.replicate 8 kI ++ (List.replicate 8 kI ++ (List.replicate 8 kI ++ [kB])))
theorem row_sh (ts : List Ty) (as : List AV) (h : Al TyV (kSh ++ ts) as) : ∃ (x : Sh) (bs : List AV), as = x.cells ++ bs ∧ x.Ok ∧ Al TyV ts bs := by
  simp only [kSh, List.append_assoc, List.cons_append, List.nil_append] at h
  obtain ⟨a, _, rfl, l1, _, h1⟩ := al_ints h
  obtain ⟨b, _, rfl, l2, _, h2⟩ := al_ints h1
  obtain ⟨c, _, rfl, l3, _, h3⟩ := al_ints h2
  obtain ⟨d, _, rfl, l4, _, h4⟩ := al_ints h3
  obtain ⟨e, r, rfl, h5⟩ := al_bool h4
  exact ⟨⟨a, b, c, d, e⟩, r, by simp [Sh.cells], ⟨l1, l2, l3, l4⟩, h5⟩
theorem open_sh {as : List AV} (h : Al TyV kSh as) : ∃ s : Sh, as = s.cells ∧ s.Ok := by
  obtain ⟨t, bs, rfl, hw, hb⟩ := row_sh [] as (by simpa using h)
  cases hb.nil_inv
  exact ⟨t, by simp, hw⟩
theorem open_shs {a : AV} (h : TyV (.sl kSh) a) : ∃ l : Option (List Sh), a = slAV Sh.cells l ∧ (l.getD []).length ≤ maxLen ∧ ∀ s ∈ l.getD [], s.Ok :=
  tyv_sl (fun r hr => open_sh hr) h
def kRn : List Ty := [kI, kI, kI, kI, kI, kI, kI, kB, kB, kI, kI, kI]
def kRg : List Ty := [kI, kI, kI, kB]
def kCh : List Ty := [kB, kI, kI, kI, kI, kI, kB]
def kStt : List Ty := (List.replicate 8 kRn).flatten ++ (kRg ++ (List.replicate 4 kI ++ (kI :: kI :: kI :: kI :: kI :: (List.replicate 4 kI ++ (kI :: kI :: kI :: .sl kCh :: [])))))
def Rn.W (r : Rn) : Prop := iw r.colour ∧ iw r.time ∧ iw r.fst ∧ iw r.ftime ∧ iw r.left ∧ iw r.press ∧ iw r.extra ∧ iw r.limit ∧ iw r.up ∧ iw r.down
def Ch.W (c : Ch) : Prop := iw c.bad ∧ iw c.won ∧ iw c.woff ∧ iw c.held ∧ iw c.tail
structure Stt.W (s : Stt) : Prop where
  ok : s.Ok
  runs : ∀ r ∈ s.runs, r.W
  rings : iw s.rings.group ∧ iw s.rings.a0 ∧ iw s.rings.a1
  ride : (∀ x ∈ s.ride.lock, iw x) ∧ iw s.ride.was ∧ iw s.ride.spent
  pre : iw s.pre.stage ∧ iw s.pre.which ∧ iw s.pre.time ∧ (∀ x ∈ s.pre.held, iw x) ∧ iw s.pre.spent
  calls : iw s.calls.car ∧ iw s.calls.foot
  chans : (s.chans.getD []).length ≤ maxLen ∧ ∀ c ∈ s.chans.getD [], c.W
theorem row_rn (ts : List Ty) (as : List AV) (h : Al TyV (kRn ++ ts) as) : ∃ (x : Rn) (bs : List AV), as = x.cells ++ bs ∧ x.W ∧ Al TyV ts bs := by
  obtain ⟨n1, _, rfl, w1, h1⟩ := al_int h
  obtain ⟨n2, _, rfl, w2, h2⟩ := al_int h1
  obtain ⟨n3, _, rfl, w3, h3⟩ := al_int h2
  obtain ⟨n4, _, rfl, w4, h4⟩ := al_int h3
  obtain ⟨n5, _, rfl, w5, h5⟩ := al_int h4
  obtain ⟨n6, _, rfl, w6, h6⟩ := al_int h5
  obtain ⟨n7, _, rfl, w7, h7⟩ := al_int h6
  obtain ⟨b1, _, rfl, h8⟩ := al_bool h7
  obtain ⟨b2, _, rfl, h9⟩ := al_bool h8
  obtain ⟨n8, _, rfl, w8, h10⟩ := al_int h9
  obtain ⟨n9, _, rfl, w9, h11⟩ := al_int h10
  obtain ⟨n10, r, rfl, w10, h12⟩ := al_int h11
  exact ⟨⟨n1, n2, n3, n4, n5, n6, n7, b1, b2, n8, n9, n10⟩, r, rfl, ⟨w1, w2, w3, w4, w5, w6, w7, w8, w9, w10⟩, h12⟩
theorem row_rg (ts : List Ty) (as : List AV) (h : Al TyV (kRg ++ ts) as) : ∃ (x : Rg) (bs : List AV), as = x.cells ++ bs ∧ (iw x.group ∧ iw x.a0 ∧ iw x.a1) ∧ Al TyV ts bs := by
  obtain ⟨n1, _, rfl, w1, h1⟩ := al_int h
  obtain ⟨n2, _, rfl, w2, h2⟩ := al_int h1
  obtain ⟨n3, _, rfl, w3, h3⟩ := al_int h2
  obtain ⟨b1, r, rfl, h4⟩ := al_bool h3
  exact ⟨⟨n1, n2, n3, b1⟩, r, rfl, ⟨w1, w2, w3⟩, h4⟩
theorem row_ch (ts : List Ty) (as : List AV) (h : Al TyV (kCh ++ ts) as) : ∃ (x : Ch) (bs : List AV), as = x.cells ++ bs ∧ x.W ∧ Al TyV ts bs := by
  obtain ⟨b1, _, rfl, h1⟩ := al_bool h
  obtain ⟨n1, _, rfl, w1, h2⟩ := al_int h1
  obtain ⟨n2, _, rfl, w2, h3⟩ := al_int h2
  obtain ⟨n3, _, rfl, w3, h4⟩ := al_int h3
  obtain ⟨n4, _, rfl, w4, h5⟩ := al_int h4
  obtain ⟨n5, _, rfl, w5, h6⟩ := al_int h5
  obtain ⟨b2, r, rfl, h7⟩ := al_bool h6
  exact ⟨⟨b1, n1, n2, n3, n4, n5, b2⟩, r, rfl, ⟨w1, w2, w3, w4, w5⟩, h7⟩
theorem row_stt (ts : List Ty) (as : List AV) (h : Al TyV (kStt ++ ts) as) : ∃ (s : Stt) (bs : List AV), as = s.cells ++ bs ∧ s.W ∧ Al TyV ts bs := by
  simp only [kStt, List.append_assoc, List.cons_append, List.nil_append] at h
  obtain ⟨rs, _, rfl, l1, w1, h1⟩ := al_rows row_rn h
  obtain ⟨g, _, rfl, w2, h2⟩ := row_rg _ _ h1
  obtain ⟨lk, _, rfl, l3, w3, h3⟩ := al_ints h2
  obtain ⟨a1, _, rfl, v1, h4⟩ := al_int h3
  obtain ⟨a2, _, rfl, v2, h5⟩ := al_int h4
  obtain ⟨a3, _, rfl, v3, h6⟩ := al_int h5
  obtain ⟨a4, _, rfl, v4, h7⟩ := al_int h6
  obtain ⟨a5, _, rfl, v5, h8⟩ := al_int h7
  obtain ⟨hd, _, rfl, l4, w4, h9⟩ := al_ints h8
  obtain ⟨a6, _, rfl, v6, h10⟩ := al_int h9
  obtain ⟨a7, _, rfl, v7, h11⟩ := al_int h10
  obtain ⟨a8, _, rfl, v8, h12⟩ := al_int h11
  obtain ⟨cs, r, rfl, l5, w5, h13⟩ := al_sl row_ch h12
  exact ⟨⟨rs, g, ⟨lk, a1, a2⟩, ⟨a3, a4, a5, hd, a6⟩, ⟨a7, a8⟩, cs⟩, r, by simp [Stt.cells, Rd.cells, Pr.cells, Cs.cells, runsC], ⟨⟨l1, l3, l4⟩, w1, w2, ⟨w3, v1, v2⟩, ⟨v3, v4, v5, w4, v6⟩, ⟨v7, v8⟩, ⟨l5, w5⟩⟩, h13⟩
theorem open_stt {as : List AV} (h : Al TyV kStt as) : ∃ s : Stt, as = s.cells ∧ s.W := by
  obtain ⟨t, bs, rfl, hw, hb⟩ := row_stt [] as (by simpa using h)
  cases hb.nil_inv
  exact ⟨t, by simp, hw⟩
end Go.Eng
