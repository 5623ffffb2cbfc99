/- The engine and the library, part 6 of 7: what the proofs of this seat need of them. -/
import Derived.Test.YtklehkdpcfmmgaaGreatPk5
namespace Go.Eng
set_option linter.unusedVariables false
set_option linter.unusedSimpArgs false
set_option linter.unnecessarySimpa false
open Go
set_option linter.unusedVariables false
set_option linter.unusedSimpArgs false
set_option maxRecDepth 10000
set_option maxHeartbeats 4000000
section
variable {P : Program} (hm : P.follows .mixedOrders = true) {f : Nat}
include hm
theorem cApart.ok {fE fC : Nat} (hc : cFn P f = some (cc_check_apart fE fC)) (hE : each27.Spec (Pure P) fE) (hC : pBeside.Spec (Pure P) fC) : cApart.Spec (Pure P) f := by
  intro t s h
  have hw := h.ln.whole
  have hl := h.ln.len
  obtain ⟨g, hg, hi⟩ := hE s
  refine pure_of hm hc (by show 2 ≤ 23; decide) (aw_flat (keep := []) (i := 0) ?_)
  try simp only [I, B, D, RX, ↓ KW, Nat.reduceBEq, Nat.reduceAdd, Nat.reduceLeDiff, Int.reduceNe, Int.reduceBEq, Int.reduceEq, reduceCtorEq, Nat.reduceMul, Int.reduceLT, Int.reduceLE, Int.reduceToNat, cc_check_apart, Z.H]
  refine call_is hg ?_
  try simp only [I, B, D, RX, ↓ KW, Nat.reduceBEq, Nat.reduceAdd, Nat.reduceLeDiff, Int.reduceNe, Int.reduceBEq, Int.reduceEq, reduceCtorEq, Nat.reduceMul, Int.reduceLT, Int.reduceLE, Int.reduceToNat]
  refine aw_rfor' (fun y : Unit => (⟨[(8, .dat (.fn (.func g) [] [.ref [.int .i64 s]]) none), (4, .ptr 6 0), (3, .ptr 5 0), (2, .ptr 4 0)], [(6, ⟨[.bool false], []⟩), (5, ⟨[.int .i64 s], []⟩), (4, ⟨t.cells, []⟩)], [], 400⟩ : S)) (fun i _ => ((setN s).take i).any (fun p => (setN s).any fun q => ((p : Int) != (q : Int)) && !besideR t p q) = false) hi rfl (rows_len fun _ => rfl) (fun _ => rfl) ?_ ?_ () (by simp) ?_
  · rintro i x ⟨⟩ hx hno F back
    obtain ⟨p, hp, rfl⟩ := map_at hx
    have hp : (setN s)[i]? = some p := hp
    have h8 := setN_lt (List.mem_of_getElem? hp)
    have hnext := any_take hno hp
    have hyes : ((setN s).any fun q => ((p : Int) != (q : Int)) && !besideR t p q) = true → apartE t s = true := fun e => any_yes hp e
    try simp only [I, B, D, RX, ↓ KW, Nat.reduceBEq, Nat.reduceAdd, Nat.reduceLeDiff, Int.reduceNe, Int.reduceBEq, Int.reduceEq, reduceCtorEq, Nat.reduceMul, Int.reduceLT, Int.reduceLE, Int.reduceToNat]
    refine call_is hg ?_
    try simp only [I, B, D, RX, ↓ KW, Nat.reduceBEq, Nat.reduceAdd, Nat.reduceLeDiff, Int.reduceNe, Int.reduceBEq, Int.reduceEq, reduceCtorEq, Nat.reduceMul, Int.reduceLT, Int.reduceLE, Int.reduceToNat]
    refine aw_rfor' (fun y : Unit => (⟨[(11, .dat (.fn (.func g) [] [.ref [.int .i64 s]]) none), (8, .dat (.fn (.func g) [] [.ref [.int .i64 s]]) none), (4, .ptr 6 0), (9, .dat (I p) none), (3, .ptr 5 0), (2, .ptr 4 0), (5, .ptr 400 0)], [(400, ⟨[I p], []⟩), (6, ⟨[.bool false], []⟩), (5, ⟨[.int .i64 s], []⟩), (4, ⟨t.cells, []⟩)], [], 500⟩ : S)) (fun j _ => ((setN s).take j).any (fun q => ((p : Int) != (q : Int)) && !besideR t p q) = false) hi rfl (rows_len fun _ => rfl) (fun _ => rfl) ?_ ?_ () (by simp) ?_
    · rintro j y ⟨⟩ hy hno2 F2 back2
      obtain ⟨q, hq, rfl⟩ := map_at hy
      have hq : (setN s)[j]? = some q := hq
      have hq8 := setN_lt (List.mem_of_getElem? hq)
      have hnext2 := any_take hno2 hq
      have hyes2 : (((p : Int) != (q : Int)) && !besideR t p q) = true → apartE t s = true := fun e => hyes (any_yes hq e)
      have hcl := hC t p q h
      try simp only [I, B, D, RX, ↓ KW, Nat.reduceBEq, Nat.reduceAdd, Nat.reduceLeDiff, Int.reduceNe, Int.reduceBEq, Int.reduceEq, reduceCtorEq, Nat.reduceMul, Int.reduceLT, Int.reduceLE, Int.reduceToNat]
      generalize hpq : ((p : Int) != (q : Int)) = bpq at *
      generalize besideR t p q = bcl at *
      cases bpq
      · try simp only [I, B, D, RX, ↓ KW, Nat.reduceBEq, Nat.reduceAdd, Nat.reduceLeDiff, Int.reduceNe, Int.reduceBEq, Int.reduceEq, reduceCtorEq, Nat.reduceMul, Int.reduceLT, Int.reduceLE, Int.reduceToNat, hpq]
        refine back2 () _ (by simpa using hnext2) ?_
        refine le_tok2 (by decide) ?_ ?_ ?_ ?_ <;> simp [LX, I, B, D]
      · try simp only [I, B, D, RX, ↓ KW, Nat.reduceBEq, Nat.reduceAdd, Nat.reduceLeDiff, Int.reduceNe, Int.reduceBEq, Int.reduceEq, reduceCtorEq, Nat.reduceMul, Int.reduceLT, Int.reduceLE, Int.reduceToNat, hpq, hw]
        refine call_is hcl ?_
        cases bcl
        · try simp only [I, B, D, RX, ↓ KW, Nat.reduceBEq, Nat.reduceAdd, Nat.reduceLeDiff, Int.reduceNe, Int.reduceBEq, Int.reduceEq, reduceCtorEq, Nat.reduceMul, Int.reduceLT, Int.reduceLE, Int.reduceToNat]
          exact (hyes2 rfl).symm ▸ rfl
        · try simp only [I, B, D, RX, ↓ KW, Nat.reduceBEq, Nat.reduceAdd, Nat.reduceLeDiff, Int.reduceNe, Int.reduceBEq, Int.reduceEq, reduceCtorEq, Nat.reduceMul, Int.reduceLT, Int.reduceLE, Int.reduceToNat]
          refine back2 () _ (by simpa using hnext2) ?_
          refine le_tok2 (by decide) ?_ ?_ ?_ ?_ <;> simp [LX, I, B, D]
    · rintro ⟨⟩ hno2
      try simp only [I, B, D, RX, ↓ KW, Nat.reduceBEq, Nat.reduceAdd, Nat.reduceLeDiff, Int.reduceNe, Int.reduceBEq, Int.reduceEq, reduceCtorEq, Nat.reduceMul, Int.reduceLT, Int.reduceLE, Int.reduceToNat]
      refine back () _ ?_ ?_
      · rw [hnext]; rw [List.take_of_length_le (by simp [setN])] at hno2; exact hno2
      · refine le_tok2 (by decide) ?_ ?_ ?_ ?_ <;> simp [LX, I, B, D]
    · refine le_tok2 (by decide) ?_ ?_ ?_ ?_ <;> simp [LX, I, B, D]
  · rintro ⟨⟩ hno
    try simp only [I, B, D, RX, ↓ KW, Nat.reduceBEq, Nat.reduceAdd, Nat.reduceLeDiff, Int.reduceNe, Int.reduceBEq, Int.reduceEq, reduceCtorEq, Nat.reduceMul, Int.reduceLT, Int.reduceLE, Int.reduceToNat]
    have : apartE t s = false := by
      rw [List.take_of_length_le (by simp [setN])] at hno; exact hno
    rw [this]
  · refine le_tok2 (by decide) ?_ ?_ ?_ ?_ <;> simp [LX, I, B, D]
theorem cFlash.ok {fE : Nat} (hc : cFn P f = some (cc_check_flash fE)) (hE : each27.Spec (Pure P) fE) : cFlash.Spec (Pure P) f := by
  intro t on p h hp
  have hx : 0 ≤ (p : Int) ∧ (p : Int) < (8 : Nat) := by omega
  have g1 := h.con_at hp
  have g2 := h.fl_at hp
  have hw := h.whole
  have hl := h.len
  refine pure_of hm hc (by show 3 ≤ 38; decide) (aw_flat (keep := []) (i := 0) ?_)
  try simp only [I, B, D, RX, ↓ KW, Nat.reduceBEq, Nat.reduceAdd, Nat.reduceLeDiff, Int.reduceNe, Int.reduceBEq, Int.reduceEq, reduceCtorEq, Nat.reduceMul, Int.reduceLT, Int.reduceLE, Int.reduceToNat, cc_check_flash, Z.H, hx, g1, g2]
  cases h1 : (flAt t p == 0)
  rotate_left
  · have : flBad t on p = true := by rw [flBad, h1]; rfl
    try simp only [I, B, D, RX, ↓ KW, Nat.reduceBEq, Nat.reduceAdd, Nat.reduceLeDiff, Int.reduceNe, Int.reduceBEq, Int.reduceEq, reduceCtorEq, Nat.reduceMul, Int.reduceLT, Int.reduceLE, Int.reduceToNat, h1, this]
  have hbad : flBad t on p = (setN (bAnd .i64 (conAt t p) on)).any (flQ t p) := by rw [flBad, h1, Bool.false_or]
  try simp only [I, B, D, RX, ↓ KW, Nat.reduceBEq, Nat.reduceAdd, Nat.reduceLeDiff, Int.reduceNe, Int.reduceBEq, Int.reduceEq, reduceCtorEq, Nat.reduceMul, Int.reduceLT, Int.reduceLE, Int.reduceToNat, h1, hx, g1, g2]
  obtain ⟨g, hg, hi⟩ := hE (bAnd .i64 (conAt t p) on)
  refine call_is hg ?_
  try simp only [I, B, D, RX, ↓ KW, Nat.reduceBEq, Nat.reduceAdd, Nat.reduceLeDiff, Int.reduceNe, Int.reduceBEq, Int.reduceEq, reduceCtorEq, Nat.reduceMul, Int.reduceLT, Int.reduceLE, Int.reduceToNat]
  refine aw_rfor' (fun y : Unit => (⟨[(19, .dat (.fn (.func g) [] [.ref [.int .i64 (bAnd .i64 (conAt t p) on)]]) none), (6, .ptr 6 0), (5, .ptr 5 0), (3, .ptr 4 0)], [(6, ⟨[.bool false], []⟩), (5, ⟨[.int .i64 p], []⟩), (4, ⟨t.cells, []⟩)], [], 400⟩ : S)) (fun i _ => ((setN (bAnd .i64 (conAt t p) on)).take i).any (flQ t p) = false) hi rfl (rows_len fun _ => rfl) (fun _ => rfl) ?_ ?_ () (by simp) ?_
  · rintro i x ⟨⟩ hx' hno F back
    obtain ⟨q, hq, rfl⟩ := map_at hx'
    have hq : (setN (bAnd .i64 (conAt t p) on))[i]? = some q := hq
    have h8 := setN_lt (List.mem_of_getElem? hq)
    have hy : 0 ≤ (q : Int) ∧ (q : Int) < (8 : Nat) := by omega
    have g3 := h.fl_at h8
    have hnext := any_take hno hq
    have hyes : flQ t p q = true → flBad t on p = true := fun e => by rw [hbad]; exact any_yes hq e
    rw [flQ] at hyes hnext
    try simp only [I, B, D, RX, ↓ KW, Nat.reduceBEq, Nat.reduceAdd, Nat.reduceLeDiff, Int.reduceNe, Int.reduceBEq, Int.reduceEq, reduceCtorEq, Nat.reduceMul, Int.reduceLT, Int.reduceLE, Int.reduceToNat]
    generalize hb1 : ((q : Int) != (p : Int)) = b1 at *
    generalize hb2 : (flAt t p == 2) = b2 at *
    generalize hb3 : (flAt t q == 2) = b3 at *
    cases b1
    · try simp only [I, B, D, RX, ↓ KW, Nat.reduceBEq, Nat.reduceAdd, Nat.reduceLeDiff, Int.reduceNe, Int.reduceBEq, Int.reduceEq, reduceCtorEq, Nat.reduceMul, Int.reduceLT, Int.reduceLE, Int.reduceToNat, hb1]
      refine back () _ (by simpa using hnext) ?_
      refine le_tok2 (by decide) ?_ ?_ ?_ ?_ <;> simp [LX, I, B, D]
    try simp only [I, B, D, RX, ↓ KW, Nat.reduceBEq, Nat.reduceAdd, Nat.reduceLeDiff, Int.reduceNe, Int.reduceBEq, Int.reduceEq, reduceCtorEq, Nat.reduceMul, Int.reduceLT, Int.reduceLE, Int.reduceToNat, hb1, hx, hy, g2, hb2]
    cases b2
    · try simp only [I, B, D, RX, ↓ KW, Nat.reduceBEq, Nat.reduceAdd, Nat.reduceLeDiff, Int.reduceNe, Int.reduceBEq, Int.reduceEq, reduceCtorEq, Nat.reduceMul, Int.reduceLT, Int.reduceLE, Int.reduceToNat, hb2]
      refine back () _ (by simpa using hnext) ?_
      refine le_tok2 (by decide) ?_ ?_ ?_ ?_ <;> simp [LX, I, B, D]
    try simp only [I, B, D, RX, ↓ KW, Nat.reduceBEq, Nat.reduceAdd, Nat.reduceLeDiff, Int.reduceNe, Int.reduceBEq, Int.reduceEq, reduceCtorEq, Nat.reduceMul, Int.reduceLT, Int.reduceLE, Int.reduceToNat, hb2, hx, hy, g3, hb3]
    cases b3
    · try simp only [I, B, D, RX, ↓ KW, Nat.reduceBEq, Nat.reduceAdd, Nat.reduceLeDiff, Int.reduceNe, Int.reduceBEq, Int.reduceEq, reduceCtorEq, Nat.reduceMul, Int.reduceLT, Int.reduceLE, Int.reduceToNat, hb3]
      refine back () _ (by simpa using hnext) ?_
      refine le_tok2 (by decide) ?_ ?_ ?_ ?_ <;> simp [LX, I, B, D]
    try simp only [I, B, D, RX, ↓ KW, Nat.reduceBEq, Nat.reduceAdd, Nat.reduceLeDiff, Int.reduceNe, Int.reduceBEq, Int.reduceEq, reduceCtorEq, Nat.reduceMul, Int.reduceLT, Int.reduceLE, Int.reduceToNat, hb3]
    exact (hyes rfl).symm ▸ rfl
  · rintro ⟨⟩ hno
    try simp only [I, B, D, RX, ↓ KW, Nat.reduceBEq, Nat.reduceAdd, Nat.reduceLeDiff, Int.reduceNe, Int.reduceBEq, Int.reduceEq, reduceCtorEq, Nat.reduceMul, Int.reduceLT, Int.reduceLE, Int.reduceToNat]
    have : flBad t on p = false := by
      rw [List.take_of_length_le (by simp [setN])] at hno; rw [hbad]; exact hno
    rw [this]
  · refine le_tok2 (by decide) ?_ ?_ ?_ ?_ <;> simp [LX, I, B, D]
theorem cConf.ok {fH fE fB : Nat} (hc : cFn P f = some (cc_check_conflict fH fE fB)) (hH : setHas.Spec (Pure P) fH) (hE : each27.Spec (Pure P) fE) (hB : pBeside.Spec (Pure P) fB) : cConf.Spec (Pure P) f := by
  intro t on p ht hp
  have h := ht.ln
  have hx : 0 ≤ (p : Int) ∧ (p : Int) < (8 : Nat) := by omega
  have g1 := h.con_at hp
  have hw := h.whole
  have hl := h.len
  have c1 := hH (conAt t p) p
  rw [hasS_tb hp] at c1
  refine pure_of hm hc (by show 3 ≤ 41; decide) (aw_flat (keep := []) (i := 0) ?_)
  try simp only [I, B, D, RX, ↓ KW, Nat.reduceBEq, Nat.reduceAdd, Nat.reduceLeDiff, Int.reduceNe, Int.reduceBEq, Int.reduceEq, reduceCtorEq, Nat.reduceMul, Int.reduceLT, Int.reduceLE, Int.reduceToNat, cc_check_conflict, Z.H, hx, g1]
  refine call_is c1 ?_
  cases h1 : tb (conAt t p) p
  rotate_left
  · have : confBad t on p = true := by rw [confBad, h1]; rfl
    try simp only [I, B, D, RX, ↓ KW, Nat.reduceBEq, Nat.reduceAdd, Nat.reduceLeDiff, Int.reduceNe, Int.reduceBEq, Int.reduceEq, reduceCtorEq, Nat.reduceMul, Int.reduceLT, Int.reduceLE, Int.reduceToNat, h1, this]
  have hbad : confBad t on p = (setN on).any (confQ t p) := by rw [confBad, h1, Bool.false_or]
  try simp only [I, B, D, RX, ↓ KW, Nat.reduceBEq, Nat.reduceAdd, Nat.reduceLeDiff, Int.reduceNe, Int.reduceBEq, Int.reduceEq, reduceCtorEq, Nat.reduceMul, Int.reduceLT, Int.reduceLE, Int.reduceToNat, h1, hx, g1]
  obtain ⟨g, hg, hi⟩ := hE on
  refine call_is hg ?_
  try simp only [I, B, D, RX, ↓ KW, Nat.reduceBEq, Nat.reduceAdd, Nat.reduceLeDiff, Int.reduceNe, Int.reduceBEq, Int.reduceEq, reduceCtorEq, Nat.reduceMul, Int.reduceLT, Int.reduceLE, Int.reduceToNat]
  refine aw_rfor' (fun y : Unit => (⟨[(16, .dat (.fn (.func g) [] [.ref [.int .i64 on]]) none), (6, .ptr 6 0), (5, .ptr 5 0), (3, .ptr 4 0)], [(6, ⟨[.bool false], []⟩), (5, ⟨[.int .i64 p], []⟩), (4, ⟨t.cells, []⟩)], [], 400⟩ : S)) (fun i _ => ((setN on).take i).any (confQ t p) = false) hi rfl (rows_len fun _ => rfl) (fun _ => rfl) ?_ ?_ () (by simp) ?_
  · rintro i x ⟨⟩ hx' hno F back
    obtain ⟨q, hq, rfl⟩ := map_at hx'
    have hq : (setN on)[i]? = some q := hq
    have h8 := setN_lt (List.mem_of_getElem? hq)
    have hy : 0 ≤ (q : Int) ∧ (q : Int) < (8 : Nat) := by omega
    have g3 := h.con_at h8
    have hnext := any_take hno hq
    have hyes : confQ t p q = true → confBad t on p = true := fun e => by rw [hbad]; exact any_yes hq e
    rw [confQ] at hyes hnext
    have c2 := hH (conAt t p) q
    have c3 := hH (conAt t q) p
    have c4 := hB t p q ht
    rw [hasS_tb h8] at c2
    rw [hasS_tb hp] at c3
    try simp only [I, B, D, RX, ↓ KW, Nat.reduceBEq, Nat.reduceAdd, Nat.reduceLeDiff, Int.reduceNe, Int.reduceBEq, Int.reduceEq, reduceCtorEq, Nat.reduceMul, Int.reduceLT, Int.reduceLE, Int.reduceToNat, hx, hy, g1, g3]
    generalize tb (conAt t p) q = b1 at *
    generalize tb (conAt t q) p = b2 at *
    generalize besideR t p q = b3 at *
    refine call_is c2 ?_
    try simp only [I, B, D, RX, ↓ KW, Nat.reduceBEq, Nat.reduceAdd, Nat.reduceLeDiff, Int.reduceNe, Int.reduceBEq, Int.reduceEq, reduceCtorEq, Nat.reduceMul, Int.reduceLT, Int.reduceLE, Int.reduceToNat, hx, hy, g1, g3]
    refine call_is c3 ?_
    cases b1 <;> cases b2
    · try simp only [I, B, D, RX, ↓ KW, Nat.reduceBEq, Nat.reduceAdd, Nat.reduceLeDiff, Int.reduceNe, Int.reduceBEq, Int.reduceEq, reduceCtorEq, Nat.reduceMul, Int.reduceLT, Int.reduceLE, Int.reduceToNat, BNW]
      refine back () _ (by simpa using hnext) ?_
      refine le_tok2 (by decide) ?_ ?_ ?_ ?_ <;> simp [LX, I, B, D]
    · try simp only [I, B, D, RX, ↓ KW, Nat.reduceBEq, Nat.reduceAdd, Nat.reduceLeDiff, Int.reduceNe, Int.reduceBEq, Int.reduceEq, reduceCtorEq, Nat.reduceMul, Int.reduceLT, Int.reduceLE, Int.reduceToNat, BNW]
      exact (hyes rfl).symm ▸ rfl
    · try simp only [I, B, D, RX, ↓ KW, Nat.reduceBEq, Nat.reduceAdd, Nat.reduceLeDiff, Int.reduceNe, Int.reduceBEq, Int.reduceEq, reduceCtorEq, Nat.reduceMul, Int.reduceLT, Int.reduceLE, Int.reduceToNat, BNW]
      exact (hyes rfl).symm ▸ rfl
    · try simp only [I, B, D, RX, ↓ KW, Nat.reduceBEq, Nat.reduceAdd, Nat.reduceLeDiff, Int.reduceNe, Int.reduceBEq, Int.reduceEq, reduceCtorEq, Nat.reduceMul, Int.reduceLT, Int.reduceLE, Int.reduceToNat, BNW, hw]
      refine call_is c4 ?_
      cases b3
      · try simp only [I, B, D, RX, ↓ KW, Nat.reduceBEq, Nat.reduceAdd, Nat.reduceLeDiff, Int.reduceNe, Int.reduceBEq, Int.reduceEq, reduceCtorEq, Nat.reduceMul, Int.reduceLT, Int.reduceLE, Int.reduceToNat]
        refine back () _ (by simpa using hnext) ?_
        refine le_tok2 (by decide) ?_ ?_ ?_ ?_ <;> simp [LX, I, B, D]
      · try simp only [I, B, D, RX, ↓ KW, Nat.reduceBEq, Nat.reduceAdd, Nat.reduceLeDiff, Int.reduceNe, Int.reduceBEq, Int.reduceEq, reduceCtorEq, Nat.reduceMul, Int.reduceLT, Int.reduceLE, Int.reduceToNat]
        exact (hyes rfl).symm ▸ rfl
  · rintro ⟨⟩ hno
    try simp only [I, B, D, RX, ↓ KW, Nat.reduceBEq, Nat.reduceAdd, Nat.reduceLeDiff, Int.reduceNe, Int.reduceBEq, Int.reduceEq, reduceCtorEq, Nat.reduceMul, Int.reduceLT, Int.reduceLE, Int.reduceToNat]
    have : confBad t on p = false := by
      rw [List.take_of_length_le (by simp [setN])] at hno; rw [hbad]; exact hno
    rw [this]
  · refine le_tok2 (by decide) ?_ ?_ ?_ ?_ <;> simp [LX, I, B, D]
theorem cRail.ok {fC fA : Nat} (hc : cFn P f = some (cc_check_rail fC fA)) (hC : cClashes.Spec (Pure P) fC) (hA : cApart.Spec (Pure P) fA) : cRail.Spec (Pure P) f := by
  intro t on r ht
  have h := ht.ln
  have hw := h.whole
  have c1 := hC t r.clear h
  have c2 := hC t r.dwell h
  have c3 := hC t r.exit h
  have c4 := hA t r.exit ht
  rw [railBad]
  generalize clashesE t r.clear = b5 at *
  generalize clashesE t r.dwell = b6 at *
  generalize clashesE t r.exit = b7 at *
  generalize apartE t r.exit = b8 at *
  generalize h1 : (bAndNot .i64 (bOr .i64 (bOr .i64 (bOr .i64 r.bars r.clear) r.dwell) r.exit) on != 0) = b1
  generalize h2 : (r.dwell == 0) = b2
  generalize h3 : (r.exit == 0) = b3
  generalize h4 : (bAnd .i64 r.dwell r.bars != 0) = b4
  generalize h9 : decide (r.hold > 0) = b9
  generalize h10 : (r.clear != 0) = b10
  generalize h11 : decide (r.green < 1) = b11
  generalize h12 : decide (r.stay < 1) = b12
  generalize h13 : decide (r.most > 0) = b13
  generalize h14 : decide (r.most < r.stay) = b14
  generalize h15 : decide (r.limit ≤ r.delay) = b15
  refine pure_of hm hc (by show 3 ≤ 101; decide) (aw_flat (keep := []) (i := 0) ?_)
  try simp only [I, B, D, RX, ↓ KW, Nat.reduceBEq, Nat.reduceAdd, Nat.reduceLeDiff, Int.reduceNe, Int.reduceBEq, Int.reduceEq, reduceCtorEq, Nat.reduceMul, Int.reduceLT, Int.reduceLE, Int.reduceToNat, cc_check_rail, Z.H, h1, h2, h3, h4, h9, h10, h11, h12, h13, h14, h15, hw, Rl.cells, BNW]
  cases b1
  rotate_left
  · try simp only [I, B, D, RX, ↓ KW, Nat.reduceBEq, Nat.reduceAdd, Nat.reduceLeDiff, Int.reduceNe, Int.reduceBEq, Int.reduceEq, reduceCtorEq, Nat.reduceMul, Int.reduceLT, Int.reduceLE, Int.reduceToNat, h1, h2, h3, h4, h9, h10, h11, h12, h13, h14, h15, hw, Rl.cells, BNW]
  try simp only [I, B, D, RX, ↓ KW, Nat.reduceBEq, Nat.reduceAdd, Nat.reduceLeDiff, Int.reduceNe, Int.reduceBEq, Int.reduceEq, reduceCtorEq, Nat.reduceMul, Int.reduceLT, Int.reduceLE, Int.reduceToNat, h1, h2, h3, h4, h9, h10, h11, h12, h13, h14, h15, hw, Rl.cells, BNW]
  cases b2
  rotate_left
  · try simp only [I, B, D, RX, ↓ KW, Nat.reduceBEq, Nat.reduceAdd, Nat.reduceLeDiff, Int.reduceNe, Int.reduceBEq, Int.reduceEq, reduceCtorEq, Nat.reduceMul, Int.reduceLT, Int.reduceLE, Int.reduceToNat, h1, h2, h3, h4, h9, h10, h11, h12, h13, h14, h15, hw, Rl.cells, BNW]
  try simp only [I, B, D, RX, ↓ KW, Nat.reduceBEq, Nat.reduceAdd, Nat.reduceLeDiff, Int.reduceNe, Int.reduceBEq, Int.reduceEq, reduceCtorEq, Nat.reduceMul, Int.reduceLT, Int.reduceLE, Int.reduceToNat, h1, h2, h3, h4, h9, h10, h11, h12, h13, h14, h15, hw, Rl.cells, BNW]
  cases b3
  rotate_left
  · try simp only [I, B, D, RX, ↓ KW, Nat.reduceBEq, Nat.reduceAdd, Nat.reduceLeDiff, Int.reduceNe, Int.reduceBEq, Int.reduceEq, reduceCtorEq, Nat.reduceMul, Int.reduceLT, Int.reduceLE, Int.reduceToNat, h1, h2, h3, h4, h9, h10, h11, h12, h13, h14, h15, hw, Rl.cells, BNW]
  try simp only [I, B, D, RX, ↓ KW, Nat.reduceBEq, Nat.reduceAdd, Nat.reduceLeDiff, Int.reduceNe, Int.reduceBEq, Int.reduceEq, reduceCtorEq, Nat.reduceMul, Int.reduceLT, Int.reduceLE, Int.reduceToNat, h1, h2, h3, h4, h9, h10, h11, h12, h13, h14, h15, hw, Rl.cells, BNW]
  cases b4
  rotate_left
  · try simp only [I, B, D, RX, ↓ KW, Nat.reduceBEq, Nat.reduceAdd, Nat.reduceLeDiff, Int.reduceNe, Int.reduceBEq, Int.reduceEq, reduceCtorEq, Nat.reduceMul, Int.reduceLT, Int.reduceLE, Int.reduceToNat, h1, h2, h3, h4, h9, h10, h11, h12, h13, h14, h15, hw, Rl.cells, BNW]
  try simp only [I, B, D, RX, ↓ KW, Nat.reduceBEq, Nat.reduceAdd, Nat.reduceLeDiff, Int.reduceNe, Int.reduceBEq, Int.reduceEq, reduceCtorEq, Nat.reduceMul, Int.reduceLT, Int.reduceLE, Int.reduceToNat, h1, h2, h3, h4, h9, h10, h11, h12, h13, h14, h15, hw, Rl.cells, BNW]
  refine call_is c1 ?_
  cases b5
  rotate_left
  · try simp only [I, B, D, RX, ↓ KW, Nat.reduceBEq, Nat.reduceAdd, Nat.reduceLeDiff, Int.reduceNe, Int.reduceBEq, Int.reduceEq, reduceCtorEq, Nat.reduceMul, Int.reduceLT, Int.reduceLE, Int.reduceToNat, h1, h2, h3, h4, h9, h10, h11, h12, h13, h14, h15, hw, Rl.cells, BNW]
  try simp only [I, B, D, RX, ↓ KW, Nat.reduceBEq, Nat.reduceAdd, Nat.reduceLeDiff, Int.reduceNe, Int.reduceBEq, Int.reduceEq, reduceCtorEq, Nat.reduceMul, Int.reduceLT, Int.reduceLE, Int.reduceToNat, h1, h2, h3, h4, h9, h10, h11, h12, h13, h14, h15, hw, Rl.cells, BNW]
  refine call_is c2 ?_
  cases b6
  rotate_left
  · try simp only [I, B, D, RX, ↓ KW, Nat.reduceBEq, Nat.reduceAdd, Nat.reduceLeDiff, Int.reduceNe, Int.reduceBEq, Int.reduceEq, reduceCtorEq, Nat.reduceMul, Int.reduceLT, Int.reduceLE, Int.reduceToNat, h1, h2, h3, h4, h9, h10, h11, h12, h13, h14, h15, hw, Rl.cells, BNW]
  try simp only [I, B, D, RX, ↓ KW, Nat.reduceBEq, Nat.reduceAdd, Nat.reduceLeDiff, Int.reduceNe, Int.reduceBEq, Int.reduceEq, reduceCtorEq, Nat.reduceMul, Int.reduceLT, Int.reduceLE, Int.reduceToNat, h1, h2, h3, h4, h9, h10, h11, h12, h13, h14, h15, hw, Rl.cells, BNW]
  refine call_is c3 ?_
  cases b7
  rotate_left
  · try simp only [I, B, D, RX, ↓ KW, Nat.reduceBEq, Nat.reduceAdd, Nat.reduceLeDiff, Int.reduceNe, Int.reduceBEq, Int.reduceEq, reduceCtorEq, Nat.reduceMul, Int.reduceLT, Int.reduceLE, Int.reduceToNat, h1, h2, h3, h4, h9, h10, h11, h12, h13, h14, h15, hw, Rl.cells, BNW]
  try simp only [I, B, D, RX, ↓ KW, Nat.reduceBEq, Nat.reduceAdd, Nat.reduceLeDiff, Int.reduceNe, Int.reduceBEq, Int.reduceEq, reduceCtorEq, Nat.reduceMul, Int.reduceLT, Int.reduceLE, Int.reduceToNat, h1, h2, h3, h4, h9, h10, h11, h12, h13, h14, h15, hw, Rl.cells, BNW]
  refine call_is c4 ?_
  cases b8
  rotate_left
  · try simp only [I, B, D, RX, ↓ KW, Nat.reduceBEq, Nat.reduceAdd, Nat.reduceLeDiff, Int.reduceNe, Int.reduceBEq, Int.reduceEq, reduceCtorEq, Nat.reduceMul, Int.reduceLT, Int.reduceLE, Int.reduceToNat, h1, h2, h3, h4, h9, h10, h11, h12, h13, h14, h15, hw, Rl.cells, BNW]
  try simp only [I, B, D, RX, ↓ KW, Nat.reduceBEq, Nat.reduceAdd, Nat.reduceLeDiff, Int.reduceNe, Int.reduceBEq, Int.reduceEq, reduceCtorEq, Nat.reduceMul, Int.reduceLT, Int.reduceLE, Int.reduceToNat, h1, h2, h3, h4, h9, h10, h11, h12, h13, h14, h15, hw, Rl.cells, BNW]
  cases b9 <;> cases b10
  all_goals try simp only [I, B, D, RX, ↓ KW, Nat.reduceBEq, Nat.reduceAdd, Nat.reduceLeDiff, Int.reduceNe, Int.reduceBEq, Int.reduceEq, reduceCtorEq, Nat.reduceMul, Int.reduceLT, Int.reduceLE, Int.reduceToNat, h1, h2, h3, h4, h9, h10, h11, h12, h13, h14, h15, hw, Rl.cells, BNW]
  all_goals try rfl
  all_goals cases b11
  all_goals try simp only [I, B, D, RX, ↓ KW, Nat.reduceBEq, Nat.reduceAdd, Nat.reduceLeDiff, Int.reduceNe, Int.reduceBEq, Int.reduceEq, reduceCtorEq, Nat.reduceMul, Int.reduceLT, Int.reduceLE, Int.reduceToNat, h1, h2, h3, h4, h9, h10, h11, h12, h13, h14, h15, hw, Rl.cells, BNW]
  all_goals try rfl
  all_goals cases b12
  all_goals try simp only [I, B, D, RX, ↓ KW, Nat.reduceBEq, Nat.reduceAdd, Nat.reduceLeDiff, Int.reduceNe, Int.reduceBEq, Int.reduceEq, reduceCtorEq, Nat.reduceMul, Int.reduceLT, Int.reduceLE, Int.reduceToNat, h1, h2, h3, h4, h9, h10, h11, h12, h13, h14, h15, hw, Rl.cells, BNW]
  all_goals try rfl
  all_goals cases b13
  all_goals try simp only [I, B, D, RX, ↓ KW, Nat.reduceBEq, Nat.reduceAdd, Nat.reduceLeDiff, Int.reduceNe, Int.reduceBEq, Int.reduceEq, reduceCtorEq, Nat.reduceMul, Int.reduceLT, Int.reduceLE, Int.reduceToNat, h1, h2, h3, h4, h9, h10, h11, h12, h13, h14, h15, hw, Rl.cells, BNW]
  all_goals try rfl
  all_goals try cases b14
  all_goals try simp only [I, B, D, RX, ↓ KW, Nat.reduceBEq, Nat.reduceAdd, Nat.reduceLeDiff, Int.reduceNe, Int.reduceBEq, Int.reduceEq, reduceCtorEq, Nat.reduceMul, Int.reduceLT, Int.reduceLE, Int.reduceToNat, h1, h2, h3, h4, h9, h10, h11, h12, h13, h14, h15, hw, Rl.cells, BNW]
  all_goals try rfl
theorem cFirst.ok {fB fN : Nat} (hc : cFn P f = some (cc_check_first fB fN)) (hB : cBad.Spec (Pure P) fB) (hN : cNone.Spec (Pure P) fN) : cFirst.Spec (Pure P) f := by
  intro code n g fs cs w hn hg
  refine pure_of hm hc (by show 3 ≤ 20; decide) (aw_flat (keep := []) (i := 0) ?_)
  try simp only [I, B, D, RX, ↓ KW, Nat.reduceBEq, Nat.reduceAdd, Nat.reduceLeDiff, Int.reduceNe, Int.reduceBEq, Int.reduceEq, reduceCtorEq, Nat.reduceMul, Int.reduceLT, Int.reduceLE, Int.reduceToNat, cc_check_first, Z.H]
  refine aw_loop' (fun k : Nat => (⟨[(9, .dat (I k) none), (8, .dat (I n) none), (2, .dat (.fn (.func g) fs cs) none), (0, .dat (I code) none), (6, .ptr 4 0)], [(4, ⟨[I 0, I 0], []⟩)], [], 400⟩ : S)) (fun k => n - k) (fun k => k ≤ n ∧ ∀ i, i < k → w i = false) ?_ 0 (by simp) ?_
  rotate_left
  · refine le_tok2 (by decide) ?_ ?_ ?_ ?_ <;> simp [LX, I, B, D]
  rintro k ⟨hk, hno⟩ A back
  have hwr := wrap_succ (k := k) (by omega)
  try simp only [I, B, D, RX, ↓ KW, Nat.reduceBEq, Nat.reduceAdd, Nat.reduceLeDiff, Int.reduceNe, Int.reduceBEq, Int.reduceEq, reduceCtorEq, Nat.reduceMul, Int.reduceLT, Int.reduceLE, Int.reduceToNat]
  cases h2 : decide ((k : Int) < (n : Int))
  · have e : k = n := by have := of_decide_eq_false h2; omega
    subst e
    try simp only [I, B, D, RX, ↓ KW, Nat.reduceBEq, Nat.reduceAdd, Nat.reduceLeDiff, Int.reduceNe, Int.reduceBEq, Int.reduceEq, reduceCtorEq, Nat.reduceMul, Int.reduceLT, Int.reduceLE, Int.reduceToNat, h2]
    refine call_is hN ?_
    rw [first_none hno]
    try simp only [I, B, D, RX, ↓ KW, Nat.reduceBEq, Nat.reduceAdd, Nat.reduceLeDiff, Int.reduceNe, Int.reduceBEq, Int.reduceEq, reduceCtorEq, Nat.reduceMul, Int.reduceLT, Int.reduceLE, Int.reduceToNat, fltC]
  · have h8 : k < n := by have := of_decide_eq_true h2; omega
    try simp only [I, B, D, RX, ↓ KW, Nat.reduceBEq, Nat.reduceAdd, Nat.reduceLeDiff, Int.reduceNe, Int.reduceBEq, Int.reduceEq, reduceCtorEq, Nat.reduceMul, Int.reduceLT, Int.reduceLE, Int.reduceToNat, h2]
    refine call_is (hg k h8) ?_
    cases h3 : w k
    · try simp only [I, B, D, RX, ↓ KW, Nat.reduceBEq, Nat.reduceAdd, Nat.reduceLeDiff, Int.reduceNe, Int.reduceBEq, Int.reduceEq, reduceCtorEq, Nat.reduceMul, Int.reduceLT, Int.reduceLE, Int.reduceToNat]
      refine back (k + 1) _ ⟨by omega, fun i hi => ?_⟩ (by omega) ?_
      · by_cases e : i = k
        · subst e; exact h3
        · exact hno i (by omega)
      · refine le_tok2 (by decide) ?_ ?_ ?_ ?_ <;> simp [LX, I, B, D, hwr]
    · try simp only [I, B, D, RX, ↓ KW, Nat.reduceBEq, Nat.reduceAdd, Nat.reduceLeDiff, Int.reduceNe, Int.reduceBEq, Int.reduceEq, reduceCtorEq, Nat.reduceMul, Int.reduceLT, Int.reduceLE, Int.reduceToNat]
      refine call_is (hB code k) ?_
      rw [first_go h8 hno h3]
      try simp only [I, B, D, RX, ↓ KW, Nat.reduceBEq, Nat.reduceAdd, Nat.reduceLeDiff, Int.reduceNe, Int.reduceBEq, Int.reduceEq, reduceCtorEq, Nat.reduceMul, Int.reduceLT, Int.reduceLE, Int.reduceToNat, fltC]
end
end Go.Eng
namespace Go.Eng
set_option linter.unusedVariables false
set_option linter.unusedSimpArgs false
set_option linter.unnecessarySimpa false
open Go
set_option linter.unusedVariables false
set_option linter.unusedSimpArgs false
set_option maxRecDepth 10000
set_option maxHeartbeats 4000000
theorem rowGo_next {on seen : Int} {l : List Int} {x : Int} : rowGo on seen (x :: l) = if !hasS on x || hasS seen x then none else rowGo on (withS seen x) l := by
  simp only [rowGo, List.foldlM_cons]
  split <;> rfl
def rowAt (r : Gr) (k : Nat) : List Int := if k = 0 then r.a.getD [] ++ r.b.getD [] else if k = 1 then r.b.getD [] else []
theorem rowAt_split (r : Gr) {k : Nat} (hk : k < 2) : rowAt r k = (r.row k).getD [] ++ rowAt r (k + 1) := by
  have : k = 0 ∨ k = 1 := by omega
  rcases this with rfl | rfl
  · rfl
  · simp [rowAt, Gr.row]
section
variable {P : Program} (hm : P.follows .mixedOrders = true) {f : Nat}
include hm
theorem cRings.ok {fB fH fW fN : Nat} (hc : cFn P f = some (cc_check_rings fB fH fW fN)) (hB : cBad.Spec (Pure P) fB) (hH : setHas.Spec (Pure P) fH) (hW : setWith.Spec (Pure P) fW) (hN : cNone.Spec (Pure P) fN) : cRings.Spec (Pure P) f := by
  intro t on ht
  have h := ht.ln
  have hg := tb_104 h
  have hbg := ht.groups
  refine pure_of hm hc (by show 2 ≤ 67; decide) (aw_flat (keep := []) (i := 0) ?_)
  try simp only [I, B, D, RY, ↓ KW, Nat.reduceBEq, Nat.reduceAdd, Nat.reduceLeDiff, Int.reduceNe, Int.reduceBEq, Int.reduceEq, reduceCtorEq, Nat.reduceMul, Int.reduceLT, Int.reduceLE, Int.reduceToNat, cc_check_rings, Z.H, hg, a_len]
  cases h0 : ((((t.groups.getD []).length : Nat) : Int) == 0)
  rotate_left
  · have : ringE t on = (8, 0) := by rw [ringE, if_pos (by simpa using h0)]
    try simp only [I, B, D, RY, ↓ KW, Nat.reduceBEq, Nat.reduceAdd, Nat.reduceLeDiff, Int.reduceNe, Int.reduceBEq, Int.reduceEq, reduceCtorEq, Nat.reduceMul, Int.reduceLT, Int.reduceLE, Int.reduceToNat, h0]
    refine call_is (hB 8 0) ?_
    rw [this]
    try simp only [I, B, D, RY, ↓ KW, Nat.reduceBEq, Nat.reduceAdd, Nat.reduceLeDiff, Int.reduceNe, Int.reduceBEq, Int.reduceEq, reduceCtorEq, Nat.reduceMul, Int.reduceLT, Int.reduceLE, Int.reduceToNat, fltC, setCells]
  have hne : ringE t on = ringL on (t.groups.getD []) 0 0 := by rw [ringE, if_neg (by simpa using h0)]
  try simp only [I, B, D, RY, ↓ KW, Nat.reduceBEq, Nat.reduceAdd, Nat.reduceLeDiff, Int.reduceNe, Int.reduceBEq, Int.reduceEq, reduceCtorEq, Nat.reduceMul, Int.reduceLT, Int.reduceLE, Int.reduceToNat, h0, hg, a_len]
  refine aw_loop' (fun y : Nat × Int => (⟨[(20, .dat (I y.1) none), (19, .dat (I ((t.groups.getD []).length : Nat)) none), (18, .dat (slAV Gr.cells t.groups) none), (4, .ptr 5 0), (1, .dat (I on) none), (5, .dat (I y.2) none)], [(5, ⟨[I 0, I 0], []⟩)], [], 400⟩ : S)) (fun y => (t.groups.getD []).length - y.1) (fun y => y.1 ≤ (t.groups.getD []).length ∧ ringL on ((t.groups.getD []).drop y.1) y.1 y.2 = ringE t on) ?_ (0, 0) ⟨by simp, by rw [hne]; rfl⟩ ?_
  rotate_left
  · refine le_tok2 (by decide) ?_ ?_ ?_ ?_ <;> simp [LX, I, B, D]
  rintro ⟨g, seen⟩ ⟨hg1, hinv⟩ A back
  simp only at hg1 hinv
  have hw := wrap_succ (k := g) (by omega)
  try simp only [I, B, D, RY, ↓ KW, Nat.reduceBEq, Nat.reduceAdd, Nat.reduceLeDiff, Int.reduceNe, Int.reduceBEq, Int.reduceEq, reduceCtorEq, Nat.reduceMul, Int.reduceLT, Int.reduceLE, Int.reduceToNat]
  cases h2 : decide ((g : Int) < (((t.groups.getD []).length : Nat) : Int))
  · have e : g = (t.groups.getD []).length := by have := of_decide_eq_false h2; omega
    subst e
    rw [List.drop_length, ringL] at hinv
    cases h3 : (seen != on)
    · have h3' : (seen == on) = true := by simpa using h3
      rw [h3'] at hinv
      try simp only [I, B, D, RY, ↓ KW, Nat.reduceBEq, Nat.reduceAdd, Nat.reduceLeDiff, Int.reduceNe, Int.reduceBEq, Int.reduceEq, reduceCtorEq, Nat.reduceMul, Int.reduceLT, Int.reduceLE, Int.reduceToNat, h2, h3]
      refine call_is hN ?_
      rw [← hinv]
      try simp only [I, B, D, RY, ↓ KW, Nat.reduceBEq, Nat.reduceAdd, Nat.reduceLeDiff, Int.reduceNe, Int.reduceBEq, Int.reduceEq, reduceCtorEq, Nat.reduceMul, Int.reduceLT, Int.reduceLE, Int.reduceToNat, fltC, setCells]
    · have h3' : (seen == on) = false := by simpa using h3
      rw [h3'] at hinv
      try simp only [I, B, D, RY, ↓ KW, Nat.reduceBEq, Nat.reduceAdd, Nat.reduceLeDiff, Int.reduceNe, Int.reduceBEq, Int.reduceEq, reduceCtorEq, Nat.reduceMul, Int.reduceLT, Int.reduceLE, Int.reduceToNat, h2, h3]
      refine call_is (hB 8 0) ?_
      rw [← hinv]
      try simp only [I, B, D, RY, ↓ KW, Nat.reduceBEq, Nat.reduceAdd, Nat.reduceLeDiff, Int.reduceNe, Int.reduceBEq, Int.reduceEq, reduceCtorEq, Nat.reduceMul, Int.reduceLT, Int.reduceLE, Int.reduceToNat, fltC, setCells]
  have hlt : g < (t.groups.getD []).length := by have := of_decide_eq_true h2; omega
  obtain ⟨gr, hgr⟩ : ∃ x, (t.groups.getD [])[g]? = some x := ⟨_, List.getElem?_eq_getElem hlt⟩
  have hrs := ht.rows gr (List.mem_of_getElem? hgr)
  have hdrop : (t.groups.getD []).drop g = gr :: (t.groups.getD []).drop (g + 1) := by
    rw [List.drop_eq_getElem_cons hlt]
    congr 1
    rw [List.getElem?_eq_getElem hlt] at hgr; exact Option.some.inj hgr
  rw [hdrop, ringL] at hinv
  have hpart : partA (Gr.cells gr) 0 (some 2) = some (.agg (Gr.cells gr)) := rfl
  have hset : ∀ c : List AV, c.length = 2 → setCells c 0 (Gr.cells gr) = Gr.cells gr := fun c h => set_all (by rw [h]; rfl)
  have hr0 : (Gr.cells gr)[0]? = some (slAV intRow gr.a) := rfl
  have hr1 : (Gr.cells gr)[1]? = some (slAV intRow gr.b) := rfl
  try simp only [I, B, D, RY, ↓ KW, Nat.reduceBEq, Nat.reduceAdd, Nat.reduceLeDiff, Int.reduceNe, Int.reduceBEq, Int.reduceEq, reduceCtorEq, Nat.reduceMul, Int.reduceLT, Int.reduceLE, Int.reduceToNat, h2, a_rows, hgr, Gr.len, hpart, hset, hr0, hr1, a_len]
  refine ⟨by omega, by omega, by omega, ?_⟩
  have hwl : IntKind.i64.wrap ((((gr.a.getD []).length : Nat) : Int) + (((gr.b.getD []).length : Nat) : Int)) = (((gr.a.getD []).length + (gr.b.getD []).length : Nat) : Int) := by rw [wrap_id (by omega) (by omega)]; omega
  try simp only [I, B, D, RY, ↓ KW, Nat.reduceBEq, Nat.reduceAdd, Nat.reduceLeDiff, Int.reduceNe, Int.reduceBEq, Int.reduceEq, reduceCtorEq, Nat.reduceMul, Int.reduceLT, Int.reduceLE, Int.reduceToNat, Gr.len, hpart, hset, hr0, hr1, a_len, hwl]
  cases h3 : ((((gr.a.getD []).length + (gr.b.getD []).length : Nat) : Int) == 0)
  rotate_left
  · rw [if_pos (by simp only [beq_iff_eq] at h3; omega)] at hinv
    try simp only [I, B, D, RY, ↓ KW, Nat.reduceBEq, Nat.reduceAdd, Nat.reduceLeDiff, Int.reduceNe, Int.reduceBEq, Int.reduceEq, reduceCtorEq, Nat.reduceMul, Int.reduceLT, Int.reduceLE, Int.reduceToNat, h3]
    refine call_is (hB 8 g) ?_
    rw [← hinv]
    try simp only [I, B, D, RY, ↓ KW, Nat.reduceBEq, Nat.reduceAdd, Nat.reduceLeDiff, Int.reduceNe, Int.reduceBEq, Int.reduceEq, reduceCtorEq, Nat.reduceMul, Int.reduceLT, Int.reduceLE, Int.reduceToNat, fltC, setCells]
  rw [if_neg (by intro e; rw [e] at h3; simp at h3)] at hinv
  try simp only [I, B, D, RY, ↓ KW, Nat.reduceBEq, Nat.reduceAdd, Nat.reduceLeDiff, Int.reduceNe, Int.reduceBEq, Int.reduceEq, reduceCtorEq, Nat.reduceMul, Int.reduceLT, Int.reduceLE, Int.reduceToNat, h3, Gr.len, hpart, hset]
  refine aw_loop' (fun y : Nat × Int => (⟨[(36, .dat (I y.1) none), (35, .dat (.agg (Gr.cells gr)) none), (1, .dat (I on) none), (5, .dat (I y.2) none), (6, .dat (I g) none), (4, .ptr 5 0), (20, .dat (I g) none), (19, .dat (I ((t.groups.getD []).length : Nat)) none), (18, .dat (slAV Gr.cells t.groups) none)], [(5, ⟨[I 0, I 0], []⟩)], [], 500⟩ : S)) (fun y => 2 - y.1) (fun y => y.1 ≤ 2 ∧ rowGo on seen (gr.a.getD [] ++ gr.b.getD []) = rowGo on y.2 (rowAt gr y.1)) ?_ (0, seen) ⟨by simp, rfl⟩ ?_
  rotate_left
  · refine le_tok2 (by decide) ?_ ?_ ?_ ?_ <;> simp [LX, I, B, D]
  rintro ⟨k, s1⟩ ⟨hk, hrow1⟩ A1 back1
  simp only at hk hrow1
  have hw1 := wrap_succ (k := k) (by omega)
  try simp only [I, B, D, RY, ↓ KW, Nat.reduceBEq, Nat.reduceAdd, Nat.reduceLeDiff, Int.reduceNe, Int.reduceBEq, Int.reduceEq, reduceCtorEq, Nat.reduceMul, Int.reduceLT, Int.reduceLE, Int.reduceToNat]
  cases h4 : decide ((k : Int) < 2)
  · have e : k = 2 := by have := of_decide_eq_false h4; omega
    subst e
    have e2 : rowGo on s1 (rowAt gr 2) = some s1 := rfl
    rw [hrow1, e2] at hinv
    try simp only [I, B, D, RY, ↓ KW, Nat.reduceBEq, Nat.reduceAdd, Nat.reduceLeDiff, Int.reduceNe, Int.reduceBEq, Int.reduceEq, reduceCtorEq, Nat.reduceMul, Int.reduceLT, Int.reduceLE, Int.reduceToNat, h4]
    refine back (g + 1, s1) _ ⟨by omega, hinv⟩ (by simp only; omega) ?_
    refine le_tok2 (by decide) ?_ ?_ ?_ ?_ <;> simp [LX, I, B, D, hw]
  have hk2 : k < 2 := by have := of_decide_eq_true h4; omega
  have hx2 : 0 ≤ (k : Int) ∧ (k : Int) < (2 : Nat) := by omega
  have hrow : (Gr.cells gr)[k]? = some (slAV intRow (gr.row k)) := by
    have : k = 0 ∨ k = 1 := by omega
    rcases this with rfl | rfl <;> rfl
  have hrl : ((gr.row k).getD []).length ≤ 1048576 := by
    have : k = 0 ∨ k = 1 := by omega
    rcases this with rfl | rfl
    exact hrs.1
    exact hrs.2
  rw [rowAt_split gr hk2] at hrow1
  try simp only [I, B, D, RY, ↓ KW, Nat.reduceBEq, Nat.reduceAdd, Nat.reduceLeDiff, Int.reduceNe, Int.reduceBEq, Int.reduceEq, reduceCtorEq, Nat.reduceMul, Int.reduceLT, Int.reduceLE, Int.reduceToNat, h4, hx2, hrow, a_len]
  refine aw_loop' (fun z : Nat × Int => (⟨[(41, .dat (I z.1) none), (40, .dat (I (((gr.row k).getD []).length : Nat)) none), (39, .dat (slAV intRow (gr.row k)) none), (1, .dat (I on) none), (5, .dat (I z.2) none), (6, .dat (I g) none), (4, .ptr 5 0), (36, .dat (I k) none), (35, .dat (.agg (Gr.cells gr)) none), (20, .dat (I g) none), (19, .dat (I ((t.groups.getD []).length : Nat)) none), (18, .dat (slAV Gr.cells t.groups) none)], [(5, ⟨[I 0, I 0], []⟩)], [], 600⟩ : S)) (fun z => ((gr.row k).getD []).length - z.1) (fun z => z.1 ≤ ((gr.row k).getD []).length ∧ rowGo on seen (gr.a.getD [] ++ gr.b.getD []) = rowGo on z.2 (((gr.row k).getD []).drop z.1 ++ rowAt gr (k + 1))) ?_ (0, s1) ⟨by simp, by simpa using hrow1⟩ ?_
  rotate_left
  · refine le_tok2 (by decide) ?_ ?_ ?_ ?_ <;> simp [LX, I, B, D]
  rintro ⟨i, s2⟩ ⟨hi, hrow2⟩ A2 back2
  simp only at hi hrow2
  have hw2 := wrap_succ (k := i) (by omega)
  try simp only [I, B, D, RY, ↓ KW, Nat.reduceBEq, Nat.reduceAdd, Nat.reduceLeDiff, Int.reduceNe, Int.reduceBEq, Int.reduceEq, reduceCtorEq, Nat.reduceMul, Int.reduceLT, Int.reduceLE, Int.reduceToNat]
  cases h5 : decide ((i : Int) < ((((gr.row k).getD []).length : Nat) : Int))
  · have e : i = ((gr.row k).getD []).length := by have := of_decide_eq_false h5; omega
    subst e
    rw [List.drop_length, List.nil_append] at hrow2
    try simp only [I, B, D, RY, ↓ KW, Nat.reduceBEq, Nat.reduceAdd, Nat.reduceLeDiff, Int.reduceNe, Int.reduceBEq, Int.reduceEq, reduceCtorEq, Nat.reduceMul, Int.reduceLT, Int.reduceLE, Int.reduceToNat, h5]
    refine back1 (k + 1, s2) _ ⟨by omega, hrow2⟩ (by simp only; omega) ?_
    refine le_tok2 (by decide) ?_ ?_ ?_ ?_ <;> simp [LX, I, B, D, hw1]
  have hil : i < ((gr.row k).getD []).length := by have := of_decide_eq_true h5; omega
  obtain ⟨x, hx⟩ : ∃ x, ((gr.row k).getD [])[i]? = some x := ⟨_, List.getElem?_eq_getElem hil⟩
  have hdr : ((gr.row k).getD []).drop i = x :: ((gr.row k).getD []).drop (i + 1) := by
    rw [List.drop_eq_getElem_cons hil]
    congr 1
    rw [List.getElem?_eq_getElem hil] at hx; exact Option.some.inj hx
  rw [hdr, List.cons_append, rowGo_next] at hrow2
  try simp only [I, B, D, RY, ↓ KW, Nat.reduceBEq, Nat.reduceAdd, Nat.reduceLeDiff, Int.reduceNe, Int.reduceBEq, Int.reduceEq, reduceCtorEq, Nat.reduceMul, Int.reduceLT, Int.reduceLE, Int.reduceToNat, h5, a_rows, hx, intRow]
  refine ⟨by omega, ?_⟩
  refine call_is (hH on x) ?_
  generalize hasS on x = b1 at *
  have c2 := hH s2 x
  generalize hasS s2 x = b2 at *
  cases b1
  · have : rowGo on seen (gr.a.getD [] ++ gr.b.getD []) = none := by rw [hrow2]; rfl
    rw [this] at hinv
    try simp only [I, B, D, RY, ↓ KW, Nat.reduceBEq, Nat.reduceAdd, Nat.reduceLeDiff, Int.reduceNe, Int.reduceBEq, Int.reduceEq, reduceCtorEq, Nat.reduceMul, Int.reduceLT, Int.reduceLE, Int.reduceToNat]
    refine call_is (hB 8 g) ?_
    rw [← hinv]
    try simp only [I, B, D, RY, ↓ KW, Nat.reduceBEq, Nat.reduceAdd, Nat.reduceLeDiff, Int.reduceNe, Int.reduceBEq, Int.reduceEq, reduceCtorEq, Nat.reduceMul, Int.reduceLT, Int.reduceLE, Int.reduceToNat, fltC, setCells]
  · try simp only [I, B, D, RY, ↓ KW, Nat.reduceBEq, Nat.reduceAdd, Nat.reduceLeDiff, Int.reduceNe, Int.reduceBEq, Int.reduceEq, reduceCtorEq, Nat.reduceMul, Int.reduceLT, Int.reduceLE, Int.reduceToNat]
    refine call_is c2 ?_
    cases b2
    · try simp only [I, B, D, RY, ↓ KW, Nat.reduceBEq, Nat.reduceAdd, Nat.reduceLeDiff, Int.reduceNe, Int.reduceBEq, Int.reduceEq, reduceCtorEq, Nat.reduceMul, Int.reduceLT, Int.reduceLE, Int.reduceToNat]
      refine call_is (hW s2 x) ?_
      try simp only [I, B, D, RY, ↓ KW, Nat.reduceBEq, Nat.reduceAdd, Nat.reduceLeDiff, Int.reduceNe, Int.reduceBEq, Int.reduceEq, reduceCtorEq, Nat.reduceMul, Int.reduceLT, Int.reduceLE, Int.reduceToNat]
      refine back2 (i + 1, withS s2 x) _ ⟨by omega, hrow2⟩ (by simp only; omega) ?_
      refine le_tok2 (by decide) ?_ ?_ ?_ ?_ <;> simp [LX, I, B, D, hw2]
    · have : rowGo on seen (gr.a.getD [] ++ gr.b.getD []) = none := by rw [hrow2]; rfl
      rw [this] at hinv
      try simp only [I, B, D, RY, ↓ KW, Nat.reduceBEq, Nat.reduceAdd, Nat.reduceLeDiff, Int.reduceNe, Int.reduceBEq, Int.reduceEq, reduceCtorEq, Nat.reduceMul, Int.reduceLT, Int.reduceLE, Int.reduceToNat]
      refine call_is (hB 8 g) ?_
      rw [← hinv]
      try simp only [I, B, D, RY, ↓ KW, Nat.reduceBEq, Nat.reduceAdd, Nat.reduceLeDiff, Int.reduceNe, Int.reduceBEq, Int.reduceEq, reduceCtorEq, Nat.reduceMul, Int.reduceLT, Int.reduceLE, Int.reduceToNat, fltC, setCells]
end
end Go.Eng
namespace Go.Eng
set_option linter.unusedVariables false
set_option linter.unusedSimpArgs false
set_option linter.unnecessarySimpa false
open Go
set_option linter.unusedVariables false
set_option linter.unusedSimpArgs false
set_option maxRecDepth 10000
set_option maxHeartbeats 4000000
def dtAt (t : Tb) (k : Nat) : Det := (t.detectors.getD []).getD k default
def rlN (t : Tb) (k : Nat) : Rl := (t.rails.getD []).getD k default
def bsN (t : Tb) (k : Nat) : Bs := (t.buses.getD []).getD k default
def firstOf : List (Int × Int) → Int × Int
  | [] => (0, 0)
  | r :: rs => if (r.1 == 0 && r.2 == 0) = true then firstOf rs else r
def rulesE (t : Tb) (on : Int) : List (Int × Int) :=
  [firstN 7 8 fun p => tb on p && phBad (phAt t p), ringE t on, firstN 9 8 fun p => tb on p && confBad t on p, firstN 10 (t.detectors.getD []).length fun k => detBad on (dtAt t k),
   firstN 11 (t.rails.getD []).length fun k => railBad t on (rlN t k), firstN 12 (t.buses.getD []).length fun k => busBad on (bsN t k), firstN 13 8 fun p => tb on p && flBad t on p]
def checkE (t : Tb) : Int × Int := if mayT t then firstOf (rulesE t (onI t)) else (4, 0)
def ck11.Spec (C : Con) (f : Nat) : Prop := ∀ (on : Int) (g : Nat) (fs cs : List AV) (p : Nat) (r : Bool), p < 8 → (tb on p = true → C.c g (fs ++ [I p] ++ cs) (B r) none) → C.c f [I p, .ref [I on], .ref [.fn (.func g) fs cs]] (B (tb on p && r)) none
def ck1.Spec (C : Con) (f : Nat) : Prop := ∀ (code on : Int) (g : Nat) (fs cs : List AV) (w : Nat → Bool), (∀ p, p < 8 → tb on p = true → C.c g (fs ++ [I p] ++ cs) (B (w p)) none) → C.c f [I code, .fn (.func g) fs cs, .ref [I on]] (.agg (fltC (firstN code 8 fun p => tb on p && w p))) none
def ck21.Spec (C : Con) (f : Nat) : Prop := ∀ (t : Tb) (p : Nat), t.Ln → p < 8 → C.c f [I p, .ref t.cells] (B (phBad (phAt t p))) none
def ck2.Spec (C : Con) (f : Nat) : Prop := ∀ (t : Tb) (on : Int) (f1 : Nat), t.Ln → ck1.Spec C f1 → C.c f [.ref [.fn (.func f1) [] [.ref [I on]]], .ref t.cells] (.agg (fltC (firstN 7 8 fun p => tb on p && phBad (phAt t p)))) none
def ck3.Spec (C : Con) (f : Nat) : Prop := ∀ (t : Tb) (on : Int), t.Ok → C.c f [.ref t.cells, .ref [I on]] (.agg (fltC (ringE t on))) none
def ck41.Spec (C : Con) (f : Nat) : Prop := ∀ (t : Tb) (on : Int) (p : Nat), t.Ok → p < 8 → C.c f [I p, .ref t.cells, .ref [I on]] (B (confBad t on p)) none
def ck4.Spec (C : Con) (f : Nat) : Prop := ∀ (t : Tb) (on : Int) (f1 : Nat), t.Ok → ck1.Spec C f1 → C.c f [.ref [.fn (.func f1) [] [.ref [I on]]], .ref t.cells, .ref [I on]] (.agg (fltC (firstN 9 8 fun p => tb on p && confBad t on p))) none
def ck51.Spec (C : Con) (f : Nat) : Prop := ∀ (t : Tb) (on : Int) (k : Nat), t.Ok → k < (t.detectors.getD []).length → C.c f [I k, .ref t.cells, .ref [I on]] (B (detBad on (dtAt t k))) none
def ck5.Spec (C : Con) (f : Nat) : Prop := ∀ (t : Tb) (on : Int), t.Ok → C.c f [.ref t.cells, .ref [I on]] (.agg (fltC (firstN 10 (t.detectors.getD []).length fun k => detBad on (dtAt t k)))) none
def ck61.Spec (C : Con) (f : Nat) : Prop := ∀ (t : Tb) (on : Int) (k : Nat), t.Ok → k < (t.rails.getD []).length → C.c f [I k, .ref t.cells, .ref [I on]] (B (railBad t on (rlN t k))) none
def ck6.Spec (C : Con) (f : Nat) : Prop := ∀ (t : Tb) (on : Int), t.Ok → C.c f [.ref t.cells, .ref [I on]] (.agg (fltC (firstN 11 (t.rails.getD []).length fun k => railBad t on (rlN t k)))) none
def ck71.Spec (C : Con) (f : Nat) : Prop := ∀ (t : Tb) (on : Int) (k : Nat), t.Ok → k < (t.buses.getD []).length → C.c f [I k, .ref t.cells, .ref [I on]] (B (busBad on (bsN t k))) none
def ck7.Spec (C : Con) (f : Nat) : Prop := ∀ (t : Tb) (on : Int), t.Ok → C.c f [.ref t.cells, .ref [I on]] (.agg (fltC (firstN 12 (t.buses.getD []).length fun k => busBad on (bsN t k)))) none
def ck81.Spec (C : Con) (f : Nat) : Prop := ∀ (t : Tb) (on : Int) (p : Nat), t.Ok → p < 8 → C.c f [I p, .ref t.cells, .ref [I on]] (B (flBad t on p)) none
def ck8.Spec (C : Con) (f : Nat) : Prop := ∀ (t : Tb) (on : Int) (f1 : Nat), t.Ok → ck1.Spec C f1 → C.c f [.ref [.fn (.func f1) [] [.ref [I on]]], .ref t.cells, .ref [I on]] (.agg (fltC (firstN 13 8 fun p => tb on p && flBad t on p))) none
def check9.Spec (C : Con) (f : Nat) : Prop := ∀ t : Tb, t.Ok → t.Fw → C.c f [.agg t.cells] (.agg (fltC (checkE t))) none
section
variable {P : Program} (hm : P.follows .mixedOrders = true) {f : Nat}
include hm
theorem ck11.ok {fH : Nat} (hc : cFn P f = some (cc_check_Check_1_1 fH)) (hH : setHas.Spec (Pure P) fH) : ck11.Spec (Pure P) f := by
  intro on g fs cs p r hp hg
  have c1 := hH on p
  rw [hasS_tb hp] at c1
  generalize tb on p = b1 at *
  refine pure_of hm hc (by show 3 ≤ 13; decide) (aw_flat (keep := []) (i := 0) ?_)
  try simp only [I, B, D, RX, ↓ KW, Nat.reduceBEq, Nat.reduceAdd, Nat.reduceLeDiff, Int.reduceNe, Int.reduceBEq, Int.reduceEq, reduceCtorEq, Nat.reduceMul, Int.reduceLT, Int.reduceLE, Int.reduceToNat, cc_check_Check_1_1, Z.H]
  refine call_is c1 ?_
  cases b1
  · try simp only [I, B, D, RX, ↓ KW, Nat.reduceBEq, Nat.reduceAdd, Nat.reduceLeDiff, Int.reduceNe, Int.reduceBEq, Int.reduceEq, reduceCtorEq, Nat.reduceMul, Int.reduceLT, Int.reduceLE, Int.reduceToNat]
    try rfl
  · try simp only [I, B, D, RX, ↓ KW, Nat.reduceBEq, Nat.reduceAdd, Nat.reduceLeDiff, Int.reduceNe, Int.reduceBEq, Int.reduceEq, reduceCtorEq, Nat.reduceMul, Int.reduceLT, Int.reduceLE, Int.reduceToNat]
    refine call_is (hg rfl) ?_
    try simp only [I, B, D, RX, ↓ KW, Nat.reduceBEq, Nat.reduceAdd, Nat.reduceLeDiff, Int.reduceNe, Int.reduceBEq, Int.reduceEq, reduceCtorEq, Nat.reduceMul, Int.reduceLT, Int.reduceLE, Int.reduceToNat]
    try rfl
theorem ck1.ok {f11 fF : Nat} (hc : cFn P f = some (cc_check_Check_1 f11 fF)) (h11 : ck11.Spec (Pure P) f11) (hF : cFirst.Spec (Pure P) fF) : ck1.Spec (Pure P) f := by
  intro code on g fs cs w hg
  have c1 := hF code 8 f11 [] [.ref [I on], .ref [.fn (.func g) fs cs]] (fun p => tb on p && w p) (by decide) (fun p hp => h11 on g fs cs p (w p) hp (hg p hp))
  refine pure_of hm hc (by show 3 ≤ 9; decide) (aw_flat (keep := []) (i := 0) ?_)
  try simp only [I, B, D, RX, ↓ KW, Nat.reduceBEq, Nat.reduceAdd, Nat.reduceLeDiff, Int.reduceNe, Int.reduceBEq, Int.reduceEq, reduceCtorEq, Nat.reduceMul, Int.reduceLT, Int.reduceLE, Int.reduceToNat, cc_check_Check_1, Z.H]
  refine ⟨rfl, ?_⟩
  refine call_is c1 ?_
  try simp only [I, B, D, RX, ↓ KW, Nat.reduceBEq, Nat.reduceAdd, Nat.reduceLeDiff, Int.reduceNe, Int.reduceBEq, Int.reduceEq, reduceCtorEq, Nat.reduceMul, Int.reduceLT, Int.reduceLE, Int.reduceToNat, fltC, setCells]
theorem ck21.ok {fP : Nat} (hc : cFn P f = some (cc_check_Check_2_1 fP)) (hP : cPhase.Spec (Pure P) fP) : ck21.Spec (Pure P) f := by
  intro t p h hp
  have hx : 0 ≤ (p : Int) ∧ (p : Int) < (8 : Nat) := by omega
  have hpart := part_drop (Tb.phase_part (h.ph_get hp))
  refine pure_of hm hc (by show 2 ≤ 9; decide) (aw_flat (keep := []) (i := 0) ?_)
  try simp only [I, B, D, RX, ↓ KW, Nat.reduceBEq, Nat.reduceAdd, Nat.reduceLeDiff, Int.reduceNe, Int.reduceBEq, Int.reduceEq, reduceCtorEq, Nat.reduceMul, Int.reduceLT, Int.reduceLE, Int.reduceToNat, cc_check_Check_2_1, Z.H, hx, hpart, List.drop_zero]
  refine call_is (hP (phAt t p)) ?_
  try simp only [I, B, D, RX, ↓ KW, Nat.reduceBEq, Nat.reduceAdd, Nat.reduceLeDiff, Int.reduceNe, Int.reduceBEq, Int.reduceEq, reduceCtorEq, Nat.reduceMul, Int.reduceLT, Int.reduceLE, Int.reduceToNat]
theorem ck2.ok {f21 : Nat} (hc : cFn P f = some (cc_check_Check_2 f21)) (h21 : ck21.Spec (Pure P) f21) : ck2.Spec (Pure P) f := by
  intro t on f1 h h1
  have c1 := h1 7 on f21 [] [.ref t.cells] (fun p => phBad (phAt t p)) (fun p hp _ => h21 t p h hp)
  refine pure_of hm hc (by show 2 ≤ 6; decide) (aw_flat (keep := []) (i := 0) ?_)
  try simp only [I, B, D, RX, ↓ KW, Nat.reduceBEq, Nat.reduceAdd, Nat.reduceLeDiff, Int.reduceNe, Int.reduceBEq, Int.reduceEq, reduceCtorEq, Nat.reduceMul, Int.reduceLT, Int.reduceLE, Int.reduceToNat, cc_check_Check_2, Z.H]
  refine ⟨rfl, ?_⟩
  refine call_is c1 ?_
  try simp only [I, B, D, RX, ↓ KW, Nat.reduceBEq, Nat.reduceAdd, Nat.reduceLeDiff, Int.reduceNe, Int.reduceBEq, Int.reduceEq, reduceCtorEq, Nat.reduceMul, Int.reduceLT, Int.reduceLE, Int.reduceToNat, fltC, setCells]
theorem ck3.ok {fR : Nat} (hc : cFn P f = some (cc_check_Check_3 fR)) (hR : cRings.Spec (Pure P) fR) : ck3.Spec (Pure P) f := by
  intro t on h
  have hw := h.ln.whole
  refine pure_of hm hc (by show 2 ≤ 6; decide) (aw_flat (keep := []) (i := 0) ?_)
  try simp only [I, B, D, RX, ↓ KW, Nat.reduceBEq, Nat.reduceAdd, Nat.reduceLeDiff, Int.reduceNe, Int.reduceBEq, Int.reduceEq, reduceCtorEq, Nat.reduceMul, Int.reduceLT, Int.reduceLE, Int.reduceToNat, cc_check_Check_3, Z.H, hw]
  refine call_is (hR t on h) ?_
  try simp only [I, B, D, RX, ↓ KW, Nat.reduceBEq, Nat.reduceAdd, Nat.reduceLeDiff, Int.reduceNe, Int.reduceBEq, Int.reduceEq, reduceCtorEq, Nat.reduceMul, Int.reduceLT, Int.reduceLE, Int.reduceToNat, fltC, setCells]
theorem ck41.ok {fC : Nat} (hc : cFn P f = some (cc_check_Check_4_1 fC)) (hC : cConf.Spec (Pure P) fC) : ck41.Spec (Pure P) f := by
  intro t on p h hp
  have hw := h.ln.whole
  refine pure_of hm hc (by show 3 ≤ 9; decide) (aw_flat (keep := []) (i := 0) ?_)
  try simp only [I, B, D, RX, ↓ KW, Nat.reduceBEq, Nat.reduceAdd, Nat.reduceLeDiff, Int.reduceNe, Int.reduceBEq, Int.reduceEq, reduceCtorEq, Nat.reduceMul, Int.reduceLT, Int.reduceLE, Int.reduceToNat, cc_check_Check_4_1, Z.H, hw]
  refine call_is (hC t on p h hp) ?_
  try simp only [I, B, D, RX, ↓ KW, Nat.reduceBEq, Nat.reduceAdd, Nat.reduceLeDiff, Int.reduceNe, Int.reduceBEq, Int.reduceEq, reduceCtorEq, Nat.reduceMul, Int.reduceLT, Int.reduceLE, Int.reduceToNat]
theorem ck4.ok {f41 : Nat} (hc : cFn P f = some (cc_check_Check_4 f41)) (h41 : ck41.Spec (Pure P) f41) : ck4.Spec (Pure P) f := by
  intro t on f1 h h1
  have c1 := h1 9 on f41 [] [.ref t.cells, .ref [I on]] (confBad t on) (fun p hp _ => h41 t on p h hp)
  refine pure_of hm hc (by show 3 ≤ 7; decide) (aw_flat (keep := []) (i := 0) ?_)
  try simp only [I, B, D, RX, ↓ KW, Nat.reduceBEq, Nat.reduceAdd, Nat.reduceLeDiff, Int.reduceNe, Int.reduceBEq, Int.reduceEq, reduceCtorEq, Nat.reduceMul, Int.reduceLT, Int.reduceLE, Int.reduceToNat, cc_check_Check_4, Z.H]
  refine ⟨rfl, ?_⟩
  refine call_is c1 ?_
  try simp only [I, B, D, RX, ↓ KW, Nat.reduceBEq, Nat.reduceAdd, Nat.reduceLeDiff, Int.reduceNe, Int.reduceBEq, Int.reduceEq, reduceCtorEq, Nat.reduceMul, Int.reduceLT, Int.reduceLE, Int.reduceToNat, fltC, setCells]
theorem ck51.ok {fH : Nat} (hc : cFn P f = some (cc_check_Check_5_1 fH)) (hH : setHas.Spec (Pure P) fH) : ck51.Spec (Pure P) f := by
  intro t on k h hk
  have g1 := gt_drop h.ln.at113
  obtain ⟨d, hd⟩ : ∃ d, (t.detectors.getD [])[k]? = some d := ⟨_, List.getElem?_eq_getElem hk⟩
  have e : dtAt t k = d := by rw [dtAt, List.getD_eq_getElem?_getD, hd]; rfl
  rw [e, detBad]
  have c1 := hH on d.phase
  generalize hasS on d.phase = b2 at *
  obtain ⟨b1, hb1⟩ : ∃ b, gtF d.off d.on = b := ⟨_, rfl⟩
  rw [hb1]
  refine pure_of hm hc (by show 3 ≤ 29; decide) (aw_flat (keep := []) (i := 0) ?_)
  try simp only [I, B, D, RX, ↓ KW, Nat.reduceBEq, Nat.reduceAdd, Nat.reduceLeDiff, Int.reduceNe, Int.reduceBEq, Int.reduceEq, reduceCtorEq, Nat.reduceMul, Int.reduceLT, Int.reduceLE, Int.reduceToNat, cc_check_Check_5_1, Z.H, g1, a_rows, hd, Det.cells, FLW, hb1]
  refine ⟨by omega, by omega, ?_⟩
  cases b1
  · try simp only [I, B, D, RX, ↓ KW, Nat.reduceBEq, Nat.reduceAdd, Nat.reduceLeDiff, Int.reduceNe, Int.reduceBEq, Int.reduceEq, reduceCtorEq, Nat.reduceMul, Int.reduceLT, Int.reduceLE, Int.reduceToNat, g1, a_rows, hd, Det.cells, hb1]
    refine ⟨by omega, ?_⟩
    refine call_is c1 ?_
    try simp only [I, B, D, RX, ↓ KW, Nat.reduceBEq, Nat.reduceAdd, Nat.reduceLeDiff, Int.reduceNe, Int.reduceBEq, Int.reduceEq, reduceCtorEq, Nat.reduceMul, Int.reduceLT, Int.reduceLE, Int.reduceToNat]
    try rfl
  · try simp only [I, B, D, RX, ↓ KW, Nat.reduceBEq, Nat.reduceAdd, Nat.reduceLeDiff, Int.reduceNe, Int.reduceBEq, Int.reduceEq, reduceCtorEq, Nat.reduceMul, Int.reduceLT, Int.reduceLE, Int.reduceToNat, hb1]
    try rfl
theorem ck5.ok {f51 fF : Nat} (hc : cFn P f = some (cc_check_Check_5 f51 fF)) (h51 : ck51.Spec (Pure P) f51) (hF : cFirst.Spec (Pure P) fF) : ck5.Spec (Pure P) f := by
  intro t on h
  have g1 := gt_drop h.ln.at113
  have c1 := hF 10 (t.detectors.getD []).length f51 [] [.ref t.cells, .ref [I on]] (fun k => detBad on (dtAt t k)) (by have := h.dets; omega) (fun k hk => h51 t on k h hk)
  refine pure_of hm hc (by show 2 ≤ 8; decide) (aw_flat (keep := []) (i := 0) ?_)
  try simp only [I, B, D, RX, ↓ KW, Nat.reduceBEq, Nat.reduceAdd, Nat.reduceLeDiff, Int.reduceNe, Int.reduceBEq, Int.reduceEq, reduceCtorEq, Nat.reduceMul, Int.reduceLT, Int.reduceLE, Int.reduceToNat, cc_check_Check_5, Z.H, g1, a_len]
  refine ⟨rfl, ?_⟩
  refine call_is c1 ?_
  try simp only [I, B, D, RX, ↓ KW, Nat.reduceBEq, Nat.reduceAdd, Nat.reduceLeDiff, Int.reduceNe, Int.reduceBEq, Int.reduceEq, reduceCtorEq, Nat.reduceMul, Int.reduceLT, Int.reduceLE, Int.reduceToNat, fltC, setCells]
theorem ck61.ok {fR : Nat} (hc : cFn P f = some (cc_check_Check_6_1 fR)) (hR : cRail.Spec (Pure P) fR) : ck61.Spec (Pure P) f := by
  intro t on k h hk
  have hw := h.ln.whole
  have g1 := gt_drop h.ln.at114
  obtain ⟨d, hd⟩ : ∃ d, (t.rails.getD [])[k]? = some d := ⟨_, List.getElem?_eq_getElem hk⟩
  have e : rlN t k = d := by rw [rlN, List.getD_eq_getElem?_getD, hd]; rfl
  rw [e]
  have hpart : partA (Rl.cells d) 0 (some 11) = some (.agg d.cells) := rfl
  have hdl : (Rl.cells d).length = 11 := rfl
  refine pure_of hm hc (by show 3 ≤ 13; decide) (aw_flat (keep := []) (i := 0) ?_)
  try simp only [I, B, D, RX, ↓ KW, Nat.reduceBEq, Nat.reduceAdd, Nat.reduceLeDiff, Int.reduceNe, Int.reduceBEq, Int.reduceEq, reduceCtorEq, Nat.reduceMul, Int.reduceLT, Int.reduceLE, Int.reduceToNat, cc_check_Check_6_1, Z.H, g1, hw, a_rows, hd, hpart, hdl]
  refine ⟨by omega, ?_⟩
  refine call_is (hR t on d h) ?_
  try simp only [I, B, D, RX, ↓ KW, Nat.reduceBEq, Nat.reduceAdd, Nat.reduceLeDiff, Int.reduceNe, Int.reduceBEq, Int.reduceEq, reduceCtorEq, Nat.reduceMul, Int.reduceLT, Int.reduceLE, Int.reduceToNat]
theorem ck6.ok {f61 fF : Nat} (hc : cFn P f = some (cc_check_Check_6 f61 fF)) (h61 : ck61.Spec (Pure P) f61) (hF : cFirst.Spec (Pure P) fF) : ck6.Spec (Pure P) f := by
  intro t on h
  have g1 := gt_drop h.ln.at114
  have c1 := hF 11 (t.rails.getD []).length f61 [] [.ref t.cells, .ref [I on]] (fun k => railBad t on (rlN t k)) (by have := h.rails; omega) (fun k hk => h61 t on k h hk)
  refine pure_of hm hc (by show 2 ≤ 8; decide) (aw_flat (keep := []) (i := 0) ?_)
  try simp only [I, B, D, RX, ↓ KW, Nat.reduceBEq, Nat.reduceAdd, Nat.reduceLeDiff, Int.reduceNe, Int.reduceBEq, Int.reduceEq, reduceCtorEq, Nat.reduceMul, Int.reduceLT, Int.reduceLE, Int.reduceToNat, cc_check_Check_6, Z.H, g1, a_len]
  refine ⟨rfl, ?_⟩
  refine call_is c1 ?_
  try simp only [I, B, D, RX, ↓ KW, Nat.reduceBEq, Nat.reduceAdd, Nat.reduceLeDiff, Int.reduceNe, Int.reduceBEq, Int.reduceEq, reduceCtorEq, Nat.reduceMul, Int.reduceLT, Int.reduceLE, Int.reduceToNat, fltC, setCells]
theorem ck71.ok (hc : cFn P f = some cc_check_Check_7_1) : ck71.Spec (Pure P) f := by
  intro t on k h hk
  have g1 := gt_drop h.ln.at115
  obtain ⟨d, hd⟩ : ∃ d, (t.buses.getD [])[k]? = some d := ⟨_, List.getElem?_eq_getElem hk⟩
  have e : bsN t k = d := by rw [bsN, List.getD_eq_getElem?_getD, hd]; rfl
  rw [e, busBad]
  generalize h1 : (d.set == 0) = b1
  generalize h2 : (bAndNot .i64 d.set on != 0) = b2
  refine pure_of hm hc (by show 3 ≤ 32; decide) (aw_flat (keep := []) (i := 0) ?_)
  try simp only [I, B, D, RX, ↓ KW, Nat.reduceBEq, Nat.reduceAdd, Nat.reduceLeDiff, Int.reduceNe, Int.reduceBEq, Int.reduceEq, reduceCtorEq, Nat.reduceMul, Int.reduceLT, Int.reduceLE, Int.reduceToNat, cc_check_Check_7_1, Z.H, g1, a_rows, hd, Bs.cells, h1, h2]
  refine ⟨by omega, ?_⟩
  cases b1
  · try simp only [I, B, D, RX, ↓ KW, Nat.reduceBEq, Nat.reduceAdd, Nat.reduceLeDiff, Int.reduceNe, Int.reduceBEq, Int.reduceEq, reduceCtorEq, Nat.reduceMul, Int.reduceLT, Int.reduceLE, Int.reduceToNat, g1, a_rows, hd, Bs.cells, h1, h2]
    refine ⟨by omega, ?_⟩
    cases b2
    · try simp only [I, B, D, RX, ↓ KW, Nat.reduceBEq, Nat.reduceAdd, Nat.reduceLeDiff, Int.reduceNe, Int.reduceBEq, Int.reduceEq, reduceCtorEq, Nat.reduceMul, Int.reduceLT, Int.reduceLE, Int.reduceToNat, g1, a_rows, hd, Bs.cells, h1, h2]
      omega
    · try simp only [I, B, D, RX, ↓ KW, Nat.reduceBEq, Nat.reduceAdd, Nat.reduceLeDiff, Int.reduceNe, Int.reduceBEq, Int.reduceEq, reduceCtorEq, Nat.reduceMul, Int.reduceLT, Int.reduceLE, Int.reduceToNat, h2]
      try rfl
  · try simp only [I, B, D, RX, ↓ KW, Nat.reduceBEq, Nat.reduceAdd, Nat.reduceLeDiff, Int.reduceNe, Int.reduceBEq, Int.reduceEq, reduceCtorEq, Nat.reduceMul, Int.reduceLT, Int.reduceLE, Int.reduceToNat, h1]
    try rfl
theorem ck7.ok {f71 fF : Nat} (hc : cFn P f = some (cc_check_Check_7 f71 fF)) (h71 : ck71.Spec (Pure P) f71) (hF : cFirst.Spec (Pure P) fF) : ck7.Spec (Pure P) f := by
  intro t on h
  have g1 := gt_drop h.ln.at115
  have c1 := hF 12 (t.buses.getD []).length f71 [] [.ref t.cells, .ref [I on]] (fun k => busBad on (bsN t k)) (by have := h.buses; omega) (fun k hk => h71 t on k h hk)
  refine pure_of hm hc (by show 2 ≤ 8; decide) (aw_flat (keep := []) (i := 0) ?_)
  try simp only [I, B, D, RX, ↓ KW, Nat.reduceBEq, Nat.reduceAdd, Nat.reduceLeDiff, Int.reduceNe, Int.reduceBEq, Int.reduceEq, reduceCtorEq, Nat.reduceMul, Int.reduceLT, Int.reduceLE, Int.reduceToNat, cc_check_Check_7, Z.H, g1, a_len]
  refine ⟨rfl, ?_⟩
  refine call_is c1 ?_
  try simp only [I, B, D, RX, ↓ KW, Nat.reduceBEq, Nat.reduceAdd, Nat.reduceLeDiff, Int.reduceNe, Int.reduceBEq, Int.reduceEq, reduceCtorEq, Nat.reduceMul, Int.reduceLT, Int.reduceLE, Int.reduceToNat, fltC, setCells]
theorem ck81.ok {fC : Nat} (hc : cFn P f = some (cc_check_Check_8_1 fC)) (hC : cFlash.Spec (Pure P) fC) : ck81.Spec (Pure P) f := by
  intro t on p h hp
  have hw := h.ln.whole
  refine pure_of hm hc (by show 3 ≤ 9; decide) (aw_flat (keep := []) (i := 0) ?_)
  try simp only [I, B, D, RX, ↓ KW, Nat.reduceBEq, Nat.reduceAdd, Nat.reduceLeDiff, Int.reduceNe, Int.reduceBEq, Int.reduceEq, reduceCtorEq, Nat.reduceMul, Int.reduceLT, Int.reduceLE, Int.reduceToNat, cc_check_Check_8_1, Z.H, hw]
  refine call_is (hC t on p h.ln hp) ?_
  try simp only [I, B, D, RX, ↓ KW, Nat.reduceBEq, Nat.reduceAdd, Nat.reduceLeDiff, Int.reduceNe, Int.reduceBEq, Int.reduceEq, reduceCtorEq, Nat.reduceMul, Int.reduceLT, Int.reduceLE, Int.reduceToNat]
theorem ck8.ok {f81 : Nat} (hc : cFn P f = some (cc_check_Check_8 f81)) (h81 : ck81.Spec (Pure P) f81) : ck8.Spec (Pure P) f := by
  intro t on f1 h h1
  have c1 := h1 13 on f81 [] [.ref t.cells, .ref [I on]] (flBad t on) (fun p hp _ => h81 t on p h hp)
  refine pure_of hm hc (by show 3 ≤ 7; decide) (aw_flat (keep := []) (i := 0) ?_)
  try simp only [I, B, D, RX, ↓ KW, Nat.reduceBEq, Nat.reduceAdd, Nat.reduceLeDiff, Int.reduceNe, Int.reduceBEq, Int.reduceEq, reduceCtorEq, Nat.reduceMul, Int.reduceLT, Int.reduceLE, Int.reduceToNat, cc_check_Check_8, Z.H]
  refine ⟨rfl, ?_⟩
  refine call_is c1 ?_
  try simp only [I, B, D, RX, ↓ KW, Nat.reduceBEq, Nat.reduceAdd, Nat.reduceLeDiff, Int.reduceNe, Int.reduceBEq, Int.reduceEq, reduceCtorEq, Nat.reduceMul, Int.reduceLT, Int.reduceLE, Int.reduceToNat, fltC, setCells]
theorem check9.ok {fM fB fO f1 f2 f3 f4 f5 f6 f7 f8 fN : Nat} (hc : cFn P f = some (cc_check_Check fM fB fO f1 f2 f3 f4 f5 f6 f7 f8 fN)) (hM : tMay.Spec (Pure P) fM) (hB : cBad.Spec (Pure P) fB) (hO : pOn.Spec (Pure P) fO) (h1 : ck1.Spec (Pure P) f1)
    (h2 : ck2.Spec (Pure P) f2) (h3 : ck3.Spec (Pure P) f3) (h4 : ck4.Spec (Pure P) f4) (h5 : ck5.Spec (Pure P) f5) (h6 : ck6.Spec (Pure P) f6) (h7 : ck7.Spec (Pure P) f7) (h8 : ck8.Spec (Pure P) f8) (hN : cNone.Spec (Pure P) fN) : check9.Spec (Pure P) f := by
  intro t h hfw
  have hw := h.ln.whole
  have c0 := hM t h.ln hfw
  have c1 := hO t h.ln
  rw [checkE]
  generalize mayT t = b0 at *
  have d1 := h2 t (onI t) f1 h.ln h1
  have d2 := h3 t (onI t) h
  have d3 := h4 t (onI t) f1 h h1
  have d4 := h5 t (onI t) h
  have d5 := h6 t (onI t) h
  have d6 := h7 t (onI t) h
  have d7 := h8 t (onI t) f1 h h1
  obtain ⟨R, hR⟩ : ∃ R, R = rulesE t (onI t) := ⟨_, rfl⟩
  rw [← hR]
  have hlen : R.length = 7 := by rw [hR]; rfl
  obtain ⟨F, hF⟩ : ∃ F : List AV, F = [.fn (.func f2) [] [.ref [.fn (.func f1) [] [.ref [I (onI t)]]], .ref t.cells], .fn (.func f3) [] [.ref t.cells, .ref [I (onI t)]], .fn (.func f4) [] [.ref [.fn (.func f1) [] [.ref [I (onI t)]]], .ref t.cells, .ref [I (onI t)]],
    .fn (.func f5) [] [.ref t.cells, .ref [I (onI t)]], .fn (.func f6) [] [.ref t.cells, .ref [I (onI t)]], .fn (.func f7) [] [.ref t.cells, .ref [I (onI t)]], .fn (.func f8) [] [.ref [.fn (.func f1) [] [.ref [I (onI t)]]], .ref t.cells, .ref [I (onI t)]]] := ⟨_, rfl⟩
  have hk : ∀ k, k < 7 → ∃ g caps r, F[k]? = some (.fn (.func g) [] caps) ∧ R[k]? = some r ∧ (Pure P).c g caps (.agg (fltC r)) none := by
    intro k hk
    have : k = 0 ∨ k = 1 ∨ k = 2 ∨ k = 3 ∨ k = 4 ∨ k = 5 ∨ k = 6 := by omega
    rw [hF, hR]
    rcases this with rfl | rfl | rfl | rfl | rfl | rfl | rfl
    · exact ⟨_, _, _, rfl, rfl, d1⟩
    · exact ⟨_, _, _, rfl, rfl, d2⟩
    · exact ⟨_, _, _, rfl, rfl, d3⟩
    · exact ⟨_, _, _, rfl, rfl, d4⟩
    · exact ⟨_, _, _, rfl, rfl, d5⟩
    · exact ⟨_, _, _, rfl, rfl, d6⟩
    · exact ⟨_, _, _, rfl, rfl, d7⟩
  clear d1 d2 d3 d4 d5 d6 d7
  refine pure_of hm hc (by show 1 ≤ 36; decide) (aw_flat (keep := []) (i := 0) ?_)
  try simp only [I, B, D, RX, ↓ KW, Nat.reduceBEq, Nat.reduceAdd, Nat.reduceLeDiff, Int.reduceNe, Int.reduceBEq, Int.reduceEq, reduceCtorEq, Nat.reduceMul, Int.reduceLT, Int.reduceLE, Int.reduceToNat, cc_check_Check, Z.H, hw]
  refine call_is c0 ?_
  cases b0
  · try simp only [I, B, D, RX, ↓ KW, Nat.reduceBEq, Nat.reduceAdd, Nat.reduceLeDiff, Int.reduceNe, Int.reduceBEq, Int.reduceEq, reduceCtorEq, Nat.reduceMul, Int.reduceLT, Int.reduceLE, Int.reduceToNat]
    refine call_is (hB 4 0) ?_
    try simp only [I, B, D, RX, ↓ KW, Nat.reduceBEq, Nat.reduceAdd, Nat.reduceLeDiff, Int.reduceNe, Int.reduceBEq, Int.reduceEq, reduceCtorEq, Nat.reduceMul, Int.reduceLT, Int.reduceLE, Int.reduceToNat, fltC, setCells]
    try rfl
  try simp only [I, B, D, RX, ↓ KW, Nat.reduceBEq, Nat.reduceAdd, Nat.reduceLeDiff, Int.reduceNe, Int.reduceBEq, Int.reduceEq, reduceCtorEq, Nat.reduceMul, Int.reduceLT, Int.reduceLE, Int.reduceToNat, hw]
  refine call_is c1 ?_
  try simp only [I, B, D, RX, ↓ KW, Nat.reduceBEq, Nat.reduceAdd, Nat.reduceLeDiff, Int.reduceNe, Int.reduceBEq, Int.reduceEq, reduceCtorEq, Nat.reduceMul, Int.reduceLT, Int.reduceLE, Int.reduceToNat, hw]
  refine ⟨rfl, rfl, rfl, rfl, rfl, rfl, rfl, rfl, ?_⟩
  refine aw_loop' (fun k : Nat => (⟨[(25, .dat (I k) none), (24, .dat (.agg F) none), (2, .ptr 5 0)], [(5, ⟨[I 0, I 0], []⟩)], [], 400⟩ : S)) (fun k => 7 - k) (fun k => k ≤ 7 ∧ firstOf (R.drop k) = firstOf R) ?_ 0 ⟨by omega, rfl⟩ ?_
  rotate_left
  · refine le_tok2 (by decide) ?_ ?_ ?_ ?_ <;> simp [LX, I, B, D, hF]
  rintro k ⟨hk7, hinv⟩ A back
  have hwr := wrap_succ (k := k) (by omega)
  try simp only [I, B, D, RX, ↓ KW, Nat.reduceBEq, Nat.reduceAdd, Nat.reduceLeDiff, Int.reduceNe, Int.reduceBEq, Int.reduceEq, reduceCtorEq, Nat.reduceMul, Int.reduceLT, Int.reduceLE, Int.reduceToNat]
  cases h2 : decide ((k : Int) < 7)
  · have e : k = 7 := by have := of_decide_eq_false h2; omega
    subst e
    rw [List.drop_of_length_le (by omega)] at hinv
    try simp only [I, B, D, RX, ↓ KW, Nat.reduceBEq, Nat.reduceAdd, Nat.reduceLeDiff, Int.reduceNe, Int.reduceBEq, Int.reduceEq, reduceCtorEq, Nat.reduceMul, Int.reduceLT, Int.reduceLE, Int.reduceToNat, h2]
    refine call_is hN ?_
    rw [← hinv]
    try simp only [I, B, D, RX, ↓ KW, Nat.reduceBEq, Nat.reduceAdd, Nat.reduceLeDiff, Int.reduceNe, Int.reduceBEq, Int.reduceEq, reduceCtorEq, Nat.reduceMul, Int.reduceLT, Int.reduceLE, Int.reduceToNat, fltC, firstOf, setCells]
    try rfl
  have h8 : k < 7 := by have := of_decide_eq_true h2; omega
  have hx : 0 ≤ (k : Int) ∧ (k : Int) < (7 : Nat) := by omega
  obtain ⟨g, caps, r, hf, hr, hcall⟩ := hk k h8
  have hd : R.drop k = r :: R.drop (k + 1) := by
    rw [List.drop_eq_getElem_cons (by omega)]
    congr 1
    rw [List.getElem?_eq_getElem (by omega)] at hr; exact Option.some.inj hr
  rw [hd, firstOf] at hinv
  have hcq : cellsEq [.i, .i] [AV.int .i64 r.1, AV.int .i64 r.2] [AV.int .i64 0, AV.int .i64 0] = some (r.1 == 0 && r.2 == 0) := by
    simp [cellsEq, cellEq]
  try simp only [I, B, D, RX, ↓ KW, Nat.reduceBEq, Nat.reduceAdd, Nat.reduceLeDiff, Int.reduceNe, Int.reduceBEq, Int.reduceEq, reduceCtorEq, Nat.reduceMul, Int.reduceLT, Int.reduceLE, Int.reduceToNat, h2, hx, hf]
  refine call_is hcall ?_
  try simp only [I, B, D, RX, ↓ KW, Nat.reduceBEq, Nat.reduceAdd, Nat.reduceLeDiff, Int.reduceNe, Int.reduceBEq, Int.reduceEq, reduceCtorEq, Nat.reduceMul, Int.reduceLT, Int.reduceLE, Int.reduceToNat, fltC, setCells]
  refine call_is hN ?_
  try simp only [I, B, D, RX, ↓ KW, Nat.reduceBEq, Nat.reduceAdd, Nat.reduceLeDiff, Int.reduceNe, Int.reduceBEq, Int.reduceEq, reduceCtorEq, Nat.reduceMul, Int.reduceLT, Int.reduceLE, Int.reduceToNat, fltC, setCells, hcq]
  cases hz : (r.1 == 0 && r.2 == 0)
  · rw [hz] at hinv
    try simp only [I, B, D, RX, ↓ KW, Nat.reduceBEq, Nat.reduceAdd, Nat.reduceLeDiff, Int.reduceNe, Int.reduceBEq, Int.reduceEq, reduceCtorEq, Nat.reduceMul, Int.reduceLT, Int.reduceLE, Int.reduceToNat, hz, BNW]
    simp only [Bool.false_eq_true, if_false] at hinv
    rw [← hinv]
  · rw [hz, if_pos rfl] at hinv
    try simp only [I, B, D, RX, ↓ KW, Nat.reduceBEq, Nat.reduceAdd, Nat.reduceLeDiff, Int.reduceNe, Int.reduceBEq, Int.reduceEq, reduceCtorEq, Nat.reduceMul, Int.reduceLT, Int.reduceLE, Int.reduceToNat, hz, BNW]
    refine back (k + 1) _ ⟨by omega, hinv⟩ (by omega) ?_
    refine le_tok2 (by decide) ?_ ?_ ?_ ?_ <;> simp [LX, I, B, D, hwr]
end
end Go.Eng
namespace Go.Eng
set_option linter.unusedVariables false
set_option linter.unusedSimpArgs false
set_option linter.unnecessarySimpa false
open Go
set_option linter.unusedVariables false
set_option linter.unusedSimpArgs false
set_option maxRecDepth 10000
set_option maxHeartbeats 4000000
def phOkR (x : Ph) : Bool :=
  (((((decide (x.min ≥ 1) && decide (x.yellow ≥ 10)) && decide (x.max ≥ x.min)) && decide (x.top ≥ x.max)) && (decide (x.step ≥ 1) || x.top == x.max)) && (decide (x.walk > 0) == decide (x.blinks > 0))) && (x.recall != 3 || decide (x.walk > 0))
def inB (a b : Int) : Bool := bAnd .i64 (bAndNot .i64 a b) 255 == 0
def clashR (t : Tb) (a b : Int) : Bool := (setN a).any fun p => (setN b).any fun q => clT t p q
def exitOk (t : Tb) (s : Int) : Bool := !apartE t s && decide (0 < (setN s).length)
def confR (t : Tb) (p q : Nat) : Bool := ((tb (conAt t p) q && (q : Int) == (p : Int)) || (tb (conAt t p) q != tb (conAt t q) p)) || (tb (conAt t p) q && besideR t p q)
def flR (t : Tb) (p q : Nat) : Bool := (flAt t p == 2 && flAt t q == 2) && tb (conAt t p) q
def flOk (t : Tb) (on : Int) (p : Nat) : Bool := !(flAt t p == 0) && !(setN on).any (flR t p)
def railOk (t : Tb) (on : Int) (r : Rl) : Bool :=
  (((((((((((inB (bOr .i64 (bOr .i64 (bOr .i64 r.bars r.clear) r.dwell) r.exit) on && r.dwell != 0) && bAnd .i64 r.dwell r.bars == 0) && exitOk t r.exit) && !clashR t r.clear r.clear) && !clashR t r.dwell r.dwell) && !clashR t r.exit r.exit) &&
    (decide (r.hold > 0) == (r.clear != 0))) && decide (r.green ≥ 1)) && decide (r.stay ≥ 1)) && (r.most == 0 || decide (r.most ≥ r.stay))) && decide (r.limit > r.delay))
def kPhase.Spec (C : Con) (f : Nat) : Prop := ∀ x : Ph, C.c f [.agg x.cells] (B (phOkR x)) none
def kIn.Spec (C : Con) (f : Nat) : Prop := ∀ a b : Int, C.c f [I a, I b] (B (inB a b)) none
def kClash.Spec (C : Con) (f : Nat) : Prop := ∀ (t : Tb) (a b : Int), t.Ln → C.c f [.agg t.cells, I a, I b] (B (clashR t a b)) none
def kExit.Spec (C : Con) (f : Nat) : Prop := ∀ (t : Tb) (s : Int), t.Ok → C.c f [.agg t.cells, I s] (B (exitOk t s)) none
def kConf.Spec (C : Con) (f : Nat) : Prop := ∀ (t : Tb) (p : Nat) (on : Int), t.Ok → p < 8 → C.c f [.agg t.cells, I p, I on] (B (!(setN on).any (confR t p))) none
def kFlash.Spec (C : Con) (f : Nat) : Prop := ∀ (t : Tb) (p : Nat) (on : Int), t.Ln → p < 8 → C.c f [.agg t.cells, I p, I on] (B (flOk t on p)) none
def kRail.Spec (C : Con) (f : Nat) : Prop := ∀ (t : Tb) (r : Rl) (on : Int), t.Ok → C.c f [.agg t.cells, .agg r.cells, I on] (B (railOk t on r)) none
theorem beside_sym (t : Tb) (p q : Int) : besideR t p q = besideR t q p := by
  simp only [besideR]
  generalize (whereR t p).2 = b1
  generalize (whereR t q).2 = b2
  generalize (whereR t p).1 = s1
  generalize (whereR t q).1 = s2
  rw [Bool.and_comm b1 b2]
  congr 1
  · congr 1
    rw [Bool.eq_iff_iff]; simp only [beq_iff_eq]; exact eq_comm
  · rw [Bool.eq_iff_iff]; simp only [bne_iff_ne]; exact ne_comm
theorem setN_nodup (s : Int) : (setN s).Nodup := List.Pairwise.filter _ List.nodup_range
theorem setN_len (s : Int) : (setN s).length ≤ 8 := by
  have := List.length_filter_le (fun p => tb s p) (List.range 8); simpa [setN] using this
theorem setN_rows (s : Int) : (mkO (listS s)).getD [] = (setN s).map fun (k : Nat) => (k : Int) := by rw [mkO_getD, listS_N]
theorem setN_at {s : Int} {k p : Nat} (h : (setN s)[k]? = some p) : ((setN s).map fun (k : Nat) => (k : Int))[k]? = some (p : Int) := by rw [List.getElem?_map, h]; rfl
theorem setN_inj {s : Int} {i j p : Nat} (hi : (setN s)[i]? = some p) (hj : (setN s)[j]? = some p) : i = j := by
  have h1 := (List.getElem?_eq_some_iff.1 hi)
  have h2 := (List.getElem?_eq_some_iff.1 hj)
  exact (List.getElem_inj (setN_nodup s)).1 (h1.2.trans h2.2.symm)
section
variable {P : Program} (hm : P.follows .mixedOrders = true) {f : Nat}
include hm
theorem kPhase.ok (hc : cFn P f = some cc_ref08_phase) : kPhase.Spec (Pure P) f := by
  intro x
  rw [phOkR]
  generalize hr3 : (x.recall != 3) = r3
  generalize hw0 : decide (x.walk > 0) = w0
  generalize hb0 : decide (x.blinks > 0) = b0
  generalize h1 : decide (x.min ≥ 1) = b1
  generalize h2 : decide (x.yellow ≥ 10) = b2
  generalize h3 : decide (x.max ≥ x.min) = b3
  generalize h4 : decide (x.top ≥ x.max) = b4
  generalize h5 : decide (x.step ≥ 1) = b5
  generalize h6 : (x.top == x.max) = b6
  refine pure_of hm hc (by show 1 ≤ 56; decide) (aw_flat (keep := []) (i := 0) ?_)
  try simp only [I, B, D, RX, ↓ KW, Nat.reduceBEq, Nat.reduceAdd, Nat.reduceLeDiff, Int.reduceNe, Int.reduceBEq, Int.reduceEq, reduceCtorEq, Nat.reduceMul, Int.reduceLT, Int.reduceLE, Int.reduceToNat, cc_ref08_phase, Z.H, Ph.cells, hr3, hw0, hb0, h1, h2, h3, h4, h5, h6, BNW]
  cases b1
  · try simp only [I, B, D, RX, ↓ KW, Nat.reduceBEq, Nat.reduceAdd, Nat.reduceLeDiff, Int.reduceNe, Int.reduceBEq, Int.reduceEq, reduceCtorEq, Nat.reduceMul, Int.reduceLT, Int.reduceLE, Int.reduceToNat, Ph.cells, hr3, hw0, hb0, h1, h2, h3, h4, h5, h6, BNW]
    try rfl
  try simp only [I, B, D, RX, ↓ KW, Nat.reduceBEq, Nat.reduceAdd, Nat.reduceLeDiff, Int.reduceNe, Int.reduceBEq, Int.reduceEq, reduceCtorEq, Nat.reduceMul, Int.reduceLT, Int.reduceLE, Int.reduceToNat, Ph.cells, hr3, hw0, hb0, h1, h2, h3, h4, h5, h6, BNW]
  cases b2
  · try simp only [I, B, D, RX, ↓ KW, Nat.reduceBEq, Nat.reduceAdd, Nat.reduceLeDiff, Int.reduceNe, Int.reduceBEq, Int.reduceEq, reduceCtorEq, Nat.reduceMul, Int.reduceLT, Int.reduceLE, Int.reduceToNat, Ph.cells, hr3, hw0, hb0, h1, h2, h3, h4, h5, h6, BNW]
    try rfl
  try simp only [I, B, D, RX, ↓ KW, Nat.reduceBEq, Nat.reduceAdd, Nat.reduceLeDiff, Int.reduceNe, Int.reduceBEq, Int.reduceEq, reduceCtorEq, Nat.reduceMul, Int.reduceLT, Int.reduceLE, Int.reduceToNat, Ph.cells, hr3, hw0, hb0, h1, h2, h3, h4, h5, h6, BNW]
  cases b3
  · try simp only [I, B, D, RX, ↓ KW, Nat.reduceBEq, Nat.reduceAdd, Nat.reduceLeDiff, Int.reduceNe, Int.reduceBEq, Int.reduceEq, reduceCtorEq, Nat.reduceMul, Int.reduceLT, Int.reduceLE, Int.reduceToNat, Ph.cells, hr3, hw0, hb0, h1, h2, h3, h4, h5, h6, BNW]
    try rfl
  try simp only [I, B, D, RX, ↓ KW, Nat.reduceBEq, Nat.reduceAdd, Nat.reduceLeDiff, Int.reduceNe, Int.reduceBEq, Int.reduceEq, reduceCtorEq, Nat.reduceMul, Int.reduceLT, Int.reduceLE, Int.reduceToNat, Ph.cells, hr3, hw0, hb0, h1, h2, h3, h4, h5, h6, BNW]
  cases b4
  · try simp only [I, B, D, RX, ↓ KW, Nat.reduceBEq, Nat.reduceAdd, Nat.reduceLeDiff, Int.reduceNe, Int.reduceBEq, Int.reduceEq, reduceCtorEq, Nat.reduceMul, Int.reduceLT, Int.reduceLE, Int.reduceToNat, Ph.cells, hr3, hw0, hb0, h1, h2, h3, h4, h5, h6, BNW]
    try rfl
  try simp only [I, B, D, RX, ↓ KW, Nat.reduceBEq, Nat.reduceAdd, Nat.reduceLeDiff, Int.reduceNe, Int.reduceBEq, Int.reduceEq, reduceCtorEq, Nat.reduceMul, Int.reduceLT, Int.reduceLE, Int.reduceToNat, Ph.cells, hr3, hw0, hb0, h1, h2, h3, h4, h5, h6, BNW]
  cases b5
  · try simp only [I, B, D, RX, ↓ KW, Nat.reduceBEq, Nat.reduceAdd, Nat.reduceLeDiff, Int.reduceNe, Int.reduceBEq, Int.reduceEq, reduceCtorEq, Nat.reduceMul, Int.reduceLT, Int.reduceLE, Int.reduceToNat, Ph.cells, hr3, hw0, hb0, h1, h2, h3, h4, h5, h6, BNW]
    try rfl
    cases b6
    · try simp only [I, B, D, RX, ↓ KW, Nat.reduceBEq, Nat.reduceAdd, Nat.reduceLeDiff, Int.reduceNe, Int.reduceBEq, Int.reduceEq, reduceCtorEq, Nat.reduceMul, Int.reduceLT, Int.reduceLE, Int.reduceToNat, Ph.cells, hr3, hw0, hb0, h1, h2, h3, h4, h5, h6, BNW]
      try rfl
    try simp only [I, B, D, RX, ↓ KW, Nat.reduceBEq, Nat.reduceAdd, Nat.reduceLeDiff, Int.reduceNe, Int.reduceBEq, Int.reduceEq, reduceCtorEq, Nat.reduceMul, Int.reduceLT, Int.reduceLE, Int.reduceToNat, Ph.cells, hr3, hw0, hb0, h1, h2, h3, h4, h5, h6, BNW]
    cases w0 <;> cases b0
    all_goals try simp only [I, B, D, RX, ↓ KW, Nat.reduceBEq, Nat.reduceAdd, Nat.reduceLeDiff, Int.reduceNe, Int.reduceBEq, Int.reduceEq, reduceCtorEq, Nat.reduceMul, Int.reduceLT, Int.reduceLE, Int.reduceToNat, Ph.cells, hr3, hw0, hb0, h1, h2, h3, h4, h5, h6, BNW]
    all_goals try rfl
    all_goals cases r3
    all_goals try simp only [I, B, D, RX, ↓ KW, Nat.reduceBEq, Nat.reduceAdd, Nat.reduceLeDiff, Int.reduceNe, Int.reduceBEq, Int.reduceEq, reduceCtorEq, Nat.reduceMul, Int.reduceLT, Int.reduceLE, Int.reduceToNat, Ph.cells, hr3, hw0, hb0, h1, h2, h3, h4, h5, h6, BNW]
    all_goals try rfl
  try simp only [I, B, D, RX, ↓ KW, Nat.reduceBEq, Nat.reduceAdd, Nat.reduceLeDiff, Int.reduceNe, Int.reduceBEq, Int.reduceEq, reduceCtorEq, Nat.reduceMul, Int.reduceLT, Int.reduceLE, Int.reduceToNat, Ph.cells, hr3, hw0, hb0, h1, h2, h3, h4, h5, h6, BNW]
  cases w0 <;> cases b0
  all_goals try simp only [I, B, D, RX, ↓ KW, Nat.reduceBEq, Nat.reduceAdd, Nat.reduceLeDiff, Int.reduceNe, Int.reduceBEq, Int.reduceEq, reduceCtorEq, Nat.reduceMul, Int.reduceLT, Int.reduceLE, Int.reduceToNat, Ph.cells, hr3, hw0, hb0, h1, h2, h3, h4, h5, h6, BNW]
  all_goals try rfl
  all_goals cases r3
  all_goals try simp only [I, B, D, RX, ↓ KW, Nat.reduceBEq, Nat.reduceAdd, Nat.reduceLeDiff, Int.reduceNe, Int.reduceBEq, Int.reduceEq, reduceCtorEq, Nat.reduceMul, Int.reduceLT, Int.reduceLE, Int.reduceToNat, Ph.cells, hr3, hw0, hb0, h1, h2, h3, h4, h5, h6, BNW]
  all_goals try rfl
theorem kIn.ok (hc : cFn P f = some cc_ref08_in) : kIn.Spec (Pure P) f := by
  intro a b
  refine pure_of hm hc (by show 2 ≤ 10; decide) (aw_flat (keep := []) (i := 0) ?_)
  try simp only [I, B, D, RX, ↓ KW, Nat.reduceBEq, Nat.reduceAdd, Nat.reduceLeDiff, Int.reduceNe, Int.reduceBEq, Int.reduceEq, reduceCtorEq, Nat.reduceMul, Int.reduceLT, Int.reduceLE, Int.reduceToNat, cc_ref08_in, Z.H]
  try rfl
theorem kClash.ok {fL e fH : Nat} (hc : cFn P f = some (cc_ref08_Clash fL fH)) (hL : refList.Spec (Pure P) fL e) (hH : refHas.Spec (Pure P) fH) : kClash.Spec (Pure P) f := by
  intro t a b h
  have hla := setN_len a
  have hlb := setN_len b
  have hra := setN_rows a
  have hrb := setN_rows b
  refine pure_of hm hc (by show 3 ≤ 41; decide) (aw_flat (keep := []) (i := 0) ?_)
  try simp only [I, B, D, RX, ↓ KW, Nat.reduceBEq, Nat.reduceAdd, Nat.reduceLeDiff, Int.reduceNe, Int.reduceBEq, Int.reduceEq, reduceCtorEq, Nat.reduceMul, Int.reduceLT, Int.reduceLE, Int.reduceToNat, cc_ref08_Clash, Z.H]
  refine call_is (hL a none (.inl rfl)) ?_
  try simp only [I, B, D, RX, ↓ KW, Nat.reduceBEq, Nat.reduceAdd, Nat.reduceLeDiff, Int.reduceNe, Int.reduceBEq, Int.reduceEq, reduceCtorEq, Nat.reduceMul, Int.reduceLT, Int.reduceLE, Int.reduceToNat, a_len, hra, List.length_map]
  refine aw_loop' (fun k : Nat => (⟨[(14, .dat (I k) none), (13, .dat (I ((setN a).length : Nat)) none), (12, .dat (slAV intRow (mkO (listS a))) none), (2, .dat (I b) none), (3, .ptr 4 0)], [(4, ⟨t.cells, []⟩)], [], 400⟩ : S)) (fun k => (setN a).length - k) (fun k => k ≤ (setN a).length ∧ ((setN a).take k).any (fun p => (setN b).any fun q => clT t p q) = false) ?_ 0 (by simp) ?_
  rotate_left
  · refine le_tok2 (by decide) ?_ ?_ ?_ ?_ <;> simp [LX, I, B, D]
  rintro k ⟨hk, hno⟩ A back
  have hwr := wrap_succ (k := k) (by omega)
  try simp only [I, B, D, RX, ↓ KW, Nat.reduceBEq, Nat.reduceAdd, Nat.reduceLeDiff, Int.reduceNe, Int.reduceBEq, Int.reduceEq, reduceCtorEq, Nat.reduceMul, Int.reduceLT, Int.reduceLE, Int.reduceToNat]
  cases h2 : decide ((k : Int) < (((setN a).length : Nat) : Int))
  · have e : k = (setN a).length := by have := of_decide_eq_false h2; omega
    subst e
    rw [List.take_length] at hno
    have : clashR t a b = false := hno
    try simp only [I, B, D, RX, ↓ KW, Nat.reduceBEq, Nat.reduceAdd, Nat.reduceLeDiff, Int.reduceNe, Int.reduceBEq, Int.reduceEq, reduceCtorEq, Nat.reduceMul, Int.reduceLT, Int.reduceLE, Int.reduceToNat, h2, this]
  have hlt : k < (setN a).length := by have := of_decide_eq_true h2; omega
  obtain ⟨p, hp⟩ : ∃ x, (setN a)[k]? = some x := ⟨_, List.getElem?_eq_getElem hlt⟩
  have hpp := setN_at hp
  have h8 := setN_lt (List.mem_of_getElem? hp)
  have hx : 0 ≤ (p : Int) ∧ (p : Int) < (8 : Nat) := by omega
  have hnext := any_take hno hp
  have g1 := h.con_at h8
  try simp only [I, B, D, RX, ↓ KW, Nat.reduceBEq, Nat.reduceAdd, Nat.reduceLeDiff, Int.reduceNe, Int.reduceBEq, Int.reduceEq, reduceCtorEq, Nat.reduceMul, Int.reduceLT, Int.reduceLE, Int.reduceToNat, h2, a_rows, hra, hpp, intRow, List.length_map]
  refine ⟨by omega, ?_⟩
  refine call_is (hL b none (.inl rfl)) ?_
  try simp only [I, B, D, RX, ↓ KW, Nat.reduceBEq, Nat.reduceAdd, Nat.reduceLeDiff, Int.reduceNe, Int.reduceBEq, Int.reduceEq, reduceCtorEq, Nat.reduceMul, Int.reduceLT, Int.reduceLE, Int.reduceToNat, a_len, hrb, List.length_map]
  refine aw_loop' (fun j : Nat => (⟨[(21, .dat (I j) none), (20, .dat (I ((setN b).length : Nat)) none), (19, .dat (slAV intRow (mkO (listS b))) none), (8, .dat (I p) none), (3, .ptr 4 0), (14, .dat (I k) none), (13, .dat (I ((setN a).length : Nat)) none), (12, .dat (slAV intRow (mkO (listS a))) none), (2, .dat (I b) none)], [(4, ⟨t.cells, []⟩)], [], 500⟩ : S)) (fun j => (setN b).length - j) (fun j => j ≤ (setN b).length ∧ ((setN b).take j).any (fun q => clT t p q) = false) ?_ 0 (by simp) ?_
  rotate_left
  · refine le_tok2 (by decide) ?_ ?_ ?_ ?_ <;> simp [LX, I, B, D]
  rintro j ⟨hj, hno2⟩ A2 back2
  have hwr2 := wrap_succ (k := j) (by omega)
  try simp only [I, B, D, RX, ↓ KW, Nat.reduceBEq, Nat.reduceAdd, Nat.reduceLeDiff, Int.reduceNe, Int.reduceBEq, Int.reduceEq, reduceCtorEq, Nat.reduceMul, Int.reduceLT, Int.reduceLE, Int.reduceToNat]
  cases h3 : decide ((j : Int) < (((setN b).length : Nat) : Int))
  · have e : j = (setN b).length := by have := of_decide_eq_false h3; omega
    subst e
    rw [List.take_length] at hno2
    try simp only [I, B, D, RX, ↓ KW, Nat.reduceBEq, Nat.reduceAdd, Nat.reduceLeDiff, Int.reduceNe, Int.reduceBEq, Int.reduceEq, reduceCtorEq, Nat.reduceMul, Int.reduceLT, Int.reduceLE, Int.reduceToNat, h3]
    refine back (k + 1) _ ⟨by omega, by rw [hnext]; exact hno2⟩ (by omega) ?_
    refine le_tok2 (by decide) ?_ ?_ ?_ ?_ <;> simp [LX, I, B, D, hwr]
  have hlt2 : j < (setN b).length := by have := of_decide_eq_true h3; omega
  obtain ⟨q, hq⟩ : ∃ x, (setN b)[j]? = some x := ⟨_, List.getElem?_eq_getElem hlt2⟩
  have hqq := setN_at hq
  have hq8 := setN_lt (List.mem_of_getElem? hq)
  have hy : 0 ≤ (q : Int) ∧ (q : Int) < (8 : Nat) := by omega
  have hnext2 := any_take hno2 hq
  have g2 := h.con_at hq8
  have c1 := hH (conAt t p) q
  have c2 := hH (conAt t q) p
  rw [hasR_tb hq8] at c1
  rw [hasR_tb h8] at c2
  have hyes : clT t p q = true → clashR t a b = true := fun e => any_yes hp (any_yes hq e)
  rw [clT] at hnext2 hyes
  generalize tb (conAt t p) q = b1 at *
  generalize tb (conAt t q) p = b2 at *
  try simp only [I, B, D, RX, ↓ KW, Nat.reduceBEq, Nat.reduceAdd, Nat.reduceLeDiff, Int.reduceNe, Int.reduceBEq, Int.reduceEq, reduceCtorEq, Nat.reduceMul, Int.reduceLT, Int.reduceLE, Int.reduceToNat, h3, a_rows, hrb, hqq, intRow, List.length_map, hx, hy, g1, g2]
  refine ⟨by omega, ?_⟩
  refine call_is c1 ?_
  cases b1
  · try simp only [I, B, D, RX, ↓ KW, Nat.reduceBEq, Nat.reduceAdd, Nat.reduceLeDiff, Int.reduceNe, Int.reduceBEq, Int.reduceEq, reduceCtorEq, Nat.reduceMul, Int.reduceLT, Int.reduceLE, Int.reduceToNat, hx, hy, g1, g2]
    refine call_is c2 ?_
    cases b2
    · try simp only [I, B, D, RX, ↓ KW, Nat.reduceBEq, Nat.reduceAdd, Nat.reduceLeDiff, Int.reduceNe, Int.reduceBEq, Int.reduceEq, reduceCtorEq, Nat.reduceMul, Int.reduceLT, Int.reduceLE, Int.reduceToNat]
      refine back2 (j + 1) _ ⟨by omega, by simpa using hnext2⟩ (by omega) ?_
      refine le_tok2 (by decide) ?_ ?_ ?_ ?_ <;> simp [LX, I, B, D, hwr2]
    · try simp only [I, B, D, RX, ↓ KW, Nat.reduceBEq, Nat.reduceAdd, Nat.reduceLeDiff, Int.reduceNe, Int.reduceBEq, Int.reduceEq, reduceCtorEq, Nat.reduceMul, Int.reduceLT, Int.reduceLE, Int.reduceToNat]
      rw [hyes rfl]
  · try simp only [I, B, D, RX, ↓ KW, Nat.reduceBEq, Nat.reduceAdd, Nat.reduceLeDiff, Int.reduceNe, Int.reduceBEq, Int.reduceEq, reduceCtorEq, Nat.reduceMul, Int.reduceLT, Int.reduceLE, Int.reduceToNat]
    rw [hyes rfl]
theorem kConf.ok {fL e fH fB : Nat} (hc : cFn P f = some (cc_ref08_conflict fL fH fB)) (hL : refList.Spec (Pure P) fL e) (hH : refHas.Spec (Pure P) fH) (hB : beside.Spec (Pure P) fB) : kConf.Spec (Pure P) f := by
  intro t p on ht h8
  have h := ht.ln
  have hlb := setN_len on
  have hrb := setN_rows on
  have hx : 0 ≤ (p : Int) ∧ (p : Int) < (8 : Nat) := by omega
  have g1 := h.con_at h8
  have hw := h.whole
  refine pure_of hm hc (by show 3 ≤ 49; decide) (aw_flat (keep := []) (i := 0) ?_)
  try simp only [I, B, D, RX, ↓ KW, Nat.reduceBEq, Nat.reduceAdd, Nat.reduceLeDiff, Int.reduceNe, Int.reduceBEq, Int.reduceEq, reduceCtorEq, Nat.reduceMul, Int.reduceLT, Int.reduceLE, Int.reduceToNat, cc_ref08_conflict, Z.H]
  refine call_is (hL on none (.inl rfl)) ?_
  try simp only [I, B, D, RX, ↓ KW, Nat.reduceBEq, Nat.reduceAdd, Nat.reduceLeDiff, Int.reduceNe, Int.reduceBEq, Int.reduceEq, reduceCtorEq, Nat.reduceMul, Int.reduceLT, Int.reduceLE, Int.reduceToNat, a_len, hrb, List.length_map]
  refine aw_loop' (fun j : Nat => (⟨[(13, .dat (I j) none), (12, .dat (I ((setN on).length : Nat)) none), (11, .dat (slAV intRow (mkO (listS on))) none), (1, .dat (I p) none), (3, .ptr 4 0)], [(4, ⟨t.cells, []⟩)], [], 400⟩ : S)) (fun j => (setN on).length - j) (fun j => j ≤ (setN on).length ∧ ((setN on).take j).any (confR t p) = false) ?_ 0 (by simp) ?_
  rotate_left
  · refine le_tok2 (by decide) ?_ ?_ ?_ ?_ <;> simp [LX, I, B, D]
  rintro j ⟨hj, hno2⟩ A2 back2
  have hwr2 := wrap_succ (k := j) (by omega)
  try simp only [I, B, D, RX, ↓ KW, Nat.reduceBEq, Nat.reduceAdd, Nat.reduceLeDiff, Int.reduceNe, Int.reduceBEq, Int.reduceEq, reduceCtorEq, Nat.reduceMul, Int.reduceLT, Int.reduceLE, Int.reduceToNat]
  cases h3 : decide ((j : Int) < (((setN on).length : Nat) : Int))
  · have e : j = (setN on).length := by have := of_decide_eq_false h3; omega
    subst e
    rw [List.take_length] at hno2
    try simp only [I, B, D, RX, ↓ KW, Nat.reduceBEq, Nat.reduceAdd, Nat.reduceLeDiff, Int.reduceNe, Int.reduceBEq, Int.reduceEq, reduceCtorEq, Nat.reduceMul, Int.reduceLT, Int.reduceLE, Int.reduceToNat, h3, hno2]
    try rfl
  have hlt2 : j < (setN on).length := by have := of_decide_eq_true h3; omega
  obtain ⟨q, hq⟩ : ∃ x, (setN on)[j]? = some x := ⟨_, List.getElem?_eq_getElem hlt2⟩
  have hqq := setN_at hq
  have hq8 := setN_lt (List.mem_of_getElem? hq)
  have hy : 0 ≤ (q : Int) ∧ (q : Int) < (8 : Nat) := by omega
  have hnext2 := any_take hno2 hq
  have g2 := h.con_at hq8
  have c1 := hH (conAt t p) q
  have c2 := hH (conAt t q) p
  have c3 := hB t p q ht
  rw [hasR_tb hq8] at c1
  rw [hasR_tb h8] at c2
  have hyes : confR t p q = true → (setN on).any (confR t p) = true := fun e => any_yes hq e
  rw [confR] at hnext2 hyes
  generalize tb (conAt t p) q = b1 at *
  generalize tb (conAt t q) p = b2 at *
  generalize besideR t p q = b3 at *
  generalize hqp : ((q : Int) == (p : Int)) = b4 at *
  try simp only [I, B, D, RX, ↓ KW, Nat.reduceBEq, Nat.reduceAdd, Nat.reduceLeDiff, Int.reduceNe, Int.reduceBEq, Int.reduceEq, reduceCtorEq, Nat.reduceMul, Int.reduceLT, Int.reduceLE, Int.reduceToNat, h3, a_rows, hrb, hqq, intRow, List.length_map, hx, hy, g1, g2]
  refine ⟨by omega, ?_⟩
  refine call_is c1 ?_
  cases b1
  · try simp only [I, B, D, RX, ↓ KW, Nat.reduceBEq, Nat.reduceAdd, Nat.reduceLeDiff, Int.reduceNe, Int.reduceBEq, Int.reduceEq, reduceCtorEq, Nat.reduceMul, Int.reduceLT, Int.reduceLE, Int.reduceToNat, hx, hy, g1, g2]
    refine call_is c2 ?_
    cases b2
    · try simp only [I, B, D, RX, ↓ KW, Nat.reduceBEq, Nat.reduceAdd, Nat.reduceLeDiff, Int.reduceNe, Int.reduceBEq, Int.reduceEq, reduceCtorEq, Nat.reduceMul, Int.reduceLT, Int.reduceLE, Int.reduceToNat, BNW]
      refine back2 (j + 1) _ ⟨by omega, by simpa using hnext2⟩ (by omega) ?_
      refine le_tok2 (by decide) ?_ ?_ ?_ ?_ <;> simp [LX, I, B, D, hwr2]
    · try simp only [I, B, D, RX, ↓ KW, Nat.reduceBEq, Nat.reduceAdd, Nat.reduceLeDiff, Int.reduceNe, Int.reduceBEq, Int.reduceEq, reduceCtorEq, Nat.reduceMul, Int.reduceLT, Int.reduceLE, Int.reduceToNat, BNW]
      rw [hyes rfl]
      try rfl
  · try simp only [I, B, D, RX, ↓ KW, Nat.reduceBEq, Nat.reduceAdd, Nat.reduceLeDiff, Int.reduceNe, Int.reduceBEq, Int.reduceEq, reduceCtorEq, Nat.reduceMul, Int.reduceLT, Int.reduceLE, Int.reduceToNat, hqp]
    cases b4
    · try simp only [I, B, D, RX, ↓ KW, Nat.reduceBEq, Nat.reduceAdd, Nat.reduceLeDiff, Int.reduceNe, Int.reduceBEq, Int.reduceEq, reduceCtorEq, Nat.reduceMul, Int.reduceLT, Int.reduceLE, Int.reduceToNat, hx, hy, g1, g2]
      refine call_is c2 ?_
      cases b2
      · try simp only [I, B, D, RX, ↓ KW, Nat.reduceBEq, Nat.reduceAdd, Nat.reduceLeDiff, Int.reduceNe, Int.reduceBEq, Int.reduceEq, reduceCtorEq, Nat.reduceMul, Int.reduceLT, Int.reduceLE, Int.reduceToNat, BNW]
        rw [hyes rfl]
        try rfl
      · try simp only [I, B, D, RX, ↓ KW, Nat.reduceBEq, Nat.reduceAdd, Nat.reduceLeDiff, Int.reduceNe, Int.reduceBEq, Int.reduceEq, reduceCtorEq, Nat.reduceMul, Int.reduceLT, Int.reduceLE, Int.reduceToNat, BNW, hw]
        refine call_is c3 ?_
        cases b3
        · try simp only [I, B, D, RX, ↓ KW, Nat.reduceBEq, Nat.reduceAdd, Nat.reduceLeDiff, Int.reduceNe, Int.reduceBEq, Int.reduceEq, reduceCtorEq, Nat.reduceMul, Int.reduceLT, Int.reduceLE, Int.reduceToNat]
          refine back2 (j + 1) _ ⟨by omega, by simpa using hnext2⟩ (by omega) ?_
          refine le_tok2 (by decide) ?_ ?_ ?_ ?_ <;> simp [LX, I, B, D, hwr2]
        · try simp only [I, B, D, RX, ↓ KW, Nat.reduceBEq, Nat.reduceAdd, Nat.reduceLeDiff, Int.reduceNe, Int.reduceBEq, Int.reduceEq, reduceCtorEq, Nat.reduceMul, Int.reduceLT, Int.reduceLE, Int.reduceToNat]
          rw [hyes rfl]
          try rfl
    · try simp only [I, B, D, RX, ↓ KW, Nat.reduceBEq, Nat.reduceAdd, Nat.reduceLeDiff, Int.reduceNe, Int.reduceBEq, Int.reduceEq, reduceCtorEq, Nat.reduceMul, Int.reduceLT, Int.reduceLE, Int.reduceToNat]
      rw [hyes rfl]
      try rfl
theorem kFlash.ok {fL e fH : Nat} (hc : cFn P f = some (cc_ref08_flash fL fH)) (hL : refList.Spec (Pure P) fL e) (hH : refHas.Spec (Pure P) fH) : kFlash.Spec (Pure P) f := by
  intro t p on h h8
  have hlb := setN_len on
  have hrb := setN_rows on
  have hx : 0 ≤ (p : Int) ∧ (p : Int) < (8 : Nat) := by omega
  have g1 := h.con_at h8
  have g3 := h.fl_at h8
  have hw := h.whole
  rw [flOk]
  refine pure_of hm hc (by show 3 ≤ 42; decide) (aw_flat (keep := []) (i := 0) ?_)
  try simp only [I, B, D, RX, ↓ KW, Nat.reduceBEq, Nat.reduceAdd, Nat.reduceLeDiff, Int.reduceNe, Int.reduceBEq, Int.reduceEq, reduceCtorEq, Nat.reduceMul, Int.reduceLT, Int.reduceLE, Int.reduceToNat, cc_ref08_flash, Z.H, hx, g3]
  cases h0 : (flAt t p == 0)
  rotate_left
  · try simp only [I, B, D, RX, ↓ KW, Nat.reduceBEq, Nat.reduceAdd, Nat.reduceLeDiff, Int.reduceNe, Int.reduceBEq, Int.reduceEq, reduceCtorEq, Nat.reduceMul, Int.reduceLT, Int.reduceLE, Int.reduceToNat, h0]
    try rfl
  try simp only [I, B, D, RX, ↓ KW, Nat.reduceBEq, Nat.reduceAdd, Nat.reduceLeDiff, Int.reduceNe, Int.reduceBEq, Int.reduceEq, reduceCtorEq, Nat.reduceMul, Int.reduceLT, Int.reduceLE, Int.reduceToNat, h0]
  refine call_is (hL on none (.inl rfl)) ?_
  try simp only [I, B, D, RX, ↓ KW, Nat.reduceBEq, Nat.reduceAdd, Nat.reduceLeDiff, Int.reduceNe, Int.reduceBEq, Int.reduceEq, reduceCtorEq, Nat.reduceMul, Int.reduceLT, Int.reduceLE, Int.reduceToNat, a_len, hrb, List.length_map]
  refine aw_loop' (fun j : Nat => (⟨[(17, .dat (I j) none), (16, .dat (I ((setN on).length : Nat)) none), (15, .dat (slAV intRow (mkO (listS on))) none), (1, .dat (I p) none), (3, .ptr 4 0)], [(4, ⟨t.cells, []⟩)], [], 400⟩ : S)) (fun j => (setN on).length - j) (fun j => j ≤ (setN on).length ∧ ((setN on).take j).any (flR t p) = false) ?_ 0 (by simp) ?_
  rotate_left
  · refine le_tok2 (by decide) ?_ ?_ ?_ ?_ <;> simp [LX, I, B, D]
  rintro j ⟨hj, hno2⟩ A2 back2
  have hwr2 := wrap_succ (k := j) (by omega)
  try simp only [I, B, D, RX, ↓ KW, Nat.reduceBEq, Nat.reduceAdd, Nat.reduceLeDiff, Int.reduceNe, Int.reduceBEq, Int.reduceEq, reduceCtorEq, Nat.reduceMul, Int.reduceLT, Int.reduceLE, Int.reduceToNat]
  cases h3 : decide ((j : Int) < (((setN on).length : Nat) : Int))
  · have e : j = (setN on).length := by have := of_decide_eq_false h3; omega
    subst e
    rw [List.take_length] at hno2
    try simp only [I, B, D, RX, ↓ KW, Nat.reduceBEq, Nat.reduceAdd, Nat.reduceLeDiff, Int.reduceNe, Int.reduceBEq, Int.reduceEq, reduceCtorEq, Nat.reduceMul, Int.reduceLT, Int.reduceLE, Int.reduceToNat, h3, hno2]
    try rfl
  have hlt2 : j < (setN on).length := by have := of_decide_eq_true h3; omega
  obtain ⟨q, hq⟩ : ∃ x, (setN on)[j]? = some x := ⟨_, List.getElem?_eq_getElem hlt2⟩
  have hqq := setN_at hq
  have hq8 := setN_lt (List.mem_of_getElem? hq)
  have hy : 0 ≤ (q : Int) ∧ (q : Int) < (8 : Nat) := by omega
  have hnext2 := any_take hno2 hq
  have g2 := h.fl_at hq8
  have c1 := hH (conAt t p) q
  rw [hasR_tb hq8] at c1
  have hyes : flR t p q = true → (setN on).any (flR t p) = true := fun e => any_yes hq e
  rw [flR] at hnext2 hyes
  generalize tb (conAt t p) q = b3 at *
  generalize hb1 : (flAt t p == 2) = b1 at *
  generalize hb2 : (flAt t q == 2) = b2 at *
  try simp only [I, B, D, RX, ↓ KW, Nat.reduceBEq, Nat.reduceAdd, Nat.reduceLeDiff, Int.reduceNe, Int.reduceBEq, Int.reduceEq, reduceCtorEq, Nat.reduceMul, Int.reduceLT, Int.reduceLE, Int.reduceToNat, h3, a_rows, hrb, hqq, intRow, List.length_map, hx, hy, g3, hb1]
  refine ⟨by omega, ?_⟩
  cases b1
  · try simp only [I, B, D, RX, ↓ KW, Nat.reduceBEq, Nat.reduceAdd, Nat.reduceLeDiff, Int.reduceNe, Int.reduceBEq, Int.reduceEq, reduceCtorEq, Nat.reduceMul, Int.reduceLT, Int.reduceLE, Int.reduceToNat, hb1]
    refine back2 (j + 1) _ ⟨by omega, by simpa using hnext2⟩ (by omega) ?_
    refine le_tok2 (by decide) ?_ ?_ ?_ ?_ <;> simp [LX, I, B, D, hwr2]
  try simp only [I, B, D, RX, ↓ KW, Nat.reduceBEq, Nat.reduceAdd, Nat.reduceLeDiff, Int.reduceNe, Int.reduceBEq, Int.reduceEq, reduceCtorEq, Nat.reduceMul, Int.reduceLT, Int.reduceLE, Int.reduceToNat, hb1, hx, hy, g2, hb2]
  cases b2
  · try simp only [I, B, D, RX, ↓ KW, Nat.reduceBEq, Nat.reduceAdd, Nat.reduceLeDiff, Int.reduceNe, Int.reduceBEq, Int.reduceEq, reduceCtorEq, Nat.reduceMul, Int.reduceLT, Int.reduceLE, Int.reduceToNat, hb2]
    refine back2 (j + 1) _ ⟨by omega, by simpa using hnext2⟩ (by omega) ?_
    refine le_tok2 (by decide) ?_ ?_ ?_ ?_ <;> simp [LX, I, B, D, hwr2]
  try simp only [I, B, D, RX, ↓ KW, Nat.reduceBEq, Nat.reduceAdd, Nat.reduceLeDiff, Int.reduceNe, Int.reduceBEq, Int.reduceEq, reduceCtorEq, Nat.reduceMul, Int.reduceLT, Int.reduceLE, Int.reduceToNat, hb2, hx, hy, g1]
  refine call_is c1 ?_
  cases b3
  · try simp only [I, B, D, RX, ↓ KW, Nat.reduceBEq, Nat.reduceAdd, Nat.reduceLeDiff, Int.reduceNe, Int.reduceBEq, Int.reduceEq, reduceCtorEq, Nat.reduceMul, Int.reduceLT, Int.reduceLE, Int.reduceToNat]
    refine back2 (j + 1) _ ⟨by omega, by simpa using hnext2⟩ (by omega) ?_
    refine le_tok2 (by decide) ?_ ?_ ?_ ?_ <;> simp [LX, I, B, D, hwr2]
  · try simp only [I, B, D, RX, ↓ KW, Nat.reduceBEq, Nat.reduceAdd, Nat.reduceLeDiff, Int.reduceNe, Int.reduceBEq, Int.reduceEq, reduceCtorEq, Nat.reduceMul, Int.reduceLT, Int.reduceLE, Int.reduceToNat]
    rw [hyes rfl]
    try rfl
theorem kRail.ok {fI fX fC : Nat} (hc : cFn P f = some (cc_ref08_rail fI fX fC)) (hI : kIn.Spec (Pure P) fI) (hX : kExit.Spec (Pure P) fX) (hC : kClash.Spec (Pure P) fC) : kRail.Spec (Pure P) f := by
  intro t r on ht
  have h := ht.ln
  have hw := h.whole
  have c1 := hI (bOr .i64 (bOr .i64 (bOr .i64 r.bars r.clear) r.dwell) r.exit) on
  have c2 := hX t r.exit ht
  have c3 := hC t r.clear r.clear h
  have c4 := hC t r.dwell r.dwell h
  have c5 := hC t r.exit r.exit h
  rw [railOk]
  generalize inB (bOr .i64 (bOr .i64 (bOr .i64 r.bars r.clear) r.dwell) r.exit) on = b1 at *
  generalize exitOk t r.exit = b4 at *
  generalize clashR t r.clear r.clear = b5 at *
  generalize clashR t r.dwell r.dwell = b6 at *
  generalize clashR t r.exit r.exit = b7 at *
  generalize h2 : (r.dwell != 0) = b2
  generalize h3 : (bAnd .i64 r.dwell r.bars == 0) = b3
  generalize h9 : decide (r.hold > 0) = b9
  generalize h10 : (r.clear != 0) = b10
  generalize h11 : decide (r.green ≥ 1) = b11
  generalize h12 : decide (r.stay ≥ 1) = b12
  generalize h13 : (r.most == 0) = b13
  generalize h14 : decide (r.most ≥ r.stay) = b14
  generalize h15 : decide (r.limit > r.delay) = b15
  refine pure_of hm hc (by show 3 ≤ 106; decide) (aw_flat (keep := []) (i := 0) ?_)
  try simp only [I, B, D, RX, ↓ KW, Nat.reduceBEq, Nat.reduceAdd, Nat.reduceLeDiff, Int.reduceNe, Int.reduceBEq, Int.reduceEq, reduceCtorEq, Nat.reduceMul, Int.reduceLT, Int.reduceLE, Int.reduceToNat, cc_ref08_rail, Z.H, h2, h3, h9, h10, h11, h12, h13, h14, h15, hw, Rl.cells, BNW]
  refine call_is c1 ?_
  cases b1
  · try simp only [I, B, D, RX, ↓ KW, Nat.reduceBEq, Nat.reduceAdd, Nat.reduceLeDiff, Int.reduceNe, Int.reduceBEq, Int.reduceEq, reduceCtorEq, Nat.reduceMul, Int.reduceLT, Int.reduceLE, Int.reduceToNat, h2, h3, h9, h10, h11, h12, h13, h14, h15, hw, Rl.cells, BNW]
    try rfl
  try simp only [I, B, D, RX, ↓ KW, Nat.reduceBEq, Nat.reduceAdd, Nat.reduceLeDiff, Int.reduceNe, Int.reduceBEq, Int.reduceEq, reduceCtorEq, Nat.reduceMul, Int.reduceLT, Int.reduceLE, Int.reduceToNat, h2, h3, h9, h10, h11, h12, h13, h14, h15, hw, Rl.cells, BNW]
  cases b2
  · try simp only [I, B, D, RX, ↓ KW, Nat.reduceBEq, Nat.reduceAdd, Nat.reduceLeDiff, Int.reduceNe, Int.reduceBEq, Int.reduceEq, reduceCtorEq, Nat.reduceMul, Int.reduceLT, Int.reduceLE, Int.reduceToNat, h2, h3, h9, h10, h11, h12, h13, h14, h15, hw, Rl.cells, BNW]
    try rfl
  try simp only [I, B, D, RX, ↓ KW, Nat.reduceBEq, Nat.reduceAdd, Nat.reduceLeDiff, Int.reduceNe, Int.reduceBEq, Int.reduceEq, reduceCtorEq, Nat.reduceMul, Int.reduceLT, Int.reduceLE, Int.reduceToNat, h2, h3, h9, h10, h11, h12, h13, h14, h15, hw, Rl.cells, BNW]
  cases b3
  · try simp only [I, B, D, RX, ↓ KW, Nat.reduceBEq, Nat.reduceAdd, Nat.reduceLeDiff, Int.reduceNe, Int.reduceBEq, Int.reduceEq, reduceCtorEq, Nat.reduceMul, Int.reduceLT, Int.reduceLE, Int.reduceToNat, h2, h3, h9, h10, h11, h12, h13, h14, h15, hw, Rl.cells, BNW]
    try rfl
  try simp only [I, B, D, RX, ↓ KW, Nat.reduceBEq, Nat.reduceAdd, Nat.reduceLeDiff, Int.reduceNe, Int.reduceBEq, Int.reduceEq, reduceCtorEq, Nat.reduceMul, Int.reduceLT, Int.reduceLE, Int.reduceToNat, h2, h3, h9, h10, h11, h12, h13, h14, h15, hw, Rl.cells, BNW]
  refine call_is c2 ?_
  cases b4
  · try simp only [I, B, D, RX, ↓ KW, Nat.reduceBEq, Nat.reduceAdd, Nat.reduceLeDiff, Int.reduceNe, Int.reduceBEq, Int.reduceEq, reduceCtorEq, Nat.reduceMul, Int.reduceLT, Int.reduceLE, Int.reduceToNat, h2, h3, h9, h10, h11, h12, h13, h14, h15, hw, Rl.cells, BNW]
    try rfl
  try simp only [I, B, D, RX, ↓ KW, Nat.reduceBEq, Nat.reduceAdd, Nat.reduceLeDiff, Int.reduceNe, Int.reduceBEq, Int.reduceEq, reduceCtorEq, Nat.reduceMul, Int.reduceLT, Int.reduceLE, Int.reduceToNat, h2, h3, h9, h10, h11, h12, h13, h14, h15, hw, Rl.cells, BNW]
  refine call_is c3 ?_
  cases b5
  rotate_left
  · try simp only [I, B, D, RX, ↓ KW, Nat.reduceBEq, Nat.reduceAdd, Nat.reduceLeDiff, Int.reduceNe, Int.reduceBEq, Int.reduceEq, reduceCtorEq, Nat.reduceMul, Int.reduceLT, Int.reduceLE, Int.reduceToNat, h2, h3, h9, h10, h11, h12, h13, h14, h15, hw, Rl.cells, BNW]
    try rfl
  try simp only [I, B, D, RX, ↓ KW, Nat.reduceBEq, Nat.reduceAdd, Nat.reduceLeDiff, Int.reduceNe, Int.reduceBEq, Int.reduceEq, reduceCtorEq, Nat.reduceMul, Int.reduceLT, Int.reduceLE, Int.reduceToNat, h2, h3, h9, h10, h11, h12, h13, h14, h15, hw, Rl.cells, BNW]
  refine call_is c4 ?_
  cases b6
  rotate_left
  · try simp only [I, B, D, RX, ↓ KW, Nat.reduceBEq, Nat.reduceAdd, Nat.reduceLeDiff, Int.reduceNe, Int.reduceBEq, Int.reduceEq, reduceCtorEq, Nat.reduceMul, Int.reduceLT, Int.reduceLE, Int.reduceToNat, h2, h3, h9, h10, h11, h12, h13, h14, h15, hw, Rl.cells, BNW]
    try rfl
  try simp only [I, B, D, RX, ↓ KW, Nat.reduceBEq, Nat.reduceAdd, Nat.reduceLeDiff, Int.reduceNe, Int.reduceBEq, Int.reduceEq, reduceCtorEq, Nat.reduceMul, Int.reduceLT, Int.reduceLE, Int.reduceToNat, h2, h3, h9, h10, h11, h12, h13, h14, h15, hw, Rl.cells, BNW]
  refine call_is c5 ?_
  cases b7
  rotate_left
  · try simp only [I, B, D, RX, ↓ KW, Nat.reduceBEq, Nat.reduceAdd, Nat.reduceLeDiff, Int.reduceNe, Int.reduceBEq, Int.reduceEq, reduceCtorEq, Nat.reduceMul, Int.reduceLT, Int.reduceLE, Int.reduceToNat, h2, h3, h9, h10, h11, h12, h13, h14, h15, hw, Rl.cells, BNW]
    try rfl
  try simp only [I, B, D, RX, ↓ KW, Nat.reduceBEq, Nat.reduceAdd, Nat.reduceLeDiff, Int.reduceNe, Int.reduceBEq, Int.reduceEq, reduceCtorEq, Nat.reduceMul, Int.reduceLT, Int.reduceLE, Int.reduceToNat, h2, h3, h9, h10, h11, h12, h13, h14, h15, hw, Rl.cells, BNW]
  cases b9 <;> cases b10
  all_goals try simp only [I, B, D, RX, ↓ KW, Nat.reduceBEq, Nat.reduceAdd, Nat.reduceLeDiff, Int.reduceNe, Int.reduceBEq, Int.reduceEq, reduceCtorEq, Nat.reduceMul, Int.reduceLT, Int.reduceLE, Int.reduceToNat, h2, h3, h9, h10, h11, h12, h13, h14, h15, hw, Rl.cells, BNW]
  all_goals try rfl
  all_goals cases b11
  all_goals try simp only [I, B, D, RX, ↓ KW, Nat.reduceBEq, Nat.reduceAdd, Nat.reduceLeDiff, Int.reduceNe, Int.reduceBEq, Int.reduceEq, reduceCtorEq, Nat.reduceMul, Int.reduceLT, Int.reduceLE, Int.reduceToNat, h2, h3, h9, h10, h11, h12, h13, h14, h15, hw, Rl.cells, BNW]
  all_goals try rfl
  all_goals cases b12
  all_goals try simp only [I, B, D, RX, ↓ KW, Nat.reduceBEq, Nat.reduceAdd, Nat.reduceLeDiff, Int.reduceNe, Int.reduceBEq, Int.reduceEq, reduceCtorEq, Nat.reduceMul, Int.reduceLT, Int.reduceLE, Int.reduceToNat, h2, h3, h9, h10, h11, h12, h13, h14, h15, hw, Rl.cells, BNW]
  all_goals try rfl
  all_goals cases b13
  all_goals try simp only [I, B, D, RX, ↓ KW, Nat.reduceBEq, Nat.reduceAdd, Nat.reduceLeDiff, Int.reduceNe, Int.reduceBEq, Int.reduceEq, reduceCtorEq, Nat.reduceMul, Int.reduceLT, Int.reduceLE, Int.reduceToNat, h2, h3, h9, h10, h11, h12, h13, h14, h15, hw, Rl.cells, BNW]
  all_goals try rfl
  all_goals try cases b14
  all_goals try simp only [I, B, D, RX, ↓ KW, Nat.reduceBEq, Nat.reduceAdd, Nat.reduceLeDiff, Int.reduceNe, Int.reduceBEq, Int.reduceEq, reduceCtorEq, Nat.reduceMul, Int.reduceLT, Int.reduceLE, Int.reduceToNat, h2, h3, h9, h10, h11, h12, h13, h14, h15, hw, Rl.cells, BNW]
  all_goals try rfl
end
end Go.Eng
namespace Go.Eng
set_option linter.unusedVariables false
set_option linter.unusedSimpArgs false
set_option linter.unnecessarySimpa false
open Go
set_option linter.unusedVariables false
set_option linter.unusedSimpArgs false
set_option maxRecDepth 10000
set_option maxHeartbeats 4000000
theorem fo_zero (rs : List (Int × Int)) : firstOf ((0, 0) :: rs) = firstOf rs := by simp [firstOf]
theorem fo_ne {c a : Int} (h : c ≠ 0) (rs : List (Int × Int)) : firstOf ((c, a) :: rs) = (c, a) := by
  have : (c == 0) = false := by simpa using h
  simp [firstOf, this]
theorem firstS_is (code on : Int) (w : Nat → Bool) : (firstN code 8 fun p => tb on p && w p) = match (setN on).find? w with | some i => (code, (i : Int)) | none => (0, 0) := by
  rw [firstN, setN, List.find?_filter]
  have : (fun a => decide (tb on a = true ∧ w a = true)) = fun p => tb on p && w p := by
    funext a; cases tb on a <;> cases w a <;> rfl
  rw [this]
  rfl
theorem find_take {α : Type} {l : List α} {w : α → Bool} {k : Nat} {x : α} (hx : l[k]? = some x) (hno : (l.take k).any w = false) (h : w x = true) : l.find? w = some x := by
  have e := list_at hx
  rw [e, List.find?_append]
  have : (l.take k).find? w = none := by
    rw [List.find?_eq_none]; intro y hy; have := List.any_eq_false.1 hno y hy; exact this
  rw [this]; simp [h]
theorem firstS_go {code on : Int} {w : Nat → Bool} {k p : Nat} (hx : (setN on)[k]? = some p) (hno : ((setN on).take k).any w = false) (h : w p = true) : (firstN code 8 fun p => tb on p && w p) = (code, (p : Int)) := by
  rw [firstS_is, find_take hx hno h]
theorem firstS_none {code on : Int} {w : Nat → Bool} (hno : (setN on).any w = false) : (firstN code 8 fun p => tb on p && w p) = (0, 0) := by
  have : (setN on).find? w = none := by
    rw [List.find?_eq_none]; intro y hy; exact List.any_eq_false.1 hno y hy
  rw [firstS_is, this]
theorem ph_may {x : Ph} (h : mayPh x = true) : phOkR x = !phBad x := by
  simp only [mayPh, List.all_cons, List.all_nil, Bool.and_true, wI, Bool.and_eq_true, decide_eq_true_eq] at h
  rw [Bool.eq_iff_iff, Bool.not_eq_true', ← Bool.not_eq_true]
  simp only [phOkR, phBad, Bool.and_eq_true, Bool.or_eq_true, decide_eq_true_eq, beq_iff_eq, bne_iff_ne, ne_eq, Bool.beq_eq_decide_eq, decide_eq_decide]
  have hb : ∀ a b : Bool, ¬ (a = b) ↔ ¬ (a = true ↔ b = true) := by intro a b; cases a <;> cases b <;> simp
  omega
theorem conf_any {t : Tb} {on : Int} {p : Nat} (hp : p ∈ setN on) : (setN on).any (confR t p) = confBad t on p := by
  rw [confBad, Bool.eq_iff_iff, Bool.or_eq_true, List.any_eq_true, List.any_eq_true]
  constructor
  · rintro ⟨q, hq, h⟩
    rw [confR, Bool.or_eq_true, Bool.or_eq_true, Bool.and_eq_true] at h
    rcases h with (⟨h1, h2⟩ | h1) | h1
    · have : q = p := by have := eq_of_beq h2; omega
      subst this; exact .inl h1
    · exact .inr ⟨q, hq, by rw [confQ, h1]; rfl⟩
    · exact .inr ⟨q, hq, by rw [confQ, h1, Bool.or_true]⟩
  · rintro (h | ⟨q, hq, h⟩)
    · exact ⟨p, hp, by rw [confR, h]; simp⟩
    · rw [confQ, Bool.or_eq_true] at h
      rcases h with h | h
      · exact ⟨q, hq, by rw [confR, h]; simp⟩
      · exact ⟨q, hq, by rw [confR, h, Bool.or_true]⟩
theorem fl_any {t : Tb} {on : Int} {p : Nat} (hp : p ∈ setN on) (hc : tb (conAt t p) p = false) : flOk t on p = !flBad t on p := by
  rw [flOk, flBad]
  cases flAt t p == 0
  · rw [Bool.false_or, Bool.not_false, Bool.true_and]
    congr 1
    rw [Bool.eq_iff_iff, List.any_eq_true, List.any_eq_true]
    constructor
    · rintro ⟨q, hq, h⟩
      simp only [flR, Bool.and_eq_true] at h
      have h8 := setN_lt hq
      refine ⟨q, setN_mem h8 (by rw [tb_and, h.2, setN_tb hq]; rfl), ?_⟩
      have hne : q ≠ p := by intro e; subst e; rw [h.2] at hc; cases hc
      have : ((q : Int) != (p : Int)) = true := by simp; omega
      rw [flQ, this, h.1.1, h.1.2]; rfl
    · rintro ⟨q, hq, h⟩
      simp only [flQ, Bool.and_eq_true] at h
      have h8 := setN_lt hq
      have ht := setN_tb hq
      rw [tb_and, Bool.and_eq_true] at ht
      exact ⟨q, setN_mem h8 ht.2, by rw [flR, h.1.2, h.2, ht.1]; rfl⟩
  · rfl
theorem in_small {a b : Int} (h : Can a) : inB a b = (bAndNot .i64 a b == 0) := by
  rw [inB, Bool.eq_iff_iff, beq_iff_eq, beq_iff_eq, and_zero, andNot_zero]
  constructor
  · intro h1 i hi
    rcases Nat.lt_or_ge i 8 with h8 | h8
    · have := h1 i hi
      rw [tb_andNot _ _ _ hi, tb_255] at this
      simpa [h8] using this
    · rw [can_high h h8 hi]; rfl
  · intro h1 i hi
    rw [tb_andNot _ _ _ hi, h1 i hi]; rfl
theorem can_or {a b : Int} (ha : Can a) (hb : Can b) : Can (bOr .i64 a b) := by
  have e : bOr .i64 a b = IntKind.i64.wrap ((bv a ||| bv b).toNat : Int) := rfl
  rw [e]
  refine can_bits fun i h8 h64 => ?_
  rw [BitVec.getLsbD_or]
  have x := can_high ha h8 h64
  have y := can_high hb h8 h64
  simp only [tb] at x y
  rw [x, y]; rfl
theorem wI_can {x : Int} (h : wI 255 x = true) : Can x := by
  simp only [wI, Bool.and_eq_true, decide_eq_true_eq] at h
  exact ⟨h.1, by omega⟩
theorem can_ne {x : Int} (h : Can x) : decide (0 < (setN x).length) = (x != 0) := by
  rw [Bool.eq_iff_iff, decide_eq_true_iff, bne_iff_ne]
  constructor
  · intro h1 e
    subst e
    have : setN 0 = [] := by decide
    rw [this] at h1; simp at h1
  · intro h1
    rcases Nat.eq_zero_or_pos (setN x).length with h2 | h2
    · exfalso; apply h1
      have hnil := List.length_eq_zero_iff.1 h2
      refine can_ext h ⟨by decide, by decide⟩ fun i hi => ?_
      cases hb : tb x i
      · rw [tb_zero]
      · have := setN_mem hi hb; rw [hnil] at this; cases this
    · exact h2
theorem clash_self {t : Tb} {s : Int} (h : ∀ p ∈ setN s, tb (conAt t p) p = false) : clashR t s s = clashesE t s := by
  rw [clashR, clashesE, Bool.eq_iff_iff, List.any_eq_true, List.any_eq_true]
  constructor
  · rintro ⟨p, hp, h1⟩
    obtain ⟨q, hq, h2⟩ := List.any_eq_true.1 h1
    refine ⟨p, hp, List.any_eq_true.2 ⟨q, hq, ?_⟩⟩
    have hne : p ≠ q := by intro e; subst e; rw [clT, h p hp] at h2; cases h2
    have : ((p : Int) != (q : Int)) = true := by simp; omega
    rw [this, h2]; rfl
  · rintro ⟨p, hp, h1⟩
    obtain ⟨q, hq, h2⟩ := List.any_eq_true.1 h1
    rw [Bool.and_eq_true] at h2
    exact ⟨p, hp, List.any_eq_true.2 ⟨q, hq, h2.2⟩⟩
theorem rail_may {t : Tb} {on : Int} {r : Rl} (hr : mayRl r = true) (hc : ∀ p ∈ setN on, tb (conAt t p) p = false) : railOk t on r = !railBad t on r := by
  have hm := hr
  simp only [mayRl, List.all_cons, List.all_nil, Bool.and_true, Bool.and_eq_true] at hm
  obtain ⟨⟨⟨w1, w2, w3, w4⟩, ⟨_, _, _, _, _, w5⟩⟩, _⟩ := hm
  have k1 := wI_can w1
  have k2 := wI_can w2
  have k3 := wI_can w3
  have k4 := wI_can w4
  have w5' : 0 ≤ r.most := by simp only [wI, Bool.and_eq_true, decide_eq_true_eq] at w5; exact w5.1
  rw [railOk, railBad, in_small (can_or (can_or (can_or k1 k2) k3) k4), exitOk, can_ne k4]
  have hne : ∀ x y : Int, (x != y) = !(x == y) := fun x y => rfl
  cases h1 : (bAndNot .i64 (bOr .i64 (bOr .i64 (bOr .i64 r.bars r.clear) r.dwell) r.exit) on == 0)
  · have h1' : (bAndNot .i64 (bOr .i64 (bOr .i64 (bOr .i64 r.bars r.clear) r.dwell) r.exit) on != 0) = true := by rw [hne, h1]; rfl
    simp only [h1', Bool.false_and, Bool.true_or, Bool.not_true]
  · have hsub : ∀ p, p < 8 → (tb r.bars p = true ∨ tb r.clear p = true ∨ tb r.dwell p = true ∨ tb r.exit p = true) → tb on p = true := by
      intro p hp hh
      have := andNot_zero.1 (eq_of_beq h1) p (by omega)
      rw [tb_or, tb_or, tb_or] at this
      cases ho : tb on p
      · rw [ho] at this
        rcases hh with hh | hh | hh | hh <;> rw [hh] at this <;> simp at this
      · rfl
    have s2 : ∀ p ∈ setN r.clear, tb (conAt t p) p = false := fun p hp => hc p (setN_mem (setN_lt hp) (hsub p (setN_lt hp) (.inr (.inl (setN_tb hp)))))
    have s3 : ∀ p ∈ setN r.dwell, tb (conAt t p) p = false := fun p hp => hc p (setN_mem (setN_lt hp) (hsub p (setN_lt hp) (.inr (.inr (.inl (setN_tb hp))))))
    have s4 : ∀ p ∈ setN r.exit, tb (conAt t p) p = false := fun p hp => hc p (setN_mem (setN_lt hp) (hsub p (setN_lt hp) (.inr (.inr (.inr (setN_tb hp))))))
    rw [clash_self s2, clash_self s3, clash_self s4]
    simp only [hne, h1]
    have e1 : decide (r.green ≥ 1) = !decide (r.green < 1) := by rw [Bool.eq_iff_iff]; simp
    have e2 : decide (r.stay ≥ 1) = !decide (r.stay < 1) := by rw [Bool.eq_iff_iff]; simp
    have e3 : decide (r.limit > r.delay) = !decide (r.limit ≤ r.delay) := by rw [Bool.eq_iff_iff]; simp
    have e4 : ((r.most == 0) || decide (r.most ≥ r.stay)) = !(decide (r.most > 0) && decide (r.most < r.stay)) := by
      rw [Bool.eq_iff_iff]; simp; omega
    rw [e1, e2, e3, e4]
    generalize clashesE t r.clear = a1
    generalize clashesE t r.dwell = a2
    generalize clashesE t r.exit = a3
    generalize apartE t r.exit = a4
    generalize (r.dwell == 0) = a5
    generalize (bAnd .i64 r.dwell r.bars == 0) = a6
    generalize (r.exit == 0) = a7
    generalize decide (r.hold > 0) = a8
    generalize (r.clear == 0) = a9
    generalize decide (r.green < 1) = a10
    generalize decide (r.stay < 1) = a11
    generalize (decide (r.most > 0) && decide (r.most < r.stay)) = a12
    generalize decide (r.limit ≤ r.delay) = a13
    cases a5
    · cases a6
      · simp
      · cases a4
        · cases a7
          · cases a1 <;> cases a2 <;> cases a3 <;> cases a8 <;> cases a9 <;> simp
          · simp
        · simp
    · simp
theorem bus_may {on : Int} {b : Bs} (h : mayBs b = true) : ((b.set == 0 || !inB b.set on) || decide (b.lock < 1)) = busBad on b := by
  simp only [mayBs, List.all_cons, List.all_nil, Bool.and_true, Bool.and_eq_true] at h
  rw [in_small (wI_can h.1), busBad]; rfl
theorem det_may {on : Int} {d : Det} (h : mayDet d = true) : (gtF d.off d.on || !hasR on d.phase) = detBad on d := by
  simp only [mayDet, List.all_cons, List.all_nil, Bool.and_true, Bool.and_eq_true] at h
  have h1 := h.1.1.1.1.1
  simp only [wI, Bool.and_eq_true, decide_eq_true_eq] at h1
  obtain ⟨n, hn⟩ : ∃ n : Nat, d.phase = n := ⟨d.phase.toNat, by omega⟩
  have h8 : n < 8 := by omega
  rw [detBad, hn, hasR_tb h8, hasS_tb h8]
theorem rowSpots_map {g k : Nat} {row : List Int} (h : ∀ x ∈ row, 0 ≤ x ∧ x < 8) : ∀ i, i ≤ row.length → (rowSpots g k (row.take i)).map Sp.p = row.take i
  | 0, _ => by simp [rowSpots]
  | i + 1, hi => by
    obtain ⟨x, hx⟩ : ∃ x, row[i]? = some x := ⟨_, List.getElem?_eq_getElem (by omega)⟩
    rw [(rowSpots_next hx).1 (h x (List.mem_of_getElem? hx)), List.map_append, rowSpots_map h i (by omega), take_next hx]; rfl
theorem grSpots_map {g : Nat} {gr : Gr} (h : ∀ x ∈ gr.a.getD [] ++ gr.b.getD [], 0 ≤ x ∧ x < 8) : (grSpots gr g 2).map Sp.p = gr.a.getD [] ++ gr.b.getD [] := by
  have h1 := rowSpots_map (g := g) (k := 0) (row := gr.a.getD []) (fun x hx => h x (List.mem_append_left _ hx)) _ (Nat.le_refl _)
  have h2 := rowSpots_map (g := g) (k := 1) (row := gr.b.getD []) (fun x hx => h x (List.mem_append_right _ hx)) _ (Nat.le_refl _)
  rw [List.take_length] at h1 h2
  have e0 : grSpots gr g 0 = [] := rfl
  rw [grSpots_next, grSpots_next, e0, List.nil_append, List.map_append]
  show (rowSpots g 0 (gr.a.getD [])).map Sp.p ++ (rowSpots g 1 (gr.b.getD [])).map Sp.p = _
  rw [h1, h2]
theorem grSpots_group {gr : Gr} {g k : Nat} {x : Sp} (h : x ∈ grSpots gr g k) : x.group = g := by
  simp only [grSpots, rowSpots, List.mem_flatMap, List.mem_filterMap] at h
  obtain ⟨k, _, ⟨y, i⟩, _, h⟩ := h
  simp only at h
  split at h
  · cases h; rfl
  · cases h
theorem spotsTo_filter {l : List Gr} {g : Nat} {gr : Gr} (hg : l[g]? = some gr) : ∀ n, n ≤ l.length → (spotsTo l n).filter (fun x => x.group == (g : Int)) = if g < n then grSpots gr g 2 else []
  | 0, _ => by simp [spotsTo]
  | n + 1, hn => by
    obtain ⟨gr', hgr'⟩ : ∃ x, l[n]? = some x := ⟨_, List.getElem?_eq_getElem (by omega)⟩
    rw [spotsTo_next hgr', List.filter_append, spotsTo_filter hg n (by omega)]
    by_cases e : g = n
    · subst e
      rw [hg] at hgr'; cases hgr'
      rw [if_neg (by omega), if_pos (by omega), List.nil_append, List.filter_eq_self]
      intro x hx; rw [grSpots_group hx]; simp
    · have : (grSpots gr' n 2).filter (fun x => x.group == (g : Int)) = [] := by
        rw [List.filter_eq_nil_iff]; intro x hx; rw [grSpots_group hx]; simp; omega
      rw [this, List.append_nil]
      by_cases h : g < n
      · rw [if_pos h, if_pos (by omega)]
      · rw [if_neg h, if_neg (by omega)]
theorem spots_group {t : Tb} {g : Nat} {gr : Gr} (hg : (t.groups.getD [])[g]? = some gr) (h : ∀ x ∈ gr.a.getD [] ++ gr.b.getD [], 0 ≤ x ∧ x < 8) :
    ((spots t).filter fun x => x.group == (g : Int)).map Sp.p = gr.a.getD [] ++ gr.b.getD [] := by
  rw [spots, spotsTo_filter hg _ (Nat.le_refl _), if_pos (List.getElem?_eq_some_iff.1 hg).1, grSpots_map h]
theorem withR_S {s : Int} {p : Nat} (hp : p < 8) : withR s p = withS s p := by
  refine can_ext (can_withR _ _) (can_with hp) fun i hi => ?_
  rw [tb_withR hp, tb_with hp]
  simp [hi]
end Go.Eng
namespace Go.Eng
set_option linter.unusedVariables false
set_option linter.unusedSimpArgs false
set_option linter.unnecessarySimpa false
open Go
set_option linter.unusedVariables false
set_option linter.unusedSimpArgs false
set_option maxRecDepth 10000
set_option maxHeartbeats 4000000
def kRings.Spec (C : Con) (f : Nat) : Prop := ∀ t : Tb, t.Ok → (∀ g ∈ t.groups.getD [], ∀ x ∈ g.a.getD [] ++ g.b.getD [], 0 ≤ x ∧ x < 8) → C.c f [.agg t.cells] (.agg (fltC (ringE t (onI t)))) none
def kCheck.Spec (C : Con) (f : Nat) : Prop := ∀ t : Tb, t.Ok → t.Fw → C.c f [.agg t.cells] (.agg (fltC (checkE t))) none
theorem exit_pairs {t : Tb} {s : Int} (h : ∀ a b p q : Nat, b < a → (setN s)[a]? = some p → (setN s)[b]? = some q → besideR t p q = true) : apartE t s = false := by
  rw [apartE, List.any_eq_false]
  intro p hp
  rw [Bool.not_eq_true, List.any_eq_false]
  intro q hq
  obtain ⟨a, ha⟩ := List.mem_iff_getElem?.1 hp
  obtain ⟨b, hb⟩ := List.mem_iff_getElem?.1 hq
  by_cases e : p = q
  · subst e; simp
  · have hab : a ≠ b := by intro h2; subst h2; rw [ha] at hb; exact e (Option.some.inj hb)
    rcases Nat.lt_or_ge b a with h1 | h1
    · rw [h a b p q h1 ha hb]; simp
    · rw [beside_sym, h b a q p (by omega) hb ha]; simp
theorem exit_no {t : Tb} {s : Int} {a b p q : Nat} (hab : b < a) (ha : (setN s)[a]? = some p) (hb : (setN s)[b]? = some q) (h : besideR t p q = false) : apartE t s = true := by
  have hne : p ≠ q := by
    intro e; subst e
    have := setN_inj ha hb; omega
  refine List.any_eq_true.2 ⟨p, List.mem_of_getElem? ha, List.any_eq_true.2 ⟨q, List.mem_of_getElem? hb, ?_⟩⟩
  have : ((p : Int) != (q : Int)) = true := by simp; omega
  rw [this, h]; rfl
section
variable {P : Program} (hm : P.follows .mixedOrders = true) {f : Nat}
include hm
theorem kExit.ok {fL e fB : Nat} (hc : cFn P f = some (cc_ref08_exit fL fB)) (hL : refList.Spec (Pure P) fL e) (hB : beside.Spec (Pure P) fB) : kExit.Spec (Pure P) f := by
  intro t s ht
  have h := ht.ln
  have hw := h.whole
  have hla := setN_len s
  have hra := setN_rows s
  rw [exitOk]
  refine pure_of hm hc (by show 2 ≤ 35; decide) (aw_flat (keep := []) (i := 0) ?_)
  try simp only [I, B, D, RX, ↓ KW, Nat.reduceBEq, Nat.reduceAdd, Nat.reduceLeDiff, Int.reduceNe, Int.reduceBEq, Int.reduceEq, reduceCtorEq, Nat.reduceMul, Int.reduceLT, Int.reduceLE, Int.reduceToNat, cc_ref08_exit, Z.H]
  refine call_is (hL s none (.inl rfl)) ?_
  try simp only [I, B, D, RX, ↓ KW, Nat.reduceBEq, Nat.reduceAdd, Nat.reduceLeDiff, Int.reduceNe, Int.reduceBEq, Int.reduceEq, reduceCtorEq, Nat.reduceMul, Int.reduceLT, Int.reduceLE, Int.reduceToNat, a_len, hra, List.length_map]
  refine aw_loop' (fun i : Nat => (⟨[(6, .dat (I i) none), (5, .dat (slAV intRow (mkO (listS s))) none), (2, .ptr 4 0)], [(4, ⟨t.cells, []⟩)], [], 400⟩ : S)) (fun i => (setN s).length - i) (fun i => i ≤ (setN s).length ∧ ∀ a b p q : Nat, b < a → a < i → (setN s)[a]? = some p → (setN s)[b]? = some q → besideR t p q = true) ?_ 0 ⟨by omega, by intro a b p q _ h; omega⟩ ?_
  rotate_left
  · refine le_tok2 (by decide) ?_ ?_ ?_ ?_ <;> simp [LX, I, B, D]
  rintro i ⟨hi, hall⟩ A back
  have hwr := wrap_succ (k := i) (by omega)
  try simp only [I, B, D, RX, ↓ KW, Nat.reduceBEq, Nat.reduceAdd, Nat.reduceLeDiff, Int.reduceNe, Int.reduceBEq, Int.reduceEq, reduceCtorEq, Nat.reduceMul, Int.reduceLT, Int.reduceLE, Int.reduceToNat, a_len, hra, List.length_map]
  cases h2 : decide ((i : Int) < (((setN s).length : Nat) : Int))
  · have e : i = (setN s).length := by have := of_decide_eq_false h2; omega
    subst e
    have hap := exit_pairs (t := t) (s := s) fun a b p q hab ha hb => hall a b p q hab (List.getElem?_eq_some_iff.1 ha).1 ha hb
    have hd : decide ((((setN s).length : Nat) : Int) > 0) = decide (0 < (setN s).length) := by rw [Bool.eq_iff_iff]; simp
    try simp only [I, B, D, RX, ↓ KW, Nat.reduceBEq, Nat.reduceAdd, Nat.reduceLeDiff, Int.reduceNe, Int.reduceBEq, Int.reduceEq, reduceCtorEq, Nat.reduceMul, Int.reduceLT, Int.reduceLE, Int.reduceToNat, h2, a_len, hra, List.length_map, hd]
    rw [hap]
    try rfl
  have hlt : i < (setN s).length := by have := of_decide_eq_true h2; omega
  obtain ⟨p, hp⟩ : ∃ x, (setN s)[i]? = some x := ⟨_, List.getElem?_eq_getElem hlt⟩
  have hpp := setN_at hp
  try simp only [I, B, D, RX, ↓ KW, Nat.reduceBEq, Nat.reduceAdd, Nat.reduceLeDiff, Int.reduceNe, Int.reduceBEq, Int.reduceEq, reduceCtorEq, Nat.reduceMul, Int.reduceLT, Int.reduceLE, Int.reduceToNat, h2]
  refine aw_loop' (fun k : Nat => (⟨[(7, .dat (I k) none), (6, .dat (I i) none), (2, .ptr 4 0), (5, .dat (slAV intRow (mkO (listS s))) none)], [(4, ⟨t.cells, []⟩)], [], 500⟩ : S)) (fun k => i - k) (fun k => k ≤ i ∧ ∀ b q : Nat, b < k → (setN s)[b]? = some q → besideR t p q = true) ?_ 0 ⟨by omega, by intro b q h; omega⟩ ?_
  rotate_left
  · refine le_tok2 (by decide) ?_ ?_ ?_ ?_ <;> simp [LX, I, B, D]
  rintro k ⟨hk, hall2⟩ A2 back2
  have hwr2 := wrap_succ (k := k) (by omega)
  try simp only [I, B, D, RX, ↓ KW, Nat.reduceBEq, Nat.reduceAdd, Nat.reduceLeDiff, Int.reduceNe, Int.reduceBEq, Int.reduceEq, reduceCtorEq, Nat.reduceMul, Int.reduceLT, Int.reduceLE, Int.reduceToNat]
  cases h3 : decide ((k : Int) < (i : Int))
  · have e : k = i := by have := of_decide_eq_false h3; omega
    subst e
    try simp only [I, B, D, RX, ↓ KW, Nat.reduceBEq, Nat.reduceAdd, Nat.reduceLeDiff, Int.reduceNe, Int.reduceBEq, Int.reduceEq, reduceCtorEq, Nat.reduceMul, Int.reduceLT, Int.reduceLE, Int.reduceToNat, h3]
    refine back (k + 1) _ ⟨by omega, fun a b p' q hab hai ha hb => ?_⟩ (by omega) ?_
    · by_cases e : a = k
      · subst e; rw [hp] at ha; cases ha; exact hall2 b q hab hb
      · exact hall a b p' q hab (by omega) ha hb
    · refine le_tok2 (by decide) ?_ ?_ ?_ ?_ <;> simp [LX, I, B, D, hwr]
  have hlt2 : k < i := by have := of_decide_eq_true h3; omega
  obtain ⟨q, hq⟩ : ∃ x, (setN s)[k]? = some x := ⟨_, List.getElem?_eq_getElem (by omega)⟩
  have hqq := setN_at hq
  have c1 := hB t p q ht
  try simp only [I, B, D, RX, ↓ KW, Nat.reduceBEq, Nat.reduceAdd, Nat.reduceLeDiff, Int.reduceNe, Int.reduceBEq, Int.reduceEq, reduceCtorEq, Nat.reduceMul, Int.reduceLT, Int.reduceLE, Int.reduceToNat, h3, a_rows, hra, hpp, hqq, intRow, List.length_map, hw]
  refine ⟨by omega, by omega, ?_⟩
  refine call_is c1 ?_
  cases hb : besideR t p q
  · try simp only [I, B, D, RX, ↓ KW, Nat.reduceBEq, Nat.reduceAdd, Nat.reduceLeDiff, Int.reduceNe, Int.reduceBEq, Int.reduceEq, reduceCtorEq, Nat.reduceMul, Int.reduceLT, Int.reduceLE, Int.reduceToNat]
    rw [exit_no hlt2 hp hq hb]
    try rfl
  · try simp only [I, B, D, RX, ↓ KW, Nat.reduceBEq, Nat.reduceAdd, Nat.reduceLeDiff, Int.reduceNe, Int.reduceBEq, Int.reduceEq, reduceCtorEq, Nat.reduceMul, Int.reduceLT, Int.reduceLE, Int.reduceToNat]
    refine back2 (k + 1) _ ⟨by omega, fun b q' hbk hbq => ?_⟩ (by omega) ?_
    · by_cases e : b = k
      · subst e; rw [hq] at hbq; cases hbq; exact hb
      · exact hall2 b q' (by omega) hbq
    · refine le_tok2 (by decide) ?_ ?_ ?_ ?_ <;> simp [LX, I, B, D, hwr2]
theorem kRings.ok {fO fS e fH fW : Nat} (hc : cFn P f = some (cc_ref08_rings fO fS fH fW)) (hO : on.Spec (Pure P) fO) (hS : spots.Spec (Pure P) fS e) (hH : refHas.Spec (Pure P) fH) (hW : refWith.Spec (Pure P) fW) : kRings.Spec (Pure P) f := by
  intro t ht hrange
  have h := ht.ln
  have hg := tb_104 h
  have hw := h.whole
  have hl := h.len
  have hbg := ht.groups
  have hsl := spots_len ht
  obtain ⟨on, hon⟩ : ∃ on, on = onI t := ⟨_, rfl⟩
  rw [← hon]
  have c0 := hO t ht
  rw [← hon] at c0
  refine pure_of hm hc (by show 1 ≤ 63; decide) (aw_flat (keep := []) (i := 0) ?_)
  try simp only [I, B, D, RY, ↓ KW, Nat.reduceBEq, Nat.reduceAdd, Nat.reduceLeDiff, Int.reduceNe, Int.reduceBEq, Int.reduceEq, reduceCtorEq, Nat.reduceMul, Int.reduceLT, Int.reduceLE, Int.reduceToNat, cc_ref08_rings, Z.H, hg, a_len]
  cases h0 : ((((t.groups.getD []).length : Nat) : Int) == 0)
  rotate_left
  · have : ringE t on = (8, 0) := by rw [ringE, if_pos (by simpa using h0)]
    try simp only [I, B, D, RY, ↓ KW, Nat.reduceBEq, Nat.reduceAdd, Nat.reduceLeDiff, Int.reduceNe, Int.reduceBEq, Int.reduceEq, reduceCtorEq, Nat.reduceMul, Int.reduceLT, Int.reduceLE, Int.reduceToNat, h0, this, fltC, setCells]
    try rfl
  have hne : ringE t on = ringL on (t.groups.getD []) 0 0 := by rw [ringE, if_neg (by simpa using h0)]
  try simp only [I, B, D, RY, ↓ KW, Nat.reduceBEq, Nat.reduceAdd, Nat.reduceLeDiff, Int.reduceNe, Int.reduceBEq, Int.reduceEq, reduceCtorEq, Nat.reduceMul, Int.reduceLT, Int.reduceLE, Int.reduceToNat, h0, hw]
  refine call_is c0 ?_
  try simp only [I, B, D, RY, ↓ KW, Nat.reduceBEq, Nat.reduceAdd, Nat.reduceLeDiff, Int.reduceNe, Int.reduceBEq, Int.reduceEq, reduceCtorEq, Nat.reduceMul, Int.reduceLT, Int.reduceLE, Int.reduceToNat]
  refine aw_loop' (fun y : Nat × Int => (⟨[(5, .dat (I y.1) none), (1, .ptr 4 0), (3, .dat (I on) none), (4, .dat (I y.2) none), (2, .ptr 5 0)], [(4, ⟨t.cells, []⟩), (5, ⟨[I 0, I 0], []⟩)], [], 400⟩ : S)) (fun y => (t.groups.getD []).length - y.1) (fun y => y.1 ≤ (t.groups.getD []).length ∧ ringL on ((t.groups.getD []).drop y.1) y.1 y.2 = ringE t on) ?_ (0, 0) ⟨by simp, by rw [hne]; rfl⟩ ?_
  rotate_left
  · refine le_tok2 (by decide) ?_ ?_ ?_ ?_ <;> simp [LX, I, B, D]
  rintro ⟨g, seen⟩ ⟨hg1, hinv⟩ A back
  simp only at hg1 hinv
  have hwr := wrap_succ (k := g) (by omega)
  try simp only [I, B, D, RY, ↓ KW, Nat.reduceBEq, Nat.reduceAdd, Nat.reduceLeDiff, Int.reduceNe, Int.reduceBEq, Int.reduceEq, reduceCtorEq, Nat.reduceMul, Int.reduceLT, Int.reduceLE, Int.reduceToNat, hg, a_len]
  cases h2 : decide ((g : Int) < (((t.groups.getD []).length : Nat) : Int))
  · have e : g = (t.groups.getD []).length := by have := of_decide_eq_false h2; omega
    subst e
    rw [List.drop_length, ringL] at hinv
    cases h3 : (seen != on)
    · have h3' : (seen == on) = true := by simpa using h3
      rw [h3'] at hinv
      try simp only [I, B, D, RY, ↓ KW, Nat.reduceBEq, Nat.reduceAdd, Nat.reduceLeDiff, Int.reduceNe, Int.reduceBEq, Int.reduceEq, reduceCtorEq, Nat.reduceMul, Int.reduceLT, Int.reduceLE, Int.reduceToNat, h2, h3, fltC, setCells]
      rw [← hinv]
      try rfl
    · have h3' : (seen == on) = false := by simpa using h3
      rw [h3'] at hinv
      try simp only [I, B, D, RY, ↓ KW, Nat.reduceBEq, Nat.reduceAdd, Nat.reduceLeDiff, Int.reduceNe, Int.reduceBEq, Int.reduceEq, reduceCtorEq, Nat.reduceMul, Int.reduceLT, Int.reduceLE, Int.reduceToNat, h2, h3, fltC, setCells]
      rw [← hinv]
      try rfl
  have hlt : g < (t.groups.getD []).length := by have := of_decide_eq_true h2; omega
  obtain ⟨gr, hgr⟩ : ∃ x, (t.groups.getD [])[g]? = some x := ⟨_, List.getElem?_eq_getElem hlt⟩
  have hrs := ht.rows gr (List.mem_of_getElem? hgr)
  have hdrop : (t.groups.getD []).drop g = gr :: (t.groups.getD []).drop (g + 1) := by
    rw [List.drop_eq_getElem_cons hlt]
    congr 1
    rw [List.getElem?_eq_getElem hlt] at hgr; exact Option.some.inj hgr
  rw [hdrop, ringL] at hinv
  have hrg := hrange gr (List.mem_of_getElem? hgr)
  have hsp := spots_group hgr hrg
  try simp only [I, B, D, RY, ↓ KW, Nat.reduceBEq, Nat.reduceAdd, Nat.reduceLeDiff, Int.reduceNe, Int.reduceBEq, Int.reduceEq, reduceCtorEq, Nat.reduceMul, Int.reduceLT, Int.reduceLE, Int.reduceToNat, h2, hw]
  refine call_is (hS t none ht (.inl rfl)) ?_
  try simp only [I, B, D, RY, ↓ KW, Nat.reduceBEq, Nat.reduceAdd, Nat.reduceLeDiff, Int.reduceNe, Int.reduceBEq, Int.reduceEq, reduceCtorEq, Nat.reduceMul, Int.reduceLT, Int.reduceLE, Int.reduceToNat, a_len, mkO_getD]
  refine aw_loop' (fun y : Nat × Int => (⟨[(26, .dat (I y.1) none), (25, .dat (I ((spots t).length : Nat)) none), (24, .dat (slAV Sp.cells (mkO (spots t))) none), (5, .dat (I g) none), (6, .dat (I ((((spots t).take y.1).filter (fun x => x.group == (g : Int))).length : Nat)) none), (3, .dat (I on) none), (4, .dat (I y.2) none), (2, .ptr 5 0), (1, .ptr 4 0)], [(4, ⟨t.cells, []⟩), (5, ⟨[I 0, I 0], []⟩)], [], 500⟩ : S)) (fun y => (spots t).length - y.1) (fun y => y.1 ≤ (spots t).length ∧ rowGo on seen (gr.a.getD [] ++ gr.b.getD []) = rowGo on y.2 ((((spots t).drop y.1).filter (fun x => x.group == (g : Int))).map Sp.p)) ?_ (0, seen) ⟨by simp, by simp only [List.drop_zero]; rw [hsp]⟩ ?_
  rotate_left
  · refine le_tok2 (by decide) ?_ ?_ ?_ ?_ <;> simp [LX, I, B, D]
  rintro ⟨i, s2⟩ ⟨hi, hrow2⟩ A2 back2
  simp only at hi hrow2
  have hw2 := wrap_succ (k := i) (by omega)
  try simp only [I, B, D, RY, ↓ KW, Nat.reduceBEq, Nat.reduceAdd, Nat.reduceLeDiff, Int.reduceNe, Int.reduceBEq, Int.reduceEq, reduceCtorEq, Nat.reduceMul, Int.reduceLT, Int.reduceLE, Int.reduceToNat]
  cases h5 : decide ((i : Int) < (((spots t).length : Nat) : Int))
  · have ei : i = (spots t).length := by have := of_decide_eq_false h5; omega
    subst ei
    rw [List.drop_length] at hrow2
    have e2 : rowGo on s2 (([] : List Sp).filter (fun x => x.group == (g : Int)) |>.map Sp.p) = some s2 := rfl
    rw [e2] at hrow2
    rw [hrow2] at hinv
    have hcount : ((spots t).filter (fun x => x.group == (g : Int))).length = (gr.a.getD []).length + (gr.b.getD []).length := by
      have := congrArg List.length hsp; simpa using this
    rw [List.take_length, hcount]
    try simp only [I, B, D, RY, ↓ KW, Nat.reduceBEq, Nat.reduceAdd, Nat.reduceLeDiff, Int.reduceNe, Int.reduceBEq, Int.reduceEq, reduceCtorEq, Nat.reduceMul, Int.reduceLT, Int.reduceLE, Int.reduceToNat, h5]
    cases h6 : ((((gr.a.getD []).length + (gr.b.getD []).length : Nat) : Int) == 0)
    · rw [if_neg (by intro e; rw [e] at h6; simp at h6)] at hinv
      try simp only [I, B, D, RY, ↓ KW, Nat.reduceBEq, Nat.reduceAdd, Nat.reduceLeDiff, Int.reduceNe, Int.reduceBEq, Int.reduceEq, reduceCtorEq, Nat.reduceMul, Int.reduceLT, Int.reduceLE, Int.reduceToNat, h6]
      refine back (g + 1, s2) _ ⟨by omega, hinv⟩ (by simp only; omega) ?_
      refine le_tok2 (by decide) ?_ ?_ ?_ ?_ <;> simp [LX, I, B, D, hwr]
    · rw [if_pos (by simp only [beq_iff_eq] at h6; omega)] at hinv
      try simp only [I, B, D, RY, ↓ KW, Nat.reduceBEq, Nat.reduceAdd, Nat.reduceLeDiff, Int.reduceNe, Int.reduceBEq, Int.reduceEq, reduceCtorEq, Nat.reduceMul, Int.reduceLT, Int.reduceLE, Int.reduceToNat, h6, fltC, setCells]
      rw [← hinv]
      try rfl
  have hil : i < (spots t).length := by have := of_decide_eq_true h5; omega
  obtain ⟨x, hx⟩ : ∃ x, (spots t)[i]? = some x := ⟨_, List.getElem?_eq_getElem hil⟩
  have hdr : (spots t).drop i = x :: (spots t).drop (i + 1) := by
    rw [List.drop_eq_getElem_cons hil]
    congr 1
    rw [List.getElem?_eq_getElem hil] at hx; exact Option.some.inj hx
  have htk := take_next hx
  have hpart : partA (Sp.cells x) 0 (some 4) = some (.agg (Sp.cells x)) := rfl
  have hset : ∀ c : List AV, c.length = 4 → setCells c 0 (Sp.cells x) = Sp.cells x := fun c h => set_all (by rw [h]; rfl)
  have p0 : (Sp.cells x)[0]? = some (AV.int .i64 x.group) := rfl
  have p3 : (Sp.cells x)[3]? = some (AV.int .i64 x.p) := rfl
  try simp only [I, B, D, RY, ↓ KW, Nat.reduceBEq, Nat.reduceAdd, Nat.reduceLeDiff, Int.reduceNe, Int.reduceBEq, Int.reduceEq, reduceCtorEq, Nat.reduceMul, Int.reduceLT, Int.reduceLE, Int.reduceToNat, h5, a_rows, mkO_getD, hx, Sp.len, hpart, hset, p0]
  refine ⟨by omega, ?_⟩
  try simp only [I, B, D, RY, ↓ KW, Nat.reduceBEq, Nat.reduceAdd, Nat.reduceLeDiff, Int.reduceNe, Int.reduceBEq, Int.reduceEq, reduceCtorEq, Nat.reduceMul, Int.reduceLT, Int.reduceLE, Int.reduceToNat, Sp.len, hset, p0]
  cases h6 : (x.group != (g : Int))
  · have hxg : (x.group == (g : Int)) = true := by simpa using h6
    rw [hdr, List.filter_cons, if_pos (by simpa using hxg), List.map_cons, rowGo_next] at hrow2
    have hxr := spots_range (List.mem_of_getElem? hx)
    obtain ⟨n, hn⟩ : ∃ n : Nat, x.p = n := ⟨x.p.toNat, by omega⟩
    have hn8 : n < 8 := by omega
    have hcn : (((spots t).take (i + 1)).filter (fun x => x.group == (g : Int))).length = (((spots t).take i).filter (fun x => x.group == (g : Int))).length + 1 := by
      rw [htk, List.filter_append, List.length_append, List.filter_cons, if_pos (by simpa using hxg)]; rfl
    have hlen : (((spots t).take i).filter (fun x => x.group == (g : Int))).length ≤ 2199023255552 := by
      have := List.length_filter_le (fun x : Sp => x.group == (g : Int)) ((spots t).take i)
      have h9 : ((spots t).take i).length ≤ (spots t).length := List.length_take_le' _ _
      omega
    have hw3 := wrap_succ (k := (((spots t).take i).filter (fun x => x.group == (g : Int))).length) (by omega)
    have c1 := hH on x.p
    have c2 := hH s2 x.p
    have c3 := hW s2 x.p
    rw [hn] at c1 c2 c3 hrow2
    rw [hasR_tb hn8] at c1
    rw [hasR_tb hn8] at c2
    rw [withR_S hn8] at c3
    rw [hasS_tb hn8, hasS_tb hn8] at hrow2
    have hne0 : ¬ (gr.a.getD []).length + (gr.b.getD []).length = 0 := by
      intro e0
      have hc := congrArg List.length hsp
      rw [List.length_map, List.length_append, e0] at hc
      have := List.eq_nil_of_length_eq_zero hc
      have hm := (List.mem_filter (p := fun x : Sp => x.group == (g : Int))).2 ⟨List.mem_of_getElem? hx, hxg⟩
      rw [this] at hm; cases hm
    rw [if_neg hne0] at hinv
    generalize tb on n = b1 at *
    generalize tb s2 n = b2 at *
    try simp only [I, B, D, RY, ↓ KW, Nat.reduceBEq, Nat.reduceAdd, Nat.reduceLeDiff, Int.reduceNe, Int.reduceBEq, Int.reduceEq, reduceCtorEq, Nat.reduceMul, Int.reduceLT, Int.reduceLE, Int.reduceToNat, h6, p3, hn, hset, Sp.len]
    refine call_is c1 ?_
    cases b1
    · have : rowGo on seen (gr.a.getD [] ++ gr.b.getD []) = none := by rw [hrow2]; rfl
      rw [this] at hinv
      try simp only [I, B, D, RY, ↓ KW, Nat.reduceBEq, Nat.reduceAdd, Nat.reduceLeDiff, Int.reduceNe, Int.reduceBEq, Int.reduceEq, reduceCtorEq, Nat.reduceMul, Int.reduceLT, Int.reduceLE, Int.reduceToNat, fltC, setCells]
      rw [← hinv]
      try rfl
    · try simp only [I, B, D, RY, ↓ KW, Nat.reduceBEq, Nat.reduceAdd, Nat.reduceLeDiff, Int.reduceNe, Int.reduceBEq, Int.reduceEq, reduceCtorEq, Nat.reduceMul, Int.reduceLT, Int.reduceLE, Int.reduceToNat, p3, hn]
      refine call_is c2 ?_
      cases b2
      · try simp only [I, B, D, RY, ↓ KW, Nat.reduceBEq, Nat.reduceAdd, Nat.reduceLeDiff, Int.reduceNe, Int.reduceBEq, Int.reduceEq, reduceCtorEq, Nat.reduceMul, Int.reduceLT, Int.reduceLE, Int.reduceToNat, p3, hn]
        refine call_is c3 ?_
        try simp only [I, B, D, RY, ↓ KW, Nat.reduceBEq, Nat.reduceAdd, Nat.reduceLeDiff, Int.reduceNe, Int.reduceBEq, Int.reduceEq, reduceCtorEq, Nat.reduceMul, Int.reduceLT, Int.reduceLE, Int.reduceToNat]
        refine back2 (i + 1, withS s2 n) _ ⟨by omega, hrow2⟩ (by simp only; omega) ?_
        refine le_tok2 (by decide) ?_ ?_ ?_ ?_ <;> simp [LX, I, B, D, hw2, hw3, hcn]
      · have : rowGo on seen (gr.a.getD [] ++ gr.b.getD []) = none := by rw [hrow2]; rfl
        rw [this] at hinv
        try simp only [I, B, D, RY, ↓ KW, Nat.reduceBEq, Nat.reduceAdd, Nat.reduceLeDiff, Int.reduceNe, Int.reduceBEq, Int.reduceEq, reduceCtorEq, Nat.reduceMul, Int.reduceLT, Int.reduceLE, Int.reduceToNat, fltC, setCells]
        rw [← hinv]
        try rfl
  · have hxg : (x.group == (g : Int)) = false := by simpa using h6
    rw [hdr, List.filter_cons, if_neg (by simpa using hxg)] at hrow2
    have hcn : (((spots t).take (i + 1)).filter (fun x => x.group == (g : Int))).length = (((spots t).take i).filter (fun x => x.group == (g : Int))).length := by
      rw [htk, List.filter_append, List.length_append, List.filter_cons, if_neg (by simpa using hxg)]; rfl
    try simp only [I, B, D, RY, ↓ KW, Nat.reduceBEq, Nat.reduceAdd, Nat.reduceLeDiff, Int.reduceNe, Int.reduceBEq, Int.reduceEq, reduceCtorEq, Nat.reduceMul, Int.reduceLT, Int.reduceLE, Int.reduceToNat, h6]
    refine back2 (i + 1, s2) _ ⟨by omega, hrow2⟩ (by simp only; omega) ?_
    refine le_tok2 (by decide) ?_ ?_ ?_ ?_ <;> simp [LX, I, B, D, hw2, hcn]
end
end Go.Eng
namespace Go.Eng
set_option linter.unusedVariables false
set_option linter.unusedSimpArgs false
set_option linter.unnecessarySimpa false
open Go
set_option linter.unusedVariables false
set_option linter.unusedSimpArgs false
set_option maxRecDepth 10000
set_option maxHeartbeats 4000000
theorem may_parts {t : Tb} (h : t.Ln) (hm : mayT t = true) : (∀ p : Nat, p < 8 → mayPh (phAt t p) = true) ∧ (∀ g ∈ t.groups.getD [], ∀ x ∈ g.a.getD [] ++ g.b.getD [], 0 ≤ x ∧ x < 8) ∧
    (∀ d ∈ t.detectors.getD [], mayDet d = true) ∧ (∀ d ∈ t.rails.getD [], mayRl d = true) ∧ (∀ d ∈ t.buses.getD [], mayBs d = true) := by
  simp only [mayT, Bool.and_eq_true, List.all_eq_true] at hm
  obtain ⟨⟨⟨⟨⟨⟨⟨⟨h1, _, h2⟩, _⟩, _, h3⟩, _, h4⟩, _, h5⟩, _⟩, _⟩, _⟩ := hm
  refine ⟨fun p hp => h1 _ (List.mem_of_getElem? (h.ph_get hp)), fun g hg x hx => ?_, h3, h4, h5⟩
  have := h2 g hg
  simp only [mayGr, mayRow, Bool.and_eq_true, List.all_eq_true, List.all_cons, List.all_nil, Bool.and_true] at this
  have hw : wI 7 x = true := by
    rcases List.mem_append.1 hx with hx | hx
    · exact this.1.2 x hx
    · exact this.2.2 x hx
  simp only [wI, Bool.and_eq_true, decide_eq_true_eq] at hw
  omega
theorem ringL_code (on : Int) : ∀ (l : List Gr) (g : Nat) (s : Int), ringL on l g s = (0, 0) ∨ (ringL on l g s).1 = 8
  | [], g, s => by simp only [ringL]; split <;> simp
  | r :: rs, g, s => by
    simp only [ringL]
    split
    · exact .inr rfl
    · exact ringL_code on rs _ _
theorem ringE_code (t : Tb) (on : Int) : ringE t on = (0, 0) ∨ (ringE t on).1 = 8 := by
  unfold ringE; split
  · exact .inr rfl
  · exact ringL_code _ _ _ _
theorem set_any_next {s : Int} {k p : Nat} {w : Nat → Bool} (hno : ((setN s).take k).any w = false) (hx : (setN s)[k]? = some p) (h : w p = false) : ((setN s).take (k + 1)).any w = false := by rw [any_take hno hx, h]
section
variable {P : Program} (hm : P.follows .mixedOrders = true) {f : Nat}
include hm
theorem kCheck.ok {fM fO fL e fP fR fC fH fK fI fF : Nat} (hc : cFn P f = some (cc_ref08_Check fM fO fL fP fR fC fH fK fI fF)) (hM : rMay.Spec (Pure P) fM) (hO : on.Spec (Pure P) fO) (hL : refList.Spec (Pure P) fL e) (hP : kPhase.Spec (Pure P) fP)
    (hR : kRings.Spec (Pure P) fR) (hC : kConf.Spec (Pure P) fC) (hH : refHas.Spec (Pure P) fH) (hK : kRail.Spec (Pure P) fK) (hI : kIn.Spec (Pure P) fI) (hF : kFlash.Spec (Pure P) fF) : kCheck.Spec (Pure P) f := by
  intro t ht hfw
  have h := ht.ln
  have hw := h.whole
  have hl := h.len
  have c0 := hM t h hfw
  have p2 := h.at113
  have p3 := h.at114
  have p4 := h.at115
  have hbd := ht.dets
  have hbr := ht.rails
  have hbb := ht.buses
  rw [checkE]
  cases hmay : mayT t
  · rw [hmay] at c0
    refine pure_of hm hc (by show 1 ≤ 148; decide) (aw_flat (keep := []) (i := 0) ?_)
    try simp only [I, B, D, RX, ↓ KW, Nat.reduceBEq, Nat.reduceAdd, Nat.reduceLeDiff, Int.reduceNe, Int.reduceBEq, Int.reduceEq, reduceCtorEq, Nat.reduceMul, Int.reduceLT, Int.reduceLE, Int.reduceToNat, cc_ref08_Check, Z.H, hw]
    refine call_is c0 ?_
    try simp only [I, B, D, RX, ↓ KW, Nat.reduceBEq, Nat.reduceAdd, Nat.reduceLeDiff, Int.reduceNe, Int.reduceBEq, Int.reduceEq, reduceCtorEq, Nat.reduceMul, Int.reduceLT, Int.reduceLE, Int.reduceToNat, fltC, setCells]
    try rfl
  rw [hmay] at c0
  obtain ⟨mP, mG, mD, mR, mB⟩ := may_parts h hmay
  rw [if_pos rfl]
  obtain ⟨on, hon⟩ : ∃ on, on = onI t := ⟨_, rfl⟩
  have c1 := hO t ht
  rw [← hon] at c1 ⊢
  have cR := hR t ht mG
  rw [← hon] at cR
  have hla := setN_len on
  have hra := setN_rows on
  have hLs := hL on none (.inl rfl)
  obtain ⟨RR, hRR⟩ : ∃ R, R = firstOf (rulesE t on) := ⟨_, rfl⟩
  rw [← hRR]
  unfold rulesE at hRR
  clear hmay
  refine pure_of hm hc (by show 1 ≤ 148; decide) (aw_flat (keep := []) (i := 0) ?_)
  try simp only [I, B, D, RY, ↓ KW, Nat.reduceBEq, Nat.reduceAdd, Nat.reduceLeDiff, Int.reduceNe, Int.reduceBEq, Int.reduceEq, reduceCtorEq, Nat.reduceMul, Int.reduceLT, Int.reduceLE, Int.reduceToNat, cc_ref08_Check, Z.H, hw]
  refine call_is c0 ?_
  try simp only [I, B, D, RY, ↓ KW, Nat.reduceBEq, Nat.reduceAdd, Nat.reduceLeDiff, Int.reduceNe, Int.reduceBEq, Int.reduceEq, reduceCtorEq, Nat.reduceMul, Int.reduceLT, Int.reduceLE, Int.reduceToNat, hw]
  refine call_is c1 ?_
  try simp only [I, B, D, RY, ↓ KW, Nat.reduceBEq, Nat.reduceAdd, Nat.reduceLeDiff, Int.reduceNe, Int.reduceBEq, Int.reduceEq, reduceCtorEq, Nat.reduceMul, Int.reduceLT, Int.reduceLE, Int.reduceToNat]
  refine call_is hLs ?_
  try simp only [I, B, D, RY, ↓ KW, Nat.reduceBEq, Nat.reduceAdd, Nat.reduceLeDiff, Int.reduceNe, Int.reduceBEq, Int.reduceEq, reduceCtorEq, Nat.reduceMul, Int.reduceLT, Int.reduceLE, Int.reduceToNat, a_len, hra, List.length_map]
  refine aw_loop' (fun k : Nat => (⟨[(25, .dat (I k) none), (24, .dat (I ((setN on).length : Nat)) none), (23, .dat (slAV intRow (mkO (listS on))) none), (1, .ptr 4 0), (2, .ptr 5 0), (3, .dat (I on) none)], [(4, ⟨t.cells, []⟩), (5, ⟨[I 0, I 0], []⟩)], [], 400⟩ : S)) (fun k => (setN on).length - k) (fun k => k ≤ (setN on).length ∧ ((setN on).take k).any (fun p => phBad (phAt t p)) = false) ?_ 0 (by simp) ?_
  rotate_left
  · refine le_tok2 (by decide) ?_ ?_ ?_ ?_ <;> simp [LX, I, B, D]
  rintro k ⟨hk, hno⟩ A back
  have hwr := wrap_succ (k := k) (by omega)
  try simp only [I, B, D, RY, ↓ KW, Nat.reduceBEq, Nat.reduceAdd, Nat.reduceLeDiff, Int.reduceNe, Int.reduceBEq, Int.reduceEq, reduceCtorEq, Nat.reduceMul, Int.reduceLT, Int.reduceLE, Int.reduceToNat]
  cases h2 : decide ((k : Int) < (((setN on).length : Nat) : Int))
  rotate_left
  · have hlt : k < (setN on).length := by have := of_decide_eq_true h2; omega
    obtain ⟨p, hp⟩ : ∃ x, (setN on)[k]? = some x := ⟨_, List.getElem?_eq_getElem hlt⟩
    have hpp := setN_at hp
    have hmem := List.mem_of_getElem? hp
    have h8 := setN_lt hmem
    have hx : 0 ≤ (p : Int) ∧ (p : Int) < (8 : Nat) := by omega
    have hgo := fun hb => firstS_go (code := 7) (w := fun p => phBad (phAt t p)) hp hno hb
    have hnx := fun hb => set_any_next (w := fun p => phBad (phAt t p)) hno hp hb
    have cc := hP (phAt t p)
    rw [ph_may (mP p h8)] at cc
    have hpart := Tb.phase_part (h.ph_get h8)
    cases hb : phBad (phAt t p)
    · rw [hb] at cc
      try simp only [I, B, D, RY, ↓ KW, Nat.reduceBEq, Nat.reduceAdd, Nat.reduceLeDiff, Int.reduceNe, Int.reduceBEq, Int.reduceEq, reduceCtorEq, Nat.reduceMul, Int.reduceLT, Int.reduceLE, Int.reduceToNat, h2, a_rows, hra, hpp, intRow, List.length_map, hx, hpart, hw]
      refine ⟨by omega, ?_⟩
      refine call_is cc ?_
      try simp only [I, B, D, RY, ↓ KW, Nat.reduceBEq, Nat.reduceAdd, Nat.reduceLeDiff, Int.reduceNe, Int.reduceBEq, Int.reduceEq, reduceCtorEq, Nat.reduceMul, Int.reduceLT, Int.reduceLE, Int.reduceToNat]
      refine back (k + 1) _ ⟨by omega, hnx hb⟩ (by omega) ?_
      refine le_tok2 (by decide) ?_ ?_ ?_ ?_ <;> simp [LX, I, B, D, hwr]
    · rw [hb] at cc
      try simp only [I, B, D, RY, ↓ KW, Nat.reduceBEq, Nat.reduceAdd, Nat.reduceLeDiff, Int.reduceNe, Int.reduceBEq, Int.reduceEq, reduceCtorEq, Nat.reduceMul, Int.reduceLT, Int.reduceLE, Int.reduceToNat, h2, a_rows, hra, hpp, intRow, List.length_map, hx, hpart, hw]
      refine ⟨by omega, ?_⟩
      refine call_is cc ?_
      try simp only [I, B, D, RY, ↓ KW, Nat.reduceBEq, Nat.reduceAdd, Nat.reduceLeDiff, Int.reduceNe, Int.reduceBEq, Int.reduceEq, reduceCtorEq, Nat.reduceMul, Int.reduceLT, Int.reduceLE, Int.reduceToNat, fltC, setCells]
      rw [hgo hb, fo_ne (by decide)] at hRR
      rw [hRR]
      try rfl
  have e8 : k = (setN on).length := by have := of_decide_eq_false h2; omega
  subst e8
  rw [List.take_length] at hno
  rw [firstS_none hno, fo_zero] at hRR
  try simp only [I, B, D, RY, ↓ KW, Nat.reduceBEq, Nat.reduceAdd, Nat.reduceLeDiff, Int.reduceNe, Int.reduceBEq, Int.reduceEq, reduceCtorEq, Nat.reduceMul, Int.reduceLT, Int.reduceLE, Int.reduceToNat, h2, hw]
  refine call_is cR ?_
  rcases ringE_code t on with hre | hre
  rotate_left
  · have h8ne : ((ringE t on).1 != 0) = true := by rw [hre]; rfl
    try simp only [I, B, D, RY, ↓ KW, Nat.reduceBEq, Nat.reduceAdd, Nat.reduceLeDiff, Int.reduceNe, Int.reduceBEq, Int.reduceEq, reduceCtorEq, Nat.reduceMul, Int.reduceLT, Int.reduceLE, Int.reduceToNat, fltC, setCells, h8ne]
    have : (ringE t on).1 ≠ 0 := by rw [hre]; decide
    have e : ringE t on = ((ringE t on).1, (ringE t on).2) := rfl
    rw [e, fo_ne this] at hRR
    rw [hRR]
    try rfl
  rw [hre] at cR ⊢
  rw [hre, fo_zero] at hRR
  have hz : ((0 : Int) != 0) = false := rfl
  try simp only [I, B, D, RY, ↓ KW, Nat.reduceBEq, Nat.reduceAdd, Nat.reduceLeDiff, Int.reduceNe, Int.reduceBEq, Int.reduceEq, reduceCtorEq, Nat.reduceMul, Int.reduceLT, Int.reduceLE, Int.reduceToNat, fltC, setCells, hz]
  refine call_is hLs ?_
  try simp only [I, B, D, RY, ↓ KW, Nat.reduceBEq, Nat.reduceAdd, Nat.reduceLeDiff, Int.reduceNe, Int.reduceBEq, Int.reduceEq, reduceCtorEq, Nat.reduceMul, Int.reduceLT, Int.reduceLE, Int.reduceToNat, a_len, hra, List.length_map]
  clear back A
  refine aw_loop' (fun k : Nat => (⟨[(47, .dat (I k) none), (46, .dat (I ((setN on).length : Nat)) none), (45, .dat (slAV intRow (mkO (listS on))) none), (1, .ptr 4 0), (2, .ptr 5 0), (3, .dat (I on) none)], [(4, ⟨t.cells, []⟩), (5, ⟨[I 0, I 0], []⟩)], [], 500⟩ : S)) (fun k => (setN on).length - k) (fun k => k ≤ (setN on).length ∧ ((setN on).take k).any (confBad t on) = false) ?_ 0 (by simp) ?_
  rotate_left
  · refine le_tok2 (by decide) ?_ ?_ ?_ ?_ <;> simp [LX, I, B, D]
  rintro k ⟨hk, hno⟩ A back
  have hwr := wrap_succ (k := k) (by omega)
  try simp only [I, B, D, RY, ↓ KW, Nat.reduceBEq, Nat.reduceAdd, Nat.reduceLeDiff, Int.reduceNe, Int.reduceBEq, Int.reduceEq, reduceCtorEq, Nat.reduceMul, Int.reduceLT, Int.reduceLE, Int.reduceToNat]
  cases h2 : decide ((k : Int) < (((setN on).length : Nat) : Int))
  rotate_left
  · have hlt : k < (setN on).length := by have := of_decide_eq_true h2; omega
    obtain ⟨p, hp⟩ : ∃ x, (setN on)[k]? = some x := ⟨_, List.getElem?_eq_getElem hlt⟩
    have hpp := setN_at hp
    have hmem := List.mem_of_getElem? hp
    have h8 := setN_lt hmem
    have hx : 0 ≤ (p : Int) ∧ (p : Int) < (8 : Nat) := by omega
    have hgo := fun hb => firstS_go (code := 9) (w := confBad t on) hp hno hb
    have hnx := fun hb => set_any_next (w := confBad t on) hno hp hb
    have cc := hC t p on ht h8
    rw [conf_any hmem] at cc
    have hpart := trivial
    cases hb : confBad t on p
    · rw [hb] at cc
      try simp only [I, B, D, RY, ↓ KW, Nat.reduceBEq, Nat.reduceAdd, Nat.reduceLeDiff, Int.reduceNe, Int.reduceBEq, Int.reduceEq, reduceCtorEq, Nat.reduceMul, Int.reduceLT, Int.reduceLE, Int.reduceToNat, h2, a_rows, hra, hpp, intRow, List.length_map, hx, hpart, hw]
      refine ⟨by omega, ?_⟩
      refine call_is cc ?_
      try simp only [I, B, D, RY, ↓ KW, Nat.reduceBEq, Nat.reduceAdd, Nat.reduceLeDiff, Int.reduceNe, Int.reduceBEq, Int.reduceEq, reduceCtorEq, Nat.reduceMul, Int.reduceLT, Int.reduceLE, Int.reduceToNat]
      refine back (k + 1) _ ⟨by omega, hnx hb⟩ (by omega) ?_
      refine le_tok2 (by decide) ?_ ?_ ?_ ?_ <;> simp [LX, I, B, D, hwr]
    · rw [hb] at cc
      try simp only [I, B, D, RY, ↓ KW, Nat.reduceBEq, Nat.reduceAdd, Nat.reduceLeDiff, Int.reduceNe, Int.reduceBEq, Int.reduceEq, reduceCtorEq, Nat.reduceMul, Int.reduceLT, Int.reduceLE, Int.reduceToNat, h2, a_rows, hra, hpp, intRow, List.length_map, hx, hpart, hw]
      refine ⟨by omega, ?_⟩
      refine call_is cc ?_
      try simp only [I, B, D, RY, ↓ KW, Nat.reduceBEq, Nat.reduceAdd, Nat.reduceLeDiff, Int.reduceNe, Int.reduceBEq, Int.reduceEq, reduceCtorEq, Nat.reduceMul, Int.reduceLT, Int.reduceLE, Int.reduceToNat, fltC, setCells]
      rw [hgo hb, fo_ne (by decide)] at hRR
      rw [hRR]
      try rfl
  have e8 : k = (setN on).length := by have := of_decide_eq_false h2; omega
  subst e8
  rw [List.take_length] at hno
  rw [firstS_none hno, fo_zero] at hRR
  have hself : ∀ p ∈ setN on, tb (conAt t p) p = false := by
    intro p hp
    have := List.any_eq_false.1 hno p hp
    rw [Bool.not_eq_true, confBad, Bool.or_eq_false_iff] at this
    exact this.1
  try simp only [I, B, D, RY, ↓ KW, Nat.reduceBEq, Nat.reduceAdd, Nat.reduceLeDiff, Int.reduceNe, Int.reduceBEq, Int.reduceEq, reduceCtorEq, Nat.reduceMul, Int.reduceLT, Int.reduceLE, Int.reduceToNat, h2]
  clear back A
  refine aw_loop' (fun k : Nat => (⟨[(9, .dat (I k) none), (1, .ptr 4 0), (3, .dat (I on) none), (2, .ptr 5 0)], [(4, ⟨t.cells, []⟩), (5, ⟨[I 0, I 0], []⟩)], [], 600⟩ : S)) (fun k => (t.detectors.getD []).length - k) (fun k => k ≤ (t.detectors.getD []).length ∧ ∀ i, i < k → (fun k => detBad on (dtAt t k)) i = false) ?_ 0 (by simp) ?_
  rotate_left
  · refine le_tok2 (by decide) ?_ ?_ ?_ ?_ <;> simp [LX, I, B, D]
  rintro k ⟨hk, hno⟩ A back
  have hwr := wrap_succ (k := k) (by omega)
  try simp only [I, B, D, RY, ↓ KW, Nat.reduceBEq, Nat.reduceAdd, Nat.reduceLeDiff, Int.reduceNe, Int.reduceBEq, Int.reduceEq, reduceCtorEq, Nat.reduceMul, Int.reduceLT, Int.reduceLE, Int.reduceToNat, p2, a_len]
  cases h2 : decide ((k : Int) < (((t.detectors.getD []).length : Nat) : Int))
  rotate_left
  · have hlt : k < (t.detectors.getD []).length := by have := of_decide_eq_true h2; omega
    obtain ⟨d, hd⟩ : ∃ x, (t.detectors.getD [])[k]? = some x := ⟨_, List.getElem?_eq_getElem hlt⟩
    have hmem := List.mem_of_getElem? hd
    have hat : dtAt t k = d := by rw [dtAt, List.getD_eq_getElem?_getD, hd]; rfl
    have hgo := fun hb => first_go (w := (fun k => detBad on (dtAt t k))) hlt hno hb 10
    have hnx : (fun k => detBad on (dtAt t k)) k = false → ∀ i, i < k + 1 → (fun k => detBad on (dtAt t k)) i = false := fun hb i hi => by
      by_cases e : i = k
      · subst e; exact hb
      · exact hno i (by omega)
    simp only [hat] at hgo hnx
    have hdm := det_may (on := on) (mD d hmem)
    have cc := hH on d.phase
    obtain ⟨b1, hb1⟩ : ∃ b, gtF d.off d.on = b := ⟨_, rfl⟩
    rw [hb1] at hdm
    generalize hasR on d.phase = b2 at *
    have hpart : partA (Det.cells d) 0 (some 7) = some (.agg (Det.cells d)) := rfl
    have hdl : (Det.cells d).length = 7 := rfl
    have hset : ∀ c : List AV, c.length = 7 → setCells c 0 (Det.cells d) = Det.cells d := fun c h => set_all (by rw [h]; rfl)
    have q0 : (Det.cells d)[0]? = some (AV.int .i64 d.phase) := rfl
    have q1 : (Det.cells d)[1]? = some (AV.float .f64 d.on) := rfl
    have q2 : (Det.cells d)[2]? = some (AV.float .f64 d.off) := rfl
    try simp only [I, B, D, RY, ↓ KW, Nat.reduceBEq, Nat.reduceAdd, Nat.reduceLeDiff, Int.reduceNe, Int.reduceBEq, Int.reduceEq, reduceCtorEq, Nat.reduceMul, Int.reduceLT, Int.reduceLE, Int.reduceToNat, h2, p2, a_rows, hd, hpart, hdl, hset, q0, q1, q2, FLW, hb1]
    refine ⟨by omega, ?_⟩
    try simp only [I, B, D, RY, ↓ KW, Nat.reduceBEq, Nat.reduceAdd, Nat.reduceLeDiff, Int.reduceNe, Int.reduceBEq, Int.reduceEq, reduceCtorEq, Nat.reduceMul, Int.reduceLT, Int.reduceLE, Int.reduceToNat, hdl, hset, q0, q1, q2, FLW, hb1]
    cases b1
    · try simp only [I, B, D, RY, ↓ KW, Nat.reduceBEq, Nat.reduceAdd, Nat.reduceLeDiff, Int.reduceNe, Int.reduceBEq, Int.reduceEq, reduceCtorEq, Nat.reduceMul, Int.reduceLT, Int.reduceLE, Int.reduceToNat, hdl, hset, q0, q1, q2, FLW, hb1]
      refine call_is cc ?_
      cases b2
      · try simp only [I, B, D, RY, ↓ KW, Nat.reduceBEq, Nat.reduceAdd, Nat.reduceLeDiff, Int.reduceNe, Int.reduceBEq, Int.reduceEq, reduceCtorEq, Nat.reduceMul, Int.reduceLT, Int.reduceLE, Int.reduceToNat, fltC, setCells]
        rw [hgo (by rw [← hdm]; rfl), fo_ne (by decide)] at hRR
        rw [hRR]
        try rfl
      · try simp only [I, B, D, RY, ↓ KW, Nat.reduceBEq, Nat.reduceAdd, Nat.reduceLeDiff, Int.reduceNe, Int.reduceBEq, Int.reduceEq, reduceCtorEq, Nat.reduceMul, Int.reduceLT, Int.reduceLE, Int.reduceToNat]
        refine back (k + 1) _ ⟨by omega, fun i hi => hnx (by rw [← hdm]; rfl) i hi⟩ (by omega) ?_
        refine le_tok2 (by decide) ?_ ?_ ?_ ?_ <;> simp [LX, I, B, D, hwr]
    · try simp only [I, B, D, RY, ↓ KW, Nat.reduceBEq, Nat.reduceAdd, Nat.reduceLeDiff, Int.reduceNe, Int.reduceBEq, Int.reduceEq, reduceCtorEq, Nat.reduceMul, Int.reduceLT, Int.reduceLE, Int.reduceToNat, fltC, setCells, hb1]
      rw [hgo (by rw [← hdm]; rfl), fo_ne (by decide)] at hRR
      rw [hRR]
      try rfl
  have e8 : k = (t.detectors.getD []).length := by have := of_decide_eq_false h2; omega
  subst e8
  rw [first_none hno, fo_zero] at hRR
  try simp only [I, B, D, RY, ↓ KW, Nat.reduceBEq, Nat.reduceAdd, Nat.reduceLeDiff, Int.reduceNe, Int.reduceBEq, Int.reduceEq, reduceCtorEq, Nat.reduceMul, Int.reduceLT, Int.reduceLE, Int.reduceToNat, h2]
  clear back A
  refine aw_loop' (fun k : Nat => (⟨[(11, .dat (I k) none), (1, .ptr 4 0), (3, .dat (I on) none), (2, .ptr 5 0)], [(4, ⟨t.cells, []⟩), (5, ⟨[I 0, I 0], []⟩)], [], 700⟩ : S)) (fun k => (t.rails.getD []).length - k) (fun k => k ≤ (t.rails.getD []).length ∧ ∀ i, i < k → (fun k => railBad t on (rlN t k)) i = false) ?_ 0 (by simp) ?_
  rotate_left
  · refine le_tok2 (by decide) ?_ ?_ ?_ ?_ <;> simp [LX, I, B, D]
  rintro k ⟨hk, hno⟩ A back
  have hwr := wrap_succ (k := k) (by omega)
  try simp only [I, B, D, RY, ↓ KW, Nat.reduceBEq, Nat.reduceAdd, Nat.reduceLeDiff, Int.reduceNe, Int.reduceBEq, Int.reduceEq, reduceCtorEq, Nat.reduceMul, Int.reduceLT, Int.reduceLE, Int.reduceToNat, p3, a_len]
  cases h2 : decide ((k : Int) < (((t.rails.getD []).length : Nat) : Int))
  rotate_left
  · have hlt : k < (t.rails.getD []).length := by have := of_decide_eq_true h2; omega
    obtain ⟨d, hd⟩ : ∃ x, (t.rails.getD [])[k]? = some x := ⟨_, List.getElem?_eq_getElem hlt⟩
    have hmem := List.mem_of_getElem? hd
    have hat : rlN t k = d := by rw [rlN, List.getD_eq_getElem?_getD, hd]; rfl
    have hgo := fun hb => first_go (w := (fun k => railBad t on (rlN t k))) hlt hno hb 11
    have hnx : (fun k => railBad t on (rlN t k)) k = false → ∀ i, i < k + 1 → (fun k => railBad t on (rlN t k)) i = false := fun hb i hi => by
      by_cases e : i = k
      · subst e; exact hb
      · exact hno i (by omega)
    simp only [hat] at hgo hnx
    have cc := hK t d on ht
    rw [rail_may (mR d hmem) hself] at cc
    have hpart : partA (Rl.cells d) 0 (some 11) = some (.agg (Rl.cells d)) := rfl
    have hdl : (Rl.cells d).length = 11 := rfl
    try simp only [I, B, D, RY, ↓ KW, Nat.reduceBEq, Nat.reduceAdd, Nat.reduceLeDiff, Int.reduceNe, Int.reduceBEq, Int.reduceEq, reduceCtorEq, Nat.reduceMul, Int.reduceLT, Int.reduceLE, Int.reduceToNat, h2, hw, p3, a_rows, hd, hpart, hdl]
    refine ⟨by omega, ?_⟩
    refine call_is cc ?_
    cases hb : railBad t on d
    · try simp only [I, B, D, RY, ↓ KW, Nat.reduceBEq, Nat.reduceAdd, Nat.reduceLeDiff, Int.reduceNe, Int.reduceBEq, Int.reduceEq, reduceCtorEq, Nat.reduceMul, Int.reduceLT, Int.reduceLE, Int.reduceToNat]
      refine back (k + 1) _ ⟨by omega, fun i hi => hnx hb i hi⟩ (by omega) ?_
      refine le_tok2 (by decide) ?_ ?_ ?_ ?_ <;> simp [LX, I, B, D, hwr]
    · try simp only [I, B, D, RY, ↓ KW, Nat.reduceBEq, Nat.reduceAdd, Nat.reduceLeDiff, Int.reduceNe, Int.reduceBEq, Int.reduceEq, reduceCtorEq, Nat.reduceMul, Int.reduceLT, Int.reduceLE, Int.reduceToNat, fltC, setCells]
      rw [hgo hb, fo_ne (by decide)] at hRR
      rw [hRR]
      try rfl
  have e8 : k = (t.rails.getD []).length := by have := of_decide_eq_false h2; omega
  subst e8
  rw [first_none hno, fo_zero] at hRR
  try simp only [I, B, D, RY, ↓ KW, Nat.reduceBEq, Nat.reduceAdd, Nat.reduceLeDiff, Int.reduceNe, Int.reduceBEq, Int.reduceEq, reduceCtorEq, Nat.reduceMul, Int.reduceLT, Int.reduceLE, Int.reduceToNat, h2]
  clear back A
  refine aw_loop' (fun k : Nat => (⟨[(12, .dat (I k) none), (1, .ptr 4 0), (3, .dat (I on) none), (2, .ptr 5 0)], [(4, ⟨t.cells, []⟩), (5, ⟨[I 0, I 0], []⟩)], [], 800⟩ : S)) (fun k => (t.buses.getD []).length - k) (fun k => k ≤ (t.buses.getD []).length ∧ ∀ i, i < k → (fun k => busBad on (bsN t k)) i = false) ?_ 0 (by simp) ?_
  rotate_left
  · refine le_tok2 (by decide) ?_ ?_ ?_ ?_ <;> simp [LX, I, B, D]
  rintro k ⟨hk, hno⟩ A back
  have hwr := wrap_succ (k := k) (by omega)
  try simp only [I, B, D, RY, ↓ KW, Nat.reduceBEq, Nat.reduceAdd, Nat.reduceLeDiff, Int.reduceNe, Int.reduceBEq, Int.reduceEq, reduceCtorEq, Nat.reduceMul, Int.reduceLT, Int.reduceLE, Int.reduceToNat, p4, a_len]
  cases h2 : decide ((k : Int) < (((t.buses.getD []).length : Nat) : Int))
  rotate_left
  · have hlt : k < (t.buses.getD []).length := by have := of_decide_eq_true h2; omega
    obtain ⟨d, hd⟩ : ∃ x, (t.buses.getD [])[k]? = some x := ⟨_, List.getElem?_eq_getElem hlt⟩
    have hmem := List.mem_of_getElem? hd
    have hat : bsN t k = d := by rw [bsN, List.getD_eq_getElem?_getD, hd]; rfl
    have hgo := fun hb => first_go (w := (fun k => busBad on (bsN t k))) hlt hno hb 12
    have hnx : (fun k => busBad on (bsN t k)) k = false → ∀ i, i < k + 1 → (fun k => busBad on (bsN t k)) i = false := fun hb i hi => by
      by_cases e : i = k
      · subst e; exact hb
      · exact hno i (by omega)
    simp only [hat] at hgo hnx
    have hdm := bus_may (on := on) (mB d hmem)
    have cc := hI d.set on
    generalize inB d.set on = b2 at *
    generalize hb1 : (d.set == 0) = b1 at *
    generalize hb3 : decide (d.lock < 1) = b3 at *
    have hpart : partA (Bs.cells d) 0 (some 2) = some (.agg (Bs.cells d)) := rfl
    have hdl : (Bs.cells d).length = 2 := rfl
    have hset : ∀ c : List AV, c.length = 2 → setCells c 0 (Bs.cells d) = Bs.cells d := fun c h => set_all (by rw [h]; rfl)
    have q0 : (Bs.cells d)[0]? = some (AV.int .i64 d.set) := rfl
    have q1 : (Bs.cells d)[1]? = some (AV.int .i64 d.lock) := rfl
    try simp only [I, B, D, RY, ↓ KW, Nat.reduceBEq, Nat.reduceAdd, Nat.reduceLeDiff, Int.reduceNe, Int.reduceBEq, Int.reduceEq, reduceCtorEq, Nat.reduceMul, Int.reduceLT, Int.reduceLE, Int.reduceToNat, h2, p4, a_rows, hd, hpart, hdl, hset, q0, q1, hb1]
    refine ⟨by omega, ?_⟩
    try simp only [I, B, D, RY, ↓ KW, Nat.reduceBEq, Nat.reduceAdd, Nat.reduceLeDiff, Int.reduceNe, Int.reduceBEq, Int.reduceEq, reduceCtorEq, Nat.reduceMul, Int.reduceLT, Int.reduceLE, Int.reduceToNat, hdl, hset, q0, q1, hb1]
    cases b1
    · try simp only [I, B, D, RY, ↓ KW, Nat.reduceBEq, Nat.reduceAdd, Nat.reduceLeDiff, Int.reduceNe, Int.reduceBEq, Int.reduceEq, reduceCtorEq, Nat.reduceMul, Int.reduceLT, Int.reduceLE, Int.reduceToNat, hdl, hset, q0, q1]
      refine call_is cc ?_
      cases b2
      · try simp only [I, B, D, RY, ↓ KW, Nat.reduceBEq, Nat.reduceAdd, Nat.reduceLeDiff, Int.reduceNe, Int.reduceBEq, Int.reduceEq, reduceCtorEq, Nat.reduceMul, Int.reduceLT, Int.reduceLE, Int.reduceToNat, fltC, setCells]
        rw [hgo (by rw [← hdm]; rfl), fo_ne (by decide)] at hRR
        rw [hRR]
        try rfl
      · try simp only [I, B, D, RY, ↓ KW, Nat.reduceBEq, Nat.reduceAdd, Nat.reduceLeDiff, Int.reduceNe, Int.reduceBEq, Int.reduceEq, reduceCtorEq, Nat.reduceMul, Int.reduceLT, Int.reduceLE, Int.reduceToNat, hset, hdl, q0, q1, hb3]
        cases b3
        · try simp only [I, B, D, RY, ↓ KW, Nat.reduceBEq, Nat.reduceAdd, Nat.reduceLeDiff, Int.reduceNe, Int.reduceBEq, Int.reduceEq, reduceCtorEq, Nat.reduceMul, Int.reduceLT, Int.reduceLE, Int.reduceToNat, hb3]
          refine back (k + 1) _ ⟨by omega, fun i hi => hnx (by rw [← hdm]; rfl) i hi⟩ (by omega) ?_
          refine le_tok2 (by decide) ?_ ?_ ?_ ?_ <;> simp [LX, I, B, D, hwr]
        · try simp only [I, B, D, RY, ↓ KW, Nat.reduceBEq, Nat.reduceAdd, Nat.reduceLeDiff, Int.reduceNe, Int.reduceBEq, Int.reduceEq, reduceCtorEq, Nat.reduceMul, Int.reduceLT, Int.reduceLE, Int.reduceToNat, fltC, setCells, hb3]
          rw [hgo (by rw [← hdm]; rfl), fo_ne (by decide)] at hRR
          rw [hRR]
          try rfl
    · try simp only [I, B, D, RY, ↓ KW, Nat.reduceBEq, Nat.reduceAdd, Nat.reduceLeDiff, Int.reduceNe, Int.reduceBEq, Int.reduceEq, reduceCtorEq, Nat.reduceMul, Int.reduceLT, Int.reduceLE, Int.reduceToNat, fltC, setCells, hb1]
      rw [hgo (by rw [← hdm]; rfl), fo_ne (by decide)] at hRR
      rw [hRR]
      try rfl
  have e8 : k = (t.buses.getD []).length := by have := of_decide_eq_false h2; omega
  subst e8
  rw [first_none hno, fo_zero] at hRR
  try simp only [I, B, D, RY, ↓ KW, Nat.reduceBEq, Nat.reduceAdd, Nat.reduceLeDiff, Int.reduceNe, Int.reduceBEq, Int.reduceEq, reduceCtorEq, Nat.reduceMul, Int.reduceLT, Int.reduceLE, Int.reduceToNat, h2]
  refine call_is hLs ?_
  try simp only [I, B, D, RY, ↓ KW, Nat.reduceBEq, Nat.reduceAdd, Nat.reduceLeDiff, Int.reduceNe, Int.reduceBEq, Int.reduceEq, reduceCtorEq, Nat.reduceMul, Int.reduceLT, Int.reduceLE, Int.reduceToNat, a_len, hra, List.length_map]
  clear back A
  refine aw_loop' (fun k : Nat => (⟨[(135, .dat (I k) none), (134, .dat (I ((setN on).length : Nat)) none), (133, .dat (slAV intRow (mkO (listS on))) none), (1, .ptr 4 0), (2, .ptr 5 0), (3, .dat (I on) none)], [(4, ⟨t.cells, []⟩), (5, ⟨[I 0, I 0], []⟩)], [], 900⟩ : S)) (fun k => (setN on).length - k) (fun k => k ≤ (setN on).length ∧ ((setN on).take k).any (flBad t on) = false) ?_ 0 (by simp) ?_
  rotate_left
  · refine le_tok2 (by decide) ?_ ?_ ?_ ?_ <;> simp [LX, I, B, D]
  rintro k ⟨hk, hno⟩ A back
  have hwr := wrap_succ (k := k) (by omega)
  try simp only [I, B, D, RY, ↓ KW, Nat.reduceBEq, Nat.reduceAdd, Nat.reduceLeDiff, Int.reduceNe, Int.reduceBEq, Int.reduceEq, reduceCtorEq, Nat.reduceMul, Int.reduceLT, Int.reduceLE, Int.reduceToNat]
  cases h2 : decide ((k : Int) < (((setN on).length : Nat) : Int))
  rotate_left
  · have hlt : k < (setN on).length := by have := of_decide_eq_true h2; omega
    obtain ⟨p, hp⟩ : ∃ x, (setN on)[k]? = some x := ⟨_, List.getElem?_eq_getElem hlt⟩
    have hpp := setN_at hp
    have hmem := List.mem_of_getElem? hp
    have h8 := setN_lt hmem
    have hx : 0 ≤ (p : Int) ∧ (p : Int) < (8 : Nat) := by omega
    have hgo := fun hb => firstS_go (code := 13) (w := flBad t on) hp hno hb
    have hnx := fun hb => set_any_next (w := flBad t on) hno hp hb
    have cc := hF t p on h h8
    rw [fl_any hmem (hself p hmem)] at cc
    have hpart := trivial
    cases hb : flBad t on p
    · rw [hb] at cc
      try simp only [I, B, D, RY, ↓ KW, Nat.reduceBEq, Nat.reduceAdd, Nat.reduceLeDiff, Int.reduceNe, Int.reduceBEq, Int.reduceEq, reduceCtorEq, Nat.reduceMul, Int.reduceLT, Int.reduceLE, Int.reduceToNat, h2, a_rows, hra, hpp, intRow, List.length_map, hx, hpart, hw]
      refine ⟨by omega, ?_⟩
      refine call_is cc ?_
      try simp only [I, B, D, RY, ↓ KW, Nat.reduceBEq, Nat.reduceAdd, Nat.reduceLeDiff, Int.reduceNe, Int.reduceBEq, Int.reduceEq, reduceCtorEq, Nat.reduceMul, Int.reduceLT, Int.reduceLE, Int.reduceToNat]
      refine back (k + 1) _ ⟨by omega, hnx hb⟩ (by omega) ?_
      refine le_tok2 (by decide) ?_ ?_ ?_ ?_ <;> simp [LX, I, B, D, hwr]
    · rw [hb] at cc
      try simp only [I, B, D, RY, ↓ KW, Nat.reduceBEq, Nat.reduceAdd, Nat.reduceLeDiff, Int.reduceNe, Int.reduceBEq, Int.reduceEq, reduceCtorEq, Nat.reduceMul, Int.reduceLT, Int.reduceLE, Int.reduceToNat, h2, a_rows, hra, hpp, intRow, List.length_map, hx, hpart, hw]
      refine ⟨by omega, ?_⟩
      refine call_is cc ?_
      try simp only [I, B, D, RY, ↓ KW, Nat.reduceBEq, Nat.reduceAdd, Nat.reduceLeDiff, Int.reduceNe, Int.reduceBEq, Int.reduceEq, reduceCtorEq, Nat.reduceMul, Int.reduceLT, Int.reduceLE, Int.reduceToNat, fltC, setCells]
      rw [hgo hb, fo_ne (by decide)] at hRR
      rw [hRR]
      try rfl
  have e8 : k = (setN on).length := by have := of_decide_eq_false h2; omega
  subst e8
  rw [List.take_length] at hno
  rw [firstS_none hno, fo_zero] at hRR
  try simp only [I, B, D, RY, ↓ KW, Nat.reduceBEq, Nat.reduceAdd, Nat.reduceLeDiff, Int.reduceNe, Int.reduceBEq, Int.reduceEq, reduceCtorEq, Nat.reduceMul, Int.reduceLT, Int.reduceLE, Int.reduceToNat, h2, fltC, setCells]
  rw [hRR]
  try rfl
end
end Go.Eng
namespace Go.Eng
set_option linter.unusedVariables false
set_option linter.unusedSimpArgs false
set_option linter.unnecessarySimpa false
open Go
section
open Z
set_option linter.unusedVariables false
def z12_71526 : List AV := [.int .i64 0,.int .i64 0,.int .i64 0,.int .i64 0,.int .i64 0,.int .i64 0,.int .i64 0,.int .i64 0,.int .i64 0,.int .i64 0,.int .i64 0,.int .i64 0]
def cc_law10_BoundGood (g0 g1 g2 g3 g4 : Nat) : CFn := ⟨101,[.tmp 8],r [V 8 (F)] (r [M 22 0,o 23 (.call g0 [t 22]),o 9 (.alloc z131_45020),n (s 9 23 131)] (r [o 25 (L 9 131),o 26 (.call g1 [t 25]),M 24 26,o 27 (e 24 0),o 28 (e 24 1),o 10 (.alloc z12_71526),o 11 (.alloc [i 0,i 0]),n (s 10 27 12),n (s 11 28 2)] (r [o 30 (L 9 131),o 31 (.call g2 [t 30]),M 29 31,o 32 (e 29 0),o 33 (e 29 1),o 12 (.alloc z12_71526),o 13 (.alloc [i 0,i 0]),n (s 12 32 12),n (s 13 33 2)] (j (r [o 34 (f 11 0),o 35 (l 34),o 36 (bb .neq 35 (i 0)),M 37 36,q 38 (L 10 12) 37,q 39 (L 12 12) 37,q 40 (.eqc [.i,.i,.i,.i,.i,.i,.i,.i,.i,.i,.i,.i] true (t 38) (t 39)) 37,o 41 (Q 37 40)] (c 41 (r [V 8 (F)] y) z)) (r [o 42 (L 9 131),o 14 (.alloc z131_45020),n (s 14 42 131)] (r [o 43 (f 9 129),o 44 (l 43),o 45 (bb .sub 44 (i 1)),o 46 (f 14 129),n (s 46 45 1)] (r [o 48 (L 14 131),o 49 (.call g1 [t 48]),M 47 49,o 50 (e 47 0),o 51 (e 47 1),o 15 (.alloc z12_71526),o 16 (.alloc [i 0,i 0]),n (s 15 50 12),n (s 16 51 2)] (j (r [o 52 (f 9 114),o 53 (l 52),o 54 (h 53),o 55 (bb .gtr 54 (i 0)),M 56 55,p 57 (f 16 0) 56,p 58 (l 57) 56,p 59 (bb .neq 58 (i 15)) 56,o 60 (P 56 59)] (c 60 (r [V 8 (F)] y) z)) (r [o 61 (L 9 131),n (s 14 61 131)] (r [M 62 1,o 63 (bb .and 62 (i 2147483647)),o 64 (f 14 130),n (s 64 63 1)] (r [o 65 (f 14 129),n (ss 65 (i 2147483647) 1)] (r [M 66 3,o 67 (.call g3 [t 66,k (i 8)]),M 17 67] (r [M 68 17,M 69 17,o 70 (f 14 0),o 71 (A 70 69 8 13),o 72 (f 71 3),o 73 (l 72),M 74 2,o 75 (.call g3 [t 74,k (i 10000)]),o 76 (.mm true [t 73,t 75]),o 77 (f 14 0),o 78 (A 77 68 8 13),o 79 (f 78 4),n (s 79 76 1)] (r [o 81 (L 14 131),o 82 (.call g1 [t 81]),M 80 82,o 83 (e 80 0),o 84 (e 80 1),o 18 (.alloc z12_71526),o 19 (.alloc [i 0,i 0]),n (s 18 83 12),n (s 19 84 2)] (r [o 86 (L 14 131),o 87 (.call g2 [t 86]),M 85 87,o 88 (e 85 0),o 89 (e 85 1),o 20 (.alloc z12_71526),o 21 (.alloc [i 0,i 0]),n (s 20 88 12),n (s 21 89 2)] (r [o 90 (L 18 12),o 91 (L 20 12),o 92 (.eqc [.i,.i,.i,.i,.i,.i,.i,.i,.i,.i,.i,.i] false (t 90) (t 91)),M 93 92,p 94 (L 19 2) 93,p 95 (L 21 2) 93,p 96 (.eqc [.i,.i] false (t 94) (t 95)) 93,o 97 (P 93 96),M 98 97,p 99 (.call g4 []) 98,o 100 (P 98 99),M 8 100] y))))))))))))))))⟩
def cc_law10_BoundSerial (g0 g1 g2 g3 g4 g5 g6 g7 : Nat) : CFn := ⟨118,[.tmp 6],r [V 6 (F)] (r [M 18 0,o 19 (.call g0 [t 18]),o 7 (.alloc z131_45020),n (s 7 19 131)] (r [M 20 1,o 21 (.call g1 [t 20,k (i 8)]),M 8 21] (r [M 22 2,o 23 (.call g1 [t 22,k (i 8)]),M 9 23] (j (r [M 24 8,o 25 (f 7 0),o 26 (A 25 24 8 13),o 27 (f 26 0),o 28 (l 27),o 29 (.un .not (t 28)),M 30 29,q 31 (m 9) 30,q 32 (f 7 0) 30,q 33 (A 32 31 8 13) 30,q 34 (f 33 0) 30,q 35 (l 34) 30,q 36 (.un .not (t 35)) 30,o 37 (Q 30 36)] (c 37 (r [o 38 (L 7 131),o 39 (.call g2 [t 38,k (i 8)]),o 40 (bb .eql 39 (i 0)),M 41 40,p 42 (.call g3 []) 41,o 43 (P 41 42),M 6 43] y) z)) (r [o 45 (L 7 131),M 46 8,o 47 (.call g4 [t 45,t 46]),M 44 47,o 48 (e 44 0),o 49 (e 44 1),o 10 (.alloc [i 0,i 0,i 0,i 0]),n (s 10 48 4),M 11 49] (r [o 51 (L 7 131),M 52 9,o 53 (.call g4 [t 51,t 52]),M 50 53,o 54 (e 50 0),o 55 (e 50 1),o 12 (.alloc [i 0,i 0,i 0,i 0]),n (s 12 54 4),M 13 55] (r [V 14 (i 0)] (j (r [V 15 (i 0)] (u 0 (.loop (j (r [M 56 15,o 57 (f 7 104),o 58 (l 57),o 59 (h 58),o 60 (b .lss 56 59)] (c 60 z (.exit 0))) (j (u 1 (R [M 63 14,o 64 (L 7 131),M 65 15,o 66 (.call g5 [t 64,t 65]),o 67 (b .add 63 66),M 14 67])) (R [M 61 15,o 62 (bb .add 61 (i 1)),M 15 62])))))) (r [o 68 (L 7 131),M 69 8,o 70 (.call g2 [t 68,t 69]),M 71 14,o 72 (L 7 131),o 73 (f 10 0),o 74 (l 73),o 75 (.call g5 [t 72,t 74]),o 76 (b .add 71 75),o 77 (b .eql 70 76),M 78 77,p 79 (L 7 131) 78,p 80 (m 8) 78,p 81 (.call g2 [t 79,t 80]) 78,p 82 (L 7 131) 78,p 83 (m 8) 78,p 84 (.call g6 [t 82,t 83]) 78,p 85 (.bin .mul (k (i 2)) (t 84)) 78,p 86 (b .geq 81 85) 78,o 87 (P 78 86),M 16 87] (r [o 88 (f 10 0),o 89 (l 88),o 90 (f 12 0),o 91 (l 90),o 92 (b .neq 89 91),M 93 92,q 94 (L 7 131) 93,q 95 (m 8) 93,q 96 (.call g7 [t 94,t 95]) 93,q 97 (L 7 131) 93,q 98 (m 9) 93,q 99 (.call g7 [t 97,t 98]) 93,q 100 (b .eql 96 99) 93,o 101 (Q 93 100),M 17 101] (r [M 102 16,M 103 102,p 104 (m 17) 103,o 105 (P 103 104),M 106 105,p 107 (L 7 131) 106,p 108 (m 8) 106,p 109 (.call g7 [t 107,t 108]) 106,p 110 (L 7 131) 106,p 111 (m 8) 106,p 112 (.call g2 [t 110,t 111]) 106,p 113 (b .geq 109 112) 106,o 114 (P 106 113),M 115 114,p 116 (.call g3 []) 115,o 117 (P 115 116),M 6 117] y)))))))))))⟩
def cc_law10_BoundMore (g0 g1 g2 g3 g4 g5 g6 : Nat) : CFn := ⟨77,[.tmp 8],r [V 8 (F)] (r [M 13 0,o 14 (.call g0 [t 13]),o 9 (.alloc z131_45020),n (s 9 14 131)] (r [o 15 (L 9 131),o 10 (.alloc z131_45020),n (s 10 15 131)] (r [M 16 1,o 17 (.call g1 [t 16,k (i 8)]),M 11 17] (r [M 18 11,M 19 11,o 20 (f 10 0),o 21 (A 20 19 8 13),o 22 (f 21 4),o 23 (l 22),M 24 2,o 25 (.call g1 [t 24,k (i 1000)]),o 26 (b .add 23 25),o 27 (f 10 0),o 28 (A 27 18 8 13),o 29 (f 28 4),n (s 29 26 1)] (r [M 30 11,M 31 11,o 32 (f 10 0),o 33 (A 32 31 8 13),o 34 (f 33 7),o 35 (l 34),M 36 3,o 37 (.call g1 [t 36,k (i 100)]),o 38 (b .add 35 37),o 39 (f 10 0),o 40 (A 39 30 8 13),o 41 (f 40 7),n (s 41 38 1)] (j (r [V 12 (i 0)] (u 0 (.loop (j (r [M 42 12,o 43 (bb .lss 42 (i 8))] (c 43 z (.exit 0))) (j (u 1 (r [o 46 (L 10 131),M 47 12,o 48 (.call g2 [t 46,t 47]),o 49 (L 9 131),M 50 12,o 51 (.call g2 [t 49,t 50]),o 52 (b .lss 48 51),M 53 52,q 54 (L 10 131) 53,q 55 (m 12) 53,q 56 (.call g3 [t 54,t 55]) 53,q 57 (L 9 131) 53,q 58 (m 12) 53,q 59 (.call g3 [t 57,t 58]) 53,q 60 (b .lss 56 59) 53,o 61 (Q 53 60)] (c 61 (r [V 8 (F)] y) z))) (R [M 44 12,o 45 (bb .add 44 (i 1)),M 12 45])))))) (r [o 62 (L 10 131),o 63 (.call g4 [t 62]),o 64 (L 9 131),o 65 (.call g4 [t 64]),o 66 (b .geq 63 65),M 67 66,p 68 (L 10 131) 67,p 69 (.call g5 [t 68,k (i 0)]) 67,p 70 (L 9 131) 67,p 71 (.call g5 [t 70,k (i 0)]) 67,p 72 (b .geq 69 71) 67,o 73 (P 67 72),M 74 73,p 75 (.call g6 []) 74,o 76 (P 74 75),M 8 76] y)))))))⟩
def cc_bound_All (g0 g1 g2 g3 g4 g5 g6 : Nat) : CFn := ⟨83,[.cell 2 (some 12),.cell 3 (some 2)],r [o 1 (w 0),o 2 (.alloc z12_71526),o 3 (.alloc [i 0,i 0])] (j (r [o 9 (L 1 131),o 10 (.call g0 [t 9]),o 4 (.alloc [i 0,i 0]),n (s 4 10 2)] (r [o 11 (f 4 0),o 12 (l 11),o 13 (bb .neq 12 (i 0))] (c 13 (r [o 14 (f 4 0),o 15 (l 14),o 16 (f 4 1),o 17 (l 16),o 18 (.call g1 [t 15,t 17]),o 19 (e 18 0),o 20 (e 18 1),n (s 2 19 12),n (s 3 20 2)] y) z))) (r [o 5 (.alloc z12_71526)] (r [o 6 (.alloc [i 0]),n (ss 6 (i 0) 1)] (j (r [o 21 (L 1 131),o 22 (.call g2 [t 21]),o 23 (.call g3 [t 22])] (u 0 (.rfor (t 23) [24] [24,7,25,26,27,28,29,30,31,32,33,34,35,36,37,38,39,40,41,42,43,44,45] (R [M 7 24]) (u 1 (r [M 25 7,o 26 (L 1 131),M 27 7,o 28 (.call g4 [t 26,t 27]),o 29 (f 5 0),o 30 (A 29 25 8 1),n (s 30 28 1)] (j (r [M 31 7,o 32 (f 5 0),o 33 (A 32 31 8 1),o 34 (l 33),o 35 (.call g5 [t 34])] (c 35 (r [M 36 7,o 37 (.call g1 [k (i 14),t 36]),o 38 (e 37 0),o 39 (e 37 1),n (s 2 38 12),n (s 3 39 2)] y) z)) (R [o 40 (l 6),M 41 7,o 42 (f 5 0),o 43 (A 42 41 8 1),o 44 (l 43),o 45 (.mm true [t 40,t 44]),n (s 6 45 1)]))))))) (j (r [o 46 (f 1 114),o 47 (l 46),o 48 (h 47),V 49 (i 0)] (u 2 (.loop (r [o 50 (b .lss 49 48)] (j (c 50 z (.exit 2)) (j (u 3 (r [M 51 49,M 8 51] (r [M 52 8,o 53 (L 1 131),M 54 8,o 55 (.call g6 [t 53,t 54]),o 56 (f 5 8),o 57 (A 56 52 4 1),n (s 57 55 1)] (r [M 58 8,o 59 (f 5 8),o 60 (A 59 58 4 1),o 61 (l 60),o 62 (.call g5 [t 61])] (c 62 (r [M 63 8,o 64 (.call g1 [k (i 14),t 63]),o 65 (e 64 0),o 66 (e 64 1),n (s 2 65 12),n (s 3 66 2)] y) z))))) (R [o 67 (bb .add 49 (i 1)),M 49 67]))))))) (j (r [o 68 (f 1 114),o 69 (l 68),o 70 (h 69),o 71 (bb .gtr 70 (i 0)),M 72 71,p 73 (f 1 129) 72,p 74 (l 73) 72,p 75 (l 6) 72,p 76 (b .lss 74 75) 72,o 77 (P 72 76)] (c 77 (r [o 78 (.call g1 [k (i 15),k (i 0)]),o 79 (e 78 0),o 80 (e 78 1),n (s 2 79 12),n (s 3 80 2)] y) z)) (r [o 81 (L 5 12),o 82 (.build [i 0,i 0] []),n (s 2 81 12),n (s 3 82 2)] y)))))))⟩
def cc_ref08_All (g0 g1 g2 g3 : Nat) : CFn := ⟨77,[.cell 2 (some 12),.cell 3 (some 2)],r [o 1 (w 0),o 2 (.alloc z12_71526),o 3 (.alloc [i 0,i 0])] (r [o 8 (L 1 131),o 9 (.call g0 [t 8]),o 4 (.alloc [i 0,i 0]),n (s 4 9 2)] (j (r [o 10 (f 4 0),o 11 (l 10),o 12 (bb .neq 11 (i 0))] (c 12 (.seq (.regD [o 13 (.build z12_71526 []),o 14 (L 4 2),n (s 2 13 12),n (s 3 14 2)] [(1,2)]) y) z)) (r [o 5 (.alloc z12_71526)] (j (r [V 6 (i 0)] (u 0 (.loop (j (r [M 15 6,o 16 (bb .lss 15 (i 8))] (c 16 z (.exit 0))) (j (u 1 (r [M 19 6,o 20 (L 1 131),M 21 6,o 22 (.call g1 [t 20,t 21]),o 23 (f 5 0),o 24 (A 23 19 8 1),n (s 24 22 1)] (r [M 25 6,o 26 (f 5 0),o 27 (A 26 25 8 1),o 28 (l 27),o 29 (bb .geq 28 (i 2147483647)),M 30 29,p 31 (m 6) 30,p 32 (f 1 0) 30,p 33 (A 32 31 8 13) 30,p 34 (f 33 0) 30,p 35 (l 34) 30,o 36 (P 30 35)] (c 36 (r [o 37 (.build z12_71526 []),M 38 6,o 39 (.build [i 0,i 0] [(0,1,k (i 14)),(1,1,t 38)]),n (s 2 37 12),n (s 3 39 2)] y) z)))) (R [M 17 6,o 18 (bb .add 17 (i 1)),M 6 18])))))) (j (r [V 7 (i 0)] (u 2 (.loop (j (r [M 40 7,o 41 (f 1 114),o 42 (l 41),o 43 (h 42),o 44 (b .lss 40 43)] (c 44 z (.exit 2))) (j (u 3 (r [M 47 7,o 48 (L 1 131),M 49 7,o 50 (.call g2 [t 48,t 49]),o 51 (f 5 8),o 52 (A 51 47 4 1),n (s 52 50 1)] (r [M 53 7,o 54 (f 5 8),o 55 (A 54 53 4 1),o 56 (l 55),o 57 (bb .geq 56 (i 2147483647))] (c 57 (r [o 58 (.build z12_71526 []),M 59 7,o 60 (.build [i 0,i 0] [(0,1,k (i 14)),(1,1,t 59)]),n (s 2 58 12),n (s 3 60 2)] y) z)))) (R [M 45 7,o 46 (bb .add 45 (i 1)),M 7 46])))))) (j (.seq (.regD [o 61 (f 1 114),o 62 (l 61),o 63 (h 62),o 64 (bb .gtr 63 (i 0)),M 65 64,p 66 (f 1 129) 65,p 67 (l 66) 65,p 68 (f 5 0) 65,p 69 (.slA (t 68) 8 1) 65,p 70 (.call g3 [t 69]) 65,p 71 (b .lss 67 70) 65,o 72 (P 65 71)] [(0,8),(1,8),(2,8),(5,8),(6,8),(8,11)]) (c 72 (r [o 73 (.build z12_71526 []),o 74 (.build [i 0,i 0] [(0,1,k (i 15))]),n (s 2 73 12),n (s 3 74 2)] y) z)) (r [o 75 (L 5 12),o 76 (.build [i 0,i 0] []),n (s 2 75 12),n (s 3 76 2)] y)))))))⟩
def cc_law10_awake (g0 g1 : Nat) : CFn := ⟨20,[.tmp 0],r [V 0 (F)] (r [o 1 (.alloc z131_45020)] (r [o 4 (.build z13_14216 [(0,1,k (T)),(1,1,k (i 5)),(3,1,k (i 20)),(4,1,k (i 20)),(6,1,k (i 10)),(7,1,k (i 2))]),o 5 (f 1 0),o 6 (.iaA (t 5) (k (i 0)) 8 13),n (s 6 4 13)] (r [o 8 (.build z131_45020 []),o 9 (.call g0 [t 8]),M 7 9,o 10 (e 7 0),o 11 (e 7 1),o 2 (.alloc z12_71526),o 3 (.alloc [i 0,i 0]),n (s 2 10 12),n (s 3 11 2)] (r [o 12 (L 1 131),o 13 (.call g1 [t 12,k (i 0)]),o 14 (bb .eql 13 (i 40)),M 15 14,p 16 (f 3 0) 15,p 17 (l 16) 15,p 18 (bb .eql 17 (i 8)) 15,o 19 (P 15 18),M 0 19] y))))⟩
def cc_bound_Free (g0 g1 g2 g3 g4 : Nat) : CFn := ⟨44,[.tmp 4],r [o 2 (w 0),V 4 (i 0)] (r [o 12 (L 2 131),M 13 1,o 14 (.call g0 [t 12,t 13]),M 11 14,o 15 (e 11 0),o 16 (e 11 1),o 17 (e 11 2),o 18 (e 11 3),M 5 15,M 6 16,M 7 17,M 8 18] (j (r [M 19 8,o 20 (.un .not (t 19)),M 21 20,q 22 (L 2 131) 21,q 23 (.call g1 [t 22]) 21,q 24 (m 1) 21,q 25 (.call g2 [t 23,t 24]) 21,q 26 (.un .not (t 25)) 21,o 27 (Q 21 26)] (c 27 (r [V 4 (i 0)] y) z)) (r [o 28 (L 2 131),M 29 5,o 30 (.call g3 [t 28,t 29]),M 9 30] (j (r [o 31 (f 2 104),o 32 (l 31),o 33 (h 32),V 34 (i 0)] (u 0 (.loop (r [o 35 (b .lss 34 33)] (j (c 35 z (.exit 0)) (j (u 1 (r [M 36 34,M 10 36] (R [M 37 9,o 38 (L 2 131),M 39 10,o 40 (.call g3 [t 38,t 39]),o 41 (.call g4 [t 37,t 40]),M 9 41]))) (R [o 42 (bb .add 34 (i 1)),M 34 42]))))))) (r [M 43 9,M 4 43] y)))))⟩
def cc_bound_Pass (g0 g1 : Nat) : CFn := ⟨41,[.tmp 4],r [o 2 (w 0),V 4 (i 0)] (j (r [M 10 1,o 11 (bb .lss 10 (i 0)),M 12 11,q 13 (m 1) 12,q 14 (f 2 104) 12,q 15 (l 14) 12,q 16 (h 15) 12,q 17 (b .geq 13 16) 12,o 18 (Q 12 17)] (c 18 (r [V 4 (i 0)] y) z)) (r [V 5 (i 8)] (j (r [o 19 (f 2 104),o 20 (l 19),M 21 1,o 22 (a 20 21 2),o 23 (L 22 2),V 24 (i 0)] (u 0 (.loop (r [o 25 (bb .lss 24 (i 2))] (j (c 25 z (.exit 0)) (j (u 1 (r [o 26 (.ixA (t 23) (t 24) 2 1 none),M 7 26] (r [M 27 7,o 28 (h 27),V 29 (i 0)] (u 2 (.loop (r [o 30 (b .lss 29 28)] (j (c 30 z (.exit 2)) (j (u 3 (r [o 31 (a 27 29 1),o 32 (l 31),M 9 32] (R [M 33 5,o 34 (L 2 131),M 35 9,o 36 (.call g0 [t 34,t 35]),o 37 (.call g1 [t 33,t 36]),M 5 37]))) (R [o 38 (bb .add 29 (i 1)),M 29 38]))))))))) (R [o 39 (bb .add 24 (i 1)),M 24 39]))))))) (r [M 40 5,M 4 40] y))))⟩
def cc_bound_Serve (g0 g1 g2 g3 g4 : Nat) : CFn := ⟨32,[.tmp 4],r [o 2 (w 0),V 4 (i 0)] (j (r [o 6 (L 2 131),o 7 (.call g0 [t 6]),M 8 1,o 9 (.call g1 [t 7,t 8]),o 10 (.un .not (t 9))] (c 10 (r [V 4 (i 0)] y) z)) (r [M 11 1,o 12 (f 2 0),o 13 (A 12 11 8 13),o 14 (L 13 13),o 5 (.alloc z13_14216),n (s 5 14 13)] (r [o 15 (f 5 1),o 16 (l 15),o 17 (L 5 13),o 18 (.call g2 [t 17]),o 19 (f 5 4),o 20 (l 19),o 21 (.mm true [t 16,t 18,t 20]),o 22 (f 2 116),o 23 (l 22),o 24 (f 5 6),o 25 (l 24),o 26 (f 5 7),o 27 (l 26),o 28 (f 2 119),o 29 (l 28),o 30 (.bsl g3 1 [t 21,t 23,t 25,t 27,t 29,k (i 8)]),o 31 (.call g4 [t 30]),M 4 31] y)))⟩
def cc_bound_Wait (g0 g1 g2 g3 g4 g5 : Nat) : CFn := ⟨30,[.tmp 4],r [o 2 (w 0),V 4 (i 0)] (r [o 6 (L 2 131),M 7 1,o 8 (.call g0 [t 6,t 7]),M 5 8] (j (r [M 9 5,o 10 (bb .eql 9 (i 0)),M 11 10,q 12 (f 2 114) 11,q 13 (l 12) 11,q 14 (h 13) 11,q 15 (bb .eql 14 (i 0)) 11,o 16 (Q 11 15)] (c 16 (r [M 17 5,M 4 17] y) z)) (r [o 18 (f 2 130),o 19 (l 18),o 20 (.call g1 [t 19,k (i 1)]),o 21 (L 2 131),o 22 (.call g2 [t 21]),M 23 5,o 24 (.bsl g3 1 [t 22,t 23,k (i 2)]),o 25 (.call g4 [t 24]),o 26 (.call g5 [t 20,t 25]),o 27 (f 2 130),o 28 (l 27),o 29 (.call g1 [t 26,t 28]),M 4 29] y)))⟩
def cc_bound_Entry (g0 g1 g2 g3 : Nat) : CFn := ⟨38,[.tmp 4],r [o 2 (w 0),V 4 (i 0)] (j (r [M 6 1,o 7 (bb .lss 6 (i 0)),M 8 7,q 9 (m 1) 8,q 10 (f 2 114) 8,q 11 (l 10) 8,q 12 (h 11) 8,q 13 (b .geq 9 12) 8,o 14 (Q 8 13)] (c 14 (r [V 4 (i 0)] y) z)) (r [o 15 (f 2 114),o 16 (l 15),M 17 1,o 18 (a 16 17 11),o 19 (L 18 11),o 5 (.alloc z11_58867),n (s 5 19 11)] (r [o 20 (f 5 4),o 21 (l 20),o 22 (f 5 7),o 23 (l 22),o 24 (f 5 5),o 25 (l 24),o 26 (.call g0 [k (i 2),t 25]),o 27 (f 5 6),o 28 (l 27),o 29 (.call g0 [k (i 3),t 28]),o 30 (L 2 131),o 31 (.call g1 [t 30]),o 32 (.call g0 [k (i 5),t 31]),o 33 (f 2 119),o 34 (l 33),o 35 (.call g0 [k (i 3),t 34]),o 36 (.bsl g2 1 [t 21,t 23,t 26,t 29,t 32,t 35,k (i 60)]),o 37 (.call g3 [t 36]),M 4 37] y)))⟩
def cc_bound_Over (g0 g1 g2 g3 g4 g5 g6 : Nat) : CFn := ⟨38,[.tmp 2],r [o 1 (w 0),V 2 (i 0)] (j (r [o 7 (f 1 114),o 8 (l 7),o 9 (h 8),o 10 (bb .eql 9 (i 0))] (c 10 (r [V 2 (i 0)] y) z)) (r [V 3 (i 0)] (j (r [o 11 (f 1 114),o 12 (l 11),o 13 (h 12),V 14 (i 0)] (u 0 (.loop (r [o 15 (b .lss 14 13)] (j (c 15 z (.exit 0)) (j (u 1 (r [M 16 14,o 17 (a 12 14 11),o 18 (L 17 11),o 5 (.alloc z11_58867),M 4 16,n (s 5 18 11)] (R [M 19 3,o 20 (L 1 131),M 21 4,o 22 (.call g0 [t 20,t 21]),o 23 (f 5 8),o 24 (l 23),o 25 (.call g1 [t 22,t 24]),o 26 (.mm true [t 19,t 25]),M 3 26]))) (R [o 27 (bb .add 14 (i 1)),M 14 27]))))))) (r [o 28 (L 1 131),o 29 (.call g2 [t 28,k (.fn (.func g3) [] [])]),M 6 29] (r [M 30 3,M 31 6,o 32 (L 1 131),o 33 (.call g4 [t 32]),o 34 (f 1 119),o 35 (l 34),o 36 (.bsl g5 1 [t 30,t 31,t 33,t 35,k (i 30)]),o 37 (.call g6 [t 36]),M 2 37] y)))))⟩
def cc_bound_bad : CFn := ⟨10,[.cell 4 (some 12),.cell 5 (some 2)],r [o 4 (.alloc z12_71526),o 5 (.alloc [i 0,i 0])] (r [o 6 (.build z12_71526 []),M 7 0,M 8 1,o 9 (.build [i 0,i 0] [(0,1,t 7),(1,1,t 8)]),n (s 4 6 12),n (s 5 9 2)] y)⟩
def cc_sat_Full : CFn := ⟨5,[.tmp 2],r [V 2 (F)] (r [M 3 0,o 4 (bb .geq 3 (i 2147483647)),M 2 4] y)⟩
def cc_sat_Add (g0 : Nat) : CFn := ⟨11,[.tmp 4],r [V 4 (i 0)] (r [M 5 0,o 6 (.call g0 [t 5]),M 7 1,o 8 (.call g0 [t 7]),o 9 (b .add 6 8),o 10 (.call g0 [t 9]),M 4 10] y)⟩
def cc_sat_Sum (g0 : Nat) : CFn := ⟨17,[.tmp 2],r [V 2 (i 0)] (r [V 3 (i 0)] (j (r [M 6 0,o 7 (h 6),V 8 (i 0)] (u 0 (.loop (r [o 9 (b .lss 8 7)] (j (c 9 z (.exit 0)) (j (u 1 (r [o 10 (a 6 8 1),o 11 (l 10),M 5 11] (R [M 12 3,M 13 5,o 14 (.call g0 [t 12,t 13]),M 3 14]))) (R [o 15 (bb .add 8 (i 1)),M 8 15]))))))) (r [M 16 3,M 2 16] y)))⟩
def cc_bound_feet (g0 : Nat) : CFn := ⟨8,[.tmp 2],r [o 1 (w 0),V 2 (i 0)] (r [o 3 (f 1 8),o 4 (l 3),o 5 (f 1 9),o 6 (l 5),o 7 (.call g0 [t 4,t 6]),M 2 7] y)⟩
def cc_sat_Mul (g0 : Nat) : CFn := ⟨11,[.tmp 4],r [V 4 (i 0)] (r [M 5 0,o 6 (.call g0 [t 5]),M 7 1,o 8 (.call g0 [t 7]),o 9 (b .mul 6 8),o 10 (.call g0 [t 9]),M 4 10] y)⟩
def cc_bound_clearance (g0 g1 : Nat) : CFn := ⟨5,[.tmp 2],r [o 1 (w 0),V 2 (i 0)] (r [o 3 (L 1 131),o 4 (.call g0 [t 3,k (.fn (.func g1) [] [])]),M 2 4] y)⟩
def cc_bound_greatest (g0 g1 g2 : Nat) : CFn := ⟨21,[.tmp 4],r [o 2 (w 0),o 3 (w 1),V 4 (i 0)] (r [o 5 (.alloc [i 0]),n (ss 5 (i 0) 1)] (j (r [o 7 (L 2 131),o 8 (.call g0 [t 7]),o 9 (.call g1 [t 8])] (u 0 (.rfor (t 9) [10] [10,6,11,12,13,14,15,16,17,18,19] (R [M 6 10]) (u 1 (R [o 11 (l 5),o 12 (l 3),M 13 6,o 14 (f 2 0),o 15 (A 14 13 8 13),o 16 (L 15 13),o 17 (.callv (t 12) [t 16]),o 18 (.call g2 [t 17]),o 19 (.mm true [t 11,t 18]),n (s 5 19 1)]))))) (r [o 20 (l 5),M 4 20] y)))⟩
def cc_bound_Over_1 (g0 : Nat) : CFn := ⟨8,[.tmp 2],r [o 1 (w 0),V 2 (i 0)] (r [o 3 (f 1 1),o 4 (l 3),o 5 (L 1 13),o 6 (.call g0 [t 5]),o 7 (.mm true [t 4,t 6]),M 2 7] y)⟩
def cc_sat_Cap : CFn := ⟨6,[.tmp 2],r [V 2 (i 0)] (r [M 3 0,o 4 (.mm true [t 3,k (i 0)]),o 5 (.mm false [t 4,k (i 2147483647)]),M 2 5] y)⟩
def cc_bound_clearance_1 (g0 : Nat) : CFn := ⟨8,[.tmp 2],r [o 1 (w 0),V 2 (i 0)] (r [o 3 (f 1 6),o 4 (l 3),o 5 (f 1 7),o 6 (l 5),o 7 (.call g0 [t 4,t 6]),M 2 7] y)⟩
end
end Go.Eng
namespace Go.Eng
set_option linter.unusedVariables false
set_option linter.unusedSimpArgs false
set_option linter.unnecessarySimpa false
open Go
set_option linter.unusedVariables false
set_option linter.unusedSimpArgs false
set_option maxRecDepth 10000
set_option maxHeartbeats 4000000
theorem capI_eq (n : Int) : capI n = min (max n 0) 2147483647 := by
  simp only [capI, cutI]; split <;> (try split) <;> omega
theorem addI_eq (a b : Int) : addI a b = min (capI a + capI b) 2147483647 := by
  have ha := capI_range a
  have hb := capI_range b
  rw [addI, capI_eq]; omega
theorem mulI_eq (a b : Int) : mulI a b = min (capI a * capI b) 2147483647 := by
  have ha := capI_range a
  have hb := capI_range b
  have : 0 ≤ capI a * capI b := Int.mul_nonneg ha.1 hb.1
  rw [mulI, capI_eq]; omega
def capS (l : List Int) : Int := (l.map capI).sum
theorem capS_nn : ∀ l, 0 ≤ capS l
  | [] => Int.le_refl _
  | x :: l => by
    have := capI_range x
    have := capS_nn l
    simp only [capS, List.map_cons, List.sum_cons] at *
    omega
theorem fold_cap : ∀ (l : List Int) (a : Int), 0 ≤ a → a ≤ 2147483647 → l.foldl addI a = min (a + capS l) 2147483647
  | [], a, h0, h1 => by simp only [List.foldl_nil, capS, List.map_nil, List.sum_nil]; omega
  | x :: l, a, h0, h1 => by
    have hx := capI_range x
    have hn := capS_nn l
    have ha : capI a = a := by rw [capI_eq]; omega
    rw [List.foldl_cons, fold_cap l _ (by rw [addI_eq]; have := capI_range a; omega) (by rw [addI_eq]; omega), addI_eq, ha]
    simp only [capS, List.map_cons, List.sum_cons] at *
    omega
theorem sumI_eq (l : List Int) : sumI l = min (capS l) 2147483647 := by
  rw [sumI, fold_cap l 0 (by omega) (by omega), Int.zero_add]
theorem sumI_rng (l : List Int) : 0 ≤ sumI l ∧ sumI l ≤ 2147483647 := by
  have := capS_nn l
  rw [sumI_eq]; omega
theorem cap_id {n : Int} (h : 0 ≤ n ∧ n ≤ 2147483647) : capI n = n := by rw [capI_eq]; omega
def satFull.Spec (C : Con) (f : Nat) : Prop := ∀ n : Int, C.c f [I n] (B (decide (2147483647 ≤ n))) none
def bftE (x : Ph) : Int := addI x.walk x.blinks
def bFeet.Spec (C : Con) (f : Nat) : Prop := ∀ x : Ph, C.c f [.agg x.cells] (I (bftE x)) none
def clrE (x : Ph) : Int := addI x.yellow x.red
def bClr1.Spec (C : Con) (f : Nat) : Prop := ∀ x : Ph, C.c f [.agg x.cells] (I (clrE x)) none
def mxI (a b : Int) : Int := if b > a then b else a
def ovrE (x : Ph) : Int := mxI x.min (bftE x)
def bOver1.Spec (C : Con) (f : Nat) : Prop := ∀ x : Ph, C.c f [.agg x.cells] (I (ovrE x)) none
def grtL (t : Tb) (F : Ph → Int) : List Int := (setN (onI t)).map fun (p : Nat) => capI (F (phAt t p))
def bGreat.Spec (C : Con) (f : Nat) : Prop := ∀ (t : Tb) (fn : Nat) (F : Ph → Int), t.Ok → (∀ x : Ph, C.c fn [.agg x.cells] (I (F x)) none) → C.c f [.agg t.cells, .fn (.func fn) [] []] (I (mostI (grtL t F))) none
def Tb.Rw (t : Tb) : Prop := ∀ g ∈ t.groups.getD [], ∀ x ∈ g.a.getD [] ++ g.b.getD [], 0 ≤ x ∧ x < 8
def bPass.Spec (C : Con) (f : Nat) : Prop := ∀ (t : Tb) (g : Int), t.Ok → t.Rw → C.c f [.agg t.cells, I g] (I (passI t g)) none
def bFree.Spec (C : Con) (f : Nat) : Prop := ∀ (t : Tb) (p : Int), t.Ok → t.Rw → C.c f [.agg t.cells, I p] (I (freeI t p)) none
def bWait.Spec (C : Con) (f : Nat) : Prop := ∀ (t : Tb) (p : Int), t.Ok → t.Rw → C.c f [.agg t.cells, I p] (I (waitI t p)) none
theorem r_mm3 (m : Bool) (k : AV → Prop) (a b c : AV) : mmP m k [a, b, c] = withV (mmA m a b) fun d => withV (mmA m d c) k := by
  simp only [mmP, List.foldlM_cons, List.foldlM_nil, Option.bind_eq_bind]
  cases mmA m a b with
  | none => rfl
  | some d => simp [withV_some]
theorem hasS_R (s p : Int) : hasS s p = hasR s p := by
  by_cases h : 0 ≤ p ∧ p < 8
  · obtain ⟨k, rfl⟩ : ∃ k : Nat, p = k := ⟨p.toNat, by omega⟩
    rw [hasS_tb (by omega), hasR_tb (by omega)]
  · have e1 : bitI p = 0 := by simp only [bitI]; split <;> omega
    have e2 : hasR s p = false := by
      simp only [hasR]; cases h1 : decide (0 ≤ p) <;> cases h2 : decide (p < 8) <;> simp at *; omega
    have e3 : bAnd .i64 s 0 = 0 := by
      have e : BitVec.ofInt IntKind.i64.bits 0 = 0#_ := rfl
      simp only [bAnd, e, BitVec.and_zero, BitVec.toNat_zero]; decide
    rw [e2, hasS, e1, e3]; rfl
section
variable {P : Program} (hm : P.follows .mixedOrders = true) {f : Nat}
include hm
theorem sCap.ok (hc : cFn P f = some cc_sat_Cap) : Cap.Spec (Pure P) f := by
  intro n
  refine pure_of hm hc (by show 1 ≤ 6; decide) (aw_flat (keep := []) (i := 0) ?_)
  try simp only [I, B, D, RX, ↓ KW, seval, cc_sat_Cap, Z.H]
  simp only [capI, cutI]
  congr 1
  split <;> (try split) <;> omega
theorem sAdd.ok {fC : Nat} (hc : cFn P f = some (cc_sat_Add fC)) (hC : Cap.Spec (Pure P) fC) : Add.Spec (Pure P) f := by
  intro a b
  have ha := capI_range a
  have hb := capI_range b
  refine pure_of hm hc (by show 2 ≤ 11; decide) (aw_flat (keep := []) (i := 0) ?_)
  try simp only [I, B, D, RX, ↓ KW, seval, cc_sat_Add, Z.H]
  refine call_is (hC _) ?_
  try simp only [I, B, D, RX, ↓ KW, seval]
  refine call_is (hC _) ?_
  try simp only [I, B, D, RX, ↓ KW, seval]
  refine call_is (hC _) ?_
  try simp only [I, B, D, RX, ↓ KW, seval]
  rw [wrap_id (by omega) (by omega)]
  rfl
theorem sMul.ok {fC : Nat} (hc : cFn P f = some (cc_sat_Mul fC)) (hC : Cap.Spec (Pure P) fC) : Mul.Spec (Pure P) f := by
  intro a b
  have ha := capI_range a
  have hb := capI_range b
  have h1 : 0 ≤ capI a * capI b := Int.mul_nonneg ha.1 hb.1
  have h2 : capI a * capI b ≤ 2147483647 * 2147483647 := Int.mul_le_mul ha.2 hb.2 hb.1 (by omega)
  refine pure_of hm hc (by show 2 ≤ 11; decide) (aw_flat (keep := []) (i := 0) ?_)
  try simp only [I, B, D, RX, ↓ KW, seval, cc_sat_Mul, Z.H]
  refine call_is (hC _) ?_
  try simp only [I, B, D, RX, ↓ KW, seval]
  refine call_is (hC _) ?_
  try simp only [I, B, D, RX, ↓ KW, seval]
  refine call_is (hC _) ?_
  try simp only [I, B, D, RX, ↓ KW, seval]
  rw [wrap_id (by omega) (by omega)]
  rfl
theorem sFull.ok (hc : cFn P f = some cc_sat_Full) : satFull.Spec (Pure P) f := by
  intro n
  refine pure_of hm hc (by show 1 ≤ 5; decide) (aw_flat (keep := []) (i := 0) ?_)
  try simp only [I, B, D, RX, ↓ KW, seval, cc_sat_Full, Z.H]
theorem sSum.ok {fA : Nat} (hc : cFn P f = some (cc_sat_Sum fA)) (hA : Add.Spec (Pure P) fA) : sum1.Spec (Pure P) f := by
  intro l hlen
  refine pure_of hm hc (by show 1 ≤ 17; decide) (aw_flat (keep := []) (i := 0) ?_)
  try simp only [I, B, D, RX, ↓ KW, seval, cc_sat_Sum, Z.H]
  refine aw_loop' (fun i : Nat => (⟨[(8, .dat (I i) none), (7, .dat (I (l.getD []).length) none), (6, .dat (slAV intRow l) none), (3, .dat (I (sumI ((l.getD []).take i))) none)], [], [], 400⟩ : S)) (fun i => (l.getD []).length - i) (fun i => i ≤ (l.getD []).length) ?_ 0 (by omega) ?_
  · intro i hi A back
    have hw := wrap_succ (k := i) (by omega)
    try simp only [I, B, D, RX, ↓ KW, seval]
    refine cd_split (fun h => ?_) (fun h => ?_) <;> try simp only [I, B, D, RX, ↓ KW, seval, h]
    · have hlt : i < (l.getD []).length := by have := of_decide_eq_true h; omega
      obtain ⟨x, hx⟩ : ∃ x, (l.getD [])[i]? = some x := ⟨_, List.getElem?_eq_getElem hlt⟩
      have hn : sumI ((l.getD []).take (i + 1)) = addI (sumI ((l.getD []).take i)) x := fold_next hx
      refine ⟨by omega, ?_⟩
      try simp only [I, B, D, RX, ↓ KW, seval, hx, intRow]
      refine call_is (hA _ _) ?_
      try simp only [I, B, D, RX, ↓ KW, seval]
      refine back (i + 1) _ (by omega) (by omega) (le_tok2 (by decide) ?_ ?_ ?_ ?_) <;> simp [LX, I, B, D, hw, hn]
    · have : i = (l.getD []).length := by have := of_decide_eq_false h; omega
      subst this
      simp
  · refine le_tok2 (by decide) ?_ ?_ ?_ ?_ <;> simp [LX, I, B, D, sumI]
theorem bFeet.ok {fA : Nat} (hc : cFn P f = some (cc_bound_feet fA)) (hA : Add.Spec (Pure P) fA) : bFeet.Spec (Pure P) f := by
  intro x
  refine pure_of hm hc (by show 1 ≤ 8; decide) (aw_flat (keep := []) (i := 0) ?_)
  try simp only [I, B, D, RX, ↓ KW, seval, cc_bound_feet, Z.H, Ph.cells]
  refine call_is (hA _ _) ?_
  try simp only [I, B, D, RX, ↓ KW, seval]
  rfl
theorem bClr1.ok {fA : Nat} (hc : cFn P f = some (cc_bound_clearance_1 fA)) (hA : Add.Spec (Pure P) fA) : bClr1.Spec (Pure P) f := by
  intro x
  refine pure_of hm hc (by show 1 ≤ 8; decide) (aw_flat (keep := []) (i := 0) ?_)
  try simp only [I, B, D, RX, ↓ KW, seval, cc_bound_clearance_1, Z.H, Ph.cells]
  refine call_is (hA _ _) ?_
  try simp only [I, B, D, RX, ↓ KW, seval]
  rfl
theorem bOver1.ok {fF : Nat} (hc : cFn P f = some (cc_bound_Over_1 fF)) (hF : bFeet.Spec (Pure P) fF) : bOver1.Spec (Pure P) f := by
  intro x
  refine pure_of hm hc (by show 1 ≤ 8; decide) (aw_flat (keep := []) (i := 0) ?_)
  try simp only [I, B, D, RX, ↓ KW, seval, cc_bound_Over_1, Z.H, Ph.cells]
  refine call_is (hF x) ?_
  try simp only [I, B, D, RX, ↓ KW, seval]
  rfl
theorem bGreat.ok {fO fE fC : Nat} (hc : cFn P f = some (cc_bound_greatest fO fE fC)) (hO : pOn.Spec (Pure P) fO) (hE : each27.Spec (Pure P) fE) (hC : Cap.Spec (Pure P) fC) : bGreat.Spec (Pure P) f := by
  intro t fn F ht hF
  have h := ht.ln
  have hw := h.whole
  have hl := h.len
  refine pure_of hm hc (by show 2 ≤ 21; decide) (aw_flat (keep := []) (i := 0) ?_)
  try simp only [I, B, D, RX, ↓ KW, seval, cc_bound_greatest, Z.H, hw]
  refine call_is (hO t ht.ln) ?_
  try simp only [I, B, D, RX, ↓ KW, seval]
  obtain ⟨g, hg, hi⟩ := hE (onI t)
  refine call_is hg ?_
  try simp only [I, B, D, RX, ↓ KW, seval]
  refine aw_rfor' (fun m : Int => (⟨[(9, .dat (.fn (.func g) [] [.ref [.int .i64 (onI t)]]) none), (5, .ptr 7 0), (3, .ptr 5 0), (2, .ptr 4 0)], [(7, ⟨[I m], []⟩), (5, ⟨[.fn (.func fn) [] []], []⟩), (4, ⟨t.cells, []⟩)], [], 400⟩ : S)) (fun i m => m = mostI ((grtL t F).take i)) hi rfl (rows_len fun _ => rfl) (fun _ => rfl) ?_ ?_ 0 rfl ?_
  · rintro i x m hx' hmm A back
    obtain ⟨q, hq, rfl⟩ := map_at hx'
    have hq : (setN (onI t))[i]? = some q := hq
    have h8 := setN_lt (List.mem_of_getElem? hq)
    have hy : 0 ≤ (q : Int) ∧ (q : Int) < 8 := by omega
    have g3 := Tb.ph_whole ht hy.1 (by omega)
    have hn : (grtL t F)[i]? = some (capI (F (phAt t q))) := by rw [grtL, List.getElem?_map, hq]; rfl
    have hn2 : mostI ((grtL t F).take (i + 1)) = (if capI (F (phAt t q)) > mostI ((grtL t F).take i) then capI (F (phAt t q)) else mostI ((grtL t F).take i)) := fold_next hn
    rw [Int.toNat_natCast] at g3
    try simp only [I, B, D, RX, ↓ KW, seval, hy, g3]
    refine call_is (hF _) ?_
    try simp only [I, B, D, RX, ↓ KW, seval]
    refine call_is (hC _) ?_
    try simp only [I, B, D, RX, ↓ KW, seval]
    refine back (mxI m (capI (F (phAt t q)))) _ (by rw [hn2, hmm]; rfl) ?_
    refine le_tok2 (by decide) ?_ ?_ ?_ ?_ <;> simp [LX, I, B, D, mxI]
  · rintro m hmm
    try simp only [I, B, D, RX, ↓ KW, seval]
    rw [List.take_of_length_le (by simp [grtL, setN])] at hmm
    rw [hmm]
  · refine le_tok2 (by decide) ?_ ?_ ?_ ?_ <;> simp [LX, I, B, D, mostI]
end
end Go.Eng
namespace Go.Eng
set_option linter.unusedVariables false
set_option linter.unusedSimpArgs false
set_option linter.unnecessarySimpa false
open Go
set_option linter.unusedVariables false
set_option linter.unusedSimpArgs false
set_option maxRecDepth 10000
set_option maxHeartbeats 4000000
theorem sum2_eq (a b : Int) : sumI [a, b] = addI a b := by
  have ha := capI_range a
  have hb := capI_range b
  rw [sumI_eq, addI_eq]; simp only [capS, List.map_cons, List.map_nil, List.sum_cons, List.sum_nil]; omega
theorem cap_add (a b : Int) : capI (addI a b) = addI a b := cap_id (by have ha := capI_range a; have hb := capI_range b; rw [addI_eq]; omega)
theorem grt_clr (t : Tb) : mostI (grtL t clrE) = clearI t := by
  rw [clearI, listS_N, List.map_map, grtL]
  congr 1
  apply List.map_congr_left
  intro p _
  show capI (clrE (phAt t p)) = sumI [(phAt t p).yellow, (phAt t p).red]
  rw [sum2_eq, clrE, cap_add]
theorem mxI_eq (a b : Int) : mxI a b = max a b := by simp only [mxI]; split <;> omega
theorem most_eq : ∀ (l : List Int) (a : Int), 0 ≤ a → l.foldl (fun n x => if x > n then x else n) a = max a (mostI l)
  | [], a, h => by show a = max a 0; omega
  | x :: l, a, h => by
    have e : mostI (x :: l) = max (if x > 0 then x else 0) (mostI l) := most_eq l _ (by show 0 ≤ if x > 0 then x else 0; split <;> omega)
    rw [List.foldl_cons, most_eq l _ (by split <;> omega), e]
    split <;> split <;> omega
theorem mostI_cons (x : Int) (l : List Int) : mostI (x :: l) = max (max 0 x) (mostI l) := by
  have : mostI (x :: l) = max (if x > 0 then x else 0) (mostI l) := most_eq l _ (by show 0 ≤ if x > 0 then x else 0; split <;> omega)
  rw [this]; split <;> omega
theorem mostI_nil : mostI [] = 0 := rfl
theorem mostI_nn : ∀ l, 0 ≤ mostI l
  | [] => Int.le_refl _
  | x :: l => by have := mostI_nn l; rw [mostI_cons]; omega
theorem sumI_head {a b : Int} (l : List Int) (h : capI a = capI b) : sumI (a :: l) = sumI (b :: l) := by
  rw [sumI_eq, sumI_eq, capS, capS, List.map_cons, List.map_cons, h]
theorem srv_head (x : Ph) : capI (mxI (mxI x.min (bftE x)) x.top) = capI (mostI [capI x.min, sumI [x.walk, x.blinks], capI x.top]) := by
  have h1 := cap_add x.walk x.blinks
  rw [sum2_eq, mostI_cons, mostI_cons, mostI_cons, mostI_nil, mxI_eq, mxI_eq, bftE]
  simp only [capI_eq] at *
  omega
section
variable {P : Program} (hm : P.follows .mixedOrders = true) {f : Nat}
include hm
theorem bClear.ok {fG f1 : Nat} (hc : cFn P f = some (cc_bound_clearance fG f1)) (hG : bGreat.Spec (Pure P) fG) (h1 : bClr1.Spec (Pure P) f1) : clear.Spec (Pure P) f := by
  intro t ht
  have hw := ht.ln.whole
  refine pure_of hm hc (by show 1 ≤ 5; decide) (aw_flat (keep := []) (i := 0) ?_)
  try simp only [I, B, D, RX, ↓ KW, seval, cc_bound_clearance, Z.H, hw]
  refine call_is (hG t f1 clrE ht h1) ?_
  try simp only [I, B, D, RX, ↓ KW, seval]
  rw [grt_clr]
theorem bServe.ok {fO fH fF e fS : Nat} (hc : cFn P f = some (cc_bound_Serve fO fH fF e fS)) (hO : pOn.Spec (Pure P) fO) (hH : setHas.Spec (Pure P) fH) (hF : bFeet.Spec (Pure P) fF) (hS : sum1.Spec (Pure P) fS) : serve.Spec (Pure P) f := by
  intro t p ht
  have hw := ht.ln.whole
  have htl := Tb.tail_at ht
  have h116 := htl 0 (by omega)
  have h119 := htl 3 (by omega)
  refine pure_of hm hc (by show 2 ≤ 32; decide) (aw_flat (keep := []) (i := 0) ?_)
  try simp only [I, B, D, RY, ↓ KW, seval, cc_bound_Serve, Z.H, hw]
  refine call_is (hO t ht.ln) ?_
  try simp only [I, B, D, RY, ↓ KW, seval]
  refine call_is (hH _ _) ?_
  rw [hasS_R]
  try simp only [I, B, D, RY, ↓ KW, seval]
  cases h : hasR (onI t) p
  · have hx : serveI t p = 0 := if_neg (by rw [h]; decide)
    try simp only [I, B, D, RY, ↓ KW, seval, h, hx]
  · have hr := hasR_range h
    have hph := Tb.ph_whole ht hr.1 hr.2
    have hx : serveI t p = sumI [mostI [capI (phAt t p).min, sumI [(phAt t p).walk, (phAt t p).blinks], capI (phAt t p).top], t.extend, (phAt t p).yellow, (phAt t p).red, t.revert, 8] := if_pos h
    generalize phAt t p = x at *
    have hz : setCells z13_14216 0 x.cells = x.cells := set_all rfl
    have hzl : z13_14216.length = 13 := rfl
    have q0 : partA x.cells 0 (some 13) = some (.agg x.cells) := rfl
    have q1 : x.cells[1]? = some (I x.min) := rfl
    have q4 : x.cells[4]? = some (I x.top) := rfl
    have q6 : x.cells[6]? = some (I x.yellow) := rfl
    have q7 : x.cells[7]? = some (I x.red) := rfl
    try simp only [I, B, D, RY, ↓ KW, seval, hr, hph, hz, hzl, Ph.len, q0, q1, q4, q6, q7, h116, h119, h]
    refine call_is (hF x) ?_
    try simp only [I, B, D, RY, ↓ KW, seval, hr, hph, hz, hzl, Ph.len, q0, q1, q4, q6, q7, h116, h119, r_mm3]
    refine call_is (hS (some [mxI (mxI x.min (bftE x)) x.top, t.extend, x.yellow, x.red, t.revert, 8]) (by simp)) ?_
    try simp only [I, B, D, RY, ↓ KW, seval]
    rw [hx, Option.getD_some, sumI_head _ (srv_head x)]
theorem bEntry.ok {fM fC e fS : Nat} (hc : cFn P f = some (cc_bound_Entry fM fC e fS)) (hM : Mul.Spec (Pure P) fM) (hC : clear.Spec (Pure P) fC) (hS : sum1.Spec (Pure P) fS) : entry.Spec (Pure P) f := by
  intro t k ht
  have hl := Tb.len ht
  have hp := Tb.whole ht
  have hg := Tb.rails_at ht
  have h119 := Tb.tail_at ht 3 (by omega)
  refine pure_of hm hc (by show 2 ≤ 38; decide) (aw_flat (keep := []) (i := 0) ?_)
  try simp only [I, B, D, RX, ↓ KW, seval, cc_bound_Entry, Z.H, hp, hl]
  by_cases h0 : k < 0 ∨ ((t.rails.getD []).length : Int) ≤ k
  · have hx : entryI t k = 0 := if_pos h0
    repeat' (((first | refine gd_split ?_ ?_ | refine cd_split ?_ ?_ | refine pk_split ?_ ?_) <;> intro h) <;> try simp only [I, B, D, RX, ↓ KW, seval, hg, hx, h])
    simp_all
    omega
  · have hx := show entryI t k = _ from if_neg h0
    have h1 : decide (k < 0) = false := by simp; omega
    have h2 : decide (((t.rails.getD []).length : Int) ≤ k) = false := by simp; omega
    have hr := rlAt_get (t := t) (k := k) (by omega) (by omega)
    try simp only [I, B, D, RX, ↓ KW, seval, h1, h2, hg]
    refine ⟨by omega, ?_⟩
    try simp only [I, B, D, RX, ↓ KW, seval, hr, Rl.len, Rl.cells, z11_58867, hp]
    refine call_is (hM _ _) ?_
    try simp only [I, B, D, RX, ↓ KW, seval]
    refine call_is (hM _ _) ?_
    try simp only [I, B, D, RX, ↓ KW, seval, hp]
    refine call_is (hC t ht) ?_
    try simp only [I, B, D, RX, ↓ KW, seval]
    refine call_is (hM _ _) ?_
    try simp only [I, B, D, RX, ↓ KW, seval, h119]
    refine call_is (hM _ _) ?_
    try simp only [I, B, D, RX, ↓ KW, seval]
    refine call_is (hS (some [_, _, _, _, _, _, _]) (by simp)) ?_
    try simp only [I, B, D, RX, ↓ KW, seval, hx]
    refine congrArg (AV.int IntKind.i64) ?_
    have c2 : capI 2 = 2 := rfl
    have c3 : capI 3 = 3 := rfl
    have c5 : capI 5 = 5 := rfl
    have c60 : capI 60 = 60 := rfl
    have m := fun a b => cap_id (show 0 ≤ mulI a b ∧ mulI a b ≤ 2147483647 from capI_range _)
    simp only [Option.getD_some, sumI_eq, capS, List.map_cons, List.map_nil, List.sum_cons, List.sum_nil, m]
    simp only [mulI_eq, c2, c3, c5, c60]
    have a1 := capI_range (rlAt t k).delay
    have a2 := capI_range (rlAt t k).hold
    have a3 := capI_range (rlAt t k).green
    have a4 := capI_range (rlAt t k).foot
    have a5 := capI_range (clearI t)
    have a6 := capI_range t.revert
    omega
theorem bWait.ok {fF fA fO e fS fM : Nat} (hc : cFn P f = some (cc_bound_Wait fF fA fO e fS fM)) (hF : bFree.Spec (Pure P) fF) (hA : Add.Spec (Pure P) fA) (hO : over.Spec (Pure P) fO) (hS : sum1.Spec (Pure P) fS) (hM : Mul.Spec (Pure P) fM) : bWait.Spec (Pure P) f := by
  intro t p ht hrw
  have hl := Tb.len ht
  have hp := Tb.whole ht
  have hg := Tb.rails_at ht
  have h130 := Tb.share_at ht
  refine pure_of hm hc (by show 2 ≤ 30; decide) (aw_flat (keep := []) (i := 0) ?_)
  try simp only [I, B, D, RX, ↓ KW, seval, cc_bound_Wait, Z.H, hp, hl]
  refine call_is (hF t p ht hrw) ?_
  try simp only [I, B, D, RX, ↓ KW, seval, hg]
  by_cases h0 : freeI t p = 0 ∨ (t.rails.getD []).length = 0
  · have hx : waitI t p = freeI t p := if_pos h0
    repeat' (((first | refine gd_split ?_ ?_ | refine cd_split ?_ ?_ | refine pk_split ?_ ?_) <;> intro h) <;> try simp only [I, B, D, RX, ↓ KW, seval, hg, hx, h])
    simp_all
  · have hx := show waitI t p = _ from if_neg h0
    have h1 : (freeI t p == 0) = false := by simp; omega
    have h2 : (((t.rails.getD []).length : Int) == 0) = false := beq_false_of_ne (by omega)
    try simp only [I, B, D, RX, ↓ KW, seval, h1, h2, hg, h130]
    refine call_is (hA _ _) ?_
    try simp only [I, B, D, RX, ↓ KW, seval, hp]
    refine call_is (hO t ht) ?_
    try simp only [I, B, D, RX, ↓ KW, seval]
    refine call_is (hS (some [_, _, _]) (by simp)) ?_
    try simp only [I, B, D, RX, ↓ KW, seval, hp]
    refine call_is (hM _ _) ?_
    try simp only [I, B, D, RX, ↓ KW, seval, h130]
    refine call_is (hA _ _) ?_
    try simp only [I, B, D, RX, ↓ KW, seval]
    rw [hx, sum2_eq, sum2_eq]
    rfl
end
end Go.Eng
namespace Go.Eng
set_option linter.unusedVariables false
set_option linter.unusedSimpArgs false
set_option linter.unnecessarySimpa false
open Go
set_option linter.unusedVariables false
set_option linter.unusedSimpArgs false
set_option maxRecDepth 10000
set_option maxHeartbeats 4000000
def pre (gr : Gr) (i : Nat) : List Int := (List.range i).flatMap fun k => (gr.row k).getD []
theorem pre_next (gr : Gr) (i : Nat) : pre gr (i + 1) = pre gr i ++ (gr.row i).getD [] := by simp [pre, List.range_succ]
theorem pre_two (gr : Gr) : pre gr 2 = gr.a.getD [] ++ gr.b.getD [] := by
  rw [pre_next, pre_next]; rfl
def pasL (t : Tb) (l : List Int) : Int := (l.map (serveI t)).foldl addI 8
theorem pasL_next (t : Tb) (l : List Int) (x : Int) : pasL t (l ++ [x]) = addI (pasL t l) (serveI t x) := by simp [pasL]
theorem pass_rows {t : Tb} (h : t.Rw) {g : Int} {gr : Gr} (h0 : 0 ≤ g) (hg : (t.groups.getD [])[g.toNat]? = some gr) : passI t g = pasL t (pre gr 2) := by
  have hlt : g.toNat < (t.groups.getD []).length := (List.getElem?_eq_some_iff.1 hg).1
  have hx : passI t g = sumI (passTo t g (spots t).length) := if_neg (by omega)
  have e : ((spots t).filter fun x => x.group == g).map Sp.p = gr.a.getD [] ++ gr.b.getD [] := by
    have := spots_group hg (h gr (List.mem_of_getElem? hg))
    rw [Int.toNat_of_nonneg h0] at this
    exact this
  have e2 : ((spots t).filter fun x => x.group == g).map (fun x => serveI t x.p) = (gr.a.getD [] ++ gr.b.getD []).map (serveI t) := by
    rw [← e, List.map_map]; rfl
  rw [hx, passTo, List.take_length, e2, pre_two, pasL]
  rfl
theorem passI_range (t : Tb) (g : Int) : 0 ≤ passI t g ∧ passI t g ≤ 2147483647 := by
  rw [passI]; split
  · omega
  · exact sumI_rng _
def freL (t : Tb) (p : Int) (n : Nat) : Int := sumI (passI t (whereR t p).1.group :: (List.range n).map fun (g : Nat) => passI t g)
theorem freL_zero (t : Tb) (p : Int) : freL t p 0 = passI t (whereR t p).1.group := by
  have h := passI_range t (whereR t p).1.group
  have hc := cap_id h
  rw [freL, sumI_eq]; simp only [capS, List.range_zero, List.map_nil, List.map_cons, List.sum_cons, List.sum_nil, hc]; omega
theorem freL_next (t : Tb) (p : Int) (n : Nat) : freL t p (n + 1) = addI (freL t p n) (passI t n) := by
  simp [freL, List.range_succ, sumI]
theorem stay_next (t : Tb) (k : Nat) : mostI (stayTo t (k + 1)) = (if addI (entryI t k) (rlAt t k).stay > mostI (stayTo t k) then addI (entryI t k) (rlAt t k).stay else mostI (stayTo t k)) := by
  rw [stayTo_next, sum2_eq]
  simp only [mostI, List.foldl_append, List.foldl_cons, List.foldl_nil]
  rfl
theorem grt_ovr_go (t : Tb) : ∀ L : List Nat, mostI (L.map fun (p : Nat) => capI (ovrE (phAt t p))) = mostI (needOf t (L.map fun (k : Nat) => (k : Int)))
  | [] => rfl
  | x :: L => by
    have ih := grt_ovr_go t L
    have e : needOf t ((x :: L).map fun (k : Nat) => (k : Int)) = capI (phAt t x).min :: sumI [(phAt t x).walk, (phAt t x).blinks] :: needOf t (L.map fun (k : Nat) => (k : Int)) := by simp [needOf]
    have h1 := cap_add (phAt t x).walk (phAt t x).blinks
    rw [e, List.map_cons, mostI_cons, mostI_cons, mostI_cons, ih, sum2_eq, ovrE, mxI_eq, bftE]
    generalize mostI (needOf t (L.map fun (k : Nat) => (k : Int))) = m
    simp only [capI_eq] at *
    omega
theorem grt_ovr (t : Tb) : mostI (grtL t ovrE) = mostI (needOf t (listS (onI t))) := by
  rw [listS_N, grtL, grt_ovr_go]
section
variable {P : Program} (hm : P.follows .mixedOrders = true) {f : Nat}
include hm
theorem bPass.ok {fS fA : Nat} (hc : cFn P f = some (cc_bound_Pass fS fA)) (hS : serve.Spec (Pure P) fS) (hA : Add.Spec (Pure P) fA) : bPass.Spec (Pure P) f := by
  intro t g ht hrw
  have hl := Tb.len ht
  have hp := Tb.whole ht
  have hg := Tb.groups_at ht
  refine pure_of hm hc (by show 2 ≤ 41; decide) (aw_flat (keep := []) (i := 0) ?_)
  try simp only [I, B, D, RX, ↓ KW, seval, cc_bound_Pass, Z.H, hp, hl]
  by_cases h0 : g < 0 ∨ ((t.groups.getD []).length : Int) ≤ g
  · have hx : passI t g = 0 := if_pos h0
    repeat' (((first | refine gd_split ?_ ?_ | refine cd_split ?_ ?_ | refine pk_split ?_ ?_) <;> intro h) <;> try simp only [I, B, D, RX, ↓ KW, seval, hg, hx, h])
    simp_all
    omega
  · have h1 : decide (g < 0) = false := by simp; omega
    have h2 : decide (((t.groups.getD []).length : Int) ≤ g) = false := by simp; omega
    obtain ⟨gr, hr⟩ : ∃ gr, (t.groups.getD [])[g.toNat]? = some gr := ⟨_, List.getElem?_eq_getElem (by omega)⟩
    have hx := pass_rows hrw (by omega) hr
    have hln := ht.rows gr (List.mem_of_getElem? hr)
    have hgl : gr.cells.length = 2 := rfl
    have hgt : gr.cells.take 2 = gr.cells := rfl
    try simp only [I, B, D, RX, ↓ KW, seval, h1, h2, hg]
    refine ⟨by omega, ?_⟩
    try simp only [I, B, D, RX, ↓ KW, seval, hr, hgl, hgt]
    refine aw_loop' (fun i : Nat => (⟨[(24, .dat (I i) none), (23, .dat (.agg gr.cells) none), (5, .dat (I (pasL t (pre gr i))) none), (2, .ptr 4 0)], [(4, ⟨t.cells, []⟩)], [], 400⟩ : S)) (fun i => 2 - i) (fun i => i ≤ 2) ?_ 0 (by omega) ?_
    · intro i hi A back
      have hw := wrap_succ (k := i) (by omega)
      try simp only [I, B, D, RX, ↓ KW, seval]
      refine cd_split (fun h => ?_) (fun h => ?_) <;> try simp only [I, B, D, RX, ↓ KW, seval, h]
      · have hlt : i < 2 := by have := of_decide_eq_true h; omega
        have hy : 0 ≤ (i : Int) ∧ (i : Int) < 2 := by omega
        have hrow : gr.cells[i]? = some (slAV intRow (gr.row i)) := by
          have : i = 0 ∨ i = 1 := by omega
          rcases this with rfl | rfl <;> rfl
        have hlr : ((gr.row i).getD []).length ≤ 1048576 := by
          have : i = 0 ∨ i = 1 := by omega
          rcases this with rfl | rfl
          · exact hln.1
          · exact hln.2
        have hn := pre_next gr i
        generalize gr.row i = row at *
        try simp only [I, B, D, RX, ↓ KW, seval, hy, hrow]
        refine aw_loop' (fun j : Nat => (⟨[(29, .dat (I j) none), (28, .dat (I (row.getD []).length) none), (27, .dat (slAV intRow row) none), (5, .dat (I (pasL t (pre gr i ++ (row.getD []).take j))) none), (2, .ptr 4 0), (24, .dat (I i) none), (23, .dat (.agg gr.cells) none)], [(4, ⟨t.cells, []⟩)], [], 400⟩ : S)) (fun j => (row.getD []).length - j) (fun j => j ≤ (row.getD []).length) ?_ 0 (by omega) ?_
        · intro j hj A2 back2
          have hw2 := wrap_succ (k := j) (by omega)
          try simp only [I, B, D, RX, ↓ KW, seval]
          refine cd_split (fun h2 => ?_) (fun h2 => ?_) <;> try simp only [I, B, D, RX, ↓ KW, seval, h2]
          · have hlt2 : j < (row.getD []).length := by have := of_decide_eq_true h2; omega
            obtain ⟨x, hxx⟩ : ∃ x, (row.getD [])[j]? = some x := ⟨_, List.getElem?_eq_getElem hlt2⟩
            have hnx : pasL t (pre gr i ++ (row.getD []).take (j + 1)) = addI (pasL t (pre gr i ++ (row.getD []).take j)) (serveI t x) := by
              rw [take_next hxx, ← List.append_assoc, pasL_next]
            refine ⟨by omega, ?_⟩
            try simp only [I, B, D, RX, ↓ KW, seval, hxx, intRow, hp]
            refine call_is (hS t _ ht) ?_
            try simp only [I, B, D, RX, ↓ KW, seval]
            refine call_is (hA _ _) ?_
            try simp only [I, B, D, RX, ↓ KW, seval]
            refine back2 (j + 1) _ (by omega) (by omega) (le_tok2 (by decide) ?_ ?_ ?_ ?_) <;> simp [LX, I, B, D, hw2, hnx]
          · have : j = (row.getD []).length := by have := of_decide_eq_false h2; omega
            subst this
            try simp only [I, B, D, RX, ↓ KW, seval]
            rw [List.take_length] at *
            refine back (i + 1) _ (by omega) (by omega) (le_tok2 (by decide) ?_ ?_ ?_ ?_) <;> simp [LX, I, B, D, hw, hn]
        · refine le_tok2 (by decide) ?_ ?_ ?_ ?_ <;> simp [LX, I, B, D]
      · have : i = 2 := by have := of_decide_eq_false h; omega
        subst this
        try simp only [I, B, D, RX, ↓ KW, seval]
        rw [hx]
    · refine le_tok2 (by decide) ?_ ?_ ?_ ?_ <;> simp [LX, I, B, D, pasL, pre]
theorem bFree.ok {fW fO fH fP fA : Nat} (hc : cFn P f = some (cc_bound_Free fW fO fH fP fA)) (hW : pWhere.Spec (Pure P) fW) (hO : pOn.Spec (Pure P) fO) (hH : setHas.Spec (Pure P) fH) (hP : bPass.Spec (Pure P) fP) (hA : Add.Spec (Pure P) fA) : bFree.Spec (Pure P) f := by
  intro t p ht hrw
  have hl := Tb.len ht
  have hp := Tb.whole ht
  have hg := Tb.groups_at ht
  have hgb := ht.groups
  refine pure_of hm hc (by show 2 ≤ 44; decide) (aw_flat (keep := []) (i := 0) ?_)
  try simp only [I, B, D, RX, ↓ KW, seval, cc_bound_Free, Z.H, hp, hl]
  refine call_is (hW t p ht) ?_
  try simp only [I, B, D, RX, ↓ KW, seval]
  cases h1 : (whereR t p).2
  · have hx : freeI t p = 0 := if_neg (by simp [h1])
    try simp only [I, B, D, RX, ↓ KW, seval, h1, hx]
  try simp only [I, B, D, RX, ↓ KW, seval, h1, hp]
  refine call_is (hO t ht.ln) ?_
  try simp only [I, B, D, RX, ↓ KW, seval]
  refine call_is (hH _ _) ?_
  rw [hasS_R]
  try simp only [I, B, D, RX, ↓ KW, seval]
  cases h2 : hasR (onI t) p
  · have hx : freeI t p = 0 := if_neg (by simp [h1, h2])
    try simp only [I, B, D, RX, ↓ KW, seval, h2, hx]
  have hx : freeI t p = freL t p (t.groups.getD []).length := if_pos (by simp [h1, h2])
  try simp only [I, B, D, RX, ↓ KW, seval, h2, hp]
  refine call_is (hP t _ ht hrw) ?_
  try simp only [I, B, D, RX, ↓ KW, seval, hg]
  refine aw_loop' (fun i : Nat => (⟨[(34, .dat (I i) none), (33, .dat (I (t.groups.getD []).length) none), (9, .dat (I (freL t p i)) none), (2, .ptr 4 0)], [(4, ⟨t.cells, []⟩)], [], 400⟩ : S)) (fun i => (t.groups.getD []).length - i) (fun i => i ≤ (t.groups.getD []).length) ?_ 0 (by omega) ?_
  · intro i hi A back
    have hw := wrap_succ (k := i) (by omega)
    have hn := freL_next t p i
    try simp only [I, B, D, RX, ↓ KW, seval]
    refine cd_split (fun h => ?_) (fun h => ?_) <;> try simp only [I, B, D, RX, ↓ KW, seval, h]
    · have hlt : i < (t.groups.getD []).length := by have := of_decide_eq_true h; omega
      try simp only [I, B, D, RX, ↓ KW, seval, hp]
      refine call_is (hP t _ ht hrw) ?_
      try simp only [I, B, D, RX, ↓ KW, seval]
      refine call_is (hA _ _) ?_
      try simp only [I, B, D, RX, ↓ KW, seval]
      refine back (i + 1) _ (by omega) (by omega) (le_tok2 (by decide) ?_ ?_ ?_ ?_) <;> simp [LX, I, B, D, hw, hn]
    · have : i = (t.groups.getD []).length := by have := of_decide_eq_false h; omega
      subst this
      try simp only [I, B, D, RX, ↓ KW, seval]
      rw [hx]
  · refine le_tok2 (by decide) ?_ ?_ ?_ ?_ <;> simp [LX, I, B, D, freL_zero]
theorem bOver.ok {fE fA fG fF fC e fS : Nat} (hc : cFn P f = some (cc_bound_Over fE fA fG fF fC e fS)) (hE : entry.Spec (Pure P) fE) (hA : Add.Spec (Pure P) fA) (hG : bGreat.Spec (Pure P) fG) (hF : bOver1.Spec (Pure P) fF) (hC : clear.Spec (Pure P) fC) (hS : sum1.Spec (Pure P) fS) : over.Spec (Pure P) f := by
  intro t ht
  have hl := Tb.len ht
  have hp := Tb.whole ht
  have hg := Tb.rails_at ht
  have hb := ht.rails
  have h119 := Tb.tail_at ht 3 (by omega)
  refine pure_of hm hc (by show 1 ≤ 38; decide) (aw_flat (keep := []) (i := 0) ?_)
  try simp only [I, B, D, RX, ↓ KW, seval, cc_bound_Over, Z.H, hp, hl, hg]
  by_cases h0 : (t.rails.getD []).length = 0
  · have hx : overI t = 0 := if_pos h0
    repeat' (((first | refine gd_split ?_ ?_ | refine cd_split ?_ ?_ | refine pk_split ?_ ?_) <;> intro h) <;> try simp only [I, B, D, RX, ↓ KW, seval, hg, hx, h])
    simp_all
  · have hx := show overI t = _ from if_neg h0
    have h2 : (((t.rails.getD []).length : Int) == 0) = false := beq_false_of_ne (by omega)
    try simp only [I, B, D, RX, ↓ KW, seval, h2, hg]
    refine aw_loop' (fun k : Nat => (⟨[(14, .dat (I k) none), (13, .dat (I (t.rails.getD []).length) none), (12, .dat (slAV Rl.cells t.rails) none), (3, .dat (I (mostI (stayTo t k))) none), (1, .ptr 4 0)], [(4, ⟨t.cells, []⟩)], [], 400⟩ : S)) (fun k => (t.rails.getD []).length - k) (fun k => k ≤ (t.rails.getD []).length) ?_ 0 (by omega) ?_
    · intro k hk A back
      have hw := wrap_succ (k := k) (by omega)
      try simp only [I, B, D, RX, ↓ KW, seval]
      refine cd_split (fun h => ?_) (fun h => ?_) <;> try simp only [I, B, D, RX, ↓ KW, seval, h]
      · have hlt : k < (t.rails.getD []).length := by have := of_decide_eq_true h; omega
        have hr := rlAt_get (t := t) (k := (k : Int)) (by omega) (by omega)
        rw [Int.toNat_natCast] at hr
        have hn := stay_next t k
        refine ⟨by omega, ?_⟩
        try simp only [I, B, D, RX, ↓ KW, seval, hr, Rl.len, Rl.cells, z11_58867, hp]
        refine call_is (hE t _ ht) ?_
        try simp only [I, B, D, RX, ↓ KW, seval]
        refine call_is (hA _ _) ?_
        try simp only [I, B, D, RX, ↓ KW, seval]
        refine back (k + 1) _ (by omega) (by omega) (le_tok2 (by decide) ?_ ?_ ?_ ?_) <;> simp [LX, I, B, D, hw, hn]
      · have : k = (t.rails.getD []).length := by have := of_decide_eq_false h; omega
        subst this
        try simp only [I, B, D, RX, ↓ KW, seval, hp]
        refine call_is (hG t fF ovrE ht hF) ?_
        try simp only [I, B, D, RX, ↓ KW, seval, hp]
        refine call_is (hC t ht) ?_
        try simp only [I, B, D, RX, ↓ KW, seval, h119]
        refine call_is (hS (some [_, _, _, _, _]) (by simp)) ?_
        try simp only [I, B, D, RX, ↓ KW, seval, hx]
        rw [grt_ovr]
        rfl
    · refine le_tok2 (by decide) ?_ ?_ ?_ ?_ <;> simp [LX, I, B, D, stayTo, mostI]
end
end Go.Eng
