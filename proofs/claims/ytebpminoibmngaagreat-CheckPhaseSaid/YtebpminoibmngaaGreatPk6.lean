/- The engine and the library, part 6 of 7: what the proofs of this seat need of them. -/
import Derived.Test.YtebpminoibmngaaGreatPk5
namespace Go.Eng
set_option linter.unusedVariables false
set_option linter.unusedSimpArgs false
set_option linter.unnecessarySimpa false
open Go
set_option linter.unusedVariables false
set_option linter.unusedSimpArgs false
set_option maxRecDepth 10000
set_option maxHeartbeats 4000000
section
variable {P : Program} (hm : P.follows .mixedOrders = true) {f : Nat}
include hm
theorem cApart.ok {fE fC : Nat} (hc : cFn P f = some (cc_check_apart fE fC)) (hE : each27.Spec (Pure P) fE) (hC : pBeside.Spec (Pure P) fC) : cApart.Spec (Pure P) f := by
  intro t s h
  have hw := h.ln.whole
  have hl := h.ln.len
  obtain ⟨g, hg, hi⟩ := hE s
  refine pure_of hm hc (by show 2 ≤ 23; decide) (aw_flat (keep := []) (i := 0) ?_)
  try simp only [I, B, D, RX, ↓ KW, Nat.reduceBEq, Nat.reduceAdd, Nat.reduceLeDiff, Int.reduceNe, Int.reduceBEq, Int.reduceEq, reduceCtorEq, Nat.reduceMul, Int.reduceLT, Int.reduceLE, Int.reduceToNat, cc_check_apart, Z.H]
  refine call_is hg ?_
  try simp only [I, B, D, RX, ↓ KW, Nat.reduceBEq, Nat.reduceAdd, Nat.reduceLeDiff, Int.reduceNe, Int.reduceBEq, Int.reduceEq, reduceCtorEq, Nat.reduceMul, Int.reduceLT, Int.reduceLE, Int.reduceToNat]
  refine aw_rfor' (fun y : Unit => (⟨[(8, .dat (.fn (.func g) [] [.ref [.int .i64 s]]) none), (4, .ptr 6 0), (3, .ptr 5 0), (2, .ptr 4 0)], [(6, ⟨[.bool false], []⟩), (5, ⟨[.int .i64 s], []⟩), (4, ⟨t.cells, []⟩)], [], 400⟩ : S)) (fun i _ => ((setN s).take i).any (fun p => (setN s).any fun q => ((p : Int) != (q : Int)) && !besideR t p q) = false) hi rfl (rows_len fun _ => rfl) (fun _ => rfl) ?_ ?_ () (by simp) ?_
  · rintro i x ⟨⟩ hx hno F back
    obtain ⟨p, hp, rfl⟩ := map_at hx
    have hp : (setN s)[i]? = some p := hp
    have h8 := setN_lt (List.mem_of_getElem? hp)
    have hnext := any_take hno hp
    have hyes : ((setN s).any fun q => ((p : Int) != (q : Int)) && !besideR t p q) = true → apartE t s = true := fun e => any_yes hp e
    try simp only [I, B, D, RX, ↓ KW, Nat.reduceBEq, Nat.reduceAdd, Nat.reduceLeDiff, Int.reduceNe, Int.reduceBEq, Int.reduceEq, reduceCtorEq, Nat.reduceMul, Int.reduceLT, Int.reduceLE, Int.reduceToNat]
    refine call_is hg ?_
    try simp only [I, B, D, RX, ↓ KW, Nat.reduceBEq, Nat.reduceAdd, Nat.reduceLeDiff, Int.reduceNe, Int.reduceBEq, Int.reduceEq, reduceCtorEq, Nat.reduceMul, Int.reduceLT, Int.reduceLE, Int.reduceToNat]
    refine aw_rfor' (fun y : Unit => (⟨[(11, .dat (.fn (.func g) [] [.ref [.int .i64 s]]) none), (8, .dat (.fn (.func g) [] [.ref [.int .i64 s]]) none), (4, .ptr 6 0), (9, .dat (I p) none), (3, .ptr 5 0), (2, .ptr 4 0), (5, .ptr 400 0)], [(400, ⟨[I p], []⟩), (6, ⟨[.bool false], []⟩), (5, ⟨[.int .i64 s], []⟩), (4, ⟨t.cells, []⟩)], [], 500⟩ : S)) (fun j _ => ((setN s).take j).any (fun q => ((p : Int) != (q : Int)) && !besideR t p q) = false) hi rfl (rows_len fun _ => rfl) (fun _ => rfl) ?_ ?_ () (by simp) ?_
    · rintro j y ⟨⟩ hy hno2 F2 back2
      obtain ⟨q, hq, rfl⟩ := map_at hy
      have hq : (setN s)[j]? = some q := hq
      have hq8 := setN_lt (List.mem_of_getElem? hq)
      have hnext2 := any_take hno2 hq
      have hyes2 : (((p : Int) != (q : Int)) && !besideR t p q) = true → apartE t s = true := fun e => hyes (any_yes hq e)
      have hcl := hC t p q h
      try simp only [I, B, D, RX, ↓ KW, Nat.reduceBEq, Nat.reduceAdd, Nat.reduceLeDiff, Int.reduceNe, Int.reduceBEq, Int.reduceEq, reduceCtorEq, Nat.reduceMul, Int.reduceLT, Int.reduceLE, Int.reduceToNat]
      generalize hpq : ((p : Int) != (q : Int)) = bpq at *
      generalize besideR t p q = bcl at *
      cases bpq
      · try simp only [I, B, D, RX, ↓ KW, Nat.reduceBEq, Nat.reduceAdd, Nat.reduceLeDiff, Int.reduceNe, Int.reduceBEq, Int.reduceEq, reduceCtorEq, Nat.reduceMul, Int.reduceLT, Int.reduceLE, Int.reduceToNat, hpq]
        refine back2 () _ (by simpa using hnext2) ?_
        refine le_tok2 (by decide) ?_ ?_ ?_ ?_ <;> simp [LX, I, B, D]
      · try simp only [I, B, D, RX, ↓ KW, Nat.reduceBEq, Nat.reduceAdd, Nat.reduceLeDiff, Int.reduceNe, Int.reduceBEq, Int.reduceEq, reduceCtorEq, Nat.reduceMul, Int.reduceLT, Int.reduceLE, Int.reduceToNat, hpq, hw]
        refine call_is hcl ?_
        cases bcl
        · try simp only [I, B, D, RX, ↓ KW, Nat.reduceBEq, Nat.reduceAdd, Nat.reduceLeDiff, Int.reduceNe, Int.reduceBEq, Int.reduceEq, reduceCtorEq, Nat.reduceMul, Int.reduceLT, Int.reduceLE, Int.reduceToNat]
          exact (hyes2 rfl).symm ▸ rfl
        · try simp only [I, B, D, RX, ↓ KW, Nat.reduceBEq, Nat.reduceAdd, Nat.reduceLeDiff, Int.reduceNe, Int.reduceBEq, Int.reduceEq, reduceCtorEq, Nat.reduceMul, Int.reduceLT, Int.reduceLE, Int.reduceToNat]
          refine back2 () _ (by simpa using hnext2) ?_
          refine le_tok2 (by decide) ?_ ?_ ?_ ?_ <;> simp [LX, I, B, D]
    · rintro ⟨⟩ hno2
      try simp only [I, B, D, RX, ↓ KW, Nat.reduceBEq, Nat.reduceAdd, Nat.reduceLeDiff, Int.reduceNe, Int.reduceBEq, Int.reduceEq, reduceCtorEq, Nat.reduceMul, Int.reduceLT, Int.reduceLE, Int.reduceToNat]
      refine back () _ ?_ ?_
      · rw [hnext]; rw [List.take_of_length_le (by simp [setN])] at hno2; exact hno2
      · refine le_tok2 (by decide) ?_ ?_ ?_ ?_ <;> simp [LX, I, B, D]
    · refine le_tok2 (by decide) ?_ ?_ ?_ ?_ <;> simp [LX, I, B, D]
  · rintro ⟨⟩ hno
    try simp only [I, B, D, RX, ↓ KW, Nat.reduceBEq, Nat.reduceAdd, Nat.reduceLeDiff, Int.reduceNe, Int.reduceBEq, Int.reduceEq, reduceCtorEq, Nat.reduceMul, Int.reduceLT, Int.reduceLE, Int.reduceToNat]
    have : apartE t s = false := by
      rw [List.take_of_length_le (by simp [setN])] at hno; exact hno
    rw [this]
  · refine le_tok2 (by decide) ?_ ?_ ?_ ?_ <;> simp [LX, I, B, D]
theorem cFlash.ok {fE : Nat} (hc : cFn P f = some (cc_check_flash fE)) (hE : each27.Spec (Pure P) fE) : cFlash.Spec (Pure P) f := by
  intro t on p h hp
  have hx : 0 ≤ (p : Int) ∧ (p : Int) < (8 : Nat) := by omega
  have g1 := h.con_at hp
  have g2 := h.fl_at hp
  have hw := h.whole
  have hl := h.len
  refine pure_of hm hc (by show 3 ≤ 38; decide) (aw_flat (keep := []) (i := 0) ?_)
  try simp only [I, B, D, RX, ↓ KW, Nat.reduceBEq, Nat.reduceAdd, Nat.reduceLeDiff, Int.reduceNe, Int.reduceBEq, Int.reduceEq, reduceCtorEq, Nat.reduceMul, Int.reduceLT, Int.reduceLE, Int.reduceToNat, cc_check_flash, Z.H, hx, g1, g2]
  cases h1 : (flAt t p == 0)
  rotate_left
  · have : flBad t on p = true := by rw [flBad, h1]; rfl
    try simp only [I, B, D, RX, ↓ KW, Nat.reduceBEq, Nat.reduceAdd, Nat.reduceLeDiff, Int.reduceNe, Int.reduceBEq, Int.reduceEq, reduceCtorEq, Nat.reduceMul, Int.reduceLT, Int.reduceLE, Int.reduceToNat, h1, this]
  have hbad : flBad t on p = (setN (bAnd .i64 (conAt t p) on)).any (flQ t p) := by rw [flBad, h1, Bool.false_or]
  try simp only [I, B, D, RX, ↓ KW, Nat.reduceBEq, Nat.reduceAdd, Nat.reduceLeDiff, Int.reduceNe, Int.reduceBEq, Int.reduceEq, reduceCtorEq, Nat.reduceMul, Int.reduceLT, Int.reduceLE, Int.reduceToNat, h1, hx, g1, g2]
  obtain ⟨g, hg, hi⟩ := hE (bAnd .i64 (conAt t p) on)
  refine call_is hg ?_
  try simp only [I, B, D, RX, ↓ KW, Nat.reduceBEq, Nat.reduceAdd, Nat.reduceLeDiff, Int.reduceNe, Int.reduceBEq, Int.reduceEq, reduceCtorEq, Nat.reduceMul, Int.reduceLT, Int.reduceLE, Int.reduceToNat]
  refine aw_rfor' (fun y : Unit => (⟨[(19, .dat (.fn (.func g) [] [.ref [.int .i64 (bAnd .i64 (conAt t p) on)]]) none), (6, .ptr 6 0), (5, .ptr 5 0), (3, .ptr 4 0)], [(6, ⟨[.bool false], []⟩), (5, ⟨[.int .i64 p], []⟩), (4, ⟨t.cells, []⟩)], [], 400⟩ : S)) (fun i _ => ((setN (bAnd .i64 (conAt t p) on)).take i).any (flQ t p) = false) hi rfl (rows_len fun _ => rfl) (fun _ => rfl) ?_ ?_ () (by simp) ?_
  · rintro i x ⟨⟩ hx' hno F back
    obtain ⟨q, hq, rfl⟩ := map_at hx'
    have hq : (setN (bAnd .i64 (conAt t p) on))[i]? = some q := hq
    have h8 := setN_lt (List.mem_of_getElem? hq)
    have hy : 0 ≤ (q : Int) ∧ (q : Int) < (8 : Nat) := by omega
    have g3 := h.fl_at h8
    have hnext := any_take hno hq
    have hyes : flQ t p q = true → flBad t on p = true := fun e => by rw [hbad]; exact any_yes hq e
    rw [flQ] at hyes hnext
    try simp only [I, B, D, RX, ↓ KW, Nat.reduceBEq, Nat.reduceAdd, Nat.reduceLeDiff, Int.reduceNe, Int.reduceBEq, Int.reduceEq, reduceCtorEq, Nat.reduceMul, Int.reduceLT, Int.reduceLE, Int.reduceToNat]
    generalize hb1 : ((q : Int) != (p : Int)) = b1 at *
    generalize hb2 : (flAt t p == 2) = b2 at *
    generalize hb3 : (flAt t q == 2) = b3 at *
    cases b1
    · try simp only [I, B, D, RX, ↓ KW, Nat.reduceBEq, Nat.reduceAdd, Nat.reduceLeDiff, Int.reduceNe, Int.reduceBEq, Int.reduceEq, reduceCtorEq, Nat.reduceMul, Int.reduceLT, Int.reduceLE, Int.reduceToNat, hb1]
      refine back () _ (by simpa using hnext) ?_
      refine le_tok2 (by decide) ?_ ?_ ?_ ?_ <;> simp [LX, I, B, D]
    try simp only [I, B, D, RX, ↓ KW, Nat.reduceBEq, Nat.reduceAdd, Nat.reduceLeDiff, Int.reduceNe, Int.reduceBEq, Int.reduceEq, reduceCtorEq, Nat.reduceMul, Int.reduceLT, Int.reduceLE, Int.reduceToNat, hb1, hx, hy, g2, hb2]
    cases b2
    · try simp only [I, B, D, RX, ↓ KW, Nat.reduceBEq, Nat.reduceAdd, Nat.reduceLeDiff, Int.reduceNe, Int.reduceBEq, Int.reduceEq, reduceCtorEq, Nat.reduceMul, Int.reduceLT, Int.reduceLE, Int.reduceToNat, hb2]
      refine back () _ (by simpa using hnext) ?_
      refine le_tok2 (by decide) ?_ ?_ ?_ ?_ <;> simp [LX, I, B, D]
    try simp only [I, B, D, RX, ↓ KW, Nat.reduceBEq, Nat.reduceAdd, Nat.reduceLeDiff, Int.reduceNe, Int.reduceBEq, Int.reduceEq, reduceCtorEq, Nat.reduceMul, Int.reduceLT, Int.reduceLE, Int.reduceToNat, hb2, hx, hy, g3, hb3]
    cases b3
    · try simp only [I, B, D, RX, ↓ KW, Nat.reduceBEq, Nat.reduceAdd, Nat.reduceLeDiff, Int.reduceNe, Int.reduceBEq, Int.reduceEq, reduceCtorEq, Nat.reduceMul, Int.reduceLT, Int.reduceLE, Int.reduceToNat, hb3]
      refine back () _ (by simpa using hnext) ?_
      refine le_tok2 (by decide) ?_ ?_ ?_ ?_ <;> simp [LX, I, B, D]
    try simp only [I, B, D, RX, ↓ KW, Nat.reduceBEq, Nat.reduceAdd, Nat.reduceLeDiff, Int.reduceNe, Int.reduceBEq, Int.reduceEq, reduceCtorEq, Nat.reduceMul, Int.reduceLT, Int.reduceLE, Int.reduceToNat, hb3]
    exact (hyes rfl).symm ▸ rfl
  · rintro ⟨⟩ hno
    try simp only [I, B, D, RX, ↓ KW, Nat.reduceBEq, Nat.reduceAdd, Nat.reduceLeDiff, Int.reduceNe, Int.reduceBEq, Int.reduceEq, reduceCtorEq, Nat.reduceMul, Int.reduceLT, Int.reduceLE, Int.reduceToNat]
    have : flBad t on p = false := by
      rw [List.take_of_length_le (by simp [setN])] at hno; rw [hbad]; exact hno
    rw [this]
  · refine le_tok2 (by decide) ?_ ?_ ?_ ?_ <;> simp [LX, I, B, D]
theorem cConf.ok {fH fE fB : Nat} (hc : cFn P f = some (cc_check_conflict fH fE fB)) (hH : setHas.Spec (Pure P) fH) (hE : each27.Spec (Pure P) fE) (hB : pBeside.Spec (Pure P) fB) : cConf.Spec (Pure P) f := by
  intro t on p ht hp
  have h := ht.ln
  have hx : 0 ≤ (p : Int) ∧ (p : Int) < (8 : Nat) := by omega
  have g1 := h.con_at hp
  have hw := h.whole
  have hl := h.len
  have c1 := hH (conAt t p) p
  rw [hasS_tb hp] at c1
  refine pure_of hm hc (by show 3 ≤ 41; decide) (aw_flat (keep := []) (i := 0) ?_)
  try simp only [I, B, D, RX, ↓ KW, Nat.reduceBEq, Nat.reduceAdd, Nat.reduceLeDiff, Int.reduceNe, Int.reduceBEq, Int.reduceEq, reduceCtorEq, Nat.reduceMul, Int.reduceLT, Int.reduceLE, Int.reduceToNat, cc_check_conflict, Z.H, hx, g1]
  refine call_is c1 ?_
  cases h1 : tb (conAt t p) p
  rotate_left
  · have : confBad t on p = true := by rw [confBad, h1]; rfl
    try simp only [I, B, D, RX, ↓ KW, Nat.reduceBEq, Nat.reduceAdd, Nat.reduceLeDiff, Int.reduceNe, Int.reduceBEq, Int.reduceEq, reduceCtorEq, Nat.reduceMul, Int.reduceLT, Int.reduceLE, Int.reduceToNat, h1, this]
  have hbad : confBad t on p = (setN on).any (confQ t p) := by rw [confBad, h1, Bool.false_or]
  try simp only [I, B, D, RX, ↓ KW, Nat.reduceBEq, Nat.reduceAdd, Nat.reduceLeDiff, Int.reduceNe, Int.reduceBEq, Int.reduceEq, reduceCtorEq, Nat.reduceMul, Int.reduceLT, Int.reduceLE, Int.reduceToNat, h1, hx, g1]
  obtain ⟨g, hg, hi⟩ := hE on
  refine call_is hg ?_
  try simp only [I, B, D, RX, ↓ KW, Nat.reduceBEq, Nat.reduceAdd, Nat.reduceLeDiff, Int.reduceNe, Int.reduceBEq, Int.reduceEq, reduceCtorEq, Nat.reduceMul, Int.reduceLT, Int.reduceLE, Int.reduceToNat]
  refine aw_rfor' (fun y : Unit => (⟨[(16, .dat (.fn (.func g) [] [.ref [.int .i64 on]]) none), (6, .ptr 6 0), (5, .ptr 5 0), (3, .ptr 4 0)], [(6, ⟨[.bool false], []⟩), (5, ⟨[.int .i64 p], []⟩), (4, ⟨t.cells, []⟩)], [], 400⟩ : S)) (fun i _ => ((setN on).take i).any (confQ t p) = false) hi rfl (rows_len fun _ => rfl) (fun _ => rfl) ?_ ?_ () (by simp) ?_
  · rintro i x ⟨⟩ hx' hno F back
    obtain ⟨q, hq, rfl⟩ := map_at hx'
    have hq : (setN on)[i]? = some q := hq
    have h8 := setN_lt (List.mem_of_getElem? hq)
    have hy : 0 ≤ (q : Int) ∧ (q : Int) < (8 : Nat) := by omega
    have g3 := h.con_at h8
    have hnext := any_take hno hq
    have hyes : confQ t p q = true → confBad t on p = true := fun e => by rw [hbad]; exact any_yes hq e
    rw [confQ] at hyes hnext
    have c2 := hH (conAt t p) q
    have c3 := hH (conAt t q) p
    have c4 := hB t p q ht
    rw [hasS_tb h8] at c2
    rw [hasS_tb hp] at c3
    try simp only [I, B, D, RX, ↓ KW, Nat.reduceBEq, Nat.reduceAdd, Nat.reduceLeDiff, Int.reduceNe, Int.reduceBEq, Int.reduceEq, reduceCtorEq, Nat.reduceMul, Int.reduceLT, Int.reduceLE, Int.reduceToNat, hx, hy, g1, g3]
    generalize tb (conAt t p) q = b1 at *
    generalize tb (conAt t q) p = b2 at *
    generalize besideR t p q = b3 at *
    refine call_is c2 ?_
    try simp only [I, B, D, RX, ↓ KW, Nat.reduceBEq, Nat.reduceAdd, Nat.reduceLeDiff, Int.reduceNe, Int.reduceBEq, Int.reduceEq, reduceCtorEq, Nat.reduceMul, Int.reduceLT, Int.reduceLE, Int.reduceToNat, hx, hy, g1, g3]
    refine call_is c3 ?_
    cases b1 <;> cases b2
    · try simp only [I, B, D, RX, ↓ KW, Nat.reduceBEq, Nat.reduceAdd, Nat.reduceLeDiff, Int.reduceNe, Int.reduceBEq, Int.reduceEq, reduceCtorEq, Nat.reduceMul, Int.reduceLT, Int.reduceLE, Int.reduceToNat, BNW]
      refine back () _ (by simpa using hnext) ?_
      refine le_tok2 (by decide) ?_ ?_ ?_ ?_ <;> simp [LX, I, B, D]
    · try simp only [I, B, D, RX, ↓ KW, Nat.reduceBEq, Nat.reduceAdd, Nat.reduceLeDiff, Int.reduceNe, Int.reduceBEq, Int.reduceEq, reduceCtorEq, Nat.reduceMul, Int.reduceLT, Int.reduceLE, Int.reduceToNat, BNW]
      exact (hyes rfl).symm ▸ rfl
    · try simp only [I, B, D, RX, ↓ KW, Nat.reduceBEq, Nat.reduceAdd, Nat.reduceLeDiff, Int.reduceNe, Int.reduceBEq, Int.reduceEq, reduceCtorEq, Nat.reduceMul, Int.reduceLT, Int.reduceLE, Int.reduceToNat, BNW]
      exact (hyes rfl).symm ▸ rfl
    · try simp only [I, B, D, RX, ↓ KW, Nat.reduceBEq, Nat.reduceAdd, Nat.reduceLeDiff, Int.reduceNe, Int.reduceBEq, Int.reduceEq, reduceCtorEq, Nat.reduceMul, Int.reduceLT, Int.reduceLE, Int.reduceToNat, BNW, hw]
      refine call_is c4 ?_
      cases b3
      · try simp only [I, B, D, RX, ↓ KW, Nat.reduceBEq, Nat.reduceAdd, Nat.reduceLeDiff, Int.reduceNe, Int.reduceBEq, Int.reduceEq, reduceCtorEq, Nat.reduceMul, Int.reduceLT, Int.reduceLE, Int.reduceToNat]
        refine back () _ (by simpa using hnext) ?_
        refine le_tok2 (by decide) ?_ ?_ ?_ ?_ <;> simp [LX, I, B, D]
      · try simp only [I, B, D, RX, ↓ KW, Nat.reduceBEq, Nat.reduceAdd, Nat.reduceLeDiff, Int.reduceNe, Int.reduceBEq, Int.reduceEq, reduceCtorEq, Nat.reduceMul, Int.reduceLT, Int.reduceLE, Int.reduceToNat]
        exact (hyes rfl).symm ▸ rfl
  · rintro ⟨⟩ hno
    try simp only [I, B, D, RX, ↓ KW, Nat.reduceBEq, Nat.reduceAdd, Nat.reduceLeDiff, Int.reduceNe, Int.reduceBEq, Int.reduceEq, reduceCtorEq, Nat.reduceMul, Int.reduceLT, Int.reduceLE, Int.reduceToNat]
    have : confBad t on p = false := by
      rw [List.take_of_length_le (by simp [setN])] at hno; rw [hbad]; exact hno
    rw [this]
  · refine le_tok2 (by decide) ?_ ?_ ?_ ?_ <;> simp [LX, I, B, D]
theorem cRail.ok {fC fA : Nat} (hc : cFn P f = some (cc_check_rail fC fA)) (hC : cClashes.Spec (Pure P) fC) (hA : cApart.Spec (Pure P) fA) : cRail.Spec (Pure P) f := by
  intro t on r ht
  have h := ht.ln
  have hw := h.whole
  have c1 := hC t r.clear h
  have c2 := hC t r.dwell h
  have c3 := hC t r.exit h
  have c4 := hA t r.exit ht
  rw [railBad]
  generalize clashesE t r.clear = b5 at *
  generalize clashesE t r.dwell = b6 at *
  generalize clashesE t r.exit = b7 at *
  generalize apartE t r.exit = b8 at *
  generalize h1 : (bAndNot .i64 (bOr .i64 (bOr .i64 (bOr .i64 r.bars r.clear) r.dwell) r.exit) on != 0) = b1
  generalize h2 : (r.dwell == 0) = b2
  generalize h3 : (r.exit == 0) = b3
  generalize h4 : (bAnd .i64 r.dwell r.bars != 0) = b4
  generalize h9 : decide (r.hold > 0) = b9
  generalize h10 : (r.clear != 0) = b10
  generalize h11 : decide (r.green < 1) = b11
  generalize h12 : decide (r.stay < 1) = b12
  generalize h13 : decide (r.most > 0) = b13
  generalize h14 : decide (r.most < r.stay) = b14
  generalize h15 : decide (r.limit ≤ r.delay) = b15
  refine pure_of hm hc (by show 3 ≤ 101; decide) (aw_flat (keep := []) (i := 0) ?_)
  try simp only [I, B, D, RX, ↓ KW, Nat.reduceBEq, Nat.reduceAdd, Nat.reduceLeDiff, Int.reduceNe, Int.reduceBEq, Int.reduceEq, reduceCtorEq, Nat.reduceMul, Int.reduceLT, Int.reduceLE, Int.reduceToNat, cc_check_rail, Z.H, h1, h2, h3, h4, h9, h10, h11, h12, h13, h14, h15, hw, Rl.cells, BNW]
  cases b1
  rotate_left
  · try simp only [I, B, D, RX, ↓ KW, Nat.reduceBEq, Nat.reduceAdd, Nat.reduceLeDiff, Int.reduceNe, Int.reduceBEq, Int.reduceEq, reduceCtorEq, Nat.reduceMul, Int.reduceLT, Int.reduceLE, Int.reduceToNat, h1, h2, h3, h4, h9, h10, h11, h12, h13, h14, h15, hw, Rl.cells, BNW]
  try simp only [I, B, D, RX, ↓ KW, Nat.reduceBEq, Nat.reduceAdd, Nat.reduceLeDiff, Int.reduceNe, Int.reduceBEq, Int.reduceEq, reduceCtorEq, Nat.reduceMul, Int.reduceLT, Int.reduceLE, Int.reduceToNat, h1, h2, h3, h4, h9, h10, h11, h12, h13, h14, h15, hw, Rl.cells, BNW]
  cases b2
  rotate_left
  · try simp only [I, B, D, RX, ↓ KW, Nat.reduceBEq, Nat.reduceAdd, Nat.reduceLeDiff, Int.reduceNe, Int.reduceBEq, Int.reduceEq, reduceCtorEq, Nat.reduceMul, Int.reduceLT, Int.reduceLE, Int.reduceToNat, h1, h2, h3, h4, h9, h10, h11, h12, h13, h14, h15, hw, Rl.cells, BNW]
  try simp only [I, B, D, RX, ↓ KW, Nat.reduceBEq, Nat.reduceAdd, Nat.reduceLeDiff, Int.reduceNe, Int.reduceBEq, Int.reduceEq, reduceCtorEq, Nat.reduceMul, Int.reduceLT, Int.reduceLE, Int.reduceToNat, h1, h2, h3, h4, h9, h10, h11, h12, h13, h14, h15, hw, Rl.cells, BNW]
  cases b3
  rotate_left
  · try simp only [I, B, D, RX, ↓ KW, Nat.reduceBEq, Nat.reduceAdd, Nat.reduceLeDiff, Int.reduceNe, Int.reduceBEq, Int.reduceEq, reduceCtorEq, Nat.reduceMul, Int.reduceLT, Int.reduceLE, Int.reduceToNat, h1, h2, h3, h4, h9, h10, h11, h12, h13, h14, h15, hw, Rl.cells, BNW]
  try simp only [I, B, D, RX, ↓ KW, Nat.reduceBEq, Nat.reduceAdd, Nat.reduceLeDiff, Int.reduceNe, Int.reduceBEq, Int.reduceEq, reduceCtorEq, Nat.reduceMul, Int.reduceLT, Int.reduceLE, Int.reduceToNat, h1, h2, h3, h4, h9, h10, h11, h12, h13, h14, h15, hw, Rl.cells, BNW]
  cases b4
  rotate_left
  · try simp only [I, B, D, RX, ↓ KW, Nat.reduceBEq, Nat.reduceAdd, Nat.reduceLeDiff, Int.reduceNe, Int.reduceBEq, Int.reduceEq, reduceCtorEq, Nat.reduceMul, Int.reduceLT, Int.reduceLE, Int.reduceToNat, h1, h2, h3, h4, h9, h10, h11, h12, h13, h14, h15, hw, Rl.cells, BNW]
  try simp only [I, B, D, RX, ↓ KW, Nat.reduceBEq, Nat.reduceAdd, Nat.reduceLeDiff, Int.reduceNe, Int.reduceBEq, Int.reduceEq, reduceCtorEq, Nat.reduceMul, Int.reduceLT, Int.reduceLE, Int.reduceToNat, h1, h2, h3, h4, h9, h10, h11, h12, h13, h14, h15, hw, Rl.cells, BNW]
  refine call_is c1 ?_
  cases b5
  rotate_left
  · try simp only [I, B, D, RX, ↓ KW, Nat.reduceBEq, Nat.reduceAdd, Nat.reduceLeDiff, Int.reduceNe, Int.reduceBEq, Int.reduceEq, reduceCtorEq, Nat.reduceMul, Int.reduceLT, Int.reduceLE, Int.reduceToNat, h1, h2, h3, h4, h9, h10, h11, h12, h13, h14, h15, hw, Rl.cells, BNW]
  try simp only [I, B, D, RX, ↓ KW, Nat.reduceBEq, Nat.reduceAdd, Nat.reduceLeDiff, Int.reduceNe, Int.reduceBEq, Int.reduceEq, reduceCtorEq, Nat.reduceMul, Int.reduceLT, Int.reduceLE, Int.reduceToNat, h1, h2, h3, h4, h9, h10, h11, h12, h13, h14, h15, hw, Rl.cells, BNW]
  refine call_is c2 ?_
  cases b6
  rotate_left
  · try simp only [I, B, D, RX, ↓ KW, Nat.reduceBEq, Nat.reduceAdd, Nat.reduceLeDiff, Int.reduceNe, Int.reduceBEq, Int.reduceEq, reduceCtorEq, Nat.reduceMul, Int.reduceLT, Int.reduceLE, Int.reduceToNat, h1, h2, h3, h4, h9, h10, h11, h12, h13, h14, h15, hw, Rl.cells, BNW]
  try simp only [I, B, D, RX, ↓ KW, Nat.reduceBEq, Nat.reduceAdd, Nat.reduceLeDiff, Int.reduceNe, Int.reduceBEq, Int.reduceEq, reduceCtorEq, Nat.reduceMul, Int.reduceLT, Int.reduceLE, Int.reduceToNat, h1, h2, h3, h4, h9, h10, h11, h12, h13, h14, h15, hw, Rl.cells, BNW]
  refine call_is c3 ?_
  cases b7
  rotate_left
  · try simp only [I, B, D, RX, ↓ KW, Nat.reduceBEq, Nat.reduceAdd, Nat.reduceLeDiff, Int.reduceNe, Int.reduceBEq, Int.reduceEq, reduceCtorEq, Nat.reduceMul, Int.reduceLT, Int.reduceLE, Int.reduceToNat, h1, h2, h3, h4, h9, h10, h11, h12, h13, h14, h15, hw, Rl.cells, BNW]
  try simp only [I, B, D, RX, ↓ KW, Nat.reduceBEq, Nat.reduceAdd, Nat.reduceLeDiff, Int.reduceNe, Int.reduceBEq, Int.reduceEq, reduceCtorEq, Nat.reduceMul, Int.reduceLT, Int.reduceLE, Int.reduceToNat, h1, h2, h3, h4, h9, h10, h11, h12, h13, h14, h15, hw, Rl.cells, BNW]
  refine call_is c4 ?_
  cases b8
  rotate_left
  · try simp only [I, B, D, RX, ↓ KW, Nat.reduceBEq, Nat.reduceAdd, Nat.reduceLeDiff, Int.reduceNe, Int.reduceBEq, Int.reduceEq, reduceCtorEq, Nat.reduceMul, Int.reduceLT, Int.reduceLE, Int.reduceToNat, h1, h2, h3, h4, h9, h10, h11, h12, h13, h14, h15, hw, Rl.cells, BNW]
  try simp only [I, B, D, RX, ↓ KW, Nat.reduceBEq, Nat.reduceAdd, Nat.reduceLeDiff, Int.reduceNe, Int.reduceBEq, Int.reduceEq, reduceCtorEq, Nat.reduceMul, Int.reduceLT, Int.reduceLE, Int.reduceToNat, h1, h2, h3, h4, h9, h10, h11, h12, h13, h14, h15, hw, Rl.cells, BNW]
  cases b9 <;> cases b10
  all_goals try simp only [I, B, D, RX, ↓ KW, Nat.reduceBEq, Nat.reduceAdd, Nat.reduceLeDiff, Int.reduceNe, Int.reduceBEq, Int.reduceEq, reduceCtorEq, Nat.reduceMul, Int.reduceLT, Int.reduceLE, Int.reduceToNat, h1, h2, h3, h4, h9, h10, h11, h12, h13, h14, h15, hw, Rl.cells, BNW]
  all_goals try rfl
  all_goals cases b11
  all_goals try simp only [I, B, D, RX, ↓ KW, Nat.reduceBEq, Nat.reduceAdd, Nat.reduceLeDiff, Int.reduceNe, Int.reduceBEq, Int.reduceEq, reduceCtorEq, Nat.reduceMul, Int.reduceLT, Int.reduceLE, Int.reduceToNat, h1, h2, h3, h4, h9, h10, h11, h12, h13, h14, h15, hw, Rl.cells, BNW]
  all_goals try rfl
  all_goals cases b12
  all_goals try simp only [I, B, D, RX, ↓ KW, Nat.reduceBEq, Nat.reduceAdd, Nat.reduceLeDiff, Int.reduceNe, Int.reduceBEq, Int.reduceEq, reduceCtorEq, Nat.reduceMul, Int.reduceLT, Int.reduceLE, Int.reduceToNat, h1, h2, h3, h4, h9, h10, h11, h12, h13, h14, h15, hw, Rl.cells, BNW]
  all_goals try rfl
  all_goals cases b13
  all_goals try simp only [I, B, D, RX, ↓ KW, Nat.reduceBEq, Nat.reduceAdd, Nat.reduceLeDiff, Int.reduceNe, Int.reduceBEq, Int.reduceEq, reduceCtorEq, Nat.reduceMul, Int.reduceLT, Int.reduceLE, Int.reduceToNat, h1, h2, h3, h4, h9, h10, h11, h12, h13, h14, h15, hw, Rl.cells, BNW]
  all_goals try rfl
  all_goals try cases b14
  all_goals try simp only [I, B, D, RX, ↓ KW, Nat.reduceBEq, Nat.reduceAdd, Nat.reduceLeDiff, Int.reduceNe, Int.reduceBEq, Int.reduceEq, reduceCtorEq, Nat.reduceMul, Int.reduceLT, Int.reduceLE, Int.reduceToNat, h1, h2, h3, h4, h9, h10, h11, h12, h13, h14, h15, hw, Rl.cells, BNW]
  all_goals try rfl
theorem cFirst.ok {fB fN : Nat} (hc : cFn P f = some (cc_check_first fB fN)) (hB : cBad.Spec (Pure P) fB) (hN : cNone.Spec (Pure P) fN) : cFirst.Spec (Pure P) f := by
  intro code n g fs cs w hn hg
  refine pure_of hm hc (by show 3 ≤ 20; decide) (aw_flat (keep := []) (i := 0) ?_)
  try simp only [I, B, D, RX, ↓ KW, Nat.reduceBEq, Nat.reduceAdd, Nat.reduceLeDiff, Int.reduceNe, Int.reduceBEq, Int.reduceEq, reduceCtorEq, Nat.reduceMul, Int.reduceLT, Int.reduceLE, Int.reduceToNat, cc_check_first, Z.H]
  refine aw_loop' (fun k : Nat => (⟨[(9, .dat (I k) none), (8, .dat (I n) none), (2, .dat (.fn (.func g) fs cs) none), (0, .dat (I code) none), (6, .ptr 4 0)], [(4, ⟨[I 0, I 0], []⟩)], [], 400⟩ : S)) (fun k => n - k) (fun k => k ≤ n ∧ ∀ i, i < k → w i = false) ?_ 0 (by simp) ?_
  rotate_left
  · refine le_tok2 (by decide) ?_ ?_ ?_ ?_ <;> simp [LX, I, B, D]
  rintro k ⟨hk, hno⟩ A back
  have hwr := wrap_succ (k := k) (by omega)
  try simp only [I, B, D, RX, ↓ KW, Nat.reduceBEq, Nat.reduceAdd, Nat.reduceLeDiff, Int.reduceNe, Int.reduceBEq, Int.reduceEq, reduceCtorEq, Nat.reduceMul, Int.reduceLT, Int.reduceLE, Int.reduceToNat]
  cases h2 : decide ((k : Int) < (n : Int))
  · have e : k = n := by have := of_decide_eq_false h2; omega
    subst e
    try simp only [I, B, D, RX, ↓ KW, Nat.reduceBEq, Nat.reduceAdd, Nat.reduceLeDiff, Int.reduceNe, Int.reduceBEq, Int.reduceEq, reduceCtorEq, Nat.reduceMul, Int.reduceLT, Int.reduceLE, Int.reduceToNat, h2]
    refine call_is hN ?_
    rw [first_none hno]
    try simp only [I, B, D, RX, ↓ KW, Nat.reduceBEq, Nat.reduceAdd, Nat.reduceLeDiff, Int.reduceNe, Int.reduceBEq, Int.reduceEq, reduceCtorEq, Nat.reduceMul, Int.reduceLT, Int.reduceLE, Int.reduceToNat, fltC]
  · have h8 : k < n := by have := of_decide_eq_true h2; omega
    try simp only [I, B, D, RX, ↓ KW, Nat.reduceBEq, Nat.reduceAdd, Nat.reduceLeDiff, Int.reduceNe, Int.reduceBEq, Int.reduceEq, reduceCtorEq, Nat.reduceMul, Int.reduceLT, Int.reduceLE, Int.reduceToNat, h2]
    refine call_is (hg k h8) ?_
    cases h3 : w k
    · try simp only [I, B, D, RX, ↓ KW, Nat.reduceBEq, Nat.reduceAdd, Nat.reduceLeDiff, Int.reduceNe, Int.reduceBEq, Int.reduceEq, reduceCtorEq, Nat.reduceMul, Int.reduceLT, Int.reduceLE, Int.reduceToNat]
      refine back (k + 1) _ ⟨by omega, fun i hi => ?_⟩ (by omega) ?_
      · by_cases e : i = k
        · subst e; exact h3
        · exact hno i (by omega)
      · refine le_tok2 (by decide) ?_ ?_ ?_ ?_ <;> simp [LX, I, B, D, hwr]
    · try simp only [I, B, D, RX, ↓ KW, Nat.reduceBEq, Nat.reduceAdd, Nat.reduceLeDiff, Int.reduceNe, Int.reduceBEq, Int.reduceEq, reduceCtorEq, Nat.reduceMul, Int.reduceLT, Int.reduceLE, Int.reduceToNat]
      refine call_is (hB code k) ?_
      rw [first_go h8 hno h3]
      try simp only [I, B, D, RX, ↓ KW, Nat.reduceBEq, Nat.reduceAdd, Nat.reduceLeDiff, Int.reduceNe, Int.reduceBEq, Int.reduceEq, reduceCtorEq, Nat.reduceMul, Int.reduceLT, Int.reduceLE, Int.reduceToNat, fltC]
end
end Go.Eng
namespace Go.Eng
set_option linter.unusedVariables false
set_option linter.unusedSimpArgs false
set_option linter.unnecessarySimpa false
open Go
set_option linter.unusedVariables false
set_option linter.unusedSimpArgs false
set_option maxRecDepth 10000
set_option maxHeartbeats 4000000
theorem rowGo_next {on seen : Int} {l : List Int} {x : Int} : rowGo on seen (x :: l) = if !hasS on x || hasS seen x then none else rowGo on (withS seen x) l := by
  simp only [rowGo, List.foldlM_cons]
  split <;> rfl
def rowAt (r : Gr) (k : Nat) : List Int := if k = 0 then r.a.getD [] ++ r.b.getD [] else if k = 1 then r.b.getD [] else []
theorem rowAt_split (r : Gr) {k : Nat} (hk : k < 2) : rowAt r k = (r.row k).getD [] ++ rowAt r (k + 1) := by
  have : k = 0 ∨ k = 1 := by omega
  rcases this with rfl | rfl
  · rfl
  · simp [rowAt, Gr.row]
section
variable {P : Program} (hm : P.follows .mixedOrders = true) {f : Nat}
include hm
theorem cRings.ok {fB fH fW fN : Nat} (hc : cFn P f = some (cc_check_rings fB fH fW fN)) (hB : cBad.Spec (Pure P) fB) (hH : setHas.Spec (Pure P) fH) (hW : setWith.Spec (Pure P) fW) (hN : cNone.Spec (Pure P) fN) : cRings.Spec (Pure P) f := by
  intro t on ht
  have h := ht.ln
  have hg := tb_104 h
  have hbg := ht.groups
  refine pure_of hm hc (by show 2 ≤ 67; decide) (aw_flat (keep := []) (i := 0) ?_)
  try simp only [I, B, D, RY, ↓ KW, Nat.reduceBEq, Nat.reduceAdd, Nat.reduceLeDiff, Int.reduceNe, Int.reduceBEq, Int.reduceEq, reduceCtorEq, Nat.reduceMul, Int.reduceLT, Int.reduceLE, Int.reduceToNat, cc_check_rings, Z.H, hg, a_len]
  cases h0 : ((((t.groups.getD []).length : Nat) : Int) == 0)
  rotate_left
  · have : ringE t on = (8, 0) := by rw [ringE, if_pos (by simpa using h0)]
    try simp only [I, B, D, RY, ↓ KW, Nat.reduceBEq, Nat.reduceAdd, Nat.reduceLeDiff, Int.reduceNe, Int.reduceBEq, Int.reduceEq, reduceCtorEq, Nat.reduceMul, Int.reduceLT, Int.reduceLE, Int.reduceToNat, h0]
    refine call_is (hB 8 0) ?_
    rw [this]
    try simp only [I, B, D, RY, ↓ KW, Nat.reduceBEq, Nat.reduceAdd, Nat.reduceLeDiff, Int.reduceNe, Int.reduceBEq, Int.reduceEq, reduceCtorEq, Nat.reduceMul, Int.reduceLT, Int.reduceLE, Int.reduceToNat, fltC, setCells]
  have hne : ringE t on = ringL on (t.groups.getD []) 0 0 := by rw [ringE, if_neg (by simpa using h0)]
  try simp only [I, B, D, RY, ↓ KW, Nat.reduceBEq, Nat.reduceAdd, Nat.reduceLeDiff, Int.reduceNe, Int.reduceBEq, Int.reduceEq, reduceCtorEq, Nat.reduceMul, Int.reduceLT, Int.reduceLE, Int.reduceToNat, h0, hg, a_len]
  refine aw_loop' (fun y : Nat × Int => (⟨[(20, .dat (I y.1) none), (19, .dat (I ((t.groups.getD []).length : Nat)) none), (18, .dat (slAV Gr.cells t.groups) none), (4, .ptr 5 0), (1, .dat (I on) none), (5, .dat (I y.2) none)], [(5, ⟨[I 0, I 0], []⟩)], [], 400⟩ : S)) (fun y => (t.groups.getD []).length - y.1) (fun y => y.1 ≤ (t.groups.getD []).length ∧ ringL on ((t.groups.getD []).drop y.1) y.1 y.2 = ringE t on) ?_ (0, 0) ⟨by simp, by rw [hne]; rfl⟩ ?_
  rotate_left
  · refine le_tok2 (by decide) ?_ ?_ ?_ ?_ <;> simp [LX, I, B, D]
  rintro ⟨g, seen⟩ ⟨hg1, hinv⟩ A back
  simp only at hg1 hinv
  have hw := wrap_succ (k := g) (by omega)
  try simp only [I, B, D, RY, ↓ KW, Nat.reduceBEq, Nat.reduceAdd, Nat.reduceLeDiff, Int.reduceNe, Int.reduceBEq, Int.reduceEq, reduceCtorEq, Nat.reduceMul, Int.reduceLT, Int.reduceLE, Int.reduceToNat]
  cases h2 : decide ((g : Int) < (((t.groups.getD []).length : Nat) : Int))
  · have e : g = (t.groups.getD []).length := by have := of_decide_eq_false h2; omega
    subst e
    rw [List.drop_length, ringL] at hinv
    cases h3 : (seen != on)
    · have h3' : (seen == on) = true := by simpa using h3
      rw [h3'] at hinv
      try simp only [I, B, D, RY, ↓ KW, Nat.reduceBEq, Nat.reduceAdd, Nat.reduceLeDiff, Int.reduceNe, Int.reduceBEq, Int.reduceEq, reduceCtorEq, Nat.reduceMul, Int.reduceLT, Int.reduceLE, Int.reduceToNat, h2, h3]
      refine call_is hN ?_
      rw [← hinv]
      try simp only [I, B, D, RY, ↓ KW, Nat.reduceBEq, Nat.reduceAdd, Nat.reduceLeDiff, Int.reduceNe, Int.reduceBEq, Int.reduceEq, reduceCtorEq, Nat.reduceMul, Int.reduceLT, Int.reduceLE, Int.reduceToNat, fltC, setCells]
    · have h3' : (seen == on) = false := by simpa using h3
      rw [h3'] at hinv
      try simp only [I, B, D, RY, ↓ KW, Nat.reduceBEq, Nat.reduceAdd, Nat.reduceLeDiff, Int.reduceNe, Int.reduceBEq, Int.reduceEq, reduceCtorEq, Nat.reduceMul, Int.reduceLT, Int.reduceLE, Int.reduceToNat, h2, h3]
      refine call_is (hB 8 0) ?_
      rw [← hinv]
      try simp only [I, B, D, RY, ↓ KW, Nat.reduceBEq, Nat.reduceAdd, Nat.reduceLeDiff, Int.reduceNe, Int.reduceBEq, Int.reduceEq, reduceCtorEq, Nat.reduceMul, Int.reduceLT, Int.reduceLE, Int.reduceToNat, fltC, setCells]
  have hlt : g < (t.groups.getD []).length := by have := of_decide_eq_true h2; omega
  obtain ⟨gr, hgr⟩ : ∃ x, (t.groups.getD [])[g]? = some x := ⟨_, List.getElem?_eq_getElem hlt⟩
  have hrs := ht.rows gr (List.mem_of_getElem? hgr)
  have hdrop : (t.groups.getD []).drop g = gr :: (t.groups.getD []).drop (g + 1) := by
    rw [List.drop_eq_getElem_cons hlt]
    congr 1
    rw [List.getElem?_eq_getElem hlt] at hgr; exact Option.some.inj hgr
  rw [hdrop, ringL] at hinv
  have hpart : partA (Gr.cells gr) 0 (some 2) = some (.agg (Gr.cells gr)) := rfl
  have hset : ∀ c : List AV, c.length = 2 → setCells c 0 (Gr.cells gr) = Gr.cells gr := fun c h => set_all (by rw [h]; rfl)
  have hr0 : (Gr.cells gr)[0]? = some (slAV intRow gr.a) := rfl
  have hr1 : (Gr.cells gr)[1]? = some (slAV intRow gr.b) := rfl
  try simp only [I, B, D, RY, ↓ KW, Nat.reduceBEq, Nat.reduceAdd, Nat.reduceLeDiff, Int.reduceNe, Int.reduceBEq, Int.reduceEq, reduceCtorEq, Nat.reduceMul, Int.reduceLT, Int.reduceLE, Int.reduceToNat, h2, a_rows, hgr, Gr.len, hpart, hset, hr0, hr1, a_len]
  refine ⟨by omega, by omega, by omega, ?_⟩
  have hwl : IntKind.i64.wrap ((((gr.a.getD []).length : Nat) : Int) + (((gr.b.getD []).length : Nat) : Int)) = (((gr.a.getD []).length + (gr.b.getD []).length : Nat) : Int) := by rw [wrap_id (by omega) (by omega)]; omega
  try simp only [I, B, D, RY, ↓ KW, Nat.reduceBEq, Nat.reduceAdd, Nat.reduceLeDiff, Int.reduceNe, Int.reduceBEq, Int.reduceEq, reduceCtorEq, Nat.reduceMul, Int.reduceLT, Int.reduceLE, Int.reduceToNat, Gr.len, hpart, hset, hr0, hr1, a_len, hwl]
  cases h3 : ((((gr.a.getD []).length + (gr.b.getD []).length : Nat) : Int) == 0)
  rotate_left
  · rw [if_pos (by simp only [beq_iff_eq] at h3; omega)] at hinv
    try simp only [I, B, D, RY, ↓ KW, Nat.reduceBEq, Nat.reduceAdd, Nat.reduceLeDiff, Int.reduceNe, Int.reduceBEq, Int.reduceEq, reduceCtorEq, Nat.reduceMul, Int.reduceLT, Int.reduceLE, Int.reduceToNat, h3]
    refine call_is (hB 8 g) ?_
    rw [← hinv]
    try simp only [I, B, D, RY, ↓ KW, Nat.reduceBEq, Nat.reduceAdd, Nat.reduceLeDiff, Int.reduceNe, Int.reduceBEq, Int.reduceEq, reduceCtorEq, Nat.reduceMul, Int.reduceLT, Int.reduceLE, Int.reduceToNat, fltC, setCells]
  rw [if_neg (by intro e; rw [e] at h3; simp at h3)] at hinv
  try simp only [I, B, D, RY, ↓ KW, Nat.reduceBEq, Nat.reduceAdd, Nat.reduceLeDiff, Int.reduceNe, Int.reduceBEq, Int.reduceEq, reduceCtorEq, Nat.reduceMul, Int.reduceLT, Int.reduceLE, Int.reduceToNat, h3, Gr.len, hpart, hset]
  refine aw_loop' (fun y : Nat × Int => (⟨[(36, .dat (I y.1) none), (35, .dat (.agg (Gr.cells gr)) none), (1, .dat (I on) none), (5, .dat (I y.2) none), (6, .dat (I g) none), (4, .ptr 5 0), (20, .dat (I g) none), (19, .dat (I ((t.groups.getD []).length : Nat)) none), (18, .dat (slAV Gr.cells t.groups) none)], [(5, ⟨[I 0, I 0], []⟩)], [], 500⟩ : S)) (fun y => 2 - y.1) (fun y => y.1 ≤ 2 ∧ rowGo on seen (gr.a.getD [] ++ gr.b.getD []) = rowGo on y.2 (rowAt gr y.1)) ?_ (0, seen) ⟨by simp, rfl⟩ ?_
  rotate_left
  · refine le_tok2 (by decide) ?_ ?_ ?_ ?_ <;> simp [LX, I, B, D]
  rintro ⟨k, s1⟩ ⟨hk, hrow1⟩ A1 back1
  simp only at hk hrow1
  have hw1 := wrap_succ (k := k) (by omega)
  try simp only [I, B, D, RY, ↓ KW, Nat.reduceBEq, Nat.reduceAdd, Nat.reduceLeDiff, Int.reduceNe, Int.reduceBEq, Int.reduceEq, reduceCtorEq, Nat.reduceMul, Int.reduceLT, Int.reduceLE, Int.reduceToNat]
  cases h4 : decide ((k : Int) < 2)
  · have e : k = 2 := by have := of_decide_eq_false h4; omega
    subst e
    have e2 : rowGo on s1 (rowAt gr 2) = some s1 := rfl
    rw [hrow1, e2] at hinv
    try simp only [I, B, D, RY, ↓ KW, Nat.reduceBEq, Nat.reduceAdd, Nat.reduceLeDiff, Int.reduceNe, Int.reduceBEq, Int.reduceEq, reduceCtorEq, Nat.reduceMul, Int.reduceLT, Int.reduceLE, Int.reduceToNat, h4]
    refine back (g + 1, s1) _ ⟨by omega, hinv⟩ (by simp only; omega) ?_
    refine le_tok2 (by decide) ?_ ?_ ?_ ?_ <;> simp [LX, I, B, D, hw]
  have hk2 : k < 2 := by have := of_decide_eq_true h4; omega
  have hx2 : 0 ≤ (k : Int) ∧ (k : Int) < (2 : Nat) := by omega
  have hrow : (Gr.cells gr)[k]? = some (slAV intRow (gr.row k)) := by
    have : k = 0 ∨ k = 1 := by omega
    rcases this with rfl | rfl <;> rfl
  have hrl : ((gr.row k).getD []).length ≤ 1048576 := by
    have : k = 0 ∨ k = 1 := by omega
    rcases this with rfl | rfl
    exact hrs.1
    exact hrs.2
  rw [rowAt_split gr hk2] at hrow1
  try simp only [I, B, D, RY, ↓ KW, Nat.reduceBEq, Nat.reduceAdd, Nat.reduceLeDiff, Int.reduceNe, Int.reduceBEq, Int.reduceEq, reduceCtorEq, Nat.reduceMul, Int.reduceLT, Int.reduceLE, Int.reduceToNat, h4, hx2, hrow, a_len]
  refine aw_loop' (fun z : Nat × Int => (⟨[(41, .dat (I z.1) none), (40, .dat (I (((gr.row k).getD []).length : Nat)) none), (39, .dat (slAV intRow (gr.row k)) none), (1, .dat (I on) none), (5, .dat (I z.2) none), (6, .dat (I g) none), (4, .ptr 5 0), (36, .dat (I k) none), (35, .dat (.agg (Gr.cells gr)) none), (20, .dat (I g) none), (19, .dat (I ((t.groups.getD []).length : Nat)) none), (18, .dat (slAV Gr.cells t.groups) none)], [(5, ⟨[I 0, I 0], []⟩)], [], 600⟩ : S)) (fun z => ((gr.row k).getD []).length - z.1) (fun z => z.1 ≤ ((gr.row k).getD []).length ∧ rowGo on seen (gr.a.getD [] ++ gr.b.getD []) = rowGo on z.2 (((gr.row k).getD []).drop z.1 ++ rowAt gr (k + 1))) ?_ (0, s1) ⟨by simp, by simpa using hrow1⟩ ?_
  rotate_left
  · refine le_tok2 (by decide) ?_ ?_ ?_ ?_ <;> simp [LX, I, B, D]
  rintro ⟨i, s2⟩ ⟨hi, hrow2⟩ A2 back2
  simp only at hi hrow2
  have hw2 := wrap_succ (k := i) (by omega)
  try simp only [I, B, D, RY, ↓ KW, Nat.reduceBEq, Nat.reduceAdd, Nat.reduceLeDiff, Int.reduceNe, Int.reduceBEq, Int.reduceEq, reduceCtorEq, Nat.reduceMul, Int.reduceLT, Int.reduceLE, Int.reduceToNat]
  cases h5 : decide ((i : Int) < ((((gr.row k).getD []).length : Nat) : Int))
  · have e : i = ((gr.row k).getD []).length := by have := of_decide_eq_false h5; omega
    subst e
    rw [List.drop_length, List.nil_append] at hrow2
    try simp only [I, B, D, RY, ↓ KW, Nat.reduceBEq, Nat.reduceAdd, Nat.reduceLeDiff, Int.reduceNe, Int.reduceBEq, Int.reduceEq, reduceCtorEq, Nat.reduceMul, Int.reduceLT, Int.reduceLE, Int.reduceToNat, h5]
    refine back1 (k + 1, s2) _ ⟨by omega, hrow2⟩ (by simp only; omega) ?_
    refine le_tok2 (by decide) ?_ ?_ ?_ ?_ <;> simp [LX, I, B, D, hw1]
  have hil : i < ((gr.row k).getD []).length := by have := of_decide_eq_true h5; omega
  obtain ⟨x, hx⟩ : ∃ x, ((gr.row k).getD [])[i]? = some x := ⟨_, List.getElem?_eq_getElem hil⟩
  have hdr : ((gr.row k).getD []).drop i = x :: ((gr.row k).getD []).drop (i + 1) := by
    rw [List.drop_eq_getElem_cons hil]
    congr 1
    rw [List.getElem?_eq_getElem hil] at hx; exact Option.some.inj hx
  rw [hdr, List.cons_append, rowGo_next] at hrow2
  try simp only [I, B, D, RY, ↓ KW, Nat.reduceBEq, Nat.reduceAdd, Nat.reduceLeDiff, Int.reduceNe, Int.reduceBEq, Int.reduceEq, reduceCtorEq, Nat.reduceMul, Int.reduceLT, Int.reduceLE, Int.reduceToNat, h5, a_rows, hx, intRow]
  refine ⟨by omega, ?_⟩
  refine call_is (hH on x) ?_
  generalize hasS on x = b1 at *
  have c2 := hH s2 x
  generalize hasS s2 x = b2 at *
  cases b1
  · have : rowGo on seen (gr.a.getD [] ++ gr.b.getD []) = none := by rw [hrow2]; rfl
    rw [this] at hinv
    try simp only [I, B, D, RY, ↓ KW, Nat.reduceBEq, Nat.reduceAdd, Nat.reduceLeDiff, Int.reduceNe, Int.reduceBEq, Int.reduceEq, reduceCtorEq, Nat.reduceMul, Int.reduceLT, Int.reduceLE, Int.reduceToNat]
    refine call_is (hB 8 g) ?_
    rw [← hinv]
    try simp only [I, B, D, RY, ↓ KW, Nat.reduceBEq, Nat.reduceAdd, Nat.reduceLeDiff, Int.reduceNe, Int.reduceBEq, Int.reduceEq, reduceCtorEq, Nat.reduceMul, Int.reduceLT, Int.reduceLE, Int.reduceToNat, fltC, setCells]
  · try simp only [I, B, D, RY, ↓ KW, Nat.reduceBEq, Nat.reduceAdd, Nat.reduceLeDiff, Int.reduceNe, Int.reduceBEq, Int.reduceEq, reduceCtorEq, Nat.reduceMul, Int.reduceLT, Int.reduceLE, Int.reduceToNat]
    refine call_is c2 ?_
    cases b2
    · try simp only [I, B, D, RY, ↓ KW, Nat.reduceBEq, Nat.reduceAdd, Nat.reduceLeDiff, Int.reduceNe, Int.reduceBEq, Int.reduceEq, reduceCtorEq, Nat.reduceMul, Int.reduceLT, Int.reduceLE, Int.reduceToNat]
      refine call_is (hW s2 x) ?_
      try simp only [I, B, D, RY, ↓ KW, Nat.reduceBEq, Nat.reduceAdd, Nat.reduceLeDiff, Int.reduceNe, Int.reduceBEq, Int.reduceEq, reduceCtorEq, Nat.reduceMul, Int.reduceLT, Int.reduceLE, Int.reduceToNat]
      refine back2 (i + 1, withS s2 x) _ ⟨by omega, hrow2⟩ (by simp only; omega) ?_
      refine le_tok2 (by decide) ?_ ?_ ?_ ?_ <;> simp [LX, I, B, D, hw2]
    · have : rowGo on seen (gr.a.getD [] ++ gr.b.getD []) = none := by rw [hrow2]; rfl
      rw [this] at hinv
      try simp only [I, B, D, RY, ↓ KW, Nat.reduceBEq, Nat.reduceAdd, Nat.reduceLeDiff, Int.reduceNe, Int.reduceBEq, Int.reduceEq, reduceCtorEq, Nat.reduceMul, Int.reduceLT, Int.reduceLE, Int.reduceToNat]
      refine call_is (hB 8 g) ?_
      rw [← hinv]
      try simp only [I, B, D, RY, ↓ KW, Nat.reduceBEq, Nat.reduceAdd, Nat.reduceLeDiff, Int.reduceNe, Int.reduceBEq, Int.reduceEq, reduceCtorEq, Nat.reduceMul, Int.reduceLT, Int.reduceLE, Int.reduceToNat, fltC, setCells]
end
end Go.Eng
namespace Go.Eng
set_option linter.unusedVariables false
set_option linter.unusedSimpArgs false
set_option linter.unnecessarySimpa false
open Go
set_option linter.unusedVariables false
set_option linter.unusedSimpArgs false
set_option maxRecDepth 10000
set_option maxHeartbeats 4000000
def dtAt (t : Tb) (k : Nat) : Det := (t.detectors.getD []).getD k default
def rlN (t : Tb) (k : Nat) : Rl := (t.rails.getD []).getD k default
def bsN (t : Tb) (k : Nat) : Bs := (t.buses.getD []).getD k default
def firstOf : List (Int × Int) → Int × Int
  | [] => (0, 0)
  | r :: rs => if (r.1 == 0 && r.2 == 0) = true then firstOf rs else r
def rulesE (t : Tb) (on : Int) : List (Int × Int) :=
  [firstN 7 8 fun p => tb on p && phBad (phAt t p), ringE t on, firstN 9 8 fun p => tb on p && confBad t on p, firstN 10 (t.detectors.getD []).length fun k => detBad on (dtAt t k),
   firstN 11 (t.rails.getD []).length fun k => railBad t on (rlN t k), firstN 12 (t.buses.getD []).length fun k => busBad on (bsN t k), firstN 13 8 fun p => tb on p && flBad t on p]
def checkE (t : Tb) : Int × Int := if mayT t then firstOf (rulesE t (onI t)) else (4, 0)
def ck11.Spec (C : Con) (f : Nat) : Prop := ∀ (on : Int) (g : Nat) (fs cs : List AV) (p : Nat) (r : Bool), p < 8 → (tb on p = true → C.c g (fs ++ [I p] ++ cs) (B r) none) → C.c f [I p, .ref [I on], .ref [.fn (.func g) fs cs]] (B (tb on p && r)) none
def ck1.Spec (C : Con) (f : Nat) : Prop := ∀ (code on : Int) (g : Nat) (fs cs : List AV) (w : Nat → Bool), (∀ p, p < 8 → tb on p = true → C.c g (fs ++ [I p] ++ cs) (B (w p)) none) → C.c f [I code, .fn (.func g) fs cs, .ref [I on]] (.agg (fltC (firstN code 8 fun p => tb on p && w p))) none
def ck21.Spec (C : Con) (f : Nat) : Prop := ∀ (t : Tb) (p : Nat), t.Ln → p < 8 → C.c f [I p, .ref t.cells] (B (phBad (phAt t p))) none
def ck2.Spec (C : Con) (f : Nat) : Prop := ∀ (t : Tb) (on : Int) (f1 : Nat), t.Ln → ck1.Spec C f1 → C.c f [.ref [.fn (.func f1) [] [.ref [I on]]], .ref t.cells] (.agg (fltC (firstN 7 8 fun p => tb on p && phBad (phAt t p)))) none
def ck3.Spec (C : Con) (f : Nat) : Prop := ∀ (t : Tb) (on : Int), t.Ok → C.c f [.ref t.cells, .ref [I on]] (.agg (fltC (ringE t on))) none
def ck41.Spec (C : Con) (f : Nat) : Prop := ∀ (t : Tb) (on : Int) (p : Nat), t.Ok → p < 8 → C.c f [I p, .ref t.cells, .ref [I on]] (B (confBad t on p)) none
def ck4.Spec (C : Con) (f : Nat) : Prop := ∀ (t : Tb) (on : Int) (f1 : Nat), t.Ok → ck1.Spec C f1 → C.c f [.ref [.fn (.func f1) [] [.ref [I on]]], .ref t.cells, .ref [I on]] (.agg (fltC (firstN 9 8 fun p => tb on p && confBad t on p))) none
def ck51.Spec (C : Con) (f : Nat) : Prop := ∀ (t : Tb) (on : Int) (k : Nat), t.Ok → k < (t.detectors.getD []).length → C.c f [I k, .ref t.cells, .ref [I on]] (B (detBad on (dtAt t k))) none
def ck5.Spec (C : Con) (f : Nat) : Prop := ∀ (t : Tb) (on : Int), t.Ok → C.c f [.ref t.cells, .ref [I on]] (.agg (fltC (firstN 10 (t.detectors.getD []).length fun k => detBad on (dtAt t k)))) none
def ck61.Spec (C : Con) (f : Nat) : Prop := ∀ (t : Tb) (on : Int) (k : Nat), t.Ok → k < (t.rails.getD []).length → C.c f [I k, .ref t.cells, .ref [I on]] (B (railBad t on (rlN t k))) none
def ck6.Spec (C : Con) (f : Nat) : Prop := ∀ (t : Tb) (on : Int), t.Ok → C.c f [.ref t.cells, .ref [I on]] (.agg (fltC (firstN 11 (t.rails.getD []).length fun k => railBad t on (rlN t k)))) none
def ck71.Spec (C : Con) (f : Nat) : Prop := ∀ (t : Tb) (on : Int) (k : Nat), t.Ok → k < (t.buses.getD []).length → C.c f [I k, .ref t.cells, .ref [I on]] (B (busBad on (bsN t k))) none
def ck7.Spec (C : Con) (f : Nat) : Prop := ∀ (t : Tb) (on : Int), t.Ok → C.c f [.ref t.cells, .ref [I on]] (.agg (fltC (firstN 12 (t.buses.getD []).length fun k => busBad on (bsN t k)))) none
def ck81.Spec (C : Con) (f : Nat) : Prop := ∀ (t : Tb) (on : Int) (p : Nat), t.Ok → p < 8 → C.c f [I p, .ref t.cells, .ref [I on]] (B (flBad t on p)) none
def ck8.Spec (C : Con) (f : Nat) : Prop := ∀ (t : Tb) (on : Int) (f1 : Nat), t.Ok → ck1.Spec C f1 → C.c f [.ref [.fn (.func f1) [] [.ref [I on]]], .ref t.cells, .ref [I on]] (.agg (fltC (firstN 13 8 fun p => tb on p && flBad t on p))) none
def check9.Spec (C : Con) (f : Nat) : Prop := ∀ t : Tb, t.Ok → t.Fw → C.c f [.agg t.cells] (.agg (fltC (checkE t))) none
section
variable {P : Program} (hm : P.follows .mixedOrders = true) {f : Nat}
include hm
theorem ck11.ok {fH : Nat} (hc : cFn P f = some (cc_check_Check_1_1 fH)) (hH : setHas.Spec (Pure P) fH) : ck11.Spec (Pure P) f := by
  intro on g fs cs p r hp hg
  have c1 := hH on p
  rw [hasS_tb hp] at c1
  generalize tb on p = b1 at *
  refine pure_of hm hc (by show 3 ≤ 13; decide) (aw_flat (keep := []) (i := 0) ?_)
  try simp only [I, B, D, RX, ↓ KW, Nat.reduceBEq, Nat.reduceAdd, Nat.reduceLeDiff, Int.reduceNe, Int.reduceBEq, Int.reduceEq, reduceCtorEq, Nat.reduceMul, Int.reduceLT, Int.reduceLE, Int.reduceToNat, cc_check_Check_1_1, Z.H]
  refine call_is c1 ?_
  cases b1
  · try simp only [I, B, D, RX, ↓ KW, Nat.reduceBEq, Nat.reduceAdd, Nat.reduceLeDiff, Int.reduceNe, Int.reduceBEq, Int.reduceEq, reduceCtorEq, Nat.reduceMul, Int.reduceLT, Int.reduceLE, Int.reduceToNat]
    try rfl
  · try simp only [I, B, D, RX, ↓ KW, Nat.reduceBEq, Nat.reduceAdd, Nat.reduceLeDiff, Int.reduceNe, Int.reduceBEq, Int.reduceEq, reduceCtorEq, Nat.reduceMul, Int.reduceLT, Int.reduceLE, Int.reduceToNat]
    refine call_is (hg rfl) ?_
    try simp only [I, B, D, RX, ↓ KW, Nat.reduceBEq, Nat.reduceAdd, Nat.reduceLeDiff, Int.reduceNe, Int.reduceBEq, Int.reduceEq, reduceCtorEq, Nat.reduceMul, Int.reduceLT, Int.reduceLE, Int.reduceToNat]
    try rfl
theorem ck1.ok {f11 fF : Nat} (hc : cFn P f = some (cc_check_Check_1 f11 fF)) (h11 : ck11.Spec (Pure P) f11) (hF : cFirst.Spec (Pure P) fF) : ck1.Spec (Pure P) f := by
  intro code on g fs cs w hg
  have c1 := hF code 8 f11 [] [.ref [I on], .ref [.fn (.func g) fs cs]] (fun p => tb on p && w p) (by decide) (fun p hp => h11 on g fs cs p (w p) hp (hg p hp))
  refine pure_of hm hc (by show 3 ≤ 9; decide) (aw_flat (keep := []) (i := 0) ?_)
  try simp only [I, B, D, RX, ↓ KW, Nat.reduceBEq, Nat.reduceAdd, Nat.reduceLeDiff, Int.reduceNe, Int.reduceBEq, Int.reduceEq, reduceCtorEq, Nat.reduceMul, Int.reduceLT, Int.reduceLE, Int.reduceToNat, cc_check_Check_1, Z.H]
  refine ⟨rfl, ?_⟩
  refine call_is c1 ?_
  try simp only [I, B, D, RX, ↓ KW, Nat.reduceBEq, Nat.reduceAdd, Nat.reduceLeDiff, Int.reduceNe, Int.reduceBEq, Int.reduceEq, reduceCtorEq, Nat.reduceMul, Int.reduceLT, Int.reduceLE, Int.reduceToNat, fltC, setCells]
theorem ck21.ok {fP : Nat} (hc : cFn P f = some (cc_check_Check_2_1 fP)) (hP : cPhase.Spec (Pure P) fP) : ck21.Spec (Pure P) f := by
  intro t p h hp
  have hx : 0 ≤ (p : Int) ∧ (p : Int) < (8 : Nat) := by omega
  have hpart := part_drop (Tb.phase_part (h.ph_get hp))
  refine pure_of hm hc (by show 2 ≤ 9; decide) (aw_flat (keep := []) (i := 0) ?_)
  try simp only [I, B, D, RX, ↓ KW, Nat.reduceBEq, Nat.reduceAdd, Nat.reduceLeDiff, Int.reduceNe, Int.reduceBEq, Int.reduceEq, reduceCtorEq, Nat.reduceMul, Int.reduceLT, Int.reduceLE, Int.reduceToNat, cc_check_Check_2_1, Z.H, hx, hpart, List.drop_zero]
  refine call_is (hP (phAt t p)) ?_
  try simp only [I, B, D, RX, ↓ KW, Nat.reduceBEq, Nat.reduceAdd, Nat.reduceLeDiff, Int.reduceNe, Int.reduceBEq, Int.reduceEq, reduceCtorEq, Nat.reduceMul, Int.reduceLT, Int.reduceLE, Int.reduceToNat]
theorem ck2.ok {f21 : Nat} (hc : cFn P f = some (cc_check_Check_2 f21)) (h21 : ck21.Spec (Pure P) f21) : ck2.Spec (Pure P) f := by
  intro t on f1 h h1
  have c1 := h1 7 on f21 [] [.ref t.cells] (fun p => phBad (phAt t p)) (fun p hp _ => h21 t p h hp)
  refine pure_of hm hc (by show 2 ≤ 6; decide) (aw_flat (keep := []) (i := 0) ?_)
  try simp only [I, B, D, RX, ↓ KW, Nat.reduceBEq, Nat.reduceAdd, Nat.reduceLeDiff, Int.reduceNe, Int.reduceBEq, Int.reduceEq, reduceCtorEq, Nat.reduceMul, Int.reduceLT, Int.reduceLE, Int.reduceToNat, cc_check_Check_2, Z.H]
  refine ⟨rfl, ?_⟩
  refine call_is c1 ?_
  try simp only [I, B, D, RX, ↓ KW, Nat.reduceBEq, Nat.reduceAdd, Nat.reduceLeDiff, Int.reduceNe, Int.reduceBEq, Int.reduceEq, reduceCtorEq, Nat.reduceMul, Int.reduceLT, Int.reduceLE, Int.reduceToNat, fltC, setCells]
theorem ck3.ok {fR : Nat} (hc : cFn P f = some (cc_check_Check_3 fR)) (hR : cRings.Spec (Pure P) fR) : ck3.Spec (Pure P) f := by
  intro t on h
  have hw := h.ln.whole
  refine pure_of hm hc (by show 2 ≤ 6; decide) (aw_flat (keep := []) (i := 0) ?_)
  try simp only [I, B, D, RX, ↓ KW, Nat.reduceBEq, Nat.reduceAdd, Nat.reduceLeDiff, Int.reduceNe, Int.reduceBEq, Int.reduceEq, reduceCtorEq, Nat.reduceMul, Int.reduceLT, Int.reduceLE, Int.reduceToNat, cc_check_Check_3, Z.H, hw]
  refine call_is (hR t on h) ?_
  try simp only [I, B, D, RX, ↓ KW, Nat.reduceBEq, Nat.reduceAdd, Nat.reduceLeDiff, Int.reduceNe, Int.reduceBEq, Int.reduceEq, reduceCtorEq, Nat.reduceMul, Int.reduceLT, Int.reduceLE, Int.reduceToNat, fltC, setCells]
theorem ck41.ok {fC : Nat} (hc : cFn P f = some (cc_check_Check_4_1 fC)) (hC : cConf.Spec (Pure P) fC) : ck41.Spec (Pure P) f := by
  intro t on p h hp
  have hw := h.ln.whole
  refine pure_of hm hc (by show 3 ≤ 9; decide) (aw_flat (keep := []) (i := 0) ?_)
  try simp only [I, B, D, RX, ↓ KW, Nat.reduceBEq, Nat.reduceAdd, Nat.reduceLeDiff, Int.reduceNe, Int.reduceBEq, Int.reduceEq, reduceCtorEq, Nat.reduceMul, Int.reduceLT, Int.reduceLE, Int.reduceToNat, cc_check_Check_4_1, Z.H, hw]
  refine call_is (hC t on p h hp) ?_
  try simp only [I, B, D, RX, ↓ KW, Nat.reduceBEq, Nat.reduceAdd, Nat.reduceLeDiff, Int.reduceNe, Int.reduceBEq, Int.reduceEq, reduceCtorEq, Nat.reduceMul, Int.reduceLT, Int.reduceLE, Int.reduceToNat]
theorem ck4.ok {f41 : Nat} (hc : cFn P f = some (cc_check_Check_4 f41)) (h41 : ck41.Spec (Pure P) f41) : ck4.Spec (Pure P) f := by
  intro t on f1 h h1
  have c1 := h1 9 on f41 [] [.ref t.cells, .ref [I on]] (confBad t on) (fun p hp _ => h41 t on p h hp)
  refine pure_of hm hc (by show 3 ≤ 7; decide) (aw_flat (keep := []) (i := 0) ?_)
  try simp only [I, B, D, RX, ↓ KW, Nat.reduceBEq, Nat.reduceAdd, Nat.reduceLeDiff, Int.reduceNe, Int.reduceBEq, Int.reduceEq, reduceCtorEq, Nat.reduceMul, Int.reduceLT, Int.reduceLE, Int.reduceToNat, cc_check_Check_4, Z.H]
  refine ⟨rfl, ?_⟩
  refine call_is c1 ?_
  try simp only [I, B, D, RX, ↓ KW, Nat.reduceBEq, Nat.reduceAdd, Nat.reduceLeDiff, Int.reduceNe, Int.reduceBEq, Int.reduceEq, reduceCtorEq, Nat.reduceMul, Int.reduceLT, Int.reduceLE, Int.reduceToNat, fltC, setCells]
theorem ck51.ok {fH : Nat} (hc : cFn P f = some (cc_check_Check_5_1 fH)) (hH : setHas.Spec (Pure P) fH) : ck51.Spec (Pure P) f := by
  intro t on k h hk
  have g1 := gt_drop h.ln.at113
  obtain ⟨d, hd⟩ : ∃ d, (t.detectors.getD [])[k]? = some d := ⟨_, List.getElem?_eq_getElem hk⟩
  have e : dtAt t k = d := by rw [dtAt, List.getD_eq_getElem?_getD, hd]; rfl
  rw [e, detBad]
  have c1 := hH on d.phase
  generalize hasS on d.phase = b2 at *
  obtain ⟨b1, hb1⟩ : ∃ b, gtF d.off d.on = b := ⟨_, rfl⟩
  rw [hb1]
  refine pure_of hm hc (by show 3 ≤ 29; decide) (aw_flat (keep := []) (i := 0) ?_)
  try simp only [I, B, D, RX, ↓ KW, Nat.reduceBEq, Nat.reduceAdd, Nat.reduceLeDiff, Int.reduceNe, Int.reduceBEq, Int.reduceEq, reduceCtorEq, Nat.reduceMul, Int.reduceLT, Int.reduceLE, Int.reduceToNat, cc_check_Check_5_1, Z.H, g1, a_rows, hd, Det.cells, FLW, hb1]
  refine ⟨by omega, by omega, ?_⟩
  cases b1
  · try simp only [I, B, D, RX, ↓ KW, Nat.reduceBEq, Nat.reduceAdd, Nat.reduceLeDiff, Int.reduceNe, Int.reduceBEq, Int.reduceEq, reduceCtorEq, Nat.reduceMul, Int.reduceLT, Int.reduceLE, Int.reduceToNat, g1, a_rows, hd, Det.cells, hb1]
    refine ⟨by omega, ?_⟩
    refine call_is c1 ?_
    try simp only [I, B, D, RX, ↓ KW, Nat.reduceBEq, Nat.reduceAdd, Nat.reduceLeDiff, Int.reduceNe, Int.reduceBEq, Int.reduceEq, reduceCtorEq, Nat.reduceMul, Int.reduceLT, Int.reduceLE, Int.reduceToNat]
    try rfl
  · try simp only [I, B, D, RX, ↓ KW, Nat.reduceBEq, Nat.reduceAdd, Nat.reduceLeDiff, Int.reduceNe, Int.reduceBEq, Int.reduceEq, reduceCtorEq, Nat.reduceMul, Int.reduceLT, Int.reduceLE, Int.reduceToNat, hb1]
    try rfl
theorem ck5.ok {f51 fF : Nat} (hc : cFn P f = some (cc_check_Check_5 f51 fF)) (h51 : ck51.Spec (Pure P) f51) (hF : cFirst.Spec (Pure P) fF) : ck5.Spec (Pure P) f := by
  intro t on h
  have g1 := gt_drop h.ln.at113
  have c1 := hF 10 (t.detectors.getD []).length f51 [] [.ref t.cells, .ref [I on]] (fun k => detBad on (dtAt t k)) (by have := h.dets; omega) (fun k hk => h51 t on k h hk)
  refine pure_of hm hc (by show 2 ≤ 8; decide) (aw_flat (keep := []) (i := 0) ?_)
  try simp only [I, B, D, RX, ↓ KW, Nat.reduceBEq, Nat.reduceAdd, Nat.reduceLeDiff, Int.reduceNe, Int.reduceBEq, Int.reduceEq, reduceCtorEq, Nat.reduceMul, Int.reduceLT, Int.reduceLE, Int.reduceToNat, cc_check_Check_5, Z.H, g1, a_len]
  refine ⟨rfl, ?_⟩
  refine call_is c1 ?_
  try simp only [I, B, D, RX, ↓ KW, Nat.reduceBEq, Nat.reduceAdd, Nat.reduceLeDiff, Int.reduceNe, Int.reduceBEq, Int.reduceEq, reduceCtorEq, Nat.reduceMul, Int.reduceLT, Int.reduceLE, Int.reduceToNat, fltC, setCells]
theorem ck61.ok {fR : Nat} (hc : cFn P f = some (cc_check_Check_6_1 fR)) (hR : cRail.Spec (Pure P) fR) : ck61.Spec (Pure P) f := by
  intro t on k h hk
  have hw := h.ln.whole
  have g1 := gt_drop h.ln.at114
  obtain ⟨d, hd⟩ : ∃ d, (t.rails.getD [])[k]? = some d := ⟨_, List.getElem?_eq_getElem hk⟩
  have e : rlN t k = d := by rw [rlN, List.getD_eq_getElem?_getD, hd]; rfl
  rw [e]
  have hpart : partA (Rl.cells d) 0 (some 11) = some (.agg d.cells) := rfl
  have hdl : (Rl.cells d).length = 11 := rfl
  refine pure_of hm hc (by show 3 ≤ 13; decide) (aw_flat (keep := []) (i := 0) ?_)
  try simp only [I, B, D, RX, ↓ KW, Nat.reduceBEq, Nat.reduceAdd, Nat.reduceLeDiff, Int.reduceNe, Int.reduceBEq, Int.reduceEq, reduceCtorEq, Nat.reduceMul, Int.reduceLT, Int.reduceLE, Int.reduceToNat, cc_check_Check_6_1, Z.H, g1, hw, a_rows, hd, hpart, hdl]
  refine ⟨by omega, ?_⟩
  refine call_is (hR t on d h) ?_
  try simp only [I, B, D, RX, ↓ KW, Nat.reduceBEq, Nat.reduceAdd, Nat.reduceLeDiff, Int.reduceNe, Int.reduceBEq, Int.reduceEq, reduceCtorEq, Nat.reduceMul, Int.reduceLT, Int.reduceLE, Int.reduceToNat]
theorem ck6.ok {f61 fF : Nat} (hc : cFn P f = some (cc_check_Check_6 f61 fF)) (h61 : ck61.Spec (Pure P) f61) (hF : cFirst.Spec (Pure P) fF) : ck6.Spec (Pure P) f := by
  intro t on h
  have g1 := gt_drop h.ln.at114
  have c1 := hF 11 (t.rails.getD []).length f61 [] [.ref t.cells, .ref [I on]] (fun k => railBad t on (rlN t k)) (by have := h.rails; omega) (fun k hk => h61 t on k h hk)
  refine pure_of hm hc (by show 2 ≤ 8; decide) (aw_flat (keep := []) (i := 0) ?_)
  try simp only [I, B, D, RX, ↓ KW, Nat.reduceBEq, Nat.reduceAdd, Nat.reduceLeDiff, Int.reduceNe, Int.reduceBEq, Int.reduceEq, reduceCtorEq, Nat.reduceMul, Int.reduceLT, Int.reduceLE, Int.reduceToNat, cc_check_Check_6, Z.H, g1, a_len]
  refine ⟨rfl, ?_⟩
  refine call_is c1 ?_
  try simp only [I, B, D, RX, ↓ KW, Nat.reduceBEq, Nat.reduceAdd, Nat.reduceLeDiff, Int.reduceNe, Int.reduceBEq, Int.reduceEq, reduceCtorEq, Nat.reduceMul, Int.reduceLT, Int.reduceLE, Int.reduceToNat, fltC, setCells]
theorem ck71.ok (hc : cFn P f = some cc_check_Check_7_1) : ck71.Spec (Pure P) f := by
  intro t on k h hk
  have g1 := gt_drop h.ln.at115
  obtain ⟨d, hd⟩ : ∃ d, (t.buses.getD [])[k]? = some d := ⟨_, List.getElem?_eq_getElem hk⟩
  have e : bsN t k = d := by rw [bsN, List.getD_eq_getElem?_getD, hd]; rfl
  rw [e, busBad]
  generalize h1 : (d.set == 0) = b1
  generalize h2 : (bAndNot .i64 d.set on != 0) = b2
  refine pure_of hm hc (by show 3 ≤ 32; decide) (aw_flat (keep := []) (i := 0) ?_)
  try simp only [I, B, D, RX, ↓ KW, Nat.reduceBEq, Nat.reduceAdd, Nat.reduceLeDiff, Int.reduceNe, Int.reduceBEq, Int.reduceEq, reduceCtorEq, Nat.reduceMul, Int.reduceLT, Int.reduceLE, Int.reduceToNat, cc_check_Check_7_1, Z.H, g1, a_rows, hd, Bs.cells, h1, h2]
  refine ⟨by omega, ?_⟩
  cases b1
  · try simp only [I, B, D, RX, ↓ KW, Nat.reduceBEq, Nat.reduceAdd, Nat.reduceLeDiff, Int.reduceNe, Int.reduceBEq, Int.reduceEq, reduceCtorEq, Nat.reduceMul, Int.reduceLT, Int.reduceLE, Int.reduceToNat, g1, a_rows, hd, Bs.cells, h1, h2]
    refine ⟨by omega, ?_⟩
    cases b2
    · try simp only [I, B, D, RX, ↓ KW, Nat.reduceBEq, Nat.reduceAdd, Nat.reduceLeDiff, Int.reduceNe, Int.reduceBEq, Int.reduceEq, reduceCtorEq, Nat.reduceMul, Int.reduceLT, Int.reduceLE, Int.reduceToNat, g1, a_rows, hd, Bs.cells, h1, h2]
      omega
    · try simp only [I, B, D, RX, ↓ KW, Nat.reduceBEq, Nat.reduceAdd, Nat.reduceLeDiff, Int.reduceNe, Int.reduceBEq, Int.reduceEq, reduceCtorEq, Nat.reduceMul, Int.reduceLT, Int.reduceLE, Int.reduceToNat, h2]
      try rfl
  · try simp only [I, B, D, RX, ↓ KW, Nat.reduceBEq, Nat.reduceAdd, Nat.reduceLeDiff, Int.reduceNe, Int.reduceBEq, Int.reduceEq, reduceCtorEq, Nat.reduceMul, Int.reduceLT, Int.reduceLE, Int.reduceToNat, h1]
    try rfl
theorem ck7.ok {f71 fF : Nat} (hc : cFn P f = some (cc_check_Check_7 f71 fF)) (h71 : ck71.Spec (Pure P) f71) (hF : cFirst.Spec (Pure P) fF) : ck7.Spec (Pure P) f := by
  intro t on h
  have g1 := gt_drop h.ln.at115
  have c1 := hF 12 (t.buses.getD []).length f71 [] [.ref t.cells, .ref [I on]] (fun k => busBad on (bsN t k)) (by have := h.buses; omega) (fun k hk => h71 t on k h hk)
  refine pure_of hm hc (by show 2 ≤ 8; decide) (aw_flat (keep := []) (i := 0) ?_)
  try simp only [I, B, D, RX, ↓ KW, Nat.reduceBEq, Nat.reduceAdd, Nat.reduceLeDiff, Int.reduceNe, Int.reduceBEq, Int.reduceEq, reduceCtorEq, Nat.reduceMul, Int.reduceLT, Int.reduceLE, Int.reduceToNat, cc_check_Check_7, Z.H, g1, a_len]
  refine ⟨rfl, ?_⟩
  refine call_is c1 ?_
  try simp only [I, B, D, RX, ↓ KW, Nat.reduceBEq, Nat.reduceAdd, Nat.reduceLeDiff, Int.reduceNe, Int.reduceBEq, Int.reduceEq, reduceCtorEq, Nat.reduceMul, Int.reduceLT, Int.reduceLE, Int.reduceToNat, fltC, setCells]
theorem ck81.ok {fC : Nat} (hc : cFn P f = some (cc_check_Check_8_1 fC)) (hC : cFlash.Spec (Pure P) fC) : ck81.Spec (Pure P) f := by
  intro t on p h hp
  have hw := h.ln.whole
  refine pure_of hm hc (by show 3 ≤ 9; decide) (aw_flat (keep := []) (i := 0) ?_)
  try simp only [I, B, D, RX, ↓ KW, Nat.reduceBEq, Nat.reduceAdd, Nat.reduceLeDiff, Int.reduceNe, Int.reduceBEq, Int.reduceEq, reduceCtorEq, Nat.reduceMul, Int.reduceLT, Int.reduceLE, Int.reduceToNat, cc_check_Check_8_1, Z.H, hw]
  refine call_is (hC t on p h.ln hp) ?_
  try simp only [I, B, D, RX, ↓ KW, Nat.reduceBEq, Nat.reduceAdd, Nat.reduceLeDiff, Int.reduceNe, Int.reduceBEq, Int.reduceEq, reduceCtorEq, Nat.reduceMul, Int.reduceLT, Int.reduceLE, Int.reduceToNat]
theorem ck8.ok {f81 : Nat} (hc : cFn P f = some (cc_check_Check_8 f81)) (h81 : ck81.Spec (Pure P) f81) : ck8.Spec (Pure P) f := by
  intro t on f1 h h1
  have c1 := h1 13 on f81 [] [.ref t.cells, .ref [I on]] (flBad t on) (fun p hp _ => h81 t on p h hp)
  refine pure_of hm hc (by show 3 ≤ 7; decide) (aw_flat (keep := []) (i := 0) ?_)
  try simp only [I, B, D, RX, ↓ KW, Nat.reduceBEq, Nat.reduceAdd, Nat.reduceLeDiff, Int.reduceNe, Int.reduceBEq, Int.reduceEq, reduceCtorEq, Nat.reduceMul, Int.reduceLT, Int.reduceLE, Int.reduceToNat, cc_check_Check_8, Z.H]
  refine ⟨rfl, ?_⟩
  refine call_is c1 ?_
  try simp only [I, B, D, RX, ↓ KW, Nat.reduceBEq, Nat.reduceAdd, Nat.reduceLeDiff, Int.reduceNe, Int.reduceBEq, Int.reduceEq, reduceCtorEq, Nat.reduceMul, Int.reduceLT, Int.reduceLE, Int.reduceToNat, fltC, setCells]
theorem check9.ok {fM fB fO f1 f2 f3 f4 f5 f6 f7 f8 fN : Nat} (hc : cFn P f = some (cc_check_Check fM fB fO f1 f2 f3 f4 f5 f6 f7 f8 fN)) (hM : tMay.Spec (Pure P) fM) (hB : cBad.Spec (Pure P) fB) (hO : pOn.Spec (Pure P) fO) (h1 : ck1.Spec (Pure P) f1)
    (h2 : ck2.Spec (Pure P) f2) (h3 : ck3.Spec (Pure P) f3) (h4 : ck4.Spec (Pure P) f4) (h5 : ck5.Spec (Pure P) f5) (h6 : ck6.Spec (Pure P) f6) (h7 : ck7.Spec (Pure P) f7) (h8 : ck8.Spec (Pure P) f8) (hN : cNone.Spec (Pure P) fN) : check9.Spec (Pure P) f := by
  intro t h hfw
  have hw := h.ln.whole
  have c0 := hM t h.ln hfw
  have c1 := hO t h.ln
  rw [checkE]
  generalize mayT t = b0 at *
  have d1 := h2 t (onI t) f1 h.ln h1
  have d2 := h3 t (onI t) h
  have d3 := h4 t (onI t) f1 h h1
  have d4 := h5 t (onI t) h
  have d5 := h6 t (onI t) h
  have d6 := h7 t (onI t) h
  have d7 := h8 t (onI t) f1 h h1
  obtain ⟨R, hR⟩ : ∃ R, R = rulesE t (onI t) := ⟨_, rfl⟩
  rw [← hR]
  have hlen : R.length = 7 := by rw [hR]; rfl
  obtain ⟨F, hF⟩ : ∃ F : List AV, F = [.fn (.func f2) [] [.ref [.fn (.func f1) [] [.ref [I (onI t)]]], .ref t.cells], .fn (.func f3) [] [.ref t.cells, .ref [I (onI t)]], .fn (.func f4) [] [.ref [.fn (.func f1) [] [.ref [I (onI t)]]], .ref t.cells, .ref [I (onI t)]],
    .fn (.func f5) [] [.ref t.cells, .ref [I (onI t)]], .fn (.func f6) [] [.ref t.cells, .ref [I (onI t)]], .fn (.func f7) [] [.ref t.cells, .ref [I (onI t)]], .fn (.func f8) [] [.ref [.fn (.func f1) [] [.ref [I (onI t)]]], .ref t.cells, .ref [I (onI t)]]] := ⟨_, rfl⟩
  have hk : ∀ k, k < 7 → ∃ g caps r, F[k]? = some (.fn (.func g) [] caps) ∧ R[k]? = some r ∧ (Pure P).c g caps (.agg (fltC r)) none := by
    intro k hk
    have : k = 0 ∨ k = 1 ∨ k = 2 ∨ k = 3 ∨ k = 4 ∨ k = 5 ∨ k = 6 := by omega
    rw [hF, hR]
    rcases this with rfl | rfl | rfl | rfl | rfl | rfl | rfl
    · exact ⟨_, _, _, rfl, rfl, d1⟩
    · exact ⟨_, _, _, rfl, rfl, d2⟩
    · exact ⟨_, _, _, rfl, rfl, d3⟩
    · exact ⟨_, _, _, rfl, rfl, d4⟩
    · exact ⟨_, _, _, rfl, rfl, d5⟩
    · exact ⟨_, _, _, rfl, rfl, d6⟩
    · exact ⟨_, _, _, rfl, rfl, d7⟩
  clear d1 d2 d3 d4 d5 d6 d7
  refine pure_of hm hc (by show 1 ≤ 36; decide) (aw_flat (keep := []) (i := 0) ?_)
  try simp only [I, B, D, RX, ↓ KW, Nat.reduceBEq, Nat.reduceAdd, Nat.reduceLeDiff, Int.reduceNe, Int.reduceBEq, Int.reduceEq, reduceCtorEq, Nat.reduceMul, Int.reduceLT, Int.reduceLE, Int.reduceToNat, cc_check_Check, Z.H, hw]
  refine call_is c0 ?_
  cases b0
  · try simp only [I, B, D, RX, ↓ KW, Nat.reduceBEq, Nat.reduceAdd, Nat.reduceLeDiff, Int.reduceNe, Int.reduceBEq, Int.reduceEq, reduceCtorEq, Nat.reduceMul, Int.reduceLT, Int.reduceLE, Int.reduceToNat]
    refine call_is (hB 4 0) ?_
    try simp only [I, B, D, RX, ↓ KW, Nat.reduceBEq, Nat.reduceAdd, Nat.reduceLeDiff, Int.reduceNe, Int.reduceBEq, Int.reduceEq, reduceCtorEq, Nat.reduceMul, Int.reduceLT, Int.reduceLE, Int.reduceToNat, fltC, setCells]
    try rfl
  try simp only [I, B, D, RX, ↓ KW, Nat.reduceBEq, Nat.reduceAdd, Nat.reduceLeDiff, Int.reduceNe, Int.reduceBEq, Int.reduceEq, reduceCtorEq, Nat.reduceMul, Int.reduceLT, Int.reduceLE, Int.reduceToNat, hw]
  refine call_is c1 ?_
  try simp only [I, B, D, RX, ↓ KW, Nat.reduceBEq, Nat.reduceAdd, Nat.reduceLeDiff, Int.reduceNe, Int.reduceBEq, Int.reduceEq, reduceCtorEq, Nat.reduceMul, Int.reduceLT, Int.reduceLE, Int.reduceToNat, hw]
  refine ⟨rfl, rfl, rfl, rfl, rfl, rfl, rfl, rfl, ?_⟩
  refine aw_loop' (fun k : Nat => (⟨[(25, .dat (I k) none), (24, .dat (.agg F) none), (2, .ptr 5 0)], [(5, ⟨[I 0, I 0], []⟩)], [], 400⟩ : S)) (fun k => 7 - k) (fun k => k ≤ 7 ∧ firstOf (R.drop k) = firstOf R) ?_ 0 ⟨by omega, rfl⟩ ?_
  rotate_left
  · refine le_tok2 (by decide) ?_ ?_ ?_ ?_ <;> simp [LX, I, B, D, hF]
  rintro k ⟨hk7, hinv⟩ A back
  have hwr := wrap_succ (k := k) (by omega)
  try simp only [I, B, D, RX, ↓ KW, Nat.reduceBEq, Nat.reduceAdd, Nat.reduceLeDiff, Int.reduceNe, Int.reduceBEq, Int.reduceEq, reduceCtorEq, Nat.reduceMul, Int.reduceLT, Int.reduceLE, Int.reduceToNat]
  cases h2 : decide ((k : Int) < 7)
  · have e : k = 7 := by have := of_decide_eq_false h2; omega
    subst e
    rw [List.drop_of_length_le (by omega)] at hinv
    try simp only [I, B, D, RX, ↓ KW, Nat.reduceBEq, Nat.reduceAdd, Nat.reduceLeDiff, Int.reduceNe, Int.reduceBEq, Int.reduceEq, reduceCtorEq, Nat.reduceMul, Int.reduceLT, Int.reduceLE, Int.reduceToNat, h2]
    refine call_is hN ?_
    rw [← hinv]
    try simp only [I, B, D, RX, ↓ KW, Nat.reduceBEq, Nat.reduceAdd, Nat.reduceLeDiff, Int.reduceNe, Int.reduceBEq, Int.reduceEq, reduceCtorEq, Nat.reduceMul, Int.reduceLT, Int.reduceLE, Int.reduceToNat, fltC, firstOf, setCells]
    try rfl
  have h8 : k < 7 := by have := of_decide_eq_true h2; omega
  have hx : 0 ≤ (k : Int) ∧ (k : Int) < (7 : Nat) := by omega
  obtain ⟨g, caps, r, hf, hr, hcall⟩ := hk k h8
  have hd : R.drop k = r :: R.drop (k + 1) := by
    rw [List.drop_eq_getElem_cons (by omega)]
    congr 1
    rw [List.getElem?_eq_getElem (by omega)] at hr; exact Option.some.inj hr
  rw [hd, firstOf] at hinv
  have hcq : cellsEq [.i, .i] [AV.int .i64 r.1, AV.int .i64 r.2] [AV.int .i64 0, AV.int .i64 0] = some (r.1 == 0 && r.2 == 0) := by
    simp [cellsEq, cellEq]
  try simp only [I, B, D, RX, ↓ KW, Nat.reduceBEq, Nat.reduceAdd, Nat.reduceLeDiff, Int.reduceNe, Int.reduceBEq, Int.reduceEq, reduceCtorEq, Nat.reduceMul, Int.reduceLT, Int.reduceLE, Int.reduceToNat, h2, hx, hf]
  refine call_is hcall ?_
  try simp only [I, B, D, RX, ↓ KW, Nat.reduceBEq, Nat.reduceAdd, Nat.reduceLeDiff, Int.reduceNe, Int.reduceBEq, Int.reduceEq, reduceCtorEq, Nat.reduceMul, Int.reduceLT, Int.reduceLE, Int.reduceToNat, fltC, setCells]
  refine call_is hN ?_
  try simp only [I, B, D, RX, ↓ KW, Nat.reduceBEq, Nat.reduceAdd, Nat.reduceLeDiff, Int.reduceNe, Int.reduceBEq, Int.reduceEq, reduceCtorEq, Nat.reduceMul, Int.reduceLT, Int.reduceLE, Int.reduceToNat, fltC, setCells, hcq]
  cases hz : (r.1 == 0 && r.2 == 0)
  · rw [hz] at hinv
    try simp only [I, B, D, RX, ↓ KW, Nat.reduceBEq, Nat.reduceAdd, Nat.reduceLeDiff, Int.reduceNe, Int.reduceBEq, Int.reduceEq, reduceCtorEq, Nat.reduceMul, Int.reduceLT, Int.reduceLE, Int.reduceToNat, hz, BNW]
    simp only [Bool.false_eq_true, if_false] at hinv
    rw [← hinv]
  · rw [hz, if_pos rfl] at hinv
    try simp only [I, B, D, RX, ↓ KW, Nat.reduceBEq, Nat.reduceAdd, Nat.reduceLeDiff, Int.reduceNe, Int.reduceBEq, Int.reduceEq, reduceCtorEq, Nat.reduceMul, Int.reduceLT, Int.reduceLE, Int.reduceToNat, hz, BNW]
    refine back (k + 1) _ ⟨by omega, hinv⟩ (by omega) ?_
    refine le_tok2 (by decide) ?_ ?_ ?_ ?_ <;> simp [LX, I, B, D, hwr]
end
end Go.Eng
namespace Go.Eng
set_option linter.unusedVariables false
set_option linter.unusedSimpArgs false
set_option linter.unnecessarySimpa false
open Go
set_option linter.unusedVariables false
set_option linter.unusedSimpArgs false
set_option maxRecDepth 10000
set_option maxHeartbeats 4000000
def phOkR (x : Ph) : Bool :=
  (((((decide (x.min ≥ 1) && decide (x.yellow ≥ 10)) && decide (x.max ≥ x.min)) && decide (x.top ≥ x.max)) && (decide (x.step ≥ 1) || x.top == x.max)) && (decide (x.walk > 0) == decide (x.blinks > 0))) && (x.recall != 3 || decide (x.walk > 0))
def inB (a b : Int) : Bool := bAnd .i64 (bAndNot .i64 a b) 255 == 0
def clashR (t : Tb) (a b : Int) : Bool := (setN a).any fun p => (setN b).any fun q => clT t p q
def exitOk (t : Tb) (s : Int) : Bool := !apartE t s && decide (0 < (setN s).length)
def confR (t : Tb) (p q : Nat) : Bool := ((tb (conAt t p) q && (q : Int) == (p : Int)) || (tb (conAt t p) q != tb (conAt t q) p)) || (tb (conAt t p) q && besideR t p q)
def flR (t : Tb) (p q : Nat) : Bool := (flAt t p == 2 && flAt t q == 2) && tb (conAt t p) q
def flOk (t : Tb) (on : Int) (p : Nat) : Bool := !(flAt t p == 0) && !(setN on).any (flR t p)
def railOk (t : Tb) (on : Int) (r : Rl) : Bool :=
  (((((((((((inB (bOr .i64 (bOr .i64 (bOr .i64 r.bars r.clear) r.dwell) r.exit) on && r.dwell != 0) && bAnd .i64 r.dwell r.bars == 0) && exitOk t r.exit) && !clashR t r.clear r.clear) && !clashR t r.dwell r.dwell) && !clashR t r.exit r.exit) &&
    (decide (r.hold > 0) == (r.clear != 0))) && decide (r.green ≥ 1)) && decide (r.stay ≥ 1)) && (r.most == 0 || decide (r.most ≥ r.stay))) && decide (r.limit > r.delay))
def kPhase.Spec (C : Con) (f : Nat) : Prop := ∀ x : Ph, C.c f [.agg x.cells] (B (phOkR x)) none
def kIn.Spec (C : Con) (f : Nat) : Prop := ∀ a b : Int, C.c f [I a, I b] (B (inB a b)) none
def kClash.Spec (C : Con) (f : Nat) : Prop := ∀ (t : Tb) (a b : Int), t.Ln → C.c f [.agg t.cells, I a, I b] (B (clashR t a b)) none
def kExit.Spec (C : Con) (f : Nat) : Prop := ∀ (t : Tb) (s : Int), t.Ok → C.c f [.agg t.cells, I s] (B (exitOk t s)) none
def kConf.Spec (C : Con) (f : Nat) : Prop := ∀ (t : Tb) (p : Nat) (on : Int), t.Ok → p < 8 → C.c f [.agg t.cells, I p, I on] (B (!(setN on).any (confR t p))) none
def kFlash.Spec (C : Con) (f : Nat) : Prop := ∀ (t : Tb) (p : Nat) (on : Int), t.Ln → p < 8 → C.c f [.agg t.cells, I p, I on] (B (flOk t on p)) none
def kRail.Spec (C : Con) (f : Nat) : Prop := ∀ (t : Tb) (r : Rl) (on : Int), t.Ok → C.c f [.agg t.cells, .agg r.cells, I on] (B (railOk t on r)) none
theorem beside_sym (t : Tb) (p q : Int) : besideR t p q = besideR t q p := by
  simp only [besideR]
  generalize (whereR t p).2 = b1
  generalize (whereR t q).2 = b2
  generalize (whereR t p).1 = s1
  generalize (whereR t q).1 = s2
  rw [Bool.and_comm b1 b2]
  congr 1
  · congr 1
    rw [Bool.eq_iff_iff]; simp only [beq_iff_eq]; exact eq_comm
  · rw [Bool.eq_iff_iff]; simp only [bne_iff_ne]; exact ne_comm
theorem setN_nodup (s : Int) : (setN s).Nodup := List.Pairwise.filter _ List.nodup_range
theorem setN_len (s : Int) : (setN s).length ≤ 8 := by
  have := List.length_filter_le (fun p => tb s p) (List.range 8); simpa [setN] using this
theorem setN_rows (s : Int) : (mkO (listS s)).getD [] = (setN s).map fun (k : Nat) => (k : Int) := by rw [mkO_getD, listS_N]
theorem setN_at {s : Int} {k p : Nat} (h : (setN s)[k]? = some p) : ((setN s).map fun (k : Nat) => (k : Int))[k]? = some (p : Int) := by rw [List.getElem?_map, h]; rfl
theorem setN_inj {s : Int} {i j p : Nat} (hi : (setN s)[i]? = some p) (hj : (setN s)[j]? = some p) : i = j := by
  have h1 := (List.getElem?_eq_some_iff.1 hi)
  have h2 := (List.getElem?_eq_some_iff.1 hj)
  exact (List.getElem_inj (setN_nodup s)).1 (h1.2.trans h2.2.symm)
section
variable {P : Program} (hm : P.follows .mixedOrders = true) {f : Nat}
include hm
theorem kPhase.ok (hc : cFn P f = some cc_ref08_phase) : kPhase.Spec (Pure P) f := by
  intro x
  rw [phOkR]
  generalize hr3 : (x.recall != 3) = r3
  generalize hw0 : decide (x.walk > 0) = w0
  generalize hb0 : decide (x.blinks > 0) = b0
  generalize h1 : decide (x.min ≥ 1) = b1
  generalize h2 : decide (x.yellow ≥ 10) = b2
  generalize h3 : decide (x.max ≥ x.min) = b3
  generalize h4 : decide (x.top ≥ x.max) = b4
  generalize h5 : decide (x.step ≥ 1) = b5
  generalize h6 : (x.top == x.max) = b6
  refine pure_of hm hc (by show 1 ≤ 56; decide) (aw_flat (keep := []) (i := 0) ?_)
  try simp only [I, B, D, RX, ↓ KW, Nat.reduceBEq, Nat.reduceAdd, Nat.reduceLeDiff, Int.reduceNe, Int.reduceBEq, Int.reduceEq, reduceCtorEq, Nat.reduceMul, Int.reduceLT, Int.reduceLE, Int.reduceToNat, cc_ref08_phase, Z.H, Ph.cells, hr3, hw0, hb0, h1, h2, h3, h4, h5, h6, BNW]
  cases b1
  · try simp only [I, B, D, RX, ↓ KW, Nat.reduceBEq, Nat.reduceAdd, Nat.reduceLeDiff, Int.reduceNe, Int.reduceBEq, Int.reduceEq, reduceCtorEq, Nat.reduceMul, Int.reduceLT, Int.reduceLE, Int.reduceToNat, Ph.cells, hr3, hw0, hb0, h1, h2, h3, h4, h5, h6, BNW]
    try rfl
  try simp only [I, B, D, RX, ↓ KW, Nat.reduceBEq, Nat.reduceAdd, Nat.reduceLeDiff, Int.reduceNe, Int.reduceBEq, Int.reduceEq, reduceCtorEq, Nat.reduceMul, Int.reduceLT, Int.reduceLE, Int.reduceToNat, Ph.cells, hr3, hw0, hb0, h1, h2, h3, h4, h5, h6, BNW]
  cases b2
  · try simp only [I, B, D, RX, ↓ KW, Nat.reduceBEq, Nat.reduceAdd, Nat.reduceLeDiff, Int.reduceNe, Int.reduceBEq, Int.reduceEq, reduceCtorEq, Nat.reduceMul, Int.reduceLT, Int.reduceLE, Int.reduceToNat, Ph.cells, hr3, hw0, hb0, h1, h2, h3, h4, h5, h6, BNW]
    try rfl
  try simp only [I, B, D, RX, ↓ KW, Nat.reduceBEq, Nat.reduceAdd, Nat.reduceLeDiff, Int.reduceNe, Int.reduceBEq, Int.reduceEq, reduceCtorEq, Nat.reduceMul, Int.reduceLT, Int.reduceLE, Int.reduceToNat, Ph.cells, hr3, hw0, hb0, h1, h2, h3, h4, h5, h6, BNW]
  cases b3
  · try simp only [I, B, D, RX, ↓ KW, Nat.reduceBEq, Nat.reduceAdd, Nat.reduceLeDiff, Int.reduceNe, Int.reduceBEq, Int.reduceEq, reduceCtorEq, Nat.reduceMul, Int.reduceLT, Int.reduceLE, Int.reduceToNat, Ph.cells, hr3, hw0, hb0, h1, h2, h3, h4, h5, h6, BNW]
    try rfl
  try simp only [I, B, D, RX, ↓ KW, Nat.reduceBEq, Nat.reduceAdd, Nat.reduceLeDiff, Int.reduceNe, Int.reduceBEq, Int.reduceEq, reduceCtorEq, Nat.reduceMul, Int.reduceLT, Int.reduceLE, Int.reduceToNat, Ph.cells, hr3, hw0, hb0, h1, h2, h3, h4, h5, h6, BNW]
  cases b4
  · try simp only [I, B, D, RX, ↓ KW, Nat.reduceBEq, Nat.reduceAdd, Nat.reduceLeDiff, Int.reduceNe, Int.reduceBEq, Int.reduceEq, reduceCtorEq, Nat.reduceMul, Int.reduceLT, Int.reduceLE, Int.reduceToNat, Ph.cells, hr3, hw0, hb0, h1, h2, h3, h4, h5, h6, BNW]
    try rfl
  try simp only [I, B, D, RX, ↓ KW, Nat.reduceBEq, Nat.reduceAdd, Nat.reduceLeDiff, Int.reduceNe, Int.reduceBEq, Int.reduceEq, reduceCtorEq, Nat.reduceMul, Int.reduceLT, Int.reduceLE, Int.reduceToNat, Ph.cells, hr3, hw0, hb0, h1, h2, h3, h4, h5, h6, BNW]
  cases b5
  · try simp only [I, B, D, RX, ↓ KW, Nat.reduceBEq, Nat.reduceAdd, Nat.reduceLeDiff, Int.reduceNe, Int.reduceBEq, Int.reduceEq, reduceCtorEq, Nat.reduceMul, Int.reduceLT, Int.reduceLE, Int.reduceToNat, Ph.cells, hr3, hw0, hb0, h1, h2, h3, h4, h5, h6, BNW]
    try rfl
    cases b6
    · try simp only [I, B, D, RX, ↓ KW, Nat.reduceBEq, Nat.reduceAdd, Nat.reduceLeDiff, Int.reduceNe, Int.reduceBEq, Int.reduceEq, reduceCtorEq, Nat.reduceMul, Int.reduceLT, Int.reduceLE, Int.reduceToNat, Ph.cells, hr3, hw0, hb0, h1, h2, h3, h4, h5, h6, BNW]
      try rfl
    try simp only [I, B, D, RX, ↓ KW, Nat.reduceBEq, Nat.reduceAdd, Nat.reduceLeDiff, Int.reduceNe, Int.reduceBEq, Int.reduceEq, reduceCtorEq, Nat.reduceMul, Int.reduceLT, Int.reduceLE, Int.reduceToNat, Ph.cells, hr3, hw0, hb0, h1, h2, h3, h4, h5, h6, BNW]
    cases w0 <;> cases b0
    all_goals try simp only [I, B, D, RX, ↓ KW, Nat.reduceBEq, Nat.reduceAdd, Nat.reduceLeDiff, Int.reduceNe, Int.reduceBEq, Int.reduceEq, reduceCtorEq, Nat.reduceMul, Int.reduceLT, Int.reduceLE, Int.reduceToNat, Ph.cells, hr3, hw0, hb0, h1, h2, h3, h4, h5, h6, BNW]
    all_goals try rfl
    all_goals cases r3
    all_goals try simp only [I, B, D, RX, ↓ KW, Nat.reduceBEq, Nat.reduceAdd, Nat.reduceLeDiff, Int.reduceNe, Int.reduceBEq, Int.reduceEq, reduceCtorEq, Nat.reduceMul, Int.reduceLT, Int.reduceLE, Int.reduceToNat, Ph.cells, hr3, hw0, hb0, h1, h2, h3, h4, h5, h6, BNW]
    all_goals try rfl
  try simp only [I, B, D, RX, ↓ KW, Nat.reduceBEq, Nat.reduceAdd, Nat.reduceLeDiff, Int.reduceNe, Int.reduceBEq, Int.reduceEq, reduceCtorEq, Nat.reduceMul, Int.reduceLT, Int.reduceLE, Int.reduceToNat, Ph.cells, hr3, hw0, hb0, h1, h2, h3, h4, h5, h6, BNW]
  cases w0 <;> cases b0
  all_goals try simp only [I, B, D, RX, ↓ KW, Nat.reduceBEq, Nat.reduceAdd, Nat.reduceLeDiff, Int.reduceNe, Int.reduceBEq, Int.reduceEq, reduceCtorEq, Nat.reduceMul, Int.reduceLT, Int.reduceLE, Int.reduceToNat, Ph.cells, hr3, hw0, hb0, h1, h2, h3, h4, h5, h6, BNW]
  all_goals try rfl
  all_goals cases r3
  all_goals try simp only [I, B, D, RX, ↓ KW, Nat.reduceBEq, Nat.reduceAdd, Nat.reduceLeDiff, Int.reduceNe, Int.reduceBEq, Int.reduceEq, reduceCtorEq, Nat.reduceMul, Int.reduceLT, Int.reduceLE, Int.reduceToNat, Ph.cells, hr3, hw0, hb0, h1, h2, h3, h4, h5, h6, BNW]
  all_goals try rfl
theorem kIn.ok (hc : cFn P f = some cc_ref08_in) : kIn.Spec (Pure P) f := by
  intro a b
  refine pure_of hm hc (by show 2 ≤ 10; decide) (aw_flat (keep := []) (i := 0) ?_)
  try simp only [I, B, D, RX, ↓ KW, Nat.reduceBEq, Nat.reduceAdd, Nat.reduceLeDiff, Int.reduceNe, Int.reduceBEq, Int.reduceEq, reduceCtorEq, Nat.reduceMul, Int.reduceLT, Int.reduceLE, Int.reduceToNat, cc_ref08_in, Z.H]
  try rfl
theorem kClash.ok {fL e fH : Nat} (hc : cFn P f = some (cc_ref08_Clash fL fH)) (hL : refList.Spec (Pure P) fL e) (hH : refHas.Spec (Pure P) fH) : kClash.Spec (Pure P) f := by
  intro t a b h
  have hla := setN_len a
  have hlb := setN_len b
  have hra := setN_rows a
  have hrb := setN_rows b
  refine pure_of hm hc (by show 3 ≤ 41; decide) (aw_flat (keep := []) (i := 0) ?_)
  try simp only [I, B, D, RX, ↓ KW, Nat.reduceBEq, Nat.reduceAdd, Nat.reduceLeDiff, Int.reduceNe, Int.reduceBEq, Int.reduceEq, reduceCtorEq, Nat.reduceMul, Int.reduceLT, Int.reduceLE, Int.reduceToNat, cc_ref08_Clash, Z.H]
  refine call_is (hL a none (.inl rfl)) ?_
  try simp only [I, B, D, RX, ↓ KW, Nat.reduceBEq, Nat.reduceAdd, Nat.reduceLeDiff, Int.reduceNe, Int.reduceBEq, Int.reduceEq, reduceCtorEq, Nat.reduceMul, Int.reduceLT, Int.reduceLE, Int.reduceToNat, a_len, hra, List.length_map]
  refine aw_loop' (fun k : Nat => (⟨[(14, .dat (I k) none), (13, .dat (I ((setN a).length : Nat)) none), (12, .dat (slAV intRow (mkO (listS a))) none), (2, .dat (I b) none), (3, .ptr 4 0)], [(4, ⟨t.cells, []⟩)], [], 400⟩ : S)) (fun k => (setN a).length - k) (fun k => k ≤ (setN a).length ∧ ((setN a).take k).any (fun p => (setN b).any fun q => clT t p q) = false) ?_ 0 (by simp) ?_
  rotate_left
  · refine le_tok2 (by decide) ?_ ?_ ?_ ?_ <;> simp [LX, I, B, D]
  rintro k ⟨hk, hno⟩ A back
  have hwr := wrap_succ (k := k) (by omega)
  try simp only [I, B, D, RX, ↓ KW, Nat.reduceBEq, Nat.reduceAdd, Nat.reduceLeDiff, Int.reduceNe, Int.reduceBEq, Int.reduceEq, reduceCtorEq, Nat.reduceMul, Int.reduceLT, Int.reduceLE, Int.reduceToNat]
  cases h2 : decide ((k : Int) < (((setN a).length : Nat) : Int))
  · have e : k = (setN a).length := by have := of_decide_eq_false h2; omega
    subst e
    rw [List.take_length] at hno
    have : clashR t a b = false := hno
    try simp only [I, B, D, RX, ↓ KW, Nat.reduceBEq, Nat.reduceAdd, Nat.reduceLeDiff, Int.reduceNe, Int.reduceBEq, Int.reduceEq, reduceCtorEq, Nat.reduceMul, Int.reduceLT, Int.reduceLE, Int.reduceToNat, h2, this]
  have hlt : k < (setN a).length := by have := of_decide_eq_true h2; omega
  obtain ⟨p, hp⟩ : ∃ x, (setN a)[k]? = some x := ⟨_, List.getElem?_eq_getElem hlt⟩
  have hpp := setN_at hp
  have h8 := setN_lt (List.mem_of_getElem? hp)
  have hx : 0 ≤ (p : Int) ∧ (p : Int) < (8 : Nat) := by omega
  have hnext := any_take hno hp
  have g1 := h.con_at h8
  try simp only [I, B, D, RX, ↓ KW, Nat.reduceBEq, Nat.reduceAdd, Nat.reduceLeDiff, Int.reduceNe, Int.reduceBEq, Int.reduceEq, reduceCtorEq, Nat.reduceMul, Int.reduceLT, Int.reduceLE, Int.reduceToNat, h2, a_rows, hra, hpp, intRow, List.length_map]
  refine ⟨by omega, ?_⟩
  refine call_is (hL b none (.inl rfl)) ?_
  try simp only [I, B, D, RX, ↓ KW, Nat.reduceBEq, Nat.reduceAdd, Nat.reduceLeDiff, Int.reduceNe, Int.reduceBEq, Int.reduceEq, reduceCtorEq, Nat.reduceMul, Int.reduceLT, Int.reduceLE, Int.reduceToNat, a_len, hrb, List.length_map]
  refine aw_loop' (fun j : Nat => (⟨[(21, .dat (I j) none), (20, .dat (I ((setN b).length : Nat)) none), (19, .dat (slAV intRow (mkO (listS b))) none), (8, .dat (I p) none), (3, .ptr 4 0), (14, .dat (I k) none), (13, .dat (I ((setN a).length : Nat)) none), (12, .dat (slAV intRow (mkO (listS a))) none), (2, .dat (I b) none)], [(4, ⟨t.cells, []⟩)], [], 500⟩ : S)) (fun j => (setN b).length - j) (fun j => j ≤ (setN b).length ∧ ((setN b).take j).any (fun q => clT t p q) = false) ?_ 0 (by simp) ?_
  rotate_left
  · refine le_tok2 (by decide) ?_ ?_ ?_ ?_ <;> simp [LX, I, B, D]
  rintro j ⟨hj, hno2⟩ A2 back2
  have hwr2 := wrap_succ (k := j) (by omega)
  try simp only [I, B, D, RX, ↓ KW, Nat.reduceBEq, Nat.reduceAdd, Nat.reduceLeDiff, Int.reduceNe, Int.reduceBEq, Int.reduceEq, reduceCtorEq, Nat.reduceMul, Int.reduceLT, Int.reduceLE, Int.reduceToNat]
  cases h3 : decide ((j : Int) < (((setN b).length : Nat) : Int))
  · have e : j = (setN b).length := by have := of_decide_eq_false h3; omega
    subst e
    rw [List.take_length] at hno2
    try simp only [I, B, D, RX, ↓ KW, Nat.reduceBEq, Nat.reduceAdd, Nat.reduceLeDiff, Int.reduceNe, Int.reduceBEq, Int.reduceEq, reduceCtorEq, Nat.reduceMul, Int.reduceLT, Int.reduceLE, Int.reduceToNat, h3]
    refine back (k + 1) _ ⟨by omega, by rw [hnext]; exact hno2⟩ (by omega) ?_
    refine le_tok2 (by decide) ?_ ?_ ?_ ?_ <;> simp [LX, I, B, D, hwr]
  have hlt2 : j < (setN b).length := by have := of_decide_eq_true h3; omega
  obtain ⟨q, hq⟩ : ∃ x, (setN b)[j]? = some x := ⟨_, List.getElem?_eq_getElem hlt2⟩
  have hqq := setN_at hq
  have hq8 := setN_lt (List.mem_of_getElem? hq)
  have hy : 0 ≤ (q : Int) ∧ (q : Int) < (8 : Nat) := by omega
  have hnext2 := any_take hno2 hq
  have g2 := h.con_at hq8
  have c1 := hH (conAt t p) q
  have c2 := hH (conAt t q) p
  rw [hasR_tb hq8] at c1
  rw [hasR_tb h8] at c2
  have hyes : clT t p q = true → clashR t a b = true := fun e => any_yes hp (any_yes hq e)
  rw [clT] at hnext2 hyes
  generalize tb (conAt t p) q = b1 at *
  generalize tb (conAt t q) p = b2 at *
  try simp only [I, B, D, RX, ↓ KW, Nat.reduceBEq, Nat.reduceAdd, Nat.reduceLeDiff, Int.reduceNe, Int.reduceBEq, Int.reduceEq, reduceCtorEq, Nat.reduceMul, Int.reduceLT, Int.reduceLE, Int.reduceToNat, h3, a_rows, hrb, hqq, intRow, List.length_map, hx, hy, g1, g2]
  refine ⟨by omega, ?_⟩
  refine call_is c1 ?_
  cases b1
  · try simp only [I, B, D, RX, ↓ KW, Nat.reduceBEq, Nat.reduceAdd, Nat.reduceLeDiff, Int.reduceNe, Int.reduceBEq, Int.reduceEq, reduceCtorEq, Nat.reduceMul, Int.reduceLT, Int.reduceLE, Int.reduceToNat, hx, hy, g1, g2]
    refine call_is c2 ?_
    cases b2
    · try simp only [I, B, D, RX, ↓ KW, Nat.reduceBEq, Nat.reduceAdd, Nat.reduceLeDiff, Int.reduceNe, Int.reduceBEq, Int.reduceEq, reduceCtorEq, Nat.reduceMul, Int.reduceLT, Int.reduceLE, Int.reduceToNat]
      refine back2 (j + 1) _ ⟨by omega, by simpa using hnext2⟩ (by omega) ?_
      refine le_tok2 (by decide) ?_ ?_ ?_ ?_ <;> simp [LX, I, B, D, hwr2]
    · try simp only [I, B, D, RX, ↓ KW, Nat.reduceBEq, Nat.reduceAdd, Nat.reduceLeDiff, Int.reduceNe, Int.reduceBEq, Int.reduceEq, reduceCtorEq, Nat.reduceMul, Int.reduceLT, Int.reduceLE, Int.reduceToNat]
      rw [hyes rfl]
  · try simp only [I, B, D, RX, ↓ KW, Nat.reduceBEq, Nat.reduceAdd, Nat.reduceLeDiff, Int.reduceNe, Int.reduceBEq, Int.reduceEq, reduceCtorEq, Nat.reduceMul, Int.reduceLT, Int.reduceLE, Int.reduceToNat]
    rw [hyes rfl]
theorem kConf.ok {fL e fH fB : Nat} (hc : cFn P f = some (cc_ref08_conflict fL fH fB)) (hL : refList.Spec (Pure P) fL e) (hH : refHas.Spec (Pure P) fH) (hB : beside.Spec (Pure P) fB) : kConf.Spec (Pure P) f := by
  intro t p on ht h8
  have h := ht.ln
  have hlb := setN_len on
  have hrb := setN_rows on
  have hx : 0 ≤ (p : Int) ∧ (p : Int) < (8 : Nat) := by omega
  have g1 := h.con_at h8
  have hw := h.whole
  refine pure_of hm hc (by show 3 ≤ 49; decide) (aw_flat (keep := []) (i := 0) ?_)
  try simp only [I, B, D, RX, ↓ KW, Nat.reduceBEq, Nat.reduceAdd, Nat.reduceLeDiff, Int.reduceNe, Int.reduceBEq, Int.reduceEq, reduceCtorEq, Nat.reduceMul, Int.reduceLT, Int.reduceLE, Int.reduceToNat, cc_ref08_conflict, Z.H]
  refine call_is (hL on none (.inl rfl)) ?_
  try simp only [I, B, D, RX, ↓ KW, Nat.reduceBEq, Nat.reduceAdd, Nat.reduceLeDiff, Int.reduceNe, Int.reduceBEq, Int.reduceEq, reduceCtorEq, Nat.reduceMul, Int.reduceLT, Int.reduceLE, Int.reduceToNat, a_len, hrb, List.length_map]
  refine aw_loop' (fun j : Nat => (⟨[(13, .dat (I j) none), (12, .dat (I ((setN on).length : Nat)) none), (11, .dat (slAV intRow (mkO (listS on))) none), (1, .dat (I p) none), (3, .ptr 4 0)], [(4, ⟨t.cells, []⟩)], [], 400⟩ : S)) (fun j => (setN on).length - j) (fun j => j ≤ (setN on).length ∧ ((setN on).take j).any (confR t p) = false) ?_ 0 (by simp) ?_
  rotate_left
  · refine le_tok2 (by decide) ?_ ?_ ?_ ?_ <;> simp [LX, I, B, D]
  rintro j ⟨hj, hno2⟩ A2 back2
  have hwr2 := wrap_succ (k := j) (by omega)
  try simp only [I, B, D, RX, ↓ KW, Nat.reduceBEq, Nat.reduceAdd, Nat.reduceLeDiff, Int.reduceNe, Int.reduceBEq, Int.reduceEq, reduceCtorEq, Nat.reduceMul, Int.reduceLT, Int.reduceLE, Int.reduceToNat]
  cases h3 : decide ((j : Int) < (((setN on).length : Nat) : Int))
  · have e : j = (setN on).length := by have := of_decide_eq_false h3; omega
    subst e
    rw [List.take_length] at hno2
    try simp only [I, B, D, RX, ↓ KW, Nat.reduceBEq, Nat.reduceAdd, Nat.reduceLeDiff, Int.reduceNe, Int.reduceBEq, Int.reduceEq, reduceCtorEq, Nat.reduceMul, Int.reduceLT, Int.reduceLE, Int.reduceToNat, h3, hno2]
    try rfl
  have hlt2 : j < (setN on).length := by have := of_decide_eq_true h3; omega
  obtain ⟨q, hq⟩ : ∃ x, (setN on)[j]? = some x := ⟨_, List.getElem?_eq_getElem hlt2⟩
  have hqq := setN_at hq
  have hq8 := setN_lt (List.mem_of_getElem? hq)
  have hy : 0 ≤ (q : Int) ∧ (q : Int) < (8 : Nat) := by omega
  have hnext2 := any_take hno2 hq
  have g2 := h.con_at hq8
  have c1 := hH (conAt t p) q
  have c2 := hH (conAt t q) p
  have c3 := hB t p q ht
  rw [hasR_tb hq8] at c1
  rw [hasR_tb h8] at c2
  have hyes : confR t p q = true → (setN on).any (confR t p) = true := fun e => any_yes hq e
  rw [confR] at hnext2 hyes
  generalize tb (conAt t p) q = b1 at *
  generalize tb (conAt t q) p = b2 at *
  generalize besideR t p q = b3 at *
  generalize hqp : ((q : Int) == (p : Int)) = b4 at *
  try simp only [I, B, D, RX, ↓ KW, Nat.reduceBEq, Nat.reduceAdd, Nat.reduceLeDiff, Int.reduceNe, Int.reduceBEq, Int.reduceEq, reduceCtorEq, Nat.reduceMul, Int.reduceLT, Int.reduceLE, Int.reduceToNat, h3, a_rows, hrb, hqq, intRow, List.length_map, hx, hy, g1, g2]
  refine ⟨by omega, ?_⟩
  refine call_is c1 ?_
  cases b1
  · try simp only [I, B, D, RX, ↓ KW, Nat.reduceBEq, Nat.reduceAdd, Nat.reduceLeDiff, Int.reduceNe, Int.reduceBEq, Int.reduceEq, reduceCtorEq, Nat.reduceMul, Int.reduceLT, Int.reduceLE, Int.reduceToNat, hx, hy, g1, g2]
    refine call_is c2 ?_
    cases b2
    · try simp only [I, B, D, RX, ↓ KW, Nat.reduceBEq, Nat.reduceAdd, Nat.reduceLeDiff, Int.reduceNe, Int.reduceBEq, Int.reduceEq, reduceCtorEq, Nat.reduceMul, Int.reduceLT, Int.reduceLE, Int.reduceToNat, BNW]
      refine back2 (j + 1) _ ⟨by omega, by simpa using hnext2⟩ (by omega) ?_
      refine le_tok2 (by decide) ?_ ?_ ?_ ?_ <;> simp [LX, I, B, D, hwr2]
    · try simp only [I, B, D, RX, ↓ KW, Nat.reduceBEq, Nat.reduceAdd, Nat.reduceLeDiff, Int.reduceNe, Int.reduceBEq, Int.reduceEq, reduceCtorEq, Nat.reduceMul, Int.reduceLT, Int.reduceLE, Int.reduceToNat, BNW]
      rw [hyes rfl]
      try rfl
  · try simp only [I, B, D, RX, ↓ KW, Nat.reduceBEq, Nat.reduceAdd, Nat.reduceLeDiff, Int.reduceNe, Int.reduceBEq, Int.reduceEq, reduceCtorEq, Nat.reduceMul, Int.reduceLT, Int.reduceLE, Int.reduceToNat, hqp]
    cases b4
    · try simp only [I, B, D, RX, ↓ KW, Nat.reduceBEq, Nat.reduceAdd, Nat.reduceLeDiff, Int.reduceNe, Int.reduceBEq, Int.reduceEq, reduceCtorEq, Nat.reduceMul, Int.reduceLT, Int.reduceLE, Int.reduceToNat, hx, hy, g1, g2]
      refine call_is c2 ?_
      cases b2
      · try simp only [I, B, D, RX, ↓ KW, Nat.reduceBEq, Nat.reduceAdd, Nat.reduceLeDiff, Int.reduceNe, Int.reduceBEq, Int.reduceEq, reduceCtorEq, Nat.reduceMul, Int.reduceLT, Int.reduceLE, Int.reduceToNat, BNW]
        rw [hyes rfl]
        try rfl
      · try simp only [I, B, D, RX, ↓ KW, Nat.reduceBEq, Nat.reduceAdd, Nat.reduceLeDiff, Int.reduceNe, Int.reduceBEq, Int.reduceEq, reduceCtorEq, Nat.reduceMul, Int.reduceLT, Int.reduceLE, Int.reduceToNat, BNW, hw]
        refine call_is c3 ?_
        cases b3
        · try simp only [I, B, D, RX, ↓ KW, Nat.reduceBEq, Nat.reduceAdd, Nat.reduceLeDiff, Int.reduceNe, Int.reduceBEq, Int.reduceEq, reduceCtorEq, Nat.reduceMul, Int.reduceLT, Int.reduceLE, Int.reduceToNat]
          refine back2 (j + 1) _ ⟨by omega, by simpa using hnext2⟩ (by omega) ?_
          refine le_tok2 (by decide) ?_ ?_ ?_ ?_ <;> simp [LX, I, B, D, hwr2]
        · try simp only [I, B, D, RX, ↓ KW, Nat.reduceBEq, Nat.reduceAdd, Nat.reduceLeDiff, Int.reduceNe, Int.reduceBEq, Int.reduceEq, reduceCtorEq, Nat.reduceMul, Int.reduceLT, Int.reduceLE, Int.reduceToNat]
          rw [hyes rfl]
          try rfl
    · try simp only [I, B, D, RX, ↓ KW, Nat.reduceBEq, Nat.reduceAdd, Nat.reduceLeDiff, Int.reduceNe, Int.reduceBEq, Int.reduceEq, reduceCtorEq, Nat.reduceMul, Int.reduceLT, Int.reduceLE, Int.reduceToNat]
      rw [hyes rfl]
      try rfl
theorem kFlash.ok {fL e fH : Nat} (hc : cFn P f = some (cc_ref08_flash fL fH)) (hL : refList.Spec (Pure P) fL e) (hH : refHas.Spec (Pure P) fH) : kFlash.Spec (Pure P) f := by
  intro t p on h h8
  have hlb := setN_len on
  have hrb := setN_rows on
  have hx : 0 ≤ (p : Int) ∧ (p : Int) < (8 : Nat) := by omega
  have g1 := h.con_at h8
  have g3 := h.fl_at h8
  have hw := h.whole
  rw [flOk]
  refine pure_of hm hc (by show 3 ≤ 42; decide) (aw_flat (keep := []) (i := 0) ?_)
  try simp only [I, B, D, RX, ↓ KW, Nat.reduceBEq, Nat.reduceAdd, Nat.reduceLeDiff, Int.reduceNe, Int.reduceBEq, Int.reduceEq, reduceCtorEq, Nat.reduceMul, Int.reduceLT, Int.reduceLE, Int.reduceToNat, cc_ref08_flash, Z.H, hx, g3]
  cases h0 : (flAt t p == 0)
  rotate_left
  · try simp only [I, B, D, RX, ↓ KW, Nat.reduceBEq, Nat.reduceAdd, Nat.reduceLeDiff, Int.reduceNe, Int.reduceBEq, Int.reduceEq, reduceCtorEq, Nat.reduceMul, Int.reduceLT, Int.reduceLE, Int.reduceToNat, h0]
    try rfl
  try simp only [I, B, D, RX, ↓ KW, Nat.reduceBEq, Nat.reduceAdd, Nat.reduceLeDiff, Int.reduceNe, Int.reduceBEq, Int.reduceEq, reduceCtorEq, Nat.reduceMul, Int.reduceLT, Int.reduceLE, Int.reduceToNat, h0]
  refine call_is (hL on none (.inl rfl)) ?_
  try simp only [I, B, D, RX, ↓ KW, Nat.reduceBEq, Nat.reduceAdd, Nat.reduceLeDiff, Int.reduceNe, Int.reduceBEq, Int.reduceEq, reduceCtorEq, Nat.reduceMul, Int.reduceLT, Int.reduceLE, Int.reduceToNat, a_len, hrb, List.length_map]
  refine aw_loop' (fun j : Nat => (⟨[(17, .dat (I j) none), (16, .dat (I ((setN on).length : Nat)) none), (15, .dat (slAV intRow (mkO (listS on))) none), (1, .dat (I p) none), (3, .ptr 4 0)], [(4, ⟨t.cells, []⟩)], [], 400⟩ : S)) (fun j => (setN on).length - j) (fun j => j ≤ (setN on).length ∧ ((setN on).take j).any (flR t p) = false) ?_ 0 (by simp) ?_
  rotate_left
  · refine le_tok2 (by decide) ?_ ?_ ?_ ?_ <;> simp [LX, I, B, D]
  rintro j ⟨hj, hno2⟩ A2 back2
  have hwr2 := wrap_succ (k := j) (by omega)
  try simp only [I, B, D, RX, ↓ KW, Nat.reduceBEq, Nat.reduceAdd, Nat.reduceLeDiff, Int.reduceNe, Int.reduceBEq, Int.reduceEq, reduceCtorEq, Nat.reduceMul, Int.reduceLT, Int.reduceLE, Int.reduceToNat]
  cases h3 : decide ((j : Int) < (((setN on).length : Nat) : Int))
  · have e : j = (setN on).length := by have := of_decide_eq_false h3; omega
    subst e
    rw [List.take_length] at hno2
    try simp only [I, B, D, RX, ↓ KW, Nat.reduceBEq, Nat.reduceAdd, Nat.reduceLeDiff, Int.reduceNe, Int.reduceBEq, Int.reduceEq, reduceCtorEq, Nat.reduceMul, Int.reduceLT, Int.reduceLE, Int.reduceToNat, h3, hno2]
    try rfl
  have hlt2 : j < (setN on).length := by have := of_decide_eq_true h3; omega
  obtain ⟨q, hq⟩ : ∃ x, (setN on)[j]? = some x := ⟨_, List.getElem?_eq_getElem hlt2⟩
  have hqq := setN_at hq
  have hq8 := setN_lt (List.mem_of_getElem? hq)
  have hy : 0 ≤ (q : Int) ∧ (q : Int) < (8 : Nat) := by omega
  have hnext2 := any_take hno2 hq
  have g2 := h.fl_at hq8
  have c1 := hH (conAt t p) q
  rw [hasR_tb hq8] at c1
  have hyes : flR t p q = true → (setN on).any (flR t p) = true := fun e => any_yes hq e
  rw [flR] at hnext2 hyes
  generalize tb (conAt t p) q = b3 at *
  generalize hb1 : (flAt t p == 2) = b1 at *
  generalize hb2 : (flAt t q == 2) = b2 at *
  try simp only [I, B, D, RX, ↓ KW, Nat.reduceBEq, Nat.reduceAdd, Nat.reduceLeDiff, Int.reduceNe, Int.reduceBEq, Int.reduceEq, reduceCtorEq, Nat.reduceMul, Int.reduceLT, Int.reduceLE, Int.reduceToNat, h3, a_rows, hrb, hqq, intRow, List.length_map, hx, hy, g3, hb1]
  refine ⟨by omega, ?_⟩
  cases b1
  · try simp only [I, B, D, RX, ↓ KW, Nat.reduceBEq, Nat.reduceAdd, Nat.reduceLeDiff, Int.reduceNe, Int.reduceBEq, Int.reduceEq, reduceCtorEq, Nat.reduceMul, Int.reduceLT, Int.reduceLE, Int.reduceToNat, hb1]
    refine back2 (j + 1) _ ⟨by omega, by simpa using hnext2⟩ (by omega) ?_
    refine le_tok2 (by decide) ?_ ?_ ?_ ?_ <;> simp [LX, I, B, D, hwr2]
  try simp only [I, B, D, RX, ↓ KW, Nat.reduceBEq, Nat.reduceAdd, Nat.reduceLeDiff, Int.reduceNe, Int.reduceBEq, Int.reduceEq, reduceCtorEq, Nat.reduceMul, Int.reduceLT, Int.reduceLE, Int.reduceToNat, hb1, hx, hy, g2, hb2]
  cases b2
  · try simp only [I, B, D, RX, ↓ KW, Nat.reduceBEq, Nat.reduceAdd, Nat.reduceLeDiff, Int.reduceNe, Int.reduceBEq, Int.reduceEq, reduceCtorEq, Nat.reduceMul, Int.reduceLT, Int.reduceLE, Int.reduceToNat, hb2]
    refine back2 (j + 1) _ ⟨by omega, by simpa using hnext2⟩ (by omega) ?_
    refine le_tok2 (by decide) ?_ ?_ ?_ ?_ <;> simp [LX, I, B, D, hwr2]
  try simp only [I, B, D, RX, ↓ KW, Nat.reduceBEq, Nat.reduceAdd, Nat.reduceLeDiff, Int.reduceNe, Int.reduceBEq, Int.reduceEq, reduceCtorEq, Nat.reduceMul, Int.reduceLT, Int.reduceLE, Int.reduceToNat, hb2, hx, hy, g1]
  refine call_is c1 ?_
  cases b3
  · try simp only [I, B, D, RX, ↓ KW, Nat.reduceBEq, Nat.reduceAdd, Nat.reduceLeDiff, Int.reduceNe, Int.reduceBEq, Int.reduceEq, reduceCtorEq, Nat.reduceMul, Int.reduceLT, Int.reduceLE, Int.reduceToNat]
    refine back2 (j + 1) _ ⟨by omega, by simpa using hnext2⟩ (by omega) ?_
    refine le_tok2 (by decide) ?_ ?_ ?_ ?_ <;> simp [LX, I, B, D, hwr2]
  · try simp only [I, B, D, RX, ↓ KW, Nat.reduceBEq, Nat.reduceAdd, Nat.reduceLeDiff, Int.reduceNe, Int.reduceBEq, Int.reduceEq, reduceCtorEq, Nat.reduceMul, Int.reduceLT, Int.reduceLE, Int.reduceToNat]
    rw [hyes rfl]
    try rfl
theorem kRail.ok {fI fX fC : Nat} (hc : cFn P f = some (cc_ref08_rail fI fX fC)) (hI : kIn.Spec (Pure P) fI) (hX : kExit.Spec (Pure P) fX) (hC : kClash.Spec (Pure P) fC) : kRail.Spec (Pure P) f := by
  intro t r on ht
  have h := ht.ln
  have hw := h.whole
  have c1 := hI (bOr .i64 (bOr .i64 (bOr .i64 r.bars r.clear) r.dwell) r.exit) on
  have c2 := hX t r.exit ht
  have c3 := hC t r.clear r.clear h
  have c4 := hC t r.dwell r.dwell h
  have c5 := hC t r.exit r.exit h
  rw [railOk]
  generalize inB (bOr .i64 (bOr .i64 (bOr .i64 r.bars r.clear) r.dwell) r.exit) on = b1 at *
  generalize exitOk t r.exit = b4 at *
  generalize clashR t r.clear r.clear = b5 at *
  generalize clashR t r.dwell r.dwell = b6 at *
  generalize clashR t r.exit r.exit = b7 at *
  generalize h2 : (r.dwell != 0) = b2
  generalize h3 : (bAnd .i64 r.dwell r.bars == 0) = b3
  generalize h9 : decide (r.hold > 0) = b9
  generalize h10 : (r.clear != 0) = b10
  generalize h11 : decide (r.green ≥ 1) = b11
  generalize h12 : decide (r.stay ≥ 1) = b12
  generalize h13 : (r.most == 0) = b13
  generalize h14 : decide (r.most ≥ r.stay) = b14
  generalize h15 : decide (r.limit > r.delay) = b15
  refine pure_of hm hc (by show 3 ≤ 106; decide) (aw_flat (keep := []) (i := 0) ?_)
  try simp only [I, B, D, RX, ↓ KW, Nat.reduceBEq, Nat.reduceAdd, Nat.reduceLeDiff, Int.reduceNe, Int.reduceBEq, Int.reduceEq, reduceCtorEq, Nat.reduceMul, Int.reduceLT, Int.reduceLE, Int.reduceToNat, cc_ref08_rail, Z.H, h2, h3, h9, h10, h11, h12, h13, h14, h15, hw, Rl.cells, BNW]
  refine call_is c1 ?_
  cases b1
  · try simp only [I, B, D, RX, ↓ KW, Nat.reduceBEq, Nat.reduceAdd, Nat.reduceLeDiff, Int.reduceNe, Int.reduceBEq, Int.reduceEq, reduceCtorEq, Nat.reduceMul, Int.reduceLT, Int.reduceLE, Int.reduceToNat, h2, h3, h9, h10, h11, h12, h13, h14, h15, hw, Rl.cells, BNW]
    try rfl
  try simp only [I, B, D, RX, ↓ KW, Nat.reduceBEq, Nat.reduceAdd, Nat.reduceLeDiff, Int.reduceNe, Int.reduceBEq, Int.reduceEq, reduceCtorEq, Nat.reduceMul, Int.reduceLT, Int.reduceLE, Int.reduceToNat, h2, h3, h9, h10, h11, h12, h13, h14, h15, hw, Rl.cells, BNW]
  cases b2
  · try simp only [I, B, D, RX, ↓ KW, Nat.reduceBEq, Nat.reduceAdd, Nat.reduceLeDiff, Int.reduceNe, Int.reduceBEq, Int.reduceEq, reduceCtorEq, Nat.reduceMul, Int.reduceLT, Int.reduceLE, Int.reduceToNat, h2, h3, h9, h10, h11, h12, h13, h14, h15, hw, Rl.cells, BNW]
    try rfl
  try simp only [I, B, D, RX, ↓ KW, Nat.reduceBEq, Nat.reduceAdd, Nat.reduceLeDiff, Int.reduceNe, Int.reduceBEq, Int.reduceEq, reduceCtorEq, Nat.reduceMul, Int.reduceLT, Int.reduceLE, Int.reduceToNat, h2, h3, h9, h10, h11, h12, h13, h14, h15, hw, Rl.cells, BNW]
  cases b3
  · try simp only [I, B, D, RX, ↓ KW, Nat.reduceBEq, Nat.reduceAdd, Nat.reduceLeDiff, Int.reduceNe, Int.reduceBEq, Int.reduceEq, reduceCtorEq, Nat.reduceMul, Int.reduceLT, Int.reduceLE, Int.reduceToNat, h2, h3, h9, h10, h11, h12, h13, h14, h15, hw, Rl.cells, BNW]
    try rfl
  try simp only [I, B, D, RX, ↓ KW, Nat.reduceBEq, Nat.reduceAdd, Nat.reduceLeDiff, Int.reduceNe, Int.reduceBEq, Int.reduceEq, reduceCtorEq, Nat.reduceMul, Int.reduceLT, Int.reduceLE, Int.reduceToNat, h2, h3, h9, h10, h11, h12, h13, h14, h15, hw, Rl.cells, BNW]
  refine call_is c2 ?_
  cases b4
  · try simp only [I, B, D, RX, ↓ KW, Nat.reduceBEq, Nat.reduceAdd, Nat.reduceLeDiff, Int.reduceNe, Int.reduceBEq, Int.reduceEq, reduceCtorEq, Nat.reduceMul, Int.reduceLT, Int.reduceLE, Int.reduceToNat, h2, h3, h9, h10, h11, h12, h13, h14, h15, hw, Rl.cells, BNW]
    try rfl
  try simp only [I, B, D, RX, ↓ KW, Nat.reduceBEq, Nat.reduceAdd, Nat.reduceLeDiff, Int.reduceNe, Int.reduceBEq, Int.reduceEq, reduceCtorEq, Nat.reduceMul, Int.reduceLT, Int.reduceLE, Int.reduceToNat, h2, h3, h9, h10, h11, h12, h13, h14, h15, hw, Rl.cells, BNW]
  refine call_is c3 ?_
  cases b5
  rotate_left
  · try simp only [I, B, D, RX, ↓ KW, Nat.reduceBEq, Nat.reduceAdd, Nat.reduceLeDiff, Int.reduceNe, Int.reduceBEq, Int.reduceEq, reduceCtorEq, Nat.reduceMul, Int.reduceLT, Int.reduceLE, Int.reduceToNat, h2, h3, h9, h10, h11, h12, h13, h14, h15, hw, Rl.cells, BNW]
    try rfl
  try simp only [I, B, D, RX, ↓ KW, Nat.reduceBEq, Nat.reduceAdd, Nat.reduceLeDiff, Int.reduceNe, Int.reduceBEq, Int.reduceEq, reduceCtorEq, Nat.reduceMul, Int.reduceLT, Int.reduceLE, Int.reduceToNat, h2, h3, h9, h10, h11, h12, h13, h14, h15, hw, Rl.cells, BNW]
  refine call_is c4 ?_
  cases b6
  rotate_left
  · try simp only [I, B, D, RX, ↓ KW, Nat.reduceBEq, Nat.reduceAdd, Nat.reduceLeDiff, Int.reduceNe, Int.reduceBEq, Int.reduceEq, reduceCtorEq, Nat.reduceMul, Int.reduceLT, Int.reduceLE, Int.reduceToNat, h2, h3, h9, h10, h11, h12, h13, h14, h15, hw, Rl.cells, BNW]
    try rfl
  try simp only [I, B, D, RX, ↓ KW, Nat.reduceBEq, Nat.reduceAdd, Nat.reduceLeDiff, Int.reduceNe, Int.reduceBEq, Int.reduceEq, reduceCtorEq, Nat.reduceMul, Int.reduceLT, Int.reduceLE, Int.reduceToNat, h2, h3, h9, h10, h11, h12, h13, h14, h15, hw, Rl.cells, BNW]
  refine call_is c5 ?_
  cases b7
  rotate_left
  · try simp only [I, B, D, RX, ↓ KW, Nat.reduceBEq, Nat.reduceAdd, Nat.reduceLeDiff, Int.reduceNe, Int.reduceBEq, Int.reduceEq, reduceCtorEq, Nat.reduceMul, Int.reduceLT, Int.reduceLE, Int.reduceToNat, h2, h3, h9, h10, h11, h12, h13, h14, h15, hw, Rl.cells, BNW]
    try rfl
  try simp only [I, B, D, RX, ↓ KW, Nat.reduceBEq, Nat.reduceAdd, Nat.reduceLeDiff, Int.reduceNe, Int.reduceBEq, Int.reduceEq, reduceCtorEq, Nat.reduceMul, Int.reduceLT, Int.reduceLE, Int.reduceToNat, h2, h3, h9, h10, h11, h12, h13, h14, h15, hw, Rl.cells, BNW]
  cases b9 <;> cases b10
  all_goals try simp only [I, B, D, RX, ↓ KW, Nat.reduceBEq, Nat.reduceAdd, Nat.reduceLeDiff, Int.reduceNe, Int.reduceBEq, Int.reduceEq, reduceCtorEq, Nat.reduceMul, Int.reduceLT, Int.reduceLE, Int.reduceToNat, h2, h3, h9, h10, h11, h12, h13, h14, h15, hw, Rl.cells, BNW]
  all_goals try rfl
  all_goals cases b11
  all_goals try simp only [I, B, D, RX, ↓ KW, Nat.reduceBEq, Nat.reduceAdd, Nat.reduceLeDiff, Int.reduceNe, Int.reduceBEq, Int.reduceEq, reduceCtorEq, Nat.reduceMul, Int.reduceLT, Int.reduceLE, Int.reduceToNat, h2, h3, h9, h10, h11, h12, h13, h14, h15, hw, Rl.cells, BNW]
  all_goals try rfl
  all_goals cases b12
  all_goals try simp only [I, B, D, RX, ↓ KW, Nat.reduceBEq, Nat.reduceAdd, Nat.reduceLeDiff, Int.reduceNe, Int.reduceBEq, Int.reduceEq, reduceCtorEq, Nat.reduceMul, Int.reduceLT, Int.reduceLE, Int.reduceToNat, h2, h3, h9, h10, h11, h12, h13, h14, h15, hw, Rl.cells, BNW]
  all_goals try rfl
  all_goals cases b13
  all_goals try simp only [I, B, D, RX, ↓ KW, Nat.reduceBEq, Nat.reduceAdd, Nat.reduceLeDiff, Int.reduceNe, Int.reduceBEq, Int.reduceEq, reduceCtorEq, Nat.reduceMul, Int.reduceLT, Int.reduceLE, Int.reduceToNat, h2, h3, h9, h10, h11, h12, h13, h14, h15, hw, Rl.cells, BNW]
  all_goals try rfl
  all_goals try cases b14
  all_goals try simp only [I, B, D, RX, ↓ KW, Nat.reduceBEq, Nat.reduceAdd, Nat.reduceLeDiff, Int.reduceNe, Int.reduceBEq, Int.reduceEq, reduceCtorEq, Nat.reduceMul, Int.reduceLT, Int.reduceLE, Int.reduceToNat, h2, h3, h9, h10, h11, h12, h13, h14, h15, hw, Rl.cells, BNW]
  all_goals try rfl
end
end Go.Eng
namespace Go.Eng
set_option linter.unusedVariables false
set_option linter.unusedSimpArgs false
set_option linter.unnecessarySimpa false
open Go
set_option linter.unusedVariables false
set_option linter.unusedSimpArgs false
set_option maxRecDepth 10000
set_option maxHeartbeats 4000000
theorem fo_zero (rs : List (Int × Int)) : firstOf ((0, 0) :: rs) = firstOf rs := by simp [firstOf]
theorem fo_ne {c a : Int} (h : c ≠ 0) (rs : List (Int × Int)) : firstOf ((c, a) :: rs) = (c, a) := by
  have : (c == 0) = false := by simpa using h
  simp [firstOf, this]
theorem firstS_is (code on : Int) (w : Nat → Bool) : (firstN code 8 fun p => tb on p && w p) = match (setN on).find? w with | some i => (code, (i : Int)) | none => (0, 0) := by
  rw [firstN, setN, List.find?_filter]
  have : (fun a => decide (tb on a = true ∧ w a = true)) = fun p => tb on p && w p := by
    funext a; cases tb on a <;> cases w a <;> rfl
  rw [this]
  rfl
theorem find_take {α : Type} {l : List α} {w : α → Bool} {k : Nat} {x : α} (hx : l[k]? = some x) (hno : (l.take k).any w = false) (h : w x = true) : l.find? w = some x := by
  have e := list_at hx
  rw [e, List.find?_append]
  have : (l.take k).find? w = none := by
    rw [List.find?_eq_none]; intro y hy; have := List.any_eq_false.1 hno y hy; exact this
  rw [this]; simp [h]
theorem firstS_go {code on : Int} {w : Nat → Bool} {k p : Nat} (hx : (setN on)[k]? = some p) (hno : ((setN on).take k).any w = false) (h : w p = true) : (firstN code 8 fun p => tb on p && w p) = (code, (p : Int)) := by
  rw [firstS_is, find_take hx hno h]
theorem firstS_none {code on : Int} {w : Nat → Bool} (hno : (setN on).any w = false) : (firstN code 8 fun p => tb on p && w p) = (0, 0) := by
  have : (setN on).find? w = none := by
    rw [List.find?_eq_none]; intro y hy; exact List.any_eq_false.1 hno y hy
  rw [firstS_is, this]
theorem ph_may {x : Ph} (h : mayPh x = true) : phOkR x = !phBad x := by
  simp only [mayPh, List.all_cons, List.all_nil, Bool.and_true, wI, Bool.and_eq_true, decide_eq_true_eq] at h
  rw [Bool.eq_iff_iff, Bool.not_eq_true', ← Bool.not_eq_true]
  simp only [phOkR, phBad, Bool.and_eq_true, Bool.or_eq_true, decide_eq_true_eq, beq_iff_eq, bne_iff_ne, ne_eq, Bool.beq_eq_decide_eq, decide_eq_decide]
  have hb : ∀ a b : Bool, ¬ (a = b) ↔ ¬ (a = true ↔ b = true) := by intro a b; cases a <;> cases b <;> simp
  omega
theorem conf_any {t : Tb} {on : Int} {p : Nat} (hp : p ∈ setN on) : (setN on).any (confR t p) = confBad t on p := by
  rw [confBad, Bool.eq_iff_iff, Bool.or_eq_true, List.any_eq_true, List.any_eq_true]
  constructor
  · rintro ⟨q, hq, h⟩
    rw [confR, Bool.or_eq_true, Bool.or_eq_true, Bool.and_eq_true] at h
    rcases h with (⟨h1, h2⟩ | h1) | h1
    · have : q = p := by have := eq_of_beq h2; omega
      subst this; exact .inl h1
    · exact .inr ⟨q, hq, by rw [confQ, h1]; rfl⟩
    · exact .inr ⟨q, hq, by rw [confQ, h1, Bool.or_true]⟩
  · rintro (h | ⟨q, hq, h⟩)
    · exact ⟨p, hp, by rw [confR, h]; simp⟩
    · rw [confQ, Bool.or_eq_true] at h
      rcases h with h | h
      · exact ⟨q, hq, by rw [confR, h]; simp⟩
      · exact ⟨q, hq, by rw [confR, h, Bool.or_true]⟩
theorem fl_any {t : Tb} {on : Int} {p : Nat} (hp : p ∈ setN on) (hc : tb (conAt t p) p = false) : flOk t on p = !flBad t on p := by
  rw [flOk, flBad]
  cases flAt t p == 0
  · rw [Bool.false_or, Bool.not_false, Bool.true_and]
    congr 1
    rw [Bool.eq_iff_iff, List.any_eq_true, List.any_eq_true]
    constructor
    · rintro ⟨q, hq, h⟩
      simp only [flR, Bool.and_eq_true] at h
      have h8 := setN_lt hq
      refine ⟨q, setN_mem h8 (by rw [tb_and, h.2, setN_tb hq]; rfl), ?_⟩
      have hne : q ≠ p := by intro e; subst e; rw [h.2] at hc; cases hc
      have : ((q : Int) != (p : Int)) = true := by simp; omega
      rw [flQ, this, h.1.1, h.1.2]; rfl
    · rintro ⟨q, hq, h⟩
      simp only [flQ, Bool.and_eq_true] at h
      have h8 := setN_lt hq
      have ht := setN_tb hq
      rw [tb_and, Bool.and_eq_true] at ht
      exact ⟨q, setN_mem h8 ht.2, by rw [flR, h.1.2, h.2, ht.1]; rfl⟩
  · rfl
theorem in_small {a b : Int} (h : Can a) : inB a b = (bAndNot .i64 a b == 0) := by
  rw [inB, Bool.eq_iff_iff, beq_iff_eq, beq_iff_eq, and_zero, andNot_zero]
  constructor
  · intro h1 i hi
    rcases Nat.lt_or_ge i 8 with h8 | h8
    · have := h1 i hi
      rw [tb_andNot _ _ _ hi, tb_255] at this
      simpa [h8] using this
    · rw [can_high h h8 hi]; rfl
  · intro h1 i hi
    rw [tb_andNot _ _ _ hi, h1 i hi]; rfl
theorem can_or {a b : Int} (ha : Can a) (hb : Can b) : Can (bOr .i64 a b) := by
  have e : bOr .i64 a b = IntKind.i64.wrap ((bv a ||| bv b).toNat : Int) := rfl
  rw [e]
  refine can_bits fun i h8 h64 => ?_
  rw [BitVec.getLsbD_or]
  have x := can_high ha h8 h64
  have y := can_high hb h8 h64
  simp only [tb] at x y
  rw [x, y]; rfl
theorem wI_can {x : Int} (h : wI 255 x = true) : Can x := by
  simp only [wI, Bool.and_eq_true, decide_eq_true_eq] at h
  exact ⟨h.1, by omega⟩
theorem can_ne {x : Int} (h : Can x) : decide (0 < (setN x).length) = (x != 0) := by
  rw [Bool.eq_iff_iff, decide_eq_true_iff, bne_iff_ne]
  constructor
  · intro h1 e
    subst e
    have : setN 0 = [] := by decide
    rw [this] at h1; simp at h1
  · intro h1
    rcases Nat.eq_zero_or_pos (setN x).length with h2 | h2
    · exfalso; apply h1
      have hnil := List.length_eq_zero_iff.1 h2
      refine can_ext h ⟨by decide, by decide⟩ fun i hi => ?_
      cases hb : tb x i
      · rw [tb_zero]
      · have := setN_mem hi hb; rw [hnil] at this; cases this
    · exact h2
theorem clash_self {t : Tb} {s : Int} (h : ∀ p ∈ setN s, tb (conAt t p) p = false) : clashR t s s = clashesE t s := by
  rw [clashR, clashesE, Bool.eq_iff_iff, List.any_eq_true, List.any_eq_true]
  constructor
  · rintro ⟨p, hp, h1⟩
    obtain ⟨q, hq, h2⟩ := List.any_eq_true.1 h1
    refine ⟨p, hp, List.any_eq_true.2 ⟨q, hq, ?_⟩⟩
    have hne : p ≠ q := by intro e; subst e; rw [clT, h p hp] at h2; cases h2
    have : ((p : Int) != (q : Int)) = true := by simp; omega
    rw [this, h2]; rfl
  · rintro ⟨p, hp, h1⟩
    obtain ⟨q, hq, h2⟩ := List.any_eq_true.1 h1
    rw [Bool.and_eq_true] at h2
    exact ⟨p, hp, List.any_eq_true.2 ⟨q, hq, h2.2⟩⟩
theorem rail_may {t : Tb} {on : Int} {r : Rl} (hr : mayRl r = true) (hc : ∀ p ∈ setN on, tb (conAt t p) p = false) : railOk t on r = !railBad t on r := by
  have hm := hr
  simp only [mayRl, List.all_cons, List.all_nil, Bool.and_true, Bool.and_eq_true] at hm
  obtain ⟨⟨⟨w1, w2, w3, w4⟩, ⟨_, _, _, _, _, w5⟩⟩, _⟩ := hm
  have k1 := wI_can w1
  have k2 := wI_can w2
  have k3 := wI_can w3
  have k4 := wI_can w4
  have w5' : 0 ≤ r.most := by simp only [wI, Bool.and_eq_true, decide_eq_true_eq] at w5; exact w5.1
  rw [railOk, railBad, in_small (can_or (can_or (can_or k1 k2) k3) k4), exitOk, can_ne k4]
  have hne : ∀ x y : Int, (x != y) = !(x == y) := fun x y => rfl
  cases h1 : (bAndNot .i64 (bOr .i64 (bOr .i64 (bOr .i64 r.bars r.clear) r.dwell) r.exit) on == 0)
  · have h1' : (bAndNot .i64 (bOr .i64 (bOr .i64 (bOr .i64 r.bars r.clear) r.dwell) r.exit) on != 0) = true := by rw [hne, h1]; rfl
    simp only [h1', Bool.false_and, Bool.true_or, Bool.not_true]
  · have hsub : ∀ p, p < 8 → (tb r.bars p = true ∨ tb r.clear p = true ∨ tb r.dwell p = true ∨ tb r.exit p = true) → tb on p = true := by
      intro p hp hh
      have := andNot_zero.1 (eq_of_beq h1) p (by omega)
      rw [tb_or, tb_or, tb_or] at this
      cases ho : tb on p
      · rw [ho] at this
        rcases hh with hh | hh | hh | hh <;> rw [hh] at this <;> simp at this
      · rfl
    have s2 : ∀ p ∈ setN r.clear, tb (conAt t p) p = false := fun p hp => hc p (setN_mem (setN_lt hp) (hsub p (setN_lt hp) (.inr (.inl (setN_tb hp)))))
    have s3 : ∀ p ∈ setN r.dwell, tb (conAt t p) p = false := fun p hp => hc p (setN_mem (setN_lt hp) (hsub p (setN_lt hp) (.inr (.inr (.inl (setN_tb hp))))))
    have s4 : ∀ p ∈ setN r.exit, tb (conAt t p) p = false := fun p hp => hc p (setN_mem (setN_lt hp) (hsub p (setN_lt hp) (.inr (.inr (.inr (setN_tb hp))))))
    rw [clash_self s2, clash_self s3, clash_self s4]
    simp only [hne, h1]
    have e1 : decide (r.green ≥ 1) = !decide (r.green < 1) := by rw [Bool.eq_iff_iff]; simp
    have e2 : decide (r.stay ≥ 1) = !decide (r.stay < 1) := by rw [Bool.eq_iff_iff]; simp
    have e3 : decide (r.limit > r.delay) = !decide (r.limit ≤ r.delay) := by rw [Bool.eq_iff_iff]; simp
    have e4 : ((r.most == 0) || decide (r.most ≥ r.stay)) = !(decide (r.most > 0) && decide (r.most < r.stay)) := by
      rw [Bool.eq_iff_iff]; simp; omega
    rw [e1, e2, e3, e4]
    generalize clashesE t r.clear = a1
    generalize clashesE t r.dwell = a2
    generalize clashesE t r.exit = a3
    generalize apartE t r.exit = a4
    generalize (r.dwell == 0) = a5
    generalize (bAnd .i64 r.dwell r.bars == 0) = a6
    generalize (r.exit == 0) = a7
    generalize decide (r.hold > 0) = a8
    generalize (r.clear == 0) = a9
    generalize decide (r.green < 1) = a10
    generalize decide (r.stay < 1) = a11
    generalize (decide (r.most > 0) && decide (r.most < r.stay)) = a12
    generalize decide (r.limit ≤ r.delay) = a13
    cases a5
    · cases a6
      · simp
      · cases a4
        · cases a7
          · cases a1 <;> cases a2 <;> cases a3 <;> cases a8 <;> cases a9 <;> simp
          · simp
        · simp
    · simp
theorem bus_may {on : Int} {b : Bs} (h : mayBs b = true) : ((b.set == 0 || !inB b.set on) || decide (b.lock < 1)) = busBad on b := by
  simp only [mayBs, List.all_cons, List.all_nil, Bool.and_true, Bool.and_eq_true] at h
  rw [in_small (wI_can h.1), busBad]; rfl
theorem det_may {on : Int} {d : Det} (h : mayDet d = true) : (gtF d.off d.on || !hasR on d.phase) = detBad on d := by
  simp only [mayDet, List.all_cons, List.all_nil, Bool.and_true, Bool.and_eq_true] at h
  have h1 := h.1.1.1.1.1
  simp only [wI, Bool.and_eq_true, decide_eq_true_eq] at h1
  obtain ⟨n, hn⟩ : ∃ n : Nat, d.phase = n := ⟨d.phase.toNat, by omega⟩
  have h8 : n < 8 := by omega
  rw [detBad, hn, hasR_tb h8, hasS_tb h8]
theorem rowSpots_map {g k : Nat} {row : List Int} (h : ∀ x ∈ row, 0 ≤ x ∧ x < 8) : ∀ i, i ≤ row.length → (rowSpots g k (row.take i)).map Sp.p = row.take i
  | 0, _ => by simp [rowSpots]
  | i + 1, hi => by
    obtain ⟨x, hx⟩ : ∃ x, row[i]? = some x := ⟨_, List.getElem?_eq_getElem (by omega)⟩
    rw [(rowSpots_next hx).1 (h x (List.mem_of_getElem? hx)), List.map_append, rowSpots_map h i (by omega), take_next hx]; rfl
theorem grSpots_map {g : Nat} {gr : Gr} (h : ∀ x ∈ gr.a.getD [] ++ gr.b.getD [], 0 ≤ x ∧ x < 8) : (grSpots gr g 2).map Sp.p = gr.a.getD [] ++ gr.b.getD [] := by
  have h1 := rowSpots_map (g := g) (k := 0) (row := gr.a.getD []) (fun x hx => h x (List.mem_append_left _ hx)) _ (Nat.le_refl _)
  have h2 := rowSpots_map (g := g) (k := 1) (row := gr.b.getD []) (fun x hx => h x (List.mem_append_right _ hx)) _ (Nat.le_refl _)
  rw [List.take_length] at h1 h2
  have e0 : grSpots gr g 0 = [] := rfl
  rw [grSpots_next, grSpots_next, e0, List.nil_append, List.map_append]
  show (rowSpots g 0 (gr.a.getD [])).map Sp.p ++ (rowSpots g 1 (gr.b.getD [])).map Sp.p = _
  rw [h1, h2]
theorem grSpots_group {gr : Gr} {g k : Nat} {x : Sp} (h : x ∈ grSpots gr g k) : x.group = g := by
  simp only [grSpots, rowSpots, List.mem_flatMap, List.mem_filterMap] at h
  obtain ⟨k, _, ⟨y, i⟩, _, h⟩ := h
  simp only at h
  split at h
  · cases h; rfl
  · cases h
theorem spotsTo_filter {l : List Gr} {g : Nat} {gr : Gr} (hg : l[g]? = some gr) : ∀ n, n ≤ l.length → (spotsTo l n).filter (fun x => x.group == (g : Int)) = if g < n then grSpots gr g 2 else []
  | 0, _ => by simp [spotsTo]
  | n + 1, hn => by
    obtain ⟨gr', hgr'⟩ : ∃ x, l[n]? = some x := ⟨_, List.getElem?_eq_getElem (by omega)⟩
    rw [spotsTo_next hgr', List.filter_append, spotsTo_filter hg n (by omega)]
    by_cases e : g = n
    · subst e
      rw [hg] at hgr'; cases hgr'
      rw [if_neg (by omega), if_pos (by omega), List.nil_append, List.filter_eq_self]
      intro x hx; rw [grSpots_group hx]; simp
    · have : (grSpots gr' n 2).filter (fun x => x.group == (g : Int)) = [] := by
        rw [List.filter_eq_nil_iff]; intro x hx; rw [grSpots_group hx]; simp; omega
      rw [this, List.append_nil]
      by_cases h : g < n
      · rw [if_pos h, if_pos (by omega)]
      · rw [if_neg h, if_neg (by omega)]
theorem spots_group {t : Tb} {g : Nat} {gr : Gr} (hg : (t.groups.getD [])[g]? = some gr) (h : ∀ x ∈ gr.a.getD [] ++ gr.b.getD [], 0 ≤ x ∧ x < 8) :
    ((spots t).filter fun x => x.group == (g : Int)).map Sp.p = gr.a.getD [] ++ gr.b.getD [] := by
  rw [spots, spotsTo_filter hg _ (Nat.le_refl _), if_pos (List.getElem?_eq_some_iff.1 hg).1, grSpots_map h]
theorem withR_S {s : Int} {p : Nat} (hp : p < 8) : withR s p = withS s p := by
  refine can_ext (can_withR _ _) (can_with hp) fun i hi => ?_
  rw [tb_withR hp, tb_with hp]
  simp [hi]
end Go.Eng
namespace Go.Eng
set_option linter.unusedVariables false
set_option linter.unusedSimpArgs false
set_option linter.unnecessarySimpa false
open Go
set_option linter.unusedVariables false
set_option linter.unusedSimpArgs false
set_option maxRecDepth 10000
set_option maxHeartbeats 4000000
def kRings.Spec (C : Con) (f : Nat) : Prop := ∀ t : Tb, t.Ok → (∀ g ∈ t.groups.getD [], ∀ x ∈ g.a.getD [] ++ g.b.getD [], 0 ≤ x ∧ x < 8) → C.c f [.agg t.cells] (.agg (fltC (ringE t (onI t)))) none
def kCheck.Spec (C : Con) (f : Nat) : Prop := ∀ t : Tb, t.Ok → t.Fw → C.c f [.agg t.cells] (.agg (fltC (checkE t))) none
theorem exit_pairs {t : Tb} {s : Int} (h : ∀ a b p q : Nat, b < a → (setN s)[a]? = some p → (setN s)[b]? = some q → besideR t p q = true) : apartE t s = false := by
  rw [apartE, List.any_eq_false]
  intro p hp
  rw [Bool.not_eq_true, List.any_eq_false]
  intro q hq
  obtain ⟨a, ha⟩ := List.mem_iff_getElem?.1 hp
  obtain ⟨b, hb⟩ := List.mem_iff_getElem?.1 hq
  by_cases e : p = q
  · subst e; simp
  · have hab : a ≠ b := by intro h2; subst h2; rw [ha] at hb; exact e (Option.some.inj hb)
    rcases Nat.lt_or_ge b a with h1 | h1
    · rw [h a b p q h1 ha hb]; simp
    · rw [beside_sym, h b a q p (by omega) hb ha]; simp
theorem exit_no {t : Tb} {s : Int} {a b p q : Nat} (hab : b < a) (ha : (setN s)[a]? = some p) (hb : (setN s)[b]? = some q) (h : besideR t p q = false) : apartE t s = true := by
  have hne : p ≠ q := by
    intro e; subst e
    have := setN_inj ha hb; omega
  refine List.any_eq_true.2 ⟨p, List.mem_of_getElem? ha, List.any_eq_true.2 ⟨q, List.mem_of_getElem? hb, ?_⟩⟩
  have : ((p : Int) != (q : Int)) = true := by simp; omega
  rw [this, h]; rfl
section
variable {P : Program} (hm : P.follows .mixedOrders = true) {f : Nat}
include hm
theorem kExit.ok {fL e fB : Nat} (hc : cFn P f = some (cc_ref08_exit fL fB)) (hL : refList.Spec (Pure P) fL e) (hB : beside.Spec (Pure P) fB) : kExit.Spec (Pure P) f := by
  intro t s ht
  have h := ht.ln
  have hw := h.whole
  have hla := setN_len s
  have hra := setN_rows s
  rw [exitOk]
  refine pure_of hm hc (by show 2 ≤ 35; decide) (aw_flat (keep := []) (i := 0) ?_)
  try simp only [I, B, D, RX, ↓ KW, Nat.reduceBEq, Nat.reduceAdd, Nat.reduceLeDiff, Int.reduceNe, Int.reduceBEq, Int.reduceEq, reduceCtorEq, Nat.reduceMul, Int.reduceLT, Int.reduceLE, Int.reduceToNat, cc_ref08_exit, Z.H]
  refine call_is (hL s none (.inl rfl)) ?_
  try simp only [I, B, D, RX, ↓ KW, Nat.reduceBEq, Nat.reduceAdd, Nat.reduceLeDiff, Int.reduceNe, Int.reduceBEq, Int.reduceEq, reduceCtorEq, Nat.reduceMul, Int.reduceLT, Int.reduceLE, Int.reduceToNat, a_len, hra, List.length_map]
  refine aw_loop' (fun i : Nat => (⟨[(6, .dat (I i) none), (5, .dat (slAV intRow (mkO (listS s))) none), (2, .ptr 4 0)], [(4, ⟨t.cells, []⟩)], [], 400⟩ : S)) (fun i => (setN s).length - i) (fun i => i ≤ (setN s).length ∧ ∀ a b p q : Nat, b < a → a < i → (setN s)[a]? = some p → (setN s)[b]? = some q → besideR t p q = true) ?_ 0 ⟨by omega, by intro a b p q _ h; omega⟩ ?_
  rotate_left
  · refine le_tok2 (by decide) ?_ ?_ ?_ ?_ <;> simp [LX, I, B, D]
  rintro i ⟨hi, hall⟩ A back
  have hwr := wrap_succ (k := i) (by omega)
  try simp only [I, B, D, RX, ↓ KW, Nat.reduceBEq, Nat.reduceAdd, Nat.reduceLeDiff, Int.reduceNe, Int.reduceBEq, Int.reduceEq, reduceCtorEq, Nat.reduceMul, Int.reduceLT, Int.reduceLE, Int.reduceToNat, a_len, hra, List.length_map]
  cases h2 : decide ((i : Int) < (((setN s).length : Nat) : Int))
  · have e : i = (setN s).length := by have := of_decide_eq_false h2; omega
    subst e
    have hap := exit_pairs (t := t) (s := s) fun a b p q hab ha hb => hall a b p q hab (List.getElem?_eq_some_iff.1 ha).1 ha hb
    have hd : decide ((((setN s).length : Nat) : Int) > 0) = decide (0 < (setN s).length) := by rw [Bool.eq_iff_iff]; simp
    try simp only [I, B, D, RX, ↓ KW, Nat.reduceBEq, Nat.reduceAdd, Nat.reduceLeDiff, Int.reduceNe, Int.reduceBEq, Int.reduceEq, reduceCtorEq, Nat.reduceMul, Int.reduceLT, Int.reduceLE, Int.reduceToNat, h2, a_len, hra, List.length_map, hd]
    rw [hap]
    try rfl
  have hlt : i < (setN s).length := by have := of_decide_eq_true h2; omega
  obtain ⟨p, hp⟩ : ∃ x, (setN s)[i]? = some x := ⟨_, List.getElem?_eq_getElem hlt⟩
  have hpp := setN_at hp
  try simp only [I, B, D, RX, ↓ KW, Nat.reduceBEq, Nat.reduceAdd, Nat.reduceLeDiff, Int.reduceNe, Int.reduceBEq, Int.reduceEq, reduceCtorEq, Nat.reduceMul, Int.reduceLT, Int.reduceLE, Int.reduceToNat, h2]
  refine aw_loop' (fun k : Nat => (⟨[(7, .dat (I k) none), (6, .dat (I i) none), (2, .ptr 4 0), (5, .dat (slAV intRow (mkO (listS s))) none)], [(4, ⟨t.cells, []⟩)], [], 500⟩ : S)) (fun k => i - k) (fun k => k ≤ i ∧ ∀ b q : Nat, b < k → (setN s)[b]? = some q → besideR t p q = true) ?_ 0 ⟨by omega, by intro b q h; omega⟩ ?_
  rotate_left
  · refine le_tok2 (by decide) ?_ ?_ ?_ ?_ <;> simp [LX, I, B, D]
  rintro k ⟨hk, hall2⟩ A2 back2
  have hwr2 := wrap_succ (k := k) (by omega)
  try simp only [I, B, D, RX, ↓ KW, Nat.reduceBEq, Nat.reduceAdd, Nat.reduceLeDiff, Int.reduceNe, Int.reduceBEq, Int.reduceEq, reduceCtorEq, Nat.reduceMul, Int.reduceLT, Int.reduceLE, Int.reduceToNat]
  cases h3 : decide ((k : Int) < (i : Int))
  · have e : k = i := by have := of_decide_eq_false h3; omega
    subst e
    try simp only [I, B, D, RX, ↓ KW, Nat.reduceBEq, Nat.reduceAdd, Nat.reduceLeDiff, Int.reduceNe, Int.reduceBEq, Int.reduceEq, reduceCtorEq, Nat.reduceMul, Int.reduceLT, Int.reduceLE, Int.reduceToNat, h3]
    refine back (k + 1) _ ⟨by omega, fun a b p' q hab hai ha hb => ?_⟩ (by omega) ?_
    · by_cases e : a = k
      · subst e; rw [hp] at ha; cases ha; exact hall2 b q hab hb
      · exact hall a b p' q hab (by omega) ha hb
    · refine le_tok2 (by decide) ?_ ?_ ?_ ?_ <;> simp [LX, I, B, D, hwr]
  have hlt2 : k < i := by have := of_decide_eq_true h3; omega
  obtain ⟨q, hq⟩ : ∃ x, (setN s)[k]? = some x := ⟨_, List.getElem?_eq_getElem (by omega)⟩
  have hqq := setN_at hq
  have c1 := hB t p q ht
  try simp only [I, B, D, RX, ↓ KW, Nat.reduceBEq, Nat.reduceAdd, Nat.reduceLeDiff, Int.reduceNe, Int.reduceBEq, Int.reduceEq, reduceCtorEq, Nat.reduceMul, Int.reduceLT, Int.reduceLE, Int.reduceToNat, h3, a_rows, hra, hpp, hqq, intRow, List.length_map, hw]
  refine ⟨by omega, by omega, ?_⟩
  refine call_is c1 ?_
  cases hb : besideR t p q
  · try simp only [I, B, D, RX, ↓ KW, Nat.reduceBEq, Nat.reduceAdd, Nat.reduceLeDiff, Int.reduceNe, Int.reduceBEq, Int.reduceEq, reduceCtorEq, Nat.reduceMul, Int.reduceLT, Int.reduceLE, Int.reduceToNat]
    rw [exit_no hlt2 hp hq hb]
    try rfl
  · try simp only [I, B, D, RX, ↓ KW, Nat.reduceBEq, Nat.reduceAdd, Nat.reduceLeDiff, Int.reduceNe, Int.reduceBEq, Int.reduceEq, reduceCtorEq, Nat.reduceMul, Int.reduceLT, Int.reduceLE, Int.reduceToNat]
    refine back2 (k + 1) _ ⟨by omega, fun b q' hbk hbq => ?_⟩ (by omega) ?_
    · by_cases e : b = k
      · subst e; rw [hq] at hbq; cases hbq; exact hb
      · exact hall2 b q' (by omega) hbq
    · refine le_tok2 (by decide) ?_ ?_ ?_ ?_ <;> simp [LX, I, B, D, hwr2]
theorem kRings.ok {fO fS e fH fW : Nat} (hc : cFn P f = some (cc_ref08_rings fO fS fH fW)) (hO : on.Spec (Pure P) fO) (hS : spots.Spec (Pure P) fS e) (hH : refHas.Spec (Pure P) fH) (hW : refWith.Spec (Pure P) fW) : kRings.Spec (Pure P) f := by
  intro t ht hrange
  have h := ht.ln
  have hg := tb_104 h
  have hw := h.whole
  have hl := h.len
  have hbg := ht.groups
  have hsl := spots_len ht
  obtain ⟨on, hon⟩ : ∃ on, on = onI t := ⟨_, rfl⟩
  rw [← hon]
  have c0 := hO t ht
  rw [← hon] at c0
  refine pure_of hm hc (by show 1 ≤ 63; decide) (aw_flat (keep := []) (i := 0) ?_)
  try simp only [I, B, D, RY, ↓ KW, Nat.reduceBEq, Nat.reduceAdd, Nat.reduceLeDiff, Int.reduceNe, Int.reduceBEq, Int.reduceEq, reduceCtorEq, Nat.reduceMul, Int.reduceLT, Int.reduceLE, Int.reduceToNat, cc_ref08_rings, Z.H, hg, a_len]
  cases h0 : ((((t.groups.getD []).length : Nat) : Int) == 0)
  rotate_left
  · have : ringE t on = (8, 0) := by rw [ringE, if_pos (by simpa using h0)]
    try simp only [I, B, D, RY, ↓ KW, Nat.reduceBEq, Nat.reduceAdd, Nat.reduceLeDiff, Int.reduceNe, Int.reduceBEq, Int.reduceEq, reduceCtorEq, Nat.reduceMul, Int.reduceLT, Int.reduceLE, Int.reduceToNat, h0, this, fltC, setCells]
    try rfl
  have hne : ringE t on = ringL on (t.groups.getD []) 0 0 := by rw [ringE, if_neg (by simpa using h0)]
  try simp only [I, B, D, RY, ↓ KW, Nat.reduceBEq, Nat.reduceAdd, Nat.reduceLeDiff, Int.reduceNe, Int.reduceBEq, Int.reduceEq, reduceCtorEq, Nat.reduceMul, Int.reduceLT, Int.reduceLE, Int.reduceToNat, h0, hw]
  refine call_is c0 ?_
  try simp only [I, B, D, RY, ↓ KW, Nat.reduceBEq, Nat.reduceAdd, Nat.reduceLeDiff, Int.reduceNe, Int.reduceBEq, Int.reduceEq, reduceCtorEq, Nat.reduceMul, Int.reduceLT, Int.reduceLE, Int.reduceToNat]
  refine aw_loop' (fun y : Nat × Int => (⟨[(5, .dat (I y.1) none), (1, .ptr 4 0), (3, .dat (I on) none), (4, .dat (I y.2) none), (2, .ptr 5 0)], [(4, ⟨t.cells, []⟩), (5, ⟨[I 0, I 0], []⟩)], [], 400⟩ : S)) (fun y => (t.groups.getD []).length - y.1) (fun y => y.1 ≤ (t.groups.getD []).length ∧ ringL on ((t.groups.getD []).drop y.1) y.1 y.2 = ringE t on) ?_ (0, 0) ⟨by simp, by rw [hne]; rfl⟩ ?_
  rotate_left
  · refine le_tok2 (by decide) ?_ ?_ ?_ ?_ <;> simp [LX, I, B, D]
  rintro ⟨g, seen⟩ ⟨hg1, hinv⟩ A back
  simp only at hg1 hinv
  have hwr := wrap_succ (k := g) (by omega)
  try simp only [I, B, D, RY, ↓ KW, Nat.reduceBEq, Nat.reduceAdd, Nat.reduceLeDiff, Int.reduceNe, Int.reduceBEq, Int.reduceEq, reduceCtorEq, Nat.reduceMul, Int.reduceLT, Int.reduceLE, Int.reduceToNat, hg, a_len]
  cases h2 : decide ((g : Int) < (((t.groups.getD []).length : Nat) : Int))
  · have e : g = (t.groups.getD []).length := by have := of_decide_eq_false h2; omega
    subst e
    rw [List.drop_length, ringL] at hinv
    cases h3 : (seen != on)
    · have h3' : (seen == on) = true := by simpa using h3
      rw [h3'] at hinv
      try simp only [I, B, D, RY, ↓ KW, Nat.reduceBEq, Nat.reduceAdd, Nat.reduceLeDiff, Int.reduceNe, Int.reduceBEq, Int.reduceEq, reduceCtorEq, Nat.reduceMul, Int.reduceLT, Int.reduceLE, Int.reduceToNat, h2, h3, fltC, setCells]
      rw [← hinv]
      try rfl
    · have h3' : (seen == on) = false := by simpa using h3
      rw [h3'] at hinv
      try simp only [I, B, D, RY, ↓ KW, Nat.reduceBEq, Nat.reduceAdd, Nat.reduceLeDiff, Int.reduceNe, Int.reduceBEq, Int.reduceEq, reduceCtorEq, Nat.reduceMul, Int.reduceLT, Int.reduceLE, Int.reduceToNat, h2, h3, fltC, setCells]
      rw [← hinv]
      try rfl
  have hlt : g < (t.groups.getD []).length := by have := of_decide_eq_true h2; omega
  obtain ⟨gr, hgr⟩ : ∃ x, (t.groups.getD [])[g]? = some x := ⟨_, List.getElem?_eq_getElem hlt⟩
  have hrs := ht.rows gr (List.mem_of_getElem? hgr)
  have hdrop : (t.groups.getD []).drop g = gr :: (t.groups.getD []).drop (g + 1) := by
    rw [List.drop_eq_getElem_cons hlt]
    congr 1
    rw [List.getElem?_eq_getElem hlt] at hgr; exact Option.some.inj hgr
  rw [hdrop, ringL] at hinv
  have hrg := hrange gr (List.mem_of_getElem? hgr)
  have hsp := spots_group hgr hrg
  try simp only [I, B, D, RY, ↓ KW, Nat.reduceBEq, Nat.reduceAdd, Nat.reduceLeDiff, Int.reduceNe, Int.reduceBEq, Int.reduceEq, reduceCtorEq, Nat.reduceMul, Int.reduceLT, Int.reduceLE, Int.reduceToNat, h2, hw]
  refine call_is (hS t none ht (.inl rfl)) ?_
  try simp only [I, B, D, RY, ↓ KW, Nat.reduceBEq, Nat.reduceAdd, Nat.reduceLeDiff, Int.reduceNe, Int.reduceBEq, Int.reduceEq, reduceCtorEq, Nat.reduceMul, Int.reduceLT, Int.reduceLE, Int.reduceToNat, a_len, mkO_getD]
  refine aw_loop' (fun y : Nat × Int => (⟨[(26, .dat (I y.1) none), (25, .dat (I ((spots t).length : Nat)) none), (24, .dat (slAV Sp.cells (mkO (spots t))) none), (5, .dat (I g) none), (6, .dat (I ((((spots t).take y.1).filter (fun x => x.group == (g : Int))).length : Nat)) none), (3, .dat (I on) none), (4, .dat (I y.2) none), (2, .ptr 5 0), (1, .ptr 4 0)], [(4, ⟨t.cells, []⟩), (5, ⟨[I 0, I 0], []⟩)], [], 500⟩ : S)) (fun y => (spots t).length - y.1) (fun y => y.1 ≤ (spots t).length ∧ rowGo on seen (gr.a.getD [] ++ gr.b.getD []) = rowGo on y.2 ((((spots t).drop y.1).filter (fun x => x.group == (g : Int))).map Sp.p)) ?_ (0, seen) ⟨by simp, by simp only [List.drop_zero]; rw [hsp]⟩ ?_
  rotate_left
  · refine le_tok2 (by decide) ?_ ?_ ?_ ?_ <;> simp [LX, I, B, D]
  rintro ⟨i, s2⟩ ⟨hi, hrow2⟩ A2 back2
  simp only at hi hrow2
  have hw2 := wrap_succ (k := i) (by omega)
  try simp only [I, B, D, RY, ↓ KW, Nat.reduceBEq, Nat.reduceAdd, Nat.reduceLeDiff, Int.reduceNe, Int.reduceBEq, Int.reduceEq, reduceCtorEq, Nat.reduceMul, Int.reduceLT, Int.reduceLE, Int.reduceToNat]
  cases h5 : decide ((i : Int) < (((spots t).length : Nat) : Int))
  · have ei : i = (spots t).length := by have := of_decide_eq_false h5; omega
    subst ei
    rw [List.drop_length] at hrow2
    have e2 : rowGo on s2 (([] : List Sp).filter (fun x => x.group == (g : Int)) |>.map Sp.p) = some s2 := rfl
    rw [e2] at hrow2
    rw [hrow2] at hinv
    have hcount : ((spots t).filter (fun x => x.group == (g : Int))).length = (gr.a.getD []).length + (gr.b.getD []).length := by
      have := congrArg List.length hsp; simpa using this
    rw [List.take_length, hcount]
    try simp only [I, B, D, RY, ↓ KW, Nat.reduceBEq, Nat.reduceAdd, Nat.reduceLeDiff, Int.reduceNe, Int.reduceBEq, Int.reduceEq, reduceCtorEq, Nat.reduceMul, Int.reduceLT, Int.reduceLE, Int.reduceToNat, h5]
    cases h6 : ((((gr.a.getD []).length + (gr.b.getD []).length : Nat) : Int) == 0)
    · rw [if_neg (by intro e; rw [e] at h6; simp at h6)] at hinv
      try simp only [I, B, D, RY, ↓ KW, Nat.reduceBEq, Nat.reduceAdd, Nat.reduceLeDiff, Int.reduceNe, Int.reduceBEq, Int.reduceEq, reduceCtorEq, Nat.reduceMul, Int.reduceLT, Int.reduceLE, Int.reduceToNat, h6]
      refine back (g + 1, s2) _ ⟨by omega, hinv⟩ (by simp only; omega) ?_
      refine le_tok2 (by decide) ?_ ?_ ?_ ?_ <;> simp [LX, I, B, D, hwr]
    · rw [if_pos (by simp only [beq_iff_eq] at h6; omega)] at hinv
      try simp only [I, B, D, RY, ↓ KW, Nat.reduceBEq, Nat.reduceAdd, Nat.reduceLeDiff, Int.reduceNe, Int.reduceBEq, Int.reduceEq, reduceCtorEq, Nat.reduceMul, Int.reduceLT, Int.reduceLE, Int.reduceToNat, h6, fltC, setCells]
      rw [← hinv]
      try rfl
  have hil : i < (spots t).length := by have := of_decide_eq_true h5; omega
  obtain ⟨x, hx⟩ : ∃ x, (spots t)[i]? = some x := ⟨_, List.getElem?_eq_getElem hil⟩
  have hdr : (spots t).drop i = x :: (spots t).drop (i + 1) := by
    rw [List.drop_eq_getElem_cons hil]
    congr 1
    rw [List.getElem?_eq_getElem hil] at hx; exact Option.some.inj hx
  have htk := take_next hx
  have hpart : partA (Sp.cells x) 0 (some 4) = some (.agg (Sp.cells x)) := rfl
  have hset : ∀ c : List AV, c.length = 4 → setCells c 0 (Sp.cells x) = Sp.cells x := fun c h => set_all (by rw [h]; rfl)
  have p0 : (Sp.cells x)[0]? = some (AV.int .i64 x.group) := rfl
  have p3 : (Sp.cells x)[3]? = some (AV.int .i64 x.p) := rfl
  try simp only [I, B, D, RY, ↓ KW, Nat.reduceBEq, Nat.reduceAdd, Nat.reduceLeDiff, Int.reduceNe, Int.reduceBEq, Int.reduceEq, reduceCtorEq, Nat.reduceMul, Int.reduceLT, Int.reduceLE, Int.reduceToNat, h5, a_rows, mkO_getD, hx, Sp.len, hpart, hset, p0]
  refine ⟨by omega, ?_⟩
  try simp only [I, B, D, RY, ↓ KW, Nat.reduceBEq, Nat.reduceAdd, Nat.reduceLeDiff, Int.reduceNe, Int.reduceBEq, Int.reduceEq, reduceCtorEq, Nat.reduceMul, Int.reduceLT, Int.reduceLE, Int.reduceToNat, Sp.len, hset, p0]
  cases h6 : (x.group != (g : Int))
  · have hxg : (x.group == (g : Int)) = true := by simpa using h6
    rw [hdr, List.filter_cons, if_pos (by simpa using hxg), List.map_cons, rowGo_next] at hrow2
    have hxr := spots_range (List.mem_of_getElem? hx)
    obtain ⟨n, hn⟩ : ∃ n : Nat, x.p = n := ⟨x.p.toNat, by omega⟩
    have hn8 : n < 8 := by omega
    have hcn : (((spots t).take (i + 1)).filter (fun x => x.group == (g : Int))).length = (((spots t).take i).filter (fun x => x.group == (g : Int))).length + 1 := by
      rw [htk, List.filter_append, List.length_append, List.filter_cons, if_pos (by simpa using hxg)]; rfl
    have hlen : (((spots t).take i).filter (fun x => x.group == (g : Int))).length ≤ 2199023255552 := by
      have := List.length_filter_le (fun x : Sp => x.group == (g : Int)) ((spots t).take i)
      have h9 : ((spots t).take i).length ≤ (spots t).length := List.length_take_le' _ _
      omega
    have hw3 := wrap_succ (k := (((spots t).take i).filter (fun x => x.group == (g : Int))).length) (by omega)
    have c1 := hH on x.p
    have c2 := hH s2 x.p
    have c3 := hW s2 x.p
    rw [hn] at c1 c2 c3 hrow2
    rw [hasR_tb hn8] at c1
    rw [hasR_tb hn8] at c2
    rw [withR_S hn8] at c3
    rw [hasS_tb hn8, hasS_tb hn8] at hrow2
    have hne0 : ¬ (gr.a.getD []).length + (gr.b.getD []).length = 0 := by
      intro e0
      have hc := congrArg List.length hsp
      rw [List.length_map, List.length_append, e0] at hc
      have := List.eq_nil_of_length_eq_zero hc
      have hm := (List.mem_filter (p := fun x : Sp => x.group == (g : Int))).2 ⟨List.mem_of_getElem? hx, hxg⟩
      rw [this] at hm; cases hm
    rw [if_neg hne0] at hinv
    generalize tb on n = b1 at *
    generalize tb s2 n = b2 at *
    try simp only [I, B, D, RY, ↓ KW, Nat.reduceBEq, Nat.reduceAdd, Nat.reduceLeDiff, Int.reduceNe, Int.reduceBEq, Int.reduceEq, reduceCtorEq, Nat.reduceMul, Int.reduceLT, Int.reduceLE, Int.reduceToNat, h6, p3, hn, hset, Sp.len]
    refine call_is c1 ?_
    cases b1
    · have : rowGo on seen (gr.a.getD [] ++ gr.b.getD []) = none := by rw [hrow2]; rfl
      rw [this] at hinv
      try simp only [I, B, D, RY, ↓ KW, Nat.reduceBEq, Nat.reduceAdd, Nat.reduceLeDiff, Int.reduceNe, Int.reduceBEq, Int.reduceEq, reduceCtorEq, Nat.reduceMul, Int.reduceLT, Int.reduceLE, Int.reduceToNat, fltC, setCells]
      rw [← hinv]
      try rfl
    · try simp only [I, B, D, RY, ↓ KW, Nat.reduceBEq, Nat.reduceAdd, Nat.reduceLeDiff, Int.reduceNe, Int.reduceBEq, Int.reduceEq, reduceCtorEq, Nat.reduceMul, Int.reduceLT, Int.reduceLE, Int.reduceToNat, p3, hn]
      refine call_is c2 ?_
      cases b2
      · try simp only [I, B, D, RY, ↓ KW, Nat.reduceBEq, Nat.reduceAdd, Nat.reduceLeDiff, Int.reduceNe, Int.reduceBEq, Int.reduceEq, reduceCtorEq, Nat.reduceMul, Int.reduceLT, Int.reduceLE, Int.reduceToNat, p3, hn]
        refine call_is c3 ?_
        try simp only [I, B, D, RY, ↓ KW, Nat.reduceBEq, Nat.reduceAdd, Nat.reduceLeDiff, Int.reduceNe, Int.reduceBEq, Int.reduceEq, reduceCtorEq, Nat.reduceMul, Int.reduceLT, Int.reduceLE, Int.reduceToNat]
        refine back2 (i + 1, withS s2 n) _ ⟨by omega, hrow2⟩ (by simp only; omega) ?_
        refine le_tok2 (by decide) ?_ ?_ ?_ ?_ <;> simp [LX, I, B, D, hw2, hw3, hcn]
      · have : rowGo on seen (gr.a.getD [] ++ gr.b.getD []) = none := by rw [hrow2]; rfl
        rw [this] at hinv
        try simp only [I, B, D, RY, ↓ KW, Nat.reduceBEq, Nat.reduceAdd, Nat.reduceLeDiff, Int.reduceNe, Int.reduceBEq, Int.reduceEq, reduceCtorEq, Nat.reduceMul, Int.reduceLT, Int.reduceLE, Int.reduceToNat, fltC, setCells]
        rw [← hinv]
        try rfl
  · have hxg : (x.group == (g : Int)) = false := by simpa using h6
    rw [hdr, List.filter_cons, if_neg (by simpa using hxg)] at hrow2
    have hcn : (((spots t).take (i + 1)).filter (fun x => x.group == (g : Int))).length = (((spots t).take i).filter (fun x => x.group == (g : Int))).length := by
      rw [htk, List.filter_append, List.length_append, List.filter_cons, if_neg (by simpa using hxg)]; rfl
    try simp only [I, B, D, RY, ↓ KW, Nat.reduceBEq, Nat.reduceAdd, Nat.reduceLeDiff, Int.reduceNe, Int.reduceBEq, Int.reduceEq, reduceCtorEq, Nat.reduceMul, Int.reduceLT, Int.reduceLE, Int.reduceToNat, h6]
    refine back2 (i + 1, s2) _ ⟨by omega, hrow2⟩ (by simp only; omega) ?_
    refine le_tok2 (by decide) ?_ ?_ ?_ ?_ <;> simp [LX, I, B, D, hw2, hcn]
end
end Go.Eng
namespace Go.Eng
set_option linter.unusedVariables false
set_option linter.unusedSimpArgs false
set_option linter.unnecessarySimpa false
open Go
set_option linter.unusedVariables false
set_option linter.unusedSimpArgs false
set_option maxRecDepth 10000
set_option maxHeartbeats 4000000
theorem may_parts {t : Tb} (h : t.Ln) (hm : mayT t = true) : (∀ p : Nat, p < 8 → mayPh (phAt t p) = true) ∧ (∀ g ∈ t.groups.getD [], ∀ x ∈ g.a.getD [] ++ g.b.getD [], 0 ≤ x ∧ x < 8) ∧
    (∀ d ∈ t.detectors.getD [], mayDet d = true) ∧ (∀ d ∈ t.rails.getD [], mayRl d = true) ∧ (∀ d ∈ t.buses.getD [], mayBs d = true) := by
  simp only [mayT, Bool.and_eq_true, List.all_eq_true] at hm
  obtain ⟨⟨⟨⟨⟨⟨⟨⟨h1, _, h2⟩, _⟩, _, h3⟩, _, h4⟩, _, h5⟩, _⟩, _⟩, _⟩ := hm
  refine ⟨fun p hp => h1 _ (List.mem_of_getElem? (h.ph_get hp)), fun g hg x hx => ?_, h3, h4, h5⟩
  have := h2 g hg
  simp only [mayGr, mayRow, Bool.and_eq_true, List.all_eq_true, List.all_cons, List.all_nil, Bool.and_true] at this
  have hw : wI 7 x = true := by
    rcases List.mem_append.1 hx with hx | hx
    · exact this.1.2 x hx
    · exact this.2.2 x hx
  simp only [wI, Bool.and_eq_true, decide_eq_true_eq] at hw
  omega
theorem ringL_code (on : Int) : ∀ (l : List Gr) (g : Nat) (s : Int), ringL on l g s = (0, 0) ∨ (ringL on l g s).1 = 8
  | [], g, s => by simp only [ringL]; split <;> simp
  | r :: rs, g, s => by
    simp only [ringL]
    split
    · exact .inr rfl
    · exact ringL_code on rs _ _
theorem ringE_code (t : Tb) (on : Int) : ringE t on = (0, 0) ∨ (ringE t on).1 = 8 := by
  unfold ringE; split
  · exact .inr rfl
  · exact ringL_code _ _ _ _
theorem set_any_next {s : Int} {k p : Nat} {w : Nat → Bool} (hno : ((setN s).take k).any w = false) (hx : (setN s)[k]? = some p) (h : w p = false) : ((setN s).take (k + 1)).any w = false := by rw [any_take hno hx, h]
section
variable {P : Program} (hm : P.follows .mixedOrders = true) {f : Nat}
include hm
theorem kCheck.ok {fM fO fL e fP fR fC fH fK fI fF : Nat} (hc : cFn P f = some (cc_ref08_Check fM fO fL fP fR fC fH fK fI fF)) (hM : rMay.Spec (Pure P) fM) (hO : on.Spec (Pure P) fO) (hL : refList.Spec (Pure P) fL e) (hP : kPhase.Spec (Pure P) fP)
    (hR : kRings.Spec (Pure P) fR) (hC : kConf.Spec (Pure P) fC) (hH : refHas.Spec (Pure P) fH) (hK : kRail.Spec (Pure P) fK) (hI : kIn.Spec (Pure P) fI) (hF : kFlash.Spec (Pure P) fF) : kCheck.Spec (Pure P) f := by
  intro t ht hfw
  have h := ht.ln
  have hw := h.whole
  have hl := h.len
  have c0 := hM t h hfw
  have p2 := h.at113
  have p3 := h.at114
  have p4 := h.at115
  have hbd := ht.dets
  have hbr := ht.rails
  have hbb := ht.buses
  rw [checkE]
  cases hmay : mayT t
  · rw [hmay] at c0
    refine pure_of hm hc (by show 1 ≤ 148; decide) (aw_flat (keep := []) (i := 0) ?_)
    try simp only [I, B, D, RX, ↓ KW, Nat.reduceBEq, Nat.reduceAdd, Nat.reduceLeDiff, Int.reduceNe, Int.reduceBEq, Int.reduceEq, reduceCtorEq, Nat.reduceMul, Int.reduceLT, Int.reduceLE, Int.reduceToNat, cc_ref08_Check, Z.H, hw]
    refine call_is c0 ?_
    try simp only [I, B, D, RX, ↓ KW, Nat.reduceBEq, Nat.reduceAdd, Nat.reduceLeDiff, Int.reduceNe, Int.reduceBEq, Int.reduceEq, reduceCtorEq, Nat.reduceMul, Int.reduceLT, Int.reduceLE, Int.reduceToNat, fltC, setCells]
    try rfl
  rw [hmay] at c0
  obtain ⟨mP, mG, mD, mR, mB⟩ := may_parts h hmay
  rw [if_pos rfl]
  obtain ⟨on, hon⟩ : ∃ on, on = onI t := ⟨_, rfl⟩
  have c1 := hO t ht
  rw [← hon] at c1 ⊢
  have cR := hR t ht mG
  rw [← hon] at cR
  have hla := setN_len on
  have hra := setN_rows on
  have hLs := hL on none (.inl rfl)
  obtain ⟨RR, hRR⟩ : ∃ R, R = firstOf (rulesE t on) := ⟨_, rfl⟩
  rw [← hRR]
  unfold rulesE at hRR
  clear hmay
  refine pure_of hm hc (by show 1 ≤ 148; decide) (aw_flat (keep := []) (i := 0) ?_)
  try simp only [I, B, D, RY, ↓ KW, Nat.reduceBEq, Nat.reduceAdd, Nat.reduceLeDiff, Int.reduceNe, Int.reduceBEq, Int.reduceEq, reduceCtorEq, Nat.reduceMul, Int.reduceLT, Int.reduceLE, Int.reduceToNat, cc_ref08_Check, Z.H, hw]
  refine call_is c0 ?_
  try simp only [I, B, D, RY, ↓ KW, Nat.reduceBEq, Nat.reduceAdd, Nat.reduceLeDiff, Int.reduceNe, Int.reduceBEq, Int.reduceEq, reduceCtorEq, Nat.reduceMul, Int.reduceLT, Int.reduceLE, Int.reduceToNat, hw]
  refine call_is c1 ?_
  try simp only [I, B, D, RY, ↓ KW, Nat.reduceBEq, Nat.reduceAdd, Nat.reduceLeDiff, Int.reduceNe, Int.reduceBEq, Int.reduceEq, reduceCtorEq, Nat.reduceMul, Int.reduceLT, Int.reduceLE, Int.reduceToNat]
  refine call_is hLs ?_
  try simp only [I, B, D, RY, ↓ KW, Nat.reduceBEq, Nat.reduceAdd, Nat.reduceLeDiff, Int.reduceNe, Int.reduceBEq, Int.reduceEq, reduceCtorEq, Nat.reduceMul, Int.reduceLT, Int.reduceLE, Int.reduceToNat, a_len, hra, List.length_map]
  refine aw_loop' (fun k : Nat => (⟨[(25, .dat (I k) none), (24, .dat (I ((setN on).length : Nat)) none), (23, .dat (slAV intRow (mkO (listS on))) none), (1, .ptr 4 0), (2, .ptr 5 0), (3, .dat (I on) none)], [(4, ⟨t.cells, []⟩), (5, ⟨[I 0, I 0], []⟩)], [], 400⟩ : S)) (fun k => (setN on).length - k) (fun k => k ≤ (setN on).length ∧ ((setN on).take k).any (fun p => phBad (phAt t p)) = false) ?_ 0 (by simp) ?_
  rotate_left
  · refine le_tok2 (by decide) ?_ ?_ ?_ ?_ <;> simp [LX, I, B, D]
  rintro k ⟨hk, hno⟩ A back
  have hwr := wrap_succ (k := k) (by omega)
  try simp only [I, B, D, RY, ↓ KW, Nat.reduceBEq, Nat.reduceAdd, Nat.reduceLeDiff, Int.reduceNe, Int.reduceBEq, Int.reduceEq, reduceCtorEq, Nat.reduceMul, Int.reduceLT, Int.reduceLE, Int.reduceToNat]
  cases h2 : decide ((k : Int) < (((setN on).length : Nat) : Int))
  rotate_left
  · have hlt : k < (setN on).length := by have := of_decide_eq_true h2; omega
    obtain ⟨p, hp⟩ : ∃ x, (setN on)[k]? = some x := ⟨_, List.getElem?_eq_getElem hlt⟩
    have hpp := setN_at hp
    have hmem := List.mem_of_getElem? hp
    have h8 := setN_lt hmem
    have hx : 0 ≤ (p : Int) ∧ (p : Int) < (8 : Nat) := by omega
    have hgo := fun hb => firstS_go (code := 7) (w := fun p => phBad (phAt t p)) hp hno hb
    have hnx := fun hb => set_any_next (w := fun p => phBad (phAt t p)) hno hp hb
    have cc := hP (phAt t p)
    rw [ph_may (mP p h8)] at cc
    have hpart := Tb.phase_part (h.ph_get h8)
    cases hb : phBad (phAt t p)
    · rw [hb] at cc
      try simp only [I, B, D, RY, ↓ KW, Nat.reduceBEq, Nat.reduceAdd, Nat.reduceLeDiff, Int.reduceNe, Int.reduceBEq, Int.reduceEq, reduceCtorEq, Nat.reduceMul, Int.reduceLT, Int.reduceLE, Int.reduceToNat, h2, a_rows, hra, hpp, intRow, List.length_map, hx, hpart, hw]
      refine ⟨by omega, ?_⟩
      refine call_is cc ?_
      try simp only [I, B, D, RY, ↓ KW, Nat.reduceBEq, Nat.reduceAdd, Nat.reduceLeDiff, Int.reduceNe, Int.reduceBEq, Int.reduceEq, reduceCtorEq, Nat.reduceMul, Int.reduceLT, Int.reduceLE, Int.reduceToNat]
      refine back (k + 1) _ ⟨by omega, hnx hb⟩ (by omega) ?_
      refine le_tok2 (by decide) ?_ ?_ ?_ ?_ <;> simp [LX, I, B, D, hwr]
    · rw [hb] at cc
      try simp only [I, B, D, RY, ↓ KW, Nat.reduceBEq, Nat.reduceAdd, Nat.reduceLeDiff, Int.reduceNe, Int.reduceBEq, Int.reduceEq, reduceCtorEq, Nat.reduceMul, Int.reduceLT, Int.reduceLE, Int.reduceToNat, h2, a_rows, hra, hpp, intRow, List.length_map, hx, hpart, hw]
      refine ⟨by omega, ?_⟩
      refine call_is cc ?_
      try simp only [I, B, D, RY, ↓ KW, Nat.reduceBEq, Nat.reduceAdd, Nat.reduceLeDiff, Int.reduceNe, Int.reduceBEq, Int.reduceEq, reduceCtorEq, Nat.reduceMul, Int.reduceLT, Int.reduceLE, Int.reduceToNat, fltC, setCells]
      rw [hgo hb, fo_ne (by decide)] at hRR
      rw [hRR]
      try rfl
  have e8 : k = (setN on).length := by have := of_decide_eq_false h2; omega
  subst e8
  rw [List.take_length] at hno
  rw [firstS_none hno, fo_zero] at hRR
  try simp only [I, B, D, RY, ↓ KW, Nat.reduceBEq, Nat.reduceAdd, Nat.reduceLeDiff, Int.reduceNe, Int.reduceBEq, Int.reduceEq, reduceCtorEq, Nat.reduceMul, Int.reduceLT, Int.reduceLE, Int.reduceToNat, h2, hw]
  refine call_is cR ?_
  rcases ringE_code t on with hre | hre
  rotate_left
  · have h8ne : ((ringE t on).1 != 0) = true := by rw [hre]; rfl
    try simp only [I, B, D, RY, ↓ KW, Nat.reduceBEq, Nat.reduceAdd, Nat.reduceLeDiff, Int.reduceNe, Int.reduceBEq, Int.reduceEq, reduceCtorEq, Nat.reduceMul, Int.reduceLT, Int.reduceLE, Int.reduceToNat, fltC, setCells, h8ne]
    have : (ringE t on).1 ≠ 0 := by rw [hre]; decide
    have e : ringE t on = ((ringE t on).1, (ringE t on).2) := rfl
    rw [e, fo_ne this] at hRR
    rw [hRR]
    try rfl
  rw [hre] at cR ⊢
  rw [hre, fo_zero] at hRR
  have hz : ((0 : Int) != 0) = false := rfl
  try simp only [I, B, D, RY, ↓ KW, Nat.reduceBEq, Nat.reduceAdd, Nat.reduceLeDiff, Int.reduceNe, Int.reduceBEq, Int.reduceEq, reduceCtorEq, Nat.reduceMul, Int.reduceLT, Int.reduceLE, Int.reduceToNat, fltC, setCells, hz]
  refine call_is hLs ?_
  try simp only [I, B, D, RY, ↓ KW, Nat.reduceBEq, Nat.reduceAdd, Nat.reduceLeDiff, Int.reduceNe, Int.reduceBEq, Int.reduceEq, reduceCtorEq, Nat.reduceMul, Int.reduceLT, Int.reduceLE, Int.reduceToNat, a_len, hra, List.length_map]
  clear back A
  refine aw_loop' (fun k : Nat => (⟨[(47, .dat (I k) none), (46, .dat (I ((setN on).length : Nat)) none), (45, .dat (slAV intRow (mkO (listS on))) none), (1, .ptr 4 0), (2, .ptr 5 0), (3, .dat (I on) none)], [(4, ⟨t.cells, []⟩), (5, ⟨[I 0, I 0], []⟩)], [], 500⟩ : S)) (fun k => (setN on).length - k) (fun k => k ≤ (setN on).length ∧ ((setN on).take k).any (confBad t on) = false) ?_ 0 (by simp) ?_
  rotate_left
  · refine le_tok2 (by decide) ?_ ?_ ?_ ?_ <;> simp [LX, I, B, D]
  rintro k ⟨hk, hno⟩ A back
  have hwr := wrap_succ (k := k) (by omega)
  try simp only [I, B, D, RY, ↓ KW, Nat.reduceBEq, Nat.reduceAdd, Nat.reduceLeDiff, Int.reduceNe, Int.reduceBEq, Int.reduceEq, reduceCtorEq, Nat.reduceMul, Int.reduceLT, Int.reduceLE, Int.reduceToNat]
  cases h2 : decide ((k : Int) < (((setN on).length : Nat) : Int))
  rotate_left
  · have hlt : k < (setN on).length := by have := of_decide_eq_true h2; omega
    obtain ⟨p, hp⟩ : ∃ x, (setN on)[k]? = some x := ⟨_, List.getElem?_eq_getElem hlt⟩
    have hpp := setN_at hp
    have hmem := List.mem_of_getElem? hp
    have h8 := setN_lt hmem
    have hx : 0 ≤ (p : Int) ∧ (p : Int) < (8 : Nat) := by omega
    have hgo := fun hb => firstS_go (code := 9) (w := confBad t on) hp hno hb
    have hnx := fun hb => set_any_next (w := confBad t on) hno hp hb
    have cc := hC t p on ht h8
    rw [conf_any hmem] at cc
    have hpart := trivial
    cases hb : confBad t on p
    · rw [hb] at cc
      try simp only [I, B, D, RY, ↓ KW, Nat.reduceBEq, Nat.reduceAdd, Nat.reduceLeDiff, Int.reduceNe, Int.reduceBEq, Int.reduceEq, reduceCtorEq, Nat.reduceMul, Int.reduceLT, Int.reduceLE, Int.reduceToNat, h2, a_rows, hra, hpp, intRow, List.length_map, hx, hpart, hw]
      refine ⟨by omega, ?_⟩
      refine call_is cc ?_
      try simp only [I, B, D, RY, ↓ KW, Nat.reduceBEq, Nat.reduceAdd, Nat.reduceLeDiff, Int.reduceNe, Int.reduceBEq, Int.reduceEq, reduceCtorEq, Nat.reduceMul, Int.reduceLT, Int.reduceLE, Int.reduceToNat]
      refine back (k + 1) _ ⟨by omega, hnx hb⟩ (by omega) ?_
      refine le_tok2 (by decide) ?_ ?_ ?_ ?_ <;> simp [LX, I, B, D, hwr]
    · rw [hb] at cc
      try simp only [I, B, D, RY, ↓ KW, Nat.reduceBEq, Nat.reduceAdd, Nat.reduceLeDiff, Int.reduceNe, Int.reduceBEq, Int.reduceEq, reduceCtorEq, Nat.reduceMul, Int.reduceLT, Int.reduceLE, Int.reduceToNat, h2, a_rows, hra, hpp, intRow, List.length_map, hx, hpart, hw]
      refine ⟨by omega, ?_⟩
      refine call_is cc ?_
      try simp only [I, B, D, RY, ↓ KW, Nat.reduceBEq, Nat.reduceAdd, Nat.reduceLeDiff, Int.reduceNe, Int.reduceBEq, Int.reduceEq, reduceCtorEq, Nat.reduceMul, Int.reduceLT, Int.reduceLE, Int.reduceToNat, fltC, setCells]
      rw [hgo hb, fo_ne (by decide)] at hRR
      rw [hRR]
      try rfl
  have e8 : k = (setN on).length := by have := of_decide_eq_false h2; omega
  subst e8
  rw [List.take_length] at hno
  rw [firstS_none hno, fo_zero] at hRR
  have hself : ∀ p ∈ setN on, tb (conAt t p) p = false := by
    intro p hp
    have := List.any_eq_false.1 hno p hp
    rw [Bool.not_eq_true, confBad, Bool.or_eq_false_iff] at this
    exact this.1
  try simp only [I, B, D, RY, ↓ KW, Nat.reduceBEq, Nat.reduceAdd, Nat.reduceLeDiff, Int.reduceNe, Int.reduceBEq, Int.reduceEq, reduceCtorEq, Nat.reduceMul, Int.reduceLT, Int.reduceLE, Int.reduceToNat, h2]
  clear back A
  refine aw_loop' (fun k : Nat => (⟨[(9, .dat (I k) none), (1, .ptr 4 0), (3, .dat (I on) none), (2, .ptr 5 0)], [(4, ⟨t.cells, []⟩), (5, ⟨[I 0, I 0], []⟩)], [], 600⟩ : S)) (fun k => (t.detectors.getD []).length - k) (fun k => k ≤ (t.detectors.getD []).length ∧ ∀ i, i < k → (fun k => detBad on (dtAt t k)) i = false) ?_ 0 (by simp) ?_
  rotate_left
  · refine le_tok2 (by decide) ?_ ?_ ?_ ?_ <;> simp [LX, I, B, D]
  rintro k ⟨hk, hno⟩ A back
  have hwr := wrap_succ (k := k) (by omega)
  try simp only [I, B, D, RY, ↓ KW, Nat.reduceBEq, Nat.reduceAdd, Nat.reduceLeDiff, Int.reduceNe, Int.reduceBEq, Int.reduceEq, reduceCtorEq, Nat.reduceMul, Int.reduceLT, Int.reduceLE, Int.reduceToNat, p2, a_len]
  cases h2 : decide ((k : Int) < (((t.detectors.getD []).length : Nat) : Int))
  rotate_left
  · have hlt : k < (t.detectors.getD []).length := by have := of_decide_eq_true h2; omega
    obtain ⟨d, hd⟩ : ∃ x, (t.detectors.getD [])[k]? = some x := ⟨_, List.getElem?_eq_getElem hlt⟩
    have hmem := List.mem_of_getElem? hd
    have hat : dtAt t k = d := by rw [dtAt, List.getD_eq_getElem?_getD, hd]; rfl
    have hgo := fun hb => first_go (w := (fun k => detBad on (dtAt t k))) hlt hno hb 10
    have hnx : (fun k => detBad on (dtAt t k)) k = false → ∀ i, i < k + 1 → (fun k => detBad on (dtAt t k)) i = false := fun hb i hi => by
      by_cases e : i = k
      · subst e; exact hb
      · exact hno i (by omega)
    simp only [hat] at hgo hnx
    have hdm := det_may (on := on) (mD d hmem)
    have cc := hH on d.phase
    obtain ⟨b1, hb1⟩ : ∃ b, gtF d.off d.on = b := ⟨_, rfl⟩
    rw [hb1] at hdm
    generalize hasR on d.phase = b2 at *
    have hpart : partA (Det.cells d) 0 (some 7) = some (.agg (Det.cells d)) := rfl
    have hdl : (Det.cells d).length = 7 := rfl
    have hset : ∀ c : List AV, c.length = 7 → setCells c 0 (Det.cells d) = Det.cells d := fun c h => set_all (by rw [h]; rfl)
    have q0 : (Det.cells d)[0]? = some (AV.int .i64 d.phase) := rfl
    have q1 : (Det.cells d)[1]? = some (AV.float .f64 d.on) := rfl
    have q2 : (Det.cells d)[2]? = some (AV.float .f64 d.off) := rfl
    try simp only [I, B, D, RY, ↓ KW, Nat.reduceBEq, Nat.reduceAdd, Nat.reduceLeDiff, Int.reduceNe, Int.reduceBEq, Int.reduceEq, reduceCtorEq, Nat.reduceMul, Int.reduceLT, Int.reduceLE, Int.reduceToNat, h2, p2, a_rows, hd, hpart, hdl, hset, q0, q1, q2, FLW, hb1]
    refine ⟨by omega, ?_⟩
    try simp only [I, B, D, RY, ↓ KW, Nat.reduceBEq, Nat.reduceAdd, Nat.reduceLeDiff, Int.reduceNe, Int.reduceBEq, Int.reduceEq, reduceCtorEq, Nat.reduceMul, Int.reduceLT, Int.reduceLE, Int.reduceToNat, hdl, hset, q0, q1, q2, FLW, hb1]
    cases b1
    · try simp only [I, B, D, RY, ↓ KW, Nat.reduceBEq, Nat.reduceAdd, Nat.reduceLeDiff, Int.reduceNe, Int.reduceBEq, Int.reduceEq, reduceCtorEq, Nat.reduceMul, Int.reduceLT, Int.reduceLE, Int.reduceToNat, hdl, hset, q0, q1, q2, FLW, hb1]
      refine call_is cc ?_
      cases b2
      · try simp only [I, B, D, RY, ↓ KW, Nat.reduceBEq, Nat.reduceAdd, Nat.reduceLeDiff, Int.reduceNe, Int.reduceBEq, Int.reduceEq, reduceCtorEq, Nat.reduceMul, Int.reduceLT, Int.reduceLE, Int.reduceToNat, fltC, setCells]
        rw [hgo (by rw [← hdm]; rfl), fo_ne (by decide)] at hRR
        rw [hRR]
        try rfl
      · try simp only [I, B, D, RY, ↓ KW, Nat.reduceBEq, Nat.reduceAdd, Nat.reduceLeDiff, Int.reduceNe, Int.reduceBEq, Int.reduceEq, reduceCtorEq, Nat.reduceMul, Int.reduceLT, Int.reduceLE, Int.reduceToNat]
        refine back (k + 1) _ ⟨by omega, fun i hi => hnx (by rw [← hdm]; rfl) i hi⟩ (by omega) ?_
        refine le_tok2 (by decide) ?_ ?_ ?_ ?_ <;> simp [LX, I, B, D, hwr]
    · try simp only [I, B, D, RY, ↓ KW, Nat.reduceBEq, Nat.reduceAdd, Nat.reduceLeDiff, Int.reduceNe, Int.reduceBEq, Int.reduceEq, reduceCtorEq, Nat.reduceMul, Int.reduceLT, Int.reduceLE, Int.reduceToNat, fltC, setCells, hb1]
      rw [hgo (by rw [← hdm]; rfl), fo_ne (by decide)] at hRR
      rw [hRR]
      try rfl
  have e8 : k = (t.detectors.getD []).length := by have := of_decide_eq_false h2; omega
  subst e8
  rw [first_none hno, fo_zero] at hRR
  try simp only [I, B, D, RY, ↓ KW, Nat.reduceBEq, Nat.reduceAdd, Nat.reduceLeDiff, Int.reduceNe, Int.reduceBEq, Int.reduceEq, reduceCtorEq, Nat.reduceMul, Int.reduceLT, Int.reduceLE, Int.reduceToNat, h2]
  clear back A
  refine aw_loop' (fun k : Nat => (⟨[(11, .dat (I k) none), (1, .ptr 4 0), (3, .dat (I on) none), (2, .ptr 5 0)], [(4, ⟨t.cells, []⟩), (5, ⟨[I 0, I 0], []⟩)], [], 700⟩ : S)) (fun k => (t.rails.getD []).length - k) (fun k => k ≤ (t.rails.getD []).length ∧ ∀ i, i < k → (fun k => railBad t on (rlN t k)) i = false) ?_ 0 (by simp) ?_
  rotate_left
  · refine le_tok2 (by decide) ?_ ?_ ?_ ?_ <;> simp [LX, I, B, D]
  rintro k ⟨hk, hno⟩ A back
  have hwr := wrap_succ (k := k) (by omega)
  try simp only [I, B, D, RY, ↓ KW, Nat.reduceBEq, Nat.reduceAdd, Nat.reduceLeDiff, Int.reduceNe, Int.reduceBEq, Int.reduceEq, reduceCtorEq, Nat.reduceMul, Int.reduceLT, Int.reduceLE, Int.reduceToNat, p3, a_len]
  cases h2 : decide ((k : Int) < (((t.rails.getD []).length : Nat) : Int))
  rotate_left
  · have hlt : k < (t.rails.getD []).length := by have := of_decide_eq_true h2; omega
    obtain ⟨d, hd⟩ : ∃ x, (t.rails.getD [])[k]? = some x := ⟨_, List.getElem?_eq_getElem hlt⟩
    have hmem := List.mem_of_getElem? hd
    have hat : rlN t k = d := by rw [rlN, List.getD_eq_getElem?_getD, hd]; rfl
    have hgo := fun hb => first_go (w := (fun k => railBad t on (rlN t k))) hlt hno hb 11
    have hnx : (fun k => railBad t on (rlN t k)) k = false → ∀ i, i < k + 1 → (fun k => railBad t on (rlN t k)) i = false := fun hb i hi => by
      by_cases e : i = k
      · subst e; exact hb
      · exact hno i (by omega)
    simp only [hat] at hgo hnx
    have cc := hK t d on ht
    rw [rail_may (mR d hmem) hself] at cc
    have hpart : partA (Rl.cells d) 0 (some 11) = some (.agg (Rl.cells d)) := rfl
    have hdl : (Rl.cells d).length = 11 := rfl
    try simp only [I, B, D, RY, ↓ KW, Nat.reduceBEq, Nat.reduceAdd, Nat.reduceLeDiff, Int.reduceNe, Int.reduceBEq, Int.reduceEq, reduceCtorEq, Nat.reduceMul, Int.reduceLT, Int.reduceLE, Int.reduceToNat, h2, hw, p3, a_rows, hd, hpart, hdl]
    refine ⟨by omega, ?_⟩
    refine call_is cc ?_
    cases hb : railBad t on d
    · try simp only [I, B, D, RY, ↓ KW, Nat.reduceBEq, Nat.reduceAdd, Nat.reduceLeDiff, Int.reduceNe, Int.reduceBEq, Int.reduceEq, reduceCtorEq, Nat.reduceMul, Int.reduceLT, Int.reduceLE, Int.reduceToNat]
      refine back (k + 1) _ ⟨by omega, fun i hi => hnx hb i hi⟩ (by omega) ?_
      refine le_tok2 (by decide) ?_ ?_ ?_ ?_ <;> simp [LX, I, B, D, hwr]
    · try simp only [I, B, D, RY, ↓ KW, Nat.reduceBEq, Nat.reduceAdd, Nat.reduceLeDiff, Int.reduceNe, Int.reduceBEq, Int.reduceEq, reduceCtorEq, Nat.reduceMul, Int.reduceLT, Int.reduceLE, Int.reduceToNat, fltC, setCells]
      rw [hgo hb, fo_ne (by decide)] at hRR
      rw [hRR]
      try rfl
  have e8 : k = (t.rails.getD []).length := by have := of_decide_eq_false h2; omega
  subst e8
  rw [first_none hno, fo_zero] at hRR
  try simp only [I, B, D, RY, ↓ KW, Nat.reduceBEq, Nat.reduceAdd, Nat.reduceLeDiff, Int.reduceNe, Int.reduceBEq, Int.reduceEq, reduceCtorEq, Nat.reduceMul, Int.reduceLT, Int.reduceLE, Int.reduceToNat, h2]
  clear back A
  refine aw_loop' (fun k : Nat => (⟨[(12, .dat (I k) none), (1, .ptr 4 0), (3, .dat (I on) none), (2, .ptr 5 0)], [(4, ⟨t.cells, []⟩), (5, ⟨[I 0, I 0], []⟩)], [], 800⟩ : S)) (fun k => (t.buses.getD []).length - k) (fun k => k ≤ (t.buses.getD []).length ∧ ∀ i, i < k → (fun k => busBad on (bsN t k)) i = false) ?_ 0 (by simp) ?_
  rotate_left
  · refine le_tok2 (by decide) ?_ ?_ ?_ ?_ <;> simp [LX, I, B, D]
  rintro k ⟨hk, hno⟩ A back
  have hwr := wrap_succ (k := k) (by omega)
  try simp only [I, B, D, RY, ↓ KW, Nat.reduceBEq, Nat.reduceAdd, Nat.reduceLeDiff, Int.reduceNe, Int.reduceBEq, Int.reduceEq, reduceCtorEq, Nat.reduceMul, Int.reduceLT, Int.reduceLE, Int.reduceToNat, p4, a_len]
  cases h2 : decide ((k : Int) < (((t.buses.getD []).length : Nat) : Int))
  rotate_left
  · have hlt : k < (t.buses.getD []).length := by have := of_decide_eq_true h2; omega
    obtain ⟨d, hd⟩ : ∃ x, (t.buses.getD [])[k]? = some x := ⟨_, List.getElem?_eq_getElem hlt⟩
    have hmem := List.mem_of_getElem? hd
    have hat : bsN t k = d := by rw [bsN, List.getD_eq_getElem?_getD, hd]; rfl
    have hgo := fun hb => first_go (w := (fun k => busBad on (bsN t k))) hlt hno hb 12
    have hnx : (fun k => busBad on (bsN t k)) k = false → ∀ i, i < k + 1 → (fun k => busBad on (bsN t k)) i = false := fun hb i hi => by
      by_cases e : i = k
      · subst e; exact hb
      · exact hno i (by omega)
    simp only [hat] at hgo hnx
    have hdm := bus_may (on := on) (mB d hmem)
    have cc := hI d.set on
    generalize inB d.set on = b2 at *
    generalize hb1 : (d.set == 0) = b1 at *
    generalize hb3 : decide (d.lock < 1) = b3 at *
    have hpart : partA (Bs.cells d) 0 (some 2) = some (.agg (Bs.cells d)) := rfl
    have hdl : (Bs.cells d).length = 2 := rfl
    have hset : ∀ c : List AV, c.length = 2 → setCells c 0 (Bs.cells d) = Bs.cells d := fun c h => set_all (by rw [h]; rfl)
    have q0 : (Bs.cells d)[0]? = some (AV.int .i64 d.set) := rfl
    have q1 : (Bs.cells d)[1]? = some (AV.int .i64 d.lock) := rfl
    try simp only [I, B, D, RY, ↓ KW, Nat.reduceBEq, Nat.reduceAdd, Nat.reduceLeDiff, Int.reduceNe, Int.reduceBEq, Int.reduceEq, reduceCtorEq, Nat.reduceMul, Int.reduceLT, Int.reduceLE, Int.reduceToNat, h2, p4, a_rows, hd, hpart, hdl, hset, q0, q1, hb1]
    refine ⟨by omega, ?_⟩
    try simp only [I, B, D, RY, ↓ KW, Nat.reduceBEq, Nat.reduceAdd, Nat.reduceLeDiff, Int.reduceNe, Int.reduceBEq, Int.reduceEq, reduceCtorEq, Nat.reduceMul, Int.reduceLT, Int.reduceLE, Int.reduceToNat, hdl, hset, q0, q1, hb1]
    cases b1
    · try simp only [I, B, D, RY, ↓ KW, Nat.reduceBEq, Nat.reduceAdd, Nat.reduceLeDiff, Int.reduceNe, Int.reduceBEq, Int.reduceEq, reduceCtorEq, Nat.reduceMul, Int.reduceLT, Int.reduceLE, Int.reduceToNat, hdl, hset, q0, q1]
      refine call_is cc ?_
      cases b2
      · try simp only [I, B, D, RY, ↓ KW, Nat.reduceBEq, Nat.reduceAdd, Nat.reduceLeDiff, Int.reduceNe, Int.reduceBEq, Int.reduceEq, reduceCtorEq, Nat.reduceMul, Int.reduceLT, Int.reduceLE, Int.reduceToNat, fltC, setCells]
        rw [hgo (by rw [← hdm]; rfl), fo_ne (by decide)] at hRR
        rw [hRR]
        try rfl
      · try simp only [I, B, D, RY, ↓ KW, Nat.reduceBEq, Nat.reduceAdd, Nat.reduceLeDiff, Int.reduceNe, Int.reduceBEq, Int.reduceEq, reduceCtorEq, Nat.reduceMul, Int.reduceLT, Int.reduceLE, Int.reduceToNat, hset, hdl, q0, q1, hb3]
        cases b3
        · try simp only [I, B, D, RY, ↓ KW, Nat.reduceBEq, Nat.reduceAdd, Nat.reduceLeDiff, Int.reduceNe, Int.reduceBEq, Int.reduceEq, reduceCtorEq, Nat.reduceMul, Int.reduceLT, Int.reduceLE, Int.reduceToNat, hb3]
          refine back (k + 1) _ ⟨by omega, fun i hi => hnx (by rw [← hdm]; rfl) i hi⟩ (by omega) ?_
          refine le_tok2 (by decide) ?_ ?_ ?_ ?_ <;> simp [LX, I, B, D, hwr]
        · try simp only [I, B, D, RY, ↓ KW, Nat.reduceBEq, Nat.reduceAdd, Nat.reduceLeDiff, Int.reduceNe, Int.reduceBEq, Int.reduceEq, reduceCtorEq, Nat.reduceMul, Int.reduceLT, Int.reduceLE, Int.reduceToNat, fltC, setCells, hb3]
          rw [hgo (by rw [← hdm]; rfl), fo_ne (by decide)] at hRR
          rw [hRR]
          try rfl
    · try simp only [I, B, D, RY, ↓ KW, Nat.reduceBEq, Nat.reduceAdd, Nat.reduceLeDiff, Int.reduceNe, Int.reduceBEq, Int.reduceEq, reduceCtorEq, Nat.reduceMul, Int.reduceLT, Int.reduceLE, Int.reduceToNat, fltC, setCells, hb1]
      rw [hgo (by rw [← hdm]; rfl), fo_ne (by decide)] at hRR
      rw [hRR]
      try rfl
  have e8 : k = (t.buses.getD []).length := by have := of_decide_eq_false h2; omega
  subst e8
  rw [first_none hno, fo_zero] at hRR
  try simp only [I, B, D, RY, ↓ KW, Nat.reduceBEq, Nat.reduceAdd, Nat.reduceLeDiff, Int.reduceNe, Int.reduceBEq, Int.reduceEq, reduceCtorEq, Nat.reduceMul, Int.reduceLT, Int.reduceLE, Int.reduceToNat, h2]
  refine call_is hLs ?_
  try simp only [I, B, D, RY, ↓ KW, Nat.reduceBEq, Nat.reduceAdd, Nat.reduceLeDiff, Int.reduceNe, Int.reduceBEq, Int.reduceEq, reduceCtorEq, Nat.reduceMul, Int.reduceLT, Int.reduceLE, Int.reduceToNat, a_len, hra, List.length_map]
  clear back A
  refine aw_loop' (fun k : Nat => (⟨[(135, .dat (I k) none), (134, .dat (I ((setN on).length : Nat)) none), (133, .dat (slAV intRow (mkO (listS on))) none), (1, .ptr 4 0), (2, .ptr 5 0), (3, .dat (I on) none)], [(4, ⟨t.cells, []⟩), (5, ⟨[I 0, I 0], []⟩)], [], 900⟩ : S)) (fun k => (setN on).length - k) (fun k => k ≤ (setN on).length ∧ ((setN on).take k).any (flBad t on) = false) ?_ 0 (by simp) ?_
  rotate_left
  · refine le_tok2 (by decide) ?_ ?_ ?_ ?_ <;> simp [LX, I, B, D]
  rintro k ⟨hk, hno⟩ A back
  have hwr := wrap_succ (k := k) (by omega)
  try simp only [I, B, D, RY, ↓ KW, Nat.reduceBEq, Nat.reduceAdd, Nat.reduceLeDiff, Int.reduceNe, Int.reduceBEq, Int.reduceEq, reduceCtorEq, Nat.reduceMul, Int.reduceLT, Int.reduceLE, Int.reduceToNat]
  cases h2 : decide ((k : Int) < (((setN on).length : Nat) : Int))
  rotate_left
  · have hlt : k < (setN on).length := by have := of_decide_eq_true h2; omega
    obtain ⟨p, hp⟩ : ∃ x, (setN on)[k]? = some x := ⟨_, List.getElem?_eq_getElem hlt⟩
    have hpp := setN_at hp
    have hmem := List.mem_of_getElem? hp
    have h8 := setN_lt hmem
    have hx : 0 ≤ (p : Int) ∧ (p : Int) < (8 : Nat) := by omega
    have hgo := fun hb => firstS_go (code := 13) (w := flBad t on) hp hno hb
    have hnx := fun hb => set_any_next (w := flBad t on) hno hp hb
    have cc := hF t p on h h8
    rw [fl_any hmem (hself p hmem)] at cc
    have hpart := trivial
    cases hb : flBad t on p
    · rw [hb] at cc
      try simp only [I, B, D, RY, ↓ KW, Nat.reduceBEq, Nat.reduceAdd, Nat.reduceLeDiff, Int.reduceNe, Int.reduceBEq, Int.reduceEq, reduceCtorEq, Nat.reduceMul, Int.reduceLT, Int.reduceLE, Int.reduceToNat, h2, a_rows, hra, hpp, intRow, List.length_map, hx, hpart, hw]
      refine ⟨by omega, ?_⟩
      refine call_is cc ?_
      try simp only [I, B, D, RY, ↓ KW, Nat.reduceBEq, Nat.reduceAdd, Nat.reduceLeDiff, Int.reduceNe, Int.reduceBEq, Int.reduceEq, reduceCtorEq, Nat.reduceMul, Int.reduceLT, Int.reduceLE, Int.reduceToNat]
      refine back (k + 1) _ ⟨by omega, hnx hb⟩ (by omega) ?_
      refine le_tok2 (by decide) ?_ ?_ ?_ ?_ <;> simp [LX, I, B, D, hwr]
    · rw [hb] at cc
      try simp only [I, B, D, RY, ↓ KW, Nat.reduceBEq, Nat.reduceAdd, Nat.reduceLeDiff, Int.reduceNe, Int.reduceBEq, Int.reduceEq, reduceCtorEq, Nat.reduceMul, Int.reduceLT, Int.reduceLE, Int.reduceToNat, h2, a_rows, hra, hpp, intRow, List.length_map, hx, hpart, hw]
      refine ⟨by omega, ?_⟩
      refine call_is cc ?_
      try simp only [I, B, D, RY, ↓ KW, Nat.reduceBEq, Nat.reduceAdd, Nat.reduceLeDiff, Int.reduceNe, Int.reduceBEq, Int.reduceEq, reduceCtorEq, Nat.reduceMul, Int.reduceLT, Int.reduceLE, Int.reduceToNat, fltC, setCells]
      rw [hgo hb, fo_ne (by decide)] at hRR
      rw [hRR]
      try rfl
  have e8 : k = (setN on).length := by have := of_decide_eq_false h2; omega
  subst e8
  rw [List.take_length] at hno
  rw [firstS_none hno, fo_zero] at hRR
  try simp only [I, B, D, RY, ↓ KW, Nat.reduceBEq, Nat.reduceAdd, Nat.reduceLeDiff, Int.reduceNe, Int.reduceBEq, Int.reduceEq, reduceCtorEq, Nat.reduceMul, Int.reduceLT, Int.reduceLE, Int.reduceToNat, h2, fltC, setCells]
  rw [hRR]
  try rfl
end
end Go.Eng
namespace Go.Eng
set_option linter.unusedVariables false
set_option linter.unusedSimpArgs false
set_option linter.unnecessarySimpa false
open Go
set_option linter.unusedVariables false
set_option linter.unusedSimpArgs false
set_option maxRecDepth 10000
set_option maxHeartbeats 4000000
def ph09 : Ph := { (default : Ph) with on := true, min := 1, max := 1, top := 1, yellow := 10 }
def g9To (k : Nat) : Tb := { Tb0 with phases := (List.range 8).map (fun p => if p < k then (if p < 2 then ph09 else default) else default), conflict := (List.range 8).map (fun p => if p < k then (if p = 0 then 2 else if p = 1 then 1 else 0) else 0), flash := (List.range 8).map fun p => if p < k then 1 else 0 }
def g9 : Tb := { g9To 2 with groups := some [⟨some [0, 1], none⟩] }
theorem g9To_ln (k : Nat) : (g9To k).Ln := ⟨by simp [g9To], by simp [g9To], by simp [g9To]⟩
theorem g9_ok : g9.Ok := ⟨rfl, rfl, rfl, by simp [g9], by simp [g9], by simp [g9, g9To, Tb0], by simp [g9, g9To, Tb0], by simp [g9, g9To, Tb0]⟩
theorem tb0_ok : Tb0.Ok := ⟨rfl, rfl, rfl, by simp [Tb0], by simp [Tb0], by simp [Tb0], by simp [Tb0], by simp [Tb0]⟩
def good09.Spec (C : Con) (f : Nat) : Prop := C.c f [] (.agg g9.cells) none
def awake09.Spec (C : Con) (f : Nat) : Prop := C.c f [] (B true) none
def chkPhase.Spec (C : Con) (f : Nat) : Prop := ∀ (l : Option (List Int)) (p : Int) (x : Ph) (conflict flash : Int), C.c f [slAV intRow l, I p, .agg x.cells, I conflict, I flash] (B true) none
theorem check_g9 : checkE g9 = (0, 0) := by decide +kernel
theorem check_tb0 : checkE Tb0 = (8, 0) := by decide +kernel
theorem det_fw (l : Option (List Int)) (i n : Int) : (detectorOf l i n).Fw := by
  have r1 := frm_range l (w64 (i + 1)) (n := 4) (by decide) (by decide)
  have r2 := frm_range l (w64 (i + 2)) (n := 3) (by decide) (by decide)
  have r3 := frm_range l (w64 (i + 3)) (n := 4) (by decide) (by decide)
  have r4 := frm_range l (w64 (i + 4)) (n := 6) (by decide) (by decide)
  obtain ⟨a, ha⟩ : ∃ m : Nat, frm l (w64 (i + 1)) 4 = m := ⟨(frm l (w64 (i + 1)) 4).toNat, by omega⟩
  obtain ⟨b, hb⟩ : ∃ m : Nat, frm l (w64 (i + 2)) 3 = m := ⟨(frm l (w64 (i + 2)) 3).toNat, by omega⟩
  obtain ⟨c, hc⟩ : ∃ m : Nat, frm l (w64 (i + 3)) 4 = m := ⟨(frm l (w64 (i + 3)) 4).toNat, by omega⟩
  obtain ⟨d, hd⟩ : ∃ m : Nat, frm l (w64 (i + 4)) 6 = m := ⟨(frm l (w64 (i + 4)) 6).toNat, by omega⟩
  have k1 : ∀ a : Nat, a < 4 → detOn a < 2 ^ 64 := by decide
  have k2 : ∀ a : Nat, a < 4 → ∀ b : Nat, b < 3 → detOff a b < 2 ^ 64 := by decide +kernel
  have k3 : ∀ c : Nat, c < 6 → tenth c < 2 ^ 64 := by decide +kernel
  refine ⟨?_, ?_, ?_, ?_⟩
  · show detOn _ < _; rw [ha]; exact k1 a (by omega)
  · show detOff _ _ < _; rw [ha, hb]; exact k2 a (by omega) b (by omega)
  · show tenth _ < _; rw [hc]; exact k3 c (by omega)
  · show tenth _ < _; rw [hd]; exact k3 d (by omega)
theorem table_fw (l : Option (List Int)) : (tableOf l).Fw := by
  intro d hd
  have e : (tableOf l).detectors = mkO (detTo l (rowsOf' l).2 (frm l 175 9) (frm l 175 9).toNat) := rfl
  rw [e, mkO_getD, detTo, List.mem_map] at hd
  obtain ⟨k, _, rfl⟩ := hd
  exact det_fw _ _ _
section
variable {P : Program} (hm : P.follows .mixedOrders = true) {f : Nat}
include hm
theorem good09.ok {e1 e2 : Nat} (hc : cFn P f = some (cc_law09_good e1 e2)) : good09.Spec (Pure P) f := by
  have h0 : (g9To 0).cells = z131_45020 := rfl
  have hl := (g9To_ln 2).len
  have hl2 := g9_ok.ln.len
  have hw := g9_ok.ln.whole
  have hz : setCells z131_45020 0 g9.cells = g9.cells := set_all (by rw [hl2]; rfl)
  have hzl : z131_45020.length = 131 := rfl
  have hg : setCells (g9To 2).cells 104 [AV.sl [[AV.sl [[AV.int IntKind.i64 0], [AV.int IntKind.i64 1]], AV.nils]]] = g9.cells := rfl
  show (Pure P).c f [] (.agg g9.cells) none
  refine pure_of hm hc (by show 0 ≤ 25; decide) (aw_flat (keep := []) (i := 0) ?_)
  try simp only [I, B, D, RY, ↓ KW, Nat.reduceBEq, Nat.reduceAdd, Nat.reduceLeDiff, Int.reduceNe, Int.reduceBEq, Int.reduceEq, reduceCtorEq, Nat.reduceMul, Int.reduceLT, Int.reduceLE, Int.reduceToNat, cc_law09_good, Z.H]
  refine aw_loop' (fun k : Nat => (⟨[(2, .dat (I k) none), (1, .ptr 5 0), (0, .ptr 4 0)], [(5, ⟨(g9To k).cells, []⟩), (4, ⟨z131_45020, []⟩)], [], 400⟩ : S)) (fun k => 2 - k) (fun k => k ≤ 2) ?_ 0 (by omega) ?_
  · intro k hk A back
    have hwr := wrap_succ (k := k) (by omega)
    try simp only [I, B, D, RY, ↓ KW, Nat.reduceBEq, Nat.reduceAdd, Nat.reduceLeDiff, Int.reduceNe, Int.reduceBEq, Int.reduceEq, reduceCtorEq, Nat.reduceMul, Int.reduceLT, Int.reduceLE, Int.reduceToNat]
    refine cd_split (fun h2 => ?_) (fun h2 => ?_) <;> try simp only [I, B, D, RY, ↓ KW, Nat.reduceBEq, Nat.reduceAdd, Nat.reduceLeDiff, Int.reduceNe, Int.reduceBEq, Int.reduceEq, reduceCtorEq, Nat.reduceMul, Int.reduceLT, Int.reduceLE, Int.reduceToNat, h2]
    · have h3 : k < 2 := by have := of_decide_eq_true h2; omega
      have h01 : k = 0 ∨ k = 1 := by omega
      rcases h01 with rfl | rfl
      · try simp only [I, B, D, RY, ↓ KW, Nat.reduceBEq, Nat.reduceAdd, Nat.reduceLeDiff, Int.reduceNe, Int.reduceBEq, Int.reduceEq, reduceCtorEq, Nat.reduceMul, Int.reduceLT, Int.reduceLE, Int.reduceToNat, z13_14216]
        refine ⟨by omega, by decide +kernel, by decide, by omega, by decide +kernel, by omega, by decide +kernel, back 1 _ (by omega) (by omega) ?_⟩
        refine le_tok2 (by decide) ?_ ?_ ?_ ?_ <;> simp [LX, I, B, D, hwr]
        all_goals rfl
      · try simp only [I, B, D, RY, ↓ KW, Nat.reduceBEq, Nat.reduceAdd, Nat.reduceLeDiff, Int.reduceNe, Int.reduceBEq, Int.reduceEq, reduceCtorEq, Nat.reduceMul, Int.reduceLT, Int.reduceLE, Int.reduceToNat, z13_14216]
        refine ⟨by omega, by decide +kernel, by decide, by omega, by decide +kernel, by omega, by decide +kernel, back 2 _ (by omega) (by omega) ?_⟩
        refine le_tok2 (by decide) ?_ ?_ ?_ ?_ <;> simp [LX, I, B, D, hwr]
        all_goals rfl
    · have : k = 2 := by have := of_decide_eq_false h2; omega
      subst this
      try simp only [I, B, D, RY, ↓ KW, Nat.reduceBEq, Nat.reduceAdd, Nat.reduceLeDiff, Int.reduceNe, Int.reduceBEq, Int.reduceEq, reduceCtorEq, Nat.reduceMul, Int.reduceLT, Int.reduceLE, Int.reduceToNat, hw, hz, hl, hl2, hzl, hg]
      try (refine ⟨by omega, ?_⟩)
      try simp only [I, B, D, RY, ↓ KW, Nat.reduceBEq, Nat.reduceAdd, Nat.reduceLeDiff, Int.reduceNe, Int.reduceBEq, Int.reduceEq, reduceCtorEq, Nat.reduceMul, Int.reduceLT, Int.reduceLE, Int.reduceToNat, hw, hz, hl, hl2, hzl, hg]
  · refine le_tok2 (by decide) ?_ ?_ ?_ ?_ <;> simp [LX, I, B, D, h0]
theorem awake09.ok {fC fG : Nat} (hc : cFn P f = some (cc_law09_awake fC fG)) (hC : check9.Spec (Pure P) fC) (hG : good09.Spec (Pure P) fG) : awake09.Spec (Pure P) f := by
  have c1 := hC Tb0 tb0_ok (by intro d hd; simp [Tb0] at hd)
  have c2 := hC g9 g9_ok (by intro d hd; simp [g9, g9To, Tb0] at hd)
  rw [check_tb0] at c1
  rw [check_g9] at c2
  have h0 : Tb0.cells = z131_45020 := rfl
  rw [h0] at c1
  have q1 : cellsEq [.i, .i] [AV.int .i64 8, AV.int .i64 0] [AV.int .i64 8, AV.int .i64 0] = some true := rfl
  have q2 : cellsEq [.i, .i] [AV.int .i64 0, AV.int .i64 0] [AV.int .i64 0, AV.int .i64 0] = some true := rfl
  show (Pure P).c f [] (B true) none
  refine pure_of hm hc (by show 0 ≤ 11; decide) (aw_flat (keep := []) (i := 0) ?_)
  try simp only [I, B, D, RX, ↓ KW, Nat.reduceBEq, Nat.reduceAdd, Nat.reduceLeDiff, Int.reduceNe, Int.reduceBEq, Int.reduceEq, reduceCtorEq, Nat.reduceMul, Int.reduceLT, Int.reduceLE, Int.reduceToNat, cc_law09_awake, Z.H]
  refine call_is c1 ?_
  try simp only [I, B, D, RX, ↓ KW, Nat.reduceBEq, Nat.reduceAdd, Nat.reduceLeDiff, Int.reduceNe, Int.reduceBEq, Int.reduceEq, reduceCtorEq, Nat.reduceMul, Int.reduceLT, Int.reduceLE, Int.reduceToNat, fltC, q1, BNW]
  refine call_is hG ?_
  try simp only [I, B, D, RX, ↓ KW, Nat.reduceBEq, Nat.reduceAdd, Nat.reduceLeDiff, Int.reduceNe, Int.reduceBEq, Int.reduceEq, reduceCtorEq, Nat.reduceMul, Int.reduceLT, Int.reduceLE, Int.reduceToNat]
  refine call_is c2 ?_
  try simp only [I, B, D, RX, ↓ KW, Nat.reduceBEq, Nat.reduceAdd, Nat.reduceLeDiff, Int.reduceNe, Int.reduceBEq, Int.reduceEq, reduceCtorEq, Nat.reduceMul, Int.reduceLT, Int.reduceLE, Int.reduceToNat, fltC, q2, BNW]
theorem chkPhase.ok {fT fP fC fR fA : Nat} (hc : cFn P f = some (cc_law09_CheckPhase fT fP fC fR fA)) (hT : Table.Spec (Pure P) fT) (hP : Place.Spec (Pure P) fP) (hC : check9.Spec (Pure P) fC) (hR : kCheck.Spec (Pure P) fR) (hA : awake09.Spec (Pure P) fA) : chkPhase.Spec (Pure P) f := by
  intro l p x conflict flash
  have ot := tableOf_ok l
  have ht := ot.ln
  have hfw := table_fw l
  have cT := hT l
  generalize tableOf l = t at *
  have hr1 := place_range (v := p) (n := 8) (by decide) (by decide)
  obtain ⟨k, hpk⟩ : ∃ m : Nat, place p 8 = m := ⟨(place p 8).toNat, by omega⟩
  have hk : k < 8 := by omega
  have pk := hP p 8 (by decide)
  rw [hpk] at pk
  have pf := hP flash 3 (by decide)
  generalize place flash 3 = w at *
  have hx : 0 ≤ (k : Int) ∧ (k : Int) < (8 : Nat) := by omega
  have hz : setCells z131_45020 0 t.cells = t.cells := set_all (by rw [ht.len]; rfl)
  have hzl : z131_45020.length = 131 := rfl
  have hl := ht.len
  have wx : partA x.cells 0 (some 13) = some (.agg x.cells) := rfl
  obtain ⟨t1, ht1⟩ : ∃ t1 : Tb, t1 = { t with phases := t.phases.set k x } := ⟨_, rfl⟩
  have l1 : t1.Ln := by subst ht1; exact ⟨by simpa using ht.phases, ht.conflict, ht.flash⟩
  have s1 : setCells t.cells (k * 13) x.cells = t1.cells := by rw [ht.set_phase hk x, ht1]
  have g1 := l1.con_at hk
  obtain ⟨v, hv⟩ : ∃ v, v = bXor .i64 (conAt t1 k) (bAnd .i64 conflict 255) := ⟨_, rfl⟩
  obtain ⟨t2, ht2⟩ : ∃ t2 : Tb, t2 = { t1 with conflict := t1.conflict.set k v } := ⟨_, rfl⟩
  have l2 : t2.Ln := by subst ht2; exact ⟨l1.phases, by simpa using l1.conflict, l1.flash⟩
  have s2 : setCells t1.cells (105 + k) [AV.int .i64 v] = t2.cells := by
    have := l1.set_conflict hk v; rw [ht2]; exact this
  obtain ⟨t3, ht3⟩ : ∃ t3 : Tb, t3 = { t2 with flash := t2.flash.set k w } := ⟨_, rfl⟩
  have l3 : t3.Ln := by subst ht3; exact ⟨l2.phases, l2.conflict, by simpa using l2.flash⟩
  have s3 : setCells t2.cells (121 + k) [AV.int .i64 w] = t3.cells := by
    have := l2.set_flash hk w; rw [ht3]; exact this
  have o3 : t3.Ok := by
    subst ht3 ht2 ht1
    exact ⟨l3.phases, l3.conflict, l3.flash, ot.groups, ot.rows, ot.dets, ot.rails, ot.buses⟩
  have f3 : t3.Fw := by subst ht3 ht2 ht1; exact hfw
  have c1 := hC t3 o3 f3
  have c2 := hR t3 o3 f3
  have hq : cellsEq [.i, .i] (fltC (checkE t3)) (fltC (checkE t3)) = some true := by simp [fltC, cellsEq, cellEq]
  generalize fltC (checkE t3) = r at *
  have k1 := l1.len
  have k2 := l2.len
  have k3 := l3.len
  have w3 := l3.whole
  clear ht1 ht2 ht3
  refine pure_of hm hc (by show 5 ≤ 44; decide) (aw_flat (keep := []) (i := 0) ?_)
  try simp only [I, B, D, RY, ↓ KW, Nat.reduceBEq, Nat.reduceAdd, Nat.reduceLeDiff, Int.reduceNe, Int.reduceBEq, Int.reduceEq, reduceCtorEq, Nat.reduceMul, Int.reduceLT, Int.reduceLE, Int.reduceToNat, cc_law09_CheckPhase, Z.H, hx, hz, hzl, hl, wx, s1, g1, s2, s3, k1, k2, k3, w3, Ph.len, ← hv]
  refine call_is cT ?_
  try simp only [I, B, D, RY, ↓ KW, Nat.reduceBEq, Nat.reduceAdd, Nat.reduceLeDiff, Int.reduceNe, Int.reduceBEq, Int.reduceEq, reduceCtorEq, Nat.reduceMul, Int.reduceLT, Int.reduceLE, Int.reduceToNat, hx, hz, hzl, hl, wx, s1, g1, s2, s3, k1, k2, k3, w3, Ph.len, ← hv]
  refine call_is pk ?_
  try simp only [I, B, D, RY, ↓ KW, Nat.reduceBEq, Nat.reduceAdd, Nat.reduceLeDiff, Int.reduceNe, Int.reduceBEq, Int.reduceEq, reduceCtorEq, Nat.reduceMul, Int.reduceLT, Int.reduceLE, Int.reduceToNat, hx, hz, hzl, hl, wx, s1, g1, s2, s3, k1, k2, k3, w3, Ph.len, ← hv]
  refine ⟨by omega, by omega, ?_⟩
  refine call_is pf ?_
  try simp only [I, B, D, RY, ↓ KW, Nat.reduceBEq, Nat.reduceAdd, Nat.reduceLeDiff, Int.reduceNe, Int.reduceBEq, Int.reduceEq, reduceCtorEq, Nat.reduceMul, Int.reduceLT, Int.reduceLE, Int.reduceToNat, hx, hz, hzl, hl, wx, s1, g1, s2, s3, k1, k2, k3, w3, Ph.len, ← hv]
  refine ⟨by omega, ?_⟩
  refine call_is c1 ?_
  try simp only [I, B, D, RY, ↓ KW, Nat.reduceBEq, Nat.reduceAdd, Nat.reduceLeDiff, Int.reduceNe, Int.reduceBEq, Int.reduceEq, reduceCtorEq, Nat.reduceMul, Int.reduceLT, Int.reduceLE, Int.reduceToNat, hx, hz, hzl, hl, wx, s1, g1, s2, s3, k1, k2, k3, w3, Ph.len, ← hv]
  refine call_is c2 ?_
  try simp only [I, B, D, RY, ↓ KW, Nat.reduceBEq, Nat.reduceAdd, Nat.reduceLeDiff, Int.reduceNe, Int.reduceBEq, Int.reduceEq, reduceCtorEq, Nat.reduceMul, Int.reduceLT, Int.reduceLE, Int.reduceToNat, hq, BNW]
  refine call_is hA ?_
  try simp only [I, B, D, RY, ↓ KW, Nat.reduceBEq, Nat.reduceAdd, Nat.reduceLeDiff, Int.reduceNe, Int.reduceBEq, Int.reduceEq, reduceCtorEq, Nat.reduceMul, Int.reduceLT, Int.reduceLE, Int.reduceToNat]
end
end Go.Eng
namespace Go.Eng
set_option linter.unusedVariables false
set_option linter.unusedSimpArgs false
set_option linter.unnecessarySimpa false
open Go
set_option linter.unusedVariables false
set_option linter.unusedSimpArgs false
set_option maxRecDepth 10000
set_option maxHeartbeats 4000000
theorem w64_id {n : Int} (h1 : -9223372036854775808 ≤ n) (h2 : n ≤ 9223372036854775807) : w64 n = n := wrap_id h1 h2
structure PhGood (x : Ph) : Prop where
  min : 1 ≤ x.min ∧ x.min ≤ 12
  max : x.min ≤ x.max ∧ x.max ≤ 36
  top : x.max ≤ x.top ∧ x.top ≤ 50
  gap : 0 ≤ x.gap ∧ x.gap ≤ 8
  step : 1 ≤ x.step ∧ x.step ≤ 6
  yellow : 10 ≤ x.yellow ∧ x.yellow ≤ 13
  red : 0 ≤ x.red ∧ x.red ≤ 4
  walk : (x.walk = 0 ∧ x.blinks = 0) ∨ (1 ≤ x.walk ∧ x.walk ≤ 10 ∧ 1 ≤ x.blinks ∧ x.blinks ≤ 10)
  recall : 0 ≤ x.recall ∧ x.recall ≤ 3 ∧ (x.recall = 3 → x.walk ≠ 0)
  on : x.on = true
theorem ph_good (l : Option (List Int)) (i : Int) : PhGood (phaseOf l i) := by
  have r0 := frm_range l i (n := 12) (by decide) (by decide)
  have r1 := frm_range l (w64 (i + 1)) (n := 9) (by decide) (by decide)
  have r2 := frm_range l (w64 (i + 2)) (n := 6) (by decide) (by decide)
  have r3 := frm_range l (w64 (i + 3)) (n := 4) (by decide) (by decide)
  have r4 := frm_range l (w64 (i + 4)) (n := 5) (by decide) (by decide)
  have r5 := frm_range l (w64 (i + 5)) (n := 25) (by decide) (by decide)
  have r6 := frm_range l (w64 (i + 6)) (n := 15) (by decide) (by decide)
  have r8 := frm_range l (w64 (i + 8)) (n := 10) (by decide) (by decide)
  have r9 := frm_range l (w64 (i + 8)) (n := 97) (by decide) (by decide)
  have ra := frm_range l (w64 (i + 9)) (n := 7) (by decide) (by decide)
  have rt : 0 ≤ (frm l (w64 (i + 8)) 97).tdiv 10 ∧ (frm l (w64 (i + 8)) 97).tdiv 10 ≤ 9 := by
    rw [Int.tdiv_eq_ediv_of_nonneg r9.1]; omega
  have e0 := w64_id (n := 1 + frm l i 12) (by omega) (by omega)
  have e5 := w64_id (n := 1 + frm l i 12 + frm l (w64 (i + 5)) 25) (by omega) (by omega)
  have e6 := w64_id (n := 1 + frm l i 12 + frm l (w64 (i + 5)) 25 + frm l (w64 (i + 6)) 15) (by omega) (by omega)
  have e8 := w64_id (n := 1 + frm l (w64 (i + 8)) 10) (by omega) (by omega)
  have e9 := w64_id (n := (frm l (w64 (i + 8)) 97).tdiv 10) (by omega) (by omega)
  have ea := w64_id (n := 1 + (frm l (w64 (i + 8)) 97).tdiv 10) (by omega) (by omega)
  have e2 := w64_id (n := 1 + frm l (w64 (i + 2)) 6) (by omega) (by omega)
  have e3 := w64_id (n := 10 + frm l (w64 (i + 3)) 4) (by omega) (by omega)
  refine ⟨?_, ?_, ?_, ?_, ?_, ?_, ?_, ?_, ?_, rfl⟩ <;> simp only [phaseOf, e0, e5, e6, e8, e9, ea, e2, e3]
  · omega
  · omega
  · omega
  · omega
  · omega
  · omega
  · omega
  · split
    · right; omega
    · left; exact ⟨rfl, rfl⟩
  · split <;> split <;> omega
theorem phTo_at (l : Option (List Int)) : ∀ (k i : Nat), k ≤ 8 → i < 8 → (phTo l k).getD i default = if i < k then phaseOf l (10 + 12 * i) else default
  | 0, i, _, hi => by rw [phTo, List.getD_eq_getElem?_getD, List.getElem?_replicate, if_pos hi, if_neg (by omega)]; rfl
  | k + 1, i, hk, hi => by
    have ih := phTo_at l k i (by omega) hi
    rw [phTo, List.getD_eq_getElem?_getD, List.getElem?_set]
    by_cases e : k = i
    · subst e
      rw [if_pos rfl, if_pos (by rw [phTo_len]; omega), if_pos (by omega)]; rfl
    · rw [if_neg e, ← List.getD_eq_getElem?_getD, ih]
      by_cases h2 : i < k
      · rw [if_pos h2, if_pos (by omega)]
      · rw [if_neg h2, if_neg (by omega)]
def nT (l : Option (List Int)) : Nat := (rowsOf' l).2
theorem nT_range (l : Option (List Int)) : 1 ≤ nT l ∧ nT l ≤ 8 := ⟨rowsOf_pos l, rowsOf_le l⟩
theorem tph (l : Option (List Int)) {i : Nat} (hi : i < 8) : phAt (tableOf l) i = if i < nT l then phaseOf l (10 + 12 * i) else default := by
  rw [← phAt_D]
  exact phTo_at l (nT l) i (nT_range l).2 hi
theorem tph_on (l : Option (List Int)) {i : Nat} (hi : i < 8) : (phAt (tableOf l) i).on = decide (i < nT l) := by
  rw [tph l hi]; split
  · next h => simp [h, (ph_good l _).on]
  · next h => simp [h]; rfl
theorem tOn_tb (l : Option (List Int)) (i : Nat) : tb (onI (tableOf l)) i = decide (i < nT l) := by
  rw [onI_tb]
  by_cases h : i < 8
  · rw [tph_on l h]; simp [h]
  · have := (nT_range l).2
    have h2 : ¬ i < nT l := by omega
    simp [h, h2]
theorem rowsTo_lim (l : Option (List Int)) (G : Nat) (hG : G ≤ 8) : ∀ g, g ≤ G → 1 ≤ g → (rowsTo l G g).2 ≤ 8 - (G - g)
  | 0, _, h => by omega
  | g + 1, h, _ => by
    have ih : (rowsTo l G g).2 ≤ 8 - (G - 1 - g) := by
      rcases Nat.eq_zero_or_pos g with rfl | h1
      · simp [rowsTo]
      · have := rowsTo_lim l G hG g (by omega) h1; omega
    simp only [rowsTo, fillN, limN]
    omega
theorem rowsTo_new (l : Option (List Int)) (G : Nat) (hG : G ≤ 8) {g : Nat} (hg : g < G) : ∃ (gr : Gr) (m : Nat), 1 ≤ m ∧ (rowsTo l G (g + 1)).1 = (rowsTo l G g).1 ++ [gr] ∧ (rowsTo l G (g + 1)).2 = (rowsTo l G g).2 + m ∧ gr.a.getD [] ++ gr.b.getD [] = rowN (rowsTo l G g).2 m := by
  have hp : (rowsTo l G g).2 + 1 ≤ limN G g := by
    unfold limN
    rcases Nat.eq_zero_or_pos g with rfl | h1
    · simp [rowsTo]; omega
    · have := rowsTo_lim l G hG g (by omega) h1; omega
  refine ⟨_, fillN (cnt l g 0 0) (rowsTo l G g).2 (limN G g) + fillN (cnt l g 1 (fillN (cnt l g 0 0) (rowsTo l G g).2 (limN G g))) ((rowsTo l G g).2 + fillN (cnt l g 0 0) (rowsTo l G g).2 (limN G g)) (limN G g), ?_, rfl, ?_, ?_⟩
  · generalize hm0 : fillN (cnt l g 0 0) (rowsTo l G g).2 (limN G g) = m0
    rcases Nat.eq_zero_or_pos m0 with h0 | h0
    · have hc : 1 ≤ cnt l g 1 m0 := by
        simp only [cnt]
        by_cases hz : (frm l (1 + 2 * (g : Int) + ((1 : Nat) : Int)) 3).toNat = 0
        · rw [if_pos ⟨trivial, hz, h0⟩]; exact Nat.le_refl _
        · rw [if_neg (fun h => hz h.2.1)]; omega
      rw [h0] at hc ⊢
      simp only [fillN]; omega
    · omega
  · simp only [rowsTo]; omega
  · simp only [mkO_getD]
    generalize fillN (cnt l g 0 0) (rowsTo l G g).2 (limN G g) = m0
    generalize fillN (cnt l g 1 m0) ((rowsTo l G g).2 + m0) (limN G g) = m1
    simp only [rowN, List.range_add, List.map_append, List.map_map]
    congr 1
    apply List.map_congr_left
    intro j _
    simp only [Function.comp]; omega
def seenTo : Nat → Int
  | 0 => 0
  | p + 1 => withS (seenTo p) p
theorem seenTo_tb (i : Nat) : ∀ p, p ≤ 8 → tb (seenTo p) i = decide (i < p)
  | 0, _ => by simp [seenTo, tb_zero]
  | p + 1, h => by
    rw [seenTo, tb_with (by omega), seenTo_tb i p (by omega)]
    by_cases h1 : i < p
    · have : i < 8 := by omega
      have h3 : i < p + 1 := by omega
      simp [h1, this, h3]
    · by_cases h2 : i = p
      · subst h2; simp
      · have : ¬ i < p + 1 := by omega
        simp [h1, h2, this]
theorem seenTo_can : ∀ p, p ≤ 8 → Can (seenTo p)
  | 0, _ => by show Can 0; exact ⟨by decide, by decide⟩
  | p + 1, h => can_with (by omega)
theorem rowGo_rowN {on : Int} {n : Nat} (hn : n ≤ 8) (hon : ∀ i, i < n → tb on i = true) (p : Nat) : ∀ m, p + m ≤ n → rowGo on (seenTo p) (rowN p m) = some (seenTo (p + m))
  | 0, _ => rfl
  | m + 1, h => by
    have ih := rowGo_rowN hn hon p m (by omega)
    rw [rowN_succ, rowGo, List.foldlM_append]
    rw [rowGo] at ih
    rw [ih]
    have h1 : hasS on ((p + m : Nat) : Int) = true := by rw [hasS_tb (by omega), hon _ (by omega)]
    have h2 : hasS (seenTo (p + m)) ((p + m : Nat) : Int) = false := by rw [hasS_tb (by omega), seenTo_tb _ _ (by omega)]; simp
    simp only [Option.bind_eq_bind, Option.bind_some, List.foldlM_cons, List.foldlM_nil, h1, h2]
    rfl
theorem ring_rows {on : Int} {n : Nat} (hn : n ≤ 8) (hon : ∀ i, i < n → tb on i = true) (l : Option (List Int)) (G : Nat) (hG : G ≤ 8) (hle : (rowsTo l G G).2 ≤ n) (mono : ∀ g, g ≤ G → (rowsTo l G g).2 ≤ (rowsTo l G G).2) :
    ∀ (g : Nat) (R : List Gr), g ≤ G → ringL on ((rowsTo l G g).1 ++ R) 0 0 = ringL on R g (seenTo (rowsTo l G g).2)
  | 0, R, _ => rfl
  | g + 1, R, h => by
    obtain ⟨gr, m, h1, h2, h3, h4⟩ := rowsTo_new l G hG (g := g) (by omega)
    have ih := ring_rows hn hon l G hG hle mono g (gr :: R) (by omega)
    have hm := mono (g + 1) h
    rw [h2, List.append_assoc, List.singleton_append, ih, ringL]
    have hl : (gr.a.getD []).length + (gr.b.getD []).length = m := by
      have := congrArg List.length h4
      rw [List.length_append, rowN_len] at this; exact this
    rw [if_neg (by omega), h4, rowGo_rowN hn hon _ m (by omega), h3]
theorem rowsTo_up (l : Option (List Int)) (G : Nat) (hG : G ≤ 8) : ∀ k g, g + k ≤ G → (rowsTo l G g).2 ≤ (rowsTo l G (g + k)).2
  | 0, g, _ => Nat.le_refl _
  | k + 1, g, h => by
    obtain ⟨gr, m, h1, h2, h3, h4⟩ := rowsTo_new l G hG (g := g + k) (by omega)
    have := rowsTo_up l G hG k g (by omega)
    rw [show g + (k + 1) = g + k + 1 by omega, h3]; omega
theorem table_ring (l : Option (List Int)) : ringE (tableOf l) (onI (tableOf l)) = (0, 0) := by
  have hG := groupsN_le l
  have e : (tableOf l).groups.getD [] = (rowsTo l (groupsN l) (groupsN l)).1 := rfl
  have hlen : ((rowsTo l (groupsN l) (groupsN l)).1).length = groupsN l := rowsTo_len _ _ _
  rw [ringE, if_neg (by rw [e, hlen]; omega), e]
  have h := ring_rows (on := onI (tableOf l)) (n := nT l) (nT_range l).2 (fun i hi => by rw [tOn_tb]; simp [hi]) l (groupsN l) (by omega) (Nat.le_refl _)
    (fun g hg => by have := rowsTo_up l (groupsN l) (by omega) (groupsN l - g) g (by omega); rwa [show g + (groupsN l - g) = groupsN l by omega] at this) (groupsN l) [] (Nat.le_refl _)
  rw [List.append_nil] at h
  rw [h, ringL]
  have : seenTo (rowsTo l (groupsN l) (groupsN l)).2 = onI (tableOf l) := by
    refine can_ext (seenTo_can _ (rowsOf_le l)) (onI_can _) fun i hi => ?_
    rw [seenTo_tb i _ (rowsTo_le _ _ _), tOn_tb]; rfl
  rw [this]; simp
theorem beside_congr {t t' : Tb} (h : t.groups = t'.groups) (p q : Int) : besideR t p q = besideR t' p q := by
  simp only [besideR, whereR, spots, h]
def ConG (t : Tb) (c : List Int) : Prop := ∀ i j : Nat, i < 8 → j < 8 → tb (cAt c i) j = true → i ≠ j ∧ besideR t i j = false
theorem conG_step {t : Tb} {l : Option (List Int)} {p q : Nat} {c : List Int} (hc : c.length = 8) (hp : p < 8) (hq : q < p) (h : ConG t c) : ConG t (confStep t l p q c) := by
  unfold confStep
  split
  · rename_i hcl
    have hb : besideR t p q = false := by
      simp only [clashes, Bool.and_eq_true, Bool.not_eq_true'] at hcl; exact hcl.1
    have hb2 : besideR t q p = false := by rw [beside_sym]; exact hb
    intro i j hi hj
    have hpl : p < c.length := by omega
    have hql : q < (c.set p (withR (cAt c p) q)).length := by simp; omega
    have hqp : ¬ q = p := by omega
    simp only [cAt_set hql, cAt_set hpl, hqp, if_false]
    intro ht
    by_cases h1 : i = q
    · subst h1
      rw [if_pos rfl, tb_withR (by omega)] at ht
      simp only [Bool.and_eq_true, Bool.or_eq_true, decide_eq_true_eq] at ht
      rcases ht.2 with ht | rfl
      · exact h i j hi hj ht
      · exact ⟨by omega, hb2⟩
    · rw [if_neg h1] at ht
      by_cases h3 : i = p
      · subst h3
        rw [if_pos rfl, tb_withR (by omega)] at ht
        simp only [Bool.and_eq_true, Bool.or_eq_true, decide_eq_true_eq] at ht
        rcases ht.2 with ht | rfl
        · exact h i j hi hj ht
        · exact ⟨by omega, hb⟩
      · rw [if_neg h3] at ht
        exact h i j hi hj ht
  · exact h
theorem conG_row {t : Tb} {l : Option (List Int)} {p : Nat} {c : List Int} (hc : c.length = 8) (hp : p < 8) (h : ConG t c) : ∀ q, q ≤ p → ConG t (confRow t l p q c)
  | 0, _ => h
  | q + 1, hq => conG_step (by rw [confRow_len, hc]) hp (by omega) (conG_row hc hp h q (by omega))
theorem conG_to {t : Tb} {l : Option (List Int)} : ∀ p, p ≤ 8 → ConG t (confTo t l p)
  | 0, _ => by
    intro i j hi hj ht
    have : cAt (confTo t l 0) i = 0 := by
      simp only [cAt, confTo, List.getD_eq_getElem?_getD, List.getElem?_replicate]; split <;> rfl
    rw [this, tb_zero] at ht; cases ht
  | p + 1, hp => conG_row (confTo_len p) (by omega) (conG_to p (by omega)) p (Nat.le_refl p)
theorem table_con (l : Option (List Int)) {p q : Nat} (hp : p < 8) (hq : q < 8) (h : tb (conAt (tableOf l) p) q = true) : p ≠ q ∧ besideR (tableOf l) p q = false := by
  have := conG_to (t := { Tb0 with groups := some (rowsOf' l).1 }) (l := l) (rowsOf' l).2 (rowsOf_le l) p q hp hq h
  refine ⟨this.1, ?_⟩
  rw [← this.2]
  exact beside_congr rfl _ _
theorem conf_good (l : Option (List Int)) (on : Int) {p : Nat} (hp : p < 8) : confBad (tableOf l) on p = false := by
  have h0 : tb (conAt (tableOf l) p) p = false := by
    cases h : tb (conAt (tableOf l) p) p
    · rfl
    · exact absurd rfl (table_con l hp hp h).1
  rw [confBad, h0, Bool.false_or, List.any_eq_false]
  intro q hq
  have h8 := setN_lt hq
  rw [confQ, table_sym l hp h8]
  cases h : tb (conAt (tableOf l) q) p
  · simp
  · have h2 := h
    rw [← table_sym l hp h8] at h2
    rw [(table_con l hp h8 h2).2]; simp
end Go.Eng
namespace Go.Eng
set_option linter.unusedVariables false
set_option linter.unusedSimpArgs false
set_option linter.unnecessarySimpa false
open Go
set_option linter.unusedVariables false
set_option linter.unusedSimpArgs false
set_option maxRecDepth 10000
set_option maxHeartbeats 4000000
theorem sumI_range (l : List Int) : 0 ≤ sumI l ∧ sumI l ≤ 2147483647 := by
  rcases List.eq_nil_or_concat l with rfl | ⟨l', x, rfl⟩
  · exact ⟨by decide, by decide⟩
  · rw [sumI, List.concat_eq_append, List.foldl_append]; exact capI_range _
theorem freeI_range (t : Tb) (p : Int) : 0 ≤ freeI t p ∧ freeI t p ≤ 2147483647 := by
  unfold freeI
  split
  · exact sumI_range _
  · exact ⟨by decide, by decide⟩
theorem waitI_range (t : Tb) (p : Int) : 0 ≤ waitI t p ∧ waitI t p ≤ 2147483647 := by
  unfold waitI
  split
  · exact freeI_range _ _
  · exact sumI_range _
theorem winTo_range (t : Tb) : ∀ k, 0 ≤ winTo t k ∧ winTo t k ≤ 2147483647
  | 0 => ⟨by simp [winTo], by simp [winTo]⟩
  | k + 1 => by
    have := winTo_range t k
    have h2 := waitI_range t k
    rw [winTo]; split <;> omega
theorem rows_elems (l : Option (List Int)) (G : Nat) (hG : G ≤ 8) : ∀ g, g ≤ G → ∀ gr ∈ (rowsTo l G g).1, ∀ x ∈ gr.a.getD [] ++ gr.b.getD [], 0 ≤ x ∧ x < 8
  | 0, _, gr, h => by simp [rowsTo] at h
  | g + 1, hg, gr, h => by
    obtain ⟨gr', m, h1, h2, h3, h4⟩ := rowsTo_new l G hG (g := g) (by omega)
    rw [h2] at h
    rcases List.mem_append.1 h with h | h
    · exact rows_elems l G hG g (by omega) gr h
    · rw [List.mem_singleton] at h; subst h
      intro x hx
      rw [h4, rowN, List.mem_map] at hx
      obtain ⟨j, hj, rfl⟩ := hx
      have := rowsTo_le l G (g + 1)
      have := List.mem_range.1 hj
      omega
theorem flTo_at : ∀ (k i : Nat), k ≤ 8 → i < 8 → (flTo k).getD i 0 = if i < k then 1 else 0
  | 0, i, _, hi => by rw [flTo, List.getD_eq_getElem?_getD, List.getElem?_replicate, if_pos hi, if_neg (by omega)]; rfl
  | k + 1, i, hk, hi => by
    have ih := flTo_at k i (by omega) hi
    rw [flTo, List.getD_eq_getElem?_getD, List.getElem?_set]
    by_cases e : k = i
    · subst e
      rw [if_pos rfl, if_pos (by rw [flTo_len]; omega), if_pos (by omega)]; rfl
    · rw [if_neg e, ← List.getD_eq_getElem?_getD, ih]
      by_cases h2 : i < k
      · rw [if_pos h2, if_pos (by omega)]
      · rw [if_neg h2, if_neg (by omega)]
theorem tfl' (l : Option (List Int)) : ∃ q : Nat, ∀ p, p < 8 → flAt (tableOf l) p = if q < nT l ∧ p = q then 2 else if p < nT l then 1 else 0 := by
  have r := frm_range l 174 (n := ((rowsOf' l).2 : Int) + 1) (by omega) (by have := rowsOf_le l; omega)
  refine ⟨(frm l 174 (((rowsOf' l).2 : Int) + 1)).toNat, fun p hp => ?_⟩
  have hn := (nT_range l).2
  have e : (tableOf l).flash = if frm l 174 (((rowsOf' l).2 : Int) + 1) < ((rowsOf' l).2 : Int) then (flTo (rowsOf' l).2).set (frm l 174 (((rowsOf' l).2 : Int) + 1)).toNat 2 else flTo (rowsOf' l).2 := rfl
  have hnT : nT l = (rowsOf' l).2 := rfl
  rw [flAt, e, hnT]
  rw [hnT] at hn
  generalize (rowsOf' l).2 = n at *
  generalize frm l 174 ((n : Int) + 1) = q at *
  split
  · rename_i hq
    rw [List.getD_eq_getElem?_getD, List.getElem?_set]
    by_cases e2 : q.toNat = p
    · rw [if_pos e2, if_pos (by rw [flTo_len]; omega), if_pos ⟨by omega, e2.symm⟩]; rfl
    · have : ¬ (q.toNat < n ∧ p = q.toNat) := fun h => e2 h.2.symm
      rw [if_neg e2, ← List.getD_eq_getElem?_getD, flTo_at _ _ hn hp]
      simp only [this, if_false]
  · rename_i hq
    have : ¬ (q.toNat < n ∧ p = q.toNat) := by omega
    rw [flTo_at _ _ hn hp]
    simp only [this, if_false]
theorem con_can {t : Tb} {l : Option (List Int)} : ∀ p, ∀ x ∈ confTo t l p, Can x := by
  have step : ∀ (p q : Nat) (c : List Int), (∀ x ∈ c, Can x) → ∀ x ∈ confStep t l p q c, Can x := by
    intro p q c h x hx
    unfold confStep at hx
    split at hx
    · rcases List.mem_or_eq_of_mem_set hx with hx | rfl
      · rcases List.mem_or_eq_of_mem_set hx with hx | rfl
        · exact h x hx
        · exact can_withR _ _
      · exact can_withR _ _
    · exact h x hx
  have row : ∀ (p q : Nat) (c : List Int), (∀ x ∈ c, Can x) → ∀ x ∈ confRow t l p q c, Can x := by
    intro p q
    induction q with
    | zero => intro c h; exact h
    | succ q ih => intro c h; exact step p q _ (ih c h)
  intro p
  induction p with
  | zero =>
    intro x hx
    rw [confTo] at hx
    have := List.eq_of_mem_replicate hx
    subst this; exact ⟨by decide, by decide⟩
  | succ p ih => exact row p p _ ih
theorem can_wI {x : Int} (h : Can x) : wI 255 x = true := by
  simp only [wI, Bool.and_eq_true, decide_eq_true_eq]
  exact ⟨h.1, by have := h.2; omega⟩
theorem ph_may_good {x : Ph} (h : PhGood x) : mayPh x = true := by
  obtain ⟨a1, a2, a3, a4, a5, a6, a7, a8, a9, _⟩ := h
  simp only [mayPh, List.all_cons, List.all_nil, Bool.and_true, wI, Bool.and_eq_true, decide_eq_true_eq]
  omega
theorem ph_bad_good {x : Ph} (h : PhGood x) : phBad x = false := by
  obtain ⟨a1, a2, a3, a4, a5, a6, a7, a8, a9, _⟩ := h
  have hb : ∀ a b : Bool, (a != b) = false ↔ (a = true ↔ b = true) := by intro a b; cases a <;> cases b <;> simp
  simp only [phBad, Bool.or_eq_false_iff, Bool.and_eq_false_iff, decide_eq_false_iff_not, hb, beq_iff_eq, beq_eq_false_iff_ne, ne_eq]
  omega
structure DtGood (n : Nat) (d : Det) : Prop where
  phase : 0 ≤ d.phase ∧ d.phase < n
  may : lvl d.on = true ∧ lvl d.off = true ∧ secsOk d.delay = true ∧ secsOk d.extend = true
  most : 0 ≤ d.maxOn ∧ d.maxOn ≤ 80 ∧ 0 ≤ d.maxOff ∧ d.maxOff ≤ 360
  order : gtF d.off d.on = false
theorem dt_good (l : Option (List Int)) (i : Int) {n : Nat} (hn : 1 ≤ n) (h8 : n ≤ 8) : DtGood n (detectorOf l i n) := by
  have r0 := frm_range l i (n := (n : Int)) (by omega) (by omega)
  have r1 := frm_range l (w64 (i + 1)) (n := 4) (by decide) (by decide)
  have r2 := frm_range l (w64 (i + 2)) (n := 3) (by decide) (by decide)
  have r3 := frm_range l (w64 (i + 3)) (n := 4) (by decide) (by decide)
  have r4 := frm_range l (w64 (i + 4)) (n := 6) (by decide) (by decide)
  have r6 := frm_range l (w64 (i + 6)) (n := 60) (by decide) (by decide)
  have r7 := frm_range l (w64 (i + 7)) (n := 300) (by decide) (by decide)
  obtain ⟨a, ha⟩ : ∃ m : Nat, frm l (w64 (i + 1)) 4 = m := ⟨(frm l (w64 (i + 1)) 4).toNat, by omega⟩
  obtain ⟨b, hb⟩ : ∃ m : Nat, frm l (w64 (i + 2)) 3 = m := ⟨(frm l (w64 (i + 2)) 3).toNat, by omega⟩
  obtain ⟨c, hc⟩ : ∃ m : Nat, frm l (w64 (i + 3)) 4 = m := ⟨(frm l (w64 (i + 3)) 4).toNat, by omega⟩
  obtain ⟨d, hd⟩ : ∃ m : Nat, frm l (w64 (i + 4)) 6 = m := ⟨(frm l (w64 (i + 4)) 6).toNat, by omega⟩
  have k1 : ∀ a : Nat, a < 4 → lvl (detOn a) = true := by decide +kernel
  have k2 : ∀ a : Nat, a < 4 → ∀ b : Nat, b < 3 → lvl (detOff a b) = true ∧ gtF (detOff a b) (detOn a) = false := by decide +kernel
  have k3 : ∀ c : Nat, c < 6 → secsOk (tenth c) = true := by decide +kernel
  have e6 := w64_id (n := 20 + frm l (w64 (i + 6)) 60) (by omega) (by omega)
  have e7 := w64_id (n := 60 + frm l (w64 (i + 7)) 300) (by omega) (by omega)
  refine ⟨r0, ⟨?_, ?_, ?_, ?_⟩, ?_, ?_⟩
  · show lvl (detOn _) = true; rw [ha]; exact k1 a (by omega)
  · show lvl (detOff _ _) = true; rw [ha, hb]; exact (k2 a (by omega) b (by omega)).1
  · show secsOk (tenth _) = true; rw [hc]; exact k3 c (by omega)
  · show secsOk (tenth _) = true; rw [hd]; exact k3 d (by omega)
  · simp only [detectorOf, e6, e7]
    split <;> split <;> omega
  · show gtF (detOff _ _) (detOn _) = false; rw [ha, hb]; exact (k2 a (by omega) b (by omega)).2
theorem tDets (l : Option (List Int)) : ((tableOf l).detectors.getD []).length ≤ 8 ∧ ∀ d ∈ (tableOf l).detectors.getD [], DtGood (nT l) d := by
  have e : (tableOf l).detectors = mkO (detTo l (rowsOf' l).2 (frm l 175 9) (frm l 175 9).toNat) := rfl
  have r := frm_range l 175 (n := 9) (by decide) (by decide)
  rw [e, mkO_getD]
  refine ⟨by rw [detTo_len]; omega, fun d hd => ?_⟩
  rw [detTo, List.mem_map] at hd
  obtain ⟨k, _, rfl⟩ := hd
  exact dt_good _ _ (nT_range l).1 (nT_range l).2
theorem tb_one {p : Nat} (hp : p < 8) (i : Nat) : tb (ofI [(p : Int)]) i = decide (i = p) := by
  rw [tb_of]
  by_cases h : i = p
  · subst h; simp [hp]
  · have : ¬ (i : Int) = (p : Int) := by omega
    simp [h, this]
theorem tb_withT (t : Tb) {p q : Nat} (hp : p < 8) (hq : q < 8) (i : Nat) : tb (withT t p q) i = (decide (i = p) || (besideR t p q && decide (i = q))) := by
  unfold withT
  cases besideR t p q
  · rw [if_neg (by simp), tb_one hp]; simp
  · rw [if_pos rfl, tb_withR hq, tb_one hp]
    by_cases h8 : i < 8
    · simp [h8]
    · have h1 : ¬ i = p := by omega
      have h2 : ¬ i = q := by omega
      simp [h8, h1, h2]
theorem can_withT (t : Tb) (p q : Int) : Can (withT t p q) := by
  unfold withT; split
  · exact can_withR _ _
  · exact can_of' _
theorem mask_tb : ∀ n : Nat, n < 9 → 1 ≤ n → ∀ i : Nat, i < 64 → tb (w64 (w64 (1 * 2 ^ min (IntKind.u64.wrap (n : Int)).toNat 64) - 1)) i = decide (i < n) := by decide +kernel
def Tog (t : Tb) (n : Nat) (s : Int) : Prop := Can s ∧ (∀ i, i < 8 → tb s i = true → i < n) ∧ ∀ i j, i < 8 → j < 8 → tb s i = true → tb s j = true → i ≠ j → besideR t i j = true
theorem tog_with {t t' : Tb} (hg : t.groups = t'.groups) {n p q : Nat} (h8 : n ≤ 8) (hp : p < n) (hq : q < n) : Tog t n (withT t' p q) ∧ withT t' p q ≠ 0 := by
  have hb := beside_congr hg
  refine ⟨⟨can_withT _ _ _, fun i hi h => ?_, fun i j hi hj h1 h2 hne => ?_⟩, fun e => ?_⟩
  · rw [tb_withT t' (by omega) (by omega)] at h
    simp only [Bool.or_eq_true, Bool.and_eq_true, decide_eq_true_eq] at h
    omega
  · rw [tb_withT t' (by omega) (by omega)] at h1 h2
    simp only [Bool.or_eq_true, Bool.and_eq_true, decide_eq_true_eq] at h1 h2
    rw [hb]
    rcases h1 with rfl | ⟨hb1, rfl⟩
    · rcases h2 with rfl | ⟨hb2, rfl⟩
      · exact absurd rfl hne
      · exact hb2
    · rcases h2 with rfl | ⟨hb2, rfl⟩
      · rw [beside_sym]; exact hb1
      · exact absurd rfl hne
  · have := tb_withT t' (p := p) (q := q) (by omega) (by omega) p
    rw [e, tb_zero] at this; simp at this
theorem tog_zero (t : Tb) (n : Nat) : Tog t n 0 := ⟨⟨by decide, by decide⟩, (fun i _ h => by rw [tb_zero] at h; cases h), (fun i j _ _ h => by rw [tb_zero] at h; cases h)⟩
theorem tog_clash {l : Option (List Int)} {s : Int} (h : Tog (tableOf l) (nT l) s) : clashesE (tableOf l) s = false ∧ apartE (tableOf l) s = false := by
  constructor
  · rw [clashesE, List.any_eq_false]
    intro p hp
    rw [Bool.not_eq_true, List.any_eq_false]
    intro q hq
    have p8 := setN_lt hp
    have q8 := setN_lt hq
    by_cases e : p = q
    · subst e; simp
    · have hb := h.2.2 p q p8 q8 (setN_tb hp) (setN_tb hq) e
      have h1 : tb (conAt (tableOf l) p) q = false := by
        cases hc : tb (conAt (tableOf l) p) q
        · rfl
        · have := (table_con l p8 q8 hc).2; rw [hb] at this; cases this
      have h2 : tb (conAt (tableOf l) q) p = false := by rw [← table_sym l p8 q8]; exact h1
      rw [clT, h1, h2]; simp
  · rw [apartE, List.any_eq_false]
    intro p hp
    rw [Bool.not_eq_true, List.any_eq_false]
    intro q hq
    by_cases e : p = q
    · subst e; simp
    · rw [h.2.2 p q (setN_lt hp) (setN_lt hq) (setN_tb hp) (setN_tb hq) e]; simp
structure RlGood (t : Tb) (n : Nat) (r : Rl) : Prop where
  bars : Can r.bars ∧ ∀ i, i < 64 → tb r.bars i = true → i < n ∧ tb r.dwell i = false
  clear : Tog t n r.clear
  dwell : Tog t n r.dwell ∧ r.dwell ≠ 0
  exit : Tog t n r.exit ∧ r.exit ≠ 0
  hold : (1 ≤ r.hold ∧ r.hold ≤ 10 ∧ r.clear ≠ 0) ∨ (r.hold = 0 ∧ r.clear = 0)
  nums : 0 ≤ r.delay ∧ r.delay ≤ 3 ∧ 1 ≤ r.green ∧ r.green ≤ 6 ∧ 0 ≤ r.foot ∧ r.foot ≤ 5 ∧ 1 ≤ r.stay ∧ r.stay ≤ 15
  most : r.most = 0 ∨ (r.stay ≤ r.most ∧ r.most ≤ 44)
  limit : r.delay < r.limit ∧ r.limit ≤ 10004
theorem rl_good {t t' : Tb} (hg : t.groups = t'.groups) (l : Option (List Int)) (i : Int) {n : Nat} (hn : 1 ≤ n) (h8 : n ≤ 8) : RlGood t n (railOf t' l i n) := by
  have nat : ∀ j : Int, ∃ m : Nat, frm l j (n : Int) = m ∧ m < n := fun j => by
    have := frm_range l j (n := (n : Int)) (by omega) (by omega)
    exact ⟨(frm l j n).toNat, by omega, by omega⟩
  obtain ⟨a0, e0, k0⟩ := nat i
  obtain ⟨a1, e1, k1⟩ := nat (w64 (i + 1))
  obtain ⟨a2, e2, k2⟩ := nat (w64 (i + 2))
  obtain ⟨a3, e3, k3⟩ := nat (w64 (i + 3))
  obtain ⟨a5, e5, k5⟩ := nat (w64 (i + 5))
  have en : w64 ((n : Int) + 1) = (n : Int) + 1 := w64_id (by omega) (by omega)
  have r4 := frm_range l (w64 (i + 4)) (n := (n : Int) + 1) (by omega) (by omega)
  have r6 := frm_range l (w64 (i + 6)) (n := 10) (by decide) (by decide)
  have r7 := frm_range l (w64 (i + 7)) (n := 256) (by decide) (by decide)
  have r8 := frm_range l (w64 (i + 8)) (n := 4) (by decide) (by decide)
  have r9 := frm_range l (w64 (i + 9)) (n := 6) (by decide) (by decide)
  have ra := frm_range l (w64 (i + 10)) (n := 6) (by decide) (by decide)
  have rb := frm_range l (w64 (i + 11)) (n := 15) (by decide) (by decide)
  have rd := frm_range l (w64 (i + 13)) (n := 30) (by decide) (by decide)
  have re := frm_range l (w64 (i + 14)) (n := 3) (by decide) (by decide)
  have w6 := w64_id (n := 1 + frm l (w64 (i + 6)) 10) (by omega) (by omega)
  have w9 := w64_id (n := 1 + frm l (w64 (i + 9)) 6) (by omega) (by omega)
  have wb := w64_id (n := 1 + frm l (w64 (i + 11)) 15) (by omega) (by omega)
  have wd := w64_id (n := 1 + frm l (w64 (i + 11)) 15 + frm l (w64 (i + 13)) 30) (by omega) (by omega)
  have w8 := w64_id (n := frm l (w64 (i + 8)) 4 + 1) (by omega) (by omega)
  have hlim : ∃ v : Int, [10000, 400, 20].getD (frm l (w64 (i + 14)) 3).toNat 0 = v ∧ 20 ≤ v ∧ v ≤ 10000 := by
    have : (frm l (w64 (i + 14)) 3).toNat = 0 ∨ (frm l (w64 (i + 14)) 3).toNat = 1 ∨ (frm l (w64 (i + 14)) 3).toNat = 2 := by omega
    rcases this with h | h | h <;> rw [h]
    · exact ⟨10000, rfl, by decide, by decide⟩
    · exact ⟨400, rfl, by decide, by decide⟩
    · exact ⟨20, rfl, by decide, by decide⟩
  obtain ⟨v, hv, v1, v2⟩ := hlim
  have wl := w64_id (n := frm l (w64 (i + 8)) 4 + 1 + v) (by omega) (by omega)
  have td := tog_with hg h8 k0 k1
  have te := tog_with hg h8 k2 k3
  refine ⟨?_, ?_, ?_, ?_, ?_, ?_, ?_, ?_⟩ <;> simp only [railOf, e0, e1, e2, e3, e5, en, w6, w9, wb, wd, w8, hv, wl]
  · have hbits : ∀ j, j < 64 → tb (bAndNot .i64 (bAnd .i64 (frm l (w64 (i + 7)) 256) (w64 (w64 (1 * 2 ^ min (IntKind.u64.wrap (n : Int)).toNat 64) - 1))) (withT t' a0 a1)) j = true → j < n ∧ tb (withT t' a0 a1) j = false := by
      intro j hj h
      rw [tb_andNot _ _ _ hj, tb_and, mask_tb n (by omega) hn j hj] at h
      simp only [Bool.and_eq_true, Bool.not_eq_true', decide_eq_true_eq] at h
      exact ⟨h.1.2, h.2⟩
    refine ⟨?_, hbits⟩
    have e : bAndNot .i64 (bAnd .i64 (frm l (w64 (i + 7)) 256) (w64 (w64 (1 * 2 ^ min (IntKind.u64.wrap (n : Int)).toNat 64) - 1))) (withT t' a0 a1) = IntKind.i64.wrap ((bv (bAnd .i64 (frm l (w64 (i + 7)) 256) (w64 (w64 (1 * 2 ^ min (IntKind.u64.wrap (n : Int)).toNat 64) - 1))) &&& ~~~ bv (withT t' a0 a1)).toNat : Int) := rfl
    rw [e]
    refine can_bits fun j h1 h2 => ?_
    have h3 := tb_andNot (bAnd .i64 (frm l (w64 (i + 7)) 256) (w64 (w64 (1 * 2 ^ min (IntKind.u64.wrap (n : Int)).toNat 64) - 1))) (withT t' a0 a1) j h2
    have h4 := mask_tb n (by omega) hn j h2
    have h5 : ¬ j < n := by omega
    have h6 := tb_and (frm l (w64 (i + 7)) 256) (w64 (w64 (1 * 2 ^ min (IntKind.u64.wrap (n : Int)).toNat 64) - 1)) j
    rw [h4] at h6
    simp only [h5, decide_false, Bool.and_false] at h6
    simp only [tb] at h6
    rw [BitVec.getLsbD_and, h6]; rfl
  · split
    · rename_i hp
      obtain ⟨p, hpn⟩ : ∃ p : Nat, frm l (w64 (i + 4)) ((n : Int) + 1) = p := ⟨(frm l (w64 (i + 4)) ((n : Int) + 1)).toNat, by omega⟩
      rw [hpn] at hp ⊢
      exact (tog_with hg h8 (by omega) k5).1
    · exact tog_zero _ _
  · exact td
  · exact te
  · split
    · rename_i hp
      obtain ⟨p, hpn⟩ : ∃ p : Nat, frm l (w64 (i + 4)) ((n : Int) + 1) = p := ⟨(frm l (w64 (i + 4)) ((n : Int) + 1)).toNat, by omega⟩
      rw [hpn] at hp ⊢
      exact .inl ⟨by omega, by omega, (tog_with hg h8 (by omega) k5).2⟩
    · exact .inr ⟨rfl, rfl⟩
  · omega
  · split
    · right; omega
    · left; rfl
  · omega
theorem tRails (l : Option (List Int)) : ((tableOf l).rails.getD []).length ≤ 2 ∧ ∀ r ∈ (tableOf l).rails.getD [], RlGood (tableOf l) (nT l) r := by
  have e : (tableOf l).rails = mkO (railTo { Tb0 with groups := some (rowsOf' l).1 } l (rowsOf' l).2 ((frm l 176 4).tmod 3) ((frm l 176 4).tmod 3).toNat) := rfl
  have h := Int.tmod_lt_of_pos (frm l 176 4) (b := 3) (by decide)
  rw [e, mkO_getD]
  refine ⟨by rw [railTo_len]; omega, fun d hd => ?_⟩
  rw [railTo, List.mem_map] at hd
  obtain ⟨k, _, rfl⟩ := hd
  exact rl_good rfl _ _ (nT_range l).1 (nT_range l).2
theorem tBuses (l : Option (List Int)) : ((tableOf l).buses.getD []).length ≤ 2 ∧ ∀ b ∈ (tableOf l).buses.getD [], (Can b.set ∧ b.set ≠ 0 ∧ ∀ i, i < 64 → tb b.set i = true → i < nT l) ∧ 1 ≤ b.lock ∧ b.lock ≤ 30 := by
  have e : (tableOf l).buses = mkO (busTo l (rowsOf' l).2 (frm l 177 3) (frm l 177 3).toNat) := rfl
  have r := frm_range l 177 (n := 3) (by decide) (by decide)
  rw [e, mkO_getD]
  refine ⟨by rw [busTo_len]; omega, fun b hb => ?_⟩
  rw [busTo, List.mem_map] at hb
  obtain ⟨k, _, rfl⟩ := hb
  have hnT : nT l = (rowsOf' l).2 := rfl
  have hn := nT_range l
  rw [hnT] at hn ⊢
  generalize (rowsOf' l).2 = n at *
  generalize frm l 177 3 - (k : Int) = i
  have r1 := frm_range l (331 + 2 * i) (n := 30) (by decide) (by decide)
  have w1 := w64_id (n := 1 + frm l (331 + 2 * i) 30) (by omega) (by omega)
  have r0 := frm_range l (330 + 2 * i) (n := 256) (by decide) (by decide)
  generalize hx : bAnd .i64 (frm l (330 + 2 * i) 256) (w64 (w64 (1 * 2 ^ min (IntKind.u64.wrap (n : Int)).toNat 64) - 1)) = x
  have hbits : ∀ j, j < 64 → tb x j = true → j < n := by
    intro j hj h
    rw [← hx, tb_and, mask_tb n (by omega) hn.1 j hj] at h
    simp only [Bool.and_eq_true, decide_eq_true_eq] at h
    exact h.2
  have hcan : Can x := by
    have e : x = IntKind.i64.wrap ((bv (frm l (330 + 2 * i) 256) &&& bv (w64 (w64 (1 * 2 ^ min (IntKind.u64.wrap (n : Int)).toNat 64) - 1))).toNat : Int) := hx.symm
    rw [e]
    refine can_bits fun j h1 h2 => ?_
    have h4 := mask_tb n (by omega) hn.1 j h2
    have h5 : ¬ j < n := by omega
    simp only [h5, decide_false, tb] at h4
    rw [BitVec.getLsbD_and, h4, Bool.and_false]
  refine ⟨?_, ?_⟩
  · simp only [busOf, hx]
    split
    · exact ⟨hcan, by omega, hbits⟩
    · refine ⟨⟨by decide, by decide⟩, by decide, fun j hj h => ?_⟩
      have : ∀ j, j < 64 → tb 1 j = decide (j = 0) := by decide +kernel
      rw [this j hj] at h
      have := of_decide_eq_true h; omega
  · simp only [busOf, w1]; omega
theorem t_may (l : Option (List Int)) : mayT (tableOf l) = true := by
  have hln := (tableOf_ok l).ln
  have hG := groupsN_le l
  obtain ⟨d1, d2⟩ := tDets l
  obtain ⟨r1, r2⟩ := tRails l
  obtain ⟨b1, b2⟩ := tBuses l
  have hn := nT_range l
  have m1 : (tableOf l).phases.all mayPh = true := by
    rw [List.all_eq_true]
    intro x hx
    obtain ⟨i, hi⟩ := List.mem_iff_getElem?.1 hx
    have h8 : i < 8 := by have := (List.getElem?_eq_some_iff.1 hi).1; rw [hln.phases] at this; exact this
    have e := hln.ph_get h8
    rw [hi] at e
    have e := Option.some.inj e
    rw [e, tph l h8]
    split
    · exact ph_may_good (ph_good _ _)
    · decide
  have m2 : (decide ((((tableOf l).groups.getD []).length : Int) ≤ 4) && ((tableOf l).groups.getD []).all mayGr) = true := by
    have e : (tableOf l).groups.getD [] = (rowsTo l (groupsN l) (groupsN l)).1 := rfl
    have h1 : (((rowsTo l (groupsN l) (groupsN l)).1).length : Int) ≤ 4 := by rw [rowsTo_len]; omega
    rw [e, Bool.and_eq_true, decide_eq_true_eq]
    refine ⟨h1, List.all_eq_true.2 fun g hg => ?_⟩
    have hs := rowsTo_small l (groupsN l) (groupsN l) g hg
    have he := rows_elems l (groupsN l) (by omega) (groupsN l) (Nat.le_refl _) g hg
    have hw : ∀ x ∈ g.a.getD [] ++ g.b.getD [], wI 7 x = true := fun x hx => by
      have := he x hx
      simp only [wI, Bool.and_eq_true, decide_eq_true_eq]; omega
    simp only [mayGr, mayRow, Bool.and_eq_true, decide_eq_true_eq, List.all_eq_true, List.all_cons, List.all_nil, Bool.and_true]
    exact ⟨⟨by omega, fun x hx => hw x (List.mem_append_left _ hx)⟩, by omega, fun x hx => hw x (List.mem_append_right _ hx)⟩
  have m3 : (tableOf l).conflict.all (wI 255) = true := List.all_eq_true.2 fun x hx => can_wI (con_can _ x hx)
  have m4 : (decide ((((tableOf l).detectors.getD []).length : Int) ≤ 16) && ((tableOf l).detectors.getD []).all mayDet) = true := by
    rw [Bool.and_eq_true, decide_eq_true_eq]
    refine ⟨by omega, List.all_eq_true.2 fun d hd => ?_⟩
    obtain ⟨g1, ⟨g2, g3, g4, g5⟩, g6, _⟩ := d2 d hd
    simp only [mayDet, g2, g3, g4, g5, List.all_cons, List.all_nil, Bool.and_true, Bool.true_and, wI, Bool.and_eq_true, decide_eq_true_eq]
    omega
  have m5 : (decide ((((tableOf l).rails.getD []).length : Int) ≤ 4) && ((tableOf l).rails.getD []).all mayRl) = true := by
    rw [Bool.and_eq_true, decide_eq_true_eq]
    refine ⟨by omega, List.all_eq_true.2 fun d hd => ?_⟩
    obtain ⟨g1, g2, g3, g4, g5, g6, g7, g8⟩ := r2 d hd
    have k1 := can_wI g1.1
    have k2 := can_wI g2.1
    have k3 := can_wI g3.1.1
    have k4 := can_wI g4.1.1
    simp only [mayRl, k1, k2, k3, k4, List.all_cons, List.all_nil, Bool.and_true, Bool.true_and]
    simp only [wI, Bool.and_eq_true, decide_eq_true_eq]
    omega
  have m6 : (decide ((((tableOf l).buses.getD []).length : Int) ≤ 4) && ((tableOf l).buses.getD []).all mayBs) = true := by
    rw [Bool.and_eq_true, decide_eq_true_eq]
    refine ⟨by omega, List.all_eq_true.2 fun d hd => ?_⟩
    obtain ⟨⟨g1, _⟩, g2⟩ := b2 d hd
    have k1 := can_wI g1
    simp only [mayBs, k1, List.all_cons, List.all_nil, Bool.and_true, Bool.true_and]
    simp only [wI, Bool.and_eq_true, decide_eq_true_eq]
    omega
  have m7 : [(tableOf l).extend, (tableOf l).budget, (tableOf l).start, (tableOf l).revert, (tableOf l).least].all (wI 9999) = true := by
    have q1 := frm_range l 178 (n := 12) (by decide) (by decide)
    have q2 := frm_range l 179 (n := 40) (by decide) (by decide)
    have q3 := frm_range l 180 (n := 8) (by decide) (by decide)
    have q4 := frm_range l 181 (n := 8) (by decide) (by decide)
    have q5 := frm_range l 182 (n := 12) (by decide) (by decide)
    have f1 : (tableOf l).extend = frm l 178 12 := rfl
    have f2 : (tableOf l).budget = frm l 179 40 := rfl
    have f3 : (tableOf l).start = frm l 180 8 := rfl
    have f4 : (tableOf l).revert = frm l 181 8 := rfl
    have f5 : (tableOf l).least = frm l 182 12 := rfl
    rw [f1, f2, f3, f4, f5]
    simp only [List.all_cons, List.all_nil, Bool.and_true, wI, Bool.and_eq_true, decide_eq_true_eq]
    omega
  have m8 : (tableOf l).flash.all (wI 2) = true := by
    obtain ⟨q, hq⟩ := tfl' l
    rw [List.all_eq_true]
    intro x hx
    obtain ⟨i, hi⟩ := List.mem_iff_getElem?.1 hx
    have h8 : i < 8 := by have := (List.getElem?_eq_some_iff.1 hi).1; rw [hln.flash] at this; exact this
    have e : flAt (tableOf l) i = x := by rw [flAt, List.getD_eq_getElem?_getD, hi]; rfl
    rw [← e, hq i h8]
    split
    · decide
    · split <;> decide
  have m9 : [(tableOf l).window, (tableOf l).share].all (wI 2147483647) = true := by
    have q1 := frm_range l 183 (n := 4) (by decide) (by decide)
    have f1 : (tableOf l).share = frm l 183 4 := rfl
    have f2 : 0 ≤ (tableOf l).window ∧ (tableOf l).window ≤ 2147483647 := by
      have e : (tableOf l).window = if (railTo { Tb0 with groups := some (rowsOf' l).1 } l (rowsOf' l).2 ((frm l 176 4).tmod 3) ((frm l 176 4).tmod 3).toNat) = [] then 0 else winTo (tabPre l) (rowsOf' l).2 := rfl
      rw [e]; split
      · exact ⟨by decide, by decide⟩
      · exact winTo_range _ _
    rw [f1]
    simp only [List.all_cons, List.all_nil, Bool.and_true, wI, Bool.and_eq_true, decide_eq_true_eq]
    omega
  rw [mayT, m1, m2, m3, m4, m5, m6, m7, m8, m9]; rfl
theorem table_good (l : Option (List Int)) : checkE (tableOf l) = (0, 0) := by
  obtain ⟨d1, d2⟩ := tDets l
  obtain ⟨r1, r2⟩ := tRails l
  obtain ⟨b1, b2⟩ := tBuses l
  have hn := nT_range l
  have hon : ∀ p, p ∈ setN (onI (tableOf l)) → p < nT l := fun p hp => by
    have := setN_tb hp; rw [tOn_tb] at this; exact of_decide_eq_true this
  rw [checkE, if_pos (t_may l)]
  have f1 : (firstN 7 8 fun p => tb (onI (tableOf l)) p && phBad (phAt (tableOf l) p)) = (0, 0) := firstS_none (List.any_eq_false.2 fun p hp => by
    rw [tph l (setN_lt hp), if_pos (hon p hp), ph_bad_good (ph_good _ _)]; simp)
  have f2 := table_ring l
  have f3 : (firstN 9 8 fun p => tb (onI (tableOf l)) p && confBad (tableOf l) (onI (tableOf l)) p) = (0, 0) := firstS_none (List.any_eq_false.2 fun p hp => by
    rw [conf_good l _ (setN_lt hp)]; simp)
  have f4 : (firstN 10 ((tableOf l).detectors.getD []).length fun k => detBad (onI (tableOf l)) (dtAt (tableOf l) k)) = (0, 0) := first_none (fun k hk => by
    have hg := d2 _ (List.getElem_mem hk)
    have e : dtAt (tableOf l) k = ((tableOf l).detectors.getD [])[k] := by rw [dtAt, List.getD_eq_getElem?_getD, List.getElem?_eq_getElem hk]; rfl
    rw [e]
    generalize ((tableOf l).detectors.getD [])[k] = d at hg
    obtain ⟨m, hm⟩ : ∃ m : Nat, d.phase = m := ⟨d.phase.toNat, by have := hg.phase; omega⟩
    have := hg.phase
    rw [detBad, hg.order, hm, hasS_tb (by omega), tOn_tb]
    simp; omega) _
  have f5 : (firstN 11 ((tableOf l).rails.getD []).length fun k => railBad (tableOf l) (onI (tableOf l)) (rlN (tableOf l) k)) = (0, 0) := first_none (fun k hk => by
    have hg := r2 _ (List.getElem_mem hk)
    have e : rlN (tableOf l) k = ((tableOf l).rails.getD [])[k] := by rw [rlN, List.getD_eq_getElem?_getD, List.getElem?_eq_getElem hk]; rfl
    rw [e]
    generalize ((tableOf l).rails.getD [])[k] = r at hg
    obtain ⟨g1, g2, g3, g4, g5, g6, g7, g8⟩ := hg
    have c1 := tog_clash g2
    have c2 := tog_clash g3.1
    have c3 := tog_clash g4.1
    have hin : (bAndNot .i64 (bOr .i64 (bOr .i64 (bOr .i64 r.bars r.clear) r.dwell) r.exit) (onI (tableOf l)) != 0) = false := by
      rw [bne_eq_false_iff_eq, andNot_zero]
      intro i hi
      rw [tb_or, tb_or, tb_or, tOn_tb]
      by_cases h : i < nT l
      · simp [h]
      · have x1 : tb r.bars i = false := by
          cases hb : tb r.bars i
          · rfl
          · exact absurd (g1.2 i hi hb).1 h
        have x2 : ∀ s, Tog (tableOf l) (nT l) s → tb s i = false := fun s hs => by
          rcases Nat.lt_or_ge i 8 with h8 | h8
          · cases hb : tb s i
            · rfl
            · exact absurd (hs.2.1 i h8 hb) h
          · exact can_high hs.1 h8 hi
        rw [x1, x2 _ g2, x2 _ g3.1, x2 _ g4.1]; rfl
    have hdb : (bAnd .i64 r.dwell r.bars != 0) = false := by
      rw [bne_eq_false_iff_eq, and_zero]
      intro i hi
      cases hb : tb r.bars i
      · simp
      · rw [(g1.2 i hi hb).2]; rfl
    have e1 : (r.dwell == 0) = false := by simpa using g3.2
    have e2 : (r.exit == 0) = false := by simpa using g4.2
    rw [railBad, hin, hdb, c1.1, c2.1, c3.1, c3.2, e1, e2]
    have hb : ∀ a b : Bool, (a != b) = false ↔ (a = true ↔ b = true) := by intro a b; cases a <;> cases b <;> simp
    simp only [Bool.false_or, Bool.or_eq_false_iff, Bool.and_eq_false_iff, decide_eq_false_iff_not, hb, decide_eq_true_eq, bne_iff_ne, ne_eq]
    rcases g5 with g5 | g5
    · simp only [g5.2.2, not_false_eq_true, iff_true]; omega
    · simp only [g5.2, not_true_eq_false, iff_false]; omega) _
  have f6 : (firstN 12 ((tableOf l).buses.getD []).length fun k => busBad (onI (tableOf l)) (bsN (tableOf l) k)) = (0, 0) := first_none (fun k hk => by
    have hg := b2 _ (List.getElem_mem hk)
    have e : bsN (tableOf l) k = ((tableOf l).buses.getD [])[k] := by rw [bsN, List.getD_eq_getElem?_getD, List.getElem?_eq_getElem hk]; rfl
    rw [e]
    generalize ((tableOf l).buses.getD [])[k] = b at hg
    obtain ⟨⟨g1, g2, g3⟩, g4, g5⟩ := hg
    have hin : (bAndNot .i64 b.set (onI (tableOf l)) != 0) = false := by
      rw [bne_eq_false_iff_eq, andNot_zero]
      intro i hi
      rw [tOn_tb]
      cases hb : tb b.set i
      · simp
      · simp [g3 i hi hb]
    have e1 : (b.set == 0) = false := by simpa using g2
    rw [busBad, hin, e1]
    simp; omega) _
  have f7 : (firstN 13 8 fun p => tb (onI (tableOf l)) p && flBad (tableOf l) (onI (tableOf l)) p) = (0, 0) := firstS_none (List.any_eq_false.2 fun p hp => by
    obtain ⟨q, hq⟩ := tfl' l
    have h8 := setN_lt hp
    have hpn := hon p hp
    have e1 : (flAt (tableOf l) p == 0) = false := by
      rw [hq p h8]; split
      · rfl
      · first | rfl | (rw [if_pos hpn]; rfl)
    rw [flBad, e1, Bool.false_or, Bool.not_eq_true, List.any_eq_false]
    intro q' hq'
    have q8 := setN_lt hq'
    rw [flQ]
    intro h
    simp only [Bool.and_eq_true, bne_iff_ne, ne_eq, beq_iff_eq] at h
    have h1 := h.1.2
    have h2 := h.2
    rw [hq p h8] at h1
    rw [hq q' q8] at h2
    have hpq : p = q := by
      split at h1
      · rename_i hh; exact hh.2
      · first | omega | (split at h1 <;> omega)
    have hqq : q' = q := by
      split at h2
      · rename_i hh; exact hh.2
      · first | omega | (split at h2 <;> omega)
    exact h.1.1 (by omega))
  rw [rulesE, f1, f2, f3, f4, f5, f6, f7]
  rfl
def chkGood.Spec (C : Con) (f : Nat) : Prop := ∀ l : Option (List Int), C.c f [slAV intRow l] (B true) none
section
variable {P : Program} (hm : P.follows .mixedOrders = true) {f : Nat}
include hm
theorem chkGood.ok {fT fC fA : Nat} (hc : cFn P f = some (cc_law09_CheckGood fT fC fA)) (hT : Table.Spec (Pure P) fT) (hC : check9.Spec (Pure P) fC) (hA : awake09.Spec (Pure P) fA) : chkGood.Spec (Pure P) f := by
  intro l
  have c1 := hC (tableOf l) (tableOf_ok l) (table_fw l)
  rw [table_good] at c1
  have q2 : cellsEq [.i, .i] [AV.int .i64 0, AV.int .i64 0] [AV.int .i64 0, AV.int .i64 0] = some true := rfl
  refine pure_of hm hc (by show 1 ≤ 11; decide) (aw_flat (keep := []) (i := 0) ?_)
  try simp only [I, B, D, RX, ↓ KW, Nat.reduceBEq, Nat.reduceAdd, Nat.reduceLeDiff, Int.reduceNe, Int.reduceBEq, Int.reduceEq, reduceCtorEq, Nat.reduceMul, Int.reduceLT, Int.reduceLE, Int.reduceToNat, cc_law09_CheckGood, Z.H]
  refine call_is (hT l) ?_
  try simp only [I, B, D, RX, ↓ KW, Nat.reduceBEq, Nat.reduceAdd, Nat.reduceLeDiff, Int.reduceNe, Int.reduceBEq, Int.reduceEq, reduceCtorEq, Nat.reduceMul, Int.reduceLT, Int.reduceLE, Int.reduceToNat]
  refine call_is c1 ?_
  try simp only [I, B, D, RX, ↓ KW, Nat.reduceBEq, Nat.reduceAdd, Nat.reduceLeDiff, Int.reduceNe, Int.reduceBEq, Int.reduceEq, reduceCtorEq, Nat.reduceMul, Int.reduceLT, Int.reduceLE, Int.reduceToNat, fltC, q2, BNW]
  refine call_is hA ?_
  try simp only [I, B, D, RX, ↓ KW, Nat.reduceBEq, Nat.reduceAdd, Nat.reduceLeDiff, Int.reduceNe, Int.reduceBEq, Int.reduceEq, reduceCtorEq, Nat.reduceMul, Int.reduceLT, Int.reduceLE, Int.reduceToNat]
end
end Go.Eng
