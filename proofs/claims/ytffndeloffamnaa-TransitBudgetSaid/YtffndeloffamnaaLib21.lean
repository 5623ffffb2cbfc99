/- LIBRARY, PART 21: the budget of a round (transit). -/
import Derived.Test.YtffndeloffamnaaLib20
namespace Go.Eng
set_option linter.unnecessarySimpa false
open Go
set_option linter.unusedVariables false
set_option linter.unusedSimpArgs false
set_option maxRecDepth 10000
set_option maxHeartbeats 4000000
def gRn (r : Rn) : Rn := { r with colour := 1 }
theorem runs_set {l : List Rn} {k : Nat} (h : l.length = 8) (hk : k < 8) : setCells (runsC l) (k * 12) [AV.int .i64 1] = runsC (l.set k (gRn (l.getD k default))) := by
  have hget : l[k]? = some (l.getD k default) := by
    have : k < l.length := by omega
    simp [this]
  have hl : k < l.length := by omega
  obtain ⟨A, r, B, rfl, rfl⟩ : ∃ A r B, l = A ++ r :: B ∧ k = A.length := ⟨l.take k, l[k], l.drop (k + 1), by simp, by simp; omega⟩
  have e : (A.flatMap Rn.cells).length = A.length * 12 := flatMap_len Rn.len
  have hr : (A ++ r :: B).getD A.length default = r := by simp
  have hs : (A ++ r :: B).set A.length (gRn r) = A ++ gRn r :: B := by simp
  rw [hr, hs]
  simp only [runsC, List.flatMap_append, List.flatMap_cons, setCells]
  rw [List.take_append_of_le_length (by omega), List.drop_append, List.drop_eq_nil_of_le (by omega)]
  simp only [e, List.length_cons, List.length_nil, Nat.zero_add, List.nil_append, List.take_of_length_le (Nat.le_of_eq e)]
  rw [show A.length * 12 + 1 - A.length * 12 = 1 by omega]
  simp [Rn.cells, gRn, List.append_assoc]
theorem more_is {n : Int} (h0 : 0 ≤ n) (h1 : n ≤ 100) : moreI n = n + 1 := by
  simp only [moreI, show ¬ (0 > n) by omega, if_false, show ¬ (9999 < n) by omega]
  rw [w64, wrap_id (by omega) (by omega)]
theorem hold_spent {t : Tb} {s : Rd} {l : List Rn} {ask : Int} (h : holdR t s l ask ≠ 0) : s.spent < t.budget := by
  by_cases hh : s.spent ≥ t.budget
  · exact absurd (by simp [holdR, hh]) h
  · omega

section
variable {P : Program} (hm : P.follows .mixedOrders = true) {f : Nat}
include hm
theorem budget.ok {fT fA fh fH fS : Nat} (hc : cFn P f = some (cc_law20_TransitBudget fT fA fh fH fS)) (hT : Table.Spec (Pure P) fT) (hA : awake20.Spec (Pure P) fA) (hh : refHas.Spec (Pure P) fh) (hH : Hold.Spec (Pure P) fH) (hS : Step20.Spec (Pure P) fS) : budget.Spec (Pure P) f := by
  intro l asks greens
  have ht := tableOf_ok l
  have hbd := table_budget l
  generalize hTe : tableOf l = t at *
  have hw := ht.ln.whole
  have hl := ht.ln.len
  have hz : z131_45020.length = 131 := rfl
  have hsz : setCells z131_45020 0 t.cells = t.cells := set_all (by rw [hl, hz])
  have hz96 : z96_20145 = runsC rn0 := rfl
  refine pure_of hm hc (by show 3 ≤ 89; decide) (aw_flat (keep := []) (i := 0) ?_)
  try simp only [I, B, D, RW, ↓ KW, fillA, setCells, stTags, flat, Nat.reduceBEq, Nat.reduceAdd, Nat.reduceLeDiff, Int.reduceNe, Int.reduceBEq, Int.reduceEq, reduceCtorEq, Nat.reduceMul, Int.reduceLT, Int.reduceLE, Int.reduceToNat, cc_law20_TransitBudget]
  refine call_is (hT l) ?_
  rw [hTe]
  try simp only [I, B, D, RW, ↓ KW, fillA, stTags, flat, Nat.reduceBEq, Nat.reduceAdd, Nat.reduceLeDiff, Int.reduceNe, Int.reduceBEq, Int.reduceEq, reduceCtorEq, Nat.reduceMul, Int.reduceLT, Int.reduceLE, Int.reduceToNat, hl, hz, hsz, hw]
  refine gd_split (fun hlen => ?_) (fun hlen => ?_) <;> try simp only [I, B, D, RW, ↓ KW, fillA, stTags, flat, Nat.reduceBEq, Nat.reduceAdd, Nat.reduceLeDiff, Int.reduceNe, Int.reduceBEq, Int.reduceEq, reduceCtorEq, Nat.reduceMul, Int.reduceLT, Int.reduceLE, Int.reduceToNat, hlen]
  · refine call_is hA ?_
    try simp only [I, B, D, RW, ↓ KW, fillA, stTags, flat, Nat.reduceBEq, Nat.reduceAdd, Nat.reduceLeDiff, Int.reduceNe, Int.reduceBEq, Int.reduceEq, reduceCtorEq, Nat.reduceMul, Int.reduceLT, Int.reduceLE, Int.reduceToNat]
  refine cd_split (fun hne => ?_) (fun hne => ?_) <;> try simp only [I, B, D, RW, ↓ KW, fillA, stTags, flat, Nat.reduceBEq, Nat.reduceAdd, Nat.reduceLeDiff, Int.reduceNe, Int.reduceBEq, Int.reduceEq, reduceCtorEq, Nat.reduceMul, Int.reduceLT, Int.reduceLE, Int.reduceToNat, hne]
  · refine call_is hA ?_
    try simp only [I, B, D, RW, ↓ KW, fillA, stTags, flat, Nat.reduceBEq, Nat.reduceAdd, Nat.reduceLeDiff, Int.reduceNe, Int.reduceBEq, Int.reduceEq, reduceCtorEq, Nat.reduceMul, Int.reduceLT, Int.reduceLE, Int.reduceToNat]
  have hlen' : (asks.getD []).length ≤ 200 := by have := of_decide_eq_false hlen; omega
  have hne' : 0 < (greens.getD []).length := by
    have : ¬ ((greens.getD []).length : Int) = 0 := by simpa using hne
    omega
  have hbu : t.cells[117]? = some (AV.int .i64 t.budget) := Tb.budget_at ht
  refine aw_loop' (fun x : Nat × Rd => (⟨[(10, .dat (I x.1) none), (1, .dat (slAV intRow asks) none), (2, .dat (slAV intRow greens) none), (7, .ptr 7 0), (8, .ptr 17 0), (9, .dat (I x.2.spent) none)], [(7, ⟨t.cells, []⟩), (17, ⟨x.2.cells, []⟩)], [], 400⟩ : S)) (fun x => (asks.getD []).length - x.1) (fun x => x.1 ≤ (asks.getD []).length ∧ x.2.lock.length = 4 ∧ 0 ≤ x.2.spent ∧ x.2.spent ≤ 40) ?_ (0, rd0) ⟨by simp, rfl, by decide, by decide⟩ ?_
  · rintro ⟨i, s⟩ ⟨hi, h4, hs0, hs40⟩ A back
    simp only at hi h4 hs0 hs40
    have hwr := wrap_succ (k := i) (by omega)
    have hsw := Rd.whole h4
    try simp only [I, B, D, RW, ↓ KW, fillA, stTags, flat, Nat.reduceBEq, Nat.reduceAdd, Nat.reduceLeDiff, Int.reduceNe, Int.reduceBEq, Int.reduceEq, reduceCtorEq, Nat.reduceMul, Int.reduceLT, Int.reduceLE, Int.reduceToNat]
    refine cd_split (fun h => ?_) (fun h => ?_) <;> try simp only [I, B, D, RW, ↓ KW, fillA, stTags, flat, Nat.reduceBEq, Nat.reduceAdd, Nat.reduceLeDiff, Int.reduceNe, Int.reduceBEq, Int.reduceEq, reduceCtorEq, Nat.reduceMul, Int.reduceLT, Int.reduceLE, Int.reduceToNat, h]
    · have hlt : i < (asks.getD []).length := by have := of_decide_eq_true h; omega
      obtain ⟨ask, hask⟩ : ∃ x, (asks.getD [])[i]? = some x := ⟨_, List.getElem?_eq_getElem hlt⟩
      have hsp5 : s.cells[5]? = some (AV.int .i64 s.spent) := Rd.spent_at h4
      have hls := Rd.len h4
      refine aw_loop' (fun y : Nat × List Rn => (⟨[(12, .dat (I y.1) none), (11, .ptr 404 0), (10, .dat (I i) none), (1, .dat (slAV intRow asks) none), (2, .dat (slAV intRow greens) none), (7, .ptr 7 0), (8, .ptr 17 0), (9, .dat (I s.spent) none)], [(404, ⟨runsC y.2, []⟩), (7, ⟨t.cells, []⟩), (17, ⟨s.cells, []⟩)], [], 800⟩ : S)) (fun y => 8 - y.1) (fun y => y.1 ≤ 8 ∧ y.2.length = 8) ?_ (0, rn0) ⟨by simp, rfl⟩ ?_
      · rintro ⟨p, rs⟩ ⟨hp, h8⟩ A2 back2
        simp only at hp h8
        have hwp := wrap_succ (k := p) (by omega)
        try simp only [I, B, D, RW, ↓ KW, fillA, stTags, flat, Nat.reduceBEq, Nat.reduceAdd, Nat.reduceLeDiff, Int.reduceNe, Int.reduceBEq, Int.reduceEq, reduceCtorEq, Nat.reduceMul, Int.reduceLT, Int.reduceLE, Int.reduceToNat]
        refine cd_split (fun h2 => ?_) (fun h2 => ?_) <;> try simp only [I, B, D, RW, ↓ KW, fillA, stTags, flat, Nat.reduceBEq, Nat.reduceAdd, Nat.reduceLeDiff, Int.reduceNe, Int.reduceBEq, Int.reduceEq, reduceCtorEq, Nat.reduceMul, Int.reduceLT, Int.reduceLE, Int.reduceToNat, h2]
        · have hp8 : p < 8 := by have := of_decide_eq_true h2; omega
          have hm0 : (i : Int).tmod ((greens.getD []).length : Int) = ((i % (greens.getD []).length : Nat) : Int) := by
            rw [Int.tmod_eq_emod_of_nonneg (by omega)]; rfl
          have hml : i % (greens.getD []).length < (greens.getD []).length := Nat.mod_lt _ hne'
          obtain ⟨gr, hgr⟩ : ∃ x, (greens.getD [])[i % (greens.getD []).length]? = some x := ⟨_, List.getElem?_eq_getElem hml⟩
          have hrl := runsC_len h8
          have hrs := runs_set h8 hp8
          try simp only [I, B, D, RW, ↓ KW, fillA, stTags, flat, Nat.reduceBEq, Nat.reduceAdd, Nat.reduceLeDiff, Int.reduceNe, Int.reduceBEq, Int.reduceEq, reduceCtorEq, Nat.reduceMul, Int.reduceLT, Int.reduceLE, Int.reduceToNat, hm0, hgr, intRow]
          refine ⟨by omega, ⟨by omega, by omega⟩, ?_⟩
          try simp only [I, B, D, RW, ↓ KW, fillA, stTags, flat, Nat.reduceBEq, Nat.reduceAdd, Nat.reduceLeDiff, Int.reduceNe, Int.reduceBEq, Int.reduceEq, reduceCtorEq, Nat.reduceMul, Int.reduceLT, Int.reduceLE, Int.reduceToNat, hgr, intRow]
          refine call_is (hh gr p) ?_
          try simp only [I, B, D, RW, ↓ KW, fillA, stTags, flat, Nat.reduceBEq, Nat.reduceAdd, Nat.reduceLeDiff, Int.reduceNe, Int.reduceBEq, Int.reduceEq, reduceCtorEq, Nat.reduceMul, Int.reduceLT, Int.reduceLE, Int.reduceToNat]
          refine cd_split (fun h3 => ?_) (fun h3 => ?_) <;> try simp only [I, B, D, RW, ↓ KW, fillA, stTags, flat, Nat.reduceBEq, Nat.reduceAdd, Nat.reduceLeDiff, Int.reduceNe, Int.reduceBEq, Int.reduceEq, reduceCtorEq, Nat.reduceMul, Int.reduceLT, Int.reduceLE, Int.reduceToNat, h3]
          · try simp only [I, B, D, RW, ↓ KW, fillA, stTags, flat, Nat.reduceBEq, Nat.reduceAdd, Nat.reduceLeDiff, Int.reduceNe, Int.reduceBEq, Int.reduceEq, reduceCtorEq, Nat.reduceMul, Int.reduceLT, Int.reduceLE, Int.reduceToNat, hrl]
            refine ⟨by omega, by omega, ?_⟩
            try simp only [I, B, D, RW, ↓ KW, fillA, stTags, flat, Nat.reduceBEq, Nat.reduceAdd, Nat.reduceLeDiff, Int.reduceNe, Int.reduceBEq, Int.reduceEq, reduceCtorEq, Nat.reduceMul, Int.reduceLT, Int.reduceLE, Int.reduceToNat, hrl, hrs]
            refine back2 (p + 1, rs.set p (gRn (rs.getD p default))) _ ⟨by simp; omega, by simp [h8]⟩ (by simp; omega) ?_
            refine le_tok2 (by decide) ?_ ?_ ?_ ?_ <;> simp [intRow, ownSV, ownL, leSlots, lv_dat, lv_tok, lv_ptr, lv_rp, lv_undef, leBoxes, leTags, leLive, tokM, tokB, tokT, ren, liveInj, r_lk, r_lkN, r_lkB, r_lkN0, I, B, D, withV_some, hwp, hrs]
          · refine back2 (p + 1, rs) _ ⟨by simp; omega, h8⟩ (by simp; omega) ?_
            refine le_tok2 (by decide) ?_ ?_ ?_ ?_ <;> simp [intRow, ownSV, ownL, leSlots, lv_dat, lv_tok, lv_ptr, lv_rp, lv_undef, leBoxes, leTags, leLive, tokM, tokB, tokT, ren, liveInj, r_lk, r_lkN, r_lkB, r_lkN0, I, B, D, withV_some, hwp]
        · have hpe : p = 8 := by have := of_decide_eq_false h2; omega
          subst hpe
          have hrw := runs_whole h8
          try simp only [I, B, D, RW, ↓ KW, fillA, stTags, flat, Nat.reduceBEq, Nat.reduceAdd, Nat.reduceLeDiff, Int.reduceNe, Int.reduceBEq, Int.reduceEq, reduceCtorEq, Nat.reduceMul, Int.reduceLT, Int.reduceLE, Int.reduceToNat, hw]
          try simp only [I, B, D, RW, ↓ KW, fillA, stTags, flat, Nat.reduceBEq, Nat.reduceAdd, Nat.reduceLeDiff, Int.reduceNe, Int.reduceBEq, Int.reduceEq, reduceCtorEq, Nat.reduceMul, Int.reduceLT, Int.reduceLE, Int.reduceToNat, hsw]
          try simp only [I, B, D, RW, ↓ KW, fillA, stTags, flat, Nat.reduceBEq, Nat.reduceAdd, Nat.reduceLeDiff, Int.reduceNe, Int.reduceBEq, Int.reduceEq, reduceCtorEq, Nat.reduceMul, Int.reduceLT, Int.reduceLE, Int.reduceToNat, hrw]
          refine ⟨by omega, ?_⟩
          try simp only [I, B, D, RW, ↓ KW, fillA, stTags, flat, Nat.reduceBEq, Nat.reduceAdd, Nat.reduceLeDiff, Int.reduceNe, Int.reduceBEq, Int.reduceEq, reduceCtorEq, Nat.reduceMul, Int.reduceLT, Int.reduceLE, Int.reduceToNat, hask, intRow]
          refine call_is (hH t s rs ask ht h4 h8) ?_
          have hhs := hold_spent (t := t) (s := s) (l := rs) (ask := ask)
          generalize holdR t s rs ask = hd at *
          try simp only [I, B, D, RW, ↓ KW, fillA, stTags, flat, Nat.reduceBEq, Nat.reduceAdd, Nat.reduceLeDiff, Int.reduceNe, Int.reduceBEq, Int.reduceEq, reduceCtorEq, Nat.reduceMul, Int.reduceLT, Int.reduceLE, Int.reduceToNat]
          refine ⟨⟨by omega, by omega⟩, ?_⟩
          try simp only [I, B, D, RW, ↓ KW, fillA, stTags, flat, Nat.reduceBEq, Nat.reduceAdd, Nat.reduceLeDiff, Int.reduceNe, Int.reduceBEq, Int.reduceEq, reduceCtorEq, Nat.reduceMul, Int.reduceLT, Int.reduceLE, Int.reduceToNat, hask, intRow]
          obtain ⟨b, hb⟩ : ∃ b, (hd != 0) = b := ⟨_, rfl⟩
          have hb' : b = true → s.spent < t.budget := fun h => by
            rw [h] at hb
            exact hhs (by simpa using hb)
          generalize hr : (bAnd .i64 _ _ == (1 : Int)) = r
          have hmo := more_is hs0 (by omega)
          have hmo0 : moreI 0 = 1 := by decide
          have hlt' : b = true → decide (t.budget ≤ s.spent) = false := fun h => decide_eq_false (by have := hb' h; omega)
          have hw01 : IntKind.i64.wrap (0 + 1) = 1 := by decide
          have hw1 : IntKind.i64.wrap (s.spent + 1) = s.spent + 1 := wrap_id (by omega) (by omega)
          have hS' := fun hd rd => hS t s ask hd rd ht h4
          have hsc : ∀ hd rd, setCells s.cells 0 (stepRd t s ask hd rd).cells = (stepRd t s ask hd rd).cells := fun hd rd => set_all (by rw [hls, Rd.len (by simp [stepRd, lockTo])])
          have h4' : ∀ hd rd, (stepRd t s ask hd rd).lock.length = 4 := fun hd rd => by simp [stepRd, lockTo]
          have hsl : ∀ hd rd, (stepRd t s ask hd rd).cells.length = 6 := fun hd rd => Rd.len (h4' hd rd)
          have hsn : ∀ hd rd, (stepRd t s ask hd rd).cells[5]? = some (AV.int .i64 (spentN s hd rd)) := fun hd rd => Rd.spent_at (h4' hd rd)
          have hsp : ∀ hd rd, (stepRd t s ask hd rd).spent = spentN s hd rd := fun hd rd => rfl
          have e00 : spentN s false false = s.spent := rfl
          have e01 : spentN s false true = 0 := rfl
          have e10 : spentN s true false = s.spent + 1 := hmo
          have e11 : spentN s true true = 1 := rfl
          cases b <;> cases r
          all_goals
            try simp only [I, B, D, RW, ↓ KW, fillA, stTags, flat, Nat.reduceBEq, Nat.reduceAdd, Nat.reduceLeDiff, Int.reduceNe, Int.reduceBEq, Int.reduceEq, reduceCtorEq, Nat.reduceMul, Int.reduceLT, Int.reduceLE, Int.reduceToNat, hb, hbu, hlt', hw, hsw, hask, intRow]
            refine ⟨⟨by omega, by omega⟩, ?_⟩
            refine call_is (hS' _ _) ?_
            try simp only [I, B, D, RW, ↓ KW, fillA, stTags, flat, Nat.reduceBEq, Nat.reduceAdd, Nat.reduceLeDiff, Int.reduceNe, Int.reduceBEq, Int.reduceEq, reduceCtorEq, Nat.reduceMul, Int.reduceLT, Int.reduceLE, Int.reduceToNat, hsl, hls, hsc, hsn, e00, e01, e10, e11, hw1, hw01, bne_self_eq_false]
            try refine ⟨by omega, ?_⟩
          · refine back (i + 1, stepRd t s ask false false) _ ⟨by simp; omega, h4' _ _, ?_, ?_⟩ (by simp; omega) ?_
            · simp only [hsp, e00]; omega
            · simp only [hsp, e00]; omega
            · refine le_tok2 (by decide) ?_ ?_ ?_ ?_ <;> simp [intRow, ownSV, ownL, leSlots, lv_dat, lv_tok, lv_ptr, lv_rp, lv_undef, leBoxes, leTags, leLive, tokM, tokB, tokT, ren, liveInj, r_lk, r_lkN, r_lkB, r_lkN0, I, B, D, withV_some, hwr, hsp, e00]
          · refine back (i + 1, stepRd t s ask false true) _ ⟨by simp; omega, h4' _ _, ?_, ?_⟩ (by simp; omega) ?_
            · simp only [hsp, e01]; omega
            · simp only [hsp, e01]; omega
            · refine le_tok2 (by decide) ?_ ?_ ?_ ?_ <;> simp [intRow, ownSV, ownL, leSlots, lv_dat, lv_tok, lv_ptr, lv_rp, lv_undef, leBoxes, leTags, leLive, tokM, tokB, tokT, ren, liveInj, r_lk, r_lkN, r_lkB, r_lkN0, I, B, D, withV_some, hwr, hsp, e01]
          · refine back (i + 1, stepRd t s ask true false) _ ⟨by simp; omega, h4' _ _, ?_, ?_⟩ (by simp; omega) ?_
            · simp only [hsp, e10]; omega
            · simp only [hsp, e10]; have := hb' rfl; omega
            · refine le_tok2 (by decide) ?_ ?_ ?_ ?_ <;> simp [intRow, ownSV, ownL, leSlots, lv_dat, lv_tok, lv_ptr, lv_rp, lv_undef, leBoxes, leTags, leLive, tokM, tokB, tokT, ren, liveInj, r_lk, r_lkN, r_lkB, r_lkN0, I, B, D, withV_some, hwr, hsp, e10]
          · refine back (i + 1, stepRd t s ask true true) _ ⟨by simp; omega, h4' _ _, ?_, ?_⟩ (by simp; omega) ?_
            · simp only [hsp, e11]; omega
            · simp only [hsp, e11]; omega
            · refine le_tok2 (by decide) ?_ ?_ ?_ ?_ <;> simp [intRow, ownSV, ownL, leSlots, lv_dat, lv_tok, lv_ptr, lv_rp, lv_undef, leBoxes, leTags, leLive, tokM, tokB, tokT, ren, liveInj, r_lk, r_lkN, r_lkB, r_lkN0, I, B, D, withV_some, hwr, hsp, e11]
      · refine le_tok2 (by decide) ?_ ?_ ?_ ?_ <;> simp [intRow, ownSV, ownL, leSlots, lv_dat, lv_tok, lv_ptr, lv_rp, lv_undef, leBoxes, leTags, leLive, tokM, tokB, tokT, ren, liveInj, r_lk, r_lkN, r_lkB, r_lkN0, I, B, D, withV_some, hz96]
    · refine call_is hA ?_
      try simp only [I, B, D, RW, ↓ KW, fillA, stTags, flat, Nat.reduceBEq, Nat.reduceAdd, Nat.reduceLeDiff, Int.reduceNe, Int.reduceBEq, Int.reduceEq, reduceCtorEq, Nat.reduceMul, Int.reduceLT, Int.reduceLE, Int.reduceToNat]
  · refine le_tok2 (by decide) ?_ ?_ ?_ ?_ <;> simp [intRow, ownSV, ownL, leSlots, lv_dat, lv_tok, lv_ptr, lv_rp, lv_undef, leBoxes, leTags, leLive, tokM, tokB, tokT, ren, liveInj, r_lk, r_lkN, r_lkB, r_lkN0, I, B, D, withV_some, rd0, Rd.cells, hsz]
end

end Go.Eng
