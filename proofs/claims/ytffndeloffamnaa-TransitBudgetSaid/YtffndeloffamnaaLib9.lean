/- LIBRARY, PART 9: the cells of tables; places of phases (reference). -/
import Derived.Test.YtffndeloffamnaaLib8
namespace Go.Eng
set_option linter.unnecessarySimpa false
open Go
set_option linter.unusedVariables false
set_option linter.unusedSimpArgs false
set_option maxRecDepth 10000
set_option maxHeartbeats 4000000
theorem part_in {cs mid : List AV} {off z : Nat} (h : partA cs off (some z) = some (.agg mid)) {j : Nat} (hj : j < z) : cs[off + j]? = mid[j]? := by
  simp only [partA] at h
  split at h
  · simp only [Option.some.injEq, AV.agg.injEq] at h
    rw [← h, List.getElem?_take_of_lt hj, List.getElem?_drop]
  · cases h


section
variable {t : Tb} (h : t.Ok)
include h
theorem Tb.groups_at : t.cells[104]? = some (slAV Gr.cells t.groups) := by
  simp [Tb.cells, List.getElem?_append, flatMap_len Ph.len, h.phases]
theorem Tb.dets_at : t.cells[113]? = some (slAV Det.cells t.detectors) := by
  simp [Tb.cells, List.getElem?_append, flatMap_len Ph.len, h.phases, h.conflict, h.flash, List.getElem?_cons]
theorem Tb.rails_at : t.cells[114]? = some (slAV Rl.cells t.rails) := by
  simp [Tb.cells, List.getElem?_append, flatMap_len Ph.len, h.phases, h.conflict, h.flash, List.getElem?_cons]
theorem Tb.buses_at : t.cells[115]? = some (slAV Bs.cells t.buses) := by
  simp [Tb.cells, List.getElem?_append, flatMap_len Ph.len, h.phases, h.conflict, h.flash, List.getElem?_cons]
theorem Tb.tail_at (j : Nat) (hj : j < 5) : t.cells[116 + j]? = [I t.extend, I t.budget, I t.start, I t.revert, I t.least][j]? := by
  have : j = 0 ∨ j = 1 ∨ j = 2 ∨ j = 3 ∨ j = 4 := by omega
  rcases this with rfl | rfl | rfl | rfl | rfl <;>
  simp [Tb.cells, List.getElem?_append, flatMap_len Ph.len, h.phases, h.conflict, h.flash, List.getElem?_cons]
theorem Tb.window_at : t.cells[129]? = some (I t.window) := by
  simp [Tb.cells, List.getElem?_append, flatMap_len Ph.len, h.phases, h.conflict, h.flash, List.getElem?_cons]
theorem Tb.share_at : t.cells[130]? = some (I t.share) := by
  simp [Tb.cells, List.getElem?_append, flatMap_len Ph.len, h.phases, h.conflict, h.flash, List.getElem?_cons]
omit h in
theorem Tb.ph_at {i : Nat} {p : Ph} (hp : t.phases[i]? = some p) (j : Nat) (hj : j < 13) : t.cells[i * 13 + j]? = p.cells[j]? := part_in (Tb.phase_part hp) hj
omit h in
theorem Tb.ph_all {i : Nat} {p : Ph} (hp : t.phases[i]? = some p) : t.cells[i * 13]? = some (B p.on) ∧ t.cells[i * 13 + 1]? = some (I p.min) ∧ t.cells[i * 13 + 2]? = some (I p.gap) ∧ t.cells[i * 13 + 3]? = some (I p.max) ∧ t.cells[i * 13 + 4]? = some (I p.top) ∧ t.cells[i * 13 + 5]? = some (I p.step) ∧ t.cells[i * 13 + 6]? = some (I p.yellow) ∧ t.cells[i * 13 + 7]? = some (I p.red) ∧ t.cells[i * 13 + 8]? = some (I p.walk) ∧ t.cells[i * 13 + 9]? = some (I p.blinks) ∧ t.cells[i * 13 + 10]? = some (I p.recall) ∧ t.cells[i * 13 + 11]? = some (B p.lock) ∧ t.cells[i * 13 + 12]? = some (B p.rest) :=
  have hj := fun j hj => Tb.ph_at hp j hj
  ⟨hj 0 (by omega), hj 1 (by omega), hj 2 (by omega), hj 3 (by omega), hj 4 (by omega), hj 5 (by omega), hj 6 (by omega), hj 7 (by omega), hj 8 (by omega), hj 9 (by omega), hj 10 (by omega), hj 11 (by omega), hj 12 (by omega)⟩
theorem Tb.conflict_at {i : Nat} {c : Int} (hc : t.conflict[i]? = some c) : t.cells[105 + i]? = some (I c) := by
  have hi : i < 8 := by have := (List.getElem?_eq_some_iff.1 hc).1; rw [h.conflict] at this; exact this
  have e : (t.phases.flatMap Ph.cells).length = 104 := by rw [flatMap_len Ph.len, h.phases]
  unfold Tb.cells
  rw [List.getElem?_append_right (by omega), e, show 105 + i - 104 = i + 1 by omega, List.getElem?_cons_succ, List.getElem?_append_left (by simp [h.conflict, hi]), List.getElem?_map, hc]; rfl
theorem Tb.flash_at {i : Nat} {c : Int} (hc : t.flash[i]? = some c) : t.cells[121 + i]? = some (I c) := by
  have hi : i < 8 := by have := (List.getElem?_eq_some_iff.1 hc).1; rw [h.flash] at this; exact this
  have e : (t.phases.flatMap Ph.cells).length = 104 := by rw [flatMap_len Ph.len, h.phases]
  have e2 : (t.conflict.map I).length = 8 := by simp [h.conflict]
  unfold Tb.cells
  rw [List.getElem?_append_right (by omega), e, show 121 + i - 104 = (i + 16) + 1 by omega, List.getElem?_cons_succ, List.getElem?_append_right (by omega), e2, show i + 16 - 8 = i + 8 by omega]
  simp only [List.getElem?_cons_succ]
  rw [List.getElem?_append_left (by simp [h.flash, hi]), List.getElem?_map, hc]; rfl
end

/-- a place: group, ring, place in the row, phase -/
structure Sp where
  group : Int
  ring : Int
  pos : Int
  p : Int
  deriving Inhabited, DecidableEq
def Sp.cells (s : Sp) : List AV := [I s.group, I s.ring, I s.pos, I s.p]
theorem Sp.len (s : Sp) : s.cells.length = 4 := rfl
theorem Gr.len (s : Gr) : s.cells.length = 2 := rfl

def Gr.row (g : Gr) (k : Nat) : Option (List Int) := if k = 0 then g.a else g.b
def rowSpots (g k : Nat) (row : List Int) : List Sp := row.zipIdx.filterMap fun (p, i) => if 0 ≤ p ∧ p < 8 then some ⟨g, k, i, p⟩ else none
def grSpots (gr : Gr) (g k : Nat) : List Sp := (List.range k).flatMap fun k => rowSpots g k ((gr.row k).getD [])
def spotsTo (l : List Gr) (n : Nat) : List Sp := (l.take n).zipIdx.flatMap fun (gr, g) => grSpots gr g 2
def spots (t : Tb) : List Sp := spotsTo (t.groups.getD []) (t.groups.getD []).length

theorem le_ownSV {α : Type} {row : α → List AV} {l : List α} {m : List (Nat × Nat)} {nx t t' : Nat} (h : ren m t' = t) (ht : t' < nx) : leSV m nx (ownSV row l t) (ownSV row l t') := by
  unfold ownSV; split
  · exact rfl
  · exact ⟨rfl, h.symm, ht⟩

theorem le_ownL {α : Type} {l : List α} {m : List (Nat × Nat)} {nx t t' e : Nat} (h : ren m t' = t) (ht : t' < nx) : leLive m nx (ownL l t e) (ownL l t' e) := by
  unfold ownL; split
  · trivial
  · simp [leLive, h, ht, r_lkN]
theorem inj_ownL {α : Type} {l : List α} {m : List (Nat × Nat)} {t e : Nat} : liveInj m (ownL l t e) := by
  unfold ownL; split <;> simp [liveInj]

theorem rowSpots_next {g k : Nat} {row : List Int} {i : Nat} {x : Int} (h : row[i]? = some x) : (0 ≤ x ∧ x < 8 → rowSpots g k (row.take (i + 1)) = rowSpots g k (row.take i) ++ [⟨g, k, i, x⟩]) ∧ (¬ (0 ≤ x ∧ x < 8) → rowSpots g k (row.take (i + 1)) = rowSpots g k (row.take i)) := by
  have hl : (row.take i).length = i := take_len h
  unfold rowSpots
  rw [take_next h, List.zipIdx_append, List.filterMap_append, hl]
  constructor <;> intro hx <;> simp [hx]

theorem rowSpots_len (g k : Nat) (row : List Int) : (rowSpots g k row).length ≤ row.length := by
  have := List.length_filterMap_le (fun (p : Int × Nat) => if 0 ≤ p.1 ∧ p.1 < 8 then some (⟨g, k, p.2, p.1⟩ : Sp) else none) row.zipIdx
  simpa [rowSpots] using this

theorem grSpots_next (gr : Gr) (g k : Nat) : grSpots gr g (k + 1) = grSpots gr g k ++ rowSpots g k ((gr.row k).getD []) := by
  simp [grSpots, List.range_succ]
theorem spotsTo_next {l : List Gr} {g : Nat} {gr : Gr} (h : l[g]? = some gr) : spotsTo l (g + 1) = spotsTo l g ++ grSpots gr g 2 := by
  have hl : (l.take g).length = g := take_len h
  unfold spotsTo
  rw [take_next h, List.zipIdx_append, List.flatMap_append, hl]
  simp

theorem grSpots_len {gr : Gr} (hr : (gr.a.getD []).length ≤ 1048576 ∧ (gr.b.getD []).length ≤ 1048576) (g k : Nat) (hk : k ≤ 2) : (grSpots gr g k).length ≤ k * 1048576 := by
  have h0 := rowSpots_len g 0 (gr.a.getD [])
  have h1 := rowSpots_len g 1 (gr.b.getD [])
  have : k = 0 ∨ k = 1 ∨ k = 2 := by omega
  rcases this with rfl | rfl | rfl
  · simp [grSpots]
  · rw [grSpots_next, List.length_append]
    have : (grSpots gr g 0).length = 0 := rfl
    have h0' : (rowSpots g 0 ((gr.row 0).getD [])).length ≤ (gr.a.getD []).length := h0
    omega
  · rw [grSpots_next, grSpots_next, List.length_append, List.length_append]
    have : (grSpots gr g 0).length = 0 := rfl
    have h0' : (rowSpots g 0 ((gr.row 0).getD [])).length ≤ (gr.a.getD []).length := h0
    have h1' : (rowSpots g 1 ((gr.row 1).getD [])).length ≤ (gr.b.getD []).length := h1
    omega
theorem spotsTo_len {t : Tb} (ht : t.Ok) : ∀ n, n ≤ (t.groups.getD []).length → (spotsTo (t.groups.getD []) n).length ≤ n * 2097152
  | 0, _ => by simp [spotsTo]
  | n + 1, h => by
    obtain ⟨gr, hgr⟩ : ∃ x, (t.groups.getD [])[n]? = some x := ⟨_, List.getElem?_eq_getElem (by omega)⟩
    have := spotsTo_len ht n (by omega)
    have h2 := grSpots_len (ht.rows gr (List.mem_of_getElem? hgr)) n 2 (by omega)
    rw [spotsTo_next hgr, List.length_append]
    omega
theorem spots_len {t : Tb} (ht : t.Ok) : (spots t).length ≤ 2199023255552 := by
  have := spotsTo_len ht _ (Nat.le_refl _)
  have := ht.groups
  simp only [spots]
  omega
theorem spots_size {t : Tb} (ht : t.Ok) {g k i : Nat} {gr : Gr} (hg : (t.groups.getD [])[g]? = some gr) (hk : k < 2) (hi : i < ((gr.row k).getD []).length) : ((spotsTo (t.groups.getD []) g ++ grSpots gr g k ++ rowSpots g k (((gr.row k).getD []).take i)).length + 1) * 32 ≤ 140737488355328 := by
  have hlt : g < (t.groups.getD []).length := (List.getElem?_eq_some_iff.1 hg).1
  have h1 := spotsTo_len ht g (by omega)
  have hr := ht.rows gr (List.mem_of_getElem? hg)
  have h2 := grSpots_len hr g k (by omega)
  have h3 := rowSpots_len g k (((gr.row k).getD []).take i)
  have h4 : (((gr.row k).getD []).take i).length ≤ 1048576 := by
    have : k = 0 ∨ k = 1 := by omega
    rcases this with rfl | rfl
    · exact Nat.le_trans (List.length_take_le' _ _) hr.1
    · exact Nat.le_trans (List.length_take_le' _ _) hr.2
  have := ht.groups
  rw [List.length_append, List.length_append]
  omega

def spots.Spec (C : Con) (f e : Nat) : Prop := ∀ (t : Tb) (fr : Option Nat), t.Ok → (fr = none ∨ fr = some e ∧ spots t ≠ []) → C.c f [.agg t.cells] (slAV Sp.cells (mkO (spots t))) fr
section
variable {P : Program} (hm : P.follows .mixedOrders = true) {f : Nat}
include hm
theorem spots.ok {e : Nat} (hc : cFn P f = some (cc_ref08_Spots e)) : spots.Spec (Pure P) f e := by
  intro t fr ht hfr
  have hg := Tb.groups_at ht
  refine pure_of hm hc (by show 1 ≤ 56; decide) (aw_flat (keep := []) (i := 0) ?_)
  try simp only [I, B, D, RW, ↓ KW, fillA, setCells, stTags, flat, Nat.reduceBEq, Nat.reduceAdd, Nat.reduceLeDiff, Int.reduceNe, Int.reduceBEq, Int.reduceEq, reduceCtorEq, Nat.reduceMul, Int.reduceLT, Int.reduceLE, Int.reduceToNat, cc_ref08_Spots]
  refine aw_loop' (fun g : Nat => (⟨[(4, .dat (I g) none), (1, .ptr 4 0), (3, ownSV Sp.cells (spotsTo (t.groups.getD []) g) 0)], [(4, ⟨t.cells, []⟩)], ownL (spotsTo (t.groups.getD []) g) 0 e, 400⟩ : S)) (fun g => (t.groups.getD []).length - g) (fun g => g ≤ (t.groups.getD []).length) ?_ 0 (by omega) ?_
  · intro g hg1 A back
    have hb := ht.groups
    have hw := wrap_succ (k := g) (by omega)
    try simp only [I, B, D, RW, ↓ KW, fillA, setCells, stTags, flat, Nat.reduceBEq, Nat.reduceAdd, Nat.reduceLeDiff, Int.reduceNe, Int.reduceBEq, Int.reduceEq, reduceCtorEq, Nat.reduceMul, Int.reduceLT, Int.reduceLE, Int.reduceToNat, p_none, hg]
    refine cd_split (fun h => ?_) (fun h => ?_) <;> try simp only [I, B, D, RW, ↓ KW, fillA, setCells, stTags, flat, Nat.reduceBEq, Nat.reduceAdd, Nat.reduceLeDiff, Int.reduceNe, Int.reduceBEq, Int.reduceEq, reduceCtorEq, Nat.reduceMul, Int.reduceLT, Int.reduceLE, Int.reduceToNat, p_none, hg, h]
    · have hlt : g < (t.groups.getD []).length := by have := of_decide_eq_true h; omega
      obtain ⟨gr, hgr⟩ : ∃ x, (t.groups.getD [])[g]? = some x := ⟨_, List.getElem?_eq_getElem hlt⟩
      have hrs := ht.rows gr (List.mem_of_getElem? hgr)
      refine aw_loop' (fun k : Nat => (⟨[(5, .dat (I k) none), (4, .dat (I g) none), (1, .ptr 4 0), (3, ownSV Sp.cells (spotsTo (t.groups.getD []) g ++ grSpots gr g k) 0)], [(4, ⟨t.cells, []⟩)], ownL (spotsTo (t.groups.getD []) g ++ grSpots gr g k) 0 e, 400⟩ : S)) (fun k => 2 - k) (fun k => k ≤ 2) ?_ 0 (by omega) ?_
      · intro k hk A1 back1
        have hw1 := wrap_succ (k := k) (by omega)
        try simp only [I, B, D, RW, ↓ KW, fillA, setCells, stTags, flat, Nat.reduceBEq, Nat.reduceAdd, Nat.reduceLeDiff, Int.reduceNe, Int.reduceBEq, Int.reduceEq, reduceCtorEq, Nat.reduceMul, Int.reduceLT, Int.reduceLE, Int.reduceToNat]
        refine cd_split (fun h1 => ?_) (fun h1 => ?_) <;> try simp only [I, B, D, RW, ↓ KW, fillA, setCells, stTags, flat, Nat.reduceBEq, Nat.reduceAdd, Nat.reduceLeDiff, Int.reduceNe, Int.reduceBEq, Int.reduceEq, reduceCtorEq, Nat.reduceMul, Int.reduceLT, Int.reduceLE, Int.reduceToNat, h1]
        · have hk2 : k < 2 := by have := of_decide_eq_true h1; omega
          have hrow : (List.drop k gr.cells)[0]? = some (slAV intRow (gr.row k)) := by
            have : k = 0 ∨ k = 1 := by omega
            rcases this with rfl | rfl <;> rfl
          have hrl : ((gr.row k).getD []).length ≤ 1048576 := by
            have : k = 0 ∨ k = 1 := by omega
            rcases this with rfl | rfl
            exact hrs.1
            exact hrs.2
          refine aw_loop' (fun i : Nat => (⟨[(6, .dat (I i) none), (5, .dat (I k) none), (4, .dat (I g) none), (1, .ptr 4 0), (3, ownSV Sp.cells (spotsTo (t.groups.getD []) g ++ grSpots gr g k ++ rowSpots g k (((gr.row k).getD []).take i)) 0)], [(4, ⟨t.cells, []⟩)], ownL (spotsTo (t.groups.getD []) g ++ grSpots gr g k ++ rowSpots g k (((gr.row k).getD []).take i)) 0 e, 400⟩ : S)) (fun i => ((gr.row k).getD []).length - i) (fun i => i ≤ ((gr.row k).getD []).length) ?_ 0 (by omega) ?_
          · intro i hi A2 back2
            have hw2 := wrap_succ (k := i) (by omega)
            try simp only [I, B, D, RW, ↓ KW, fillA, setCells, stTags, flat, Nat.reduceBEq, Nat.reduceAdd, Nat.reduceLeDiff, Int.reduceNe, Int.reduceBEq, Int.reduceEq, reduceCtorEq, Nat.reduceMul, Int.reduceLT, Int.reduceLE, Int.reduceToNat, p_none, hg, hgr, Gr.len]
            refine ⟨by omega, by omega, ?_⟩
            try simp only [I, B, D, RW, ↓ KW, fillA, setCells, stTags, flat, Nat.reduceBEq, Nat.reduceAdd, Nat.reduceLeDiff, Int.reduceNe, Int.reduceBEq, Int.reduceEq, reduceCtorEq, Nat.reduceMul, Int.reduceLT, Int.reduceLE, Int.reduceToNat, hrow]
            refine cd_split (fun h2 => ?_) (fun h2 => ?_) <;> try simp only [I, B, D, RW, ↓ KW, fillA, setCells, stTags, flat, Nat.reduceBEq, Nat.reduceAdd, Nat.reduceLeDiff, Int.reduceNe, Int.reduceBEq, Int.reduceEq, reduceCtorEq, Nat.reduceMul, Int.reduceLT, Int.reduceLE, Int.reduceToNat, p_none, hg, hgr, Gr.len, h2]
            · have hil : i < ((gr.row k).getD []).length := by have := of_decide_eq_true h2; omega
              obtain ⟨x, hx⟩ : ∃ x, ((gr.row k).getD [])[i]? = some x := ⟨_, List.getElem?_eq_getElem hil⟩
              have hnx := rowSpots_next (g := g) (k := k) hx
              refine ⟨by omega, by omega, ?_⟩
              try simp only [I, B, D, RW, ↓ KW, fillA, setCells, stTags, flat, Nat.reduceBEq, Nat.reduceAdd, Nat.reduceLeDiff, Int.reduceNe, Int.reduceBEq, Int.reduceEq, reduceCtorEq, Nat.reduceMul, Int.reduceLT, Int.reduceLE, Int.reduceToNat, hrow]
              refine ⟨by omega, ?_⟩
              try simp only [I, B, D, RW, ↓ KW, fillA, setCells, stTags, flat, Nat.reduceBEq, Nat.reduceAdd, Nat.reduceLeDiff, Int.reduceNe, Int.reduceBEq, Int.reduceEq, reduceCtorEq, Nat.reduceMul, Int.reduceLT, Int.reduceLE, Int.reduceToNat, hx, intRow, p_none]
              repeat' (first | (refine gd_split (fun h => ?_) (fun h => ?_) <;> try simp only [I, B, D, RW, ↓ KW, fillA, setCells, stTags, flat, Nat.reduceBEq, Nat.reduceAdd, Nat.reduceLeDiff, Int.reduceNe, Int.reduceBEq, Int.reduceEq, reduceCtorEq, Nat.reduceMul, Int.reduceLT, Int.reduceLE, Int.reduceToNat, h]) | (refine cd_split (fun h => ?_) (fun h => ?_) <;> try simp only [I, B, D, RW, ↓ KW, fillA, setCells, stTags, flat, Nat.reduceBEq, Nat.reduceAdd, Nat.reduceLeDiff, Int.reduceNe, Int.reduceBEq, Int.reduceEq, reduceCtorEq, Nat.reduceMul, Int.reduceLT, Int.reduceLE, Int.reduceToNat, h]) | (refine pk_split (fun h => ?_) (fun h => ?_) <;> try simp only [I, B, D, RW, ↓ KW, fillA, setCells, stTags, flat, Nat.reduceBEq, Nat.reduceAdd, Nat.reduceLeDiff, Int.reduceNe, Int.reduceBEq, Int.reduceEq, reduceCtorEq, Nat.reduceMul, Int.reduceLT, Int.reduceLE, Int.reduceToNat, h]))
              · rename_i ha
                have hx8 : 0 ≤ x ∧ x < 8 := ⟨of_decide_eq_true ha, of_decide_eq_true h⟩
                have hnx := hnx.1 hx8
                have hsz := spots_size ht hgr hk2 hil
                generalize spotsTo (t.groups.getD []) g ++ grSpots gr g k = L at *
                by_cases hl : L ++ rowSpots g k (((gr.row k).getD []).take i) = []
                · try simp only [I, B, D, RW, ↓ KW, fillA, setCells, stTags, flat, Nat.reduceBEq, Nat.reduceAdd, Nat.reduceLeDiff, Int.reduceNe, Int.reduceBEq, Int.reduceEq, reduceCtorEq, Nat.reduceMul, Int.reduceLT, Int.reduceLE, Int.reduceToNat, ownSV, ownL, hl]
                  refine back2 (i + 1) _ (by omega) (by omega) (le_tok2 (by decide) ?_ ?_ ?_ ?_) <;> simp [intRow, ownSV, ownL, leSlots, lv_dat, lv_tok, lv_ptr, lv_rp, lv_undef, leBoxes, leTags, leLive, tokM, tokB, tokT, ren, liveInj, r_lk, r_lkN, r_lkB, r_lkN0, I, B, D, withV_some, hnx, hw2, Sp.cells, ← List.append_assoc, hl]
                · try simp only [I, B, D, RW, ↓ KW, fillA, setCells, stTags, flat, Nat.reduceBEq, Nat.reduceAdd, Nat.reduceLeDiff, Int.reduceNe, Int.reduceBEq, Int.reduceEq, reduceCtorEq, Nat.reduceMul, Int.reduceLT, Int.reduceLE, Int.reduceToNat, ownSV, ownL, hl, Sp.len]
                  refine ⟨hsz, ?_⟩
                  refine back2 (i + 1) _ (by omega) (by omega) (le_tok2 (by decide) ?_ ?_ ?_ ?_) <;> simp [intRow, ownSV, ownL, leSlots, lv_dat, lv_tok, lv_ptr, lv_rp, lv_undef, leBoxes, leTags, leLive, tokM, tokB, tokT, ren, liveInj, r_lk, r_lkN, r_lkB, r_lkN0, I, B, D, withV_some, hnx, hw2, Sp.cells, ← List.append_assoc, hl]
              · have hnx := hnx.2 (by have := of_decide_eq_false h; omega)
                refine back2 (i + 1) _ (by omega) (by omega) (le_mk [(0, 0)] (by decide) ?_ ?_ ?_ inj_ownL) <;> simp [le_ownSV, le_ownL, leSlots, lv_dat, lv_tok, lv_ptr, lv_rp, lv_undef, leBoxes, leTags, leLive, ren, liveInj, r_lk, r_lkN, r_lkB, r_lkN0, I, B, D, withV_some, hnx, hw2, ← List.append_assoc]
              · have hnx := hnx.2 (by have := of_decide_eq_false h; omega)
                refine back2 (i + 1) _ (by omega) (by omega) (le_mk [(0, 0)] (by decide) ?_ ?_ ?_ inj_ownL) <;> simp [le_ownSV, le_ownL, leSlots, lv_dat, lv_tok, lv_ptr, lv_rp, lv_undef, leBoxes, leTags, leLive, ren, liveInj, r_lk, r_lkN, r_lkB, r_lkN0, I, B, D, withV_some, hnx, hw2, ← List.append_assoc]
            · have : i = ((gr.row k).getD []).length := by have := of_decide_eq_false h2; omega
              subst this
              have hk1 := grSpots_next gr g k
              rw [List.take_length, List.append_assoc, ← hk1]
              refine back1 (k + 1) _ (by omega) (by omega) (le_mk [(0, 0)] (by decide) ?_ ?_ ?_ inj_ownL) <;> simp [le_ownSV, le_ownL, leSlots, lv_dat, lv_tok, lv_ptr, lv_rp, lv_undef, leBoxes, leTags, leLive, ren, liveInj, r_lk, r_lkN, r_lkB, r_lkN0, I, B, D, withV_some, hw1]
          · simp [rowSpots]
            refine le_mk [(0, 0)] (by decide) ?_ ?_ ?_ inj_ownL <;> simp [le_ownSV, le_ownL, inj_ownL, leSlots, lv_dat, lv_tok, lv_ptr, lv_rp, lv_undef, leBoxes, leTags, leLive, ren, liveInj, r_lk, r_lkN, r_lkB, r_lkN0, I, B, D, withV_some]
        · have : k = 2 := by have := of_decide_eq_false h1; omega
          subst this
          have hg1 := spotsTo_next hgr
          rw [← hg1]
          refine back (g + 1) _ (by omega) (by omega) (le_mk [(0, 0)] (by decide) ?_ ?_ ?_ inj_ownL) <;> simp [le_ownSV, le_ownL, leSlots, lv_dat, lv_tok, lv_ptr, lv_rp, lv_undef, leBoxes, leTags, leLive, ren, liveInj, r_lk, r_lkN, r_lkB, r_lkN0, I, B, D, withV_some, hw]
      · simp [grSpots]
        refine le_mk [(0, 0)] (by decide) ?_ ?_ ?_ inj_ownL <;> simp [le_ownSV, le_ownL, inj_ownL, leSlots, lv_dat, lv_tok, lv_ptr, lv_rp, lv_undef, leBoxes, leTags, leLive, ren, liveInj, r_lk, r_lkN, r_lkB, r_lkN0, I, B, D, withV_some]
    · have : g = (t.groups.getD []).length := by have := of_decide_eq_false h; omega
      subst this
      have hs : spots t = spotsTo (t.groups.getD []) (t.groups.getD []).length := rfl
      rw [hs] at hfr ⊢
      generalize spotsTo (t.groups.getD []) (t.groups.getD []).length = L at *
      by_cases hl : L = []
      · rcases hfr with rfl | ⟨rfl, hne⟩
        · try simp only [I, B, D, RW, ↓ KW, fillA, setCells, stTags, flat, Nat.reduceBEq, Nat.reduceAdd, Nat.reduceLeDiff, Int.reduceNe, Int.reduceBEq, Int.reduceEq, reduceCtorEq, Nat.reduceMul, Int.reduceLT, Int.reduceLE, Int.reduceToNat, ownSV, ownL, mkO, slAV, hl]
        · exact absurd hl hne
      · rcases hfr with rfl | ⟨rfl, hne⟩
        · try simp only [I, B, D, RW, ↓ KW, fillA, setCells, stTags, flat, Nat.reduceBEq, Nat.reduceAdd, Nat.reduceLeDiff, Int.reduceNe, Int.reduceBEq, Int.reduceEq, reduceCtorEq, Nat.reduceMul, Int.reduceLT, Int.reduceLE, Int.reduceToNat, ownSV, ownL, mkO, slAV, hl]
        · try simp only [I, B, D, RW, ↓ KW, fillA, setCells, stTags, flat, Nat.reduceBEq, Nat.reduceAdd, Nat.reduceLeDiff, Int.reduceNe, Int.reduceBEq, Int.reduceEq, reduceCtorEq, Nat.reduceMul, Int.reduceLT, Int.reduceLE, Int.reduceToNat, ownSV, ownL, mkO, slAV, hl]
  · simp [spotsTo]
    refine le_tok2 (by decide) ?_ ?_ ?_ ?_ <;> simp [intRow, ownSV, ownL, leSlots, lv_dat, lv_tok, lv_ptr, lv_rp, lv_undef, leBoxes, leTags, leLive, tokM, tokB, tokT, ren, liveInj, r_lk, r_lkN, r_lkB, r_lkN0, I, B, D, withV_some]
end

end Go.Eng
