/- LIBRARY, PART 15: the cells of a table are read and written. -/
import Derived.Test.YtffndeloffamnaaLib13
namespace Go.Eng
set_option linter.unnecessarySimpa false
open Go
set_option linter.unusedVariables false
set_option linter.unusedSimpArgs false
set_option maxRecDepth 10000
set_option maxHeartbeats 4000000
structure Tb.Ln (t : Tb) : Prop where
  phases : t.phases.length = 8
  conflict : t.conflict.length = 8
  flash : t.flash.length = 8
theorem Tb.Ok.ln {t : Tb} (h : t.Ok) : t.Ln := ⟨h.phases, h.conflict, h.flash⟩

section
variable {t : Tb} (h : t.Ln)
include h
theorem Tb.Ln.len : t.cells.length = 131 := by
  simp [Tb.cells, flatMap_len Ph.len, h.phases, h.conflict, h.flash]
theorem Tb.Ln.whole : partA t.cells 0 (some 131) = some (.agg t.cells) := by
  have hl := h.len
  rw [p_some _ _ _ (by omega), List.drop_zero, ← hl, List.take_length]
theorem Tb.Ln.at113 : t.cells[113]? = some (slAV Det.cells t.detectors) := by
  simp [Tb.cells, List.getElem?_append, flatMap_len Ph.len, h.phases, h.conflict, h.flash, List.getElem?_cons]
theorem Tb.Ln.at114 : t.cells[114]? = some (slAV Rl.cells t.rails) := by
  simp [Tb.cells, List.getElem?_append, flatMap_len Ph.len, h.phases, h.conflict, h.flash, List.getElem?_cons]
theorem Tb.Ln.at115 : t.cells[115]? = some (slAV Bs.cells t.buses) := by
  simp [Tb.cells, List.getElem?_append, flatMap_len Ph.len, h.phases, h.conflict, h.flash, List.getElem?_cons]
theorem Tb.Ln.at129 : t.cells[129]? = some (I t.window) := by
  simp [Tb.cells, List.getElem?_append, flatMap_len Ph.len, h.phases, h.conflict, h.flash, List.getElem?_cons]
theorem Tb.Ln.conflict_at {i : Nat} {c : Int} (hc : t.conflict[i]? = some c) : t.cells[105 + i]? = some (I c) := by
  have hi : i < 8 := by have := (List.getElem?_eq_some_iff.1 hc).1; rw [h.conflict] at this; exact this
  have e : (t.phases.flatMap Ph.cells).length = 104 := by rw [flatMap_len Ph.len, h.phases]
  unfold Tb.cells
  rw [List.getElem?_append_right (by omega), e, show 105 + i - 104 = i + 1 by omega, List.getElem?_cons_succ, List.getElem?_append_left (by simp [h.conflict, hi]), List.getElem?_map, hc]; rfl

/-- behind the phases -/
def Tb.rest (t : Tb) : List AV := slAV Gr.cells t.groups :: (t.conflict.map I ++ (slAV Det.cells t.detectors :: slAV Rl.cells t.rails :: slAV Bs.cells t.buses ::
    I t.extend :: I t.budget :: I t.start :: I t.revert :: I t.least :: (t.flash.map I ++ [I t.window, I t.share])))
/-- behind the conflicts -/
def Tb.rest2 (t : Tb) : List AV := slAV Det.cells t.detectors :: slAV Rl.cells t.rails :: slAV Bs.cells t.buses ::
    I t.extend :: I t.budget :: I t.start :: I t.revert :: I t.least :: (t.flash.map I ++ [I t.window, I t.share])
omit h in
theorem set_right {pre post ps : List AV} {off : Nat} (hle : pre.length ≤ off) : setCells (pre ++ post) off ps = pre ++ setCells post (off - pre.length) ps := by
  simp only [setCells, List.take_append, List.drop_append, List.append_assoc]
  rw [List.take_of_length_le hle, List.drop_of_length_le (by omega), show off + ps.length - pre.length = off - pre.length + ps.length by omega]
  rfl
omit h in
theorem set_left {pre post ps : List AV} {off : Nat} (hle : off + ps.length ≤ pre.length) : setCells (pre ++ post) off ps = setCells pre off ps ++ post := by
  simp only [setCells]
  rw [List.take_append_of_le_length (by omega), List.drop_append_of_le_length hle]
  simp
omit h in
theorem set_one {l : List Int} {i : Nat} {v : Int} (hi : i < l.length) : setCells (l.map I) i [I v] = (l.set i v).map I := by
  simp only [setCells, List.length_cons, List.length_nil]
  rw [List.set_eq_take_append_cons_drop, if_pos hi]
  simp [List.map_take, List.map_drop]
omit h in
theorem set_skip (c : AV) (cs ps : List AV) (k : Nat) : setCells (c :: cs) (k + 1) ps = c :: setCells cs k ps := by
  simp only [setCells, List.take_succ_cons, List.cons_append, show k + 1 + ps.length = (k + ps.length) + 1 by omega, List.drop_succ_cons]
omit h in
theorem set_here (c : AV) (cs : List AV) (p : AV) : setCells (c :: cs) 0 [p] = p :: cs := rfl

theorem Tb.Ln.set_phase {i : Nat} (hi : i < 8) (q : Ph) : setCells t.cells (i * 13) q.cells = ({ t with phases := t.phases.set i q } : Tb).cells := by
  obtain ⟨p, hp⟩ : ∃ p, t.phases[i]? = some p := ⟨_, List.getElem?_eq_getElem (by rw [h.phases]; exact hi)⟩
  exact Tb.phase_set hp
theorem Tb.Ln.set_conflict {i : Nat} (hi : i < 8) (v : Int) : setCells t.cells (105 + i) [I v] = ({ t with conflict := t.conflict.set i v } : Tb).cells := by
  have e : (t.phases.flatMap Ph.cells).length = 104 := by rw [flatMap_len Ph.len, h.phases]
  unfold Tb.cells
  rw [set_right (by omega), e, show 105 + i - 104 = i + 1 by omega, set_skip, set_left (by simp [h.conflict]; omega), set_one (by rw [h.conflict]; exact hi)]
theorem Tb.Ln.set_flash {i : Nat} (hi : i < 8) (v : Int) : setCells t.cells (121 + i) [I v] = ({ t with flash := t.flash.set i v } : Tb).cells := by
  have e : (t.phases.flatMap Ph.cells).length = 104 := by rw [flatMap_len Ph.len, h.phases]
  unfold Tb.cells
  rw [set_right (by omega), e, show 121 + i - 104 = (i + 16) + 1 by omega, set_skip, set_right (by simp [h.conflict]), show i + 16 - (t.conflict.map I).length = i + 8 by simp [h.conflict]]
  simp only [set_skip]
  rw [set_left (by simp [h.flash]; omega), set_one (by rw [h.flash]; exact hi)]
theorem Tb.Ln.set_dets (d : Option (List Det)) : setCells t.cells 113 [slAV Det.cells d] = ({ t with detectors := d } : Tb).cells := by
  have e : (t.phases.flatMap Ph.cells).length = 104 := by rw [flatMap_len Ph.len, h.phases]
  have e2 : (t.conflict.map I).length = 8 := by simp [h.conflict]
  unfold Tb.cells
  rw [set_right (by omega), e, show 113 - 104 = 8 + 1 by omega, set_skip, set_right (by omega), e2]
  rfl
theorem Tb.Ln.set_rails (d : Option (List Rl)) : setCells t.cells 114 [slAV Rl.cells d] = ({ t with rails := d } : Tb).cells := by
  have e : (t.phases.flatMap Ph.cells).length = 104 := by rw [flatMap_len Ph.len, h.phases]
  have e2 : (t.conflict.map I).length = 8 := by simp [h.conflict]
  unfold Tb.cells
  rw [set_right (by omega), e, show 114 - 104 = 9 + 1 by omega, set_skip, set_right (by omega), e2]
  rfl
theorem Tb.Ln.set_buses (d : Option (List Bs)) : setCells t.cells 115 [slAV Bs.cells d] = ({ t with buses := d } : Tb).cells := by
  have e : (t.phases.flatMap Ph.cells).length = 104 := by rw [flatMap_len Ph.len, h.phases]
  have e2 : (t.conflict.map I).length = 8 := by simp [h.conflict]
  unfold Tb.cells
  rw [set_right (by omega), e, show 115 - 104 = 10 + 1 by omega, set_skip, set_right (by omega), e2]
  rfl
theorem Tb.Ln.set_nums (v : Int) : setCells t.cells 116 [I v] = ({ t with extend := v } : Tb).cells ∧ setCells t.cells 117 [I v] = ({ t with budget := v } : Tb).cells ∧ setCells t.cells 118 [I v] = ({ t with start := v } : Tb).cells ∧
    setCells t.cells 119 [I v] = ({ t with revert := v } : Tb).cells ∧ setCells t.cells 120 [I v] = ({ t with least := v } : Tb).cells := by
  have e : (t.phases.flatMap Ph.cells).length = 104 := by rw [flatMap_len Ph.len, h.phases]
  have e2 : (t.conflict.map I).length = 8 := by simp [h.conflict]
  unfold Tb.cells
  refine ⟨?_, ?_, ?_, ?_, ?_⟩
  · rw [set_right (by omega), e, show 116 - 104 = 11 + 1 by omega, set_skip, set_right (by omega), e2]; rfl
  · rw [set_right (by omega), e, show 117 - 104 = 12 + 1 by omega, set_skip, set_right (by omega), e2]; rfl
  · rw [set_right (by omega), e, show 118 - 104 = 13 + 1 by omega, set_skip, set_right (by omega), e2]; rfl
  · rw [set_right (by omega), e, show 119 - 104 = 14 + 1 by omega, set_skip, set_right (by omega), e2]; rfl
  · rw [set_right (by omega), e, show 120 - 104 = 15 + 1 by omega, set_skip, set_right (by omega), e2]; rfl
theorem Tb.Ln.set_last (v : Int) : setCells t.cells 129 [I v] = ({ t with window := v } : Tb).cells ∧ setCells t.cells 130 [I v] = ({ t with share := v } : Tb).cells := by
  have e : (t.phases.flatMap Ph.cells).length = 104 := by rw [flatMap_len Ph.len, h.phases]
  have e2 : (t.conflict.map I).length = 8 := by simp [h.conflict]
  have e3 : (t.flash.map I).length = 8 := by simp [h.flash]
  unfold Tb.cells
  refine ⟨?_, ?_⟩
  · rw [set_right (by omega), e, show 129 - 104 = 24 + 1 by omega, set_skip, set_right (by omega), e2]
    simp only [Nat.reduceSub, set_skip]
    rw [set_right (by omega), e3]; rfl
  · rw [set_right (by omega), e, show 130 - 104 = 25 + 1 by omega, set_skip, set_right (by omega), e2]
    simp only [Nat.reduceSub, set_skip]
    rw [set_right (by omega), e3]; rfl
end

end Go.Eng
