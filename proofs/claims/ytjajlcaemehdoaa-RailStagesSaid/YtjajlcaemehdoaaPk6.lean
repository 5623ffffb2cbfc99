/- The engine and the library, part 6 of 6: what the proofs of this seat need of them. -/
import Derived.Test.YtjajlcaemehdoaaPk5
namespace Go.Eng
set_option linter.unusedVariables false
set_option linter.unusedSimpArgs false
set_option linter.unnecessarySimpa false
open Go
set_option linter.unusedVariables false
set_option linter.unusedSimpArgs false
set_option maxRecDepth 10000
set_option maxHeartbeats 4000000
def toE (stage : Int) (r : Rl) : Int := if stage = 1 ∨ stage = 2 then tgt r else if stage = 3 ∨ stage = 4 then r.dwell else r.exit
def subS (x y : Int) : Prop := ∀ i, i < 8 → tb x i = true → tb y i = true
def disS (x y : Int) : Prop := ∀ i, i < 8 → tb x i = true → tb y i = false
theorem sub_0 (y : Int) : subS 0 y := fun i _ h => by rw [tb_zero] at h; cases h
theorem dis_0 (y : Int) : disS 0 y := fun i _ h => by rw [tb_zero] at h; cases h
theorem andNot_0 {x y : Int} (hx : Can x) (h : subS x y) : bAndNot .i64 x y = 0 := by
  rw [andNot_zero]
  intro i hi
  cases ht : tb x i with
  | false => rfl
  | true =>
    have h8 : i < 8 := by
      rcases Nat.lt_or_ge i 8 with h | h
      · exact h
      · rw [can_high hx h hi] at ht; cases ht
    rw [h i h8 ht]; rfl
theorem and_0' {x y : Int} (hx : Can x) (h : disS x y) : bAnd .i64 x y = 0 := by
  rw [and_zero]
  intro i hi
  cases ht : tb x i with
  | false => rfl
  | true =>
    have h8 : i < 8 := by
      rcases Nat.lt_or_ge i 8 with h | h
      · exact h
      · rw [can_high hx h hi] at ht; cases ht
    rw [h i h8 ht]; rfl
theorem tho_tb {s : Int} {f : Nat → Bool} {i : Nat} (h8 : i < 8) : tb (thoW s f) i = (tb s i && f i) := by rw [thoW, tb_mk8]; simp [h8]
theorem tho_can (s : Int) (f : Nat → Bool) : Can (thoW s f) := can_mk8 _
theorem not_tb {b : Int} {i : Nat} (h8 : i < 8) : tb (bAndNot .i64 255 b) i = !tb b i := by rw [tb_andNot _ _ _ (by omega), tb_255]; simp [h8]
structure ActOk (t : Tb) (l : List Rn) (to : Int) (a : Ac) : Prop where
  cs : Can a.start
  cf : Can a.fin
  cc : Can a.cut
  start : ∀ p, p < 8 → tb a.start p = true → beginP t l p = true
  sub : subS a.start to
  cut : ∀ p, p < 8 → tb a.cut p = true → wlkR (rnAt l p) = true
  fin : ∀ p, p < 8 → tb a.fin p = true → grnR (rnAt l p) = true
  finTo : disS a.fin to
  cutTo : disS a.cut to
theorem act_begin (t : Tb) (l : List Rn) {x to : Int} (h : subS x to) : ActOk t l to ⟨beginW t l x, 0, 0, false, false⟩ :=
  ⟨tho_can _ _, can_0, can_0, fun p hp h => (by
      have h : tb (thoW x (beginP t l)) p = true := h
      rw [tho_tb hp, Bool.and_eq_true] at h; exact h.2),
    fun p hp h' => (by
      have h' : tb (thoW x (beginP t l)) p = true := h'
      rw [tho_tb hp, Bool.and_eq_true] at h'; exact h p hp h'.1),
    fun p _ h => (by have h : tb (0 : Int) p = true := h; rw [tb_zero p] at h; cases h), fun p _ h => (by have h : tb (0 : Int) p = true := h; rw [tb_zero p] at h; cases h), dis_0 _, dis_0 _⟩
theorem act_ends (t : Tb) (l : List Rn) {to : Int} {f : Nat → Bool} (hf : ∀ p, f p = true → grnR (rnAt l p) = true) {c : Int} (hc : c = 0 ∨ c = thoW (bAndNot .i64 255 to) fun p => wlkR (rnAt l p)) : ActOk t l to ⟨0, thoW (bAndNot .i64 255 to) f, c, false, false⟩ := by
  refine ⟨can_0, tho_can _ _, ?_, fun p _ h => ?_, sub_0 _, fun p hp h => ?_, fun p hp h => ?_, fun p hp h => ?_, fun p hp h => ?_⟩
  · show Can c
    rcases hc with rfl | rfl
    · exact can_0
    · exact tho_can _ _
  · have h : tb (0 : Int) p = true := h
    rw [tb_zero p] at h; cases h
  · have h : tb c p = true := h
    rcases hc with rfl | rfl
    · rw [tb_zero] at h; cases h
    · rw [tho_tb hp, Bool.and_eq_true] at h; exact h.2
  · have h : tb (thoW (bAndNot .i64 255 to) f) p = true := h
    rw [tho_tb hp, Bool.and_eq_true] at h; exact hf p h.2
  · have h : tb (thoW (bAndNot .i64 255 to) f) p = true := h
    rw [tho_tb hp, Bool.and_eq_true, not_tb hp] at h
    have := h.1; cases e : tb to p <;> simp_all
  · have h : tb c p = true := h
    rcases hc with rfl | rfl
    · rw [tb_zero] at h; cases h
    · rw [tho_tb hp, Bool.and_eq_true, not_tb hp] at h
      have := h.1; cases e : tb to p <;> simp_all
theorem does_ok (t : Tb) (s : Pr) (l : List Rn) {to : Int} (h : 1 ≤ to ∧ to < 6) : ActOk t l (toE to (wayRl t s)) (doesE t s l to) := by
  have hend : ∀ least p, endP t s least (rnAt l p) = true → grnR (rnAt l p) = true := fun least p h => by
    simp only [endP, Bool.and_eq_true] at h; exact h.1.1
  have hbet : ∀ p, betP t s (rnAt l p) = true → grnR (rnAt l p) = true := fun p h => by
    simp only [betP, Bool.and_eq_true] at h; exact h.1
  have hlv : ∀ p, lvP t p (rnAt l p) = true → grnR (rnAt l p) = true := fun p h => by
    simp only [lvP, Bool.and_eq_true] at h; exact h.1.1
  have e : to = 1 ∨ to = 2 ∨ to = 3 ∨ to = 4 ∨ to = 5 := by omega
  rcases e with rfl | rfl | rfl | rfl | rfl
  · exact act_ends t l (fun p h => hend _ p h) (.inr rfl)
  · refine act_begin t l (to := toE 2 (wayRl t s)) ?_
    show subS (wayRl t s).clear (tgt (wayRl t s))
    unfold tgt
    split
    · rename_i h0; rw [h0]; exact sub_0 _
    · exact fun i _ h => h
  · exact act_ends t l (fun p h => hbet p h) (.inr rfl)
  · exact act_begin t l (to := toE 4 (wayRl t s)) fun i _ h => h
  · exact act_ends t l (fun p h => hlv p h) (.inl rfl)
theorem ready_rng (t : Tb) (s : Pr) : readyE t s = -1 ∨ (0 ≤ readyE t s ∧ readyE t s < (nR t : Int)) := by
  unfold readyE
  split
  · rename_i k hk
    have := List.mem_of_find?_eq_some hk
    rw [List.mem_range] at this
    right; omega
  · left; rfl
theorem acts_law (t : Tb) (x : Pr) (lines : Int) (l : List Rn) (hx : 0 ≤ x.stage ∧ x.stage < 6) (hw : x.stage ≠ 0 → 0 ≤ x.which ∧ x.which < (nR t : Int)) :
    (((railE t x lines l).2.free || (railE t x lines l).2.back) = true → (railE t x lines l).2.fin = 0 ∧ (railE t x lines l).2.cut = 0 ∧ ((railE t x lines l).2.back = true ∨ (railE t x lines l).2.start = 0)) ∧
    (((railE t x lines l).2.free || (railE t x lines l).2.back) = false → 0 ≤ (railE t x lines l).1.which ∧ (railE t x lines l).1.which < (nR t : Int) ∧ ActOk t l (toE (railE t x lines l).1.stage (wayRl t (railE t x lines l).1)) (railE t x lines l).2) := by
  have hu : stgE (linesE t x lines) = linesE t x lines := if_neg (by show ¬ (x.stage < 0 ∨ 6 ≤ x.stage); omega)
  have e1 : (linesE t x lines).stage = x.stage := rfl
  have e2 : (linesE t x lines).which = x.which := rfl
  have hr : railE t x lines l = stepP t (linesE t x lines) l := by rw [railE, preL, hu]
  rw [hr]
  generalize linesE t x lines = u at *
  rw [← e1, ← e2] at hw
  rw [← e1] at hx
  clear e1 e2 hr hu
  unfold stepP
  split
  · rename_i h
    obtain ⟨h1, h2⟩ := takes_spec h
    have hrr := ready_rng t u
    refine ⟨fun h => (by cases h), fun _ => ⟨h1, ?_, ?_⟩⟩
    · show readyE t u < _; omega
    · exact does_ok t { u with stage := 1, which := readyE t u, time := 0 } l (to := 1) (by omega)
  · split
    · exact ⟨fun _ => ⟨rfl, rfl, .inl rfl⟩, fun h => (by cases h)⟩
    · have hrng := turns_rng t u l
      have hfl := does_flags t (goesE t (turnsE t u l).2 l (turnsE t u l).1 u.stage) l hrng
      have hwhich : (turnsE t u l).1 ≠ 0 → 0 ≤ (turnsE t u l).2.which ∧ (turnsE t u l).2.which < (nR t : Int) := by
        intro hne
        have hs0 : u.stage ≠ 0 := by
          intro e
          apply hne
          simp [turnsE, e]
        have hk := hw hs0
        unfold turnsE
        repeat' split
        all_goals first | exact hk | skip
        unfold dwellsW
        have hsw : (spentW t u).which = u.which := by unfold spentW; split <;> rfl
        split
        · exact hk
        · split
          · rename_i h0
            have hrr := ready_rng t (spentW t u)
            exact ⟨h0, by show readyE t (spentW t u) < _; omega⟩
          · rw [hsw]; exact hk
      refine ⟨fun h => ?_, fun h => ?_⟩
      · rw [hfl.1, hfl.2, Bool.or_false, beq_iff_eq] at h
        rw [h]
        exact ⟨rfl, rfl, .inr rfl⟩
      · rw [hfl.1, hfl.2, Bool.or_false] at h
        have hne := beq_eq_false_iff_ne.1 h
        obtain ⟨k1, k2⟩ := hwhich hne
        exact ⟨k1, k2, does_ok t _ l (to := (turnsE t u l).1) (by omega)⟩
theorem run_fst {l : List Rn} {k : Nat} (h : l.length = 8) (hk : k < 8) : (runsC l)[k * 12 + 2]? = some (I (rnAt l k).fst) := by
  have := part_in (runs_at h hk) (j := 2) (by omega)
  rw [this]; rfl
def railActs.Spec (C : Con) (f : Nat) : Prop := ∀ (l : Option (List Int)) (s : Pr) (lines : Int) (rs : List Rn), s.held.length = 4 → rs.length = 8 → C.c f [slAV intRow l, .agg s.cells, I lines, .agg (runsC rs)] (B true) none
section
variable {P : Program} (hm : P.follows .mixedOrders = true) {f : Nat}
include hm
theorem railActs.ok {fT fP fS fG fA fL e fC fD fH : Nat} (hc : cFn P f = some (cc_law21_RailActs fT fP fS fG fA fL fC fD fH)) (hT : Table.Spec (Pure P) fT) (hP : lPre.Spec (Pure P) fP) (hS : pStep.Spec (Pure P) fS) (hG : green19.Spec (Pure P) fG) (hA : awake21.Spec (Pure P) fA)
    (hL : refList.Spec (Pure P) fL e) (hC : clash00.Spec (Pure P) fC) (hD : reds19.Spec (Pure P) fD) (hH : refHas.Spec (Pure P) fH) : railActs.Spec (Pure P) f := by
  intro l s lines rs hs hrs
  have ok := tableOf_ok l
  have c0 := hT l
  have hsym := fun {p q} => table_sym l (p := p) (q := q)
  have hr2 := (tRails l).1
  generalize tableOf l = t at *
  have hnr : nR t = nRl t := by unfold nR; rw [show nRl t = (t.rails.getD []).length from rfl]; omega
  have hx := preE_ok (t := t) hs
  have hxr := preE_rng (t := t) (s := s)
  have hxw : (preE t s).stage ≠ 0 → 0 ≤ (preE t s).which ∧ (preE t s).which < (nR t : Int) := by
    by_cases e : (if nRl t = 0 then 0 else place s.stage 6) = 0
    · rw [preE, if_pos e]; intro h; exact absurd rfl h
    · rw [preE, if_neg e]; intro _
      have hn0 : nRl t ≠ 0 := fun h => e (if_pos h)
      rw [hnr]
      have : nRl t < 1000 := by rw [show nRl t = (t.rails.getD []).length from rfl]; omega
      exact place_range (by have := Nat.pos_of_ne_zero hn0; omega) (by omega)
  have c1 := hP t s ok hs
  generalize preE t s = x at *
  have c2 := hS t x lines rs ⟨ok, hx, hrs⟩
  have hlaw := acts_law t x lines rs hxr hxw
  have hal : (railE t x lines rs).1.held.length = 4 := by
    rw [railE, stepP]
    have h0 : (preL t x lines).held.length = 4 := by rw [preL, stgE]; split <;> rfl
    split
    · exact h0
    · split
      · exact turns_ok h0
      · exact turns_ok h0
  generalize (railE t x lines rs).1 = a at *
  generalize (railE t x lines rs).2 = act at *
  obtain ⟨l1, l2⟩ := hlaw
  have c3 := hG rs hrs
  rw [green_mk rs 8 (by omega)] at c3
  have c3 : (Pure P).c fG [.agg (runsC rs)] (I (grnI rs)) none := c3
  have c4 := hD rs hrs
  have hg := Tb.rails_at ok
  have hw := ok.ln.whole
  have hl := ok.ln.len
  have hz : setCells z131_45020 0 t.cells = t.cells := set_all (by rw [hl]; rfl)
  have hzl : z131_45020.length = 131 := rfl
  have k8 : ∀ v : Pr, v.held.length = 4 → setCells [I 0, I 0, I 0, I 0, I 0, I 0, I 0, I 0] 0 v.cells = v.cells := fun v hv => set_all (by rw [Pr.len hv]; rfl)
  have kx := k8 x hx
  have ka := k8 a hal
  have x1 := Pr.len hx
  have x2 := Pr.whole hx
  have a1 := Pr.len hal
  have s1 := Pr.len hs
  have s2 := Pr.whole hs
  have r1 := runsC_len hrs
  have r2 := runs_whole hrs
  have a3 : a.cells[0]? = some (I a.stage) ∧ a.cells[1]? = some (I a.which) := ⟨rfl, rfl⟩
  have kA : act.cells.length = 5 ∧ setCells [I 0, I 0, I 0, B false, B false] 0 act.cells = act.cells ∧ act.cells[3]? = some (B act.free) ∧ act.cells[4]? = some (B act.back) ∧ act.cells[0]? = some (I act.start) ∧ act.cells[1]? = some (I act.fin) ∧ act.cells[2]? = some (I act.cut) := ⟨rfl, rfl, rfl, rfl, rfl, rfl, rfl⟩
  refine pure_of hm hc (by show 4 ≤ 171; decide) (aw_flat (keep := []) (i := 0) ?_)
  try simp only [I, B, D, RY, ↓ KW, seval, cc_law21_RailActs, Z.H, hw, hl, hz, hzl, kx, ka, x1, x2, a1, a3, s1, s2, r1, r2, kA, hg]
  refine call_is c0 ?_
  try simp only [I, B, D, RY, ↓ KW, seval, hw, hl, hz, hzl, kx, ka, x1, x2, a1, a3, s1, s2, r1, r2, kA, hg]
  refine call_is c1 ?_
  try simp only [I, B, D, RY, ↓ KW, seval, hw, hl, hz, hzl, kx, ka, x1, x2, a1, a3, s1, s2, r1, r2, kA, hg]
  refine call_is c2 ?_
  try simp only [I, B, D, RY, ↓ KW, seval, hw, hl, hz, hzl, kx, ka, x1, x2, a1, a3, s1, s2, r1, r2, kA, hg]
  refine call_is c3 ?_
  try simp only [I, B, D, RY, ↓ KW, seval, hw, hl, hz, hzl, kx, ka, x1, x2, a1, a3, s1, s2, r1, r2, kA, hg]
  by_cases hfb : (act.free || act.back) = true
  · obtain ⟨h1, h2, h3⟩ := l1 hfb
    have z1 : (act.fin == 0) = true := by rw [h1]; rfl
    have z2 : (act.cut == 0) = true := by rw [h2]; rfl
    cases hfr : act.free <;> cases hbk : act.back
    · rw [hfr, hbk] at hfb; cases hfb
    · try simp only [I, B, D, RY, ↓ KW, seval, hfr, hbk, z1, z2, hw, hl, hz, hzl, kx, ka, x1, x2, a1, a3, s1, s2, r1, r2, kA, hg]
      refine call_is hA ?_
      try simp only [I, B, D, RY, ↓ KW, seval]
    · have z3 : (act.start == 0) = true := by
        rcases h3 with e | e
        · rw [hbk] at e; cases e
        · rw [e]; rfl
      try simp only [I, B, D, RY, ↓ KW, seval, hfr, hbk, z1, z2, z3, hw, hl, hz, hzl, kx, ka, x1, x2, a1, a3, s1, s2, r1, r2, kA, hg]
      refine call_is hA ?_
      try simp only [I, B, D, RY, ↓ KW, seval]
    · try simp only [I, B, D, RY, ↓ KW, seval, hfr, hbk, z1, z2, hw, hl, hz, hzl, kx, ka, x1, x2, a1, a3, s1, s2, r1, r2, kA, hg]
      refine call_is hA ?_
      try simp only [I, B, D, RY, ↓ KW, seval]
  have hfb : (act.free || act.back) = false := by simpa using hfb
  obtain ⟨k1, k2, hact⟩ := l2 hfb
  have hfr : act.free = false := by cases e : act.free <;> simp_all
  have hbk : act.back = false := by cases e : act.back <;> simp_all
  have hrl : wayRl t a = rlN t a.which.toNat := if_pos ⟨k1, k2⟩
  obtain ⟨r, hr⟩ : ∃ r, wayRl t a = r := ⟨_, rfl⟩
  rw [hr] at hact hrl
  have hget : (t.rails.getD [])[a.which.toNat]? = some r := by
    rw [hrl]
    have : a.which.toNat < (t.rails.getD []).length := by rw [hnr, show nRl t = (t.rails.getD []).length from rfl] at k2; omega
    simp [rlN, this]
  have w1 : decide (a.which < 0) = false := by simp; omega
  have w2 : decide (a.which ≥ ((t.rails.getD []).length : Int)) = false := by
    rw [hnr, show nRl t = (t.rails.getD []).length from rfl] at k2; simp; omega
  have w3 : 0 ≤ a.which ∧ a.which < ((t.rails.getD []).length : Int) := by
    rw [hnr, show nRl t = (t.rails.getD []).length from rfl] at k2; exact ⟨k1, k2⟩
  have rz : setCells z11_58867 0 r.cells = r.cells := rfl
  have rzl : z11_58867.length = 11 := rfl
  have rp : partA r.cells 0 (some 11) = some (.agg r.cells) := rfl
  have rc : r.cells[1]? = some (I r.clear) ∧ r.cells[2]? = some (I r.dwell) ∧ r.cells[3]? = some (I r.exit) := ⟨rfl, rfl, rfl⟩
  obtain ⟨to, hte⟩ : ∃ to, to = toE a.stage r := ⟨_, rfl⟩
  rw [← hte] at hact
  have hlist : ∀ (x : Int) {i : Nat}, i < (listS x).length → ∃ p : Nat, p < 8 ∧ (listS x)[i]? = some (p : Int) ∧ tb x p = true := by
    intro x i hi
    rw [listS_N, List.length_map] at hi
    have hq := List.getElem?_eq_getElem hi
    have hm := List.getElem_mem hi
    exact ⟨(setN x)[i], setN_lt hm, by rw [listS_N, List.getElem?_map, hq]; rfl, setN_tb hm⟩
  have hst := fun {i} => hlist act.start (i := i)
  have hct := fun {i} => hlist act.cut (i := i)
  have hcut : ∀ p, p < 8 → tb act.cut p = true → ((rnAt rs p).fst != 1) = false := fun p hp h => by
    have := hact.cut p hp h
    simp only [wlkR, beq_iff_eq] at this
    rw [this]; rfl
  have hreds : ∀ p, p < 8 → tb act.start p = true → ∀ q, q < 8 → (q = p ∨ clashB t p q = true) → hasR (redI rs) q = true := fun p hp h q hq hc => by
    have hb := hact.start p hp h
    simp only [beginP, Bool.and_eq_true] at hb
    rw [hasR_tb hq, redI, tb_mk8]
    simp only [hq, decide_true, Bool.true_and]
    rcases hc with rfl | hc
    · exact hb.1.1
    · have hcon : tb (conAt t p) q = true := by
        simp only [clashB, Bool.or_eq_true] at hc
        rcases hc with e | e
        · rw [hasR_tb hq] at e; exact e
        · rw [hasR_tb hp] at e; rw [hsym hp hq]; exact e
      exact all8_iff.1 hb.2 q hq hcon
  have z1 : (bAndNot .i64 act.start to == 0) = true := by rw [andNot_0 hact.cs hact.sub]; rfl
  have z2 : (bAndNot .i64 act.fin (grnI rs) == 0) = true := by
    rw [andNot_0 hact.cf fun p hp h => by rw [grnI, tb_mk8]; simp [hp, hact.fin p hp h]]; rfl
  have z3 : (bAnd .i64 act.fin to == 0) = true := by rw [and_0' hact.cf hact.finTo]; rfl
  have z4 : (bAnd .i64 act.cut to == 0) = true := by rw [and_0' hact.cc hact.cutTo]; rfl
  try simp only [I, B, D, RY, ↓ KW, seval, hw, hl, hz, hzl, kx, ka, x1, x2, a1, a3, s1, s2, r1, r2, kA, hg, hfr, hbk, w1, w2, w3, rz, rzl, rp, rc, hget, Rl.len]
  cases d1 : (a.stage == 1)
  rotate_left
  · have hs1 : a.stage = 1 := eq_of_beq d1
    cases d5 : (r.clear == 0)
    · have hto : r.clear = to := by rw [hte, toE, if_pos (.inl hs1), tgt, if_neg (beq_eq_false_iff_ne.1 d5)]
      try simp only [I, B, D, RY, ↓ KW, seval, d1, d5, hw, hl, hz, hzl, kx, ka, x1, x2, a1, a3, s1, s2, r1, r2, kA, hg, hfr, hbk, w1, w2, w3, rz, rzl, rp, rc, hget, Rl.len]
      try try simp only [I, B, D, RY, ↓ KW, seval, d1, d5, hw, hl, hz, hzl, kx, ka, x1, x2, a1, a3, s1, s2, r1, r2, kA, hg, hfr, hbk, w1, w2, w3, rz, rzl, rp, rc, hget, Rl.len]
      refine call_is (hL act.start none (.inl rfl)) ?_
      try simp only [I, B, D, RY, ↓ KW, seval, hw, hl, hz, hzl, kx, ka, x1, x2, a1, a3, s1, s2, r1, r2, kA, hg, hfr, hbk, w1, w2, w3, rz, rzl, rp, rc, hget, Rl.len]
      refine aw_loop' (fun i : Nat => (⟨[(102, .dat (I i) none), (101, .dat (I (listS act.start).length) none), (100, .dat (slAV intRow (mkO (listS act.start))) none), (9, .ptr 9 0), (7, .ptr 5 0), (12, .ptr 25 0), (15, .dat (I to) none), (13, .dat (I (grnI rs)) none)], [(9, ⟨t.cells, []⟩), (5, ⟨runsC rs, []⟩), (25, ⟨act.cells, []⟩)], [], 400⟩ : S)) (fun i => (listS act.start).length - i) (fun i => i ≤ (listS act.start).length) ?_ 0 (by omega) ?_
      rotate_left
      · refine le_tok2 (by decide) ?_ ?_ ?_ ?_ <;> simp [LX, I, B, D, hto, mkO_getD]
      intro i hi A back
      have hwr := wrap_succ (k := i) (by have := listS_len act.start; omega)
      try simp only [I, B, D, RY, ↓ KW, seval]
      cases hlt : decide ((i : Int) < ((listS act.start).length : Int))
      rotate_left
      · have hi2 : i < (listS act.start).length := by have := of_decide_eq_true hlt; omega
        obtain ⟨p, hp8, hps, hpt⟩ := hst hi2
        try simp only [I, B, D, RY, ↓ KW, seval, hlt, mkO_getD]
        refine ⟨by omega, ?_⟩
        try simp only [I, B, D, RY, ↓ KW, seval, hps, intRow, mkO_getD]
        refine aw_loop' (fun q : Nat => (⟨[(18, .dat (I q) none), (17, .dat (I p) none), (9, .ptr 9 0), (7, .ptr 5 0), (102, .dat (I i) none), (101, .dat (I (listS act.start).length) none), (100, .dat (slAV intRow (mkO (listS act.start))) none), (12, .ptr 25 0), (15, .dat (I to) none), (13, .dat (I (grnI rs)) none)], [(9, ⟨t.cells, []⟩), (5, ⟨runsC rs, []⟩), (25, ⟨act.cells, []⟩)], [], 400⟩ : S)) (fun q => 8 - q) (fun q => q ≤ 8) ?_ 0 (by omega) ?_
        rotate_left
        · refine le_tok2 (by decide) ?_ ?_ ?_ ?_ <;> simp [LX, I, B, D]
        intro q hq A2 back2
        have hwr2 := wrap_succ (k := q) (by omega)
        try simp only [I, B, D, RY, ↓ KW, seval]
        cases hq8 : decide ((q : Int) < 8)
        · try simp only [I, B, D, RY, ↓ KW, seval, hq8]
          refine back (i + 1) _ (by omega) (by omega) ?_
          refine le_tok2 (by decide) ?_ ?_ ?_ ?_ <;> simp [LX, I, B, D, hwr]
        · have h8 : q < 8 := by have := of_decide_eq_true hq8; omega
          have hrd := hreds p hp8 hpt q h8
          cases hqp : ((q : Int) == (p : Int))
          · try simp only [I, B, D, RY, ↓ KW, seval, hq8, hqp, hw, hl, hz, hzl, kx, ka, x1, x2, a1, a3, s1, s2, r1, r2, kA, hg]
            refine call_is (hC t p q ok.ln hp8 h8) ?_
            cases hcl : clashB t p q
            · try simp only [I, B, D, RY, ↓ KW, seval]
              refine back2 (q + 1) _ (by omega) (by omega) ?_
              refine le_tok2 (by decide) ?_ ?_ ?_ ?_ <;> simp [LX, I, B, D, hwr2]
            · try simp only [I, B, D, RY, ↓ KW, seval, hw, hl, hz, hzl, kx, ka, x1, x2, a1, a3, s1, s2, r1, r2, kA, hg]
              refine call_is c4 ?_
              try simp only [I, B, D, RY, ↓ KW, seval]
              refine call_is (hH (redI rs) q) ?_
              rw [hrd (.inr hcl)]
              try simp only [I, B, D, RY, ↓ KW, seval]
              refine back2 (q + 1) _ (by omega) (by omega) ?_
              refine le_tok2 (by decide) ?_ ?_ ?_ ?_ <;> simp [LX, I, B, D, hwr2]
          · try simp only [I, B, D, RY, ↓ KW, seval, hq8, hqp, hw, hl, hz, hzl, kx, ka, x1, x2, a1, a3, s1, s2, r1, r2, kA, hg]
            refine call_is c4 ?_
            try simp only [I, B, D, RY, ↓ KW, seval]
            refine call_is (hH (redI rs) q) ?_
            rw [hrd (.inl (by have := eq_of_beq hqp; omega))]
            try simp only [I, B, D, RY, ↓ KW, seval]
            refine back2 (q + 1) _ (by omega) (by omega) ?_
            refine le_tok2 (by decide) ?_ ?_ ?_ ?_ <;> simp [LX, I, B, D, hwr2]
      try simp only [I, B, D, RY, ↓ KW, seval, hlt, hw, hl, hz, hzl, kx, ka, x1, x2, a1, a3, s1, s2, r1, r2, kA, hg, hfr, hbk, w1, w2, w3, rz, rzl, rp, rc, hget, Rl.len]
      refine call_is (hL act.cut none (.inl rfl)) ?_
      try simp only [I, B, D, RY, ↓ KW, seval, hw, hl, hz, hzl, kx, ka, x1, x2, a1, a3, s1, s2, r1, r2, kA, hg, hfr, hbk, w1, w2, w3, rz, rzl, rp, rc, hget, Rl.len]
      refine aw_loop' (fun i : Nat => (⟨[(131, .dat (I i) none), (130, .dat (I (listS act.cut).length) none), (129, .dat (slAV intRow (mkO (listS act.cut))) none), (7, .ptr 5 0), (12, .ptr 25 0), (15, .dat (I to) none), (13, .dat (I (grnI rs)) none)], [(5, ⟨runsC rs, []⟩), (25, ⟨act.cells, []⟩)], [], 400⟩ : S)) (fun i => (listS act.cut).length - i) (fun i => i ≤ (listS act.cut).length) ?_ 0 (by omega) ?_
      rotate_left
      · refine le_tok2 (by decide) ?_ ?_ ?_ ?_ <;> simp [LX, I, B, D, mkO_getD]
      intro i2 hi2' A3 back3
      have hwr3 := wrap_succ (k := i2) (by have := listS_len act.cut; omega)
      try simp only [I, B, D, RY, ↓ KW, seval]
      cases hlt2 : decide ((i2 : Int) < ((listS act.cut).length : Int))
      rotate_left
      · have hi3 : i2 < (listS act.cut).length := by have := of_decide_eq_true hlt2; omega
        obtain ⟨p, hp8, hps, hpt⟩ := hct hi3
        have hwk := hcut p hp8 hpt
        have hy : 0 ≤ (p : Int) ∧ (p : Int) < 8 := by omega
        have hfc := run_fst hrs hp8
        try simp only [I, B, D, RY, ↓ KW, seval, hlt2, mkO_getD]
        refine ⟨by omega, ?_⟩
        try simp only [I, B, D, RY, ↓ KW, seval, hps, intRow, mkO_getD, hy, hfc, hwk]
        refine back3 (i2 + 1) _ (by omega) (by omega) ?_
        refine le_tok2 (by decide) ?_ ?_ ?_ ?_ <;> simp [LX, I, B, D, hwr3]
      try simp only [I, B, D, RY, ↓ KW, seval, hlt2, hw, hl, hz, hzl, kx, ka, x1, x2, a1, a3, s1, s2, r1, r2, kA, hg, hfr, hbk, w1, w2, w3, rz, rzl, rp, rc, hget, Rl.len, z1, z2, z3, z4]
      refine call_is hA ?_
      try simp only [I, B, D, RY, ↓ KW, seval]
    · have hto : r.dwell = to := by rw [hte, toE, if_pos (.inl hs1), tgt, if_pos (eq_of_beq d5)]
      try simp only [I, B, D, RY, ↓ KW, seval, d1, d5, hw, hl, hz, hzl, kx, ka, x1, x2, a1, a3, s1, s2, r1, r2, kA, hg, hfr, hbk, w1, w2, w3, rz, rzl, rp, rc, hget, Rl.len]
      try try simp only [I, B, D, RY, ↓ KW, seval, d1, d5, hw, hl, hz, hzl, kx, ka, x1, x2, a1, a3, s1, s2, r1, r2, kA, hg, hfr, hbk, w1, w2, w3, rz, rzl, rp, rc, hget, Rl.len]
      refine call_is (hL act.start none (.inl rfl)) ?_
      try simp only [I, B, D, RY, ↓ KW, seval, hw, hl, hz, hzl, kx, ka, x1, x2, a1, a3, s1, s2, r1, r2, kA, hg, hfr, hbk, w1, w2, w3, rz, rzl, rp, rc, hget, Rl.len]
      refine aw_loop' (fun i : Nat => (⟨[(102, .dat (I i) none), (101, .dat (I (listS act.start).length) none), (100, .dat (slAV intRow (mkO (listS act.start))) none), (9, .ptr 9 0), (7, .ptr 5 0), (12, .ptr 25 0), (15, .dat (I to) none), (13, .dat (I (grnI rs)) none)], [(9, ⟨t.cells, []⟩), (5, ⟨runsC rs, []⟩), (25, ⟨act.cells, []⟩)], [], 400⟩ : S)) (fun i => (listS act.start).length - i) (fun i => i ≤ (listS act.start).length) ?_ 0 (by omega) ?_
      rotate_left
      · refine le_tok2 (by decide) ?_ ?_ ?_ ?_ <;> simp [LX, I, B, D, hto, mkO_getD]
      intro i hi A back
      have hwr := wrap_succ (k := i) (by have := listS_len act.start; omega)
      try simp only [I, B, D, RY, ↓ KW, seval]
      cases hlt : decide ((i : Int) < ((listS act.start).length : Int))
      rotate_left
      · have hi2 : i < (listS act.start).length := by have := of_decide_eq_true hlt; omega
        obtain ⟨p, hp8, hps, hpt⟩ := hst hi2
        try simp only [I, B, D, RY, ↓ KW, seval, hlt, mkO_getD]
        refine ⟨by omega, ?_⟩
        try simp only [I, B, D, RY, ↓ KW, seval, hps, intRow, mkO_getD]
        refine aw_loop' (fun q : Nat => (⟨[(18, .dat (I q) none), (17, .dat (I p) none), (9, .ptr 9 0), (7, .ptr 5 0), (102, .dat (I i) none), (101, .dat (I (listS act.start).length) none), (100, .dat (slAV intRow (mkO (listS act.start))) none), (12, .ptr 25 0), (15, .dat (I to) none), (13, .dat (I (grnI rs)) none)], [(9, ⟨t.cells, []⟩), (5, ⟨runsC rs, []⟩), (25, ⟨act.cells, []⟩)], [], 400⟩ : S)) (fun q => 8 - q) (fun q => q ≤ 8) ?_ 0 (by omega) ?_
        rotate_left
        · refine le_tok2 (by decide) ?_ ?_ ?_ ?_ <;> simp [LX, I, B, D]
        intro q hq A2 back2
        have hwr2 := wrap_succ (k := q) (by omega)
        try simp only [I, B, D, RY, ↓ KW, seval]
        cases hq8 : decide ((q : Int) < 8)
        · try simp only [I, B, D, RY, ↓ KW, seval, hq8]
          refine back (i + 1) _ (by omega) (by omega) ?_
          refine le_tok2 (by decide) ?_ ?_ ?_ ?_ <;> simp [LX, I, B, D, hwr]
        · have h8 : q < 8 := by have := of_decide_eq_true hq8; omega
          have hrd := hreds p hp8 hpt q h8
          cases hqp : ((q : Int) == (p : Int))
          · try simp only [I, B, D, RY, ↓ KW, seval, hq8, hqp, hw, hl, hz, hzl, kx, ka, x1, x2, a1, a3, s1, s2, r1, r2, kA, hg]
            refine call_is (hC t p q ok.ln hp8 h8) ?_
            cases hcl : clashB t p q
            · try simp only [I, B, D, RY, ↓ KW, seval]
              refine back2 (q + 1) _ (by omega) (by omega) ?_
              refine le_tok2 (by decide) ?_ ?_ ?_ ?_ <;> simp [LX, I, B, D, hwr2]
            · try simp only [I, B, D, RY, ↓ KW, seval, hw, hl, hz, hzl, kx, ka, x1, x2, a1, a3, s1, s2, r1, r2, kA, hg]
              refine call_is c4 ?_
              try simp only [I, B, D, RY, ↓ KW, seval]
              refine call_is (hH (redI rs) q) ?_
              rw [hrd (.inr hcl)]
              try simp only [I, B, D, RY, ↓ KW, seval]
              refine back2 (q + 1) _ (by omega) (by omega) ?_
              refine le_tok2 (by decide) ?_ ?_ ?_ ?_ <;> simp [LX, I, B, D, hwr2]
          · try simp only [I, B, D, RY, ↓ KW, seval, hq8, hqp, hw, hl, hz, hzl, kx, ka, x1, x2, a1, a3, s1, s2, r1, r2, kA, hg]
            refine call_is c4 ?_
            try simp only [I, B, D, RY, ↓ KW, seval]
            refine call_is (hH (redI rs) q) ?_
            rw [hrd (.inl (by have := eq_of_beq hqp; omega))]
            try simp only [I, B, D, RY, ↓ KW, seval]
            refine back2 (q + 1) _ (by omega) (by omega) ?_
            refine le_tok2 (by decide) ?_ ?_ ?_ ?_ <;> simp [LX, I, B, D, hwr2]
      try simp only [I, B, D, RY, ↓ KW, seval, hlt, hw, hl, hz, hzl, kx, ka, x1, x2, a1, a3, s1, s2, r1, r2, kA, hg, hfr, hbk, w1, w2, w3, rz, rzl, rp, rc, hget, Rl.len]
      refine call_is (hL act.cut none (.inl rfl)) ?_
      try simp only [I, B, D, RY, ↓ KW, seval, hw, hl, hz, hzl, kx, ka, x1, x2, a1, a3, s1, s2, r1, r2, kA, hg, hfr, hbk, w1, w2, w3, rz, rzl, rp, rc, hget, Rl.len]
      refine aw_loop' (fun i : Nat => (⟨[(131, .dat (I i) none), (130, .dat (I (listS act.cut).length) none), (129, .dat (slAV intRow (mkO (listS act.cut))) none), (7, .ptr 5 0), (12, .ptr 25 0), (15, .dat (I to) none), (13, .dat (I (grnI rs)) none)], [(5, ⟨runsC rs, []⟩), (25, ⟨act.cells, []⟩)], [], 400⟩ : S)) (fun i => (listS act.cut).length - i) (fun i => i ≤ (listS act.cut).length) ?_ 0 (by omega) ?_
      rotate_left
      · refine le_tok2 (by decide) ?_ ?_ ?_ ?_ <;> simp [LX, I, B, D, mkO_getD]
      intro i2 hi2' A3 back3
      have hwr3 := wrap_succ (k := i2) (by have := listS_len act.cut; omega)
      try simp only [I, B, D, RY, ↓ KW, seval]
      cases hlt2 : decide ((i2 : Int) < ((listS act.cut).length : Int))
      rotate_left
      · have hi3 : i2 < (listS act.cut).length := by have := of_decide_eq_true hlt2; omega
        obtain ⟨p, hp8, hps, hpt⟩ := hct hi3
        have hwk := hcut p hp8 hpt
        have hy : 0 ≤ (p : Int) ∧ (p : Int) < 8 := by omega
        have hfc := run_fst hrs hp8
        try simp only [I, B, D, RY, ↓ KW, seval, hlt2, mkO_getD]
        refine ⟨by omega, ?_⟩
        try simp only [I, B, D, RY, ↓ KW, seval, hps, intRow, mkO_getD, hy, hfc, hwk]
        refine back3 (i2 + 1) _ (by omega) (by omega) ?_
        refine le_tok2 (by decide) ?_ ?_ ?_ ?_ <;> simp [LX, I, B, D, hwr3]
      try simp only [I, B, D, RY, ↓ KW, seval, hlt2, hw, hl, hz, hzl, kx, ka, x1, x2, a1, a3, s1, s2, r1, r2, kA, hg, hfr, hbk, w1, w2, w3, rz, rzl, rp, rc, hget, Rl.len, z1, z2, z3, z4]
      refine call_is hA ?_
      try simp only [I, B, D, RY, ↓ KW, seval]
  cases d2 : (a.stage == 2)
  rotate_left
  · have hs1 : a.stage = 2 := eq_of_beq d2
    cases d5 : (r.clear == 0)
    · have hto : r.clear = to := by rw [hte, toE, if_pos (.inr hs1), tgt, if_neg (beq_eq_false_iff_ne.1 d5)]
      try simp only [I, B, D, RY, ↓ KW, seval, d1, d2, d5, hw, hl, hz, hzl, kx, ka, x1, x2, a1, a3, s1, s2, r1, r2, kA, hg, hfr, hbk, w1, w2, w3, rz, rzl, rp, rc, hget, Rl.len]
      try try simp only [I, B, D, RY, ↓ KW, seval, d1, d2, d5, hw, hl, hz, hzl, kx, ka, x1, x2, a1, a3, s1, s2, r1, r2, kA, hg, hfr, hbk, w1, w2, w3, rz, rzl, rp, rc, hget, Rl.len]
      refine call_is (hL act.start none (.inl rfl)) ?_
      try simp only [I, B, D, RY, ↓ KW, seval, hw, hl, hz, hzl, kx, ka, x1, x2, a1, a3, s1, s2, r1, r2, kA, hg, hfr, hbk, w1, w2, w3, rz, rzl, rp, rc, hget, Rl.len]
      refine aw_loop' (fun i : Nat => (⟨[(102, .dat (I i) none), (101, .dat (I (listS act.start).length) none), (100, .dat (slAV intRow (mkO (listS act.start))) none), (9, .ptr 9 0), (7, .ptr 5 0), (12, .ptr 25 0), (15, .dat (I to) none), (13, .dat (I (grnI rs)) none)], [(9, ⟨t.cells, []⟩), (5, ⟨runsC rs, []⟩), (25, ⟨act.cells, []⟩)], [], 400⟩ : S)) (fun i => (listS act.start).length - i) (fun i => i ≤ (listS act.start).length) ?_ 0 (by omega) ?_
      rotate_left
      · refine le_tok2 (by decide) ?_ ?_ ?_ ?_ <;> simp [LX, I, B, D, hto, mkO_getD]
      intro i hi A back
      have hwr := wrap_succ (k := i) (by have := listS_len act.start; omega)
      try simp only [I, B, D, RY, ↓ KW, seval]
      cases hlt : decide ((i : Int) < ((listS act.start).length : Int))
      rotate_left
      · have hi2 : i < (listS act.start).length := by have := of_decide_eq_true hlt; omega
        obtain ⟨p, hp8, hps, hpt⟩ := hst hi2
        try simp only [I, B, D, RY, ↓ KW, seval, hlt, mkO_getD]
        refine ⟨by omega, ?_⟩
        try simp only [I, B, D, RY, ↓ KW, seval, hps, intRow, mkO_getD]
        refine aw_loop' (fun q : Nat => (⟨[(18, .dat (I q) none), (17, .dat (I p) none), (9, .ptr 9 0), (7, .ptr 5 0), (102, .dat (I i) none), (101, .dat (I (listS act.start).length) none), (100, .dat (slAV intRow (mkO (listS act.start))) none), (12, .ptr 25 0), (15, .dat (I to) none), (13, .dat (I (grnI rs)) none)], [(9, ⟨t.cells, []⟩), (5, ⟨runsC rs, []⟩), (25, ⟨act.cells, []⟩)], [], 400⟩ : S)) (fun q => 8 - q) (fun q => q ≤ 8) ?_ 0 (by omega) ?_
        rotate_left
        · refine le_tok2 (by decide) ?_ ?_ ?_ ?_ <;> simp [LX, I, B, D]
        intro q hq A2 back2
        have hwr2 := wrap_succ (k := q) (by omega)
        try simp only [I, B, D, RY, ↓ KW, seval]
        cases hq8 : decide ((q : Int) < 8)
        · try simp only [I, B, D, RY, ↓ KW, seval, hq8]
          refine back (i + 1) _ (by omega) (by omega) ?_
          refine le_tok2 (by decide) ?_ ?_ ?_ ?_ <;> simp [LX, I, B, D, hwr]
        · have h8 : q < 8 := by have := of_decide_eq_true hq8; omega
          have hrd := hreds p hp8 hpt q h8
          cases hqp : ((q : Int) == (p : Int))
          · try simp only [I, B, D, RY, ↓ KW, seval, hq8, hqp, hw, hl, hz, hzl, kx, ka, x1, x2, a1, a3, s1, s2, r1, r2, kA, hg]
            refine call_is (hC t p q ok.ln hp8 h8) ?_
            cases hcl : clashB t p q
            · try simp only [I, B, D, RY, ↓ KW, seval]
              refine back2 (q + 1) _ (by omega) (by omega) ?_
              refine le_tok2 (by decide) ?_ ?_ ?_ ?_ <;> simp [LX, I, B, D, hwr2]
            · try simp only [I, B, D, RY, ↓ KW, seval, hw, hl, hz, hzl, kx, ka, x1, x2, a1, a3, s1, s2, r1, r2, kA, hg]
              refine call_is c4 ?_
              try simp only [I, B, D, RY, ↓ KW, seval]
              refine call_is (hH (redI rs) q) ?_
              rw [hrd (.inr hcl)]
              try simp only [I, B, D, RY, ↓ KW, seval]
              refine back2 (q + 1) _ (by omega) (by omega) ?_
              refine le_tok2 (by decide) ?_ ?_ ?_ ?_ <;> simp [LX, I, B, D, hwr2]
          · try simp only [I, B, D, RY, ↓ KW, seval, hq8, hqp, hw, hl, hz, hzl, kx, ka, x1, x2, a1, a3, s1, s2, r1, r2, kA, hg]
            refine call_is c4 ?_
            try simp only [I, B, D, RY, ↓ KW, seval]
            refine call_is (hH (redI rs) q) ?_
            rw [hrd (.inl (by have := eq_of_beq hqp; omega))]
            try simp only [I, B, D, RY, ↓ KW, seval]
            refine back2 (q + 1) _ (by omega) (by omega) ?_
            refine le_tok2 (by decide) ?_ ?_ ?_ ?_ <;> simp [LX, I, B, D, hwr2]
      try simp only [I, B, D, RY, ↓ KW, seval, hlt, hw, hl, hz, hzl, kx, ka, x1, x2, a1, a3, s1, s2, r1, r2, kA, hg, hfr, hbk, w1, w2, w3, rz, rzl, rp, rc, hget, Rl.len]
      refine call_is (hL act.cut none (.inl rfl)) ?_
      try simp only [I, B, D, RY, ↓ KW, seval, hw, hl, hz, hzl, kx, ka, x1, x2, a1, a3, s1, s2, r1, r2, kA, hg, hfr, hbk, w1, w2, w3, rz, rzl, rp, rc, hget, Rl.len]
      refine aw_loop' (fun i : Nat => (⟨[(131, .dat (I i) none), (130, .dat (I (listS act.cut).length) none), (129, .dat (slAV intRow (mkO (listS act.cut))) none), (7, .ptr 5 0), (12, .ptr 25 0), (15, .dat (I to) none), (13, .dat (I (grnI rs)) none)], [(5, ⟨runsC rs, []⟩), (25, ⟨act.cells, []⟩)], [], 400⟩ : S)) (fun i => (listS act.cut).length - i) (fun i => i ≤ (listS act.cut).length) ?_ 0 (by omega) ?_
      rotate_left
      · refine le_tok2 (by decide) ?_ ?_ ?_ ?_ <;> simp [LX, I, B, D, mkO_getD]
      intro i2 hi2' A3 back3
      have hwr3 := wrap_succ (k := i2) (by have := listS_len act.cut; omega)
      try simp only [I, B, D, RY, ↓ KW, seval]
      cases hlt2 : decide ((i2 : Int) < ((listS act.cut).length : Int))
      rotate_left
      · have hi3 : i2 < (listS act.cut).length := by have := of_decide_eq_true hlt2; omega
        obtain ⟨p, hp8, hps, hpt⟩ := hct hi3
        have hwk := hcut p hp8 hpt
        have hy : 0 ≤ (p : Int) ∧ (p : Int) < 8 := by omega
        have hfc := run_fst hrs hp8
        try simp only [I, B, D, RY, ↓ KW, seval, hlt2, mkO_getD]
        refine ⟨by omega, ?_⟩
        try simp only [I, B, D, RY, ↓ KW, seval, hps, intRow, mkO_getD, hy, hfc, hwk]
        refine back3 (i2 + 1) _ (by omega) (by omega) ?_
        refine le_tok2 (by decide) ?_ ?_ ?_ ?_ <;> simp [LX, I, B, D, hwr3]
      try simp only [I, B, D, RY, ↓ KW, seval, hlt2, hw, hl, hz, hzl, kx, ka, x1, x2, a1, a3, s1, s2, r1, r2, kA, hg, hfr, hbk, w1, w2, w3, rz, rzl, rp, rc, hget, Rl.len, z1, z2, z3, z4]
      refine call_is hA ?_
      try simp only [I, B, D, RY, ↓ KW, seval]
    · have hto : r.dwell = to := by rw [hte, toE, if_pos (.inr hs1), tgt, if_pos (eq_of_beq d5)]
      try simp only [I, B, D, RY, ↓ KW, seval, d1, d2, d5, hw, hl, hz, hzl, kx, ka, x1, x2, a1, a3, s1, s2, r1, r2, kA, hg, hfr, hbk, w1, w2, w3, rz, rzl, rp, rc, hget, Rl.len]
      try try simp only [I, B, D, RY, ↓ KW, seval, d1, d2, d5, hw, hl, hz, hzl, kx, ka, x1, x2, a1, a3, s1, s2, r1, r2, kA, hg, hfr, hbk, w1, w2, w3, rz, rzl, rp, rc, hget, Rl.len]
      refine call_is (hL act.start none (.inl rfl)) ?_
      try simp only [I, B, D, RY, ↓ KW, seval, hw, hl, hz, hzl, kx, ka, x1, x2, a1, a3, s1, s2, r1, r2, kA, hg, hfr, hbk, w1, w2, w3, rz, rzl, rp, rc, hget, Rl.len]
      refine aw_loop' (fun i : Nat => (⟨[(102, .dat (I i) none), (101, .dat (I (listS act.start).length) none), (100, .dat (slAV intRow (mkO (listS act.start))) none), (9, .ptr 9 0), (7, .ptr 5 0), (12, .ptr 25 0), (15, .dat (I to) none), (13, .dat (I (grnI rs)) none)], [(9, ⟨t.cells, []⟩), (5, ⟨runsC rs, []⟩), (25, ⟨act.cells, []⟩)], [], 400⟩ : S)) (fun i => (listS act.start).length - i) (fun i => i ≤ (listS act.start).length) ?_ 0 (by omega) ?_
      rotate_left
      · refine le_tok2 (by decide) ?_ ?_ ?_ ?_ <;> simp [LX, I, B, D, hto, mkO_getD]
      intro i hi A back
      have hwr := wrap_succ (k := i) (by have := listS_len act.start; omega)
      try simp only [I, B, D, RY, ↓ KW, seval]
      cases hlt : decide ((i : Int) < ((listS act.start).length : Int))
      rotate_left
      · have hi2 : i < (listS act.start).length := by have := of_decide_eq_true hlt; omega
        obtain ⟨p, hp8, hps, hpt⟩ := hst hi2
        try simp only [I, B, D, RY, ↓ KW, seval, hlt, mkO_getD]
        refine ⟨by omega, ?_⟩
        try simp only [I, B, D, RY, ↓ KW, seval, hps, intRow, mkO_getD]
        refine aw_loop' (fun q : Nat => (⟨[(18, .dat (I q) none), (17, .dat (I p) none), (9, .ptr 9 0), (7, .ptr 5 0), (102, .dat (I i) none), (101, .dat (I (listS act.start).length) none), (100, .dat (slAV intRow (mkO (listS act.start))) none), (12, .ptr 25 0), (15, .dat (I to) none), (13, .dat (I (grnI rs)) none)], [(9, ⟨t.cells, []⟩), (5, ⟨runsC rs, []⟩), (25, ⟨act.cells, []⟩)], [], 400⟩ : S)) (fun q => 8 - q) (fun q => q ≤ 8) ?_ 0 (by omega) ?_
        rotate_left
        · refine le_tok2 (by decide) ?_ ?_ ?_ ?_ <;> simp [LX, I, B, D]
        intro q hq A2 back2
        have hwr2 := wrap_succ (k := q) (by omega)
        try simp only [I, B, D, RY, ↓ KW, seval]
        cases hq8 : decide ((q : Int) < 8)
        · try simp only [I, B, D, RY, ↓ KW, seval, hq8]
          refine back (i + 1) _ (by omega) (by omega) ?_
          refine le_tok2 (by decide) ?_ ?_ ?_ ?_ <;> simp [LX, I, B, D, hwr]
        · have h8 : q < 8 := by have := of_decide_eq_true hq8; omega
          have hrd := hreds p hp8 hpt q h8
          cases hqp : ((q : Int) == (p : Int))
          · try simp only [I, B, D, RY, ↓ KW, seval, hq8, hqp, hw, hl, hz, hzl, kx, ka, x1, x2, a1, a3, s1, s2, r1, r2, kA, hg]
            refine call_is (hC t p q ok.ln hp8 h8) ?_
            cases hcl : clashB t p q
            · try simp only [I, B, D, RY, ↓ KW, seval]
              refine back2 (q + 1) _ (by omega) (by omega) ?_
              refine le_tok2 (by decide) ?_ ?_ ?_ ?_ <;> simp [LX, I, B, D, hwr2]
            · try simp only [I, B, D, RY, ↓ KW, seval, hw, hl, hz, hzl, kx, ka, x1, x2, a1, a3, s1, s2, r1, r2, kA, hg]
              refine call_is c4 ?_
              try simp only [I, B, D, RY, ↓ KW, seval]
              refine call_is (hH (redI rs) q) ?_
              rw [hrd (.inr hcl)]
              try simp only [I, B, D, RY, ↓ KW, seval]
              refine back2 (q + 1) _ (by omega) (by omega) ?_
              refine le_tok2 (by decide) ?_ ?_ ?_ ?_ <;> simp [LX, I, B, D, hwr2]
          · try simp only [I, B, D, RY, ↓ KW, seval, hq8, hqp, hw, hl, hz, hzl, kx, ka, x1, x2, a1, a3, s1, s2, r1, r2, kA, hg]
            refine call_is c4 ?_
            try simp only [I, B, D, RY, ↓ KW, seval]
            refine call_is (hH (redI rs) q) ?_
            rw [hrd (.inl (by have := eq_of_beq hqp; omega))]
            try simp only [I, B, D, RY, ↓ KW, seval]
            refine back2 (q + 1) _ (by omega) (by omega) ?_
            refine le_tok2 (by decide) ?_ ?_ ?_ ?_ <;> simp [LX, I, B, D, hwr2]
      try simp only [I, B, D, RY, ↓ KW, seval, hlt, hw, hl, hz, hzl, kx, ka, x1, x2, a1, a3, s1, s2, r1, r2, kA, hg, hfr, hbk, w1, w2, w3, rz, rzl, rp, rc, hget, Rl.len]
      refine call_is (hL act.cut none (.inl rfl)) ?_
      try simp only [I, B, D, RY, ↓ KW, seval, hw, hl, hz, hzl, kx, ka, x1, x2, a1, a3, s1, s2, r1, r2, kA, hg, hfr, hbk, w1, w2, w3, rz, rzl, rp, rc, hget, Rl.len]
      refine aw_loop' (fun i : Nat => (⟨[(131, .dat (I i) none), (130, .dat (I (listS act.cut).length) none), (129, .dat (slAV intRow (mkO (listS act.cut))) none), (7, .ptr 5 0), (12, .ptr 25 0), (15, .dat (I to) none), (13, .dat (I (grnI rs)) none)], [(5, ⟨runsC rs, []⟩), (25, ⟨act.cells, []⟩)], [], 400⟩ : S)) (fun i => (listS act.cut).length - i) (fun i => i ≤ (listS act.cut).length) ?_ 0 (by omega) ?_
      rotate_left
      · refine le_tok2 (by decide) ?_ ?_ ?_ ?_ <;> simp [LX, I, B, D, mkO_getD]
      intro i2 hi2' A3 back3
      have hwr3 := wrap_succ (k := i2) (by have := listS_len act.cut; omega)
      try simp only [I, B, D, RY, ↓ KW, seval]
      cases hlt2 : decide ((i2 : Int) < ((listS act.cut).length : Int))
      rotate_left
      · have hi3 : i2 < (listS act.cut).length := by have := of_decide_eq_true hlt2; omega
        obtain ⟨p, hp8, hps, hpt⟩ := hct hi3
        have hwk := hcut p hp8 hpt
        have hy : 0 ≤ (p : Int) ∧ (p : Int) < 8 := by omega
        have hfc := run_fst hrs hp8
        try simp only [I, B, D, RY, ↓ KW, seval, hlt2, mkO_getD]
        refine ⟨by omega, ?_⟩
        try simp only [I, B, D, RY, ↓ KW, seval, hps, intRow, mkO_getD, hy, hfc, hwk]
        refine back3 (i2 + 1) _ (by omega) (by omega) ?_
        refine le_tok2 (by decide) ?_ ?_ ?_ ?_ <;> simp [LX, I, B, D, hwr3]
      try simp only [I, B, D, RY, ↓ KW, seval, hlt2, hw, hl, hz, hzl, kx, ka, x1, x2, a1, a3, s1, s2, r1, r2, kA, hg, hfr, hbk, w1, w2, w3, rz, rzl, rp, rc, hget, Rl.len, z1, z2, z3, z4]
      refine call_is hA ?_
      try simp only [I, B, D, RY, ↓ KW, seval]
  have n1 := beq_eq_false_iff_ne.1 d1
  have n2 := beq_eq_false_iff_ne.1 d2
  cases d3 : (a.stage == 3)
  rotate_left
  · have hs1 : a.stage = 3 := eq_of_beq d3
    have hto : r.dwell = to := by rw [hte, toE, if_neg (by omega), if_pos (.inl hs1)]
    try simp only [I, B, D, RY, ↓ KW, seval, d1, d2, d3, hw, hl, hz, hzl, kx, ka, x1, x2, a1, a3, s1, s2, r1, r2, kA, hg, hfr, hbk, w1, w2, w3, rz, rzl, rp, rc, hget, Rl.len]
    try try simp only [I, B, D, RY, ↓ KW, seval, d1, d2, d3, hw, hl, hz, hzl, kx, ka, x1, x2, a1, a3, s1, s2, r1, r2, kA, hg, hfr, hbk, w1, w2, w3, rz, rzl, rp, rc, hget, Rl.len]
    refine call_is (hL act.start none (.inl rfl)) ?_
    try simp only [I, B, D, RY, ↓ KW, seval, hw, hl, hz, hzl, kx, ka, x1, x2, a1, a3, s1, s2, r1, r2, kA, hg, hfr, hbk, w1, w2, w3, rz, rzl, rp, rc, hget, Rl.len]
    refine aw_loop' (fun i : Nat => (⟨[(102, .dat (I i) none), (101, .dat (I (listS act.start).length) none), (100, .dat (slAV intRow (mkO (listS act.start))) none), (9, .ptr 9 0), (7, .ptr 5 0), (12, .ptr 25 0), (15, .dat (I to) none), (13, .dat (I (grnI rs)) none)], [(9, ⟨t.cells, []⟩), (5, ⟨runsC rs, []⟩), (25, ⟨act.cells, []⟩)], [], 400⟩ : S)) (fun i => (listS act.start).length - i) (fun i => i ≤ (listS act.start).length) ?_ 0 (by omega) ?_
    rotate_left
    · refine le_tok2 (by decide) ?_ ?_ ?_ ?_ <;> simp [LX, I, B, D, hto, mkO_getD]
    intro i hi A back
    have hwr := wrap_succ (k := i) (by have := listS_len act.start; omega)
    try simp only [I, B, D, RY, ↓ KW, seval]
    cases hlt : decide ((i : Int) < ((listS act.start).length : Int))
    rotate_left
    · have hi2 : i < (listS act.start).length := by have := of_decide_eq_true hlt; omega
      obtain ⟨p, hp8, hps, hpt⟩ := hst hi2
      try simp only [I, B, D, RY, ↓ KW, seval, hlt, mkO_getD]
      refine ⟨by omega, ?_⟩
      try simp only [I, B, D, RY, ↓ KW, seval, hps, intRow, mkO_getD]
      refine aw_loop' (fun q : Nat => (⟨[(18, .dat (I q) none), (17, .dat (I p) none), (9, .ptr 9 0), (7, .ptr 5 0), (102, .dat (I i) none), (101, .dat (I (listS act.start).length) none), (100, .dat (slAV intRow (mkO (listS act.start))) none), (12, .ptr 25 0), (15, .dat (I to) none), (13, .dat (I (grnI rs)) none)], [(9, ⟨t.cells, []⟩), (5, ⟨runsC rs, []⟩), (25, ⟨act.cells, []⟩)], [], 400⟩ : S)) (fun q => 8 - q) (fun q => q ≤ 8) ?_ 0 (by omega) ?_
      rotate_left
      · refine le_tok2 (by decide) ?_ ?_ ?_ ?_ <;> simp [LX, I, B, D]
      intro q hq A2 back2
      have hwr2 := wrap_succ (k := q) (by omega)
      try simp only [I, B, D, RY, ↓ KW, seval]
      cases hq8 : decide ((q : Int) < 8)
      · try simp only [I, B, D, RY, ↓ KW, seval, hq8]
        refine back (i + 1) _ (by omega) (by omega) ?_
        refine le_tok2 (by decide) ?_ ?_ ?_ ?_ <;> simp [LX, I, B, D, hwr]
      · have h8 : q < 8 := by have := of_decide_eq_true hq8; omega
        have hrd := hreds p hp8 hpt q h8
        cases hqp : ((q : Int) == (p : Int))
        · try simp only [I, B, D, RY, ↓ KW, seval, hq8, hqp, hw, hl, hz, hzl, kx, ka, x1, x2, a1, a3, s1, s2, r1, r2, kA, hg]
          refine call_is (hC t p q ok.ln hp8 h8) ?_
          cases hcl : clashB t p q
          · try simp only [I, B, D, RY, ↓ KW, seval]
            refine back2 (q + 1) _ (by omega) (by omega) ?_
            refine le_tok2 (by decide) ?_ ?_ ?_ ?_ <;> simp [LX, I, B, D, hwr2]
          · try simp only [I, B, D, RY, ↓ KW, seval, hw, hl, hz, hzl, kx, ka, x1, x2, a1, a3, s1, s2, r1, r2, kA, hg]
            refine call_is c4 ?_
            try simp only [I, B, D, RY, ↓ KW, seval]
            refine call_is (hH (redI rs) q) ?_
            rw [hrd (.inr hcl)]
            try simp only [I, B, D, RY, ↓ KW, seval]
            refine back2 (q + 1) _ (by omega) (by omega) ?_
            refine le_tok2 (by decide) ?_ ?_ ?_ ?_ <;> simp [LX, I, B, D, hwr2]
        · try simp only [I, B, D, RY, ↓ KW, seval, hq8, hqp, hw, hl, hz, hzl, kx, ka, x1, x2, a1, a3, s1, s2, r1, r2, kA, hg]
          refine call_is c4 ?_
          try simp only [I, B, D, RY, ↓ KW, seval]
          refine call_is (hH (redI rs) q) ?_
          rw [hrd (.inl (by have := eq_of_beq hqp; omega))]
          try simp only [I, B, D, RY, ↓ KW, seval]
          refine back2 (q + 1) _ (by omega) (by omega) ?_
          refine le_tok2 (by decide) ?_ ?_ ?_ ?_ <;> simp [LX, I, B, D, hwr2]
    try simp only [I, B, D, RY, ↓ KW, seval, hlt, hw, hl, hz, hzl, kx, ka, x1, x2, a1, a3, s1, s2, r1, r2, kA, hg, hfr, hbk, w1, w2, w3, rz, rzl, rp, rc, hget, Rl.len]
    refine call_is (hL act.cut none (.inl rfl)) ?_
    try simp only [I, B, D, RY, ↓ KW, seval, hw, hl, hz, hzl, kx, ka, x1, x2, a1, a3, s1, s2, r1, r2, kA, hg, hfr, hbk, w1, w2, w3, rz, rzl, rp, rc, hget, Rl.len]
    refine aw_loop' (fun i : Nat => (⟨[(131, .dat (I i) none), (130, .dat (I (listS act.cut).length) none), (129, .dat (slAV intRow (mkO (listS act.cut))) none), (7, .ptr 5 0), (12, .ptr 25 0), (15, .dat (I to) none), (13, .dat (I (grnI rs)) none)], [(5, ⟨runsC rs, []⟩), (25, ⟨act.cells, []⟩)], [], 400⟩ : S)) (fun i => (listS act.cut).length - i) (fun i => i ≤ (listS act.cut).length) ?_ 0 (by omega) ?_
    rotate_left
    · refine le_tok2 (by decide) ?_ ?_ ?_ ?_ <;> simp [LX, I, B, D, mkO_getD]
    intro i2 hi2' A3 back3
    have hwr3 := wrap_succ (k := i2) (by have := listS_len act.cut; omega)
    try simp only [I, B, D, RY, ↓ KW, seval]
    cases hlt2 : decide ((i2 : Int) < ((listS act.cut).length : Int))
    rotate_left
    · have hi3 : i2 < (listS act.cut).length := by have := of_decide_eq_true hlt2; omega
      obtain ⟨p, hp8, hps, hpt⟩ := hct hi3
      have hwk := hcut p hp8 hpt
      have hy : 0 ≤ (p : Int) ∧ (p : Int) < 8 := by omega
      have hfc := run_fst hrs hp8
      try simp only [I, B, D, RY, ↓ KW, seval, hlt2, mkO_getD]
      refine ⟨by omega, ?_⟩
      try simp only [I, B, D, RY, ↓ KW, seval, hps, intRow, mkO_getD, hy, hfc, hwk]
      refine back3 (i2 + 1) _ (by omega) (by omega) ?_
      refine le_tok2 (by decide) ?_ ?_ ?_ ?_ <;> simp [LX, I, B, D, hwr3]
    try simp only [I, B, D, RY, ↓ KW, seval, hlt2, hw, hl, hz, hzl, kx, ka, x1, x2, a1, a3, s1, s2, r1, r2, kA, hg, hfr, hbk, w1, w2, w3, rz, rzl, rp, rc, hget, Rl.len, z1, z2, z3, z4]
    refine call_is hA ?_
    try simp only [I, B, D, RY, ↓ KW, seval]
  have n3 := beq_eq_false_iff_ne.1 d3
  cases d4 : (a.stage == 4)
  · have n4 := beq_eq_false_iff_ne.1 d4
    have hto : r.exit = to := by rw [hte, toE, if_neg (by omega), if_neg (by omega)]
    try simp only [I, B, D, RY, ↓ KW, seval, d1, d2, d3, d4, hw, hl, hz, hzl, kx, ka, x1, x2, a1, a3, s1, s2, r1, r2, kA, hg, hfr, hbk, w1, w2, w3, rz, rzl, rp, rc, hget, Rl.len]
    try try simp only [I, B, D, RY, ↓ KW, seval, d1, d2, d3, d4, hw, hl, hz, hzl, kx, ka, x1, x2, a1, a3, s1, s2, r1, r2, kA, hg, hfr, hbk, w1, w2, w3, rz, rzl, rp, rc, hget, Rl.len]
    refine call_is (hL act.start none (.inl rfl)) ?_
    try simp only [I, B, D, RY, ↓ KW, seval, hw, hl, hz, hzl, kx, ka, x1, x2, a1, a3, s1, s2, r1, r2, kA, hg, hfr, hbk, w1, w2, w3, rz, rzl, rp, rc, hget, Rl.len]
    refine aw_loop' (fun i : Nat => (⟨[(102, .dat (I i) none), (101, .dat (I (listS act.start).length) none), (100, .dat (slAV intRow (mkO (listS act.start))) none), (9, .ptr 9 0), (7, .ptr 5 0), (12, .ptr 25 0), (15, .dat (I to) none), (13, .dat (I (grnI rs)) none)], [(9, ⟨t.cells, []⟩), (5, ⟨runsC rs, []⟩), (25, ⟨act.cells, []⟩)], [], 400⟩ : S)) (fun i => (listS act.start).length - i) (fun i => i ≤ (listS act.start).length) ?_ 0 (by omega) ?_
    rotate_left
    · refine le_tok2 (by decide) ?_ ?_ ?_ ?_ <;> simp [LX, I, B, D, hto, mkO_getD]
    intro i hi A back
    have hwr := wrap_succ (k := i) (by have := listS_len act.start; omega)
    try simp only [I, B, D, RY, ↓ KW, seval]
    cases hlt : decide ((i : Int) < ((listS act.start).length : Int))
    rotate_left
    · have hi2 : i < (listS act.start).length := by have := of_decide_eq_true hlt; omega
      obtain ⟨p, hp8, hps, hpt⟩ := hst hi2
      try simp only [I, B, D, RY, ↓ KW, seval, hlt, mkO_getD]
      refine ⟨by omega, ?_⟩
      try simp only [I, B, D, RY, ↓ KW, seval, hps, intRow, mkO_getD]
      refine aw_loop' (fun q : Nat => (⟨[(18, .dat (I q) none), (17, .dat (I p) none), (9, .ptr 9 0), (7, .ptr 5 0), (102, .dat (I i) none), (101, .dat (I (listS act.start).length) none), (100, .dat (slAV intRow (mkO (listS act.start))) none), (12, .ptr 25 0), (15, .dat (I to) none), (13, .dat (I (grnI rs)) none)], [(9, ⟨t.cells, []⟩), (5, ⟨runsC rs, []⟩), (25, ⟨act.cells, []⟩)], [], 400⟩ : S)) (fun q => 8 - q) (fun q => q ≤ 8) ?_ 0 (by omega) ?_
      rotate_left
      · refine le_tok2 (by decide) ?_ ?_ ?_ ?_ <;> simp [LX, I, B, D]
      intro q hq A2 back2
      have hwr2 := wrap_succ (k := q) (by omega)
      try simp only [I, B, D, RY, ↓ KW, seval]
      cases hq8 : decide ((q : Int) < 8)
      · try simp only [I, B, D, RY, ↓ KW, seval, hq8]
        refine back (i + 1) _ (by omega) (by omega) ?_
        refine le_tok2 (by decide) ?_ ?_ ?_ ?_ <;> simp [LX, I, B, D, hwr]
      · have h8 : q < 8 := by have := of_decide_eq_true hq8; omega
        have hrd := hreds p hp8 hpt q h8
        cases hqp : ((q : Int) == (p : Int))
        · try simp only [I, B, D, RY, ↓ KW, seval, hq8, hqp, hw, hl, hz, hzl, kx, ka, x1, x2, a1, a3, s1, s2, r1, r2, kA, hg]
          refine call_is (hC t p q ok.ln hp8 h8) ?_
          cases hcl : clashB t p q
          · try simp only [I, B, D, RY, ↓ KW, seval]
            refine back2 (q + 1) _ (by omega) (by omega) ?_
            refine le_tok2 (by decide) ?_ ?_ ?_ ?_ <;> simp [LX, I, B, D, hwr2]
          · try simp only [I, B, D, RY, ↓ KW, seval, hw, hl, hz, hzl, kx, ka, x1, x2, a1, a3, s1, s2, r1, r2, kA, hg]
            refine call_is c4 ?_
            try simp only [I, B, D, RY, ↓ KW, seval]
            refine call_is (hH (redI rs) q) ?_
            rw [hrd (.inr hcl)]
            try simp only [I, B, D, RY, ↓ KW, seval]
            refine back2 (q + 1) _ (by omega) (by omega) ?_
            refine le_tok2 (by decide) ?_ ?_ ?_ ?_ <;> simp [LX, I, B, D, hwr2]
        · try simp only [I, B, D, RY, ↓ KW, seval, hq8, hqp, hw, hl, hz, hzl, kx, ka, x1, x2, a1, a3, s1, s2, r1, r2, kA, hg]
          refine call_is c4 ?_
          try simp only [I, B, D, RY, ↓ KW, seval]
          refine call_is (hH (redI rs) q) ?_
          rw [hrd (.inl (by have := eq_of_beq hqp; omega))]
          try simp only [I, B, D, RY, ↓ KW, seval]
          refine back2 (q + 1) _ (by omega) (by omega) ?_
          refine le_tok2 (by decide) ?_ ?_ ?_ ?_ <;> simp [LX, I, B, D, hwr2]
    try simp only [I, B, D, RY, ↓ KW, seval, hlt, hw, hl, hz, hzl, kx, ka, x1, x2, a1, a3, s1, s2, r1, r2, kA, hg, hfr, hbk, w1, w2, w3, rz, rzl, rp, rc, hget, Rl.len]
    refine call_is (hL act.cut none (.inl rfl)) ?_
    try simp only [I, B, D, RY, ↓ KW, seval, hw, hl, hz, hzl, kx, ka, x1, x2, a1, a3, s1, s2, r1, r2, kA, hg, hfr, hbk, w1, w2, w3, rz, rzl, rp, rc, hget, Rl.len]
    refine aw_loop' (fun i : Nat => (⟨[(131, .dat (I i) none), (130, .dat (I (listS act.cut).length) none), (129, .dat (slAV intRow (mkO (listS act.cut))) none), (7, .ptr 5 0), (12, .ptr 25 0), (15, .dat (I to) none), (13, .dat (I (grnI rs)) none)], [(5, ⟨runsC rs, []⟩), (25, ⟨act.cells, []⟩)], [], 400⟩ : S)) (fun i => (listS act.cut).length - i) (fun i => i ≤ (listS act.cut).length) ?_ 0 (by omega) ?_
    rotate_left
    · refine le_tok2 (by decide) ?_ ?_ ?_ ?_ <;> simp [LX, I, B, D, mkO_getD]
    intro i2 hi2' A3 back3
    have hwr3 := wrap_succ (k := i2) (by have := listS_len act.cut; omega)
    try simp only [I, B, D, RY, ↓ KW, seval]
    cases hlt2 : decide ((i2 : Int) < ((listS act.cut).length : Int))
    rotate_left
    · have hi3 : i2 < (listS act.cut).length := by have := of_decide_eq_true hlt2; omega
      obtain ⟨p, hp8, hps, hpt⟩ := hct hi3
      have hwk := hcut p hp8 hpt
      have hy : 0 ≤ (p : Int) ∧ (p : Int) < 8 := by omega
      have hfc := run_fst hrs hp8
      try simp only [I, B, D, RY, ↓ KW, seval, hlt2, mkO_getD]
      refine ⟨by omega, ?_⟩
      try simp only [I, B, D, RY, ↓ KW, seval, hps, intRow, mkO_getD, hy, hfc, hwk]
      refine back3 (i2 + 1) _ (by omega) (by omega) ?_
      refine le_tok2 (by decide) ?_ ?_ ?_ ?_ <;> simp [LX, I, B, D, hwr3]
    try simp only [I, B, D, RY, ↓ KW, seval, hlt2, hw, hl, hz, hzl, kx, ka, x1, x2, a1, a3, s1, s2, r1, r2, kA, hg, hfr, hbk, w1, w2, w3, rz, rzl, rp, rc, hget, Rl.len, z1, z2, z3, z4]
    refine call_is hA ?_
    try simp only [I, B, D, RY, ↓ KW, seval]
  · have hs1 : a.stage = 4 := eq_of_beq d4
    have hto : r.dwell = to := by rw [hte, toE, if_neg (by omega), if_pos (.inr hs1)]
    try simp only [I, B, D, RY, ↓ KW, seval, d1, d2, d3, d4, hw, hl, hz, hzl, kx, ka, x1, x2, a1, a3, s1, s2, r1, r2, kA, hg, hfr, hbk, w1, w2, w3, rz, rzl, rp, rc, hget, Rl.len]
    try try simp only [I, B, D, RY, ↓ KW, seval, d1, d2, d3, d4, hw, hl, hz, hzl, kx, ka, x1, x2, a1, a3, s1, s2, r1, r2, kA, hg, hfr, hbk, w1, w2, w3, rz, rzl, rp, rc, hget, Rl.len]
    refine call_is (hL act.start none (.inl rfl)) ?_
    try simp only [I, B, D, RY, ↓ KW, seval, hw, hl, hz, hzl, kx, ka, x1, x2, a1, a3, s1, s2, r1, r2, kA, hg, hfr, hbk, w1, w2, w3, rz, rzl, rp, rc, hget, Rl.len]
    refine aw_loop' (fun i : Nat => (⟨[(102, .dat (I i) none), (101, .dat (I (listS act.start).length) none), (100, .dat (slAV intRow (mkO (listS act.start))) none), (9, .ptr 9 0), (7, .ptr 5 0), (12, .ptr 25 0), (15, .dat (I to) none), (13, .dat (I (grnI rs)) none)], [(9, ⟨t.cells, []⟩), (5, ⟨runsC rs, []⟩), (25, ⟨act.cells, []⟩)], [], 400⟩ : S)) (fun i => (listS act.start).length - i) (fun i => i ≤ (listS act.start).length) ?_ 0 (by omega) ?_
    rotate_left
    · refine le_tok2 (by decide) ?_ ?_ ?_ ?_ <;> simp [LX, I, B, D, hto, mkO_getD]
    intro i hi A back
    have hwr := wrap_succ (k := i) (by have := listS_len act.start; omega)
    try simp only [I, B, D, RY, ↓ KW, seval]
    cases hlt : decide ((i : Int) < ((listS act.start).length : Int))
    rotate_left
    · have hi2 : i < (listS act.start).length := by have := of_decide_eq_true hlt; omega
      obtain ⟨p, hp8, hps, hpt⟩ := hst hi2
      try simp only [I, B, D, RY, ↓ KW, seval, hlt, mkO_getD]
      refine ⟨by omega, ?_⟩
      try simp only [I, B, D, RY, ↓ KW, seval, hps, intRow, mkO_getD]
      refine aw_loop' (fun q : Nat => (⟨[(18, .dat (I q) none), (17, .dat (I p) none), (9, .ptr 9 0), (7, .ptr 5 0), (102, .dat (I i) none), (101, .dat (I (listS act.start).length) none), (100, .dat (slAV intRow (mkO (listS act.start))) none), (12, .ptr 25 0), (15, .dat (I to) none), (13, .dat (I (grnI rs)) none)], [(9, ⟨t.cells, []⟩), (5, ⟨runsC rs, []⟩), (25, ⟨act.cells, []⟩)], [], 400⟩ : S)) (fun q => 8 - q) (fun q => q ≤ 8) ?_ 0 (by omega) ?_
      rotate_left
      · refine le_tok2 (by decide) ?_ ?_ ?_ ?_ <;> simp [LX, I, B, D]
      intro q hq A2 back2
      have hwr2 := wrap_succ (k := q) (by omega)
      try simp only [I, B, D, RY, ↓ KW, seval]
      cases hq8 : decide ((q : Int) < 8)
      · try simp only [I, B, D, RY, ↓ KW, seval, hq8]
        refine back (i + 1) _ (by omega) (by omega) ?_
        refine le_tok2 (by decide) ?_ ?_ ?_ ?_ <;> simp [LX, I, B, D, hwr]
      · have h8 : q < 8 := by have := of_decide_eq_true hq8; omega
        have hrd := hreds p hp8 hpt q h8
        cases hqp : ((q : Int) == (p : Int))
        · try simp only [I, B, D, RY, ↓ KW, seval, hq8, hqp, hw, hl, hz, hzl, kx, ka, x1, x2, a1, a3, s1, s2, r1, r2, kA, hg]
          refine call_is (hC t p q ok.ln hp8 h8) ?_
          cases hcl : clashB t p q
          · try simp only [I, B, D, RY, ↓ KW, seval]
            refine back2 (q + 1) _ (by omega) (by omega) ?_
            refine le_tok2 (by decide) ?_ ?_ ?_ ?_ <;> simp [LX, I, B, D, hwr2]
          · try simp only [I, B, D, RY, ↓ KW, seval, hw, hl, hz, hzl, kx, ka, x1, x2, a1, a3, s1, s2, r1, r2, kA, hg]
            refine call_is c4 ?_
            try simp only [I, B, D, RY, ↓ KW, seval]
            refine call_is (hH (redI rs) q) ?_
            rw [hrd (.inr hcl)]
            try simp only [I, B, D, RY, ↓ KW, seval]
            refine back2 (q + 1) _ (by omega) (by omega) ?_
            refine le_tok2 (by decide) ?_ ?_ ?_ ?_ <;> simp [LX, I, B, D, hwr2]
        · try simp only [I, B, D, RY, ↓ KW, seval, hq8, hqp, hw, hl, hz, hzl, kx, ka, x1, x2, a1, a3, s1, s2, r1, r2, kA, hg]
          refine call_is c4 ?_
          try simp only [I, B, D, RY, ↓ KW, seval]
          refine call_is (hH (redI rs) q) ?_
          rw [hrd (.inl (by have := eq_of_beq hqp; omega))]
          try simp only [I, B, D, RY, ↓ KW, seval]
          refine back2 (q + 1) _ (by omega) (by omega) ?_
          refine le_tok2 (by decide) ?_ ?_ ?_ ?_ <;> simp [LX, I, B, D, hwr2]
    try simp only [I, B, D, RY, ↓ KW, seval, hlt, hw, hl, hz, hzl, kx, ka, x1, x2, a1, a3, s1, s2, r1, r2, kA, hg, hfr, hbk, w1, w2, w3, rz, rzl, rp, rc, hget, Rl.len]
    refine call_is (hL act.cut none (.inl rfl)) ?_
    try simp only [I, B, D, RY, ↓ KW, seval, hw, hl, hz, hzl, kx, ka, x1, x2, a1, a3, s1, s2, r1, r2, kA, hg, hfr, hbk, w1, w2, w3, rz, rzl, rp, rc, hget, Rl.len]
    refine aw_loop' (fun i : Nat => (⟨[(131, .dat (I i) none), (130, .dat (I (listS act.cut).length) none), (129, .dat (slAV intRow (mkO (listS act.cut))) none), (7, .ptr 5 0), (12, .ptr 25 0), (15, .dat (I to) none), (13, .dat (I (grnI rs)) none)], [(5, ⟨runsC rs, []⟩), (25, ⟨act.cells, []⟩)], [], 400⟩ : S)) (fun i => (listS act.cut).length - i) (fun i => i ≤ (listS act.cut).length) ?_ 0 (by omega) ?_
    rotate_left
    · refine le_tok2 (by decide) ?_ ?_ ?_ ?_ <;> simp [LX, I, B, D, mkO_getD]
    intro i2 hi2' A3 back3
    have hwr3 := wrap_succ (k := i2) (by have := listS_len act.cut; omega)
    try simp only [I, B, D, RY, ↓ KW, seval]
    cases hlt2 : decide ((i2 : Int) < ((listS act.cut).length : Int))
    rotate_left
    · have hi3 : i2 < (listS act.cut).length := by have := of_decide_eq_true hlt2; omega
      obtain ⟨p, hp8, hps, hpt⟩ := hct hi3
      have hwk := hcut p hp8 hpt
      have hy : 0 ≤ (p : Int) ∧ (p : Int) < 8 := by omega
      have hfc := run_fst hrs hp8
      try simp only [I, B, D, RY, ↓ KW, seval, hlt2, mkO_getD]
      refine ⟨by omega, ?_⟩
      try simp only [I, B, D, RY, ↓ KW, seval, hps, intRow, mkO_getD, hy, hfc, hwk]
      refine back3 (i2 + 1) _ (by omega) (by omega) ?_
      refine le_tok2 (by decide) ?_ ?_ ?_ ?_ <;> simp [LX, I, B, D, hwr3]
    try simp only [I, B, D, RY, ↓ KW, seval, hlt2, hw, hl, hz, hzl, kx, ka, x1, x2, a1, a3, s1, s2, r1, r2, kA, hg, hfr, hbk, w1, w2, w3, rz, rzl, rp, rc, hget, Rl.len, z1, z2, z3, z4]
    refine call_is hA ?_
    try simp only [I, B, D, RY, ↓ KW, seval]
end
end Go.Eng
namespace Go.Eng
set_option linter.unusedVariables false
set_option linter.unusedSimpArgs false
set_option linter.unnecessarySimpa false
open Go
set_option linter.unusedVariables false
set_option linter.unusedSimpArgs false
set_option maxRecDepth 10000
set_option maxHeartbeats 4000000
def Al {α β : Type} (R : α → β → Prop) : List α → List β → Prop
  | [], [] => True
  | a :: l, b :: m => R a b ∧ Al R l m
  | _, _ => False
theorem Al.len {α β : Type} {R : α → β → Prop} : ∀ {l : List α} {m : List β}, Al R l m → l.length = m.length
  | [], [], _ => rfl
  | a :: l, b :: m, h => by simp [Al.len h.2]
  | [], b :: m, h => h.elim
  | a :: l, [], h => h.elim
theorem Al.get {α β : Type} {R : α → β → Prop} : ∀ {l : List α} {m : List β}, Al R l m → ∀ (i : Nat) (a : α) (b : β), l[i]? = some a → m[i]? = some b → R a b
  | a :: l, b :: m, h, 0, x, y, hx, hy => by simp at hx hy; subst hx; subst hy; exact h.1
  | a :: l, b :: m, h, i + 1, x, y, hx, hy => Al.get h.2 i x y (by simpa using hx) (by simpa using hy)
  | [], _, _, i, _, _, hx, _ => by simp at hx
theorem Al.mk {α β : Type} {R : α → β → Prop} : ∀ {l : List α} {m : List β}, l.length = m.length → (∀ (i : Nat) (a : α) (b : β), l[i]? = some a → m[i]? = some b → R a b) → Al R l m
  | [], [], _, _ => trivial
  | a :: l, b :: m, h, f => ⟨f 0 a b rfl rfl, Al.mk (by simpa using h) fun i x y hx hy => f (i + 1) x y (by simpa using hx) (by simpa using hy)⟩
theorem Al.append {α β : Type} {R : α → β → Prop} : ∀ {l : List α} {m : List β} {l' : List α} {m' : List β}, Al R l m → Al R l' m' → Al R (l ++ l') (m ++ m')
  | [], [], _, _, _, h => h
  | a :: l, b :: m, _, _, h, h' => ⟨h.1, Al.append h.2 h'⟩
theorem Al.n {α β : Type} {R : α → β → Prop} : Al R ([] : List α) ([] : List β) := trivial
theorem Al.c {α β : Type} {R : α → β → Prop} {a : α} {b : β} {l : List α} {m : List β} (h : R a b) (t : Al R l m) : Al R (a :: l) (b :: m) := ⟨h, t⟩
theorem Al.nil_inv {α β : Type} {R : α → β → Prop} {m : List β} (h : Al R [] m) : m = [] := by
  cases m with
  | nil => rfl
  | cons b m => exact h.elim
theorem Al.cons_inv {α β : Type} {R : α → β → Prop} {a : α} {l : List α} {m : List β} (h : Al R (a :: l) m) : ∃ b m', m = b :: m' ∧ R a b ∧ Al R l m' := by
  cases m with
  | nil => exact h.elim
  | cons b m => exact ⟨b, m, rfl, h.1, h.2⟩
inductive Sc where
  | bool
  | int (k : IntKind)
  | flt (k : FloatKind)
  | str
inductive Ty where
  | sc (s : Sc)
  | sl (l : List Ty)
def tyParts (sz : TypeId → Nat) (F : TypeId → Option (List Ty)) : Nat → List (Nat × TypeId) → Option (List Ty)
  | _, [] => some []
  | o, f :: r => if f.1 = o then match F f.2 with
      | some l => if sz f.2 = l.length then match tyParts sz F (o + l.length) r with
        | some m => some (l ++ m)
        | none => none
        else none
      | none => none
    else none
def tyOf (P : Program) : Nat → TypeId → Option (List Ty)
  | 0, _ => none
  | n + 1, t => match P.underlying t with
    | some .bool => some [.sc .bool]
    | some (.int k) => some [.sc (.int k)]
    | some (.float k) => some [.sc (.flt k)]
    | some .string => some [.sc .str]
    | some (.slice e) => match tyOf P n e with
      | some l => if P.cellsOf e = l.length ∧ 0 < l.length then some [.sl l] else none
      | none => none
    | some (.struct fs) => match tyParts P.cellsOf (tyOf P n) 0 (fs.toList.map fun f => (f.offset, f.type)) with
      | some l => if P.cellsOf t = l.length then some l else none
      | none => none
    | some (.array k e) => match tyParts P.cellsOf (tyOf P n) 0 ((List.range k).map fun i => (i * P.cellsOf e, e)) with
      | some l => if P.cellsOf t = l.length then some l else none
      | none => none
    | _ => none
def ScV : Sc → AV → Prop
  | .bool, .bool _ => True
  | .int k, .int k' n => k' = k ∧ (Lit.int k n).wf = true
  | .flt k, .float k' b => k' = k ∧ (Lit.float k b).wf = true
  | .str, .str s => s.size ≤ maxLen
  | _, _ => False
mutual
def TyV : Ty → AV → Prop
  | .sc s, a => ScV s a
  | .sl _, .nils => True
  | .sl l, .sl xs => xs.length ≤ maxLen ∧ ∀ r ∈ xs, TysV l r
  | _, _ => False
def TysV : List Ty → List AV → Prop
  | [], [] => True
  | t :: l, a :: r => TyV t a ∧ TysV l r
  | _, _ => False
end
theorem tysV_al : ∀ {l : List Ty} {as : List AV}, TysV l as ↔ Al TyV l as
  | [], [] => by simp [TysV, Al]
  | t :: l, a :: r => by simp only [TysV, Al]; rw [tysV_al (l := l) (as := r)]
  | [], a :: r => by simp [TysV, Al]
  | t :: l, [] => by simp [TysV, Al]
def oldP (W : World) : Nat → Nat → Prop := fun b _ => b < W.heap.size
theorem cell_lt {W : World} {a : Addr} {v : Value} (h : W.cell? a = some v) : a.block < W.heap.size := by
  unfold World.cell? at h
  split at h
  · rename_i hh; exact heap_lt hh
  · cases h
theorem ScV.scalar {s : Sc} {a : AV} (h : ScV s a) : a.scalar = true := by cases s <;> cases a <;> first | exact h.elim | rfl
theorem TyV.scalar {s : Ty} {a : AV} (h : TyV s a) : a.scalar = true := by
  cases s with
  | sc s => exact ScV.scalar (by simpa [TyV] using h)
  | sl l => cases a <;> first | rfl | (simp [TyV] at h)
section
variable {H : Type} {enc : TypeId × Value → H} {P : Program} {W : World} {base : Nat}
open Go.ChangeShapes Go.WideShapes Go.ChangeAt Go.RowKit
theorem trod_float {sp : Nat → Bool} {held : Bool} {b0 fuel : Nat} {t : TypeId} {cs : List Value} {x : DataW H × List MemPlace} {k : FloatKind} (ht : P.underlying t = some (.float k)) (h : DataW.trod enc P W b0 sp held fuel t cs = some x) : ∃ n, cs = [.float k n] ∧ (Lit.float k n).wf = true := by
  cases fuel with
  | zero => simp [DataW.trod] at h
  | succ n =>
    unfold DataW.trod at h
    rw [ht] at h
    split at h <;> simp_all
theorem parts_open {sp : TypeId → Nat} {G : TypeId → Option (List Ty)} {Tr : TypeId → List Value → Prop}
    (each : ∀ t l cs, G t = some l → Tr t cs → ∃ as, Al TyV l as ∧ Al (DV W (oldP W)) as cs) : ∀ (ps : List (Nat × TypeId)) (o : Nat) (l : List Ty) (cs : List Value), tyParts sp G o ps = some l → cs.length = o + l.length →
      (∀ (i : Nat) (f : Nat × TypeId), ps[i]? = some f → Tr f.2 ((cs.drop f.1).take (sp f.2))) → ∃ as, Al TyV l as ∧ Al (DV W (oldP W)) as (cs.drop o)
  | [], o, l, cs, h, hl, _ => by
    simp only [tyParts, Option.some.injEq] at h
    subst h
    refine ⟨[], trivial, ?_⟩
    rw [List.drop_of_length_le (by simp at hl; omega)]; trivial
  | f :: ps, o, l, cs, h, hl, htr => by
    simp only [tyParts] at h
    split at h <;> try (cases h; done)
    rename_i ho
    split at h <;> try (cases h; done)
    rename_i l1 hl1
    split at h <;> try (cases h; done)
    rename_i hsz
    split at h <;> try (cases h; done)
    rename_i m hm
    cases h
    have h0 := htr 0 f rfl
    rw [ho, hsz] at h0
    obtain ⟨as1, ht1, hd1⟩ := each f.2 l1 _ hl1 h0
    obtain ⟨as2, ht2, hd2⟩ := parts_open each ps (o + l1.length) m cs hm (by rw [hl]; simp; omega) (fun i g hg => htr (i + 1) g (by simpa using hg))
    refine ⟨as1 ++ as2, ht1.append ht2, ?_⟩
    have := hd1.append hd2
    rw [← List.drop_drop, List.take_append_drop] at this
    exact this
omit H enc P W base in
theorem cell_spot' {w : World} {b o : Nat} {sp : Option Nat} {v : Value} (h : w.cell? ⟨b, o, sp⟩ = some v) : sp = none := by
  cases sp with
  | none => rfl
  | some x => unfold World.cell? at h; split at h <;> simp at h
theorem add_off {a : Addr} {n : Nat} (h : a.spot = none) : a.add n = ⟨a.block, a.off + n, none⟩ := by
  obtain ⟨b, o, s⟩ := a
  simp only at h; subst h
  unfold Addr.add; split
  · rename_i hh; subst hh; rfl
  · rfl
theorem ty_open : ∀ (n : Nat) (t : TypeId) (l : List Ty), tyOf P n t = some l → ∀ (cs : List Value) (x : DataW H × List MemPlace) (fuel : Nat),
    DataW.trod enc P W 0 (fun _ => true) true fuel t cs = some x → ∃ as, Al TyV l as ∧ Al (DV W (oldP W)) as cs
  | 0, t, l, h, cs, x, fuel, hx => by cases h
  | n + 1, t, l, h, cs, x, fuel, hx => by
    simp only [tyOf] at h
    split at h
    · rename_i ht; cases h
      obtain ⟨b, rfl, _⟩ := DataW.trod_bool ht hx
      exact ⟨[.bool b], ⟨by simp [TyV, ScV], trivial⟩, ⟨.bool b, trivial⟩⟩
    · rename_i k ht; cases h
      obtain ⟨m, rfl, _, hw⟩ := DataW.trod_int ht hx
      exact ⟨[.int k m], ⟨by simp only [TyV]; exact ⟨rfl, hw⟩, trivial⟩, ⟨.int k m, trivial⟩⟩
    · rename_i k ht; cases h
      obtain ⟨m, rfl, hw⟩ := trod_float ht hx
      exact ⟨[.float k m], ⟨by simp only [TyV]; exact ⟨rfl, hw⟩, trivial⟩, ⟨.float k m, trivial⟩⟩
    · rename_i ht; cases h
      obtain ⟨s, rfl, _, hw⟩ := DataW.trod_string ht hx
      exact ⟨[.str s], ⟨by simp only [TyV]; exact hw, trivial⟩, ⟨.str s, trivial⟩⟩
    · rename_i e ht
      split at h <;> try (cases h; done)
      rename_i le hle
      split at h <;> try (cases h; done)
      rename_i hsz
      cases h
      obtain ⟨hsz, hpos⟩ := hsz
      rcases DataW.trod_slice ht hx with ⟨rfl, _⟩ | ⟨a, len, cap, elems, rest, k, _, rfl, _, _, hlc, hmx, hlen, hel, hrest, _⟩
      · exact ⟨[.nils], ⟨by simp [TyV], trivial⟩, ⟨.nils, trivial⟩⟩
      have spotOf : ∀ (y : DataW H × List MemPlace), (W.cells? 0 (a.add (0 * P.cellsOf e)) (P.cellsOf e)).bind (DataW.trod enc P W 0 (fun _ => true) true k e) = some y → a.spot = none := by
        intro y hy
        rw [Option.bind_eq_some_iff] at hy
        obtain ⟨cs, hcs, _⟩ := hy
        obtain ⟨_, hcl, hcell⟩ := World.cells?_some hcs
        have h0 := hcell 0 (by omega)
        obtain ⟨v, hv⟩ : ∃ v, cs[0]? = some v := ⟨_, List.getElem?_eq_getElem (by omega)⟩
        rw [hv] at h0
        obtain ⟨b, o, sp⟩ := a
        simp only [Nat.zero_mul, Addr.add, if_true] at h0
        exact cell_spot' h0
      have hspot : cap = 0 ∨ a.spot = none := by
        rcases Nat.eq_zero_or_pos cap with h | h
        · exact .inl h
        right
        rcases Nat.eq_zero_or_pos len with h' | h'
        · obtain ⟨hr1, hr2⟩ := hrest rfl
          have := hr2 0 (by omega)
          obtain ⟨y, hy⟩ : ∃ y, rest[0]? = some y := ⟨_, List.getElem?_eq_getElem (by omega)⟩
          rw [hy, h', Nat.zero_add] at this
          exact spotOf y this
        · have := hel 0 h'
          obtain ⟨y, hy⟩ : ∃ y, elems[0]? = some y := ⟨_, List.getElem?_eq_getElem (by omega)⟩
          rw [hy] at this
          exact spotOf y this
      rcases hspot with rfl | hspot
      · have : len = 0 := by omega
        subst this
        exact ⟨[.sl []], ⟨by simp [TyV], trivial⟩, ⟨.sl0 a, trivial⟩⟩
      have each : ∀ i, i < len → ∃ as cs, Al TyV le as ∧ Al (DV W (oldP W)) as cs ∧ ∀ j, j < le.length → W.cell? ⟨a.block, a.off + i * le.length + j, none⟩ = cs[j]? := by
        intro i hi
        have he := hel i hi
        have : elems[i]? ≠ none := by simp; omega
        obtain ⟨y, hy⟩ := Option.ne_none_iff_exists'.1 this
        rw [hy, Option.bind_eq_some_iff] at he
        obtain ⟨cs, hcs, htr⟩ := he
        obtain ⟨_, hcl, hcell⟩ := World.cells?_some hcs
        obtain ⟨as, hta, hda⟩ := ty_open n e le hle cs y k htr
        refine ⟨as, cs, hta, hda, fun j hj => ?_⟩
        have := hcell j (by omega)
        rw [← this, add_off (a := a.add _) (by rw [add_off hspot]), add_off hspot, hsz]
      obtain ⟨rows, hrl, hrt, hr⟩ : ∃ rows : List (List AV), rows.length = len ∧ (∀ r ∈ rows, Al TyV le r) ∧ ∀ i r, rows[i]? = some r → ∃ cs, Al (DV W (oldP W)) r cs ∧ ∀ j, j < le.length → W.cell? ⟨a.block, a.off + i * le.length + j, none⟩ = cs[j]? := by
        refine ⟨(List.range len).map fun i => if h : i < len then (each i h).choose else [], by simp, ?_, ?_⟩
        · intro r hr
          obtain ⟨i, hi, rfl⟩ := List.mem_map.1 hr
          rw [List.mem_range] at hi
          rw [dif_pos hi]
          exact (each i hi).choose_spec.choose_spec.1
        · intro i r hr
          rw [List.getElem?_map, Option.map_eq_some_iff] at hr
          obtain ⟨k, hk, rfl⟩ := hr
          have hi := (List.getElem?_eq_some_iff.1 hk).1
          simp at hi
          rw [List.getElem?_range hi] at hk
          cases hk
          rw [dif_pos hi]
          exact ⟨_, (each i hi).choose_spec.choose_spec.2⟩
      obtain ⟨b, off, spot⟩ := a
      simp only at hspot hr
      subst hspot
      refine ⟨[.sl rows], ⟨by simp only [TyV]; exact ⟨by omega, fun r hr => tysV_al.2 (hrt r hr)⟩, trivial⟩, ?_, trivial⟩
      have hz : ∀ (i : Nat) (r : List AV), rows[i]? = some r → r.length = le.length := fun i r h => (hrt r (List.mem_of_getElem? h)).len.symm
      have at_ : ∀ (i j : Nat) (r : List AV) (x : AV), rows[i]? = some r → r[j]? = some x → ∃ v, W.cell? ⟨b, off + i * le.length + j, none⟩ = some v ∧ DV W (oldP W) x v := by
        intro i j r x h1 h2
        obtain ⟨cs, hd, hc⟩ := hr i r h1
        have hj : j < le.length := by have := (List.getElem?_eq_some_iff.1 h2).1; have := hz i r h1; omega
        obtain ⟨v, hv⟩ : ∃ v, cs[j]? = some v := ⟨_, List.getElem?_eq_getElem (by have := hd.len; have := hz i r h1; omega)⟩
        exact ⟨v, (hc j hj).trans hv, hd.get j x v h2 hv⟩
      have key := DV.sl (w := W) (π := oldP W) rows b off cap le.length (fun i j => (W.cell? ⟨b, off + i * le.length + j, none⟩).getD default) (by omega) hz
        (fun i j r x h1 h2 => by
          obtain ⟨t, ht⟩ : ∃ t, le[j]? = some t := ⟨_, List.getElem?_eq_getElem (by have := (List.getElem?_eq_some_iff.1 h2).1; have := hz i r h1; omega)⟩
          exact TyV.scalar ((hrt r (List.mem_of_getElem? h1)).get j t x ht h2))
        (fun i j r x h1 h2 => by obtain ⟨v, hv, _⟩ := at_ i j r x h1 h2; exact cell_lt hv)
        (fun i j r x h1 h2 => by obtain ⟨v, hv, _⟩ := at_ i j r x h1 h2; rw [hv]; rfl)
        (fun i j r x h1 h2 => by obtain ⟨v, hv, hd⟩ := at_ i j r x h1 h2; rw [hv]; exact hd)
      rw [hrl] at key
      exact key
    · rename_i fs ht
      split at h <;> try (cases h; done)
      rename_i l' hl'
      split at h <;> try (cases h; done)
      rename_i hsz
      cases h
      obtain ⟨xs, k, _, _, hcl, hxl, hf⟩ := DataW.trod_struct ht hx
      have := parts_open (W := W) (Tr := fun t cs => ∃ x fuel, DataW.trod enc P W 0 (fun _ => true) true fuel t cs = some x) (fun t l cs h1 ⟨x, fuel, h3⟩ => ty_open n t l h1 cs x fuel h3) _ 0 l cs hl' (by omega) (fun i f hif => by
        rw [List.getElem?_map, Option.map_eq_some_iff] at hif
        obtain ⟨f, hif, rfl⟩ := hif
        have h1 := hf i f (by simpa using hif)
        have : xs[i]? ≠ none := by
          have := (List.getElem?_eq_some_iff.1 hif).1
          simp at this ⊢; omega
        obtain ⟨y, hy⟩ := Option.ne_none_iff_exists'.1 this
        exact ⟨y, k, h1.trans hy⟩)
      simpa using this
    · rename_i q e ht
      split at h <;> try (cases h; done)
      rename_i l' hl'
      split at h <;> try (cases h; done)
      rename_i hsz
      cases h
      obtain ⟨xs, k, _, _, hcl, hxl, hf⟩ := DataW.trod_array ht hx
      have := parts_open (W := W) (Tr := fun t cs => ∃ x fuel, DataW.trod enc P W 0 (fun _ => true) true fuel t cs = some x) (fun t l cs h1 ⟨x, fuel, h3⟩ => ty_open n t l h1 cs x fuel h3) _ 0 l cs hl' (by omega) (fun i f hif => by
        rw [List.getElem?_map, Option.map_eq_some_iff] at hif
        obtain ⟨f, hif, rfl⟩ := hif
        have hi := (List.getElem?_eq_some_iff.1 hif).1
        simp at hi
        rw [List.getElem?_range hi] at hif
        cases hif
        have h1 := hf i hi
        have : xs[i]? ≠ none := by simp; omega
        obtain ⟨y, hy⟩ := Option.ne_none_iff_exists'.1 this
        exact ⟨y, k, h1.trans hy⟩)
      simpa using this
    · cases h
def isAgg (P : Program) (t : TypeId) : Bool := match P.underlying t with
  | some (.struct _) | some (.array _ _) => true
  | _ => false
theorem arg_open {n : Nat} {t : TypeId} {l : List Ty} {v : Value} {d : DataW H} {p : List MemPlace} (hl : tyOf P n t = some l) (ha : isAgg P t = true) (hval : Value.okWide P W .any base t v)
    (h : DataW.Trod enc P W 0 (fun _ => true) true t v d p) : ∃ as, Al TyV l as ∧ DV W (oldP W) (.agg as) v := by
  obtain ⟨fuel, hf⟩ := h
  obtain ⟨as, ht, hd⟩ := ty_open n t l hl _ _ _ hf
  refine ⟨as, ht, ?_⟩
  have : ∃ cs, v = .agg cs := by
    unfold isAgg at ha
    unfold Value.okWide at hval
    split at hval
    · exact ⟨_, hval.choose_spec.1⟩
    · exact ⟨_, hval.choose_spec.1⟩
    · rename_i h1 h2
      split at ha
      · rename_i e; exact absurd e (h1 _)
      · rename_i e; exact absurd e (h2 _ _)
      · cases ha
  obtain ⟨cs, rfl⟩ := this
  simp only [Value.cells] at hd
  refine .agg as cs (by simpa using hd.len) (fun a ha => ?_) (fun i a v h1 h2 => hd.get i a v h1 (by simpa using h2))
  obtain ⟨i, hi⟩ := List.getElem?_of_mem ha
  obtain ⟨s, hs⟩ : ∃ s, l[i]? = some s := ⟨_, List.getElem?_eq_getElem (by have := ht.len; have := (List.getElem?_eq_some_iff.1 hi).1; omega)⟩
  exact TyV.scalar (ht.get i s a hs hi)
theorem arg_open1 {n : Nat} {t : TypeId} {k : Ty} {v : Value} {d : DataW H} {p : List MemPlace} (hl : tyOf P n t = some [k]) (ha : isAgg P t = false) (hval : Value.okWide P W .any base t v)
    (h : DataW.Trod enc P W 0 (fun _ => true) true t v d p) : ∃ a, TyV k a ∧ DV W (oldP W) a v := by
  obtain ⟨fuel, hf⟩ := h
  obtain ⟨as, ht, hd⟩ := ty_open n t [k] hl _ _ _ hf
  obtain ⟨a, as', rfl, hk, ht'⟩ := ht.cons_inv
  cases ht'.nil_inv
  obtain ⟨u, us, e, hdu, _⟩ := hd.cons_inv
  have hne : ∀ cs, v ≠ .agg cs := by
    rintro cs rfl
    unfold isAgg at ha
    unfold Value.okWide at hval
    split at hval
    · rename_i e; rw [e] at ha; cases ha
    · rename_i e; rw [e] at ha; cases ha
    · unfold Cell.okWide at hval
      split at hval <;> simp_all [Cell.ok]
  refine ⟨a, hk, ?_⟩
  cases v <;> simp [Value.cells] at e
  case agg cs => exact absurd rfl (hne cs)
  all_goals (obtain ⟨rfl, rfl⟩ := e; exact hdu)
theorem tyv_int {k : IntKind} {a : AV} (h : TyV (.sc (.int k)) a) : ∃ n, a = .int k n ∧ (Lit.int k n).wf = true := by
  simp only [TyV] at h
  cases a <;> first | exact h.elim | (obtain ⟨rfl, hw⟩ := h; exact ⟨_, rfl, hw⟩)
theorem tyv_bool {a : AV} (h : TyV (.sc .bool) a) : ∃ b, a = .bool b := by
  simp only [TyV] at h
  cases a <;> first | exact h.elim | exact ⟨_, rfl⟩
theorem tyv_sl {α : Type} {f : α → List AV} {Q : α → Prop} {l : List Ty} (row : ∀ r, Al TyV l r → ∃ x, r = f x ∧ Q x) {a : AV} (h : TyV (.sl l) a) : ∃ xs : Option (List α), a = slAV f xs ∧ (xs.getD []).length ≤ maxLen ∧ ∀ x ∈ xs.getD [], Q x := by
  cases a <;> simp only [TyV] at h
  · exact ⟨none, rfl, by simp, by simp⟩
  rename_i xs
  have : ∀ (xs : List (List AV)), (∀ r ∈ xs, TysV l r) → ∃ m : List α, xs = m.map f ∧ ∀ x ∈ m, Q x := by
    intro xs
    induction xs with
    | nil => intro _; exact ⟨[], rfl, by simp⟩
    | cons r xs ih =>
      intro h
      obtain ⟨m, rfl, hm⟩ := ih (fun r hr => h r (List.mem_cons_of_mem _ hr))
      obtain ⟨x, rfl, hx⟩ := row _ (tysV_al.1 (h _ List.mem_cons_self))
      exact ⟨x :: m, rfl, by simpa using ⟨hx, hm⟩⟩
  obtain ⟨m, rfl, hm⟩ := this xs h.2
  exact ⟨some m, rfl, by simpa using h.1, hm⟩
theorem tyv_ints {k : IntKind} {a : AV} (h : TyV (.sl [.sc (.int k)]) a) : ∃ l : Option (List Int), a = slAV (fun n => [.int k n]) l ∧ (l.getD []).length ≤ maxLen ∧ ∀ n ∈ l.getD [], (Lit.int k n).wf = true :=
  tyv_sl (fun r hr => by
    obtain ⟨a, as, rfl, h1, h2⟩ := hr.cons_inv
    cases h2.nil_inv
    obtain ⟨n, rfl, hn⟩ := tyv_int h1
    exact ⟨n, rfl, hn⟩) h
theorem law_call {P : Program} {f : Nat} {args : List AV} {W : World} {vs : List Value} (h : (Pure P).c f args (.bool true) none) (hd : Al (DV W (oldP W)) args vs) :
    Calls P f vs.toArray W fun e w' => e = .returned (.bool true) ∧ Go.RowKit.Below W.heap.size W w' := by
  refine (h.2 W (oldP W) vs (fun _ _ h => h) ⟨hd.len, hd.get⟩).mono fun e w' ⟨v, π', he, hb, _, _, _, hdv, _⟩ => ?_
  cases hdv
  exact ⟨he, hb⟩
end
section
variable {H : Type} {enc : TypeId × Value → H} {P : Program} {W : World} {base : Nat}
open Go.ChangeShapes Go.WideShapes Go.ChangeAt Go.RowKit
def Came (enc : TypeId × Value → H) (P : Program) (W : World) (base : Nat) (t : TypeId) (v : Value) : Prop :=
  Value.okWide P W .any base t v ∧ ∃ d p, DataW.Trod enc P W 0 (fun _ => true) true t v d p
theorem args_open : ∀ {ts : List TypeId} {vs : List Value} {ds : List (DataW H)} {ps : List MemPlace}, DataW.TrodAll enc P W 0 (fun _ => true) true ts vs ds ps →
    (∀ (j : Nat) t v, ts[j]? = some t → vs[j]? = some v → Value.okWide P W .any base t v) → Al (Came enc P W base) ts vs
  | [], vs, ds, ps, h, _ => by obtain ⟨rfl, _, _⟩ := trodAll_nil h; trivial
  | t :: ts, vs, ds, ps, h, hv => by
    obtain ⟨v, vs', d, ds', p, q, rfl, rfl, rfl, h0, h1⟩ := trodAll_cons h
    exact ⟨⟨hv 0 t v rfl rfl, d, p, h0⟩, args_open h1 fun j t v h1 h2 => hv (j + 1) t v (by simpa using h1) (by simpa using h2)⟩
theorem args_close {W' : World} (hl : laidOutB P = true) : ∀ {ts : List TypeId} {vs : List Value} {ds : List (DataW H)} {ps : List MemPlace}, (ts.all fun t => P.readableRec t && decide (t < P.types.size)) = true →
    DataW.TrodAll enc P W 0 (fun _ => true) true ts vs ds ps → Below W.heap.size W W' → DataW.TrodAll enc P W' 0 (fun b => decide (b < W.heap.size)) true ts vs ds ps
  | [], vs, ds, ps, _, h, _ => by obtain ⟨rfl, rfl, rfl⟩ := trodAll_nil h; exact trodAll_mk0
  | t :: ts, vs, ds, ps, hr, h, hb => by
    have hlt := DataW.TrodAll.lt h
    obtain ⟨v, vs', d, ds', p, q, rfl, rfl, rfl, h0, h1⟩ := trodAll_cons h
    simp only [List.all_cons, Bool.and_eq_true, decide_eq_true_eq] at hr
    exact trodAll_cons_mk (Below.trod hl hr.1.1 hr.1.2 h0 hb fun x hx => hlt x (by simp [hx])) (args_close hl hr.2 h1 hb)
theorem came_agg {n : Nat} {t : TypeId} {l : List Ty} {v : Value} (hl : tyOf P n t = some l) (ha : isAgg P t = true) (h : Came enc P W base t v) : ∃ as, Al TyV l as ∧ DV W (oldP W) (.agg as) v := by
  obtain ⟨h1, d, p, h2⟩ := h; exact arg_open hl ha h1 h2
theorem came_one {n : Nat} {t : TypeId} {k : Ty} {v : Value} (hl : tyOf P n t = some [k]) (ha : isAgg P t = false) (h : Came enc P W base t v) : ∃ a, TyV k a ∧ DV W (oldP W) a v := by
  obtain ⟨h1, d, p, h2⟩ := h; exact arg_open1 hl ha h1 h2
theorem trodAll_lens {sp : Nat → Bool} {held : Bool} {b0 : Nat} : ∀ {ts : List TypeId} {vs : List Value} {ds : List (DataW H)} {ps : List MemPlace}, DataW.TrodAll enc P W b0 sp held ts vs ds ps → ds.length = ts.length
  | [], vs, ds, ps, h => by obtain ⟨_, rfl, _⟩ := trodAll_nil h; rfl
  | t :: ts, vs, ds, ps, h => by
    obtain ⟨v, vs', d, ds', p, q, rfl, rfl, rfl, h0, h1⟩ := trodAll_cons h
    simp [trodAll_lens h1]
end
theorem len_S {α : Type} {l : List α} {n : Nat} (h : l.length = n + 1) : ∃ a m, l = a :: m ∧ m.length = n := by
  cases l with
  | nil => cases h
  | cons a m => exact ⟨a, m, rfl, by simpa using h⟩
theorem len_1 {α : Type} {l : List α} (h : l.length = 1) : ∃ a, l = [a] := by obtain ⟨a, m, rfl, h2⟩ := len_S h; exact ⟨a, by rw [List.length_eq_zero_iff.1 h2]⟩
theorem len_2 {α : Type} {l : List α} (h : l.length = 2) : ∃ a b, l = [a, b] := by obtain ⟨a, m, rfl, h2⟩ := len_S h; obtain ⟨b, rfl⟩ := len_1 h2; exact ⟨a, b, rfl⟩
theorem len_3 {α : Type} {l : List α} (h : l.length = 3) : ∃ a b c, l = [a, b, c] := by obtain ⟨a, m, rfl, h2⟩ := len_S h; obtain ⟨b, c, rfl⟩ := len_2 h2; exact ⟨a, b, c, rfl⟩
theorem len_4 {α : Type} {l : List α} (h : l.length = 4) : ∃ a b c d, l = [a, b, c, d] := by obtain ⟨a, m, rfl, h2⟩ := len_S h; obtain ⟨b, c, d, rfl⟩ := len_3 h2; exact ⟨a, b, c, d, rfl⟩
end Go.Eng
