/- LIBRARY, PART 20: the laws of chapter 20 (transit). -/
import Derived.Test.YtffndeloffamnaaLib19
namespace Go.Eng
set_option linter.unnecessarySimpa false
open Go
set_option linter.unusedVariables false
set_option linter.unusedSimpArgs false
set_option maxRecDepth 10000
set_option maxHeartbeats 4000000
def awake20.Spec (C : Con) (f : Nat) : Prop := C.c f [] (B true) none
def fair.Spec (C : Con) (f : Nat) : Prop := ∀ (l : Option (List Int)) (s : Rd) (rs : List Rn) (ask : Int), s.lock.length = 4 → rs.length = 8 → C.c f [slAV intRow l, .agg s.cells, .agg (runsC rs), I ask] (B true) none
def locks.Spec (C : Con) (f : Nat) : Prop := ∀ (l asks : Option (List Int)), C.c f [slAV intRow l, slAV intRow asks] (B true) none
def budget.Spec (C : Con) (f : Nat) : Prop := ∀ (l asks greens : Option (List Int)), C.c f [slAV intRow l, slAV intRow asks, slAV intRow greens] (B true) none

def exB : Tb := { Tb0 with buses := some [⟨2, 5⟩], extend := 3, budget := 9 }
theorem exB_ok : exB.Ok := ⟨rfl, rfl, rfl, by simp [exB, Tb0], by simp [exB, Tb0], by simp [exB, Tb0], by simp [exB, Tb0], by simp [exB, Tb0]⟩
def rd0 : Rd := ⟨[0, 0, 0, 0], 0, 0⟩
def rn0 : List Rn := List.replicate 8 default
def rn1 : List Rn := rn0.set 0 { (default : Rn) with colour := 1 }
def rn2 : List Rn := rn1.set 1 { (default : Rn) with colour := 1 }
theorem exb1 : earlyR exB rd0 rn1 1 = 253 := by decide +kernel
theorem exb2 : holdR exB rd0 rn2 1 = 2 := by decide +kernel
theorem exb3 : liveR exB rd0 3 = 1 := by decide +kernel

section
variable {P : Program} (hm : P.follows .mixedOrders = true) {f : Nat}
include hm
theorem awake20.ok {e fE fH fL : Nat} (hc : cFn P f = some (cc_law20_awake e fE fH fL)) (hE : Early.Spec (Pure P) fE) (hH : Hold.Spec (Pure P) fH) (hL : Live.Spec (Pure P) fL) : awake20.Spec (Pure P) f := by
  have hb : ((z131_45020.take 115 ++ [AV.sl [[AV.int .i64 2, AV.int .i64 5]]] ++ z131_45020.drop 116).take 116 ++ [AV.int .i64 3] ++ (z131_45020.take 115 ++ [AV.sl [[AV.int .i64 2, AV.int .i64 5]]] ++ z131_45020.drop 116).drop 117).take 117 ++ [AV.int .i64 9] ++ ((z131_45020.take 115 ++ [AV.sl [[AV.int .i64 2, AV.int .i64 5]]] ++ z131_45020.drop 116).take 116 ++ [AV.int .i64 3] ++ (z131_45020.take 115 ++ [AV.sl [[AV.int .i64 2, AV.int .i64 5]]] ++ z131_45020.drop 116).drop 117).drop 118 = exB.cells := rfl
  have hl := Tb.len exB_ok
  have hp := Tb.whole exB_ok
  have hz : setCells z131_45020 0 exB.cells = exB.cells := set_all (by rw [hl]; rfl)
  have hzl : z131_45020.length = 131 := rfl
  have hr1 : setCells z96_20145 0 [AV.int .i64 1] = runsC rn1 := rfl
  have hr2 : setCells (runsC rn1) 12 [AV.int .i64 1] = runsC rn2 := rfl
  have hw1 := runs_whole (l := rn1) rfl
  have hw2 := runs_whole (l := rn2) rfl
  have hl1 := runsC_len (l := rn1) rfl
  have hl2 := runsC_len (l := rn2) rfl
  have c1 := hE exB rd0 rn1 1 exB_ok rfl rfl
  have c2 := hH exB rd0 rn2 1 exB_ok rfl rfl
  have c3 := hL exB rd0 3 exB_ok rfl
  rw [exb1] at c1
  rw [exb2] at c2
  rw [exb3] at c3
  simp only [rd0, Rd.cells, List.map_cons, List.map_nil, List.cons_append, List.nil_append, I] at c1 c2 c3
  refine pure_of hm hc (by show 0 ≤ 30; decide) (aw_flat (keep := []) (i := 0) ?_)
  try simp only [I, B, D, RW, ↓ KW, fillA, stTags, flat, Nat.reduceBEq, Nat.reduceAdd, Nat.reduceLeDiff, Int.reduceNe, Int.reduceBEq, Int.reduceEq, reduceCtorEq, Nat.reduceMul, Int.reduceLT, Int.reduceLE, Int.reduceToNat, cc_law20_awake, hb, hl, hz, hzl, hp, hr1, hw1, hl1]
  refine ⟨by decide, by decide, ?_⟩
  refine call_is c1 ?_
  try simp only [I, B, D, RW, ↓ KW, fillA, stTags, flat, Nat.reduceBEq, Nat.reduceAdd, Nat.reduceLeDiff, Int.reduceNe, Int.reduceBEq, Int.reduceEq, reduceCtorEq, Nat.reduceMul, Int.reduceLT, Int.reduceLE, Int.reduceToNat, hr1, hr2, hw2, hl1, hl2, hp, hz, hb]
  refine ⟨by decide, ?_⟩
  refine call_is c2 ?_
  try simp only [I, B, D, RW, ↓ KW, fillA, stTags, flat, Nat.reduceBEq, Nat.reduceAdd, Nat.reduceLeDiff, Int.reduceNe, Int.reduceBEq, Int.reduceEq, reduceCtorEq, Nat.reduceMul, Int.reduceLT, Int.reduceLE, Int.reduceToNat, hr1, hr2, hw2, hl1, hl2, hp, hz, hb]
  refine call_is c3 ?_
  try simp only [I, B, D, RW, ↓ KW, fillA, stTags, flat, Nat.reduceBEq, Nat.reduceAdd, Nat.reduceLeDiff, Int.reduceNe, Int.reduceBEq, Int.reduceEq, reduceCtorEq, Nat.reduceMul, Int.reduceLT, Int.reduceLE, Int.reduceToNat, hr1, hr2, hw2, hl1, hl2, hp, hz, hb]
end

/-! ### what the sets are, bit by bit -/
theorem tb_those20 (is : Rn → Bool) (l : List Rn) : ∀ k, k ≤ 8 → ∀ i, tb (thoseR is l k) i = (decide (i < k) && is (l.getD i default))
  | 0, _, i => by simp [thoseR, tb_zero]
  | k + 1, h, i => by
    have ih := tb_those20 is l k (by omega) i
    simp only [thoseR]
    split
    · rename_i hk
      rw [tb_with (by omega), ih]
      by_cases e : i = k
      · subst e; simp only [decide_true, Bool.or_true, show i < i + 1 from Nat.lt_succ_self i, Bool.true_and]; exact hk.symm
      · have : (i < k + 1) ↔ i < k := by omega
        simp [e, this]; omega
    · rename_i hk
      rw [ih]
      by_cases e : i = k
      · subst e
        simp only [Bool.not_eq_true] at hk
        rw [hk]; simp
      · have : (i < k + 1) ↔ i < k := by omega
        simp [this]
theorem tb_withR {s : Int} {p : Nat} (hp : p < 8) (i : Nat) : tb (withR s p) i = (decide (i < 8) && (tb s i || decide (i = p))) := by
  rw [withR, tb_of]
  by_cases h : i < 8
  · have : ((i : Int) ∈ listS s ++ [(p : Int)]) ↔ (tb s i = true ∨ i = p) := by
      simp only [listS, listTo, List.mem_append, List.mem_filter, List.mem_map, List.mem_range, List.mem_singleton]
      rw [hasR_tb h]
      constructor
      · rintro (⟨_, h2⟩ | h2)
        · exact .inl h2
        · exact .inr (by omega)
      · rintro (h2 | h2)
        · exact .inl ⟨⟨i, h, rfl⟩, h2⟩
        · exact .inr (by omega)
    simp [h, this]
  · simp [h]
theorem tb_green (l : List Rn) : ∀ k, k ≤ 8 → ∀ i, tb (greenTo l k) i = (decide (i < k) && (l.getD i default).colour == 1)
  | 0, _, i => by simp [greenTo, tb_zero]
  | k + 1, h, i => by
    have ih := tb_green l k (by omega) i
    simp only [greenTo]
    split
    · rename_i hk
      rw [tb_withR (by omega), ih]
      by_cases e : i = k
      · subst e; simp only [decide_true, Bool.or_true, show i < i + 1 from Nat.lt_succ_self i, Bool.true_and, hk]; simp; omega
      · have : (i < k + 1) ↔ i < k := by omega
        simp [e, this]; omega
    · rename_i hk
      rw [ih]
      by_cases e : i = k
      · subst e
        simpa using hk
      · have : (i < k + 1) ↔ i < k := by omega
        simp [this]
theorem tb_sets (t : Tb) (i : Nat) : ∀ (L : List Nat) (b : Int), tb (L.foldl (setsF t) b) i = (tb b i || L.any fun k => tb (busAt t k).set i)
  | [], b => by simp
  | k :: L, b => by rw [List.foldl_cons, tb_sets t i L]; simp [setsF, tb_or, Bool.or_assoc]
def allF (t : Tb) (green : Int) (n : Int) (k : Nat) : Int := if bAnd .i64 (busAt t k).set green == 0 then bAnd .i64 n (busAt t k).set else n
theorem de_morgan (a s : Int) : bOr .i64 (bAndNot .i64 255 a) (bAndNot .i64 255 s) = bAndNot .i64 255 (bAnd .i64 a s) := by
  show IntKind.i64.wrap ((bv (bAndNot .i64 255 a) ||| bv (bAndNot .i64 255 s)).toNat : Int) = IntKind.i64.wrap ((bv 255 &&& ~~~(bv (bAnd .i64 a s))).toNat : Int)
  rw [bv_andNot, bv_andNot, bv_and]
  congr 3
  apply BitVec.eq_of_getLsbD_eq
  intro i hi
  simp [hi]
  cases (bv 255)[i] <;> cases (bv a)[i] <;> cases (bv s)[i] <;> rfl
theorem early_all (t : Tb) (green : Int) : ∀ (L : List Nat) (e a : Int), e = bAndNot .i64 255 a → L.foldl (earlyF t green) e = bAndNot .i64 255 (L.foldl (allF t green) a)
  | [], e, a, h => h
  | k :: L, e, a, h => by
    rw [List.foldl_cons, List.foldl_cons]
    refine early_all t green L _ _ ?_
    simp only [earlyF, allF]
    split
    · rw [h, de_morgan]
    · exact h

theorem table_buses (l : Option (List Int)) : ((tableOf l).buses.getD []).length ≤ 2 := by
  have := frm_range l 177 (n := 3) (by decide) (by decide)
  show ((tabPre l).buses.getD []).length ≤ 2
  simp only [tabPre, mkO_getD, busTo_len]; omega
def eachTo (s : Int) (k : Nat) : List Nat := (List.range k).filter fun k => tb s k
theorem eachTo_succ (s : Int) (k : Nat) : eachTo s (k + 1) = if tb s k then eachTo s k ++ [k] else eachTo s k := by
  simp only [eachTo, List.range_succ, List.filter_append, List.filter_cons, List.filter_nil]
  split <;> simp
theorem eachTo_all {t : Tb} {s : Int} (h : (t.buses.getD []).length ≤ 2) : eachTo s (t.buses.getD []).length = eachK t s := by
  have : nBus t = (t.buses.getD []).length := by simp only [nBus]; omega
  rw [eachK, this, eachTo]
theorem shr_u (x : Int) {k : Nat} (hk : k < 8) : bAnd .i64 (x.fdiv (2 ^ min (IntKind.u64.wrap (k : Int)).toNat IntKind.i64.bits)) 1 = if tb x k then 1 else 0 := by
  rw [wrap_u64 (by omega), Int.toNat_natCast, shr_and x hk]

theorem run_extra {l : List Rn} {k : Nat} (h : l.length = 8) (hk : k < 8) : (runsC l)[k * 12 + 6]? = some (AV.int .i64 (l.getD k default).extra) := by
  have hget : l[k]? = some (l.getD k default) := by
    have : k < l.length := by omega
    simp [this]
  have e : ((l.take k).flatMap Rn.cells).length = k * 12 := by rw [flatMap_len Rn.len, take_len hget]
  rw [runsC, flatMap_at hget, List.getElem?_append_right (by omega), e]
  rw [show k * 12 + 6 - k * 12 = 6 by omega]
  rfl
theorem fair_hold {t : Tb} {s : Rd} {rs : List Rn} {ask : Int} {p : Nat} (hp : p < 8) (h : tb (holdR t s rs ask) p = true) :
    tb (bAnd .i64 ((eachK t (liveR t s ask)).foldl (setsF t) 0) (greenTo rs 8)) p = true ∧ (rs.getD p default).extra < t.extend := by
  unfold holdR at h
  split at h
  · rw [tb_zero] at h; cases h
  · rw [tb_and, tb_those20 _ _ 8 (by omega), Bool.and_eq_true] at h
    rw [tb_and, tb_green _ 8 (by omega), Bool.and_eq_true]
    obtain ⟨h1, h2⟩ := h
    simp only [hp, decide_true, Bool.true_and, holdIs, Bool.and_eq_true, decide_eq_true_eq] at h2 ⊢
    exact ⟨⟨h1, h2.1⟩, h2.2⟩
theorem bAnd_zero (x : Int) : bAnd .i64 0 x = 0 := by rw [and_zero]; intro i _; simp [tb_zero]
theorem live_none {t : Tb} {s : Rd} {rs : List Rn} {ask : Int} (h : liveR t s ask = 0) : holdR t s rs ask = 0 ∧ earlyR t s rs ask = 0 := by
  have e : eachK t 0 = [] := by simp [eachK, tb_zero]
  simp only [holdR, earlyR, h, e, List.foldl_nil, bAnd_zero]
  simp

section
variable {P : Program} (hm : P.follows .mixedOrders = true) {f : Nat}
include hm
theorem fair.ok {fT fL fH fE fG fh fA : Nat} (hc : cFn P f = some (cc_law20_TransitFair fT fL fH fE fG fh fA)) (hT : Table.Spec (Pure P) fT) (hL : Live.Spec (Pure P) fL) (hH : Hold.Spec (Pure P) fH) (hE : Early.Spec (Pure P) fE) (hG : green19.Spec (Pure P) fG) (hh : refHas.Spec (Pure P) fh) (hA : awake20.Spec (Pure P) fA) : fair.Spec (Pure P) f := by
  intro l s rs ask hs hr8
  have ht := tableOf_ok l
  have hb2 := table_buses l
  generalize hTe : tableOf l = t at *
  have hw := ht.ln.whole
  have hl := ht.ln.len
  have hz : z131_45020.length = 131 := rfl
  have hsz : setCells z131_45020 0 t.cells = t.cells := set_all (by rw [hl, hz])
  have hsw := Rd.whole hs
  have hrw := runs_whole hr8
  have hbu := Tb.buses_at ht
  refine pure_of hm hc (by show 4 ≤ 128; decide) (aw_flat (keep := []) (i := 0) ?_)
  try simp only [I, B, D, RW, ↓ KW, fillA, setCells, stTags, flat, Nat.reduceBEq, Nat.reduceAdd, Nat.reduceLeDiff, Int.reduceNe, Int.reduceBEq, Int.reduceEq, reduceCtorEq, Nat.reduceMul, Int.reduceLT, Int.reduceLE, Int.reduceToNat, cc_law20_TransitFair]
  refine call_is (hT l) ?_
  rw [hTe]
  try simp only [I, B, D, RW, ↓ KW, fillA, stTags, flat, Nat.reduceBEq, Nat.reduceAdd, Nat.reduceLeDiff, Int.reduceNe, Int.reduceBEq, Int.reduceEq, reduceCtorEq, Nat.reduceMul, Int.reduceLT, Int.reduceLE, Int.reduceToNat, hl, hz, hsz, hw, hsw]
  refine call_is (hL t s ask ht hs) ?_
  try simp only [I, B, D, RW, ↓ KW, fillA, stTags, flat, Nat.reduceBEq, Nat.reduceAdd, Nat.reduceLeDiff, Int.reduceNe, Int.reduceBEq, Int.reduceEq, reduceCtorEq, Nat.reduceMul, Int.reduceLT, Int.reduceLE, Int.reduceToNat, hl, hz, hsz, hw, hsw, hrw]
  refine call_is (hH t s rs ask ht hs hr8) ?_
  try simp only [I, B, D, RW, ↓ KW, fillA, stTags, flat, Nat.reduceBEq, Nat.reduceAdd, Nat.reduceLeDiff, Int.reduceNe, Int.reduceBEq, Int.reduceEq, reduceCtorEq, Nat.reduceMul, Int.reduceLT, Int.reduceLE, Int.reduceToNat, hl, hz, hsz, hw, hsw, hrw]
  refine call_is (hE t s rs ask ht hs hr8) ?_
  try simp only [I, B, D, RW, ↓ KW, fillA, stTags, flat, Nat.reduceBEq, Nat.reduceAdd, Nat.reduceLeDiff, Int.reduceNe, Int.reduceBEq, Int.reduceEq, reduceCtorEq, Nat.reduceMul, Int.reduceLT, Int.reduceLE, Int.reduceToNat, hl, hz, hsz, hw, hsw, hrw]
  refine call_is (hG rs hr8) ?_
  try simp only [I, B, D, RW, ↓ KW, fillA, stTags, flat, Nat.reduceBEq, Nat.reduceAdd, Nat.reduceLeDiff, Int.reduceNe, Int.reduceBEq, Int.reduceEq, reduceCtorEq, Nat.reduceMul, Int.reduceLT, Int.reduceLE, Int.reduceToNat, hl, hz, hsz, hw, hsw, hrw]
  have hfh := fun p hp => fair_hold (t := t) (s := s) (rs := rs) (ask := ask) (p := p) hp
  have hln := live_none (t := t) (s := s) (rs := rs) (ask := ask)
  have hea : earlyR t s rs ask = bAndNot .i64 255 ((eachK t (liveR t s ask)).foldl (allF t (greenTo rs 8)) 255) := by
    have e := early_all t (thoseR greenIs rs 8) (eachK t (liveR t s ask)) 0 255 (by decide)
    have hg : ∀ i, tb (thoseR greenIs rs 8) i = tb (greenTo rs 8) i := fun i => by rw [tb_those20 _ _ 8 (by omega), tb_green _ 8 (by omega)]; rfl
    have hf : allF t (thoseR greenIs rs 8) = allF t (greenTo rs 8) := by
      funext n k
      have hz : (bAnd .i64 (busAt t k).set (thoseR greenIs rs 8) == 0) = (bAnd .i64 (busAt t k).set (greenTo rs 8) == 0) := by
        rw [Bool.eq_iff_iff, beq_iff_eq, beq_iff_eq, and_zero, and_zero]
        simp only [hg]
      simp only [allF, hz]
    rw [hf] at e
    exact e
  have hspn : s.spent ≥ t.budget → holdR t s rs ask = 0 := fun h => by simp [holdR, h]
  have heq := eachTo_all (t := t) (s := liveR t s ask) hb2
  rw [← heq] at hea hfh
  generalize holdR t s rs ask = hd at *
  generalize earlyR t s rs ask = er at *
  generalize liveR t s ask = lv at *
  generalize greenTo rs 8 = gr at *
  refine aw_loop' (fun y : Nat => (⟨[(16, .dat (I y) none), (9, .ptr 9 0), (5, .ptr 4 0), (6, .ptr 5 0), (10, .dat (I lv) none), (11, .dat (I hd) none), (12, .dat (I er) none), (13, .dat (I gr) none), (14, .dat (I ((eachTo lv y).foldl (setsF t) 0)) none), (15, .dat (I ((eachTo lv y).foldl (allF t gr) 255)) none)], [(9, ⟨t.cells, []⟩), (4, ⟨s.cells, []⟩), (5, ⟨runsC rs, []⟩)], [], 400⟩ : S)) (fun k => (t.buses.getD []).length - k) (fun k => k ≤ (t.buses.getD []).length) ?_ 0 (by omega) ?_
  · intro k hk A back
    have hwr := wrap_succ (k := k) (by omega)
    have hn := eachTo_succ lv k
    try simp only [I, B, D, RW, ↓ KW, fillA, stTags, flat, Nat.reduceBEq, Nat.reduceAdd, Nat.reduceLeDiff, Int.reduceNe, Int.reduceBEq, Int.reduceEq, reduceCtorEq, Nat.reduceMul, Int.reduceLT, Int.reduceLE, Int.reduceToNat, hbu]
    refine cd_split (fun h => ?_) (fun h => ?_) <;> try simp only [I, B, D, RW, ↓ KW, fillA, stTags, flat, Nat.reduceBEq, Nat.reduceAdd, Nat.reduceLeDiff, Int.reduceNe, Int.reduceBEq, Int.reduceEq, reduceCtorEq, Nat.reduceMul, Int.reduceLT, Int.reduceLE, Int.reduceToNat, h]
    · have hlt : k < (t.buses.getD []).length := by have := of_decide_eq_true h; omega
      have hu : IntKind.u64.wrap (k : Int) = k := wrap_u64 (by omega)
      have hsu := shr_and lv (k := k) (by omega)
      have hbk : (t.buses.getD [])[k]? = some (busAt t k) := by simp [busAt, hlt]
      try simp only [I, B, D, RW, ↓ KW, fillA, stTags, flat, Nat.reduceBEq, Nat.reduceAdd, Nat.reduceLeDiff, Int.reduceNe, Int.reduceBEq, Int.reduceEq, reduceCtorEq, Nat.reduceMul, Int.reduceLT, Int.reduceLE, Int.reduceToNat, hu, hsu]
      cases hb : tb lv k
      · rw [hb] at hn
        try simp only [I, B, D, RW, ↓ KW, fillA, stTags, flat, Nat.reduceBEq, Nat.reduceAdd, Nat.reduceLeDiff, Int.reduceNe, Int.reduceBEq, Int.reduceEq, reduceCtorEq, Nat.reduceMul, Int.reduceLT, Int.reduceLE, Int.reduceToNat, hb]
        refine ⟨by omega, ?_⟩
        refine back (k + 1) _ (by omega) (by omega) (le_tok2 (by decide) ?_ ?_ ?_ ?_) <;> simp [intRow, ownSV, ownL, leSlots, lv_dat, lv_tok, lv_ptr, lv_rp, lv_undef, leBoxes, leTags, leLive, tokM, tokB, tokT, ren, liveInj, r_lk, r_lkN, r_lkB, r_lkN0, I, B, D, withV_some, hwr, hn]
      · rw [hb] at hn
        simp only [if_true] at hn
        have hf1 : (eachTo lv k ++ [k]).foldl (setsF t) 0 = bOr .i64 ((eachTo lv k).foldl (setsF t) 0) (busAt t k).set := by rw [List.foldl_append]; rfl
        have hf2 : (eachTo lv k ++ [k]).foldl (allF t gr) 255 = if bAnd .i64 (busAt t k).set gr == 0 then bAnd .i64 ((eachTo lv k).foldl (allF t gr) 255) (busAt t k).set else (eachTo lv k).foldl (allF t gr) 255 := by rw [List.foldl_append]; rfl
        try simp only [I, B, D, RW, ↓ KW, fillA, stTags, flat, Nat.reduceBEq, Nat.reduceAdd, Nat.reduceLeDiff, Int.reduceNe, Int.reduceBEq, Int.reduceEq, reduceCtorEq, Nat.reduceMul, Int.reduceLT, Int.reduceLE, Int.reduceToNat, hb, hbu, hbk, Bs.cells]
        refine ⟨by omega, by omega, by omega, ?_⟩
        refine cd_split (fun h2 => ?_) (fun h2 => ?_) <;> try simp only [I, B, D, RW, ↓ KW, fillA, stTags, flat, Nat.reduceBEq, Nat.reduceAdd, Nat.reduceLeDiff, Int.reduceNe, Int.reduceBEq, Int.reduceEq, reduceCtorEq, Nat.reduceMul, Int.reduceLT, Int.reduceLE, Int.reduceToNat, hbu, hbk, Bs.cells, h2]
        · refine ⟨by omega, ?_⟩
          refine back (k + 1) _ (by omega) (by omega) ?_
          refine le_tok2 (by decide) ?_ ?_ ?_ ?_ <;> simp [intRow, ownSV, ownL, leSlots, lv_dat, lv_tok, lv_ptr, lv_rp, lv_undef, leBoxes, leTags, leLive, tokM, tokB, tokT, ren, liveInj, r_lk, r_lkN, r_lkB, r_lkN0, I, B, D, withV_some, hwr, hn, hf1, hf2, h2]
        · refine back (k + 1) _ (by omega) (by omega) ?_
          refine le_tok2 (by decide) ?_ ?_ ?_ ?_ <;> simp [intRow, ownSV, ownL, leSlots, lv_dat, lv_tok, lv_ptr, lv_rp, lv_undef, leBoxes, leTags, leLive, tokM, tokB, tokT, ren, liveInj, r_lk, r_lkN, r_lkB, r_lkN0, I, B, D, withV_some, hwr, hn, hf1, hf2, h2]
    · have hke : k = (t.buses.getD []).length := by have := of_decide_eq_false h; omega
      subst hke
      try simp only [I, B, D, RW, ↓ KW, fillA, stTags, flat, Nat.reduceBEq, Nat.reduceAdd, Nat.reduceLeDiff, Int.reduceNe, Int.reduceBEq, Int.reduceEq, reduceCtorEq, Nat.reduceMul, Int.reduceLT, Int.reduceLE, Int.reduceToNat]
      generalize (eachTo lv (t.buses.getD []).length).foldl (setsF t) 0 = st at *
      generalize (eachTo lv (t.buses.getD []).length).foldl (allF t gr) 255 = al at *
      refine aw_loop' (fun p : Nat => (⟨[(17, .dat (I p) none), (9, .ptr 9 0), (5, .ptr 4 0), (6, .ptr 5 0), (10, .dat (I lv) none), (11, .dat (I hd) none), (12, .dat (I er) none), (13, .dat (I gr) none), (14, .dat (I st) none), (15, .dat (I al) none)], [(9, ⟨t.cells, []⟩), (4, ⟨s.cells, []⟩), (5, ⟨runsC rs, []⟩)], [], 400⟩ : S)) (fun k => 8 - k) (fun k => k ≤ 8) ?_ 0 (by omega) ?_
      · intro p hp A back
        have hwp := wrap_succ (k := p) (by omega)
        try simp only [I, B, D, RW, ↓ KW, fillA, stTags, flat, Nat.reduceBEq, Nat.reduceAdd, Nat.reduceLeDiff, Int.reduceNe, Int.reduceBEq, Int.reduceEq, reduceCtorEq, Nat.reduceMul, Int.reduceLT, Int.reduceLE, Int.reduceToNat]
        refine cd_split (fun h => ?_) (fun h => ?_) <;> try simp only [I, B, D, RW, ↓ KW, fillA, stTags, flat, Nat.reduceBEq, Nat.reduceAdd, Nat.reduceLeDiff, Int.reduceNe, Int.reduceBEq, Int.reduceEq, reduceCtorEq, Nat.reduceMul, Int.reduceLT, Int.reduceLE, Int.reduceToNat, h]
        · have h8 : p < 8 := by have := of_decide_eq_true h; omega
          have hex : (runsC rs)[p * 12 + 6]? = some (AV.int .i64 (rs.getD p default).extra) := run_extra hr8 h8
          have hxt : t.cells[116]? = some (AV.int .i64 t.extend) := Tb.extend_at ht
          have hfp := hfh p h8
          rw [← hasR_tb h8, ← hasR_tb h8] at hfp
          refine call_is (hh hd p) ?_
          try simp only [I, B, D, RW, ↓ KW, fillA, stTags, flat, Nat.reduceBEq, Nat.reduceAdd, Nat.reduceLeDiff, Int.reduceNe, Int.reduceBEq, Int.reduceEq, reduceCtorEq, Nat.reduceMul, Int.reduceLT, Int.reduceLE, Int.reduceToNat]
          cases hb : hasR hd p
          · try simp only [I, B, D, RW, ↓ KW, fillA, stTags, flat, Nat.reduceBEq, Nat.reduceAdd, Nat.reduceLeDiff, Int.reduceNe, Int.reduceBEq, Int.reduceEq, reduceCtorEq, Nat.reduceMul, Int.reduceLT, Int.reduceLE, Int.reduceToNat, hb]
            refine back (p + 1) _ (by omega) (by omega) (le_tok2 (by decide) ?_ ?_ ?_ ?_) <;> simp [intRow, ownSV, ownL, leSlots, lv_dat, lv_tok, lv_ptr, lv_rp, lv_undef, leBoxes, leTags, leLive, tokM, tokB, tokT, ren, liveInj, r_lk, r_lkN, r_lkB, r_lkN0, I, B, D, withV_some, hwp]
          · obtain ⟨f1, f2⟩ := hfp hb
            have f2' : decide (t.extend ≤ (rs.getD p default).extra) = false := decide_eq_false (by omega)
            try simp only [I, B, D, RW, ↓ KW, fillA, stTags, flat, Nat.reduceBEq, Nat.reduceAdd, Nat.reduceLeDiff, Int.reduceNe, Int.reduceBEq, Int.reduceEq, reduceCtorEq, Nat.reduceMul, Int.reduceLT, Int.reduceLE, Int.reduceToNat, hb]
            refine call_is (hh _ p) ?_
            try simp only [I, B, D, RW, ↓ KW, fillA, stTags, flat, Nat.reduceBEq, Nat.reduceAdd, Nat.reduceLeDiff, Int.reduceNe, Int.reduceBEq, Int.reduceEq, reduceCtorEq, Nat.reduceMul, Int.reduceLT, Int.reduceLE, Int.reduceToNat, f1, hex, hxt, f2']
            refine ⟨by omega, ?_⟩
            refine back (p + 1) _ (by omega) (by omega) (le_tok2 (by decide) ?_ ?_ ?_ ?_) <;> simp [intRow, ownSV, ownL, leSlots, lv_dat, lv_tok, lv_ptr, lv_rp, lv_undef, leBoxes, leTags, leLive, tokM, tokB, tokT, ren, liveInj, r_lk, r_lkN, r_lkB, r_lkN0, I, B, D, withV_some, hwp]
        · have hsp : s.cells[5]? = some (AV.int .i64 s.spent) := Rd.spent_at hs
          have hbg : t.cells[117]? = some (AV.int .i64 t.budget) := Tb.budget_at ht
          have h1 : (er == bAndNot .i64 255 al) = true := by rw [hea]; exact beq_self_eq_true _
          by_cases h0 : lv = 0
          · obtain ⟨k1, k2⟩ := hln h0
            have h2 : (lv != 0) = false := by simp [h0]
            have h3 : (hd == 0) = true := by simp [k1]
            have h4 : (er == 0) = true := by simp [k2]
            try simp only [I, B, D, RW, ↓ KW, fillA, stTags, flat, Nat.reduceBEq, Nat.reduceAdd, Nat.reduceLeDiff, Int.reduceNe, Int.reduceBEq, Int.reduceEq, reduceCtorEq, Nat.reduceMul, Int.reduceLT, Int.reduceLE, Int.reduceToNat, h1, h2, h3, h4, hsp, hbg]
            repeat' (first | (refine call_is (hA) ?_; try simp only [I, B, D, RW, ↓ KW, fillA, stTags, flat, Nat.reduceBEq, Nat.reduceAdd, Nat.reduceLeDiff, Int.reduceNe, Int.reduceBEq, Int.reduceEq, reduceCtorEq, Nat.reduceMul, Int.reduceLT, Int.reduceLE, Int.reduceToNat, h1, h2, h3, h4, hsp, hbg]) | (refine gd_split (fun h => ?_) (fun h => ?_) <;> try simp only [I, B, D, RW, ↓ KW, fillA, stTags, flat, Nat.reduceBEq, Nat.reduceAdd, Nat.reduceLeDiff, Int.reduceNe, Int.reduceBEq, Int.reduceEq, reduceCtorEq, Nat.reduceMul, Int.reduceLT, Int.reduceLE, Int.reduceToNat, h1, h2, h3, h4, hsp, hbg, h]) | (refine cd_split (fun h => ?_) (fun h => ?_) <;> try simp only [I, B, D, RW, ↓ KW, fillA, stTags, flat, Nat.reduceBEq, Nat.reduceAdd, Nat.reduceLeDiff, Int.reduceNe, Int.reduceBEq, Int.reduceEq, reduceCtorEq, Nat.reduceMul, Int.reduceLT, Int.reduceLE, Int.reduceToNat, h1, h2, h3, h4, hsp, hbg, h]) | (refine pk_split (fun h => ?_) (fun h => ?_) <;> try simp only [I, B, D, RW, ↓ KW, fillA, stTags, flat, Nat.reduceBEq, Nat.reduceAdd, Nat.reduceLeDiff, Int.reduceNe, Int.reduceBEq, Int.reduceEq, reduceCtorEq, Nat.reduceMul, Int.reduceLT, Int.reduceLE, Int.reduceToNat, h1, h2, h3, h4, hsp, hbg, h]))
          · have h2 : (lv != 0) = true := by simp [h0]
            by_cases hb : s.spent ≥ t.budget
            · have h3 : (hd == 0) = true := by simp [hspn hb]
              try simp only [I, B, D, RW, ↓ KW, fillA, stTags, flat, Nat.reduceBEq, Nat.reduceAdd, Nat.reduceLeDiff, Int.reduceNe, Int.reduceBEq, Int.reduceEq, reduceCtorEq, Nat.reduceMul, Int.reduceLT, Int.reduceLE, Int.reduceToNat, h1, h2, h3, hsp, hbg]
              repeat' (first | (refine call_is (hA) ?_; try simp only [I, B, D, RW, ↓ KW, fillA, stTags, flat, Nat.reduceBEq, Nat.reduceAdd, Nat.reduceLeDiff, Int.reduceNe, Int.reduceBEq, Int.reduceEq, reduceCtorEq, Nat.reduceMul, Int.reduceLT, Int.reduceLE, Int.reduceToNat, h1, h2, h3, hsp, hbg]) | (refine gd_split (fun h => ?_) (fun h => ?_) <;> try simp only [I, B, D, RW, ↓ KW, fillA, stTags, flat, Nat.reduceBEq, Nat.reduceAdd, Nat.reduceLeDiff, Int.reduceNe, Int.reduceBEq, Int.reduceEq, reduceCtorEq, Nat.reduceMul, Int.reduceLT, Int.reduceLE, Int.reduceToNat, h1, h2, h3, hsp, hbg, h]) | (refine cd_split (fun h => ?_) (fun h => ?_) <;> try simp only [I, B, D, RW, ↓ KW, fillA, stTags, flat, Nat.reduceBEq, Nat.reduceAdd, Nat.reduceLeDiff, Int.reduceNe, Int.reduceBEq, Int.reduceEq, reduceCtorEq, Nat.reduceMul, Int.reduceLT, Int.reduceLE, Int.reduceToNat, h1, h2, h3, hsp, hbg, h]) | (refine pk_split (fun h => ?_) (fun h => ?_) <;> try simp only [I, B, D, RW, ↓ KW, fillA, stTags, flat, Nat.reduceBEq, Nat.reduceAdd, Nat.reduceLeDiff, Int.reduceNe, Int.reduceBEq, Int.reduceEq, reduceCtorEq, Nat.reduceMul, Int.reduceLT, Int.reduceLE, Int.reduceToNat, h1, h2, h3, hsp, hbg, h]))
            · have h3 : decide (s.spent < t.budget) = true := decide_eq_true (by omega)
              try simp only [I, B, D, RW, ↓ KW, fillA, stTags, flat, Nat.reduceBEq, Nat.reduceAdd, Nat.reduceLeDiff, Int.reduceNe, Int.reduceBEq, Int.reduceEq, reduceCtorEq, Nat.reduceMul, Int.reduceLT, Int.reduceLE, Int.reduceToNat, h1, h2, h3, hsp, hbg]
              repeat' (first | (refine call_is (hA) ?_; try simp only [I, B, D, RW, ↓ KW, fillA, stTags, flat, Nat.reduceBEq, Nat.reduceAdd, Nat.reduceLeDiff, Int.reduceNe, Int.reduceBEq, Int.reduceEq, reduceCtorEq, Nat.reduceMul, Int.reduceLT, Int.reduceLE, Int.reduceToNat, h1, h2, h3, hsp, hbg]) | (refine gd_split (fun h => ?_) (fun h => ?_) <;> try simp only [I, B, D, RW, ↓ KW, fillA, stTags, flat, Nat.reduceBEq, Nat.reduceAdd, Nat.reduceLeDiff, Int.reduceNe, Int.reduceBEq, Int.reduceEq, reduceCtorEq, Nat.reduceMul, Int.reduceLT, Int.reduceLE, Int.reduceToNat, h1, h2, h3, hsp, hbg, h]) | (refine cd_split (fun h => ?_) (fun h => ?_) <;> try simp only [I, B, D, RW, ↓ KW, fillA, stTags, flat, Nat.reduceBEq, Nat.reduceAdd, Nat.reduceLeDiff, Int.reduceNe, Int.reduceBEq, Int.reduceEq, reduceCtorEq, Nat.reduceMul, Int.reduceLT, Int.reduceLE, Int.reduceToNat, h1, h2, h3, hsp, hbg, h]) | (refine pk_split (fun h => ?_) (fun h => ?_) <;> try simp only [I, B, D, RW, ↓ KW, fillA, stTags, flat, Nat.reduceBEq, Nat.reduceAdd, Nat.reduceLeDiff, Int.reduceNe, Int.reduceBEq, Int.reduceEq, reduceCtorEq, Nat.reduceMul, Int.reduceLT, Int.reduceLE, Int.reduceToNat, h1, h2, h3, hsp, hbg, h]))
      · refine le_tok2 (by decide) ?_ ?_ ?_ ?_ <;> simp [intRow, ownSV, ownL, leSlots, lv_dat, lv_tok, lv_ptr, lv_rp, lv_undef, leBoxes, leTags, leLive, tokM, tokB, tokT, ren, liveInj, r_lk, r_lkN, r_lkB, r_lkN0, I, B, D, withV_some]
  · refine le_tok2 (by decide) ?_ ?_ ?_ ?_ <;> simp [intRow, ownSV, ownL, leSlots, lv_dat, lv_tok, lv_ptr, lv_rp, lv_undef, leBoxes, leTags, leLive, tokM, tokB, tokT, ren, liveInj, r_lk, r_lkN, r_lkB, r_lkN0, I, B, D, withV_some, eachTo]
end

/-! ### who is heard -/
theorem tb_liveF (s : Rd) (i : Nat) : ∀ (L : List Nat) (b : Int), (∀ k ∈ L, k < 8) → tb (L.foldl (liveS s) b) i = (tb b i || L.any fun k => decide (lockAt s k ≤ 0) && decide (i = k))
  | [], b, _ => by simp
  | k :: L, b, h => by
    rw [List.foldl_cons, tb_liveF s i L _ (fun x hx => h x (List.mem_cons_of_mem _ hx))]
    have hk := h k List.mem_cons_self
    simp only [liveS]
    split
    · rename_i hl
      rw [tb_or, tb_pow hk]
      simp [hl, Bool.or_assoc]
    · rename_i hl
      simp [hl]
theorem tb_live (t : Tb) (s : Rd) (ask : Int) (i : Nat) : tb (liveR t s ask) i = (decide (i < nBus t) && tb ask i && decide (lockAt s i ≤ 0)) := by
  rw [liveR, tb_liveF]
  · rw [tb_zero, Bool.false_or, Bool.eq_iff_iff]
    simp only [List.any_eq_true, eachK, List.mem_filter, List.mem_range, Bool.and_eq_true, decide_eq_true_eq]
    constructor
    · rintro ⟨k, ⟨h1, h2⟩, h3, rfl⟩; exact ⟨⟨h1, h2⟩, h3⟩
    · rintro ⟨⟨h1, h2⟩, h3⟩; exact ⟨i, ⟨h1, h2⟩, h3, rfl⟩
  · intro k hk
    simp only [eachK, List.mem_filter, List.mem_range, nBus] at hk
    omega
theorem table_locks (l : Option (List Int)) (k : Nat) (hk : k < ((tableOf l).buses.getD []).length) : 1 ≤ (busAt (tableOf l) k).lock ∧ (busAt (tableOf l) k).lock ≤ 30 := by
  have e : (tableOf l).buses.getD [] = busTo l (rowsOf' l).2 (frm l 177 3) (frm l 177 3).toNat := by
    show (tabPre l).buses.getD [] = _
    simp only [tabPre, mkO_getD]
  rw [e] at hk
  have hk' : k < (frm l 177 3).toNat := by simpa [busTo] using hk
  have : busAt (tableOf l) k = busOf l (rowsOf' l).2 (frm l 177 3 - k) := by
    simp [busAt, e, busTo, hk']
  rw [this]
  simp only [busOf]
  have := frm_range l (331 + 2 * (frm l 177 3 - k)) (n := 30) (by decide) (by decide)
  rw [w64, wrap_id (by omega) (by omega)]
  omega
theorem table_budget (l : Option (List Int)) : 0 ≤ (tableOf l).budget ∧ (tableOf l).budget < 40 := frm_range l 179 (n := 40) (by decide) (by decide)

/-- the ticks for which each bus is not heard, after the first k have been looked at -/
def newD (t : Tb) (dl : List Int) (was ask : Int) (j : Nat) : Int := if dl.getD j 0 > 0 then w64 (dl.getD j 0 - 1) else if tb was j && !tb ask j then (busAt t j).lock else dl.getD j 0
def dTo (t : Tb) (dl : List Int) (was ask : Int) (k : Nat) : List Int := (List.range 4).map fun j => if j < k then newD t dl was ask j else dl.getD j 0
theorem dTo_0 {t : Tb} {dl : List Int} {was ask : Int} (h : dl.length = 4) : dTo t dl was ask 0 = dl := by
  apply List.ext_getElem
  · simp [dTo, h]
  · intro i h1 h2
    simp [dTo, List.getD_eq_getElem?_getD, h2]
theorem dTo_len (t : Tb) (dl : List Int) (was ask : Int) (k : Nat) : (dTo t dl was ask k).length = 4 := by simp [dTo]
theorem dTo_at (t : Tb) (dl : List Int) (was ask : Int) {k : Nat} (hk : k < 4) : ((dTo t dl was ask k).map I)[k]? = some (I (dl.getD k 0)) := by
  simp [dTo, hk]
theorem dTo_set (t : Tb) (dl : List Int) (was ask : Int) {k : Nat} (hk : k < 4) : setCells ((dTo t dl was ask k).map I) k [AV.int .i64 (newD t dl was ask k)] = (dTo t dl was ask (k + 1)).map I := by
  have : k = 0 ∨ k = 1 ∨ k = 2 ∨ k = 3 := by omega
  rcases this with rfl | rfl | rfl | rfl <;> simp [dTo, setCells, List.range_succ]
theorem dTo_keep (t : Tb) (dl : List Int) (was ask : Int) {k : Nat} (hk : k < 4) (h : newD t dl was ask k = dl.getD k 0) : dTo t dl was ask k = dTo t dl was ask (k + 1) := by
  have : k = 0 ∨ k = 1 ∨ k = 2 ∨ k = 3 := by omega
  rcases this with rfl | rfl | rfl | rfl <;> simp [dTo, List.range_succ] <;> simpa using h.symm

theorem rd0_lock (k : Nat) : lockAt rd0 k = 0 := by
  rcases k with _ | _ | _ | _ | k <;> rfl
structure DInv (t : Tb) (s : Rd) : Prop where
  len : s.lock.length = 4
  spent : s.spent = 0
  lo : ∀ k, 0 ≤ lockAt s k ∧ lockAt s k ≤ 30
  off : ∀ k, nBus t ≤ k → lockAt s k = 0
  was : ∀ k, tb s.was k = true → k < nBus t
theorem step_lock {t : Tb} {s : Rd} {ask : Int} (h : DInv t s) : (stepRd t s ask false false).lock = dTo t s.lock s.was ask 4 := by
  simp only [stepRd, lockTo, dTo]
  apply List.map_congr_left
  intro k hk
  simp only [List.mem_range] at hk
  simp only [hk, if_true]
  by_cases hn : k < nBus t
  · simp only [hn, if_true, lockN, newD]
    show (if lockAt s k > 0 then _ else _) = (if lockAt s k > 0 then _ else if _ then _ else lockAt s k)
    have := h.lo k
    by_cases h0 : lockAt s k > 0
    · simp only [h0, if_true]; rfl
    · have h1 : lockAt s k = 0 := by omega
      simp [h1]
  · have h0 := h.off k (by omega)
    have hw : tb s.was k = false := by
      cases hh : tb s.was k
      · rfl
      · exact absurd (h.was k hh) hn
    simp only [hn, if_false, newD]
    show 0 = (if lockAt s k > 0 then _ else if _ then _ else lockAt s k)
    simp [h0, hw]
theorem step_inv {t : Tb} {s : Rd} {ask : Int} (h : DInv t s) (hl : ∀ k, k < (t.buses.getD []).length → 1 ≤ (busAt t k).lock ∧ (busAt t k).lock ≤ 30) : DInv t (stepRd t s ask false false) := by
  have hat : ∀ k, lockAt (stepRd t s ask false false) k = if k < 4 then (if k < nBus t then lockN t s ask k else 0) else 0 := by
    intro k
    by_cases hk : k < 4
    · simp [lockAt, stepRd, lockTo, hk]
    · simp [lockAt, stepRd, lockTo, hk]
  have hN : ∀ k, k < nBus t → 0 ≤ lockN t s ask k ∧ lockN t s ask k ≤ 30 := by
    intro k hk
    have h1 := h.lo k
    have h2 := hl k (by simp only [nBus] at hk; omega)
    simp only [lockN]
    split
    · rw [w64, wrap_id (by omega) (by omega)]; omega
    · split <;> omega
  refine ⟨by simp [stepRd, lockTo], ?_, fun k => ?_, fun k hk => ?_, fun k hk => ?_⟩
  · simp [stepRd, spentN, h.spent]
  · rw [hat]
    split
    · split
      · rename_i hk; exact hN k hk
      · omega
    · omega
  · rw [hat]
    split
    · split
      · omega
      · rfl
    · rfl
  · have : (stepRd t s ask false false).was = liveR t s ask := rfl
    rw [this, tb_live] at hk
    simp at hk
    exact hk.1.1

section
variable {P : Program} (hm : P.follows .mixedOrders = true) {f : Nat}
include hm
theorem locks.ok {fT fA fL fS : Nat} (hc : cFn P f = some (cc_law20_TransitLocks fT fA fL fS)) (hT : Table.Spec (Pure P) fT) (hA : awake20.Spec (Pure P) fA) (hL : Live.Spec (Pure P) fL) (hS : Step20.Spec (Pure P) fS) : locks.Spec (Pure P) f := by
  intro l asks
  have ht := tableOf_ok l
  have hb2 := table_buses l
  have hlk := table_locks l
  generalize hTe : tableOf l = t at *
  have hw := ht.ln.whole
  have hl := ht.ln.len
  have hz : z131_45020.length = 131 := rfl
  have hsz : setCells z131_45020 0 t.cells = t.cells := set_all (by rw [hl, hz])
  have hbu := Tb.buses_at ht
  have hnb : nBus t = (t.buses.getD []).length := by simp only [nBus]; omega
  refine pure_of hm hc (by show 2 ≤ 114; decide) (aw_flat (keep := []) (i := 0) ?_)
  try simp only [I, B, D, RW, ↓ KW, fillA, setCells, stTags, flat, Nat.reduceBEq, Nat.reduceAdd, Nat.reduceLeDiff, Int.reduceNe, Int.reduceBEq, Int.reduceEq, reduceCtorEq, Nat.reduceMul, Int.reduceLT, Int.reduceLE, Int.reduceToNat, cc_law20_TransitLocks]
  refine call_is (hT l) ?_
  rw [hTe]
  try simp only [I, B, D, RW, ↓ KW, fillA, stTags, flat, Nat.reduceBEq, Nat.reduceAdd, Nat.reduceLeDiff, Int.reduceNe, Int.reduceBEq, Int.reduceEq, reduceCtorEq, Nat.reduceMul, Int.reduceLT, Int.reduceLE, Int.reduceToNat, hl, hz, hsz, hw]
  refine cd_split (fun hlen => ?_) (fun hlen => ?_) <;> try simp only [I, B, D, RW, ↓ KW, fillA, stTags, flat, Nat.reduceBEq, Nat.reduceAdd, Nat.reduceLeDiff, Int.reduceNe, Int.reduceBEq, Int.reduceEq, reduceCtorEq, Nat.reduceMul, Int.reduceLT, Int.reduceLE, Int.reduceToNat, hlen]
  · refine call_is hA ?_
    try simp only [I, B, D, RW, ↓ KW, fillA, stTags, flat, Nat.reduceBEq, Nat.reduceAdd, Nat.reduceLeDiff, Int.reduceNe, Int.reduceBEq, Int.reduceEq, reduceCtorEq, Nat.reduceMul, Int.reduceLT, Int.reduceLE, Int.reduceToNat]
  have hlen' : (asks.getD []).length ≤ 200 := by have := of_decide_eq_false hlen; omega
  refine aw_loop' (fun x : Nat × Rd => (⟨[(9, .dat (I x.1) none), (1, .dat (slAV intRow asks) none), (5, .ptr 7 0), (6, .ptr 12 0), (7, .ptr 13 0), (8, .dat (I x.2.was) none)], [(7, ⟨t.cells, []⟩), (12, ⟨x.2.cells, []⟩), (13, ⟨x.2.lock.map I, []⟩)], [], 400⟩ : S)) (fun x => (asks.getD []).length - x.1) (fun x => x.1 ≤ (asks.getD []).length ∧ DInv t x.2) ?_ (0, rd0) ⟨by simp, ⟨rfl, rfl, ?_, ?_, ?_⟩⟩ ?_
  · rintro ⟨i, s⟩ ⟨hi, hD⟩ A back
    simp only at hi hD
    have hwr := wrap_succ (k := i) (by omega)
    have hsw := Rd.whole hD.len
    try simp only [I, B, D, RW, ↓ KW, fillA, stTags, flat, Nat.reduceBEq, Nat.reduceAdd, Nat.reduceLeDiff, Int.reduceNe, Int.reduceBEq, Int.reduceEq, reduceCtorEq, Nat.reduceMul, Int.reduceLT, Int.reduceLE, Int.reduceToNat]
    refine cd_split (fun h => ?_) (fun h => ?_) <;> try simp only [I, B, D, RW, ↓ KW, fillA, stTags, flat, Nat.reduceBEq, Nat.reduceAdd, Nat.reduceLeDiff, Int.reduceNe, Int.reduceBEq, Int.reduceEq, reduceCtorEq, Nat.reduceMul, Int.reduceLT, Int.reduceLE, Int.reduceToNat, h]
    · have hlt : i < (asks.getD []).length := by have := of_decide_eq_true h; omega
      obtain ⟨ask, hask⟩ : ∃ x, (asks.getD [])[i]? = some x := ⟨_, List.getElem?_eq_getElem hlt⟩
      have hsp5 : s.cells[5]? = some (AV.int .i64 s.spent) := Rd.spent_at hD.len
      try simp only [I, B, D, RW, ↓ KW, fillA, stTags, flat, Nat.reduceBEq, Nat.reduceAdd, Nat.reduceLeDiff, Int.reduceNe, Int.reduceBEq, Int.reduceEq, reduceCtorEq, Nat.reduceMul, Int.reduceLT, Int.reduceLE, Int.reduceToNat, hask, intRow, hw, hsw]
      refine ⟨by omega, ?_⟩
      refine call_is (hL t s ask ht hD.len) ?_
      try simp only [I, B, D, RW, ↓ KW, fillA, stTags, flat, Nat.reduceBEq, Nat.reduceAdd, Nat.reduceLeDiff, Int.reduceNe, Int.reduceBEq, Int.reduceEq, reduceCtorEq, Nat.reduceMul, Int.reduceLT, Int.reduceLE, Int.reduceToNat]
      refine aw_loop' (fun k : Nat => (⟨[(11, .dat (I k) none), (9, .dat (I i) none), (1, .dat (slAV intRow asks) none), (5, .ptr 7 0), (6, .ptr 12 0), (7, .ptr 13 0), (8, .dat (I s.was) none), (10, .dat (I (liveR t s ask)) none)], [(7, ⟨t.cells, []⟩), (12, ⟨s.cells, []⟩), (13, ⟨(dTo t s.lock s.was ask k).map I, []⟩)], [], 400⟩ : S)) (fun k => 4 - k) (fun k => k ≤ 4) ?_ 0 (by omega) ?_
      · intro k hk A2 back2
        have hwk := wrap_succ (k := k) (by omega)
        try simp only [I, B, D, RW, ↓ KW, fillA, stTags, flat, Nat.reduceBEq, Nat.reduceAdd, Nat.reduceLeDiff, Int.reduceNe, Int.reduceBEq, Int.reduceEq, reduceCtorEq, Nat.reduceMul, Int.reduceLT, Int.reduceLE, Int.reduceToNat]
        refine cd_split (fun h2 => ?_) (fun h2 => ?_) <;> try simp only [I, B, D, RW, ↓ KW, fillA, stTags, flat, Nat.reduceBEq, Nat.reduceAdd, Nat.reduceLeDiff, Int.reduceNe, Int.reduceBEq, Int.reduceEq, reduceCtorEq, Nat.reduceMul, Int.reduceLT, Int.reduceLE, Int.reduceToNat, h2]
        · have h4 : k < 4 := by have := of_decide_eq_true h2; omega
          have hu : IntKind.u64.wrap (k : Int) = k := wrap_u64 (by omega)
          have s1 := shr_and ask (k := k) (by omega)
          have s2 := shr_and (liveR t s ask) (k := k) (by omega)
          have s3 := shr_and s.was (k := k) (by omega)
          have hda : (List.map I (dTo t s.lock s.was ask k))[k]? = some (AV.int .i64 (lockAt s k)) := dTo_at t s.lock s.was ask h4
          have hset := dTo_set t s.lock s.was ask h4
          have hkeep := dTo_keep t s.lock s.was ask h4
          have hlo := hD.lo k
          have hwas := hD.was k
          obtain ⟨b1, hb1⟩ : ∃ b, decide ((k : Int) < ((t.buses.getD []).length : Int)) = b := ⟨_, rfl⟩
          obtain ⟨b2, hb2⟩ : ∃ b, tb ask k = b := ⟨_, rfl⟩
          obtain ⟨b3, hb3⟩ : ∃ b, (lockAt s k == 0) = b := ⟨_, rfl⟩
          obtain ⟨b4, hb4⟩ : ∃ b, tb s.was k = b := ⟨_, rfl⟩
          have hlv : tb (liveR t s ask) k = (b1 && b2 && b3) := by
            rw [tb_live, hb2]
            have e1 : decide (k < nBus t) = b1 := by rw [← hb1, hnb]; simp
            have e3 : decide (lockAt s k ≤ 0) = b3 := by
              rw [← hb3, Bool.eq_iff_iff, decide_eq_true_eq, beq_iff_eq]; omega
            rw [e1, e3]
          have hgt : decide (0 < lockAt s k) = !b3 := by
            rw [← hb3]
            cases hh : lockAt s k == 0
            · have : lockAt s k ≠ 0 := by simpa using hh
              simp; omega
            · have : lockAt s k = 0 := by simpa using hh
              simp [this]
          have hnew : newD t s.lock s.was ask k = if b3 then (if b4 && !b2 then (busAt t k).lock else lockAt s k) else IntKind.i64.wrap (lockAt s k - 1) := by
            show (if lockAt s k > 0 then w64 (lockAt s k - 1) else if tb s.was k && !tb ask k then _ else lockAt s k) = _
            rw [hb4, hb2]
            have : (lockAt s k > 0) ↔ b3 = false := by
              have := hgt
              cases b3 <;> simp at this ⊢ <;> omega
            cases b3 <;> simp_all [w64]
          rw [hnew] at hset hkeep
          have hbk : b1 = true → (t.buses.getD [])[k]? = some (busAt t k) := fun h => by
            rw [h] at hb1
            have : k < (t.buses.getD []).length := by have := of_decide_eq_true hb1; omega
            simp [busAt, this]
          have h41 : b4 = true → b1 = true := fun h => by
            rw [h] at hb4
            have := hwas hb4
            rw [← hb1]; simp; omega
          have hlt4 : b1 = true → k < (t.buses.getD []).length := fun h => by
            rw [h] at hb1
            have := of_decide_eq_true hb1; omega
          try simp only [I, B, D, RW, ↓ KW, fillA, stTags, flat, Nat.reduceBEq, Nat.reduceAdd, Nat.reduceLeDiff, Int.reduceNe, Int.reduceBEq, Int.reduceEq, reduceCtorEq, Nat.reduceMul, Int.reduceLT, Int.reduceLE, Int.reduceToNat, hbu, hb1]
          cases b1
          · have hb4' : b4 = false := by
              cases b4
              · rfl
              · exact absurd (h41 rfl) (by decide)
            subst hb4'
            cases b2 <;> cases b3
            all_goals
              try simp only [I, B, D, RW, ↓ KW, fillA, stTags, flat, Nat.reduceBEq, Nat.reduceAdd, Nat.reduceLeDiff, Int.reduceNe, Int.reduceBEq, Int.reduceEq, reduceCtorEq, Nat.reduceMul, Int.reduceLT, Int.reduceLE, Int.reduceToNat, hbu, hb1, hu, s1, s2, s3, hda, hask, intRow, hlv, hb2, hb3, hb4, hgt, dTo_len, List.length_map, Bool.and_self, Bool.and_true, Bool.and_false, Bool.true_and, Bool.false_and, beq_self_eq_true, bne_self_eq_false, Bool.not_true, Bool.not_false, Bs.cells]
              repeat' (refine And.intro (by omega) ?_)
              try simp only [I, B, D, RW, ↓ KW, fillA, stTags, flat, Nat.reduceBEq, Nat.reduceAdd, Nat.reduceLeDiff, Int.reduceNe, Int.reduceBEq, Int.reduceEq, reduceCtorEq, Nat.reduceMul, Int.reduceLT, Int.reduceLE, Int.reduceToNat, hbu, hb1, hu, s1, s2, s3, hda, hask, intRow, hlv, hb2, hb3, hb4, hgt, dTo_len, List.length_map, Bool.and_self, Bool.and_true, Bool.and_false, Bool.true_and, Bool.false_and, beq_self_eq_true, bne_self_eq_false, Bool.not_true, Bool.not_false, Bs.cells]
              repeat' (refine And.intro (by omega) ?_)
              try simp only [I, B, D, RW, ↓ KW, fillA, stTags, flat, Nat.reduceBEq, Nat.reduceAdd, Nat.reduceLeDiff, Int.reduceNe, Int.reduceBEq, Int.reduceEq, reduceCtorEq, Nat.reduceMul, Int.reduceLT, Int.reduceLE, Int.reduceToNat, hbu, hb1, hu, s1, s2, s3, hda, hask, intRow, hlv, hb2, hb3, hb4, hgt, dTo_len, List.length_map, Bool.and_self, Bool.and_true, Bool.and_false, Bool.true_and, Bool.false_and, beq_self_eq_true, bne_self_eq_false, Bool.not_true, Bool.not_false, Bs.cells]
              repeat' (refine And.intro (by omega) ?_)
              try simp only [I, B, D, RW, ↓ KW, fillA, stTags, flat, Nat.reduceBEq, Nat.reduceAdd, Nat.reduceLeDiff, Int.reduceNe, Int.reduceBEq, Int.reduceEq, reduceCtorEq, Nat.reduceMul, Int.reduceLT, Int.reduceLE, Int.reduceToNat, hbu, hb1, hu, s1, s2, s3, hda, hask, intRow, hlv, hb2, hb3, hb4, hgt, dTo_len, List.length_map, Bool.and_self, Bool.and_true, Bool.and_false, Bool.true_and, Bool.false_and, beq_self_eq_true, bne_self_eq_false, Bool.not_true, Bool.not_false, Bs.cells]
              repeat' (refine And.intro (by omega) ?_)
            all_goals
              refine back2 (k + 1) _ (by omega) (by omega) ?_
              simp only [if_true, if_false, Bool.and_self, Bool.not_true, Bool.not_false, Bool.and_true, Bool.and_false, Bool.true_and, Bool.false_and, Bool.false_eq_true] at hset hkeep
              first
                | (refine le_tok2 (by decide) ?_ ?_ ?_ ?_ <;> simp [intRow, ownSV, ownL, leSlots, lv_dat, lv_tok, lv_ptr, lv_rp, lv_undef, leBoxes, leTags, leLive, tokM, tokB, tokT, ren, liveInj, r_lk, r_lkN, r_lkB, r_lkN0, I, B, D, withV_some, hwk, hset]; done)
                | (have hke := hkeep rfl; rw [hke]; refine le_tok2 (by decide) ?_ ?_ ?_ ?_ <;> simp [intRow, ownSV, ownL, leSlots, lv_dat, lv_tok, lv_ptr, lv_rp, lv_undef, leBoxes, leTags, leLive, tokM, tokB, tokT, ren, liveInj, r_lk, r_lkN, r_lkB, r_lkN0, I, B, D, withV_some, hwk]; done)
          · have hbk' := hbk rfl
            have hlt4' := hlt4 rfl
            cases b2 <;> cases b3 <;> cases b4
            all_goals
              try simp only [I, B, D, RW, ↓ KW, fillA, stTags, flat, Nat.reduceBEq, Nat.reduceAdd, Nat.reduceLeDiff, Int.reduceNe, Int.reduceBEq, Int.reduceEq, reduceCtorEq, Nat.reduceMul, Int.reduceLT, Int.reduceLE, Int.reduceToNat, hbu, hb1, hu, s1, s2, s3, hda, hask, intRow, hlv, hb2, hb3, hb4, hgt, dTo_len, List.length_map, Bool.and_self, Bool.and_true, Bool.and_false, Bool.true_and, Bool.false_and, beq_self_eq_true, bne_self_eq_false, Bool.not_true, Bool.not_false, Bs.cells, hbk']
              repeat' (refine And.intro (by omega) ?_)
              try simp only [I, B, D, RW, ↓ KW, fillA, stTags, flat, Nat.reduceBEq, Nat.reduceAdd, Nat.reduceLeDiff, Int.reduceNe, Int.reduceBEq, Int.reduceEq, reduceCtorEq, Nat.reduceMul, Int.reduceLT, Int.reduceLE, Int.reduceToNat, hbu, hb1, hu, s1, s2, s3, hda, hask, intRow, hlv, hb2, hb3, hb4, hgt, dTo_len, List.length_map, Bool.and_self, Bool.and_true, Bool.and_false, Bool.true_and, Bool.false_and, beq_self_eq_true, bne_self_eq_false, Bool.not_true, Bool.not_false, Bs.cells, hbk']
              repeat' (refine And.intro (by omega) ?_)
              try simp only [I, B, D, RW, ↓ KW, fillA, stTags, flat, Nat.reduceBEq, Nat.reduceAdd, Nat.reduceLeDiff, Int.reduceNe, Int.reduceBEq, Int.reduceEq, reduceCtorEq, Nat.reduceMul, Int.reduceLT, Int.reduceLE, Int.reduceToNat, hbu, hb1, hu, s1, s2, s3, hda, hask, intRow, hlv, hb2, hb3, hb4, hgt, dTo_len, List.length_map, Bool.and_self, Bool.and_true, Bool.and_false, Bool.true_and, Bool.false_and, beq_self_eq_true, bne_self_eq_false, Bool.not_true, Bool.not_false, Bs.cells, hbk']
              repeat' (refine And.intro (by omega) ?_)
              try simp only [I, B, D, RW, ↓ KW, fillA, stTags, flat, Nat.reduceBEq, Nat.reduceAdd, Nat.reduceLeDiff, Int.reduceNe, Int.reduceBEq, Int.reduceEq, reduceCtorEq, Nat.reduceMul, Int.reduceLT, Int.reduceLE, Int.reduceToNat, hbu, hb1, hu, s1, s2, s3, hda, hask, intRow, hlv, hb2, hb3, hb4, hgt, dTo_len, List.length_map, Bool.and_self, Bool.and_true, Bool.and_false, Bool.true_and, Bool.false_and, beq_self_eq_true, bne_self_eq_false, Bool.not_true, Bool.not_false, Bs.cells, hbk']
              repeat' (refine And.intro (by omega) ?_)
            all_goals
              refine back2 (k + 1) _ (by omega) (by omega) ?_
              simp only [if_true, if_false, Bool.and_self, Bool.not_true, Bool.not_false, Bool.and_true, Bool.and_false, Bool.true_and, Bool.false_and, Bool.false_eq_true] at hset hkeep
              first
                | (refine le_tok2 (by decide) ?_ ?_ ?_ ?_ <;> simp [intRow, ownSV, ownL, leSlots, lv_dat, lv_tok, lv_ptr, lv_rp, lv_undef, leBoxes, leTags, leLive, tokM, tokB, tokT, ren, liveInj, r_lk, r_lkN, r_lkB, r_lkN0, I, B, D, withV_some, hwk, hset]; done)
                | (have hke := hkeep rfl; rw [hke]; refine le_tok2 (by decide) ?_ ?_ ?_ ?_ <;> simp [intRow, ownSV, ownL, leSlots, lv_dat, lv_tok, lv_ptr, lv_rp, lv_undef, leBoxes, leTags, leLive, tokM, tokB, tokT, ren, liveInj, r_lk, r_lkN, r_lkB, r_lkN0, I, B, D, withV_some, hwk]; done)
        · have hk4 : k = 4 := by have := of_decide_eq_false h2; omega
          subst hk4
          try simp only [I, B, D, RW, ↓ KW, fillA, stTags, flat, Nat.reduceBEq, Nat.reduceAdd, Nat.reduceLeDiff, Int.reduceNe, Int.reduceBEq, Int.reduceEq, reduceCtorEq, Nat.reduceMul, Int.reduceLT, Int.reduceLE, Int.reduceToNat, hask, intRow, hw, hsw]
          refine ⟨by omega, ?_⟩
          refine call_is (hS t s ask false false ht hD.len) ?_
          have hD' := step_inv (ask := ask) hD hlk
          have hl6 := Rd.len hD'.len
          have hls := Rd.len hD.len
          have hlo4 := step_lock (ask := ask) hD
          have hsc : setCells s.cells 0 (stepRd t s ask false false).cells = (stepRd t s ask false false).cells := set_all (by rw [hl6, hls])
          have hwas' : (stepRd t s ask false false).was = liveR t s ask := rfl
          try simp only [I, B, D, RW, ↓ KW, fillA, stTags, flat, Nat.reduceBEq, Nat.reduceAdd, Nat.reduceLeDiff, Int.reduceNe, Int.reduceBEq, Int.reduceEq, reduceCtorEq, Nat.reduceMul, Int.reduceLT, Int.reduceLE, Int.reduceToNat, hask, intRow, hw, hsw]
          refine ⟨hl6, by omega, ?_⟩
          refine back (i + 1, stepRd t s ask false false) _ ⟨by simp; omega, hD'⟩ (by simp; omega) ?_
          refine le_tok2 (by decide) ?_ ?_ ?_ ?_ <;> simp [intRow, ownSV, ownL, leSlots, lv_dat, lv_tok, lv_ptr, lv_rp, lv_undef, leBoxes, leTags, leLive, tokM, tokB, tokT, ren, liveInj, r_lk, r_lkN, r_lkB, r_lkN0, I, B, D, withV_some, hwr, hsc, hlo4, hwas']
      · have h00 := dTo_0 (t := t) (was := s.was) (ask := ask) hD.len
        refine le_tok2 (by decide) ?_ ?_ ?_ ?_ <;> simp [intRow, ownSV, ownL, leSlots, lv_dat, lv_tok, lv_ptr, lv_rp, lv_undef, leBoxes, leTags, leLive, tokM, tokB, tokT, ren, liveInj, r_lk, r_lkN, r_lkB, r_lkN0, I, B, D, withV_some, h00]
    · have hsp5 : s.cells[5]? = some (AV.int .i64 s.spent) := Rd.spent_at hD.len
      have h0 : (s.spent == 0) = true := by simp [hD.spent]
      try simp only [I, B, D, RW, ↓ KW, fillA, stTags, flat, Nat.reduceBEq, Nat.reduceAdd, Nat.reduceLeDiff, Int.reduceNe, Int.reduceBEq, Int.reduceEq, reduceCtorEq, Nat.reduceMul, Int.reduceLT, Int.reduceLE, Int.reduceToNat, hsp5, h0]
      repeat' (first | (refine call_is (hA) ?_; try simp only [I, B, D, RW, ↓ KW, fillA, stTags, flat, Nat.reduceBEq, Nat.reduceAdd, Nat.reduceLeDiff, Int.reduceNe, Int.reduceBEq, Int.reduceEq, reduceCtorEq, Nat.reduceMul, Int.reduceLT, Int.reduceLE, Int.reduceToNat]) | (refine gd_split (fun h => ?_) (fun h => ?_) <;> try simp only [I, B, D, RW, ↓ KW, fillA, stTags, flat, Nat.reduceBEq, Nat.reduceAdd, Nat.reduceLeDiff, Int.reduceNe, Int.reduceBEq, Int.reduceEq, reduceCtorEq, Nat.reduceMul, Int.reduceLT, Int.reduceLE, Int.reduceToNat, h]) | (refine cd_split (fun h => ?_) (fun h => ?_) <;> try simp only [I, B, D, RW, ↓ KW, fillA, stTags, flat, Nat.reduceBEq, Nat.reduceAdd, Nat.reduceLeDiff, Int.reduceNe, Int.reduceBEq, Int.reduceEq, reduceCtorEq, Nat.reduceMul, Int.reduceLT, Int.reduceLE, Int.reduceToNat, h]) | (refine pk_split (fun h => ?_) (fun h => ?_) <;> try simp only [I, B, D, RW, ↓ KW, fillA, stTags, flat, Nat.reduceBEq, Nat.reduceAdd, Nat.reduceLeDiff, Int.reduceNe, Int.reduceBEq, Int.reduceEq, reduceCtorEq, Nat.reduceMul, Int.reduceLT, Int.reduceLE, Int.reduceToNat, h]))
  · intro k; rw [rd0_lock]; omega
  · intro k _; exact rd0_lock k
  · intro k hk; simp [rd0, tb_zero] at hk
  · refine le_tok2 (by decide) ?_ ?_ ?_ ?_ <;> simp [intRow, ownSV, ownL, leSlots, lv_dat, lv_tok, lv_ptr, lv_rp, lv_undef, leBoxes, leTags, leLive, tokM, tokB, tokT, ren, liveInj, r_lk, r_lkN, r_lkB, r_lkN0, I, B, D, withV_some, rd0, Rd.cells, hsz]
end

end Go.Eng
