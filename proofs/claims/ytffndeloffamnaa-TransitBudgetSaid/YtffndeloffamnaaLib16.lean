/- LIBRARY, PART 16: tables by numbers. -/
import Derived.Test.YtffndeloffamnaaLib14
import Derived.Test.YtffndeloffamnaaLib15
namespace Go.Eng
set_option linter.unnecessarySimpa false
open Go
set_option linter.unusedVariables false
set_option linter.unusedSimpArgs false
set_option maxRecDepth 10000
set_option maxHeartbeats 4000000
def Tb0 : Tb := ⟨List.replicate 8 default, none, List.replicate 8 0, none, none, none, 0, 0, 0, 0, 0, List.replicate 8 0, 0, 0⟩
theorem z131_is : z131_45020 = Tb0.cells := rfl
def phTo (l : Option (List Int)) : Nat → List Ph
  | 0 => List.replicate 8 default
  | k + 1 => (phTo l k).set k (phaseOf l (10 + 12 * k))
def flTo : Nat → List Int
  | 0 => List.replicate 8 0
  | k + 1 => (flTo k).set k 1
theorem phTo_len (l : Option (List Int)) : ∀ k, (phTo l k).length = 8
  | 0 => by simp [phTo]
  | k + 1 => by simp [phTo, phTo_len l k]
theorem flTo_len : ∀ k, (flTo k).length = 8
  | 0 => by simp [flTo]
  | k + 1 => by simp [flTo, flTo_len k]

def cAt (c : List Int) (i : Nat) : Int := c.getD i 0
/-- whether two phases are made to conflict -/
def clashes (t : Tb) (l : Option (List Int)) (p q : Nat) : Bool := !besideR t p q && frm l (110 + 8 * p + q) 9 != 1
def confStep (t : Tb) (l : Option (List Int)) (p q : Nat) (c : List Int) : List Int :=
  if clashes t l p q then
    let c1 := c.set p (withR (cAt c p) q)
    c1.set q (withR (cAt c1 q) p)
  else c
def confRow (t : Tb) (l : Option (List Int)) (p : Nat) : Nat → List Int → List Int
  | 0, c => c
  | q + 1, c => confStep t l p q (confRow t l p q c)
def confTo (t : Tb) (l : Option (List Int)) : Nat → List Int
  | 0 => List.replicate 8 0
  | p + 1 => confRow t l p p (confTo t l p)
theorem confStep_len {t : Tb} {l : Option (List Int)} {p q : Nat} {c : List Int} : (confStep t l p q c).length = c.length := by
  unfold confStep; split <;> simp
theorem confRow_len {t : Tb} {l : Option (List Int)} {p : Nat} {c : List Int} : ∀ q, (confRow t l p q c).length = c.length
  | 0 => rfl
  | q + 1 => by rw [confRow, confStep_len, confRow_len q]
theorem confTo_len {t : Tb} {l : Option (List Int)} : ∀ p, (confTo t l p).length = 8
  | 0 => by simp [confTo]
  | p + 1 => by rw [confTo, confRow_len, confTo_len p]

def detTo (l : Option (List Int)) (n d : Int) (j : Nat) : List Det := (List.range j).map fun (k : Nat) => detectorOf l (180 + 8 * (d - k)) n
def railTo (t : Tb) (l : Option (List Int)) (n r : Int) (j : Nat) : List Rl := (List.range j).map fun (k : Nat) => railOf t l (260 + 16 * (r - k)) n
def busOf (l : Option (List Int)) (n i : Int) : Bs :=
  let x := bAnd .i64 (frm l (330 + 2 * i) 256) (w64 (w64 (1 * 2 ^ min (IntKind.u64.wrap n).toNat 64) - 1))
  ⟨if x > 1 then x else 1, w64 (1 + frm l (331 + 2 * i) 30)⟩
def busTo (l : Option (List Int)) (n b : Int) (j : Nat) : List Bs := (List.range j).map fun (k : Nat) => busOf l n (b - k)
def winTo (t : Tb) : Nat → Int
  | 0 => 0
  | k + 1 => if waitI t k > winTo t k then waitI t k else winTo t k

def rowsOf' (l : Option (List Int)) : List Gr × Nat := rowsTo l (groupsN l) (groupsN l)
/-- a table by numbers: the parts before the window -/
def tabPre (l : Option (List Int)) : Tb :=
  let n := (rowsOf' l).2
  let t1 : Tb := { Tb0 with groups := some (rowsOf' l).1 }
  let q := frm l 174 (n + 1)
  { phases := phTo l n
    groups := some (rowsOf' l).1
    conflict := confTo t1 l n
    detectors := mkO (detTo l n (frm l 175 9) (frm l 175 9).toNat)
    rails := mkO (railTo t1 l n ((frm l 176 4).tmod 3) ((frm l 176 4).tmod 3).toNat)
    buses := mkO (busTo l n (frm l 177 3) (frm l 177 3).toNat)
    extend := frm l 178 12
    budget := frm l 179 40
    start := frm l 180 8
    revert := frm l 181 8
    least := frm l 182 12
    flash := if q < n then (flTo n).set q.toNat 2 else flTo n
    window := 0
    share := frm l 183 4 }
def tableOf (l : Option (List Int)) : Tb :=
  { tabPre l with window := if (railTo { Tb0 with groups := some (rowsOf' l).1 } l (rowsOf' l).2 ((frm l 176 4).tmod 3) ((frm l 176 4).tmod 3).toNat) = [] then 0 else winTo (tabPre l) (rowsOf' l).2 }
def Table.Spec (C : Con) (f : Nat) : Prop := ∀ l : Option (List Int), C.c f [slAV intRow l] (.agg (tableOf l).cells) none

def tabA (l : Option (List Int)) (k : Nat) : Tb := { Tb0 with groups := some (rowsOf' l).1, phases := phTo l k, flash := flTo k }
def tabB (l : Option (List Int)) (c : List Int) : Tb := { tabA l (rowsOf' l).2 with conflict := c }
def tabC (l : Option (List Int)) : Tb := { tabB l (confTo { Tb0 with groups := some (rowsOf' l).1 } l (rowsOf' l).2) with flash := (tabPre l).flash }
def tabD (l : Option (List Int)) (d : List Det) : Tb := { tabC l with detectors := mkO d }
def tabE (l : Option (List Int)) (r : List Rl) : Tb := { tabC l with detectors := (tabPre l).detectors, rails := mkO r }
def tabF (l : Option (List Int)) (b : List Bs) : Tb := { tabC l with detectors := (tabPre l).detectors, rails := (tabPre l).rails, buses := mkO b }
def tabW (l : Option (List Int)) (w : Int) : Tb := { tabPre l with window := w }

theorem rowN_len (p m : Nat) : (rowN p m).length = m := by simp [rowN]
theorem rowsTo_small (l : Option (List Int)) (G : Nat) : ∀ g, ∀ x ∈ (rowsTo l G g).1, (x.a.getD []).length ≤ 8 ∧ (x.b.getD []).length ≤ 8
  | 0, x, hx => by simp [rowsTo] at hx
  | g + 1, x, hx => by
    simp only [rowsTo, List.mem_append, List.mem_singleton] at hx
    rcases hx with hx | rfl
    · exact rowsTo_small l G g x hx
    · simp only [mkO_getD, rowN_len, fillN, limN]
      omega
theorem rowsOf_le (l : Option (List Int)) : (rowsOf' l).2 ≤ 8 := rowsTo_le _ _ _
theorem rowsTo_mono (l : Option (List Int)) (G : Nat) : ∀ g, 1 ≤ g → g ≤ G → G ≤ 3 → 1 ≤ (rowsTo l G g).2
  | 0, h, _, _ => by omega
  | 1, _, h1, h3 => by
    simp only [rowsTo, fillN, limN, cnt]
    split <;> split <;> simp_all <;> omega
  | g + 2, _, h1, h3 => by
    have := rowsTo_mono l G (g + 1) (by omega) (by omega) h3
    rw [rowsTo]
    simp only
    omega
theorem groupsN_le (l : Option (List Int)) : 1 ≤ groupsN l ∧ groupsN l ≤ 3 := by
  have := frm_range l 0 (n := 3) (by decide) (by decide)
  unfold groupsN; omega
theorem rowsOf_pos (l : Option (List Int)) : 1 ≤ (rowsOf' l).2 := rowsTo_mono l _ _ (groupsN_le l).1 (Nat.le_refl _) (groupsN_le l).2
/-- tables with such groups and few else -/
theorem ok_of {l : Option (List Int)} {t : Tb} (hg : t.groups = some (rowsOf' l).1) (h1 : t.phases.length = 8) (h2 : t.conflict.length = 8) (h3 : t.flash.length = 8) (h4 : (t.detectors.getD []).length ≤ 1048576) (h5 : (t.rails.getD []).length ≤ 1048576) (h6 : (t.buses.getD []).length ≤ 1048576) : t.Ok := by
  refine ⟨h1, h2, h3, ?_, ?_, h4, h5, h6⟩
  · rw [hg]; simp only [Option.getD_some, rowsOf', rowsTo_len]; have := groupsN_le l; omega
  · rw [hg]; simp only [Option.getD_some]
    intro g hg'
    have := rowsTo_small _ _ _ g hg'
    omega

theorem detTo_next (l : Option (List Int)) (n d : Int) (j : Nat) : detTo l n d (j + 1) = detTo l n d j ++ [detectorOf l (180 + 8 * (d - j)) n] := by simp [detTo, List.range_succ]
theorem detTo_len (l : Option (List Int)) (n d : Int) (j : Nat) : (detTo l n d j).length = j := by simp [detTo]
theorem railTo_next (t : Tb) (l : Option (List Int)) (n d : Int) (j : Nat) : railTo t l n d (j + 1) = railTo t l n d j ++ [railOf t l (260 + 16 * (d - j)) n] := by simp [railTo, List.range_succ]
theorem railTo_len (t : Tb) (l : Option (List Int)) (n d : Int) (j : Nat) : (railTo t l n d j).length = j := by simp [railTo]
theorem busTo_next (l : Option (List Int)) (n d : Int) (j : Nat) : busTo l n d (j + 1) = busTo l n d j ++ [busOf l n (d - j)] := by simp [busTo, List.range_succ]
theorem busTo_len (l : Option (List Int)) (n d : Int) (j : Nat) : (busTo l n d j).length = j := by simp [busTo]

theorem Det.len (d : Det) : d.cells.length = 7 := rfl
theorem Bs.len (d : Bs) : d.cells.length = 2 := rfl
theorem tabPre_flash (l : Option (List Int)) : (tabPre l).flash.length = 8 := by
  unfold tabPre; simp only; split <;> simp [flTo_len]
theorem tabPre_dets (l : Option (List Int)) : ((tabPre l).detectors.getD []).length ≤ 1048576 := by
  have := frm_range l 175 (n := 9) (by decide) (by decide)
  simp only [tabPre, mkO_getD, detTo_len]; omega
theorem tabPre_rails (l : Option (List Int)) : ((tabPre l).rails.getD []).length ≤ 1048576 := by
  have h := Int.tmod_lt_of_pos (frm l 176 4) (b := 3) (by decide)
  simp only [tabPre, mkO_getD, railTo_len]; omega

theorem tabPre_buses (l : Option (List Int)) : ((tabPre l).buses.getD []).length ≤ 1048576 := by
  have := frm_range l 177 (n := 3) (by decide) (by decide)
  simp only [tabPre, mkO_getD, busTo_len]; omega
theorem tableOf_ok (l : Option (List Int)) : (tableOf l).Ok := ok_of rfl (phTo_len l _) (confTo_len _) (tabPre_flash l) (tabPre_dets l) (tabPre_rails l) (tabPre_buses l)

section
variable {P : Program} (hm : P.follows .mixedOrders = true) {f : Nat}
include hm
theorem Table.ok {fR fP fB fF fW fD eD fr eR eB fw : Nat} (hc : cFn P f = some (cc_law00_Table fR fP fB fF fW fD eD fr eR eB fw)) (hR : rows.Spec (Pure P) fR) (hP : phase.Spec (Pure P) fP) (hB : beside.Spec (Pure P) fB) (hF : from.Spec (Pure P) fF) (hW : refWith.Spec (Pure P) fW)
    (hD : detector.Spec (Pure P) fD) (hr : rail.Spec (Pure P) fr) (hw : wait.Spec (Pure P) fw) : Table.Spec (Pure P) f := by
  intro l
  refine pure_of hm hc (by show 1 ≤ 186; decide) (aw_flat (keep := [0,3,8,9,12,15,18]) (i := 0) ?_)
  try simp only [I, B, D, RW, ↓ KW, fillA, stTags, flat, Nat.reduceBEq, Nat.reduceAdd, Nat.reduceLeDiff, Int.reduceNe, Int.reduceBEq, Int.reduceEq, reduceCtorEq, Nat.reduceMul, Int.reduceLT, Int.reduceLE, Int.reduceToNat, cc_law00_Table, z131_is]
  have ok0 : Tb0.Ok := ⟨rfl, rfl, rfl, by simp [Tb0], by simp [Tb0], by simp [Tb0], by simp [Tb0], by simp [Tb0]⟩
  refine ⟨rfl, callp_is (hR Tb0 l ok0 rfl) ?_⟩
  have hN := rowsOf_le l
  have hN1 := rowsOf_pos l
  try simp only [I, B, D, RW, ↓ KW, fillA, stTags, flat, Nat.reduceBEq, Nat.reduceAdd, Nat.reduceLeDiff, Int.reduceNe, Int.reduceBEq, Int.reduceEq, reduceCtorEq, Nat.reduceMul, Int.reduceLT, Int.reduceLE, Int.reduceToNat]
  change aw _ _ _ (⟨[(5, _), (4, .dat (I ((rowsOf' l).2 : Nat)) none), (14, _), (13, _), (3, _), (2, _), (0, _)], [(5, ⟨(tabA l 0).cells, []⟩), _], _, _⟩ : S)
  generalize hNe : (rowsOf' l).2 = N at *
  refine aw_cut (.exit 0) (fun _ : Unit => (⟨[(4, .dat (I N) none), (3, .ptr 5 0), (0, .dat (slAV intRow l) none), (2, .ptr 4 0)], [(5, ⟨(tabA l N).cells, []⟩), (4, ⟨Tb0.cells, []⟩)], [], 400⟩ : S)) (fun _ => True) (fun _ => rfl) ?_ ?_
  · refine aw_loop' (fun k : Nat => (⟨[(5, .dat (I k) none), (4, .dat (I N) none), (3, .ptr 5 0), (0, .dat (slAV intRow l) none), (2, .ptr 4 0)], [(5, ⟨(tabA l k).cells, []⟩), (4, ⟨Tb0.cells, []⟩)], [], 400⟩ : S)) (fun k => N - k) (fun k => k ≤ N) ?_ 0 (by omega) ?_
    · intro k hk A back
      have hw3 := wrap_succ (k := k) (by omega)
      have hw2 : IntKind.i64.wrap (10 + IntKind.i64.wrap (12 * (k : Int))) = 10 + 12 * k := by rw [wrap_id (n := 12 * (k : Int)) (by omega) (by omega), wrap_id (by omega) (by omega)]
      have ln1 : (tabA l k).Ln := ⟨phTo_len l k, rfl, flTo_len k⟩
      have ln2 : ({ tabA l k with phases := (tabA l k).phases.set k (phaseOf l (10 + 12 * k)) } : Tb).Ln := ⟨by simp [phTo_len, tabA], rfl, flTo_len k⟩
      try simp only [I, B, D, RW, ↓ KW, fillA, stTags, flat, Nat.reduceBEq, Nat.reduceAdd, Nat.reduceLeDiff, Int.reduceNe, Int.reduceBEq, Int.reduceEq, reduceCtorEq, Nat.reduceMul, Int.reduceLT, Int.reduceLE, Int.reduceToNat]
      refine cd_split (fun h => ?_) (fun h => ?_) <;> try simp only [I, B, D, RW, ↓ KW, fillA, stTags, flat, Nat.reduceBEq, Nat.reduceAdd, Nat.reduceLeDiff, Int.reduceNe, Int.reduceBEq, Int.reduceEq, reduceCtorEq, Nat.reduceMul, Int.reduceLT, Int.reduceLE, Int.reduceToNat, h]
      · have hkN : k < N := by have := of_decide_eq_true h; omega
        have hlt : k < 8 := by omega
        have hs1 := ln1.set_phase hlt (phaseOf l (10 + 12 * k))
        have hs2 := ln2.set_flash hlt 1
        have hs3 : ({ ({ tabA l k with phases := (tabA l k).phases.set k (phaseOf l (10 + 12 * k)) } : Tb) with flash := ({ tabA l k with phases := (tabA l k).phases.set k (phaseOf l (10 + 12 * k)) } : Tb).flash.set k 1 } : Tb) = tabA l (k + 1) := rfl
        rw [hs3] at hs2
        have hl1 := ln1.len
        have hl2 := ln2.len
        generalize ({ tabA l k with phases := (tabA l k).phases.set k (phaseOf l (10 + 12 * k)) } : Tb) = T at *
        refine call_is (hP _ _) ?_
        try simp only [I, B, D, RW, ↓ KW, fillA, stTags, flat, Nat.reduceBEq, Nat.reduceAdd, Nat.reduceLeDiff, Int.reduceNe, Int.reduceBEq, Int.reduceEq, reduceCtorEq, Nat.reduceMul, Int.reduceLT, Int.reduceLE, Int.reduceToNat, hw2, hs1]
        exact ⟨by omega, Ph.len _, by omega, by omega, by omega, by refine back (k + 1) _ (by omega) (by omega) (le_tok2 (by decide) ?_ ?_ ?_ ?_) <;> simp [intRow, ownSV, ownL, leSlots, lv_dat, lv_tok, lv_ptr, lv_rp, lv_undef, leBoxes, leTags, leLive, tokM, tokB, tokT, ren, liveInj, r_lk, r_lkN, r_lkB, r_lkN0, I, B, D, withV_some, hs2, hw3]⟩
      · have : k = N := by have := of_decide_eq_false h; omega
        subst this
        refine cut_at () trivial ?_
        refine le_tok2 (by decide) ?_ ?_ ?_ ?_ <;> simp [intRow, ownSV, ownL, leSlots, lv_dat, lv_tok, lv_ptr, lv_rp, lv_undef, leBoxes, leTags, leLive, tokM, tokB, tokT, ren, liveInj, r_lk, r_lkN, r_lkB, r_lkN0, I, B, D, withV_some]
    · refine le_tok2 (by decide) ?_ ?_ ?_ ?_ <;> simp [intRow, ownSV, ownL, leSlots, lv_dat, lv_tok, lv_ptr, lv_rp, lv_undef, leBoxes, leTags, leLive, tokM, tokB, tokT, ren, liveInj, r_lk, r_lkN, r_lkB, r_lkN0, I, B, D, withV_some]
  · intro _ _
    try simp only [I, B, D, RW, ↓ KW, fillA, stTags, flat, Nat.reduceBEq, Nat.reduceAdd, Nat.reduceLeDiff, Int.reduceNe, Int.reduceBEq, Int.reduceEq, reduceCtorEq, Nat.reduceMul, Int.reduceLT, Int.reduceLE, Int.reduceToNat]
    generalize ht1 : ({ Tb0 with groups := some (rowsOf' l).1 } : Tb) = t1 at *
    have hA : tabA l N = tabB l (confTo t1 l 0) := by subst hNe; rfl
    refine aw_cut (.exit 2) (fun _ : Unit => (⟨[(4, .dat (I N) none), (3, .ptr 5 0), (0, .dat (slAV intRow l) none), (2, .ptr 4 0)], [(5, ⟨(tabB l (confTo t1 l N)).cells, []⟩), (4, ⟨Tb0.cells, []⟩)], [], 400⟩ : S)) (fun _ => True) (fun _ => rfl) ?_ ?_
    · refine aw_loop' (fun p : Nat => (⟨[(6, .dat (I p) none), (4, .dat (I N) none), (3, .ptr 5 0), (0, .dat (slAV intRow l) none), (2, .ptr 4 0)], [(5, ⟨(tabB l (confTo t1 l p)).cells, []⟩), (4, ⟨Tb0.cells, []⟩)], [], 400⟩ : S)) (fun p => N - p) (fun p => p ≤ N) ?_ 0 (by omega) ?_
      · intro p hp A back
        have hw3 := wrap_succ (k := p) (by omega)
        try simp only [I, B, D, RW, ↓ KW, fillA, stTags, flat, Nat.reduceBEq, Nat.reduceAdd, Nat.reduceLeDiff, Int.reduceNe, Int.reduceBEq, Int.reduceEq, reduceCtorEq, Nat.reduceMul, Int.reduceLT, Int.reduceLE, Int.reduceToNat]
        refine cd_split (fun h => ?_) (fun h => ?_) <;> try simp only [I, B, D, RW, ↓ KW, fillA, stTags, flat, Nat.reduceBEq, Nat.reduceAdd, Nat.reduceLeDiff, Int.reduceNe, Int.reduceBEq, Int.reduceEq, reduceCtorEq, Nat.reduceMul, Int.reduceLT, Int.reduceLE, Int.reduceToNat, h]
        · have hpN : p < N := by have := of_decide_eq_true h; omega
          have hlt : p < 8 := by omega
          have hcl : confTo t1 l (p + 1) = confRow t1 l p p (confTo t1 l p) := rfl
          have hcl8 := confTo_len (t := t1) (l := l) p
          generalize confTo t1 l p = c0 at *
          refine aw_loop' (fun q : Nat => (⟨[(7, .dat (I q) none), (6, .dat (I p) none), (4, .dat (I N) none), (3, .ptr 5 0), (0, .dat (slAV intRow l) none), (2, .ptr 4 0)], [(5, ⟨(tabB l (confRow t1 l p q c0)).cells, []⟩), (4, ⟨Tb0.cells, []⟩)], [], 400⟩ : S)) (fun q => p - q) (fun q => q ≤ p) ?_ 0 (by omega) ?_
          · intro q hq A2 back2
            have hw4 := wrap_succ (k := q) (by omega)
            have hst : confRow t1 l p (q + 1) c0 = confStep t1 l p q (confRow t1 l p q c0) := rfl
            have hc8 : (confRow t1 l p q c0).length = 8 := by rw [confRow_len, hcl8]
            generalize hce : confRow t1 l p q c0 = c at *
            have okB : (tabB l c).Ok := ok_of rfl (phTo_len l _) hc8 (flTo_len _) (by simp [tabB, tabA, Tb0]) (by simp [tabB, tabA, Tb0]) (by simp [tabB, tabA, Tb0])
            have hwh := okB.ln.whole
            have hln := okB.ln.len
            have hbs : besideR (tabB l c) p q = besideR t1 p q := by subst ht1; rfl
            have hix : IntKind.i64.wrap (IntKind.i64.wrap (110 + IntKind.i64.wrap (8 * (p : Int))) + q) = 110 + 8 * p + q := by
              rw [wrap_id (n := 8 * (p : Int)) (by omega) (by omega), wrap_id (n := 110 + 8 * (p : Int)) (by omega) (by omega), wrap_id (by omega) (by omega)]
            try simp only [I, B, D, RW, ↓ KW, fillA, stTags, flat, Nat.reduceBEq, Nat.reduceAdd, Nat.reduceLeDiff, Int.reduceNe, Int.reduceBEq, Int.reduceEq, reduceCtorEq, Nat.reduceMul, Int.reduceLT, Int.reduceLE, Int.reduceToNat]
            refine cd_split (fun h2 => ?_) (fun h2 => ?_) <;> try simp only [I, B, D, RW, ↓ KW, fillA, stTags, flat, Nat.reduceBEq, Nat.reduceAdd, Nat.reduceLeDiff, Int.reduceNe, Int.reduceBEq, Int.reduceEq, reduceCtorEq, Nat.reduceMul, Int.reduceLT, Int.reduceLE, Int.reduceToNat, hwh, h2]
            · have hq8 : q < p := by have := of_decide_eq_true h2; omega
              refine call_is (hB _ _ _ okB) ?_
              try simp only [I, B, D, RW, ↓ KW, fillA, stTags, flat, Nat.reduceBEq, Nat.reduceAdd, Nat.reduceLeDiff, Int.reduceNe, Int.reduceBEq, Int.reduceEq, reduceCtorEq, Nat.reduceMul, Int.reduceLT, Int.reduceLE, Int.reduceToNat, hbs]
              repeat' (first | (refine call_is (hF _ _ _ (by decide)) ?_; try simp only [I, B, D, RW, ↓ KW, fillA, stTags, flat, Nat.reduceBEq, Nat.reduceAdd, Nat.reduceLeDiff, Int.reduceNe, Int.reduceBEq, Int.reduceEq, reduceCtorEq, Nat.reduceMul, Int.reduceLT, Int.reduceLE, Int.reduceToNat, hix]) | (refine gd_split (fun h => ?_) (fun h => ?_) <;> try simp only [I, B, D, RW, ↓ KW, fillA, stTags, flat, Nat.reduceBEq, Nat.reduceAdd, Nat.reduceLeDiff, Int.reduceNe, Int.reduceBEq, Int.reduceEq, reduceCtorEq, Nat.reduceMul, Int.reduceLT, Int.reduceLE, Int.reduceToNat, hix, h]) | (refine cd_split (fun h => ?_) (fun h => ?_) <;> try simp only [I, B, D, RW, ↓ KW, fillA, stTags, flat, Nat.reduceBEq, Nat.reduceAdd, Nat.reduceLeDiff, Int.reduceNe, Int.reduceBEq, Int.reduceEq, reduceCtorEq, Nat.reduceMul, Int.reduceLT, Int.reduceLE, Int.reduceToNat, hix, h]) | (refine pk_split (fun h => ?_) (fun h => ?_) <;> try simp only [I, B, D, RW, ↓ KW, fillA, stTags, flat, Nat.reduceBEq, Nat.reduceAdd, Nat.reduceLeDiff, Int.reduceNe, Int.reduceBEq, Int.reduceEq, reduceCtorEq, Nat.reduceMul, Int.reduceLT, Int.reduceLE, Int.reduceToNat, hix, h]))
              · have hb : besideR t1 p q = false := by simp_all
                have hcc : clashes t1 l p q = true := by simp only [clashes, hb]; simpa using h
                have hcs : confStep t1 l p q c = (c.set p (withR (cAt c p) q)).set q (withR (cAt (c.set p (withR (cAt c p) q)) q) p) := by simp only [confStep, hcc, if_true]
                have g1 : c[p]? = some (cAt c p) := by simp [cAt, show p < c.length by omega]
                have g2 : (c.set p (withR (cAt c p) q))[q]? = some (cAt (c.set p (withR (cAt c p) q)) q) := by simp [cAt, show q < c.length by omega]
                have ln2 : (tabB l (c.set p (withR (cAt c p) q))).Ln := ⟨phTo_len l _, by simp [tabB, hc8], flTo_len _⟩
                have l1 := okB.ln.conflict_at (t := tabB l c) g1
                have l2 := ln2.conflict_at g2
                have hs1 : setCells (tabB l c).cells (105 + p) [I (withR (cAt c p) q)] = (tabB l (c.set p (withR (cAt c p) q))).cells := okB.ln.set_conflict hlt _
                have hs2 : setCells (tabB l (c.set p (withR (cAt c p) q))).cells (105 + q) [I (withR (cAt (c.set p (withR (cAt c p) q)) q) p)] = (tabB l (confStep t1 l p q c)).cells := by rw [hcs]; exact ln2.set_conflict (by omega) _
                have hln2 := ln2.len
                rw [← hst] at hs2
                simp only [I] at hs1 hs2
                generalize cAt (c.set p (withR (cAt c p) q)) q = v2 at *
                generalize cAt c p = v1 at *
                generalize c.set p (withR v1 q) = c2 at *
                refine ⟨by omega, ?_⟩
                try simp only [I, B, D, RW, ↓ KW, fillA, stTags, flat, Nat.reduceBEq, Nat.reduceAdd, Nat.reduceLeDiff, Int.reduceNe, Int.reduceBEq, Int.reduceEq, reduceCtorEq, Nat.reduceMul, Int.reduceLT, Int.reduceLE, Int.reduceToNat, l1]
                refine call_is (hW _ _) ?_
                try simp only [I, B, D, RW, ↓ KW, fillA, stTags, flat, Nat.reduceBEq, Nat.reduceAdd, Nat.reduceLeDiff, Int.reduceNe, Int.reduceBEq, Int.reduceEq, reduceCtorEq, Nat.reduceMul, Int.reduceLT, Int.reduceLE, Int.reduceToNat, hs1]
                refine ⟨by omega, by omega, by omega, ?_⟩
                try simp only [I, B, D, RW, ↓ KW, fillA, stTags, flat, Nat.reduceBEq, Nat.reduceAdd, Nat.reduceLeDiff, Int.reduceNe, Int.reduceBEq, Int.reduceEq, reduceCtorEq, Nat.reduceMul, Int.reduceLT, Int.reduceLE, Int.reduceToNat, l2, hs1]
                refine call_is (hW _ _) ?_
                try simp only [I, B, D, RW, ↓ KW, fillA, stTags, flat, Nat.reduceBEq, Nat.reduceAdd, Nat.reduceLeDiff, Int.reduceNe, Int.reduceBEq, Int.reduceEq, reduceCtorEq, Nat.reduceMul, Int.reduceLT, Int.reduceLE, Int.reduceToNat, hs1, hs2]
                exact ⟨by omega, by omega, by refine back2 (q + 1) _ (by omega) (by omega) (le_tok2 (by decide) ?_ ?_ ?_ ?_) <;> simp [intRow, ownSV, ownL, leSlots, lv_dat, lv_tok, lv_ptr, lv_rp, lv_undef, leBoxes, leTags, leLive, tokM, tokB, tokT, ren, liveInj, r_lk, r_lkN, r_lkB, r_lkN0, I, B, D, withV_some, hw4]⟩
              · have hcs : confStep t1 l p q c = c := by
                  have hcc : clashes t1 l p q = false := by simp only [clashes]; simp_all
                  simp [confStep, hcc]
                refine back2 (q + 1) _ (by omega) (by omega) (le_tok2 (by decide) ?_ ?_ ?_ ?_) <;> simp [intRow, ownSV, ownL, leSlots, lv_dat, lv_tok, lv_ptr, lv_rp, lv_undef, leBoxes, leTags, leLive, tokM, tokB, tokT, ren, liveInj, r_lk, r_lkN, r_lkB, r_lkN0, I, B, D, withV_some, hst, hcs, hw4]
              · have hcs : confStep t1 l p q c = c := by
                  have hcc : clashes t1 l p q = false := by simp only [clashes]; simp_all
                  simp [confStep, hcc]
                refine back2 (q + 1) _ (by omega) (by omega) (le_tok2 (by decide) ?_ ?_ ?_ ?_) <;> simp [intRow, ownSV, ownL, leSlots, lv_dat, lv_tok, lv_ptr, lv_rp, lv_undef, leBoxes, leTags, leLive, tokM, tokB, tokT, ren, liveInj, r_lk, r_lkN, r_lkB, r_lkN0, I, B, D, withV_some, hst, hcs, hw4]
            · have : q = p := by have := of_decide_eq_false h2; omega
              subst this
              refine back (q + 1) _ (by omega) (by omega) (le_tok2 (by decide) ?_ ?_ ?_ ?_) <;> simp [intRow, ownSV, ownL, leSlots, lv_dat, lv_tok, lv_ptr, lv_rp, lv_undef, leBoxes, leTags, leLive, tokM, tokB, tokT, ren, liveInj, r_lk, r_lkN, r_lkB, r_lkN0, I, B, D, withV_some, hcl, hce, hw3]
          · refine le_tok2 (by decide) ?_ ?_ ?_ ?_ <;> simp [intRow, ownSV, ownL, leSlots, lv_dat, lv_tok, lv_ptr, lv_rp, lv_undef, leBoxes, leTags, leLive, tokM, tokB, tokT, ren, liveInj, r_lk, r_lkN, r_lkB, r_lkN0, I, B, D, withV_some, confRow]
        · have : p = N := by have := of_decide_eq_false h; omega
          subst this
          refine cut_at () trivial ?_
          refine le_tok2 (by decide) ?_ ?_ ?_ ?_ <;> simp [intRow, ownSV, ownL, leSlots, lv_dat, lv_tok, lv_ptr, lv_rp, lv_undef, leBoxes, leTags, leLive, tokM, tokB, tokT, ren, liveInj, r_lk, r_lkN, r_lkB, r_lkN0, I, B, D, withV_some]
      · refine le_tok2 (by decide) ?_ ?_ ?_ ?_ <;> simp [intRow, ownSV, ownL, leSlots, lv_dat, lv_tok, lv_ptr, lv_rp, lv_undef, leBoxes, leTags, leLive, tokM, tokB, tokT, ren, liveInj, r_lk, r_lkN, r_lkB, r_lkN0, I, B, D, withV_some, hA]
    · intro _ _
      have hn1 : IntKind.i64.wrap ((N : Int) + 1) = N + 1 := wrap_succ (by omega)
      have hq := frm_range l 174 (n := (N : Int) + 1) (by omega) (by omega)
      have okB : (tabB l (confTo t1 l N)).Ok := ok_of rfl (phTo_len l _) (confTo_len _) (flTo_len _) (by simp [tabB, tabA, Tb0]) (by simp [tabB, tabA, Tb0]) (by simp [tabB, tabA, Tb0])
      have hln := okB.ln.len
      have hpre : (tabPre l).flash = if frm l 174 (N + 1) < N then (flTo N).set (frm l 174 (N + 1)).toNat 2 else flTo N := by subst hNe; rfl
      have hC : tabC l = { tabB l (confTo t1 l N) with flash := (tabPre l).flash } := by subst hNe; subst ht1; rfl
      have hfB : (tabB l (confTo t1 l N)).flash = flTo N := by subst hNe; rfl
      rw [r_join]
      refine aw_cut .normal (fun _ : Unit => (⟨[(4, .dat (I N) none), (3, .ptr 5 0), (0, .dat (slAV intRow l) none), (2, .ptr 4 0)], [(5, ⟨(tabC l).cells, []⟩), (4, ⟨Tb0.cells, []⟩)], [], 400⟩ : S)) (fun _ => True) (fun _ => rfl) ?_ ?_
      · try simp only [I, B, D, RW, ↓ KW, fillA, stTags, flat, Nat.reduceBEq, Nat.reduceAdd, Nat.reduceLeDiff, Int.reduceNe, Int.reduceBEq, Int.reduceEq, reduceCtorEq, Nat.reduceMul, Int.reduceLT, Int.reduceLE, Int.reduceToNat]
        refine call_is (hF _ _ _ (by omega)) ?_
        rw [hn1]
        generalize frm l 174 (N + 1) = q at *
        try simp only [I, B, D, RW, ↓ KW, fillA, stTags, flat, Nat.reduceBEq, Nat.reduceAdd, Nat.reduceLeDiff, Int.reduceNe, Int.reduceBEq, Int.reduceEq, reduceCtorEq, Nat.reduceMul, Int.reduceLT, Int.reduceLE, Int.reduceToNat]
        refine cd_split (fun h => ?_) (fun h => ?_) <;> try simp only [I, B, D, RW, ↓ KW, fillA, stTags, flat, Nat.reduceBEq, Nat.reduceAdd, Nat.reduceLeDiff, Int.reduceNe, Int.reduceBEq, Int.reduceEq, reduceCtorEq, Nat.reduceMul, Int.reduceLT, Int.reduceLE, Int.reduceToNat, h]
        · have hqN : q < N := of_decide_eq_true h
          rw [if_pos hqN] at hpre
          have hs1 := okB.ln.set_flash (i := q.toNat) (by omega) 2
          have e : ({ tabB l (confTo t1 l N) with flash := (tabB l (confTo t1 l N)).flash.set q.toNat 2 } : Tb) = tabC l := by rw [hC, hfB, hpre]
          rw [e] at hs1
          simp only [I] at hs1
          refine ⟨by omega, by omega, ?_⟩
          refine cut_at () trivial ?_
          refine le_tok2 (by decide) ?_ ?_ ?_ ?_ <;> simp [intRow, ownSV, ownL, leSlots, lv_dat, lv_tok, lv_ptr, lv_rp, lv_undef, leBoxes, leTags, leLive, tokM, tokB, tokT, ren, liveInj, r_lk, r_lkN, r_lkB, r_lkN0, I, B, D, withV_some, hs1]
        · have hqN : ¬ q < N := of_decide_eq_false h
          rw [if_neg hqN] at hpre
          have e : tabB l (confTo t1 l N) = tabC l := by rw [hC, hpre, ← hfB]
          refine cut_at () trivial ?_
          refine le_tok2 (by decide) ?_ ?_ ?_ ?_ <;> simp [intRow, ownSV, ownL, leSlots, lv_dat, lv_tok, lv_ptr, lv_rp, lv_undef, leBoxes, leTags, leLive, tokM, tokB, tokT, ren, liveInj, r_lk, r_lkN, r_lkB, r_lkN0, I, B, D, withV_some, e]
      · intro _ _
        have hd := frm_range l 175 (n := 9) (by decide) (by decide)
        have hD0 : tabC l = tabD l [] := rfl
        have hDe : tabD l (detTo l N (frm l 175 9) (frm l 175 9).toNat) = tabE l [] := by subst hNe; rfl
        try simp only [I, B, D, RW, ↓ KW, fillA, stTags, flat, Nat.reduceBEq, Nat.reduceAdd, Nat.reduceLeDiff, Int.reduceNe, Int.reduceBEq, Int.reduceEq, reduceCtorEq, Nat.reduceMul, Int.reduceLT, Int.reduceLE, Int.reduceToNat]
        refine call_is (hF _ _ _ (by decide)) ?_
        generalize frm l 175 9 = d at *
        try simp only [I, B, D, RW, ↓ KW, fillA, stTags, flat, Nat.reduceBEq, Nat.reduceAdd, Nat.reduceLeDiff, Int.reduceNe, Int.reduceBEq, Int.reduceEq, reduceCtorEq, Nat.reduceMul, Int.reduceLT, Int.reduceLE, Int.reduceToNat]
        refine aw_cut (.exit 6) (fun _ : Unit => (⟨[(4, .dat (I N) none), (3, .ptr 5 0), (0, .dat (slAV intRow l) none), (2, .ptr 4 0)], [(5, ⟨(tabD l (detTo l N d d.toNat)).cells, []⟩), (4, ⟨Tb0.cells, []⟩)], [], 400⟩ : S)) (fun _ => True) (fun _ => rfl) ?_ ?_
        · refine aw_loop' (fun j : Nat => (⟨[(9, .dat (I (d - j)) none), (4, .dat (I N) none), (3, .ptr 5 0), (0, .dat (slAV intRow l) none), (2, .ptr 4 0)], [(5, ⟨(tabD l (detTo l N d j)).cells, if detTo l N d j = [] then [] else [(113, 0)]⟩), (4, ⟨Tb0.cells, []⟩)], ownL (detTo l N d j) 0 eD, 400⟩ : S)) (fun j => d.toNat - j) (fun j => j ≤ d.toNat) ?_ 0 (by omega) ?_
          · intro j hj A back
            have hw3 : IntKind.i64.wrap (d - j - 1) = d - ((j + 1 : Nat) : Int) := by rw [wrap_id (by omega) (by omega)]; omega
            have hix : IntKind.i64.wrap (180 + IntKind.i64.wrap (8 * (d - (j : Int)))) = 180 + 8 * (d - j) := by rw [wrap_id (n := 8 * (d - (j : Int))) (by omega) (by omega), wrap_id (by omega) (by omega)]
            have hnext := detTo_next  l N d j
            have hlen : (detTo l N d j).length = j := detTo_len ..
            generalize hL : detTo l N d j = L at *
            generalize hx : detectorOf l (180 + 8 * (d - j)) N = x at *
            have okT : (tabD l L).Ok := ok_of rfl (phTo_len l _) (confTo_len _) (tabPre_flash l) (by simp [tabD, tabC, tabB, tabA, Tb0, mkO_getD, tabPre_dets]; try omega) (by simp [tabD, tabC, tabB, tabA, Tb0, mkO_getD, tabPre_rails]; try omega) (by simp [tabD, tabC, tabB, tabA, Tb0, mkO_getD]; try omega)
            have ln := okT.ln
            have hln := ln.len
            have hwh := ln.whole
            have hat := ln.at113
            have hset : setCells (tabD l L).cells 113 [slAV Det.cells (some (L ++ [x]))] = (tabD l (L ++ [x])).cells := by rw [ln.set_dets (some (L ++ [x]))]; simp [tabD, mkO]
            have hatr : (tabD l L).detectors = mkO L := rfl
            rw [hatr] at hat
            simp only [slAV_some, List.map_append, List.map_cons, List.map_nil] at hset
            cases L with
            | nil =>
              simp only [List.map_nil, List.nil_append, mkO, if_true, slAV_none] at hset hat hnext
              try simp only [I, B, D, RW, ↓ KW, fillA, stTags, flat, Nat.reduceBEq, Nat.reduceAdd, Nat.reduceLeDiff, Int.reduceNe, Int.reduceBEq, Int.reduceEq, reduceCtorEq, Nat.reduceMul, Int.reduceLT, Int.reduceLE, Int.reduceToNat, mkO, ownL]
              refine cd_split (fun h => ?_) (fun h => ?_) <;> try simp only [I, B, D, RW, ↓ KW, fillA, stTags, flat, Nat.reduceBEq, Nat.reduceAdd, Nat.reduceLeDiff, Int.reduceNe, Int.reduceBEq, Int.reduceEq, reduceCtorEq, Nat.reduceMul, Int.reduceLT, Int.reduceLE, Int.reduceToNat, hat, hwh, h]
              · have hj1 : (0 : Int) < d - j := of_decide_eq_true h
                refine call_is (hD _ _ _ (by omega)) ?_
                try simp only [I, B, D, RW, ↓ KW, fillA, stTags, flat, Nat.reduceBEq, Nat.reduceAdd, Nat.reduceLeDiff, Int.reduceNe, Int.reduceBEq, Int.reduceEq, reduceCtorEq, Nat.reduceMul, Int.reduceLT, Int.reduceLE, Int.reduceToNat, hix, hx, Det.len]
                try simp only [I, B, D, RW, ↓ KW, fillA, stTags, flat, Nat.reduceBEq, Nat.reduceAdd, Nat.reduceLeDiff, Int.reduceNe, Int.reduceBEq, Int.reduceEq, reduceCtorEq, Nat.reduceMul, Int.reduceLT, Int.reduceLE, Int.reduceToNat, hset]
                refine ⟨by omega, ?_⟩
                refine back (j + 1) _ (by omega) (by omega) (le_tok2 (by decide) ?_ ?_ ?_ ?_) <;> simp [intRow, ownSV, ownL, leSlots, lv_dat, lv_tok, lv_ptr, lv_rp, lv_undef, leBoxes, leTags, leLive, tokM, tokB, tokT, ren, liveInj, r_lk, r_lkN, r_lkB, r_lkN0, I, B, D, withV_some, hnext, hw3, mkO]
              · have hj1 : ¬ (0 : Int) < d - j := of_decide_eq_false h
                have : j = d.toNat := by omega
                rw [← this, hL]
                refine cut_at () trivial ?_
                refine le_tok2 (by decide) ?_ ?_ ?_ ?_ <;> simp [intRow, ownSV, ownL, leSlots, lv_dat, lv_tok, lv_ptr, lv_rp, lv_undef, leBoxes, leTags, leLive, tokM, tokB, tokT, ren, liveInj, r_lk, r_lkN, r_lkB, r_lkN0, I, B, D, withV_some, mkO]
            | cons y ys =>
              simp only [mkO, reduceCtorEq, if_false, slAV_some] at hset hat hnext
              try simp only [I, B, D, RW, ↓ KW, fillA, stTags, flat, Nat.reduceBEq, Nat.reduceAdd, Nat.reduceLeDiff, Int.reduceNe, Int.reduceBEq, Int.reduceEq, reduceCtorEq, Nat.reduceMul, Int.reduceLT, Int.reduceLE, Int.reduceToNat, mkO, ownL]
              refine cd_split (fun h => ?_) (fun h => ?_) <;> try simp only [I, B, D, RW, ↓ KW, fillA, stTags, flat, Nat.reduceBEq, Nat.reduceAdd, Nat.reduceLeDiff, Int.reduceNe, Int.reduceBEq, Int.reduceEq, reduceCtorEq, Nat.reduceMul, Int.reduceLT, Int.reduceLE, Int.reduceToNat, hat, hwh, h]
              · have hj1 : (0 : Int) < d - j := of_decide_eq_true h
                refine call_is (hD _ _ _ (by omega)) ?_
                try simp only [I, B, D, RW, ↓ KW, fillA, stTags, flat, Nat.reduceBEq, Nat.reduceAdd, Nat.reduceLeDiff, Int.reduceNe, Int.reduceBEq, Int.reduceEq, reduceCtorEq, Nat.reduceMul, Int.reduceLT, Int.reduceLE, Int.reduceToNat, hix, hx, Det.len]
                try simp only [I, B, D, RW, ↓ KW, fillA, stTags, flat, Nat.reduceBEq, Nat.reduceAdd, Nat.reduceLeDiff, Int.reduceNe, Int.reduceBEq, Int.reduceEq, reduceCtorEq, Nat.reduceMul, Int.reduceLT, Int.reduceLE, Int.reduceToNat, hset, Det.len]
                refine ⟨by simp at hlen ⊢; omega, by omega, ?_⟩
                refine back (j + 1) _ (by omega) (by omega) (le_tok2 (by decide) ?_ ?_ ?_ ?_) <;> simp [intRow, ownSV, ownL, leSlots, lv_dat, lv_tok, lv_ptr, lv_rp, lv_undef, leBoxes, leTags, leLive, tokM, tokB, tokT, ren, liveInj, r_lk, r_lkN, r_lkB, r_lkN0, I, B, D, withV_some, hnext, hw3, mkO]
              · have hj1 : ¬ (0 : Int) < d - j := of_decide_eq_false h
                have : j = d.toNat := by omega
                rw [← this, hL]
                refine cut_at () trivial ?_
                refine le_tok2 (by decide) ?_ ?_ ?_ ?_ <;> simp [intRow, ownSV, ownL, leSlots, lv_dat, lv_tok, lv_ptr, lv_rp, lv_undef, leBoxes, leTags, leLive, tokM, tokB, tokT, ren, liveInj, r_lk, r_lkN, r_lkB, r_lkN0, I, B, D, withV_some, mkO]
          · refine le_tok2 (by decide) ?_ ?_ ?_ ?_ <;> simp [intRow, ownSV, ownL, leSlots, lv_dat, lv_tok, lv_ptr, lv_rp, lv_undef, leBoxes, leTags, leLive, tokM, tokB, tokT, ren, liveInj, r_lk, r_lkN, r_lkB, r_lkN0, I, B, D, withV_some, hD0, detTo, mkO]
        · intro _ _
          have hr4 := frm_range l 176 (n := 4) (by decide) (by decide)
          have hr3 := Int.tmod_lt_of_pos (frm l 176 4) (b := 3) (by decide)
          have hr0 := Int.tmod_nonneg 3 hr4.1
          have hEe : tabE l (railTo t1 l N ((frm l 176 4).tmod 3) ((frm l 176 4).tmod 3).toNat) = tabF l [] := by subst hNe; subst ht1; rfl
          have hRl : (tabPre l).rails = mkO (railTo t1 l N ((frm l 176 4).tmod 3) ((frm l 176 4).tmod 3).toNat) := by subst hNe; subst ht1; rfl
          have hTab : tableOf l = tabW l (if railTo t1 l N ((frm l 176 4).tmod 3) ((frm l 176 4).tmod 3).toNat = [] then 0 else winTo (tabPre l) N) := by subst hNe; subst ht1; rfl
          try simp only [I, B, D, RW, ↓ KW, fillA, stTags, flat, Nat.reduceBEq, Nat.reduceAdd, Nat.reduceLeDiff, Int.reduceNe, Int.reduceBEq, Int.reduceEq, reduceCtorEq, Nat.reduceMul, Int.reduceLT, Int.reduceLE, Int.reduceToNat]
          refine call_is (hF _ _ _ (by decide)) ?_
          try simp only [I, B, D, RW, ↓ KW, fillA, stTags, flat, Nat.reduceBEq, Nat.reduceAdd, Nat.reduceLeDiff, Int.reduceNe, Int.reduceBEq, Int.reduceEq, reduceCtorEq, Nat.reduceMul, Int.reduceLT, Int.reduceLE, Int.reduceToNat]
          generalize (frm l 176 4).tmod 3 = r at *
          refine aw_cut (.exit 8) (fun _ : Unit => (⟨[(4, .dat (I N) none), (3, .ptr 5 0), (0, .dat (slAV intRow l) none), (2, .ptr 4 0)], [(5, ⟨(tabE l (railTo t1 l N r r.toNat)).cells, []⟩), (4, ⟨Tb0.cells, []⟩)], [], 400⟩ : S)) (fun _ => True) (fun _ => rfl) ?_ ?_
          · refine aw_loop' (fun j : Nat => (⟨[(10, .dat (I (r - j)) none), (4, .dat (I N) none), (3, .ptr 5 0), (0, .dat (slAV intRow l) none), (2, .ptr 4 0)], [(5, ⟨(tabE l (railTo t1 l N r j)).cells, if railTo t1 l N r j = [] then [] else [(114, 0)]⟩), (4, ⟨Tb0.cells, []⟩)], ownL (railTo t1 l N r j) 0 eR, 400⟩ : S)) (fun j => r.toNat - j) (fun j => j ≤ r.toNat) ?_ 0 (by omega) ?_
            · intro j hj A back
              have hw3 : IntKind.i64.wrap (r - j - 1) = r - ((j + 1 : Nat) : Int) := by rw [wrap_id (by omega) (by omega)]; omega
              have hix : IntKind.i64.wrap (260 + IntKind.i64.wrap (16 * (r - (j : Int)))) = 260 + 16 * (r - j) := by rw [wrap_id (n := 16 * (r - (j : Int))) (by omega) (by omega), wrap_id (by omega) (by omega)]
              have hro : ∀ L', railOf (tabE l L') l (260 + 16 * (r - j)) N = railOf t1 l (260 + 16 * (r - j)) N := fun _ => by subst ht1; rfl
              have hnext := railTo_next  t1 l N r j
              have hlen : (railTo t1 l N r j).length = j := railTo_len ..
              generalize hL : railTo t1 l N r j = L at *
              generalize hx : railOf t1 l (260 + 16 * (r - j)) N = x at *
              have okT : (tabE l L).Ok := ok_of rfl (phTo_len l _) (confTo_len _) (tabPre_flash l) (by simp [tabE, tabC, tabB, tabA, Tb0, mkO_getD, tabPre_dets]; try omega) (by simp [tabE, tabC, tabB, tabA, Tb0, mkO_getD, tabPre_rails]; try omega) (by simp [tabE, tabC, tabB, tabA, Tb0, mkO_getD]; try omega)
              have ln := okT.ln
              have hln := ln.len
              have hwh := ln.whole
              have hat := ln.at114
              have hset : setCells (tabE l L).cells 114 [slAV Rl.cells (some (L ++ [x]))] = (tabE l (L ++ [x])).cells := by rw [ln.set_rails (some (L ++ [x]))]; simp [tabE, mkO]
              have hatr : (tabE l L).rails = mkO L := rfl
              rw [hatr] at hat
              simp only [slAV_some, List.map_append, List.map_cons, List.map_nil] at hset
              cases L with
              | nil =>
                simp only [List.map_nil, List.nil_append, mkO, if_true, slAV_none] at hset hat hnext
                try simp only [I, B, D, RW, ↓ KW, fillA, stTags, flat, Nat.reduceBEq, Nat.reduceAdd, Nat.reduceLeDiff, Int.reduceNe, Int.reduceBEq, Int.reduceEq, reduceCtorEq, Nat.reduceMul, Int.reduceLT, Int.reduceLE, Int.reduceToNat, mkO, ownL]
                refine cd_split (fun h => ?_) (fun h => ?_) <;> try simp only [I, B, D, RW, ↓ KW, fillA, stTags, flat, Nat.reduceBEq, Nat.reduceAdd, Nat.reduceLeDiff, Int.reduceNe, Int.reduceBEq, Int.reduceEq, reduceCtorEq, Nat.reduceMul, Int.reduceLT, Int.reduceLE, Int.reduceToNat, hat, hwh, h]
                · have hj1 : (0 : Int) < r - j := of_decide_eq_true h
                  refine call_is (hr _ _ _ _ okT (by omega) (by omega)) ?_
                  try simp only [I, B, D, RW, ↓ KW, fillA, stTags, flat, Nat.reduceBEq, Nat.reduceAdd, Nat.reduceLeDiff, Int.reduceNe, Int.reduceBEq, Int.reduceEq, reduceCtorEq, Nat.reduceMul, Int.reduceLT, Int.reduceLE, Int.reduceToNat, hix, hro, hx, Rl.len]
                  try simp only [I, B, D, RW, ↓ KW, fillA, stTags, flat, Nat.reduceBEq, Nat.reduceAdd, Nat.reduceLeDiff, Int.reduceNe, Int.reduceBEq, Int.reduceEq, reduceCtorEq, Nat.reduceMul, Int.reduceLT, Int.reduceLE, Int.reduceToNat, hset]
                  refine ⟨by omega, ?_⟩
                  refine back (j + 1) _ (by omega) (by omega) (le_tok2 (by decide) ?_ ?_ ?_ ?_) <;> simp [intRow, ownSV, ownL, leSlots, lv_dat, lv_tok, lv_ptr, lv_rp, lv_undef, leBoxes, leTags, leLive, tokM, tokB, tokT, ren, liveInj, r_lk, r_lkN, r_lkB, r_lkN0, I, B, D, withV_some, hnext, hw3, mkO]
                · have hj1 : ¬ (0 : Int) < r - j := of_decide_eq_false h
                  have : j = r.toNat := by omega
                  rw [← this, hL]
                  refine cut_at () trivial ?_
                  refine le_tok2 (by decide) ?_ ?_ ?_ ?_ <;> simp [intRow, ownSV, ownL, leSlots, lv_dat, lv_tok, lv_ptr, lv_rp, lv_undef, leBoxes, leTags, leLive, tokM, tokB, tokT, ren, liveInj, r_lk, r_lkN, r_lkB, r_lkN0, I, B, D, withV_some, mkO]
              | cons y ys =>
                simp only [mkO, reduceCtorEq, if_false, slAV_some] at hset hat hnext
                try simp only [I, B, D, RW, ↓ KW, fillA, stTags, flat, Nat.reduceBEq, Nat.reduceAdd, Nat.reduceLeDiff, Int.reduceNe, Int.reduceBEq, Int.reduceEq, reduceCtorEq, Nat.reduceMul, Int.reduceLT, Int.reduceLE, Int.reduceToNat, mkO, ownL]
                refine cd_split (fun h => ?_) (fun h => ?_) <;> try simp only [I, B, D, RW, ↓ KW, fillA, stTags, flat, Nat.reduceBEq, Nat.reduceAdd, Nat.reduceLeDiff, Int.reduceNe, Int.reduceBEq, Int.reduceEq, reduceCtorEq, Nat.reduceMul, Int.reduceLT, Int.reduceLE, Int.reduceToNat, hat, hwh, h]
                · have hj1 : (0 : Int) < r - j := of_decide_eq_true h
                  refine call_is (hr _ _ _ _ okT (by omega) (by omega)) ?_
                  try simp only [I, B, D, RW, ↓ KW, fillA, stTags, flat, Nat.reduceBEq, Nat.reduceAdd, Nat.reduceLeDiff, Int.reduceNe, Int.reduceBEq, Int.reduceEq, reduceCtorEq, Nat.reduceMul, Int.reduceLT, Int.reduceLE, Int.reduceToNat, hix, hro, hx, Rl.len]
                  try simp only [I, B, D, RW, ↓ KW, fillA, stTags, flat, Nat.reduceBEq, Nat.reduceAdd, Nat.reduceLeDiff, Int.reduceNe, Int.reduceBEq, Int.reduceEq, reduceCtorEq, Nat.reduceMul, Int.reduceLT, Int.reduceLE, Int.reduceToNat, hset, Rl.len]
                  refine ⟨by simp at hlen ⊢; omega, by omega, ?_⟩
                  refine back (j + 1) _ (by omega) (by omega) (le_tok2 (by decide) ?_ ?_ ?_ ?_) <;> simp [intRow, ownSV, ownL, leSlots, lv_dat, lv_tok, lv_ptr, lv_rp, lv_undef, leBoxes, leTags, leLive, tokM, tokB, tokT, ren, liveInj, r_lk, r_lkN, r_lkB, r_lkN0, I, B, D, withV_some, hnext, hw3, mkO]
                · have hj1 : ¬ (0 : Int) < r - j := of_decide_eq_false h
                  have : j = r.toNat := by omega
                  rw [← this, hL]
                  refine cut_at () trivial ?_
                  refine le_tok2 (by decide) ?_ ?_ ?_ ?_ <;> simp [intRow, ownSV, ownL, leSlots, lv_dat, lv_tok, lv_ptr, lv_rp, lv_undef, leBoxes, leTags, leLive, tokM, tokB, tokT, ren, liveInj, r_lk, r_lkN, r_lkB, r_lkN0, I, B, D, withV_some, mkO]
            · refine le_tok2 (by decide) ?_ ?_ ?_ ?_ <;> simp [intRow, ownSV, ownL, leSlots, lv_dat, lv_tok, lv_ptr, lv_rp, lv_undef, leBoxes, leTags, leLive, tokM, tokB, tokT, ren, liveInj, r_lk, r_lkN, r_lkB, r_lkN0, I, B, D, withV_some, hDe, railTo, mkO]
          · intro _ _
            have hb3 := frm_range l 177 (n := 3) (by decide) (by decide)
            have hFe : tabF l (busTo l N (frm l 177 3) (frm l 177 3).toNat) = { tabPre l with extend := 0, budget := 0, start := 0, revert := 0, least := 0, share := 0 } := by subst hNe; rfl
            have hu : 0 ≤ IntKind.u64.wrap (N : Int) := by rw [IntKind.wrap]; simp [IntKind.signed]; omega
            try simp only [I, B, D, RW, ↓ KW, fillA, stTags, flat, Nat.reduceBEq, Nat.reduceAdd, Nat.reduceLeDiff, Int.reduceNe, Int.reduceBEq, Int.reduceEq, reduceCtorEq, Nat.reduceMul, Int.reduceLT, Int.reduceLE, Int.reduceToNat]
            refine call_is (hF _ _ _ (by decide)) ?_
            generalize frm l 177 3 = b at *
            try simp only [I, B, D, RW, ↓ KW, fillA, stTags, flat, Nat.reduceBEq, Nat.reduceAdd, Nat.reduceLeDiff, Int.reduceNe, Int.reduceBEq, Int.reduceEq, reduceCtorEq, Nat.reduceMul, Int.reduceLT, Int.reduceLE, Int.reduceToNat]
            refine aw_cut (.exit 10) (fun _ : Unit => (⟨[(4, .dat (I N) none), (3, .ptr 5 0), (0, .dat (slAV intRow l) none), (2, .ptr 4 0)], [(5, ⟨(tabF l (busTo l N b b.toNat)).cells, []⟩), (4, ⟨Tb0.cells, []⟩)], [], 400⟩ : S)) (fun _ => True) (fun _ => rfl) ?_ ?_
            · refine aw_loop' (fun j : Nat => (⟨[(11, .dat (I (b - j)) none), (4, .dat (I N) none), (3, .ptr 5 0), (0, .dat (slAV intRow l) none), (2, .ptr 4 0)], [(5, ⟨(tabF l (busTo l N b j)).cells, if busTo l N b j = [] then [] else [(115, 0)]⟩), (4, ⟨Tb0.cells, []⟩)], ownL (busTo l N b j) 0 eB, 400⟩ : S)) (fun j => b.toNat - j) (fun j => j ≤ b.toNat) ?_ 0 (by omega) ?_
              · intro j hj A back
                have hw3 : IntKind.i64.wrap (b - j - 1) = b - ((j + 1 : Nat) : Int) := by rw [wrap_id (by omega) (by omega)]; omega
                have hi1 : IntKind.i64.wrap (330 + IntKind.i64.wrap (2 * (b - (j : Int)))) = 330 + 2 * (b - j) := by rw [wrap_id (n := 2 * (b - (j : Int))) (by omega) (by omega), wrap_id (by omega) (by omega)]
                have hi2 : IntKind.i64.wrap (331 + IntKind.i64.wrap (2 * (b - (j : Int)))) = 331 + 2 * (b - j) := by rw [wrap_id (n := 2 * (b - (j : Int))) (by omega) (by omega), wrap_id (by omega) (by omega)]
                have hbx : (busOf l N (b - j)).cells = [AV.int .i64 (if bAnd .i64 (frm l (330 + 2 * (b - j)) 256) (IntKind.i64.wrap (IntKind.i64.wrap (1 * 2 ^ min (IntKind.u64.wrap (N : Int)).toNat IntKind.i64.bits) - 1)) > 1 then bAnd .i64 (frm l (330 + 2 * (b - j)) 256) (IntKind.i64.wrap (IntKind.i64.wrap (1 * 2 ^ min (IntKind.u64.wrap (N : Int)).toNat IntKind.i64.bits) - 1)) else 1), AV.int .i64 (IntKind.i64.wrap (1 + frm l (331 + 2 * (b - j)) 30))] := rfl
                have hnext := busTo_next  l N b j
                have hlen : (busTo l N b j).length = j := busTo_len ..
                generalize hL : busTo l N b j = L at *
                generalize hx : busOf l N (b - j) = x at *
                have okT : (tabF l L).Ok := ok_of rfl (phTo_len l _) (confTo_len _) (tabPre_flash l) (by simp [tabF, tabC, tabB, tabA, Tb0, mkO_getD, tabPre_dets]; try omega) (by simp [tabF, tabC, tabB, tabA, Tb0, mkO_getD, tabPre_rails]; try omega) (by simp [tabF, tabC, tabB, tabA, Tb0, mkO_getD]; try omega)
                have ln := okT.ln
                have hln := ln.len
                have hwh := ln.whole
                have hat := ln.at115
                have hset : setCells (tabF l L).cells 115 [slAV Bs.cells (some (L ++ [x]))] = (tabF l (L ++ [x])).cells := by rw [ln.set_buses (some (L ++ [x]))]; simp [tabF, mkO]
                have hatr : (tabF l L).buses = mkO L := rfl
                rw [hatr] at hat
                simp only [slAV_some, List.map_append, List.map_cons, List.map_nil] at hset
                cases L with
                | nil =>
                  simp only [List.map_nil, List.nil_append, mkO, if_true, slAV_none] at hset hat hnext
                  try simp only [I, B, D, RW, ↓ KW, fillA, stTags, flat, Nat.reduceBEq, Nat.reduceAdd, Nat.reduceLeDiff, Int.reduceNe, Int.reduceBEq, Int.reduceEq, reduceCtorEq, Nat.reduceMul, Int.reduceLT, Int.reduceLE, Int.reduceToNat, mkO, ownL]
                  refine cd_split (fun h => ?_) (fun h => ?_) <;> try simp only [I, B, D, RW, ↓ KW, fillA, stTags, flat, Nat.reduceBEq, Nat.reduceAdd, Nat.reduceLeDiff, Int.reduceNe, Int.reduceBEq, Int.reduceEq, reduceCtorEq, Nat.reduceMul, Int.reduceLT, Int.reduceLE, Int.reduceToNat, hat, hwh, h]
                  · have hj1 : (0 : Int) < b - j := of_decide_eq_true h
                    refine call_is (hF _ _ _ (by decide)) ?_
                    try simp only [I, B, D, RW, ↓ KW, fillA, stTags, flat, Nat.reduceBEq, Nat.reduceAdd, Nat.reduceLeDiff, Int.reduceNe, Int.reduceBEq, Int.reduceEq, reduceCtorEq, Nat.reduceMul, Int.reduceLT, Int.reduceLE, Int.reduceToNat, hi1]
                    refine ⟨hu, ?_⟩
                    refine call_is (hF _ _ _ (by decide)) ?_
                    try simp only [I, B, D, RW, ↓ KW, fillA, stTags, flat, Nat.reduceBEq, Nat.reduceAdd, Nat.reduceLeDiff, Int.reduceNe, Int.reduceBEq, Int.reduceEq, reduceCtorEq, Nat.reduceMul, Int.reduceLT, Int.reduceLE, Int.reduceToNat, hi2, hi1]
                    simp only [gt_iff_lt] at hbx ⊢
                    rw [hbx] at hset
                    try simp only [I, B, D, RW, ↓ KW, fillA, stTags, flat, Nat.reduceBEq, Nat.reduceAdd, Nat.reduceLeDiff, Int.reduceNe, Int.reduceBEq, Int.reduceEq, reduceCtorEq, Nat.reduceMul, Int.reduceLT, Int.reduceLE, Int.reduceToNat, hset]
                    refine ⟨by omega, ?_⟩
                    refine back (j + 1) _ (by omega) (by omega) (le_tok2 (by decide) ?_ ?_ ?_ ?_) <;> simp [intRow, ownSV, ownL, leSlots, lv_dat, lv_tok, lv_ptr, lv_rp, lv_undef, leBoxes, leTags, leLive, tokM, tokB, tokT, ren, liveInj, r_lk, r_lkN, r_lkB, r_lkN0, I, B, D, withV_some, hnext, hw3, mkO]
                  · have hj1 : ¬ (0 : Int) < b - j := of_decide_eq_false h
                    have : j = b.toNat := by omega
                    rw [← this, hL]
                    refine cut_at () trivial ?_
                    refine le_tok2 (by decide) ?_ ?_ ?_ ?_ <;> simp [intRow, ownSV, ownL, leSlots, lv_dat, lv_tok, lv_ptr, lv_rp, lv_undef, leBoxes, leTags, leLive, tokM, tokB, tokT, ren, liveInj, r_lk, r_lkN, r_lkB, r_lkN0, I, B, D, withV_some, mkO]
                | cons y ys =>
                  simp only [mkO, reduceCtorEq, if_false, slAV_some] at hset hat hnext
                  try simp only [I, B, D, RW, ↓ KW, fillA, stTags, flat, Nat.reduceBEq, Nat.reduceAdd, Nat.reduceLeDiff, Int.reduceNe, Int.reduceBEq, Int.reduceEq, reduceCtorEq, Nat.reduceMul, Int.reduceLT, Int.reduceLE, Int.reduceToNat, mkO, ownL]
                  refine cd_split (fun h => ?_) (fun h => ?_) <;> try simp only [I, B, D, RW, ↓ KW, fillA, stTags, flat, Nat.reduceBEq, Nat.reduceAdd, Nat.reduceLeDiff, Int.reduceNe, Int.reduceBEq, Int.reduceEq, reduceCtorEq, Nat.reduceMul, Int.reduceLT, Int.reduceLE, Int.reduceToNat, hat, hwh, h]
                  · have hj1 : (0 : Int) < b - j := of_decide_eq_true h
                    refine call_is (hF _ _ _ (by decide)) ?_
                    try simp only [I, B, D, RW, ↓ KW, fillA, stTags, flat, Nat.reduceBEq, Nat.reduceAdd, Nat.reduceLeDiff, Int.reduceNe, Int.reduceBEq, Int.reduceEq, reduceCtorEq, Nat.reduceMul, Int.reduceLT, Int.reduceLE, Int.reduceToNat, hi1]
                    refine ⟨hu, ?_⟩
                    refine call_is (hF _ _ _ (by decide)) ?_
                    try simp only [I, B, D, RW, ↓ KW, fillA, stTags, flat, Nat.reduceBEq, Nat.reduceAdd, Nat.reduceLeDiff, Int.reduceNe, Int.reduceBEq, Int.reduceEq, reduceCtorEq, Nat.reduceMul, Int.reduceLT, Int.reduceLE, Int.reduceToNat, hi2, hi1]
                    simp only [gt_iff_lt] at hbx ⊢
                    rw [hbx] at hset
                    try simp only [I, B, D, RW, ↓ KW, fillA, stTags, flat, Nat.reduceBEq, Nat.reduceAdd, Nat.reduceLeDiff, Int.reduceNe, Int.reduceBEq, Int.reduceEq, reduceCtorEq, Nat.reduceMul, Int.reduceLT, Int.reduceLE, Int.reduceToNat, hset, Bs.len]
                    refine ⟨by simp at hlen ⊢; omega, by omega, ?_⟩
                    refine back (j + 1) _ (by omega) (by omega) (le_tok2 (by decide) ?_ ?_ ?_ ?_) <;> simp [intRow, ownSV, ownL, leSlots, lv_dat, lv_tok, lv_ptr, lv_rp, lv_undef, leBoxes, leTags, leLive, tokM, tokB, tokT, ren, liveInj, r_lk, r_lkN, r_lkB, r_lkN0, I, B, D, withV_some, hnext, hw3, mkO]
                  · have hj1 : ¬ (0 : Int) < b - j := of_decide_eq_false h
                    have : j = b.toNat := by omega
                    rw [← this, hL]
                    refine cut_at () trivial ?_
                    refine le_tok2 (by decide) ?_ ?_ ?_ ?_ <;> simp [intRow, ownSV, ownL, leSlots, lv_dat, lv_tok, lv_ptr, lv_rp, lv_undef, leBoxes, leTags, leLive, tokM, tokB, tokT, ren, liveInj, r_lk, r_lkN, r_lkB, r_lkN0, I, B, D, withV_some, mkO]
              · refine le_tok2 (by decide) ?_ ?_ ?_ ?_ <;> simp [intRow, ownSV, ownL, leSlots, lv_dat, lv_tok, lv_ptr, lv_rp, lv_undef, leBoxes, leTags, leLive, tokM, tokB, tokT, ren, liveInj, r_lk, r_lkN, r_lkB, r_lkN0, I, B, D, withV_some, hEe, busTo, mkO]
            · intro _ _
              have n0 : ({ tabPre l with extend := 0, budget := 0, start := 0, revert := 0, least := 0, share := 0 } : Tb).Ln := ⟨phTo_len l _, confTo_len _, tabPre_flash l⟩
              have n1 : ({ tabPre l with budget := 0, start := 0, revert := 0, least := 0, share := 0 } : Tb).Ln := ⟨phTo_len l _, confTo_len _, tabPre_flash l⟩
              have n2 : ({ tabPre l with start := 0, revert := 0, least := 0, share := 0 } : Tb).Ln := ⟨phTo_len l _, confTo_len _, tabPre_flash l⟩
              have n3 : ({ tabPre l with revert := 0, least := 0, share := 0 } : Tb).Ln := ⟨phTo_len l _, confTo_len _, tabPre_flash l⟩
              have n4 : ({ tabPre l with least := 0, share := 0 } : Tb).Ln := ⟨phTo_len l _, confTo_len _, tabPre_flash l⟩
              have n5 : ({ tabPre l with share := 0 } : Tb).Ln := ⟨phTo_len l _, confTo_len _, tabPre_flash l⟩
              have s0 : setCells ({ tabPre l with extend := 0, budget := 0, start := 0, revert := 0, least := 0, share := 0 } : Tb).cells 116 [AV.int .i64 (frm l 178 12)] = ({ tabPre l with budget := 0, start := 0, revert := 0, least := 0, share := 0 } : Tb).cells := (n0.set_nums (frm l 178 12)).1
              have s1 : setCells ({ tabPre l with budget := 0, start := 0, revert := 0, least := 0, share := 0 } : Tb).cells 117 [AV.int .i64 (frm l 179 40)] = ({ tabPre l with start := 0, revert := 0, least := 0, share := 0 } : Tb).cells := (n1.set_nums (frm l 179 40)).2.1
              have s2 : setCells ({ tabPre l with start := 0, revert := 0, least := 0, share := 0 } : Tb).cells 118 [AV.int .i64 (frm l 180 8)] = ({ tabPre l with revert := 0, least := 0, share := 0 } : Tb).cells := (n2.set_nums (frm l 180 8)).2.2.1
              have s3 : setCells ({ tabPre l with revert := 0, least := 0, share := 0 } : Tb).cells 119 [AV.int .i64 (frm l 181 8)] = ({ tabPre l with least := 0, share := 0 } : Tb).cells := (n3.set_nums (frm l 181 8)).2.2.2.1
              have s4 : setCells ({ tabPre l with least := 0, share := 0 } : Tb).cells 120 [AV.int .i64 (frm l 182 12)] = ({ tabPre l with share := 0 } : Tb).cells := (n4.set_nums (frm l 182 12)).2.2.2.2
              have s5 : setCells ({ tabPre l with share := 0 } : Tb).cells 130 [AV.int .i64 (frm l 183 4)] = (tabPre l).cells := (n5.set_last (frm l 183 4)).2
              have k0 := n0.len
              have k1 := n1.len
              have k2 := n2.len
              have k3 := n3.len
              have k4 := n4.len
              have k5 := n5.len
              rw [hFe]
              generalize ({ tabPre l with extend := 0, budget := 0, start := 0, revert := 0, least := 0, share := 0 } : Tb) = T0 at *
              generalize ({ tabPre l with budget := 0, start := 0, revert := 0, least := 0, share := 0 } : Tb) = T1 at *
              generalize ({ tabPre l with start := 0, revert := 0, least := 0, share := 0 } : Tb) = T2 at *
              generalize ({ tabPre l with revert := 0, least := 0, share := 0 } : Tb) = T3 at *
              generalize ({ tabPre l with least := 0, share := 0 } : Tb) = T4 at *
              generalize ({ tabPre l with share := 0 } : Tb) = T5 at *
              have c0 : 117 ≤ T0.cells.length := by omega
              have c1 : 118 ≤ T1.cells.length := by omega
              have c2 : 119 ≤ T2.cells.length := by omega
              have c3 : 120 ≤ T3.cells.length := by omega
              have c4 : 121 ≤ T4.cells.length := by omega
              have c5 : 131 ≤ T5.cells.length := by omega
              try simp only [I, B, D, RW, ↓ KW, fillA, stTags, flat, Nat.reduceBEq, Nat.reduceAdd, Nat.reduceLeDiff, Int.reduceNe, Int.reduceBEq, Int.reduceEq, reduceCtorEq, Nat.reduceMul, Int.reduceLT, Int.reduceLE, Int.reduceToNat]
              refine call_is (hF _ _ _ (by decide)) ?_
              try simp only [I, B, D, RW, ↓ KW, fillA, stTags, flat, Nat.reduceBEq, Nat.reduceAdd, Nat.reduceLeDiff, Int.reduceNe, Int.reduceBEq, Int.reduceEq, reduceCtorEq, Nat.reduceMul, Int.reduceLT, Int.reduceLE, Int.reduceToNat, s0, s1, s2, s3, s4, s5, c0, c1, c2, c3, c4, c5]
              refine call_is (hF _ _ _ (by decide)) ?_
              try simp only [I, B, D, RW, ↓ KW, fillA, stTags, flat, Nat.reduceBEq, Nat.reduceAdd, Nat.reduceLeDiff, Int.reduceNe, Int.reduceBEq, Int.reduceEq, reduceCtorEq, Nat.reduceMul, Int.reduceLT, Int.reduceLE, Int.reduceToNat, s0, s1, s2, s3, s4, s5, c0, c1, c2, c3, c4, c5]
              refine call_is (hF _ _ _ (by decide)) ?_
              try simp only [I, B, D, RW, ↓ KW, fillA, stTags, flat, Nat.reduceBEq, Nat.reduceAdd, Nat.reduceLeDiff, Int.reduceNe, Int.reduceBEq, Int.reduceEq, reduceCtorEq, Nat.reduceMul, Int.reduceLT, Int.reduceLE, Int.reduceToNat, s0, s1, s2, s3, s4, s5, c0, c1, c2, c3, c4, c5]
              refine call_is (hF _ _ _ (by decide)) ?_
              try simp only [I, B, D, RW, ↓ KW, fillA, stTags, flat, Nat.reduceBEq, Nat.reduceAdd, Nat.reduceLeDiff, Int.reduceNe, Int.reduceBEq, Int.reduceEq, reduceCtorEq, Nat.reduceMul, Int.reduceLT, Int.reduceLE, Int.reduceToNat, s0, s1, s2, s3, s4, s5, c0, c1, c2, c3, c4, c5]
              refine call_is (hF _ _ _ (by decide)) ?_
              try simp only [I, B, D, RW, ↓ KW, fillA, stTags, flat, Nat.reduceBEq, Nat.reduceAdd, Nat.reduceLeDiff, Int.reduceNe, Int.reduceBEq, Int.reduceEq, reduceCtorEq, Nat.reduceMul, Int.reduceLT, Int.reduceLE, Int.reduceToNat, s0, s1, s2, s3, s4, s5, c0, c1, c2, c3, c4, c5]
              refine call_is (hF _ _ _ (by decide)) ?_
              try simp only [I, B, D, RW, ↓ KW, fillA, stTags, flat, Nat.reduceBEq, Nat.reduceAdd, Nat.reduceLeDiff, Int.reduceNe, Int.reduceBEq, Int.reduceEq, reduceCtorEq, Nat.reduceMul, Int.reduceLT, Int.reduceLE, Int.reduceToNat, s0, s1, s2, s3, s4, s5, c0, c1, c2, c3, c4, c5]
              have hT : tableOf l = tabW l (if railTo t1 l N r r.toNat = [] then 0 else winTo (tabPre l) N) := hTab
              have hW0 : tabPre l = tabW l (if railTo t1 l N r r.toNat = [] then 0 else winTo (tabPre l) 0) := by
                have : (if railTo t1 l N r r.toNat = [] then (0 : Int) else winTo (tabPre l) 0) = 0 := by split <;> rfl
                rw [this]; rfl
              replace hW0 := congrArg Tb.cells hW0
              generalize railTo t1 l N r r.toNat = R at *
              refine aw_cut (.exit 12) (fun _ : Unit => (⟨[(3, .ptr 5 0), (2, .ptr 4 0)], [(5, ⟨(tableOf l).cells, []⟩), (4, ⟨Tb0.cells, []⟩)], [], 400⟩ : S)) (fun _ => True) (fun _ => rfl) ?_ ?_
              · refine aw_loop' (fun k : Nat => (⟨[(12, .dat (I k) none), (4, .dat (I N) none), (3, .ptr 5 0), (2, .ptr 4 0)], [(5, ⟨(tabW l (if R = [] then 0 else winTo (tabPre l) k)).cells, []⟩), (4, ⟨Tb0.cells, []⟩)], [], 400⟩ : S)) (fun k => N - k) (fun k => k ≤ N ∧ (R = [] → k = 0)) ?_ 0 (by simp) ?_
                · intro k ⟨hk, hR0⟩ A back
                  have hw3 := wrap_succ (k := k) (by omega)
                  have hwt : ∀ w, waitI (tabW l w) k = waitI (tabPre l) k := fun _ => rfl
                  have hnx : winTo (tabPre l) (k + 1) = if waitI (tabPre l) k > winTo (tabPre l) k then waitI (tabPre l) k else winTo (tabPre l) k := rfl
                  generalize hwv : (if R = [] then (0 : Int) else winTo (tabPre l) k) = wv at *
                  have okW : (tabW l wv).Ok := ok_of rfl (phTo_len l _) (confTo_len _) (tabPre_flash l) (tabPre_dets l) (tabPre_rails l) (by have := frm_range l 177 (n := 3) (by decide) (by decide); simp only [tabW, tabPre, mkO_getD, busTo_len]; omega)
                  have ln := okW.ln
                  have hln := ln.len
                  have hwh := ln.whole
                  have hat := ln.at114
                  have hat2 := ln.at129
                  have hrr : (tabW l wv).rails = mkO R := hRl
                  have hww : (tabW l wv).window = wv := rfl
                  rw [hrr] at hat
                  rw [hww] at hat2
                  have hset : setCells (tabW l wv).cells 129 [AV.int .i64 (if waitI (tabPre l) k > wv then waitI (tabPre l) k else wv)] = (tabW l (if waitI (tabPre l) k > wv then waitI (tabPre l) k else wv)).cells := (ln.set_last _).1
                  have hmk := mkO_getD R
                  try simp only [I, B, D, RW, ↓ KW, fillA, stTags, flat, Nat.reduceBEq, Nat.reduceAdd, Nat.reduceLeDiff, Int.reduceNe, Int.reduceBEq, Int.reduceEq, reduceCtorEq, Nat.reduceMul, Int.reduceLT, Int.reduceLE, Int.reduceToNat]
                  repeat' (first | (refine gd_split (fun h => ?_) (fun h => ?_) <;> try simp only [I, B, D, RW, ↓ KW, fillA, stTags, flat, Nat.reduceBEq, Nat.reduceAdd, Nat.reduceLeDiff, Int.reduceNe, Int.reduceBEq, Int.reduceEq, reduceCtorEq, Nat.reduceMul, Int.reduceLT, Int.reduceLE, Int.reduceToNat, hat, hmk, h]) | (refine cd_split (fun h => ?_) (fun h => ?_) <;> try simp only [I, B, D, RW, ↓ KW, fillA, stTags, flat, Nat.reduceBEq, Nat.reduceAdd, Nat.reduceLeDiff, Int.reduceNe, Int.reduceBEq, Int.reduceEq, reduceCtorEq, Nat.reduceMul, Int.reduceLT, Int.reduceLE, Int.reduceToNat, hat, hmk, h]) | (refine pk_split (fun h => ?_) (fun h => ?_) <;> try simp only [I, B, D, RW, ↓ KW, fillA, stTags, flat, Nat.reduceBEq, Nat.reduceAdd, Nat.reduceLeDiff, Int.reduceNe, Int.reduceBEq, Int.reduceEq, reduceCtorEq, Nat.reduceMul, Int.reduceLT, Int.reduceLE, Int.reduceToNat, hat, hmk, h]))
                  · have hRl0 := of_decide_eq_true h
                    have hkN : (k : Int) < N := by rename_i h1; exact of_decide_eq_true h1
                    have hne : R ≠ [] := by intro e; rw [e] at hRl0; simp at hRl0
                    rw [if_neg hne] at hwv
                    subst hwv
                    rw [← hnx] at hset
                    try simp only [I, B, D, RW, ↓ KW, fillA, stTags, flat, Nat.reduceBEq, Nat.reduceAdd, Nat.reduceLeDiff, Int.reduceNe, Int.reduceBEq, Int.reduceEq, reduceCtorEq, Nat.reduceMul, Int.reduceLT, Int.reduceLE, Int.reduceToNat, hat2, hwh]
                    refine call_is (hw _ _ okW) ?_
                    try simp only [I, B, D, RW, ↓ KW, fillA, stTags, flat, Nat.reduceBEq, Nat.reduceAdd, Nat.reduceLeDiff, Int.reduceNe, Int.reduceBEq, Int.reduceEq, reduceCtorEq, Nat.reduceMul, Int.reduceLT, Int.reduceLE, Int.reduceToNat, hwt, ← hnx, hset, gt_iff_lt]
                    refine ⟨by omega, ?_⟩
                    refine back (k + 1) _ ⟨by omega, fun e => absurd e hne⟩ (by omega) ?_
                    refine le_tok2 (by decide) ?_ ?_ ?_ ?_ <;> simp [intRow, ownSV, ownL, leSlots, lv_dat, lv_tok, lv_ptr, lv_rp, lv_undef, leBoxes, leTags, leLive, tokM, tokB, tokT, ren, liveInj, r_lk, r_lkN, r_lkB, r_lkN0, I, B, D, withV_some, hne, hw3]
                  · have hRl0 := of_decide_eq_false h
                    have hR0' : R = [] := List.eq_nil_of_length_eq_zero (by omega)
                    rw [if_pos hR0'] at hwv hT
                    subst hwv
                    refine cut_at () trivial ?_
                    refine le_tok2 (by decide) ?_ ?_ ?_ ?_ <;> simp [intRow, ownSV, ownL, leSlots, lv_dat, lv_tok, lv_ptr, lv_rp, lv_undef, leBoxes, leTags, leLive, tokM, tokB, tokT, ren, liveInj, r_lk, r_lkN, r_lkB, r_lkN0, I, B, D, withV_some, hT]
                  · have hkN : k = N := by have := of_decide_eq_false h; omega
                    rw [← hkN, hwv] at hT
                    refine cut_at () trivial ?_
                    refine le_tok2 (by decide) ?_ ?_ ?_ ?_ <;> simp [intRow, ownSV, ownL, leSlots, lv_dat, lv_tok, lv_ptr, lv_rp, lv_undef, leBoxes, leTags, leLive, tokM, tokB, tokT, ren, liveInj, r_lk, r_lkN, r_lkB, r_lkN0, I, B, D, withV_some, hT]
                · refine le_tok2 (by decide) ?_ ?_ ?_ ?_ <;> simp [intRow, ownSV, ownL, leSlots, lv_dat, lv_tok, lv_ptr, lv_rp, lv_undef, leBoxes, leTags, leLive, tokM, tokB, tokT, ren, liveInj, r_lk, r_lkN, r_lkB, r_lkN0, I, B, D, withV_some, hW0]
              · intro _ _
                have okZ : (tableOf l).Ok := tableOf_ok l
                have hlz := okZ.ln.len
                have hwz := okZ.ln.whole
                have hl0 := ok0.ln.len
                have hsz : setCells Tb0.cells 0 (tableOf l).cells = (tableOf l).cells := set_all (by omega)
                try simp only [I, B, D, RW, ↓ KW, fillA, stTags, flat, Nat.reduceBEq, Nat.reduceAdd, Nat.reduceLeDiff, Int.reduceNe, Int.reduceBEq, Int.reduceEq, reduceCtorEq, Nat.reduceMul, Int.reduceLT, Int.reduceLE, Int.reduceToNat, hwz, hlz, hl0, hsz]
end

end Go.Eng
