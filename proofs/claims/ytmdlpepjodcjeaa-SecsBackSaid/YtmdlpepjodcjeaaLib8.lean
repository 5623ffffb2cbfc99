/- LIBRARY, PART 8: heads of loops; lists that are built by append; the reference's sets. -/
import Derived.Test.YtmdlpepjodcjeaaRun1
namespace Go.Eng
set_option linter.unnecessarySimpa false
open Go
set_option linter.unusedVariables false
set_option linter.unusedSimpArgs false
set_option maxRecDepth 10000
set_option maxHeartbeats 4000000
/-- A LOOP: head states by some index, a measure that falls; 'back' is the way to the next round. -/
theorem aw_loop' {C : Con} {c : CCode} {Q : Exit → S → Prop} {α : Type} (hd : α → S) (μ : α → Nat) (I : α → Prop)
    (round : ∀ x, I x → ∀ B : S → Prop, (∀ y s, I y → μ y < μ x → Le s (hd y) → B s) → aw C c (athen B Q) (hd x)) (x : α) (hx : I x) {s : S} (h0 : Le s (hd x)) : aw C (.loop c) Q s :=
  aw_loop hd μ I (fun x hx => round x hx _ fun y s hy hμ hle => ⟨hd y, .inl ⟨hle, y, rfl, hy, hμ⟩⟩) hx (.inl h0)

theorem lv_dat (m : List (Nat × Nat)) (nx : Nat) (a a' : AV) (q : Option Nat) : leSV m nx (.dat a q) (.dat a' none) = (a = a') := by cases q <;> rfl
theorem lv_tok (m : List (Nat × Nat)) (nx : Nat) (a a' : AV) (q q' : Nat) : leSV m nx (.dat a (some q)) (.dat a' (some q')) = (a = a' ∧ q = ren m q' ∧ q' < nx) := rfl
theorem lv_ptr (m : List (Nat × Nat)) (nx : Nat) (b o b' o' : Nat) : leSV m nx (.ptr b o) (.ptr b' o') = (b = b' ∧ o = o' ∧ b' < nx) := rfl
theorem lv_rp (m : List (Nat × Nat)) (nx : Nat) (a b : List AV) : leSV m nx (.rp a) (.rp b) = (a = b) := rfl
theorem lv_undef (m : List (Nat × Nat)) (nx : Nat) : leSV m nx .undef .undef = True := rfl

/-- the tokens of a head, by the slots -/
def tokM (a : List (Nat × SV)) : List (Nat × SV) → List (Nat × Nat)
  | [] => []
  | (t, .dat _ (some q)) :: r => match lk t a with
    | some (.dat _ (some q')) => (q, q') :: tokM a r
    | _ => tokM a r
  | _ :: r => tokM a r

/-- the tokens of a head, by the tags of its boxes -/
def tokT (a : List (Nat × Nat)) : List (Nat × Nat) → List (Nat × Nat)
  | [] => []
  | (o, q) :: r => match lkN o a with
    | some q' => (q, q') :: tokT a r
    | none => tokT a r
def tokB (a : List (Nat × Box)) : List (Nat × Box) → List (Nat × Nat)
  | [] => []
  | (b, x) :: r => match lkB b a with
    | some y => tokT y.tags x.tags ++ tokB a r
    | none => tokB a r

theorem le_tok2 {sl sl' : List (Nat × SV)} {bx bx' : List (Nat × Box)} {lv lv' : List (Nat × Nat)} {nx nx' : Nat} (h : 4 ≤ nx') (h1 : leSlots (tokM sl sl' ++ tokB bx bx') nx' sl sl') (h2 : leBoxes (tokM sl sl' ++ tokB bx bx') nx' bx bx') (h3 : leLive (tokM sl sl' ++ tokB bx bx') nx' lv lv') (h4 : liveInj (tokM sl sl' ++ tokB bx bx') lv') : Le ⟨sl, bx, lv, nx⟩ ⟨sl', bx', lv', nx'⟩ := ⟨h, _, h1, h2, h3, h4⟩

theorem le_tok {sl sl' : List (Nat × SV)} {bx bx' : List (Nat × Box)} {lv lv' : List (Nat × Nat)} {nx nx' : Nat} (h : 4 ≤ nx') (h1 : leSlots (tokM sl sl') nx' sl sl') (h2 : leBoxes (tokM sl sl') nx' bx bx') (h3 : leLive (tokM sl sl') nx' lv lv') (h4 : liveInj (tokM sl sl') lv') : Le ⟨sl, bx, lv, nx⟩ ⟨sl', bx', lv', nx'⟩ := ⟨h, _, h1, h2, h3, h4⟩

def mkO {α : Type} (l : List α) : Option (List α) := if l = [] then none else some l
/-- a list that is being built: its slot (token t), its token -/
def ownSV {α : Type} (row : α → List AV) (l : List α) (t : Nat) : SV := if l = [] then .dat .nils none else .dat (.sl (l.map row)) (some t)
def ownL {α : Type} (l : List α) (t e : Nat) : List (Nat × Nat) := if l = [] then [] else [(t, e)]


theorem wrap_nat {n : Nat} (h : n < 9223372036854775807) : IntKind.i64.wrap (n : Int) = n := wrap_id (by omega) (by omega)
theorem wrap_succ {k : Nat} (h : k < 9223372036854775806) : IntKind.i64.wrap ((k : Int) + 1) = ((k + 1 : Nat) : Int) := by rw [wrap_id (by omega) (by omega)]; omega

/-- the phases of a set, as the reference lists them -/
def listS (s : Int) : List Int := ((List.range 8).map fun (k : Nat) => (k : Int)).filter (hasR s)
def listTo (s : Int) (k : Nat) : List Int := ((List.range k).map fun (k : Nat) => (k : Int)).filter (hasR s)
theorem listTo_succ (s : Int) (k : Nat) : listTo s (k + 1) = if hasR s k then listTo s k ++ [(k : Int)] else listTo s k := by
  simp only [listTo, List.range_succ, List.map_append, List.filter_append, List.map_cons, List.map_nil, List.filter_cons, List.filter_nil]
  split <;> simp

def refList.Spec (C : Con) (f e : Nat) : Prop := ∀ (s : Int) (fr : Option Nat), (fr = none ∨ fr = some e ∧ listS s ≠ []) → C.c f [I s] (slAV intRow (mkO (listS s))) fr
/-- the set of a list's phases -/
def ofTo (l : List Int) : Nat → Int
  | 0 => 0
  | k + 1 => if (k : Int) ∈ l then bOr .i64 (ofTo l k) (2 ^ k) else ofTo l k
def ofI (l : List Int) : Int := ofTo l 8
def refOf.Spec (C : Con) (f : Nat) : Prop := ∀ l : Option (List Int), (l.getD []).length ≤ 140737488355328 → C.c f [slAV intRow l] (I (ofI (l.getD []))) none

def withR (s p : Int) : Int := ofI (listS s ++ [p])
def refWith.Spec (C : Con) (f : Nat) : Prop := ∀ s p : Int, C.c f [I s, I p] (I (withR s p)) none

theorem take_next {α : Type} {l : List α} {i : Nat} {x : α} (h : l[i]? = some x) : l.take (i + 1) = l.take i ++ [x] := by
  obtain ⟨hi, rfl⟩ := List.getElem?_eq_some_iff.1 h
  rw [List.take_succ_eq_append_getElem hi]
theorem wrap_u64 {k : Nat} (h : k < 18446744073709551616) : IntKind.u64.wrap (k : Int) = k := by
  simp only [IntKind.wrap, IntKind.bits, IntKind.signed]
  simp
  omega

section
variable {P : Program} (hm : P.follows .mixedOrders = true) {f : Nat}
include hm

theorem refList.ok {fH e : Nat} (hc : cFn P f = some (cc_ref01_List fH e)) (hH : refHas.Spec (Pure P) fH) : refList.Spec (Pure P) f e := by
  intro s fr hfr
  refine pure_of hm hc (by show 1 ≤ 17; decide) (aw_flat (keep := []) (i := 0) ?_)
  try simp only [I, B, D, RW, ↓ KW, fillA, setCells, stTags, flat, Nat.reduceBEq, Nat.reduceAdd, Nat.reduceLeDiff, Int.reduceNe, Int.reduceBEq, Int.reduceEq, reduceCtorEq, Nat.reduceMul, Int.reduceLT, Int.reduceLE, Int.reduceToNat, cc_ref01_List]
  refine aw_loop' (fun k : Nat => (⟨[(4, .dat (I k) none), (0, .dat (I s) none), (3, ownSV intRow (listTo s k) 0)], [], ownL (listTo s k) 0 e, 400⟩ : S)) (fun k => 8 - k) (fun k => k ≤ 8) ?_ 0 (by omega) ?_
  · intro k hk A back
    have hw := wrap_succ (k := k) (by omega)
    have hn := listTo_succ s k
    have hlen : (listTo s k).length ≤ k := by
      have := List.length_filter_le (hasR s) ((List.range k).map fun (k : Nat) => (k : Int))
      simpa [listTo] using this
    by_cases hl : listTo s k = []
    · try simp only [I, B, D, RW, ↓ KW, fillA, setCells, stTags, flat, Nat.reduceBEq, Nat.reduceAdd, Nat.reduceLeDiff, Int.reduceNe, Int.reduceBEq, Int.reduceEq, reduceCtorEq, Nat.reduceMul, Int.reduceLT, Int.reduceLE, Int.reduceToNat, ownSV, ownL, hl]
      refine cd_split (fun h => ?_) (fun h => ?_) <;> try simp only [I, B, D, RW, ↓ KW, fillA, setCells, stTags, flat, Nat.reduceBEq, Nat.reduceAdd, Nat.reduceLeDiff, Int.reduceNe, Int.reduceBEq, Int.reduceEq, reduceCtorEq, Nat.reduceMul, Int.reduceLT, Int.reduceLE, Int.reduceToNat, h]
      · have h8 := of_decide_eq_true h
        refine call_is (hH _ _) ?_
        try simp only [I, B, D, RW, ↓ KW, fillA, setCells, stTags, flat, Nat.reduceBEq, Nat.reduceAdd, Nat.reduceLeDiff, Int.reduceNe, Int.reduceBEq, Int.reduceEq, reduceCtorEq, Nat.reduceMul, Int.reduceLT, Int.reduceLE, Int.reduceToNat]
        refine cd_split (fun h' => ?_) (fun h' => ?_) <;> try simp only [I, B, D, RW, ↓ KW, fillA, setCells, stTags, flat, Nat.reduceBEq, Nat.reduceAdd, Nat.reduceLeDiff, Int.reduceNe, Int.reduceBEq, Int.reduceEq, reduceCtorEq, Nat.reduceMul, Int.reduceLT, Int.reduceLE, Int.reduceToNat, h']
        · refine back (k + 1) _ (by omega) (by omega) (le_tok2 (by decide) ?_ ?_ ?_ ?_) <;> simp [intRow, ownSV, ownL, leSlots, lv_dat, lv_tok, lv_ptr, lv_rp, lv_undef, leBoxes, leTags, leLive, tokM, tokB, tokT, ren, liveInj, r_lk, r_lkN, r_lkB, r_lkN0, I, B, D, withV_some, hn, hl, h', hw]
        · refine back (k + 1) _ (by omega) (by omega) (le_tok2 (by decide) ?_ ?_ ?_ ?_) <;> simp [intRow, ownSV, ownL, leSlots, lv_dat, lv_tok, lv_ptr, lv_rp, lv_undef, leBoxes, leTags, leLive, tokM, tokB, tokT, ren, liveInj, r_lk, r_lkN, r_lkB, r_lkN0, I, B, D, withV_some, hn, hl, h', hw]
      · have : k = 8 := by have := of_decide_eq_false h; omega
        subst this
        rcases hfr with rfl | ⟨rfl, hne⟩
        · try simp only [I, B, D, RW, ↓ KW, fillA, setCells, stTags, flat, Nat.reduceBEq, Nat.reduceAdd, Nat.reduceLeDiff, Int.reduceNe, Int.reduceBEq, Int.reduceEq, reduceCtorEq, Nat.reduceMul, Int.reduceLT, Int.reduceLE, Int.reduceToNat]
          simp [mkO, show listS s = listTo s 8 from rfl, hl, slAV]
        · exact absurd hl hne
    · try simp only [I, B, D, RW, ↓ KW, fillA, setCells, stTags, flat, Nat.reduceBEq, Nat.reduceAdd, Nat.reduceLeDiff, Int.reduceNe, Int.reduceBEq, Int.reduceEq, reduceCtorEq, Nat.reduceMul, Int.reduceLT, Int.reduceLE, Int.reduceToNat, ownSV, ownL, hl]
      refine cd_split (fun h => ?_) (fun h => ?_) <;> try simp only [I, B, D, RW, ↓ KW, fillA, setCells, stTags, flat, Nat.reduceBEq, Nat.reduceAdd, Nat.reduceLeDiff, Int.reduceNe, Int.reduceBEq, Int.reduceEq, reduceCtorEq, Nat.reduceMul, Int.reduceLT, Int.reduceLE, Int.reduceToNat, h]
      · have h8 := of_decide_eq_true h
        refine call_is (hH _ _) ?_
        try simp only [I, B, D, RW, ↓ KW, fillA, setCells, stTags, flat, Nat.reduceBEq, Nat.reduceAdd, Nat.reduceLeDiff, Int.reduceNe, Int.reduceBEq, Int.reduceEq, reduceCtorEq, Nat.reduceMul, Int.reduceLT, Int.reduceLE, Int.reduceToNat]
        refine cd_split (fun h' => ?_) (fun h' => ?_) <;> try simp only [I, B, D, RW, ↓ KW, fillA, setCells, stTags, flat, Nat.reduceBEq, Nat.reduceAdd, Nat.reduceLeDiff, Int.reduceNe, Int.reduceBEq, Int.reduceEq, reduceCtorEq, Nat.reduceMul, Int.reduceLT, Int.reduceLE, Int.reduceToNat, h']
        · refine ⟨by omega, ?_⟩
          refine back (k + 1) _ (by omega) (by omega) (le_tok2 (by decide) ?_ ?_ ?_ ?_) <;> simp [intRow, ownSV, ownL, leSlots, lv_dat, lv_tok, lv_ptr, lv_rp, lv_undef, leBoxes, leTags, leLive, tokM, tokB, tokT, ren, liveInj, r_lk, r_lkN, r_lkB, r_lkN0, I, B, D, withV_some, hn, hl, h', hw]
        · refine back (k + 1) _ (by omega) (by omega) (le_tok2 (by decide) ?_ ?_ ?_ ?_) <;> simp [intRow, ownSV, ownL, leSlots, lv_dat, lv_tok, lv_ptr, lv_rp, lv_undef, leBoxes, leTags, leLive, tokM, tokB, tokT, ren, liveInj, r_lk, r_lkN, r_lkB, r_lkN0, I, B, D, withV_some, hn, hl, h', hw]
      · have : k = 8 := by have := of_decide_eq_false h; omega
        subst this
        rcases hfr with rfl | ⟨rfl, hne⟩
        · try simp only [I, B, D, RW, ↓ KW, fillA, setCells, stTags, flat, Nat.reduceBEq, Nat.reduceAdd, Nat.reduceLeDiff, Int.reduceNe, Int.reduceBEq, Int.reduceEq, reduceCtorEq, Nat.reduceMul, Int.reduceLT, Int.reduceLE, Int.reduceToNat]
          simp [mkO, show listS s = listTo s 8 from rfl, hl, slAV]
        · try simp only [I, B, D, RW, ↓ KW, fillA, setCells, stTags, flat, Nat.reduceBEq, Nat.reduceAdd, Nat.reduceLeDiff, Int.reduceNe, Int.reduceBEq, Int.reduceEq, reduceCtorEq, Nat.reduceMul, Int.reduceLT, Int.reduceLE, Int.reduceToNat]
          simp [mkO, show listS s = listTo s 8 from rfl, hl, slAV]
  · refine le_tok2 (by decide) ?_ ?_ ?_ ?_ <;> simp [intRow, ownSV, ownL, leSlots, lv_dat, lv_tok, lv_ptr, lv_rp, lv_undef, leBoxes, leTags, leLive, tokM, tokB, tokT, ren, liveInj, r_lk, r_lkN, r_lkB, r_lkN0, I, B, D, withV_some, listTo]

theorem refOf.ok (hc : cFn P f = some cc_ref01_Of) : refOf.Spec (Pure P) f := by
  intro l hlen
  have hL : ((l.getD []).length : Int) < 9223372036854775807 := by omega
  refine pure_of hm hc (by show 1 ≤ 28; decide) (aw_flat (keep := []) (i := 0) ?_)
  try simp only [I, B, D, RW, ↓ KW, fillA, setCells, stTags, flat, Nat.reduceBEq, Nat.reduceAdd, Nat.reduceLeDiff, Int.reduceNe, Int.reduceBEq, Int.reduceEq, reduceCtorEq, Nat.reduceMul, Int.reduceLT, Int.reduceLE, Int.reduceToNat, cc_ref01_Of, a_slAV]
  refine aw_loop' (fun k : Nat => (⟨[(4, .dat (I k) none), (0, .dat (slAV intRow l) none), (3, .dat (I (ofTo (l.getD []) k)) none)], [], [], 400⟩ : S)) (fun k => 8 - k) (fun k => k ≤ 8) ?_ 0 (by omega) ?_
  · intro k hk A back
    have hw := wrap_succ (k := k) (by omega)
    try simp only [I, B, D, RW, ↓ KW, fillA, setCells, stTags, flat, Nat.reduceBEq, Nat.reduceAdd, Nat.reduceLeDiff, Int.reduceNe, Int.reduceBEq, Int.reduceEq, reduceCtorEq, Nat.reduceMul, Int.reduceLT, Int.reduceLE, Int.reduceToNat, a_len]
    refine cd_split (fun h => ?_) (fun h => ?_) <;> try simp only [I, B, D, RW, ↓ KW, fillA, setCells, stTags, flat, Nat.reduceBEq, Nat.reduceAdd, Nat.reduceLeDiff, Int.reduceNe, Int.reduceBEq, Int.reduceEq, reduceCtorEq, Nat.reduceMul, Int.reduceLT, Int.reduceLE, Int.reduceToNat, h]
    · have h8 := of_decide_eq_true h
      refine aw_loop' (fun j : Nat => (⟨[(5, .dat (I j) none), (0, .dat (slAV intRow l) none), (4, .dat (I k) none), (3, .dat (I (ofTo (l.getD []) k)) none)], [], [], 400⟩ : S)) (fun j => (l.getD []).length - j) (fun j => j ≤ (l.getD []).length ∧ ∀ x ∈ (l.getD []).take j, x ≠ k) ?_ 0 (by simp) ?_
      · intro j ⟨hj, hnot⟩ A' back'
        have hw' := wrap_succ (k := j) (by omega)
        try simp only [I, B, D, RW, ↓ KW, fillA, setCells, stTags, flat, Nat.reduceBEq, Nat.reduceAdd, Nat.reduceLeDiff, Int.reduceNe, Int.reduceBEq, Int.reduceEq, reduceCtorEq, Nat.reduceMul, Int.reduceLT, Int.reduceLE, Int.reduceToNat, a_rows, a_len]
        refine cd_split (fun h' => ?_) (fun h' => ?_) <;> try simp only [I, B, D, RW, ↓ KW, fillA, setCells, stTags, flat, Nat.reduceBEq, Nat.reduceAdd, Nat.reduceLeDiff, Int.reduceNe, Int.reduceBEq, Int.reduceEq, reduceCtorEq, Nat.reduceMul, Int.reduceLT, Int.reduceLE, Int.reduceToNat, h']
        · have h9 := of_decide_eq_true h'
          have hjl : j < (l.getD []).length := by omega
          obtain ⟨x, hx⟩ : ∃ x, (l.getD [])[j]? = some x := ⟨_, List.getElem?_eq_getElem hjl⟩
          have htk := take_next hx
          refine ⟨by omega, ?_⟩
          try simp only [I, B, D, RW, ↓ KW, fillA, setCells, stTags, flat, Nat.reduceBEq, Nat.reduceAdd, Nat.reduceLeDiff, Int.reduceNe, Int.reduceBEq, Int.reduceEq, reduceCtorEq, Nat.reduceMul, Int.reduceLT, Int.reduceLE, Int.reduceToNat, hx, intRow]
          refine cd_split (fun h2 => ?_) (fun h2 => ?_) <;> try simp only [I, B, D, RW, ↓ KW, fillA, setCells, stTags, flat, Nat.reduceBEq, Nat.reduceAdd, Nat.reduceLeDiff, Int.reduceNe, Int.reduceBEq, Int.reduceEq, reduceCtorEq, Nat.reduceMul, Int.reduceLT, Int.reduceLE, Int.reduceToNat, h2]
          · have hxk : x = k := by simpa using h2
            have hm : (k : Int) ∈ l.getD [] := by
              rw [← hxk]; exact List.mem_of_getElem? hx
            rw [wrap_u64 (by omega)]
            refine ⟨by omega, ?_⟩
            rw [shl_small (by omega) (by omega)]
            refine back (k + 1) _ (by omega) (by omega) (le_tok2 (by decide) ?_ ?_ ?_ ?_) <;> simp [intRow, ownSV, ownL, leSlots, lv_dat, lv_tok, lv_ptr, lv_rp, lv_undef, leBoxes, leTags, leLive, tokM, tokB, tokT, ren, liveInj, r_lk, r_lkN, r_lkB, r_lkN0, I, B, D, withV_some, hw, ofTo, hm]
          · have hxk : x ≠ k := by simpa using h2
            refine back' (j + 1) _ ⟨by omega, ?_⟩ (by omega) ?_
            · rw [htk]; simp only [List.mem_append, List.mem_singleton]; rintro y (hy | rfl); exact hnot y hy; exact hxk
            · refine le_tok2 (by decide) ?_ ?_ ?_ ?_ <;> simp [intRow, ownSV, ownL, leSlots, lv_dat, lv_tok, lv_ptr, lv_rp, lv_undef, leBoxes, leTags, leLive, tokM, tokB, tokT, ren, liveInj, r_lk, r_lkN, r_lkB, r_lkN0, I, B, D, withV_some, hw']
        · have : j = (l.getD []).length := by have := of_decide_eq_false h'; omega
          subst this
          have hm : ¬ (k : Int) ∈ l.getD [] := by
            intro hk
            exact hnot k (by simpa using hk) rfl
          refine back (k + 1) _ (by omega) (by omega) (le_tok2 (by decide) ?_ ?_ ?_ ?_) <;> simp [intRow, ownSV, ownL, leSlots, lv_dat, lv_tok, lv_ptr, lv_rp, lv_undef, leBoxes, leTags, leLive, tokM, tokB, tokT, ren, liveInj, r_lk, r_lkN, r_lkB, r_lkN0, I, B, D, withV_some, hw, ofTo, hm]
      · refine le_tok2 (by decide) ?_ ?_ ?_ ?_ <;> simp [intRow, ownSV, ownL, leSlots, lv_dat, lv_tok, lv_ptr, lv_rp, lv_undef, leBoxes, leTags, leLive, tokM, tokB, tokT, ren, liveInj, r_lk, r_lkN, r_lkB, r_lkN0, I, B, D, withV_some]
    · have : k = 8 := by have := of_decide_eq_false h; omega
      subst this
      rfl
  · refine le_tok2 (by decide) ?_ ?_ ?_ ?_ <;> simp [intRow, ownSV, ownL, leSlots, lv_dat, lv_tok, lv_ptr, lv_rp, lv_undef, leBoxes, leTags, leLive, tokM, tokB, tokT, ren, liveInj, r_lk, r_lkN, r_lkB, r_lkN0, I, B, D, withV_some, ofTo]

theorem refWith.ok {fL e fO : Nat} (hc : cFn P f = some (cc_ref01_With fL e fO)) (hL : refList.Spec (Pure P) fL e) (hO : refOf.Spec (Pure P) fO) : refWith.Spec (Pure P) f := by
  intro s p
  refine pure_of hm hc (by show 2 ≤ 11; decide) (aw_flat (keep := []) (i := 0) ?_)
  try simp only [I, B, D, RW, ↓ KW, fillA, setCells, stTags, flat, Nat.reduceBEq, Nat.reduceAdd, Nat.reduceLeDiff, Int.reduceNe, Int.reduceBEq, Int.reduceEq, reduceCtorEq, Nat.reduceMul, Int.reduceLT, Int.reduceLE, Int.reduceToNat, cc_ref01_With]
  by_cases h : listS s = []
  · refine call_is (hL s none (.inl rfl)) ?_
    try simp only [I, B, D, RW, ↓ KW, fillA, setCells, stTags, flat, Nat.reduceBEq, Nat.reduceAdd, Nat.reduceLeDiff, Int.reduceNe, Int.reduceBEq, Int.reduceEq, reduceCtorEq, Nat.reduceMul, Int.reduceLT, Int.reduceLE, Int.reduceToNat, h, mkO, slAV]
    refine call_is (hO (some [p]) (by simp)) ?_
    try simp only [I, B, D, RW, ↓ KW, fillA, setCells, stTags, flat, Nat.reduceBEq, Nat.reduceAdd, Nat.reduceLeDiff, Int.reduceNe, Int.reduceBEq, Int.reduceEq, reduceCtorEq, Nat.reduceMul, Int.reduceLT, Int.reduceLE, Int.reduceToNat]
    simp [withR, h]
  · have hl : (listS s).length ≤ 8 := by
      have := List.length_filter_le (hasR s) ((List.range 8).map fun (k : Nat) => (k : Int))
      simpa [listS] using this
    refine call_own (hL s (some e) (.inr ⟨rfl, h⟩)) ?_
    try simp only [I, B, D, RW, ↓ KW, fillA, setCells, stTags, flat, Nat.reduceBEq, Nat.reduceAdd, Nat.reduceLeDiff, Int.reduceNe, Int.reduceBEq, Int.reduceEq, reduceCtorEq, Nat.reduceMul, Int.reduceLT, Int.reduceLE, Int.reduceToNat, h, mkO, slAV]
    refine ⟨by omega, ?_⟩
    have h2 := hO (some (listS s ++ [p])) (by simp; omega)
    simp only [slAV, Option.getD_some, List.map_append, List.map_cons, List.map_nil, intRow, I] at h2
    refine call_is h2 ?_
    try simp only [I, B, D, RW, ↓ KW, fillA, setCells, stTags, flat, Nat.reduceBEq, Nat.reduceAdd, Nat.reduceLeDiff, Int.reduceNe, Int.reduceBEq, Int.reduceEq, reduceCtorEq, Nat.reduceMul, Int.reduceLT, Int.reduceLE, Int.reduceToNat]
    simp [withR]
end

end Go.Eng
