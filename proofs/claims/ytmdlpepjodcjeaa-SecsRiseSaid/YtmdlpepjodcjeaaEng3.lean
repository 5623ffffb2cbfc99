/- ENGINE, PART 3: the rules by which simp runs compiled code on an abstract state that is written out. -/
import Derived.Test.YtmdlpepjodcjeaaEng2
namespace Go.Eng
set_option linter.unusedVariables false
set_option linter.unusedSimpArgs false
set_option linter.unnecessarySimpa false
open Go

/-! ### continuations behind an instance argument: simp does not look into them -/
class Kn (α : Type) where
  run : α → Prop
class Kn2 where
  run : SV → List (Nat × Nat) → Prop
def wv {α : Type} (o : Option α) [k : Kn α] : Prop := withV o k.run
theorem k_wv {α : Type} (o : Option α) (k : α → Prop) : withV o k = @wv α o ⟨k⟩ := rfl
theorem w_some {α : Type} (a : α) (k : α → Prop) : @wv α (some a) ⟨k⟩ = k a := rfl
theorem w_none {α : Type} (k : α → Prop) : @wv α none ⟨k⟩ = False := rfl
theorem wv_of {α : Type} {o : Option α} {k : α → Prop} (a : α) (h : o = some a) (hk : k a) : @wv α o ⟨k⟩ := by subst h; exact hk

/-- a call: the contract is to be brought -/
def callP (C : Con) (f : Nat) (as : List AV) (id : Nat) (lv : List (Nat × Nat)) (k : SV → List (Nat × Nat) → Prop) : Prop :=
  ∃ r fr, C.c f as r fr ∧ k (.dat r (fr.map fun _ => id)) (match fr with | some e => (id, e) :: lv | none => lv)
def cl (C : Con) (f : Nat) (as : List AV) (id : Nat) (lv : List (Nat × Nat)) [k : Kn2] : Prop := callP C f as id lv k.run
theorem k_cl (C : Con) (f : Nat) (as : List AV) (id : Nat) (lv : List (Nat × Nat)) (k : SV → List (Nat × Nat) → Prop) : callP C f as id lv k = @cl C f as id lv ⟨k⟩ := rfl
@[congr] theorem g_callP {C : Con} (f : Nat) {as as' : List AV} (id : Nat) (lv : List (Nat × Nat)) (k : SV → List (Nat × Nat) → Prop) (h : as = as') : callP C f as id lv k = callP C f as' id lv k := by rw [h]
theorem call_is {C : Con} {f : Nat} {as : List AV} {id : Nat} {lv : List (Nat × Nat)} {k : SV → List (Nat × Nat) → Prop} {r : AV} (h : C.c f as r none) (hk : k (.dat r none) lv) : @cl C f as id lv ⟨k⟩ := ⟨r, none, h, hk⟩
theorem call_own {C : Con} {f : Nat} {as : List AV} {id : Nat} {lv : List (Nat × Nat)} {k : SV → List (Nat × Nat) → Prop} {r : AV} {e : Nat} (h : C.c f as r (some e)) (hk : k (.dat r (some id)) ((id, e) :: lv)) : @cl C f as id lv ⟨k⟩ := ⟨r, some e, h, hk⟩

/-- a call that is given pointers -/
class Kn3 where
  run : SV → List (Nat × Box) → List (Nat × Nat) → Prop
def callPP (C : Con) (f : Nat) (css : List (List AV)) (as : List (Option AV)) (ids : List Nat) (id : Nat) (bx : List (Nat × Box)) (lv : List (Nat × Nat)) (k : SV → List (Nat × Box) → List (Nat × Nat) → Prop) : Prop :=
  ∃ r fr css', C.p f css as r fr css' ∧ k (.dat r (fr.map fun _ => id)) (setBs ids css' bx) (match fr with | some e => (id, e) :: lv | none => lv)
def clp (C : Con) (f : Nat) (css : List (List AV)) (as : List (Option AV)) (ids : List Nat) (id : Nat) (bx : List (Nat × Box)) (lv : List (Nat × Nat)) [k : Kn3] : Prop := callPP C f css as ids id bx lv k.run
theorem k_clp (C : Con) (f : Nat) (css : List (List AV)) (as : List (Option AV)) (ids : List Nat) (id : Nat) (bx : List (Nat × Box)) (lv : List (Nat × Nat)) (k : SV → List (Nat × Box) → List (Nat × Nat) → Prop) : callPP C f css as ids id bx lv k = @clp C f css as ids id bx lv ⟨k⟩ := rfl
theorem callp_is {C : Con} {f : Nat} {css : List (List AV)} {as : List (Option AV)} {ids : List Nat} {id : Nat} {bx : List (Nat × Box)} {lv : List (Nat × Nat)} {k : SV → List (Nat × Box) → List (Nat × Nat) → Prop} {r : AV} {css' : List (List AV)} (h : C.p f css as r none css') (hk : k (.dat r none) (setBs ids css' bx) lv) : @clp C f css as ids id bx lv ⟨k⟩ := ⟨r, none, css', h, hk⟩
section
variable {C : Con} {Q : Exit → S → Prop} {K : SV → S → Prop} {J : S → Prop}
variable (sl : List (Nat × SV)) (bx : List (Nat × Box)) (lv : List (Nat × Nat)) (nx : Nat)

theorem r_lk (n m : Nat) (v : SV) (r : List (Nat × SV)) : lk n ((m, v) :: r) = bif n == m then some v else lk n r := rfl
theorem r_lkB (n m : Nat) (v : Box) (r : List (Nat × Box)) : lkB n ((m, v) :: r) = bif n == m then some v else lkB n r := rfl
theorem r_lkN (n m : Nat) (v : Nat) (r : List (Nat × Nat)) : lkN n ((m, v) :: r) = bif n == m then some v else lkN n r := rfl
theorem r_lkN0 (n : Nat) : lkN n [] = none := rfl
theorem r_setB (n m : Nat) (b v : Box) (r : List (Nat × Box)) : setB n b ((m, v) :: r) = bif n == m then (m, b) :: r else (m, v) :: setB n b r := rfl
theorem r_delN (n m : Nat) (v : Nat) (r : List (Nat × Nat)) : delN n ((m, v) :: r) = bif n == m then delN n r else (m, v) :: delN n r := rfl
theorem r_delN0 (n : Nat) : delN n [] = [] := rfl
theorem r_put (d : Nat) (v : SV) : S.put ⟨sl, bx, lv, nx⟩ (some d) v = ⟨(d, v) :: sl, bx, lv, nx⟩ := rfl
theorem r_put0 (v : SV) : S.put ⟨sl, bx, lv, nx⟩ none v = ⟨sl, bx, lv, nx⟩ := rfl
theorem r_opdt (n : Nat) : opd ⟨sl, bx, lv, nx⟩ (.t n) = lk n sl := rfl
theorem r_opdk (v : AV) : opd ⟨sl, bx, lv, nx⟩ (.k v) = some (.dat v none) := rfl
def datA : Option SV → Option AV
  | some (.dat a _) => some a
  | some (.rp cs) => some (.ref cs)
  | _ => none
theorem r_datAr (cs : List AV) : datA (some (.rp cs)) = some (.ref cs) := rfl
theorem r_datA (a : AV) (q : Option Nat) : datA (some (.dat a q)) = some a := rfl
theorem r_opdAt (n : Nat) : opdA ⟨sl, bx, lv, nx⟩ (.t n) = datA (lk n sl) := rfl
theorem r_opdAk (v : AV) : opdA ⟨sl, bx, lv, nx⟩ (.k v) = some v := rfl
def consO : Option AV → Option (List AV) → Option (List AV)
  | some a, some as => some (a :: as)
  | _, _ => none
theorem r_consO (a : AV) (as : List AV) : consO (some a) (some as) = some (a :: as) := rfl
theorem r_opdsA (x : Opd) (r : List Opd) : opdsA ⟨sl, bx, lv, nx⟩ (x :: r) = consO (opdA ⟨sl, bx, lv, nx⟩ x) (opdsA ⟨sl, bx, lv, nx⟩ r) := rfl
theorem r_opdsA0 : opdsA ⟨sl, bx, lv, nx⟩ [] = some [] := rfl

theorem r_aops0 (b i : Nat) : aops C b i [] J ⟨sl, bx, lv, nx⟩ = J ⟨sl, bx, lv, nx⟩ := rfl
theorem r_aops (b i : Nat) (d : Option Nat) (o : COp) (r : List CO) : aops C b i (⟨d, o, none⟩ :: r) J ⟨sl, bx, lv, nx⟩ = aop C (b + i) o (fun v s' => aops C b (i + 1) r J (s'.put d v)) ⟨sl, bx, lv, nx⟩ := rfl
def guardP (want : Bool) (yes no : Prop) : Option SV → Prop
  | some (.dat (.bool b) _) => (b = want → yes) ∧ (b = !want → no)
  | some .undef => no
  | _ => False
theorem r_aopsg (b i t : Nat) (w : Bool) (d : Option Nat) (o : COp) (r : List CO) : aops C b i (⟨d, o, some (t, w)⟩ :: r) J ⟨sl, bx, lv, nx⟩ =
    guardP w (aop C (b + i) o (fun v s' => aops C b (i + 1) r J (s'.put d v)) ⟨sl, bx, lv, nx⟩) (aops C b (i + 1) r J (S.put ⟨sl, bx, lv, nx⟩ d .undef)) (lk t sl) := by
  simp only [aops, aguard, guardP]
  cases lk t sl with
  | none => rfl
  | some v => cases v with
    | dat a q => cases a <;> rfl
    | ptr => rfl
    | rp => rfl
    | undef => rfl
class KP where
  yes : Prop
  no : Prop
def gd (w : Bool) (v : Option SV) [k : KP] : Prop := guardP w k.yes k.no v
theorem k_gd (w : Bool) (yes no : Prop) (v : Option SV) : guardP w yes no v = @gd w v ⟨yes, no⟩ := rfl
theorem r_guardu (w : Bool) (yes no : Prop) : @gd w (some .undef) ⟨yes, no⟩ = no := rfl
theorem r_guardt (yes no : Prop) (q : Option Nat) : @gd true (some (.dat (.bool true) q)) ⟨yes, no⟩ = yes := by simp [gd, guardP]
theorem r_guardt' (yes no : Prop) (q : Option Nat) : @gd true (some (.dat (.bool false) q)) ⟨yes, no⟩ = no := by simp [gd, guardP]
theorem r_guardf (yes no : Prop) (q : Option Nat) : @gd false (some (.dat (.bool false) q)) ⟨yes, no⟩ = yes := by simp [gd, guardP]
theorem r_guardf' (yes no : Prop) (q : Option Nat) : @gd false (some (.dat (.bool true) q)) ⟨yes, no⟩ = no := by simp [gd, guardP]

theorem r_mv (id : Nat) (x : Opd) : aop C id (.mv x) K ⟨sl, bx, lv, nx⟩ = withV (opd ⟨sl, bx, lv, nx⟩ x) fun v => K v ⟨sl, bx, lv, nx⟩ := rfl
def pickP (a b : Option SV) (k : SV → Prop) : AV → Prop
  | .bool t => withV a fun u => withV b fun v => (t = true → k u) ∧ (t = false → k v)
  | _ => False
theorem r_pick (id : Nat) (c a b : Opd) : aop C id (.pick c a b) K ⟨sl, bx, lv, nx⟩ = withV (opdA ⟨sl, bx, lv, nx⟩ c) (pickP (opd ⟨sl, bx, lv, nx⟩ a) (opd ⟨sl, bx, lv, nx⟩ b) fun v => K v ⟨sl, bx, lv, nx⟩) := rfl
def pk (a b : Option SV) (c : AV) [k : Kn SV] : Prop := pickP a b k.run c
theorem k_pk (a b : Option SV) (k : SV → Prop) (c : AV) : pickP a b k c = @pk a b c ⟨k⟩ := rfl
theorem r_pickt (k : SV → Prop) (b : Option SV) (v : SV) : @pk (some v) b (.bool true) ⟨k⟩ = withV b fun _ => k v := by simp [pk, pickP]
theorem r_pickf (k : SV → Prop) (a : Option SV) (v : SV) : @pk a (some v) (.bool false) ⟨k⟩ = withV a fun _ => k v := by
  cases a <;> simp [pk, pickP]
theorem r_alloc (id : Nat) (cs : List AV) : aop C id (.alloc cs) K ⟨sl, bx, lv, nx⟩ = K (.ptr id 0) ⟨sl, (id, ⟨cs, []⟩) :: bx, lv, nx⟩ := rfl
theorem r_box (id : Nat) (x : Opd) : aop C id (.box x) K ⟨sl, bx, lv, nx⟩ = withV (opdA ⟨sl, bx, lv, nx⟩ x) fun a => stOk a none = true ∧ K (.ptr id 0) ⟨sl, (id, ⟨a.cells, []⟩) :: bx, lv, nx⟩ := rfl
def ldP (sz : Option Nat) (bx : List (Nat × Box)) (k : SV → Prop) : SV → Prop
  | .ptr b off => withV (lkB b bx) fun x => withV (partA x.cells off sz) fun a => k (.dat a (match sz with | none => lkN off x.tags | some _ => none))
  | .rp cs => withV (partA cs 0 sz) fun a => k (.dat a none)
  | _ => False
theorem r_ld (id : Nat) (x : Opd) (sz : Option Nat) : aop C id (.ld x sz) K ⟨sl, bx, lv, nx⟩ = withV (opd ⟨sl, bx, lv, nx⟩ x) (ldP sz bx fun v => K v ⟨sl, bx, lv, nx⟩) := rfl
theorem r_ldp1 (k : SV → Prop) (b off : Nat) : ldP none bx k (.ptr b off) = withV (lkB b bx) fun x => withV (partA x.cells off none) fun a => k (.dat a (lkN off x.tags)) := rfl
theorem r_ldp2 (k : SV → Prop) (b off n : Nat) : ldP (some n) bx k (.ptr b off) = withV (lkB b bx) fun x => withV (partA x.cells off (some n)) fun a => k (.dat a none) := rfl
theorem r_ldr (k : SV → Prop) (sz : Option Nat) (cs : List AV) : ldP sz bx k (.rp cs) = withV (partA cs 0 sz) fun a => k (.dat a none) := rfl
def stTags (off sz : Nat) (q : Option Nat) (tags : List (Nat × Nat)) : List (Nat × Nat) :=
  match q with
  | some q => (off, q) :: tags.filter (fun p => p.1 < off || off + sz ≤ p.1)
  | none => tags.filter (fun p => p.1 < off || off + sz ≤ p.1)
def stV (sz off : Nat) (x : Box) (k : Box → Prop) : SV → Prop
  | .dat a q => stOk a q = true ∧ a.cells.length = sz ∧ off + sz ≤ x.cells.length ∧ k ⟨setCells x.cells off a.cells, stTags off sz q x.tags⟩
  | _ => False
def stP (sz : Nat) (bx : List (Nat × Box)) (v : Option SV) (k : List (Nat × Box) → Prop) : SV → Prop
  | .ptr b off => withV (lkB b bx) fun x => withV v (stV sz off x fun y => k (setB b y bx))
  | _ => False
theorem r_st (id : Nat) (x v : Opd) (sz : Nat) : aop C id (.st x v sz) K ⟨sl, bx, lv, nx⟩ = withV (opd ⟨sl, bx, lv, nx⟩ x) (stP sz bx (opd ⟨sl, bx, lv, nx⟩ v) fun b => K .undef ⟨sl, b, lv, nx⟩) := by
  show withV _ _ = withV _ _
  cases hx : opd ⟨sl, bx, lv, nx⟩ x with
  | none => rfl
  | some p => cases p with
    | ptr b off =>
      show withV _ _ = withV _ _
      cases hb : lkB b bx with
      | none => rfl
      | some y =>
        show withV _ _ = withV _ _
        cases hv : opd ⟨sl, bx, lv, nx⟩ v with
        | none => rfl
        | some u => cases u with
          | dat a q => cases q <;> rfl
          | _ => rfl
    | _ => rfl
theorem r_stp (sz b off : Nat) (v : Option SV) (k : List (Nat × Box) → Prop) : stP sz bx v k (.ptr b off) = withV (lkB b bx) fun x => withV v (stV sz off x fun y => k (setB b y bx)) := rfl
theorem r_stv (sz off : Nat) (cs : List AV) (tg : List (Nat × Nat)) (k : Box → Prop) (a : AV) (q : Option Nat) : stV sz off ⟨cs, tg⟩ k (.dat a q) = (stOk a q = true ∧ a.cells.length = sz ∧ off + sz ≤ cs.length ∧ k ⟨setCells cs off a.cells, stTags off sz q tg⟩) := rfl
theorem r_tags0 (off sz : Nat) : stTags off sz none [] = [] := rfl
theorem r_tags1 (off sz q : Nat) : stTags off sz (some q) [] = [(off, q)] := rfl
def faP (off : Nat) (k : SV → Prop) : SV → Prop
  | .ptr b o => k (.ptr b (o + off))
  | .rp cs => k (.rp (cs.drop off))
  | _ => False
theorem r_fa (id : Nat) (x : Opd) (off : Nat) : aop C id (.fa x off) K ⟨sl, bx, lv, nx⟩ = withV (opd ⟨sl, bx, lv, nx⟩ x) (faP off fun v => K v ⟨sl, bx, lv, nx⟩) := rfl
theorem r_fap (k : SV → Prop) (b o off : Nat) : faP off k (.ptr b o) = k (.ptr b (o + off)) := rfl
theorem r_far (k : SV → Prop) (cs : List AV) (off : Nat) : faP off k (.rp cs) = k (.rp (cs.drop off)) := rfl
def iaP (d : Nat) (k : SV → Prop) : SV → Prop
  | .ptr b o => k (.ptr b (o + d))
  | .rp cs => k (.rp (cs.drop d))
  | _ => False
theorem r_iaA (id : Nat) (x i : Opd) (n z : Nat) : aop C id (.iaA x i n z) K ⟨sl, bx, lv, nx⟩ = withV (opd ⟨sl, bx, lv, nx⟩ x) fun p => withV (opdA ⟨sl, bx, lv, nx⟩ i) fun a => withV (idxOf a) fun i => (0 ≤ i ∧ i < n) ∧ iaP (i.toNat * z) (fun v => K v ⟨sl, bx, lv, nx⟩) p := rfl
theorem r_iap (k : SV → Prop) (b o d : Nat) : iaP d k (.ptr b o) = k (.ptr b (o + d)) := rfl
theorem r_iar (k : SV → Prop) (cs : List AV) (d : Nat) : iaP d k (.rp cs) = k (.rp (cs.drop d)) := rfl
theorem r_idx (k : IntKind) (i : Int) : idxOf (.int k i) = some i := rfl
theorem r_iaS (id : Nat) (x i : Opd) (z : Nat) : aop C id (.iaS x i z) K ⟨sl, bx, lv, nx⟩ = withV (opdA ⟨sl, bx, lv, nx⟩ x) fun l => withV (opdA ⟨sl, bx, lv, nx⟩ i) fun a => withV (idxOf a) fun i => withV (rowsOf l) fun xs => (0 ≤ i ∧ i < xs.length) ∧ withV (xs[i.toNat]?) fun row => row.length = z ∧ K (.rp row) ⟨sl, bx, lv, nx⟩ := rfl
theorem r_rows (xs : List (List AV)) : rowsOf (.sl xs) = some xs := rfl
theorem r_rows0 : rowsOf .nils = some [] := rfl
def aggP (k : List AV → Prop) : AV → Prop
  | .agg cs => k cs
  | _ => False
theorem r_agg (k : List AV → Prop) (cs : List AV) : aggP k (.agg cs) = k cs := rfl
theorem r_fld (id : Nat) (x : Opd) (off : Nat) (sz : Option Nat) : aop C id (.fld x off sz) K ⟨sl, bx, lv, nx⟩ = withV (opdA ⟨sl, bx, lv, nx⟩ x) (aggP fun cs => withV (partA cs off sz) fun a => K (.dat a none) ⟨sl, bx, lv, nx⟩) := rfl
theorem r_ixA (id : Nat) (x i : Opd) (n z : Nat) (sz : Option Nat) : aop C id (.ixA x i n z sz) K ⟨sl, bx, lv, nx⟩ = withV (opdA ⟨sl, bx, lv, nx⟩ x) (aggP fun cs => withV (opdA ⟨sl, bx, lv, nx⟩ i) fun a => withV (idxOf a) fun i => (0 ≤ i ∧ i < n) ∧ withV (partA cs (i.toNat * z) sz) fun a => K (.dat a none) ⟨sl, bx, lv, nx⟩) := rfl
theorem r_bin (id : Nat) (op : BinOp) (x y : Opd) : aop C id (.bin op x y) K ⟨sl, bx, lv, nx⟩ = withV (opdA ⟨sl, bx, lv, nx⟩ x) fun a => withV (opdA ⟨sl, bx, lv, nx⟩ y) fun b => withV (binA op a b) fun v => K (.dat v none) ⟨sl, bx, lv, nx⟩ := rfl
theorem r_eqc (id : Nat) (ks : List CK) (neg : Bool) (x y : Opd) : aop C id (.eqc ks neg x y) K ⟨sl, bx, lv, nx⟩ = withV (opdA ⟨sl, bx, lv, nx⟩ x) (aggP fun as => withV (opdA ⟨sl, bx, lv, nx⟩ y) (aggP fun bs => withV (cellsEq ks as bs) fun e => K (.dat (.bool (e != neg)) none) ⟨sl, bx, lv, nx⟩)) := rfl
theorem r_bb (id : Nat) (neg : Bool) (x y : Opd) : aop C id (.bb neg x y) K ⟨sl, bx, lv, nx⟩ = withV (opdA ⟨sl, bx, lv, nx⟩ x) fun a => withV (opdA ⟨sl, bx, lv, nx⟩ y) fun b => withV (bbA neg a b) fun v => K (.dat v none) ⟨sl, bx, lv, nx⟩ := rfl
theorem r_un (id : Nat) (op : UnOp) (x : Opd) : aop C id (.un op x) K ⟨sl, bx, lv, nx⟩ = withV (opdA ⟨sl, bx, lv, nx⟩ x) fun a => withV (unA op a) fun v => K (.dat v none) ⟨sl, bx, lv, nx⟩ := rfl
theorem r_cvII (id : Nat) (k : IntKind) (x : Opd) : aop C id (.cvII k x) K ⟨sl, bx, lv, nx⟩ = withV (opdA ⟨sl, bx, lv, nx⟩ x) fun a => withV (cvIIA k a) fun v => K (.dat v none) ⟨sl, bx, lv, nx⟩ := rfl
theorem r_cvIF (id : Nat) (k : FloatKind) (x : Opd) : aop C id (.cvIF k x) K ⟨sl, bx, lv, nx⟩ = withV (opdA ⟨sl, bx, lv, nx⟩ x) fun a => withV (cvIFA k a) fun v => K (.dat v none) ⟨sl, bx, lv, nx⟩ := rfl
theorem r_cvFI (id : Nat) (k : IntKind) (x : Opd) : aop C id (.cvFI k x) K ⟨sl, bx, lv, nx⟩ = withV (opdA ⟨sl, bx, lv, nx⟩ x) fun a => withV (cvFIA k a) fun v => K (.dat v none) ⟨sl, bx, lv, nx⟩ := rfl
theorem r_lenS (id : Nat) (x : Opd) : aop C id (.lenS x) K ⟨sl, bx, lv, nx⟩ = withV (opdA ⟨sl, bx, lv, nx⟩ x) fun a => withV (lenA a) fun v => K (.dat v none) ⟨sl, bx, lv, nx⟩ := rfl
theorem r_xt (id : Nat) (e : Xt) (x : Opd) : aop C id (.xt e x) K ⟨sl, bx, lv, nx⟩ = withV (opdA ⟨sl, bx, lv, nx⟩ x) fun a => withV (xtA e a) fun v => K (.dat v none) ⟨sl, bx, lv, nx⟩ := rfl
theorem r_xb (b : Nat) : xtA .fbits (.float .f64 b) = some (.int .u64 b) := rfl
theorem r_xf (n : Int) : xtA .ffrom (.int .u64 n) = some (.float .f64 n.toNat) := rfl
theorem r_xr (b : Nat) : xtA .rte (.float .f64 b) = rteA b := rfl
def slAP (n z : Nat) (s : S) (k : SV → S → Prop) : SV → Prop
  | .rp cs => n * z ≤ cs.length ∧ k (.dat (.sl (chunkA z n cs)) none) s
  | .ptr b off => 4 ≤ b ∧ withV (lkB b s.boxes) fun bx => n * z ≤ (bx.cells.drop off).length ∧ k (.dat (.sl (chunkA z n (bx.cells.drop off))) none) (frzs [b] [bx.cells] s)
  | _ => False
theorem r_slA (id : Nat) (x : Opd) (n z : Nat) : aop C id (.slA x n z) K ⟨sl, bx, lv, nx⟩ = withV (opd ⟨sl, bx, lv, nx⟩ x) (slAP n z ⟨sl, bx, lv, nx⟩ K) := by
  show withV _ _ = withV _ _
  cases opd ⟨sl, bx, lv, nx⟩ x with
  | none => rfl
  | some v => cases v <;> rfl
theorem r_slA1 (n z : Nat) (s : S) (k : SV → S → Prop) (cs : List AV) : slAP n z s k (.rp cs) = (n * z ≤ cs.length ∧ k (.dat (.sl (chunkA z n cs)) none) s) := rfl
theorem r_slA2 (n z : Nat) (k : SV → S → Prop) (b off : Nat) : slAP n z ⟨sl, bx, lv, nx⟩ k (.ptr b off) = (4 ≤ b ∧ withV (lkB b bx) fun y => n * z ≤ (y.cells.drop off).length ∧ k (.dat (.sl (chunkA z n (y.cells.drop off))) none) (frzs [b] [y.cells] ⟨sl, bx, lv, nx⟩)) := rfl
def ixBP (s : S) (i : Opd) (k : AV → Prop) : AV → Prop
  | .str b => withV (opdA s i) fun a => withV (idxOf a) fun j => withV (byteA b j) k
  | _ => False
theorem r_ixB (id : Nat) (x i : Opd) : aop C id (.ixB x i) K ⟨sl, bx, lv, nx⟩ = withV (opdA ⟨sl, bx, lv, nx⟩ x) (ixBP ⟨sl, bx, lv, nx⟩ i fun v => K (.dat v none) ⟨sl, bx, lv, nx⟩) := by
  show withV _ _ = withV _ _
  cases opdA ⟨sl, bx, lv, nx⟩ x with
  | none => rfl
  | some v => cases v <;> rfl
theorem r_ixBs (s : S) (i : Opd) (k : AV → Prop) (b : ByteArray) : ixBP s i k (.str b) = withV (opdA s i) fun a => withV (idxOf a) fun j => withV (byteA b j) k := rfl
theorem r_lenK (id n : Nat) : aop C id (.lenK n) K ⟨sl, bx, lv, nx⟩ = K (.dat (.int .i64 n) none) ⟨sl, bx, lv, nx⟩ := rfl
theorem r_call (id f : Nat) (args : List Opd) : aop C id (.call f args) K ⟨sl, bx, lv, nx⟩ = withV (opdsA ⟨sl, bx, lv, nx⟩ args) fun as => callP C f as id lv fun v l => K v ⟨sl, bx, l, nx⟩ := rfl
def callvP (C : Con) (id : Nat) (lv : List (Nat × Nat)) (as : List AV) (k : SV → List (Nat × Nat) → Prop) : AV → Prop
  | .fn (.func f) first caps => callP C f (first ++ as ++ caps) id lv k
  | _ => False
@[congr] theorem g_callvP (id : Nat) (lv : List (Nat × Nat)) (as : List AV) (k : SV → List (Nat × Nat) → Prop) {v v' : AV} (h : v = v') : callvP C id lv as k v = callvP C id lv as k v' := by rw [h]
def consP : Option SV → Option (List (Option AV) × List Nat) → Option (List (Option AV) × List Nat)
  | some (.dat a _), some p => some (some a :: p.1, p.2)
  | some (.rp cs), some p => some (some (.ref cs) :: p.1, p.2)
  | some (.ptr b 0), some p => some (none :: p.1, b :: p.2)
  | _, _ => none
theorem r_consPd (a : AV) (q : Option Nat) (p : List (Option AV) × List Nat) : consP (some (.dat a q)) (some p) = some (some a :: p.1, p.2) := rfl
theorem r_consPr (cs : List AV) (p : List (Option AV) × List Nat) : consP (some (.rp cs)) (some p) = some (some (.ref cs) :: p.1, p.2) := rfl
theorem r_consPp (b : Nat) (p : List (Option AV) × List Nat) : consP (some (.ptr b 0)) (some p) = some (none :: p.1, b :: p.2) := rfl
theorem r_svs0 : svsA ⟨sl, bx, lv, nx⟩ [] = some ([], []) := rfl
theorem r_svs (x : Opd) (r : List Opd) : svsA ⟨sl, bx, lv, nx⟩ (x :: r) = consP (opd ⟨sl, bx, lv, nx⟩ x) (svsA ⟨sl, bx, lv, nx⟩ r) := by
  show (match opd ⟨sl, bx, lv, nx⟩ x, svsA ⟨sl, bx, lv, nx⟩ r with
    | some (.dat a _), some (as, bs) => some (some a :: as, bs)
    | some (.rp cs), some (as, bs) => some (some (.ref cs) :: as, bs)
    | some (.ptr b 0), some (as, bs) => some (none :: as, b :: bs)
    | _, _ => none) = _
  unfold consP
  cases opd ⟨sl, bx, lv, nx⟩ x with
  | none => rfl
  | some v =>
    cases svsA ⟨sl, bx, lv, nx⟩ r with
    | none => cases v with
      | ptr b o => cases o <;> rfl
      | _ => rfl
    | some p => cases v with
      | ptr b o => cases o <;> rfl
      | _ => rfl
theorem r_cells0 : cellsA bx [] = some [] := rfl
def consC : Option Box → Option (List (List AV)) → Option (List (List AV))
  | some x, some css => some (x.cells :: css)
  | _, _ => none
theorem r_consC (x : Box) (css : List (List AV)) : consC (some x) (some css) = some (x.cells :: css) := rfl
theorem r_cells (b : Nat) (bs : List Nat) : cellsA bx (b :: bs) = consC (lkB b bx) (cellsA bx bs) := rfl
theorem r_nodup0 : nodupB [] = true := rfl
theorem r_nodup (b : Nat) (bs : List Nat) : nodupB (b :: bs) = (!bs.contains b && nodupB bs) := rfl
theorem r_setBs (b : Nat) (bs : List Nat) (cs : List AV) (css : List (List AV)) : setBs (b :: bs) (cs :: css) bx = setBs bs css (setB b ⟨cs, []⟩ bx) := rfl
theorem r_setBs0 (css : List (List AV)) : setBs [] css bx = bx := rfl
def callpK (C : Con) (f id : Nat) (bx : List (Nat × Box)) (lv : List (Nat × Nat)) (k : SV → List (Nat × Box) → List (Nat × Nat) → Prop) (p : List (Option AV) × List Nat) : Prop :=
  nodupB p.2 = true ∧ withV (cellsA bx p.2) fun css => callPP C f css p.1 p.2 id bx lv k
theorem r_callpK (f id : Nat) (as : List (Option AV)) (ids : List Nat) (k : SV → List (Nat × Box) → List (Nat × Nat) → Prop) : callpK C f id bx lv k (as, ids) = (nodupB ids = true ∧ withV (cellsA bx ids) fun css => callPP C f css as ids id bx lv k) := rfl
theorem r_callp (id f : Nat) (args : List Opd) : aop C id (.callp f args) K ⟨sl, bx, lv, nx⟩ = withV (svsA ⟨sl, bx, lv, nx⟩ args) (callpK C f id bx lv fun v b l => K v ⟨sl, b, l, nx⟩) := rfl
theorem r_callv (id : Nat) (g : Opd) (args : List Opd) : aop C id (.callv g args) K ⟨sl, bx, lv, nx⟩ = withV (opdA ⟨sl, bx, lv, nx⟩ g) fun a => withV (opdsA ⟨sl, bx, lv, nx⟩ args) fun as => callvP C id lv as (fun v l => K v ⟨sl, bx, l, nx⟩) a := by
  show withV _ _ = withV _ _
  cases hx : opdA ⟨sl, bx, lv, nx⟩ g with
  | none => rfl
  | some a =>
    show (match a with | .fn (.func f) first caps => _ | _ => False) = _
    cases hy : opdsA ⟨sl, bx, lv, nx⟩ args with
    | none => cases a <;> first | rfl | (rename_i f _ _; cases f <;> rfl)
    | some as => cases a <;> first | rfl | (rename_i f _ _; cases f <;> rfl)
theorem r_callvf (id f : Nat) (as first caps : List AV) (k : SV → List (Nat × Nat) → Prop) : callvP C id lv as k (.fn (.func f) first caps) = callP C f (first ++ as ++ caps) id lv k := rfl
theorem r_ext (id : Nat) (x : Opd) (i : Nat) : aop C id (.ext x i) K ⟨sl, bx, lv, nx⟩ = withV (opdA ⟨sl, bx, lv, nx⟩ x) fun a => withV (extA a i) fun v => K (.dat v none) ⟨sl, bx, lv, nx⟩ := rfl
theorem r_frz1 (b : Nat) (cs : List AV) (b' o : Nat) : frzV b cs (.ptr b' o) = bif b' == b then .rp (cs.drop o) else .ptr b' o := rfl
theorem r_frz2 (b : Nat) (cs : List AV) (a : AV) (q : Option Nat) : frzV b cs (.dat a q) = .dat a q := rfl
theorem r_frz3 (b : Nat) (cs cs' : List AV) : frzV b cs (.rp cs') = .rp cs' := rfl
theorem r_frz4 (b : Nat) (cs : List AV) : frzV b cs .undef = .undef := rfl
theorem r_frzL0 (b : Nat) (cs : List AV) : frzL b cs [] = [] := rfl
theorem r_frzL (b : Nat) (cs : List AV) (t : Nat) (v : SV) (r : List (Nat × SV)) : frzL b cs ((t, v) :: r) = (t, frzV b cs v) :: frzL b cs r := rfl
theorem r_delB0 (n : Nat) : delB n [] = [] := rfl
theorem r_delB (n m : Nat) (v : Box) (r : List (Nat × Box)) : delB n ((m, v) :: r) = bif n == m then delB n r else (m, v) :: delB n r := rfl
theorem r_frzs0 (css : List (List AV)) (s : S) : frzs [] css s = s := rfl
theorem r_frzs (b : Nat) (bs : List Nat) (cs : List AV) (css : List (List AV)) : frzs (b :: bs) (cs :: css) ⟨sl, bx, lv, nx⟩ = frzs bs css ⟨frzL b cs sl, delB b bx, lv, nx⟩ := rfl
theorem r_fillP0 (css : List (List AV)) : fillP [] css = [] := by cases css <;> rfl
theorem r_fillPs (a : AV) (as : List (Option AV)) (css : List (List AV)) : fillP (some a :: as) css = a :: fillP as css := by cases css <;> rfl
theorem r_fillPn (as : List (Option AV)) (cs : List AV) (css : List (List AV)) : fillP (none :: as) (cs :: css) = .ref cs :: fillP as css := rfl
theorem r_own0 : ownIds [] = true := rfl
theorem r_own (b : Nat) (bs : List Nat) : ownIds (b :: bs) = (decide (4 ≤ b) && ownIds bs) := rfl
def mkfK (fn : Fn) (as : List AV) (s : S) (k : SV → S → Prop) (p : List (Option AV) × List Nat) : Prop :=
  (nodupB p.2 && ownIds p.2) = true ∧ withV (cellsA s.boxes p.2) fun css => k (.dat (.fn fn as (fillP p.1 css)) none) (frzs p.2 css s)
theorem r_mkfK (fn : Fn) (as : List AV) (k : SV → S → Prop) (ps : List (Option AV)) (ids : List Nat) : mkfK fn as ⟨sl, bx, lv, nx⟩ k (ps, ids) = ((nodupB ids && ownIds ids) = true ∧ withV (cellsA bx ids) fun css => k (.dat (.fn fn as (fillP ps css)) none) (frzs ids css ⟨sl, bx, lv, nx⟩)) := rfl
theorem r_mkf (id : Nat) (fn : Fn) (a b : List Opd) : aop C id (.mkf fn a b) K ⟨sl, bx, lv, nx⟩ = withV (opdsA ⟨sl, bx, lv, nx⟩ a) fun as => withV (svsA ⟨sl, bx, lv, nx⟩ b) (mkfK fn as ⟨sl, bx, lv, nx⟩ K) := rfl
def mmP (mx : Bool) (k : AV → Prop) : List AV → Prop
  | [] => False
  | a :: r => withV (r.foldlM (mmA mx) a) k
theorem r_mm (id : Nat) (mx : Bool) (args : List Opd) : aop C id (.mm mx args) K ⟨sl, bx, lv, nx⟩ = withV (opdsA ⟨sl, bx, lv, nx⟩ args) (mmP mx fun v => K (.dat v none) ⟨sl, bx, lv, nx⟩) := by
  show withV _ _ = withV _ _
  cases opdsA ⟨sl, bx, lv, nx⟩ args with
  | none => rfl
  | some l => cases l <;> rfl
theorem r_mm2 (mx : Bool) (k : AV → Prop) (a b : AV) : mmP mx k [a, b] = withV (mmA mx a b) k := by simp [mmP]
theorem r_mmI (kd : IntKind) (x y : Int) : mmA true (.int kd x) (.int kd y) = some (.int kd (if y > x then y else x)) := rfl
theorem r_mmI' (kd : IntKind) (x y : Int) : mmA false (.int kd x) (.int kd y) = some (.int kd (if y < x then y else x)) := rfl
theorem r_build (id : Nat) (zs : List AV) (parts : List (Nat × Nat × Opd)) : aop C id (.build zs parts) K ⟨sl, bx, lv, nx⟩ = withV (partsA ⟨sl, bx, lv, nx⟩ parts) fun ps => K (.dat (.agg (fillA zs ps)) none) ⟨sl, bx, lv, nx⟩ := rfl
def partO (off sz : Nat) : Option AV → Option (List (Nat × List AV)) → Option (List (Nat × List AV))
  | some a, some ps => if a.cells.length = sz ∧ stOk a none = true then some ((off, a.cells) :: ps) else none
  | _, _ => none
theorem r_partsA (off sz : Nat) (x : Opd) (r : List (Nat × Nat × Opd)) : partsA ⟨sl, bx, lv, nx⟩ ((off, sz, x) :: r) = partO off sz (opdA ⟨sl, bx, lv, nx⟩ x) (partsA ⟨sl, bx, lv, nx⟩ r) := rfl
theorem r_partsA0 : partsA ⟨sl, bx, lv, nx⟩ [] = some [] := rfl
theorem r_partO (off sz : Nat) (a : AV) (ps : List (Nat × List AV)) (h : a.cells.length = sz) (h' : stOk a none = true) : partO off sz (some a) (some ps) = some ((off, a.cells) :: ps) := by simp [partO, h, h']
theorem r_bsl (id e z : Nat) (xs : List Opd) : aop C id (.bsl e z xs) K ⟨sl, bx, lv, nx⟩ = withV (rowsA ⟨sl, bx, lv, nx⟩ z xs) fun rows => K (.dat (.sl rows) (some id)) ⟨sl, bx, (id, e) :: lv, nx⟩ := rfl
def rowO (z : Nat) : Option AV → Option (List (List AV)) → Option (List (List AV))
  | some a, some rows => if a.cells.length = z ∧ stOk a none = true then some (a.cells :: rows) else none
  | _, _ => none
theorem r_rowsA (z : Nat) (x : Opd) (r : List Opd) : rowsA ⟨sl, bx, lv, nx⟩ z (x :: r) = rowO z (opdA ⟨sl, bx, lv, nx⟩ x) (rowsA ⟨sl, bx, lv, nx⟩ z r) := rfl
theorem r_rowsA0 (z : Nat) : rowsA ⟨sl, bx, lv, nx⟩ z [] = some [] := rfl
theorem r_rowO (z : Nat) (a : AV) (rows : List (List AV)) (h : a.cells.length = z) (h' : stOk a none = true) : rowO z (some a) (some rows) = some (a.cells :: rows) := by simp [rowO, h, h']
theorem r_app (id e z bytes : Nat) (x y : Opd) : aop C id (.app e z bytes x y) K ⟨sl, bx, lv, nx⟩ = withV (opd ⟨sl, bx, lv, nx⟩ x) fun
      | .dat a q => withV (rowsOf a) fun xs => withV (opdA ⟨sl, bx, lv, nx⟩ y) fun b => withV (rowsOf b) fun ys =>
          (xs.length + ys.length) * bytes ≤ 140737488355328 ∧ (∀ r ∈ xs, r.length = z) ∧ (∀ r ∈ ys, r.length = z) ∧
          (match a, q with
           | .nils, _ => if ys = [] then K (.dat .nils none) ⟨sl, bx, lv, nx⟩ else K (.dat (.sl (xs ++ ys)) (some id)) ⟨sl, bx, (id, e) :: lv, nx⟩
           | .sl _, some q => lkN q lv = some e ∧ K (.dat (.sl (xs ++ ys)) (some id)) ⟨sl, bx, (id, e) :: delN q lv, nx⟩
           | _, _ => False)
      | _ => False := rfl
theorem r_slS (id z : Nat) (x : Opd) (lo hi : Option Opd) : aop C id (.slS z x lo hi) K ⟨sl, bx, lv, nx⟩ = withV (opdA ⟨sl, bx, lv, nx⟩ x) fun a => withV (rowsOf a) fun xs => withV (bndL ⟨sl, bx, lv, nx⟩ lo) fun l => withV (bndH ⟨sl, bx, lv, nx⟩ xs hi) fun h => (0 ≤ l ∧ l ≤ h ∧ h ≤ xs.length) ∧ (∀ r ∈ xs, r.length = z) ∧ K (.dat (cutA a xs l h) none) ⟨sl, bx, lv, nx⟩ := rfl
theorem r_bndL0 : bndL ⟨sl, bx, lv, nx⟩ none = some 0 := rfl
theorem r_bndL (x : Opd) : bndL ⟨sl, bx, lv, nx⟩ (some x) = idxO (opdA ⟨sl, bx, lv, nx⟩ x) := by cases h : opdA ⟨sl, bx, lv, nx⟩ x <;> simp [bndL, idxO, h]
theorem r_bndH0 (xs : List (List AV)) : bndH ⟨sl, bx, lv, nx⟩ xs none = some (xs.length : Int) := rfl
theorem r_bndH (xs : List (List AV)) (x : Opd) : bndH ⟨sl, bx, lv, nx⟩ xs (some x) = idxO (opdA ⟨sl, bx, lv, nx⟩ x) := by cases h : opdA ⟨sl, bx, lv, nx⟩ x <;> simp [bndH, idxO, h]
theorem r_idxO (k : IntKind) (i : Int) : idxO (some (.int k i)) = some i := rfl
theorem r_cut (xs ys : List (List AV)) (l h : Int) : cutA (.sl ys) xs l h = .sl ((xs.take h.toNat).drop l.toNat) := rfl
theorem r_cut0 (xs : List (List AV)) (l h : Int) : cutA .nils xs l h = .nils := rfl
def ncP (k : SV → Prop) : SV → Prop
  | .ptr b o => k (.ptr b o)
  | .rp cs => k (.rp cs)
  | .dat (.fn (.func f) as bs) q => k (.dat (.fn (.func f) as bs) q)
  | _ => False
theorem r_nc (id : Nat) (x : Opd) : aop C id (.nc x) K ⟨sl, bx, lv, nx⟩ = withV (opd ⟨sl, bx, lv, nx⟩ x) (ncP fun v => K v ⟨sl, bx, lv, nx⟩) := by
  show withV _ _ = withV _ _
  cases opd ⟨sl, bx, lv, nx⟩ x with
  | none => rfl
  | some v => cases v with
    | dat a q => cases a <;> first | rfl | (rename_i f _ _; cases f <;> rfl)
    | _ => rfl
theorem r_ncp (k : SV → Prop) (b o : Nat) : ncP k (.ptr b o) = k (.ptr b o) := rfl
theorem r_ncr (k : SV → Prop) (cs : List AV) : ncP k (.rp cs) = k (.rp cs) := rfl

theorem r_skip : aw C .skip Q ⟨sl, bx, lv, nx⟩ = Q .normal ⟨sl, bx, lv, nx⟩ := rfl
def bump (k : S → Prop) (n : Nat) : S → Prop := fun s => k { s with nx := n }
theorem r_reg (ops : List CO) : aw C (.reg ops) Q ⟨sl, bx, lv, nx⟩ = aops C nx 0 ops (bump (Q .normal) (nx + ops.length)) ⟨sl, bx, lv, nx⟩ := rfl
def dynG (b : Bool) (K : Prop) : Prop := b = true ∧ K
class KQ where
  k : Prop
def dg (b : Bool) [k : KQ] : Prop := dynG b k.k
theorem k_dg (b : Bool) (K : Prop) : dynG b K = @dg b ⟨K⟩ := rfl
theorem dg_go {b : Bool} {K : Prop} (h : b = true) (hk : K) : @dg b ⟨K⟩ := ⟨h, hk⟩
theorem r_regD (ops : List CO) (bad : List (Nat × Nat)) : aw C (.regD ops bad) Q ⟨sl, bx, lv, nx⟩ = dynG (dynOk ops bad nx sl) (aops C nx 0 ops (bump (Q .normal) (nx + ops.length)) ⟨sl, bx, lv, nx⟩) := rfl
theorem r_bump (k : S → Prop) (n : Nat) : bump k n ⟨sl, bx, lv, nx⟩ = k ⟨sl, bx, lv, n⟩ := rfl
theorem r_seq (a b : CCode) : aw C (.seq a b) Q ⟨sl, bx, lv, nx⟩ = aw C a (athen (aw C b Q) Q) ⟨sl, bx, lv, nx⟩ := rfl
theorem r_join (a b : CCode) : aw C (.join a b) Q ⟨sl, bx, lv, nx⟩ = aw C a (athen (down (aw C b Q)) Q) ⟨sl, bx, lv, nx⟩ := rfl
def condP (a b : Prop) : AV → Prop
  | .bool t => (t = true → a) ∧ (t = false → b)
  | _ => False
theorem r_cond (c : Opd) (a b : CCode) : aw C (.cond c a b) Q ⟨sl, bx, lv, nx⟩ = withV (opdA ⟨sl, bx, lv, nx⟩ c) (condP (aw C a Q ⟨sl, bx, lv, nx⟩) (aw C b Q ⟨sl, bx, lv, nx⟩)) := rfl
theorem s_cond (a b : Prop) (t : Bool) : condP a b (.bool t) = ((t = true → a) ∧ (t = false → b)) := rfl
theorem s_guard (w : Bool) (yes no : Prop) (t : Bool) (q : Option Nat) : guardP w yes no (some (.dat (.bool t) q)) = ((t = w → yes) ∧ (t = !w → no)) := rfl
theorem s_pick (a b : Option SV) (k : SV → Prop) (t : Bool) : pickP a b k (.bool t) = withV a fun u => withV b fun v => (t = true → k u) ∧ (t = false → k v) := rfl
def cd (c : AV) [k : KP] : Prop := condP k.yes k.no c
theorem k_cd (a b : Prop) (c : AV) : condP a b c = @cd c ⟨a, b⟩ := rfl
theorem r_condt (a b : Prop) : @cd (.bool true) ⟨a, b⟩ = a := by simp [cd, condP]
theorem r_condf (a b : Prop) : @cd (.bool false) ⟨a, b⟩ = b := by simp [cd, condP]
theorem r_block (id : Nat) (c : CCode) : aw C (.block id c) Q ⟨sl, bx, lv, nx⟩ = aw C c (ablock id Q) ⟨sl, bx, lv, nx⟩ := rfl
theorem r_exit (id : Nat) : aw C (.exit id) Q ⟨sl, bx, lv, nx⟩ = Q (.exit id) ⟨sl, bx, lv, nx⟩ := rfl
theorem r_ret : aw C .ret Q ⟨sl, bx, lv, nx⟩ = Q .ret ⟨sl, bx, lv, nx⟩ := rfl
theorem r_scope (l : Nat) (c r : CCode) : aw C (.scope l c r) Q ⟨sl, bx, lv, nx⟩ = aw C c (scopeQ l (aw C r (noGo Q)) Q) ⟨sl, bx, lv, nx⟩ := rfl
theorem r_label (l : Nat) : aw C (.label l) Q ⟨sl, bx, lv, nx⟩ = Q .normal ⟨sl, bx, lv, nx⟩ := rfl
theorem r_goto (l : Nat) : aw C (.goto l) Q ⟨sl, bx, lv, nx⟩ = Q (.goto l) ⟨sl, bx, lv, nx⟩ := rfl
theorem r_then4 (k : S → Prop) (s : S) (l : Nat) : athen k Q (.goto l) s = Q (.goto l) s := rfl
theorem r_blk5 (id : Nat) (s : S) (l : Nat) : ablock id Q (.goto l) s = Q (.goto l) s := rfl
theorem r_sc1 (l : Nat) (k : S → Prop) (s : S) : scopeQ l k Q .normal s = Q .normal s := rfl
theorem r_sc2 (l : Nat) (k : S → Prop) (s : S) : scopeQ l k Q .ret s = Q .ret s := rfl
theorem r_sc3 (l : Nat) (k : S → Prop) (s : S) (id : Nat) : scopeQ l k Q (.exit id) s = Q (.exit id) s := rfl
theorem r_sc4 (l : Nat) (k : S → Prop) (s : S) (l' : Nat) : scopeQ l k Q (.goto l') s = (l' = l ∧ k s) := rfl
theorem r_ng1 (s : S) : noGo Q .normal s = Q .normal s := rfl
theorem r_ng2 (s : S) : noGo Q .ret s = Q .ret s := rfl
theorem r_ng3 (s : S) (id : Nat) : noGo Q (.exit id) s = Q (.exit id) s := rfl
theorem r_then1 (k : S → Prop) (s : S) : athen k Q .normal s = k s := rfl
theorem r_then2 (k : S → Prop) (s : S) : athen k Q .ret s = Q .ret s := rfl
theorem r_then3 (k : S → Prop) (s : S) (id : Nat) : athen k Q (.exit id) s = Q (.exit id) s := rfl
theorem r_blk1 (id : Nat) (s : S) : ablock id Q .normal s = Q .normal s := rfl
theorem r_blk2 (id : Nat) (s : S) : ablock id Q .ret s = Q .ret s := rfl
theorem r_blk3 (id : Nat) (s : S) : ablock id Q (.exit id) s = Q .normal s := by simp [ablock]
theorem r_blk4 (id id' : Nat) (s : S) (h : (id' == id) = false) : ablock id Q (.exit id') s = Q (.exit id') s := by
  have : id' ≠ id := by simpa using h
  simp [ablock, this]
end


/-! ### what simp does not look into: continuations, code that is not yet run -/
section
variable {C : Con} {Q : Exit → S → Prop} {K : SV → S → Prop} {J : S → Prop}
@[congr] theorem g_withV {α : Type} {o o' : Option α} (k : α → Prop) (h : o = o') : withV o k = withV o' k := by rw [h]
@[congr] theorem g_aop (id : Nat) (o : COp) (s : S) : aop C id o K s = aop C id o K s := rfl
@[congr] theorem g_aops (b i : Nat) (l : List CO) (s : S) : aops C b i l J s = aops C b i l J s := rfl
@[congr] theorem g_aw (c : CCode) (s : S) : aw C c Q s = aw C c Q s := rfl
@[congr] theorem g_athen (e : Exit) (s : S) : athen J Q e s = athen J Q e s := rfl
@[congr] theorem g_scopeQ {J : S → Prop} (l : Nat) (e : Exit) (s : S) : scopeQ l J Q e s = scopeQ l J Q e s := rfl
@[congr] theorem g_noGo (e : Exit) (s : S) : noGo Q e s = noGo Q e s := rfl
@[congr] theorem g_ablock (id : Nat) (e : Exit) (s : S) : ablock id Q e s = ablock id Q e s := rfl
@[congr] theorem g_bump (n : Nat) (s : S) : bump J n s = bump J n s := rfl
@[congr] theorem g_down {s s' : S} (h : s = s') : down J s = down J s' := by rw [h]
@[congr] theorem g_guardP (w : Bool) (yes no : Prop) {g g' : Option SV} (h : g = g') : guardP w yes no g = guardP w yes no g' := by rw [h]
@[congr] theorem g_pickP {a a' b b' : Option SV} (k : SV → Prop) {c c' : AV} (ha : a = a') (hb : b = b') (hc : c = c') : pickP a b k c = pickP a' b' k c' := by rw [ha, hb, hc]
@[congr] theorem g_condP (a b : Prop) {c c' : AV} (h : c = c') : condP a b c = condP a b c' := by rw [h]
@[congr] theorem g_ldP (sz : Option Nat) (bx : List (Nat × Box)) (k : SV → Prop) {v v' : SV} (h : v = v') : ldP sz bx k v = ldP sz bx k v' := by rw [h]
@[congr] theorem g_faP (off : Nat) (k : SV → Prop) {v v' : SV} (h : v = v') : faP off k v = faP off k v' := by rw [h]
@[congr] theorem g_iaP {d d' : Nat} (k : SV → Prop) {v v' : SV} (h : v = v') (hd : d = d') : iaP d k v = iaP d' k v' := by rw [h, hd]
@[congr] theorem g_stP (sz : Nat) (bx : List (Nat × Box)) {u u' : Option SV} (k : List (Nat × Box) → Prop) {v v' : SV} (hu : u = u') (h : v = v') : stP sz bx u k v = stP sz bx u' k v' := by rw [h, hu]
@[congr] theorem g_stV (sz off : Nat) (x : Box) (k : Box → Prop) {v v' : SV} (h : v = v') : stV sz off x k v = stV sz off x k v' := by rw [h]
@[congr] theorem g_aggP (k : List AV → Prop) {v v' : AV} (h : v = v') : aggP k v = aggP k v' := by rw [h]
@[congr] theorem g_mmP (m : Bool) (k : AV → Prop) {v v' : List AV} (h : v = v') : mmP m k v = mmP m k v' := by rw [h]
@[congr] theorem g_ncP (k : SV → Prop) {v v' : SV} (h : v = v') : ncP k v = ncP k v' := by rw [h]
end

section
variable (k : IntKind) (x y : Int)
theorem b_add : binA .add (.int k x) (.int k y) = some (.int k (k.wrap (x + y))) := by simp [binA, intA]
theorem b_sub : binA .sub (.int k x) (.int k y) = some (.int k (k.wrap (x - y))) := by simp [binA, intA]
theorem b_mul : binA .mul (.int k x) (.int k y) = some (.int k (k.wrap (x * y))) := by simp [binA, intA]
theorem b_eql : binA .eql (.int k x) (.int k y) = some (.bool (x == y)) := by simp [binA, intA]
theorem b_neq : binA .neq (.int k x) (.int k y) = some (.bool (x != y)) := by simp [binA, intA]
theorem b_lss : binA .lss (.int k x) (.int k y) = some (.bool (decide (x < y))) := by simp [binA, intA]
theorem b_leq : binA .leq (.int k x) (.int k y) = some (.bool (decide (x ≤ y))) := by simp [binA, intA]
theorem b_gtr : binA .gtr (.int k x) (.int k y) = some (.bool (decide (y < x))) := by simp [binA, intA]
theorem b_geq : binA .geq (.int k x) (.int k y) = some (.bool (decide (y ≤ x))) := by simp [binA, intA]
def bAnd (k : IntKind) (x y : Int) : Int := k.wrap (BitVec.ofInt k.bits x &&& BitVec.ofInt k.bits y).toNat
def bOr (k : IntKind) (x y : Int) : Int := k.wrap (BitVec.ofInt k.bits x ||| BitVec.ofInt k.bits y).toNat
def bXor (k : IntKind) (x y : Int) : Int := k.wrap (BitVec.ofInt k.bits x ^^^ BitVec.ofInt k.bits y).toNat
def bAndNot (k : IntKind) (x y : Int) : Int := k.wrap (BitVec.ofInt k.bits x &&& ~~~BitVec.ofInt k.bits y).toNat
theorem b_and : binA .and (.int k x) (.int k y) = some (.int k (bAnd k x y)) := by simp [binA, intA, bitsA, bAnd]
theorem b_or : binA .or (.int k x) (.int k y) = some (.int k (bOr k x y)) := by simp [binA, intA, bitsA, bOr]
theorem b_xor : binA .xor (.int k x) (.int k y) = some (.int k (bXor k x y)) := by simp [binA, intA, bitsA, bXor]
theorem b_andNot : binA .andNot (.int k x) (.int k y) = some (.int k (bAndNot k x y)) := by simp [binA, intA, bitsA, bAndNot]
def optIf (c : Prop) [Decidable c] (v : AV) : Option AV := if c then some v else none
theorem w_optIf (c : Prop) [Decidable c] (v : AV) (K : AV → Prop) : @wv _ (optIf c v) ⟨K⟩ = (c ∧ K v) := by
  rw [← k_wv]; unfold optIf; split <;> simp_all
theorem b_quo : binA .quo (.int k x) (.int k y) = optIf (y ≠ 0) (.int k (k.wrap (x.tdiv y))) := by
  by_cases h : y = 0 <;> simp [binA, intA, optIf, h]
theorem b_rem : binA .rem (.int k x) (.int k y) = optIf (y ≠ 0) (.int k (x.tmod y)) := by
  by_cases h : y = 0 <;> simp [binA, intA, optIf, h]
theorem b_shl (k' : IntKind) : binA .shl (.int k x) (.int k' y) = optIf (0 ≤ y) (.int k (k.wrap (x * 2 ^ min y.toNat k.bits))) := by
  by_cases h : 0 ≤ y
  · have : ¬ y < 0 := by omega
    simp [binA, shiftA, optIf, h, this]
  · have : y < 0 := by omega
    simp [binA, shiftA, optIf, this]
theorem b_shr (k' : IntKind) : binA .shr (.int k x) (.int k' y) = optIf (0 ≤ y) (.int k (x.fdiv (2 ^ min y.toNat k.bits))) := by
  by_cases h : 0 ≤ y
  · have : ¬ y < 0 := by omega
    simp [binA, shiftA, optIf, h, this]
  · have : y < 0 := by omega
    simp [binA, shiftA, optIf, this]
theorem b_beq (x y : Bool) : bbA false (.bool x) (.bool y) = some (.bool (x == y)) := rfl
theorem b_bne (x y : Bool) : bbA true (.bool x) (.bool y) = some (.bool (x != y)) := rfl
theorem u_not (b : Bool) : unA .not (.bool b) = some (.bool !b) := rfl
theorem u_neg : unA .neg (.int k x) = some (.int k (k.wrap (0 - x))) := rfl
theorem l_nil : lenA .nils = some (.int .i64 0) := rfl
theorem l_sl (xs : List (List AV)) : lenA (.sl xs) = some (.int .i64 xs.length) := rfl
theorem c_ii (k' : IntKind) : cvIIA k (.int k' x) = some (.int k (k.wrap x)) := rfl
theorem c_if (k' : IntKind) (f : FloatKind) : cvIFA f (.int k' x) = some (.float f (f.nearest x)) := rfl
theorem e_tup (vs : List AV) (i : Nat) : extA (.tup vs) i = vs[i]? := rfl
theorem s_ok1 (cs : List AV) : stOk (.agg cs) none = true := rfl
theorem s_ok2 (q : Option Nat) : stOk (.int k x) q = true := rfl
theorem s_ok3 (b : Bool) (q : Option Nat) : stOk (.bool b) q = true := rfl
theorem s_ok4 (f : FloatKind) (n : Nat) (q : Option Nat) : stOk (.float f n) q = true := rfl
theorem s_ok5 (q : Option Nat) : stOk .nils q = true := rfl
theorem s_ok6 (xs : List (List AV)) (q : Option Nat) : stOk (.sl xs) q = true := rfl
theorem s_ok7 (b : ByteArray) (q : Option Nat) : stOk (.str b) q = true := rfl
theorem s_ok8 (f : Fn) (as bs : List AV) (q : Option Nat) : stOk (.fn f as bs) q = true := rfl
theorem s_ok10 (cs : List AV) (q : Option Nat) : stOk (.ref cs) q = true := rfl
theorem s_ok9 (q : Option Nat) : stOk .nilfn q = true := rfl
theorem cells_agg (cs : List AV) : AV.cells (.agg cs) = cs := rfl
theorem cells_int : AV.cells (.int k x) = [.int k x] := rfl
theorem cells_bool (b : Bool) : AV.cells (.bool b) = [.bool b] := rfl
theorem cells_float (f : FloatKind) (n : Nat) : AV.cells (.float f n) = [.float f n] := rfl
theorem cells_nils : AV.cells .nils = [.nils] := rfl
theorem cells_ref (cs : List AV) : AV.cells (.ref cs) = [.ref cs] := rfl
theorem cells_fn (f : Fn) (as bs : List AV) : AV.cells (.fn f as bs) = [.fn f as bs] := rfl
theorem cells_sl (xs : List (List AV)) : AV.cells (.sl xs) = [.sl xs] := rfl
theorem p_none (cs : List AV) (off : Nat) : partA cs off none = cs[off]? := rfl
theorem p_some (cs : List AV) (off n : Nat) (h : off + n ≤ cs.length) : partA cs off (some n) = some (.agg ((cs.drop off).take n)) := by simp [partA, h]
end

/-! ### a truth value that is not known: two cases -/
theorem gd_split {w : Bool} {yes no : Prop} {t : Bool} {q : Option Nat} (h1 : t = true → @gd w (some (.dat (.bool true) q)) ⟨yes, no⟩) (h2 : t = false → @gd w (some (.dat (.bool false) q)) ⟨yes, no⟩) : @gd w (some (.dat (.bool t) q)) ⟨yes, no⟩ := by
  cases t
  · exact h2 rfl
  · exact h1 rfl
theorem cd_split {a b : Prop} {t : Bool} (h1 : t = true → a) (h2 : t = false → b) : @cd (.bool t) ⟨a, b⟩ := by
  cases t
  · simpa [cd, condP] using h2 rfl
  · simpa [cd, condP] using h1 rfl
theorem pk_split {a b : Option SV} {k : SV → Prop} {t : Bool} (h1 : t = true → @pk a b (.bool true) ⟨k⟩) (h2 : t = false → @pk a b (.bool false) ⟨k⟩) : @pk a b (.bool t) ⟨k⟩ := by
  cases t
  · exact h2 rfl
  · exact h1 rfl

theorem r_putPs (p : Nat) (ps : List Nat) (x : AV) (xs : List AV) (s : S) : putPs (p :: ps) (x :: xs) s = putPs ps xs (s.put (some p) (.dat x none)) := rfl
theorem r_putPs0 (s : S) : putPs [] [] s = s := rfl
theorem r_cutS (wr : List Nat) (sl : List (Nat × SV)) (bx : List (Nat × Box)) (lv : List (Nat × Nat)) (nx : Nat) : cutS wr ⟨sl, bx, lv, nx⟩ = ⟨cutL wr sl, bx, lv, nx⟩ := rfl
theorem r_cutL0 (wr : List Nat) : cutL wr [] = [] := rfl
theorem r_cutL (wr : List Nat) (t : Nat) (v : SV) (r : List (Nat × SV)) : cutL wr ((t, v) :: r) = bif wr.contains t then cutL wr r else (t, v) :: cutL wr r := rfl
theorem r_rfQn (wr : List Nat) (F : S → Prop) (Q : Exit → S → Prop) (s : S) : rfQ wr F Q .normal s = down F (cutS wr s) := rfl
theorem r_rfQr (wr : List Nat) (F : S → Prop) (Q : Exit → S → Prop) (s : S) : rfQ wr F Q .ret s = Q .ret (cutS wr s) := rfl
theorem r_rfQx (wr : List Nat) (F : S → Prop) (Q : Exit → S → Prop) (id : Nat) (s : S) : rfQ wr F Q (.exit id) s = Q (.exit id) (cutS wr s) := rfl
theorem r_onlyN (K : S → Prop) (s : S) : onlyN K .normal s = K s := rfl
set_option linter.defProp false
/-- the rules in one -/
def EV0 :=
  And.intro @w_some (And.intro @w_none (And.intro @r_lk (And.intro @r_lkB (And.intro @r_lkN (And.intro @r_lkN0 (And.intro @r_setB (And.intro @r_delN (And.intro @r_delN0 (And.intro @r_put (And.intro @r_put0 (And.intro @r_opdt (And.intro @r_opdk (And.intro @r_datAr (And.intro @r_datA (And.intro @r_opdAt (And.intro @r_opdAk (And.intro @r_consO (And.intro @r_opdsA (And.intro @r_opdsA0 (And.intro @r_aops0 (And.intro @r_aops (And.intro @r_aopsg (And.intro @r_guardu (And.intro @r_guardt (And.intro @r_guardt' (And.intro @r_guardf (And.intro @r_guardf' (And.intro @r_mv (@r_pick)))))))))))))))))))))))))))))
def EV1 :=
  And.intro @r_pickt (And.intro @r_pickf (And.intro @r_alloc (And.intro @r_box (And.intro @r_ld (And.intro @r_ldp1 (And.intro @r_ldp2 (And.intro @r_ldr (And.intro @r_st (And.intro @r_stp (And.intro @r_stv (And.intro @r_tags0 (And.intro @r_tags1 (And.intro @r_fa (And.intro @r_fap (And.intro @r_far (And.intro @r_iaA (And.intro @r_iap (And.intro @r_iar (And.intro @r_idx (And.intro @r_iaS (And.intro @r_rows (And.intro @r_rows0 (And.intro @r_agg (And.intro @r_fld (And.intro @r_ixA (And.intro @r_bin (And.intro @r_eqc (And.intro @r_bb (@r_un)))))))))))))))))))))))))))))
def EV2 :=
  And.intro @r_cvII (And.intro @r_cvIF (And.intro @r_cvFI (And.intro @r_lenS (And.intro @r_xt (And.intro @r_xb (And.intro @r_xf (And.intro @r_xr (And.intro @r_slA (And.intro @r_slA1 (And.intro @r_slA2 (And.intro @r_ixB (And.intro @r_ixBs (And.intro @r_lenK (And.intro @r_call (And.intro @r_consPd (And.intro @r_consPr (And.intro @r_consPp (And.intro @r_svs0 (And.intro @r_svs (And.intro @r_cells0 (And.intro @r_consC (And.intro @r_cells (And.intro @r_nodup0 (And.intro @r_nodup (And.intro @r_setBs (And.intro @r_setBs0 (And.intro @r_callpK (And.intro @r_callp (@r_callv)))))))))))))))))))))))))))))
def EV3 :=
  And.intro @r_callvf (And.intro @r_ext (And.intro @r_frz1 (And.intro @r_frz2 (And.intro @r_frz3 (And.intro @r_frz4 (And.intro @r_frzL0 (And.intro @r_frzL (And.intro @r_delB0 (And.intro @r_delB (And.intro @r_frzs0 (And.intro @r_frzs (And.intro @r_fillP0 (And.intro @r_fillPs (And.intro @r_fillPn (And.intro @r_own0 (And.intro @r_own (And.intro @r_mkfK (And.intro @r_mkf (And.intro @r_mm (And.intro @r_mm2 (And.intro @r_mmI (And.intro @r_mmI' (And.intro @r_build (And.intro @r_partsA (And.intro @r_partsA0 (And.intro @r_bsl (And.intro @r_rowsA (And.intro @r_rowsA0 (@r_app)))))))))))))))))))))))))))))
def EV4 :=
  And.intro @r_slS (And.intro @r_bndL0 (And.intro @r_bndL (And.intro @r_bndH0 (And.intro @r_bndH (And.intro @r_idxO (And.intro @r_cut (And.intro @r_cut0 (And.intro @r_nc (And.intro @r_ncp (And.intro @r_ncr (And.intro @r_skip (And.intro @r_reg (And.intro @r_regD (And.intro @r_bump (And.intro @r_seq (And.intro @r_join (And.intro @r_cond (And.intro @r_condt (And.intro @r_condf (And.intro @r_block (And.intro @r_exit (And.intro @r_ret (And.intro @r_scope (And.intro @r_label (And.intro @r_goto (And.intro @r_then4 (And.intro @r_blk5 (And.intro @r_sc1 (@r_sc2)))))))))))))))))))))))))))))
def EV5 :=
  And.intro @r_sc3 (And.intro @r_sc4 (And.intro @r_ng1 (And.intro @r_ng2 (And.intro @r_ng3 (And.intro @r_then1 (And.intro @r_then2 (And.intro @r_then3 (And.intro @r_blk1 (And.intro @r_blk2 (And.intro @r_blk3 (And.intro @b_add (And.intro @b_sub (And.intro @b_mul (And.intro @b_eql (And.intro @b_neq (And.intro @b_lss (And.intro @b_leq (And.intro @b_gtr (And.intro @b_geq (And.intro @b_and (And.intro @b_or (And.intro @b_xor (And.intro @b_andNot (And.intro @w_optIf (And.intro @b_quo (And.intro @b_rem (And.intro @b_shl (And.intro @b_shr (@b_beq)))))))))))))))))))))))))))))
def EV6 :=
  And.intro @b_bne (And.intro @u_not (And.intro @u_neg (And.intro @l_nil (And.intro @l_sl (And.intro @c_ii (And.intro @c_if (And.intro @e_tup (And.intro @s_ok1 (And.intro @s_ok2 (And.intro @s_ok3 (And.intro @s_ok4 (And.intro @s_ok5 (And.intro @s_ok6 (And.intro @s_ok7 (And.intro @s_ok8 (And.intro @s_ok10 (And.intro @s_ok9 (And.intro @cells_agg (And.intro @cells_int (And.intro @cells_bool (And.intro @cells_float (And.intro @cells_nils (And.intro @cells_ref (And.intro @cells_fn (And.intro @cells_sl (And.intro @p_none (And.intro @r_putPs (And.intro @r_putPs0 (@r_cutS)))))))))))))))))))))))))))))
def EV7 :=
  And.intro @r_cutL0 (And.intro @r_cutL (And.intro @r_rfQn (And.intro @r_rfQr (And.intro @r_rfQx (@r_onlyN)))))
def EV :=
  And.intro @EV0 (And.intro @EV1 (And.intro @EV2 (And.intro @EV3 (And.intro @EV4 (And.intro @EV5 (And.intro @EV6 (@EV7)))))))
end Go.Eng
