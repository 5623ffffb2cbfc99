/- The engine and the library, part 3 of 6: what the proofs of this seat need of them. -/
import Derived.Test.YthghbmjeihahmaaPk2
namespace Go.Eng
set_option linter.unusedVariables false
set_option linter.unusedSimpArgs false
set_option linter.unnecessarySimpa false
open Go
class Kn (α : Type) where
  run : α → Prop
class Kn2 where
  run : SV → List (Nat × Nat) → Prop
def wv {α : Type} (o : Option α) [k : Kn α] : Prop := withV o k.run
theorem k_wv {α : Type} (o : Option α) (k : α → Prop) : withV o k = @wv α o ⟨k⟩ := rfl
theorem w_some {α : Type} (a : α) (k : α → Prop) : @wv α (some a) ⟨k⟩ = k a := rfl
theorem w_none {α : Type} (k : α → Prop) : @wv α none ⟨k⟩ = False := rfl
theorem wv_of {α : Type} {o : Option α} {k : α → Prop} (a : α) (h : o = some a) (hk : k a) : @wv α o ⟨k⟩ := by subst h; exact hk
def callP (C : Con) (f : Nat) (as : List AV) (id : Nat) (lv : List (Nat × Nat)) (k : SV → List (Nat × Nat) → Prop) : Prop :=
  ∃ r fr, C.c f as r fr ∧ k (.dat r (fr.map fun _ => id)) (match fr with | some e => (id, e) :: lv | none => lv)
def cl (C : Con) (f : Nat) (as : List AV) (id : Nat) (lv : List (Nat × Nat)) [k : Kn2] : Prop := callP C f as id lv k.run
theorem k_cl (C : Con) (f : Nat) (as : List AV) (id : Nat) (lv : List (Nat × Nat)) (k : SV → List (Nat × Nat) → Prop) : callP C f as id lv k = @cl C f as id lv ⟨k⟩ := rfl
@[congr] theorem g_callP {C : Con} (f : Nat) {as as' : List AV} (id : Nat) (lv : List (Nat × Nat)) (k : SV → List (Nat × Nat) → Prop) (h : as = as') : callP C f as id lv k = callP C f as' id lv k := by rw [h]
theorem call_is {C : Con} {f : Nat} {as : List AV} {id : Nat} {lv : List (Nat × Nat)} {k : SV → List (Nat × Nat) → Prop} {r : AV} (h : C.c f as r none) (hk : k (.dat r none) lv) : @cl C f as id lv ⟨k⟩ := ⟨r, none, h, hk⟩
theorem call_own {C : Con} {f : Nat} {as : List AV} {id : Nat} {lv : List (Nat × Nat)} {k : SV → List (Nat × Nat) → Prop} {r : AV} {e : Nat} (h : C.c f as r (some e)) (hk : k (.dat r (some id)) ((id, e) :: lv)) : @cl C f as id lv ⟨k⟩ := ⟨r, some e, h, hk⟩
class Kn3 where
  run : SV → List (Nat × Box) → List (Nat × Nat) → Prop
def callPP (C : Con) (f : Nat) (css : List (List AV)) (as : List (Option AV)) (ids : List Nat) (id : Nat) (bx : List (Nat × Box)) (lv : List (Nat × Nat)) (k : SV → List (Nat × Box) → List (Nat × Nat) → Prop) : Prop :=
  ∃ r fr css', C.p f css as r fr css' ∧ k (.dat r (fr.map fun _ => id)) (setBs ids css' bx) (match fr with | some e => (id, e) :: lv | none => lv)
def clp (C : Con) (f : Nat) (css : List (List AV)) (as : List (Option AV)) (ids : List Nat) (id : Nat) (bx : List (Nat × Box)) (lv : List (Nat × Nat)) [k : Kn3] : Prop := callPP C f css as ids id bx lv k.run
theorem k_clp (C : Con) (f : Nat) (css : List (List AV)) (as : List (Option AV)) (ids : List Nat) (id : Nat) (bx : List (Nat × Box)) (lv : List (Nat × Nat)) (k : SV → List (Nat × Box) → List (Nat × Nat) → Prop) : callPP C f css as ids id bx lv k = @clp C f css as ids id bx lv ⟨k⟩ := rfl
theorem callp_is {C : Con} {f : Nat} {css : List (List AV)} {as : List (Option AV)} {ids : List Nat} {id : Nat} {bx : List (Nat × Box)} {lv : List (Nat × Nat)} {k : SV → List (Nat × Box) → List (Nat × Nat) → Prop} {r : AV} {css' : List (List AV)} (h : C.p f css as r none css') (hk : k (.dat r none) (setBs ids css' bx) lv) : @clp C f css as ids id bx lv ⟨k⟩ := ⟨r, none, css', h, hk⟩
section
variable {C : Con} {Q : Exit → S → Prop} {K : SV → S → Prop} {J : S → Prop}
variable (sl : List (Nat × SV)) (bx : List (Nat × Box)) (lv : List (Nat × Nat)) (nx : Nat)
theorem r_lk (n m : Nat) (v : SV) (r : List (Nat × SV)) : lk n ((m, v) :: r) = bif n == m then some v else lk n r := rfl
theorem r_lkB (n m : Nat) (v : Box) (r : List (Nat × Box)) : lkB n ((m, v) :: r) = bif n == m then some v else lkB n r := rfl
theorem r_lkN (n m : Nat) (v : Nat) (r : List (Nat × Nat)) : lkN n ((m, v) :: r) = bif n == m then some v else lkN n r := rfl
theorem r_lkN0 (n : Nat) : lkN n [] = none := rfl
theorem r_setB (n m : Nat) (b v : Box) (r : List (Nat × Box)) : setB n b ((m, v) :: r) = bif n == m then (m, b) :: r else (m, v) :: setB n b r := rfl
theorem r_delN (n m : Nat) (v : Nat) (r : List (Nat × Nat)) : delN n ((m, v) :: r) = bif n == m then delN n r else (m, v) :: delN n r := rfl
theorem r_delN0 (n : Nat) : delN n [] = [] := rfl
theorem r_put (d : Nat) (v : SV) : S.put ⟨sl, bx, lv, nx⟩ (some d) v = ⟨(d, v) :: sl, bx, lv, nx⟩ := rfl
theorem r_put0 (v : SV) : S.put ⟨sl, bx, lv, nx⟩ none v = ⟨sl, bx, lv, nx⟩ := rfl
theorem r_opdt (n : Nat) : opd ⟨sl, bx, lv, nx⟩ (.t n) = lk n sl := rfl
theorem r_opdk (v : AV) : opd ⟨sl, bx, lv, nx⟩ (.k v) = some (.dat v none) := rfl
def datA : Option SV → Option AV
  | some (.dat a _) => some a
  | some (.rp cs) => some (.ref cs)
  | _ => none
theorem r_datAr (cs : List AV) : datA (some (.rp cs)) = some (.ref cs) := rfl
theorem r_datA (a : AV) (q : Option Nat) : datA (some (.dat a q)) = some a := rfl
theorem r_opdAt (n : Nat) : opdA ⟨sl, bx, lv, nx⟩ (.t n) = datA (lk n sl) := rfl
theorem r_opdAk (v : AV) : opdA ⟨sl, bx, lv, nx⟩ (.k v) = some v := rfl
def consO : Option AV → Option (List AV) → Option (List AV)
  | some a, some as => some (a :: as)
  | _, _ => none
theorem r_consO (a : AV) (as : List AV) : consO (some a) (some as) = some (a :: as) := rfl
theorem r_opdsA (x : Opd) (r : List Opd) : opdsA ⟨sl, bx, lv, nx⟩ (x :: r) = consO (opdA ⟨sl, bx, lv, nx⟩ x) (opdsA ⟨sl, bx, lv, nx⟩ r) := rfl
theorem r_opdsA0 : opdsA ⟨sl, bx, lv, nx⟩ [] = some [] := rfl
theorem r_aops0 (b i : Nat) : aops C b i [] J ⟨sl, bx, lv, nx⟩ = J ⟨sl, bx, lv, nx⟩ := rfl
theorem r_aops (b i : Nat) (d : Option Nat) (o : COp) (r : List CO) : aops C b i (⟨d, o, none⟩ :: r) J ⟨sl, bx, lv, nx⟩ = aop C (b + i) o (fun v s' => aops C b (i + 1) r J (s'.put d v)) ⟨sl, bx, lv, nx⟩ := rfl
def guardP (want : Bool) (yes no : Prop) : Option SV → Prop
  | some (.dat (.bool b) _) => (b = want → yes) ∧ (b = !want → no)
  | some .undef => no
  | _ => False
theorem r_aopsg (b i t : Nat) (w : Bool) (d : Option Nat) (o : COp) (r : List CO) : aops C b i (⟨d, o, some (t, w)⟩ :: r) J ⟨sl, bx, lv, nx⟩ =
    guardP w (aop C (b + i) o (fun v s' => aops C b (i + 1) r J (s'.put d v)) ⟨sl, bx, lv, nx⟩) (aops C b (i + 1) r J (S.put ⟨sl, bx, lv, nx⟩ d .undef)) (lk t sl) := by
  simp only [aops, aguard, guardP]
  cases lk t sl with
  | none => rfl
  | some v => cases v with
    | dat a q => cases a <;> rfl
    | ptr => rfl
    | rp => rfl
    | undef => rfl
class KP where
  yes : Prop
  no : Prop
def gd (w : Bool) (v : Option SV) [k : KP] : Prop := guardP w k.yes k.no v
theorem k_gd (w : Bool) (yes no : Prop) (v : Option SV) : guardP w yes no v = @gd w v ⟨yes, no⟩ := rfl
theorem r_guardu (w : Bool) (yes no : Prop) : @gd w (some .undef) ⟨yes, no⟩ = no := rfl
theorem r_guardt (yes no : Prop) (q : Option Nat) : @gd true (some (.dat (.bool true) q)) ⟨yes, no⟩ = yes := by simp [gd, guardP]
theorem r_guardt' (yes no : Prop) (q : Option Nat) : @gd true (some (.dat (.bool false) q)) ⟨yes, no⟩ = no := by simp [gd, guardP]
theorem r_guardf (yes no : Prop) (q : Option Nat) : @gd false (some (.dat (.bool false) q)) ⟨yes, no⟩ = yes := by simp [gd, guardP]
theorem r_guardf' (yes no : Prop) (q : Option Nat) : @gd false (some (.dat (.bool true) q)) ⟨yes, no⟩ = no := by simp [gd, guardP]
theorem r_mv (id : Nat) (x : Opd) : aop C id (.mv x) K ⟨sl, bx, lv, nx⟩ = withV (opd ⟨sl, bx, lv, nx⟩ x) fun v => K v ⟨sl, bx, lv, nx⟩ := rfl
def pickP (a b : Option SV) (k : SV → Prop) : AV → Prop
  | .bool t => withV a fun u => withV b fun v => (t = true → k u) ∧ (t = false → k v)
  | _ => False
theorem r_pick (id : Nat) (c a b : Opd) : aop C id (.pick c a b) K ⟨sl, bx, lv, nx⟩ = withV (opdA ⟨sl, bx, lv, nx⟩ c) (pickP (opd ⟨sl, bx, lv, nx⟩ a) (opd ⟨sl, bx, lv, nx⟩ b) fun v => K v ⟨sl, bx, lv, nx⟩) := rfl
def pk (a b : Option SV) (c : AV) [k : Kn SV] : Prop := pickP a b k.run c
theorem k_pk (a b : Option SV) (k : SV → Prop) (c : AV) : pickP a b k c = @pk a b c ⟨k⟩ := rfl
theorem r_pickt (k : SV → Prop) (b : Option SV) (v : SV) : @pk (some v) b (.bool true) ⟨k⟩ = withV b fun _ => k v := by simp [pk, pickP]
theorem r_pickf (k : SV → Prop) (a : Option SV) (v : SV) : @pk a (some v) (.bool false) ⟨k⟩ = withV a fun _ => k v := by
  cases a <;> simp [pk, pickP]
theorem r_alloc (id : Nat) (cs : List AV) : aop C id (.alloc cs) K ⟨sl, bx, lv, nx⟩ = K (.ptr id 0) ⟨sl, (id, ⟨cs, []⟩) :: bx, lv, nx⟩ := rfl
theorem r_box (id : Nat) (x : Opd) : aop C id (.box x) K ⟨sl, bx, lv, nx⟩ = withV (opdA ⟨sl, bx, lv, nx⟩ x) fun a => stOk a none = true ∧ K (.ptr id 0) ⟨sl, (id, ⟨a.cells, []⟩) :: bx, lv, nx⟩ := rfl
def ldP (sz : Option Nat) (bx : List (Nat × Box)) (k : SV → Prop) : SV → Prop
  | .ptr b off => withV (lkB b bx) fun x => withV (partA x.cells off sz) fun a => k (.dat a (match sz with | none => lkN off x.tags | some _ => none))
  | .rp cs => withV (partA cs 0 sz) fun a => k (.dat a none)
  | _ => False
theorem r_ld (id : Nat) (x : Opd) (sz : Option Nat) : aop C id (.ld x sz) K ⟨sl, bx, lv, nx⟩ = withV (opd ⟨sl, bx, lv, nx⟩ x) (ldP sz bx fun v => K v ⟨sl, bx, lv, nx⟩) := rfl
theorem r_ldp1 (k : SV → Prop) (b off : Nat) : ldP none bx k (.ptr b off) = withV (lkB b bx) fun x => withV (partA x.cells off none) fun a => k (.dat a (lkN off x.tags)) := rfl
theorem r_ldp2 (k : SV → Prop) (b off n : Nat) : ldP (some n) bx k (.ptr b off) = withV (lkB b bx) fun x => withV (partA x.cells off (some n)) fun a => k (.dat a none) := rfl
theorem r_ldr (k : SV → Prop) (sz : Option Nat) (cs : List AV) : ldP sz bx k (.rp cs) = withV (partA cs 0 sz) fun a => k (.dat a none) := rfl
def stTags (off sz : Nat) (q : Option Nat) (tags : List (Nat × Nat)) : List (Nat × Nat) :=
  match q with
  | some q => (off, q) :: tags.filter (fun p => p.1 < off || off + sz ≤ p.1)
  | none => tags.filter (fun p => p.1 < off || off + sz ≤ p.1)
def stV (sz off : Nat) (x : Box) (k : Box → Prop) : SV → Prop
  | .dat a q => stOk a q = true ∧ a.cells.length = sz ∧ off + sz ≤ x.cells.length ∧ k ⟨setCells x.cells off a.cells, stTags off sz q x.tags⟩
  | _ => False
def stP (sz : Nat) (bx : List (Nat × Box)) (v : Option SV) (k : List (Nat × Box) → Prop) : SV → Prop
  | .ptr b off => withV (lkB b bx) fun x => withV v (stV sz off x fun y => k (setB b y bx))
  | _ => False
theorem r_st (id : Nat) (x v : Opd) (sz : Nat) : aop C id (.st x v sz) K ⟨sl, bx, lv, nx⟩ = withV (opd ⟨sl, bx, lv, nx⟩ x) (stP sz bx (opd ⟨sl, bx, lv, nx⟩ v) fun b => K .undef ⟨sl, b, lv, nx⟩) := by
  show withV _ _ = withV _ _
  cases hx : opd ⟨sl, bx, lv, nx⟩ x with
  | none => rfl
  | some p => cases p with
    | ptr b off =>
      show withV _ _ = withV _ _
      cases hb : lkB b bx with
      | none => rfl
      | some y =>
        show withV _ _ = withV _ _
        cases hv : opd ⟨sl, bx, lv, nx⟩ v with
        | none => rfl
        | some u => cases u with
          | dat a q => cases q <;> rfl
          | _ => rfl
    | _ => rfl
theorem r_stp (sz b off : Nat) (v : Option SV) (k : List (Nat × Box) → Prop) : stP sz bx v k (.ptr b off) = withV (lkB b bx) fun x => withV v (stV sz off x fun y => k (setB b y bx)) := rfl
theorem r_stv (sz off : Nat) (cs : List AV) (tg : List (Nat × Nat)) (k : Box → Prop) (a : AV) (q : Option Nat) : stV sz off ⟨cs, tg⟩ k (.dat a q) = (stOk a q = true ∧ a.cells.length = sz ∧ off + sz ≤ cs.length ∧ k ⟨setCells cs off a.cells, stTags off sz q tg⟩) := rfl
theorem r_tags0 (off sz : Nat) : stTags off sz none [] = [] := rfl
theorem r_tags1 (off sz q : Nat) : stTags off sz (some q) [] = [(off, q)] := rfl
def faP (off : Nat) (k : SV → Prop) : SV → Prop
  | .ptr b o => k (.ptr b (o + off))
  | .rp cs => k (.rp (cs.drop off))
  | _ => False
theorem r_fa (id : Nat) (x : Opd) (off : Nat) : aop C id (.fa x off) K ⟨sl, bx, lv, nx⟩ = withV (opd ⟨sl, bx, lv, nx⟩ x) (faP off fun v => K v ⟨sl, bx, lv, nx⟩) := rfl
theorem r_fap (k : SV → Prop) (b o off : Nat) : faP off k (.ptr b o) = k (.ptr b (o + off)) := rfl
theorem r_far (k : SV → Prop) (cs : List AV) (off : Nat) : faP off k (.rp cs) = k (.rp (cs.drop off)) := rfl
def iaP (d : Nat) (k : SV → Prop) : SV → Prop
  | .ptr b o => k (.ptr b (o + d))
  | .rp cs => k (.rp (cs.drop d))
  | _ => False
theorem r_iaA (id : Nat) (x i : Opd) (n z : Nat) : aop C id (.iaA x i n z) K ⟨sl, bx, lv, nx⟩ = withV (opd ⟨sl, bx, lv, nx⟩ x) fun p => withV (opdA ⟨sl, bx, lv, nx⟩ i) fun a => withV (idxOf a) fun i => (0 ≤ i ∧ i < n) ∧ iaP (i.toNat * z) (fun v => K v ⟨sl, bx, lv, nx⟩) p := rfl
theorem r_iap (k : SV → Prop) (b o d : Nat) : iaP d k (.ptr b o) = k (.ptr b (o + d)) := rfl
theorem r_iar (k : SV → Prop) (cs : List AV) (d : Nat) : iaP d k (.rp cs) = k (.rp (cs.drop d)) := rfl
theorem r_idx (k : IntKind) (i : Int) : idxOf (.int k i) = some i := rfl
theorem r_iaS (id : Nat) (x i : Opd) (z : Nat) : aop C id (.iaS x i z) K ⟨sl, bx, lv, nx⟩ = withV (opdA ⟨sl, bx, lv, nx⟩ x) fun l => withV (opdA ⟨sl, bx, lv, nx⟩ i) fun a => withV (idxOf a) fun i => withV (rowsOf l) fun xs => (0 ≤ i ∧ i < xs.length) ∧ withV (xs[i.toNat]?) fun row => row.length = z ∧ K (.rp row) ⟨sl, bx, lv, nx⟩ := rfl
theorem r_rows (xs : List (List AV)) : rowsOf (.sl xs) = some xs := rfl
theorem r_rows0 : rowsOf .nils = some [] := rfl
def aggP (k : List AV → Prop) : AV → Prop
  | .agg cs => k cs
  | _ => False
theorem r_agg (k : List AV → Prop) (cs : List AV) : aggP k (.agg cs) = k cs := rfl
theorem r_fld (id : Nat) (x : Opd) (off : Nat) (sz : Option Nat) : aop C id (.fld x off sz) K ⟨sl, bx, lv, nx⟩ = withV (opdA ⟨sl, bx, lv, nx⟩ x) (aggP fun cs => withV (partA cs off sz) fun a => K (.dat a none) ⟨sl, bx, lv, nx⟩) := rfl
theorem r_ixA (id : Nat) (x i : Opd) (n z : Nat) (sz : Option Nat) : aop C id (.ixA x i n z sz) K ⟨sl, bx, lv, nx⟩ = withV (opdA ⟨sl, bx, lv, nx⟩ x) (aggP fun cs => withV (opdA ⟨sl, bx, lv, nx⟩ i) fun a => withV (idxOf a) fun i => (0 ≤ i ∧ i < n) ∧ withV (partA cs (i.toNat * z) sz) fun a => K (.dat a none) ⟨sl, bx, lv, nx⟩) := rfl
theorem r_bin (id : Nat) (op : BinOp) (x y : Opd) : aop C id (.bin op x y) K ⟨sl, bx, lv, nx⟩ = withV (opdA ⟨sl, bx, lv, nx⟩ x) fun a => withV (opdA ⟨sl, bx, lv, nx⟩ y) fun b => withV (binA op a b) fun v => K (.dat v none) ⟨sl, bx, lv, nx⟩ := rfl
theorem r_eqc (id : Nat) (ks : List CK) (neg : Bool) (x y : Opd) : aop C id (.eqc ks neg x y) K ⟨sl, bx, lv, nx⟩ = withV (opdA ⟨sl, bx, lv, nx⟩ x) (aggP fun as => withV (opdA ⟨sl, bx, lv, nx⟩ y) (aggP fun bs => withV (cellsEq ks as bs) fun e => K (.dat (.bool (e != neg)) none) ⟨sl, bx, lv, nx⟩)) := rfl
theorem r_bb (id : Nat) (neg : Bool) (x y : Opd) : aop C id (.bb neg x y) K ⟨sl, bx, lv, nx⟩ = withV (opdA ⟨sl, bx, lv, nx⟩ x) fun a => withV (opdA ⟨sl, bx, lv, nx⟩ y) fun b => withV (bbA neg a b) fun v => K (.dat v none) ⟨sl, bx, lv, nx⟩ := rfl
theorem r_un (id : Nat) (op : UnOp) (x : Opd) : aop C id (.un op x) K ⟨sl, bx, lv, nx⟩ = withV (opdA ⟨sl, bx, lv, nx⟩ x) fun a => withV (unA op a) fun v => K (.dat v none) ⟨sl, bx, lv, nx⟩ := rfl
theorem r_cvII (id : Nat) (k : IntKind) (x : Opd) : aop C id (.cvII k x) K ⟨sl, bx, lv, nx⟩ = withV (opdA ⟨sl, bx, lv, nx⟩ x) fun a => withV (cvIIA k a) fun v => K (.dat v none) ⟨sl, bx, lv, nx⟩ := rfl
theorem r_cvIF (id : Nat) (k : FloatKind) (x : Opd) : aop C id (.cvIF k x) K ⟨sl, bx, lv, nx⟩ = withV (opdA ⟨sl, bx, lv, nx⟩ x) fun a => withV (cvIFA k a) fun v => K (.dat v none) ⟨sl, bx, lv, nx⟩ := rfl
theorem r_cvFI (id : Nat) (k : IntKind) (x : Opd) : aop C id (.cvFI k x) K ⟨sl, bx, lv, nx⟩ = withV (opdA ⟨sl, bx, lv, nx⟩ x) fun a => withV (cvFIA k a) fun v => K (.dat v none) ⟨sl, bx, lv, nx⟩ := rfl
theorem r_lenS (id : Nat) (x : Opd) : aop C id (.lenS x) K ⟨sl, bx, lv, nx⟩ = withV (opdA ⟨sl, bx, lv, nx⟩ x) fun a => withV (lenA a) fun v => K (.dat v none) ⟨sl, bx, lv, nx⟩ := rfl
theorem r_xt (id : Nat) (e : Xt) (x : Opd) : aop C id (.xt e x) K ⟨sl, bx, lv, nx⟩ = withV (opdA ⟨sl, bx, lv, nx⟩ x) fun a => withV (xtA e a) fun v => K (.dat v none) ⟨sl, bx, lv, nx⟩ := rfl
theorem r_xb (b : Nat) : xtA .fbits (.float .f64 b) = some (.int .u64 b) := rfl
theorem r_xf (n : Int) : xtA .ffrom (.int .u64 n) = some (.float .f64 n.toNat) := rfl
theorem r_xr (b : Nat) : xtA .rte (.float .f64 b) = rteA b := rfl
def slAP (n z : Nat) (s : S) (k : SV → S → Prop) : SV → Prop
  | .rp cs => n * z ≤ cs.length ∧ k (.dat (.sl (chunkA z n cs)) none) s
  | .ptr b off => 4 ≤ b ∧ withV (lkB b s.boxes) fun bx => n * z ≤ (bx.cells.drop off).length ∧ k (.dat (.sl (chunkA z n (bx.cells.drop off))) none) (frzs [b] [bx.cells] s)
  | _ => False
theorem r_slA (id : Nat) (x : Opd) (n z : Nat) : aop C id (.slA x n z) K ⟨sl, bx, lv, nx⟩ = withV (opd ⟨sl, bx, lv, nx⟩ x) (slAP n z ⟨sl, bx, lv, nx⟩ K) := by
  show withV _ _ = withV _ _
  cases opd ⟨sl, bx, lv, nx⟩ x with
  | none => rfl
  | some v => cases v <;> rfl
theorem r_slA1 (n z : Nat) (s : S) (k : SV → S → Prop) (cs : List AV) : slAP n z s k (.rp cs) = (n * z ≤ cs.length ∧ k (.dat (.sl (chunkA z n cs)) none) s) := rfl
theorem r_slA2 (n z : Nat) (k : SV → S → Prop) (b off : Nat) : slAP n z ⟨sl, bx, lv, nx⟩ k (.ptr b off) = (4 ≤ b ∧ withV (lkB b bx) fun y => n * z ≤ (y.cells.drop off).length ∧ k (.dat (.sl (chunkA z n (y.cells.drop off))) none) (frzs [b] [y.cells] ⟨sl, bx, lv, nx⟩)) := rfl
def ixBP (s : S) (i : Opd) (k : AV → Prop) : AV → Prop
  | .str b => withV (opdA s i) fun a => withV (idxOf a) fun j => withV (byteA b j) k
  | _ => False
theorem r_ixB (id : Nat) (x i : Opd) : aop C id (.ixB x i) K ⟨sl, bx, lv, nx⟩ = withV (opdA ⟨sl, bx, lv, nx⟩ x) (ixBP ⟨sl, bx, lv, nx⟩ i fun v => K (.dat v none) ⟨sl, bx, lv, nx⟩) := by
  show withV _ _ = withV _ _
  cases opdA ⟨sl, bx, lv, nx⟩ x with
  | none => rfl
  | some v => cases v <;> rfl
theorem r_ixBs (s : S) (i : Opd) (k : AV → Prop) (b : ByteArray) : ixBP s i k (.str b) = withV (opdA s i) fun a => withV (idxOf a) fun j => withV (byteA b j) k := rfl
theorem r_lenK (id n : Nat) : aop C id (.lenK n) K ⟨sl, bx, lv, nx⟩ = K (.dat (.int .i64 n) none) ⟨sl, bx, lv, nx⟩ := rfl
theorem r_call (id f : Nat) (args : List Opd) : aop C id (.call f args) K ⟨sl, bx, lv, nx⟩ = withV (opdsA ⟨sl, bx, lv, nx⟩ args) fun as => callP C f as id lv fun v l => K v ⟨sl, bx, l, nx⟩ := rfl
def callvP (C : Con) (id : Nat) (lv : List (Nat × Nat)) (as : List AV) (k : SV → List (Nat × Nat) → Prop) : AV → Prop
  | .fn (.func f) first caps => callP C f (first ++ as ++ caps) id lv k
  | _ => False
@[congr] theorem g_callvP (id : Nat) (lv : List (Nat × Nat)) (as : List AV) (k : SV → List (Nat × Nat) → Prop) {v v' : AV} (h : v = v') : callvP C id lv as k v = callvP C id lv as k v' := by rw [h]
def consP : Option SV → Option (List (Option AV) × List Nat) → Option (List (Option AV) × List Nat)
  | some (.dat a _), some p => some (some a :: p.1, p.2)
  | some (.rp cs), some p => some (some (.ref cs) :: p.1, p.2)
  | some (.ptr b 0), some p => some (none :: p.1, b :: p.2)
  | _, _ => none
theorem r_consPd (a : AV) (q : Option Nat) (p : List (Option AV) × List Nat) : consP (some (.dat a q)) (some p) = some (some a :: p.1, p.2) := rfl
theorem r_consPr (cs : List AV) (p : List (Option AV) × List Nat) : consP (some (.rp cs)) (some p) = some (some (.ref cs) :: p.1, p.2) := rfl
theorem r_consPp (b : Nat) (p : List (Option AV) × List Nat) : consP (some (.ptr b 0)) (some p) = some (none :: p.1, b :: p.2) := rfl
theorem r_svs0 : svsA ⟨sl, bx, lv, nx⟩ [] = some ([], []) := rfl
theorem r_svs (x : Opd) (r : List Opd) : svsA ⟨sl, bx, lv, nx⟩ (x :: r) = consP (opd ⟨sl, bx, lv, nx⟩ x) (svsA ⟨sl, bx, lv, nx⟩ r) := by
  show (match opd ⟨sl, bx, lv, nx⟩ x, svsA ⟨sl, bx, lv, nx⟩ r with
    | some (.dat a _), some (as, bs) => some (some a :: as, bs)
    | some (.rp cs), some (as, bs) => some (some (.ref cs) :: as, bs)
    | some (.ptr b 0), some (as, bs) => some (none :: as, b :: bs)
    | _, _ => none) = _
  unfold consP
  cases opd ⟨sl, bx, lv, nx⟩ x with
  | none => rfl
  | some v =>
    cases svsA ⟨sl, bx, lv, nx⟩ r with
    | none => cases v with
      | ptr b o => cases o <;> rfl
      | _ => rfl
    | some p => cases v with
      | ptr b o => cases o <;> rfl
      | _ => rfl
theorem r_cells0 : cellsA bx [] = some [] := rfl
def consC : Option Box → Option (List (List AV)) → Option (List (List AV))
  | some x, some css => some (x.cells :: css)
  | _, _ => none
theorem r_consC (x : Box) (css : List (List AV)) : consC (some x) (some css) = some (x.cells :: css) := rfl
theorem r_cells (b : Nat) (bs : List Nat) : cellsA bx (b :: bs) = consC (lkB b bx) (cellsA bx bs) := rfl
theorem r_nodup0 : nodupB [] = true := rfl
theorem r_nodup (b : Nat) (bs : List Nat) : nodupB (b :: bs) = (!bs.contains b && nodupB bs) := rfl
theorem r_setBs (b : Nat) (bs : List Nat) (cs : List AV) (css : List (List AV)) : setBs (b :: bs) (cs :: css) bx = setBs bs css (setB b ⟨cs, []⟩ bx) := rfl
theorem r_setBs0 (css : List (List AV)) : setBs [] css bx = bx := rfl
def callpK (C : Con) (f id : Nat) (bx : List (Nat × Box)) (lv : List (Nat × Nat)) (k : SV → List (Nat × Box) → List (Nat × Nat) → Prop) (p : List (Option AV) × List Nat) : Prop :=
  nodupB p.2 = true ∧ withV (cellsA bx p.2) fun css => callPP C f css p.1 p.2 id bx lv k
theorem r_callpK (f id : Nat) (as : List (Option AV)) (ids : List Nat) (k : SV → List (Nat × Box) → List (Nat × Nat) → Prop) : callpK C f id bx lv k (as, ids) = (nodupB ids = true ∧ withV (cellsA bx ids) fun css => callPP C f css as ids id bx lv k) := rfl
theorem r_callp (id f : Nat) (args : List Opd) : aop C id (.callp f args) K ⟨sl, bx, lv, nx⟩ = withV (svsA ⟨sl, bx, lv, nx⟩ args) (callpK C f id bx lv fun v b l => K v ⟨sl, b, l, nx⟩) := rfl
theorem r_callv (id : Nat) (g : Opd) (args : List Opd) : aop C id (.callv g args) K ⟨sl, bx, lv, nx⟩ = withV (opdA ⟨sl, bx, lv, nx⟩ g) fun a => withV (opdsA ⟨sl, bx, lv, nx⟩ args) fun as => callvP C id lv as (fun v l => K v ⟨sl, bx, l, nx⟩) a := by
  show withV _ _ = withV _ _
  cases hx : opdA ⟨sl, bx, lv, nx⟩ g with
  | none => rfl
  | some a =>
    show (match a with | .fn (.func f) first caps => _ | _ => False) = _
    cases hy : opdsA ⟨sl, bx, lv, nx⟩ args with
    | none => cases a <;> first | rfl | (rename_i f _ _; cases f <;> rfl)
    | some as => cases a <;> first | rfl | (rename_i f _ _; cases f <;> rfl)
theorem r_callvf (id f : Nat) (as first caps : List AV) (k : SV → List (Nat × Nat) → Prop) : callvP C id lv as k (.fn (.func f) first caps) = callP C f (first ++ as ++ caps) id lv k := rfl
def callvpP (C : Con) (id : Nat) (bx : List (Nat × Box)) (lv : List (Nat × Nat)) (p : List (Option AV) × List Nat) (k : SV → List (Nat × Box) → List (Nat × Nat) → Prop) : AV → Prop
  | .fn (.func f) [] [] => callpK C f id bx lv k p
  | _ => False
@[congr] theorem g_callvpP (id : Nat) (bx : List (Nat × Box)) (lv : List (Nat × Nat)) {p p' : List (Option AV) × List Nat} (k : SV → List (Nat × Box) → List (Nat × Nat) → Prop) {v v' : AV} (h1 : p = p') (h : v = v') : callvpP C id bx lv p k v = callvpP C id bx lv p' k v' := by rw [h, h1]
theorem r_callvp (id : Nat) (g : Opd) (args : List Opd) : aop C id (.callvp g args) K ⟨sl, bx, lv, nx⟩ = withV (opdA ⟨sl, bx, lv, nx⟩ g) fun a => withV (svsA ⟨sl, bx, lv, nx⟩ args) fun p => callvpP C id bx lv p (fun v b l => K v ⟨sl, b, l, nx⟩) a := by
  show withV _ _ = withV _ _
  cases hx : opdA ⟨sl, bx, lv, nx⟩ g with
  | none => rfl
  | some a =>
    show (match a with | .fn (.func f) [] [] => _ | _ => False) = _
    cases hy : svsA ⟨sl, bx, lv, nx⟩ args with
    | none => cases a <;> first | rfl | (rename_i f x y; cases f <;> first | rfl | (cases x <;> first | rfl | (cases y <;> rfl)))
    | some as => cases a <;> first | rfl | (rename_i f x y; cases f <;> first | rfl | (cases x <;> first | rfl | (cases y <;> rfl)))
theorem r_callvpf (id f : Nat) (p : List (Option AV) × List Nat) (k : SV → List (Nat × Box) → List (Nat × Nat) → Prop) : callvpP C id bx lv p k (.fn (.func f) [] []) = callpK C f id bx lv k p := rfl
theorem r_isn (id : Nat) (neg : Bool) (x : Opd) : aop C id (.isn neg x) K ⟨sl, bx, lv, nx⟩ = withV (opdA ⟨sl, bx, lv, nx⟩ x) fun a => withV (nilA neg a) fun v => K (.dat (.bool v) none) ⟨sl, bx, lv, nx⟩ := rfl
theorem r_ext (id : Nat) (x : Opd) (i : Nat) : aop C id (.ext x i) K ⟨sl, bx, lv, nx⟩ = withV (opdA ⟨sl, bx, lv, nx⟩ x) fun a => withV (extA a i) fun v => K (.dat v none) ⟨sl, bx, lv, nx⟩ := rfl
theorem r_frz1 (b : Nat) (cs : List AV) (b' o : Nat) : frzV b cs (.ptr b' o) = bif b' == b then .rp (cs.drop o) else .ptr b' o := rfl
theorem r_frz2 (b : Nat) (cs : List AV) (a : AV) (q : Option Nat) : frzV b cs (.dat a q) = .dat a q := rfl
theorem r_frz3 (b : Nat) (cs cs' : List AV) : frzV b cs (.rp cs') = .rp cs' := rfl
theorem r_frz4 (b : Nat) (cs : List AV) : frzV b cs .undef = .undef := rfl
theorem r_frzL0 (b : Nat) (cs : List AV) : frzL b cs [] = [] := rfl
theorem r_frzL (b : Nat) (cs : List AV) (t : Nat) (v : SV) (r : List (Nat × SV)) : frzL b cs ((t, v) :: r) = (t, frzV b cs v) :: frzL b cs r := rfl
theorem r_delB0 (n : Nat) : delB n [] = [] := rfl
theorem r_delB (n m : Nat) (v : Box) (r : List (Nat × Box)) : delB n ((m, v) :: r) = bif n == m then delB n r else (m, v) :: delB n r := rfl
theorem r_frzs0 (css : List (List AV)) (s : S) : frzs [] css s = s := rfl
theorem r_frzs (b : Nat) (bs : List Nat) (cs : List AV) (css : List (List AV)) : frzs (b :: bs) (cs :: css) ⟨sl, bx, lv, nx⟩ = frzs bs css ⟨frzL b cs sl, delB b bx, lv, nx⟩ := rfl
theorem r_fillP0 (css : List (List AV)) : fillP [] css = [] := by cases css <;> rfl
theorem r_fillPs (a : AV) (as : List (Option AV)) (css : List (List AV)) : fillP (some a :: as) css = a :: fillP as css := by cases css <;> rfl
theorem r_fillPn (as : List (Option AV)) (cs : List AV) (css : List (List AV)) : fillP (none :: as) (cs :: css) = .ref cs :: fillP as css := rfl
theorem r_own0 : ownIds [] = true := rfl
theorem r_own (b : Nat) (bs : List Nat) : ownIds (b :: bs) = (decide (4 ≤ b) && ownIds bs) := rfl
def mkfK (fn : Fn) (as : List AV) (s : S) (k : SV → S → Prop) (p : List (Option AV) × List Nat) : Prop :=
  (nodupB p.2 && ownIds p.2) = true ∧ withV (cellsA s.boxes p.2) fun css => k (.dat (.fn fn as (fillP p.1 css)) none) (frzs p.2 css s)
theorem r_mkfK (fn : Fn) (as : List AV) (k : SV → S → Prop) (ps : List (Option AV)) (ids : List Nat) : mkfK fn as ⟨sl, bx, lv, nx⟩ k (ps, ids) = ((nodupB ids && ownIds ids) = true ∧ withV (cellsA bx ids) fun css => k (.dat (.fn fn as (fillP ps css)) none) (frzs ids css ⟨sl, bx, lv, nx⟩)) := rfl
theorem r_mkf (id : Nat) (fn : Fn) (a b : List Opd) : aop C id (.mkf fn a b) K ⟨sl, bx, lv, nx⟩ = withV (opdsA ⟨sl, bx, lv, nx⟩ a) fun as => withV (svsA ⟨sl, bx, lv, nx⟩ b) (mkfK fn as ⟨sl, bx, lv, nx⟩ K) := rfl
def mmP (mx : Bool) (k : AV → Prop) : List AV → Prop
  | [] => False
  | a :: r => withV (r.foldlM (mmA mx) a) k
theorem r_mm (id : Nat) (mx : Bool) (args : List Opd) : aop C id (.mm mx args) K ⟨sl, bx, lv, nx⟩ = withV (opdsA ⟨sl, bx, lv, nx⟩ args) (mmP mx fun v => K (.dat v none) ⟨sl, bx, lv, nx⟩) := by
  show withV _ _ = withV _ _
  cases opdsA ⟨sl, bx, lv, nx⟩ args with
  | none => rfl
  | some l => cases l <;> rfl
theorem r_mm2 (mx : Bool) (k : AV → Prop) (a b : AV) : mmP mx k [a, b] = withV (mmA mx a b) k := by simp [mmP]
theorem r_mmI (kd : IntKind) (x y : Int) : mmA true (.int kd x) (.int kd y) = some (.int kd (if y > x then y else x)) := rfl
theorem r_mmI' (kd : IntKind) (x y : Int) : mmA false (.int kd x) (.int kd y) = some (.int kd (if y < x then y else x)) := rfl
theorem r_build (id : Nat) (zs : List AV) (parts : List (Nat × Nat × Opd)) : aop C id (.build zs parts) K ⟨sl, bx, lv, nx⟩ = withV (partsA ⟨sl, bx, lv, nx⟩ parts) fun ps => K (.dat (.agg (fillA zs ps)) none) ⟨sl, bx, lv, nx⟩ := rfl
def partO (off sz : Nat) : Option AV → Option (List (Nat × List AV)) → Option (List (Nat × List AV))
  | some a, some ps => if a.cells.length = sz ∧ stOk a none = true then some ((off, a.cells) :: ps) else none
  | _, _ => none
theorem r_partsA (off sz : Nat) (x : Opd) (r : List (Nat × Nat × Opd)) : partsA ⟨sl, bx, lv, nx⟩ ((off, sz, x) :: r) = partO off sz (opdA ⟨sl, bx, lv, nx⟩ x) (partsA ⟨sl, bx, lv, nx⟩ r) := rfl
theorem r_partsA0 : partsA ⟨sl, bx, lv, nx⟩ [] = some [] := rfl
theorem r_partO (off sz : Nat) (a : AV) (ps : List (Nat × List AV)) (h : a.cells.length = sz) (h' : stOk a none = true) : partO off sz (some a) (some ps) = some ((off, a.cells) :: ps) := by simp [partO, h, h']
theorem r_bsl (id e z : Nat) (xs : List Opd) : aop C id (.bsl e z xs) K ⟨sl, bx, lv, nx⟩ = withV (rowsA ⟨sl, bx, lv, nx⟩ z xs) fun rows => K (.dat (.sl rows) (some id)) ⟨sl, bx, (id, e) :: lv, nx⟩ := rfl
def rowO (z : Nat) : Option AV → Option (List (List AV)) → Option (List (List AV))
  | some a, some rows => if a.cells.length = z ∧ stOk a none = true then some (a.cells :: rows) else none
  | _, _ => none
theorem r_rowsA (z : Nat) (x : Opd) (r : List Opd) : rowsA ⟨sl, bx, lv, nx⟩ z (x :: r) = rowO z (opdA ⟨sl, bx, lv, nx⟩ x) (rowsA ⟨sl, bx, lv, nx⟩ z r) := rfl
theorem r_rowsA0 (z : Nat) : rowsA ⟨sl, bx, lv, nx⟩ z [] = some [] := rfl
theorem r_rowO (z : Nat) (a : AV) (rows : List (List AV)) (h : a.cells.length = z) (h' : stOk a none = true) : rowO z (some a) (some rows) = some (a.cells :: rows) := by simp [rowO, h, h']
theorem r_app (id e z bytes : Nat) (x y : Opd) : aop C id (.app e z bytes x y) K ⟨sl, bx, lv, nx⟩ = withV (opd ⟨sl, bx, lv, nx⟩ x) fun
      | .dat a q => withV (rowsOf a) fun xs => withV (opdA ⟨sl, bx, lv, nx⟩ y) fun b => withV (rowsOf b) fun ys =>
          (xs.length + ys.length) * bytes ≤ 140737488355328 ∧ (∀ r ∈ xs, r.length = z) ∧ (∀ r ∈ ys, r.length = z) ∧
          (match a, q with
           | .nils, _ => if ys = [] then K (.dat .nils none) ⟨sl, bx, lv, nx⟩ else K (.dat (.sl (xs ++ ys)) (some id)) ⟨sl, bx, (id, e) :: lv, nx⟩
           | .sl _, some q => lkN q lv = some e ∧ K (.dat (.sl (xs ++ ys)) (some id)) ⟨sl, bx, (id, e) :: delN q lv, nx⟩
           | _, _ => False)
      | _ => False := rfl
theorem r_slS (id z : Nat) (x : Opd) (lo hi : Option Opd) : aop C id (.slS z x lo hi) K ⟨sl, bx, lv, nx⟩ = withV (opdA ⟨sl, bx, lv, nx⟩ x) fun a => withV (rowsOf a) fun xs => withV (bndL ⟨sl, bx, lv, nx⟩ lo) fun l => withV (bndH ⟨sl, bx, lv, nx⟩ xs hi) fun h => (0 ≤ l ∧ l ≤ h ∧ h ≤ xs.length) ∧ (∀ r ∈ xs, r.length = z) ∧ K (.dat (cutA a xs l h) none) ⟨sl, bx, lv, nx⟩ := rfl
theorem r_bndL0 : bndL ⟨sl, bx, lv, nx⟩ none = some 0 := rfl
theorem r_bndL (x : Opd) : bndL ⟨sl, bx, lv, nx⟩ (some x) = idxO (opdA ⟨sl, bx, lv, nx⟩ x) := by cases h : opdA ⟨sl, bx, lv, nx⟩ x <;> simp [bndL, idxO, h]
theorem r_bndH0 (xs : List (List AV)) : bndH ⟨sl, bx, lv, nx⟩ xs none = some (xs.length : Int) := rfl
theorem r_bndH (xs : List (List AV)) (x : Opd) : bndH ⟨sl, bx, lv, nx⟩ xs (some x) = idxO (opdA ⟨sl, bx, lv, nx⟩ x) := by cases h : opdA ⟨sl, bx, lv, nx⟩ x <;> simp [bndH, idxO, h]
theorem r_idxO (k : IntKind) (i : Int) : idxO (some (.int k i)) = some i := rfl
theorem r_cut (xs ys : List (List AV)) (l h : Int) : cutA (.sl ys) xs l h = .sl ((xs.take h.toNat).drop l.toNat) := rfl
theorem r_cut0 (xs : List (List AV)) (l h : Int) : cutA .nils xs l h = .nils := rfl
def ncP (k : SV → Prop) : SV → Prop
  | .ptr b o => k (.ptr b o)
  | .rp cs => k (.rp cs)
  | .dat (.fn (.func f) as bs) q => k (.dat (.fn (.func f) as bs) q)
  | _ => False
theorem r_nc (id : Nat) (x : Opd) : aop C id (.nc x) K ⟨sl, bx, lv, nx⟩ = withV (opd ⟨sl, bx, lv, nx⟩ x) (ncP fun v => K v ⟨sl, bx, lv, nx⟩) := by
  show withV _ _ = withV _ _
  cases opd ⟨sl, bx, lv, nx⟩ x with
  | none => rfl
  | some v => cases v with
    | dat a q => cases a <;> first | rfl | (rename_i f _ _; cases f <;> rfl)
    | _ => rfl
theorem r_ncp (k : SV → Prop) (b o : Nat) : ncP k (.ptr b o) = k (.ptr b o) := rfl
theorem r_ncr (k : SV → Prop) (cs : List AV) : ncP k (.rp cs) = k (.rp cs) := rfl
theorem r_skip : aw C .skip Q ⟨sl, bx, lv, nx⟩ = Q .normal ⟨sl, bx, lv, nx⟩ := rfl
def bump (k : S → Prop) (n : Nat) : S → Prop := fun s => k { s with nx := n }
theorem r_reg (ops : List CO) : aw C (.reg ops) Q ⟨sl, bx, lv, nx⟩ = aops C nx 0 ops (bump (Q .normal) (nx + ops.length)) ⟨sl, bx, lv, nx⟩ := rfl
def dynG (b : Bool) (K : Prop) : Prop := b = true ∧ K
class KQ where
  k : Prop
def dg (b : Bool) [k : KQ] : Prop := dynG b k.k
theorem k_dg (b : Bool) (K : Prop) : dynG b K = @dg b ⟨K⟩ := rfl
theorem dg_go {b : Bool} {K : Prop} (h : b = true) (hk : K) : @dg b ⟨K⟩ := ⟨h, hk⟩
theorem r_regD (ops : List CO) (bad : List (Nat × Nat)) : aw C (.regD ops bad) Q ⟨sl, bx, lv, nx⟩ = dynG (dynOk ops bad nx sl) (aops C nx 0 ops (bump (Q .normal) (nx + ops.length)) ⟨sl, bx, lv, nx⟩) := rfl
theorem r_bump (k : S → Prop) (n : Nat) : bump k n ⟨sl, bx, lv, nx⟩ = k ⟨sl, bx, lv, n⟩ := rfl
theorem r_seq (a b : CCode) : aw C (.seq a b) Q ⟨sl, bx, lv, nx⟩ = aw C a (athen (aw C b Q) Q) ⟨sl, bx, lv, nx⟩ := rfl
theorem r_join (a b : CCode) : aw C (.join a b) Q ⟨sl, bx, lv, nx⟩ = aw C a (athen (down (aw C b Q)) Q) ⟨sl, bx, lv, nx⟩ := rfl
def condP (a b : Prop) : AV → Prop
  | .bool t => (t = true → a) ∧ (t = false → b)
  | _ => False
theorem r_cond (c : Opd) (a b : CCode) : aw C (.cond c a b) Q ⟨sl, bx, lv, nx⟩ = withV (opdA ⟨sl, bx, lv, nx⟩ c) (condP (aw C a Q ⟨sl, bx, lv, nx⟩) (aw C b Q ⟨sl, bx, lv, nx⟩)) := rfl
def cd (c : AV) [k : KP] : Prop := condP k.yes k.no c
theorem k_cd (a b : Prop) (c : AV) : condP a b c = @cd c ⟨a, b⟩ := rfl
theorem r_condt (a b : Prop) : @cd (.bool true) ⟨a, b⟩ = a := by simp [cd, condP]
theorem r_condf (a b : Prop) : @cd (.bool false) ⟨a, b⟩ = b := by simp [cd, condP]
theorem r_block (id : Nat) (c : CCode) : aw C (.block id c) Q ⟨sl, bx, lv, nx⟩ = aw C c (ablock id Q) ⟨sl, bx, lv, nx⟩ := rfl
theorem r_exit (id : Nat) : aw C (.exit id) Q ⟨sl, bx, lv, nx⟩ = Q (.exit id) ⟨sl, bx, lv, nx⟩ := rfl
theorem r_ret : aw C .ret Q ⟨sl, bx, lv, nx⟩ = Q .ret ⟨sl, bx, lv, nx⟩ := rfl
theorem r_scope (l : Nat) (c r : CCode) : aw C (.scope l c r) Q ⟨sl, bx, lv, nx⟩ = aw C c (scopeQ l (aw C r (noGo Q)) Q) ⟨sl, bx, lv, nx⟩ := rfl
theorem r_label (l : Nat) : aw C (.label l) Q ⟨sl, bx, lv, nx⟩ = Q .normal ⟨sl, bx, lv, nx⟩ := rfl
theorem r_goto (l : Nat) : aw C (.goto l) Q ⟨sl, bx, lv, nx⟩ = Q (.goto l) ⟨sl, bx, lv, nx⟩ := rfl
theorem r_then4 (k : S → Prop) (s : S) (l : Nat) : athen k Q (.goto l) s = Q (.goto l) s := rfl
theorem r_blk5 (id : Nat) (s : S) (l : Nat) : ablock id Q (.goto l) s = Q (.goto l) s := rfl
theorem r_sc1 (l : Nat) (k : S → Prop) (s : S) : scopeQ l k Q .normal s = Q .normal s := rfl
theorem r_sc2 (l : Nat) (k : S → Prop) (s : S) : scopeQ l k Q .ret s = Q .ret s := rfl
theorem r_sc3 (l : Nat) (k : S → Prop) (s : S) (id : Nat) : scopeQ l k Q (.exit id) s = Q (.exit id) s := rfl
theorem r_sc4 (l : Nat) (k : S → Prop) (s : S) (l' : Nat) : scopeQ l k Q (.goto l') s = (l' = l ∧ k s) := rfl
theorem r_ng1 (s : S) : noGo Q .normal s = Q .normal s := rfl
theorem r_ng2 (s : S) : noGo Q .ret s = Q .ret s := rfl
theorem r_ng3 (s : S) (id : Nat) : noGo Q (.exit id) s = Q (.exit id) s := rfl
theorem r_then1 (k : S → Prop) (s : S) : athen k Q .normal s = k s := rfl
theorem r_then2 (k : S → Prop) (s : S) : athen k Q .ret s = Q .ret s := rfl
theorem r_then3 (k : S → Prop) (s : S) (id : Nat) : athen k Q (.exit id) s = Q (.exit id) s := rfl
theorem r_blk1 (id : Nat) (s : S) : ablock id Q .normal s = Q .normal s := rfl
theorem r_blk2 (id : Nat) (s : S) : ablock id Q .ret s = Q .ret s := rfl
theorem r_blk3 (id : Nat) (s : S) : ablock id Q (.exit id) s = Q .normal s := by simp [ablock]
theorem r_blk4 (id id' : Nat) (s : S) (h : (id' == id) = false) : ablock id Q (.exit id') s = Q (.exit id') s := by
  have : id' ≠ id := by simpa using h
  simp [ablock, this]
end
section
variable {C : Con} {Q : Exit → S → Prop} {K : SV → S → Prop} {J : S → Prop}
@[congr] theorem g_withV {α : Type} {o o' : Option α} (k : α → Prop) (h : o = o') : withV o k = withV o' k := by rw [h]
@[congr] theorem g_aop (id : Nat) (o : COp) (s : S) : aop C id o K s = aop C id o K s := rfl
@[congr] theorem g_aops (b i : Nat) (l : List CO) (s : S) : aops C b i l J s = aops C b i l J s := rfl
@[congr] theorem g_aw (c : CCode) (s : S) : aw C c Q s = aw C c Q s := rfl
@[congr] theorem g_athen (e : Exit) (s : S) : athen J Q e s = athen J Q e s := rfl
@[congr] theorem g_scopeQ {J : S → Prop} (l : Nat) (e : Exit) (s : S) : scopeQ l J Q e s = scopeQ l J Q e s := rfl
@[congr] theorem g_noGo (e : Exit) (s : S) : noGo Q e s = noGo Q e s := rfl
@[congr] theorem g_ablock (id : Nat) (e : Exit) (s : S) : ablock id Q e s = ablock id Q e s := rfl
@[congr] theorem g_bump (n : Nat) (s : S) : bump J n s = bump J n s := rfl
@[congr] theorem g_down {s s' : S} (h : s = s') : down J s = down J s' := by rw [h]
@[congr] theorem g_guardP (w : Bool) (yes no : Prop) {g g' : Option SV} (h : g = g') : guardP w yes no g = guardP w yes no g' := by rw [h]
@[congr] theorem g_pickP {a a' b b' : Option SV} (k : SV → Prop) {c c' : AV} (ha : a = a') (hb : b = b') (hc : c = c') : pickP a b k c = pickP a' b' k c' := by rw [ha, hb, hc]
@[congr] theorem g_condP (a b : Prop) {c c' : AV} (h : c = c') : condP a b c = condP a b c' := by rw [h]
@[congr] theorem g_ldP (sz : Option Nat) (bx : List (Nat × Box)) (k : SV → Prop) {v v' : SV} (h : v = v') : ldP sz bx k v = ldP sz bx k v' := by rw [h]
@[congr] theorem g_faP (off : Nat) (k : SV → Prop) {v v' : SV} (h : v = v') : faP off k v = faP off k v' := by rw [h]
@[congr] theorem g_iaP {d d' : Nat} (k : SV → Prop) {v v' : SV} (h : v = v') (hd : d = d') : iaP d k v = iaP d' k v' := by rw [h, hd]
@[congr] theorem g_stP (sz : Nat) (bx : List (Nat × Box)) {u u' : Option SV} (k : List (Nat × Box) → Prop) {v v' : SV} (hu : u = u') (h : v = v') : stP sz bx u k v = stP sz bx u' k v' := by rw [h, hu]
@[congr] theorem g_stV (sz off : Nat) (x : Box) (k : Box → Prop) {v v' : SV} (h : v = v') : stV sz off x k v = stV sz off x k v' := by rw [h]
@[congr] theorem g_aggP (k : List AV → Prop) {v v' : AV} (h : v = v') : aggP k v = aggP k v' := by rw [h]
@[congr] theorem g_mmP (m : Bool) (k : AV → Prop) {v v' : List AV} (h : v = v') : mmP m k v = mmP m k v' := by rw [h]
@[congr] theorem g_ncP (k : SV → Prop) {v v' : SV} (h : v = v') : ncP k v = ncP k v' := by rw [h]
end
section
variable (k : IntKind) (x y : Int)
theorem b_add : binA .add (.int k x) (.int k y) = some (.int k (k.wrap (x + y))) := by simp [binA, intA]
theorem b_sub : binA .sub (.int k x) (.int k y) = some (.int k (k.wrap (x - y))) := by simp [binA, intA]
theorem b_mul : binA .mul (.int k x) (.int k y) = some (.int k (k.wrap (x * y))) := by simp [binA, intA]
theorem b_eql : binA .eql (.int k x) (.int k y) = some (.bool (x == y)) := by simp [binA, intA]
theorem b_neq : binA .neq (.int k x) (.int k y) = some (.bool (x != y)) := by simp [binA, intA]
theorem b_lss : binA .lss (.int k x) (.int k y) = some (.bool (decide (x < y))) := by simp [binA, intA]
theorem b_leq : binA .leq (.int k x) (.int k y) = some (.bool (decide (x ≤ y))) := by simp [binA, intA]
theorem b_gtr : binA .gtr (.int k x) (.int k y) = some (.bool (decide (y < x))) := by simp [binA, intA]
theorem b_geq : binA .geq (.int k x) (.int k y) = some (.bool (decide (y ≤ x))) := by simp [binA, intA]
def bAnd (k : IntKind) (x y : Int) : Int := k.wrap (BitVec.ofInt k.bits x &&& BitVec.ofInt k.bits y).toNat
def bOr (k : IntKind) (x y : Int) : Int := k.wrap (BitVec.ofInt k.bits x ||| BitVec.ofInt k.bits y).toNat
def bXor (k : IntKind) (x y : Int) : Int := k.wrap (BitVec.ofInt k.bits x ^^^ BitVec.ofInt k.bits y).toNat
def bAndNot (k : IntKind) (x y : Int) : Int := k.wrap (BitVec.ofInt k.bits x &&& ~~~BitVec.ofInt k.bits y).toNat
theorem b_and : binA .and (.int k x) (.int k y) = some (.int k (bAnd k x y)) := by simp [binA, intA, bitsA, bAnd]
theorem b_or : binA .or (.int k x) (.int k y) = some (.int k (bOr k x y)) := by simp [binA, intA, bitsA, bOr]
theorem b_xor : binA .xor (.int k x) (.int k y) = some (.int k (bXor k x y)) := by simp [binA, intA, bitsA, bXor]
theorem b_andNot : binA .andNot (.int k x) (.int k y) = some (.int k (bAndNot k x y)) := by simp [binA, intA, bitsA, bAndNot]
def optIf (c : Prop) [Decidable c] (v : AV) : Option AV := if c then some v else none
theorem w_optIf (c : Prop) [Decidable c] (v : AV) (K : AV → Prop) : @wv _ (optIf c v) ⟨K⟩ = (c ∧ K v) := by
  rw [← k_wv]; unfold optIf; split <;> simp_all
theorem b_quo : binA .quo (.int k x) (.int k y) = optIf (y ≠ 0) (.int k (k.wrap (x.tdiv y))) := by
  by_cases h : y = 0 <;> simp [binA, intA, optIf, h]
theorem b_rem : binA .rem (.int k x) (.int k y) = optIf (y ≠ 0) (.int k (x.tmod y)) := by
  by_cases h : y = 0 <;> simp [binA, intA, optIf, h]
theorem b_shl (k' : IntKind) : binA .shl (.int k x) (.int k' y) = optIf (0 ≤ y) (.int k (k.wrap (x * 2 ^ min y.toNat k.bits))) := by
  by_cases h : 0 ≤ y
  · have : ¬ y < 0 := by omega
    simp [binA, shiftA, optIf, h, this]
  · have : y < 0 := by omega
    simp [binA, shiftA, optIf, this]
theorem b_shr (k' : IntKind) : binA .shr (.int k x) (.int k' y) = optIf (0 ≤ y) (.int k (x.fdiv (2 ^ min y.toNat k.bits))) := by
  by_cases h : 0 ≤ y
  · have : ¬ y < 0 := by omega
    simp [binA, shiftA, optIf, h, this]
  · have : y < 0 := by omega
    simp [binA, shiftA, optIf, this]
theorem b_beq (x y : Bool) : bbA false (.bool x) (.bool y) = some (.bool (x == y)) := rfl
theorem b_bne (x y : Bool) : bbA true (.bool x) (.bool y) = some (.bool (x != y)) := rfl
theorem u_not (b : Bool) : unA .not (.bool b) = some (.bool !b) := rfl
theorem u_neg : unA .neg (.int k x) = some (.int k (k.wrap (0 - x))) := rfl
theorem l_in0 : nilA false .nils = some true := rfl
theorem l_in1 : nilA true .nils = some false := rfl
theorem l_in2 (xs : List (List AV)) : nilA false (.sl xs) = some false := rfl
theorem l_in3 (xs : List (List AV)) : nilA true (.sl xs) = some true := rfl
theorem l_nil : lenA .nils = some (.int .i64 0) := rfl
theorem l_sl (xs : List (List AV)) : lenA (.sl xs) = some (.int .i64 xs.length) := rfl
theorem c_ii (k' : IntKind) : cvIIA k (.int k' x) = some (.int k (k.wrap x)) := rfl
theorem c_if (k' : IntKind) (f : FloatKind) : cvIFA f (.int k' x) = some (.float f (f.nearest x)) := rfl
theorem e_tup (vs : List AV) (i : Nat) : extA (.tup vs) i = vs[i]? := rfl
theorem s_ok1 (cs : List AV) : stOk (.agg cs) none = true := rfl
theorem s_ok2 (q : Option Nat) : stOk (.int k x) q = true := rfl
theorem s_ok3 (b : Bool) (q : Option Nat) : stOk (.bool b) q = true := rfl
theorem s_ok4 (f : FloatKind) (n : Nat) (q : Option Nat) : stOk (.float f n) q = true := rfl
theorem s_ok5 (q : Option Nat) : stOk .nils q = true := rfl
theorem s_ok6 (xs : List (List AV)) (q : Option Nat) : stOk (.sl xs) q = true := rfl
theorem s_ok7 (b : ByteArray) (q : Option Nat) : stOk (.str b) q = true := rfl
theorem s_ok8 (f : Fn) (as bs : List AV) (q : Option Nat) : stOk (.fn f as bs) q = true := rfl
theorem s_ok10 (cs : List AV) (q : Option Nat) : stOk (.ref cs) q = true := rfl
theorem s_ok9 (q : Option Nat) : stOk .nilfn q = true := rfl
theorem cells_agg (cs : List AV) : AV.cells (.agg cs) = cs := rfl
theorem cells_int : AV.cells (.int k x) = [.int k x] := rfl
theorem cells_bool (b : Bool) : AV.cells (.bool b) = [.bool b] := rfl
theorem cells_float (f : FloatKind) (n : Nat) : AV.cells (.float f n) = [.float f n] := rfl
theorem cells_nils : AV.cells .nils = [.nils] := rfl
theorem cells_ref (cs : List AV) : AV.cells (.ref cs) = [.ref cs] := rfl
theorem cells_fn (f : Fn) (as bs : List AV) : AV.cells (.fn f as bs) = [.fn f as bs] := rfl
theorem cells_sl (xs : List (List AV)) : AV.cells (.sl xs) = [.sl xs] := rfl
theorem p_none (cs : List AV) (off : Nat) : partA cs off none = cs[off]? := rfl
theorem p_some (cs : List AV) (off n : Nat) (h : off + n ≤ cs.length) : partA cs off (some n) = some (.agg ((cs.drop off).take n)) := by simp [partA, h]
end
theorem gd_split {w : Bool} {yes no : Prop} {t : Bool} {q : Option Nat} (h1 : t = true → @gd w (some (.dat (.bool true) q)) ⟨yes, no⟩) (h2 : t = false → @gd w (some (.dat (.bool false) q)) ⟨yes, no⟩) : @gd w (some (.dat (.bool t) q)) ⟨yes, no⟩ := by
  cases t
  · exact h2 rfl
  · exact h1 rfl
theorem cd_split {a b : Prop} {t : Bool} (h1 : t = true → a) (h2 : t = false → b) : @cd (.bool t) ⟨a, b⟩ := by
  cases t
  · simpa [cd, condP] using h2 rfl
  · simpa [cd, condP] using h1 rfl
theorem pk_split {a b : Option SV} {k : SV → Prop} {t : Bool} (h1 : t = true → @pk a b (.bool true) ⟨k⟩) (h2 : t = false → @pk a b (.bool false) ⟨k⟩) : @pk a b (.bool t) ⟨k⟩ := by
  cases t
  · exact h2 rfl
  · exact h1 rfl
theorem r_putPs (p : Nat) (ps : List Nat) (x : AV) (xs : List AV) (s : S) : putPs (p :: ps) (x :: xs) s = putPs ps xs (s.put (some p) (.dat x none)) := rfl
theorem r_putPs0 (s : S) : putPs [] [] s = s := rfl
theorem r_cutS (wr : List Nat) (sl : List (Nat × SV)) (bx : List (Nat × Box)) (lv : List (Nat × Nat)) (nx : Nat) : cutS wr ⟨sl, bx, lv, nx⟩ = ⟨cutL wr sl, bx, lv, nx⟩ := rfl
theorem r_cutL0 (wr : List Nat) : cutL wr [] = [] := rfl
theorem r_cutL (wr : List Nat) (t : Nat) (v : SV) (r : List (Nat × SV)) : cutL wr ((t, v) :: r) = bif wr.contains t then cutL wr r else (t, v) :: cutL wr r := rfl
theorem r_rfQn (wr : List Nat) (F : S → Prop) (Q : Exit → S → Prop) (s : S) : rfQ wr F Q .normal s = down F (cutS wr s) := rfl
theorem r_rfQr (wr : List Nat) (F : S → Prop) (Q : Exit → S → Prop) (s : S) : rfQ wr F Q .ret s = Q .ret (cutS wr s) := rfl
theorem r_rfQx (wr : List Nat) (F : S → Prop) (Q : Exit → S → Prop) (id : Nat) (s : S) : rfQ wr F Q (.exit id) s = Q (.exit id) (cutS wr s) := rfl
theorem r_onlyN (K : S → Prop) (s : S) : onlyN K .normal s = K s := rfl
set_option linter.defProp false
def EV0 :=
  And.intro @w_some (And.intro @w_none (And.intro @r_lk (And.intro @r_lkB (And.intro @r_lkN (And.intro @r_lkN0 (And.intro @r_setB (And.intro @r_delN (And.intro @r_delN0 (And.intro @r_put (And.intro @r_put0 (And.intro @r_opdt (And.intro @r_opdk (And.intro @r_datAr (And.intro @r_datA (And.intro @r_opdAt (And.intro @r_opdAk (And.intro @r_consO (And.intro @r_opdsA (And.intro @r_opdsA0 (And.intro @r_aops0 (And.intro @r_aops (And.intro @r_aopsg (And.intro @r_guardu (And.intro @r_guardt (And.intro @r_guardt' (And.intro @r_guardf (And.intro @r_guardf' (And.intro @r_mv (@r_pick)))))))))))))))))))))))))))))
def EV1 :=
  And.intro @r_pickt (And.intro @r_pickf (And.intro @r_alloc (And.intro @r_box (And.intro @r_ld (And.intro @r_ldp1 (And.intro @r_ldp2 (And.intro @r_ldr (And.intro @r_st (And.intro @r_stp (And.intro @r_stv (And.intro @r_tags0 (And.intro @r_tags1 (And.intro @r_fa (And.intro @r_fap (And.intro @r_far (And.intro @r_iaA (And.intro @r_iap (And.intro @r_iar (And.intro @r_idx (And.intro @r_iaS (And.intro @r_rows (And.intro @r_rows0 (And.intro @r_agg (And.intro @r_fld (And.intro @r_ixA (And.intro @r_bin (And.intro @r_eqc (And.intro @r_bb (@r_un)))))))))))))))))))))))))))))
def EV2 :=
  And.intro @r_cvII (And.intro @r_cvIF (And.intro @r_cvFI (And.intro @r_lenS (And.intro @r_xt (And.intro @r_xb (And.intro @r_xf (And.intro @r_xr (And.intro @r_slA (And.intro @r_slA1 (And.intro @r_slA2 (And.intro @r_ixB (And.intro @r_ixBs (And.intro @r_lenK (And.intro @r_call (And.intro @r_consPd (And.intro @r_consPr (And.intro @r_consPp (And.intro @r_svs0 (And.intro @r_svs (And.intro @r_cells0 (And.intro @r_consC (And.intro @r_cells (And.intro @r_nodup0 (And.intro @r_nodup (And.intro @r_setBs (And.intro @r_setBs0 (And.intro @r_callpK (And.intro @r_callp (@r_callv)))))))))))))))))))))))))))))
def EV3 :=
  And.intro @r_callvf (And.intro @r_callvp (And.intro @r_callvpf (And.intro @r_isn (And.intro @r_ext (And.intro @r_frz1 (And.intro @r_frz2 (And.intro @r_frz3 (And.intro @r_frz4 (And.intro @r_frzL0 (And.intro @r_frzL (And.intro @r_delB0 (And.intro @r_delB (And.intro @r_frzs0 (And.intro @r_frzs (And.intro @r_fillP0 (And.intro @r_fillPs (And.intro @r_fillPn (And.intro @r_own0 (And.intro @r_own (And.intro @r_mkfK (And.intro @r_mkf (And.intro @r_mm (And.intro @r_mm2 (And.intro @r_mmI (And.intro @r_mmI' (And.intro @r_build (And.intro @r_partsA (And.intro @r_partsA0 (@r_bsl)))))))))))))))))))))))))))))
def EV4 :=
  And.intro @r_rowsA (And.intro @r_rowsA0 (And.intro @r_app (And.intro @r_slS (And.intro @r_bndL0 (And.intro @r_bndL (And.intro @r_bndH0 (And.intro @r_bndH (And.intro @r_idxO (And.intro @r_cut (And.intro @r_cut0 (And.intro @r_nc (And.intro @r_ncp (And.intro @r_ncr (And.intro @r_skip (And.intro @r_reg (And.intro @r_regD (And.intro @r_bump (And.intro @r_seq (And.intro @r_join (And.intro @r_cond (And.intro @r_condt (And.intro @r_condf (And.intro @r_block (And.intro @r_exit (And.intro @r_ret (And.intro @r_scope (And.intro @r_label (And.intro @r_goto (@r_then4)))))))))))))))))))))))))))))
def EV5 :=
  And.intro @r_blk5 (And.intro @r_sc1 (And.intro @r_sc2 (And.intro @r_sc3 (And.intro @r_sc4 (And.intro @r_ng1 (And.intro @r_ng2 (And.intro @r_ng3 (And.intro @r_then1 (And.intro @r_then2 (And.intro @r_then3 (And.intro @r_blk1 (And.intro @r_blk2 (And.intro @r_blk3 (And.intro @b_add (And.intro @b_sub (And.intro @b_mul (And.intro @b_eql (And.intro @b_neq (And.intro @b_lss (And.intro @b_leq (And.intro @b_gtr (And.intro @b_geq (And.intro @b_and (And.intro @b_or (And.intro @b_xor (And.intro @b_andNot (And.intro @w_optIf (And.intro @b_quo (@b_rem)))))))))))))))))))))))))))))
def EV6 :=
  And.intro @b_shl (And.intro @b_shr (And.intro @b_beq (And.intro @b_bne (And.intro @u_not (And.intro @u_neg (And.intro @l_in0 (And.intro @l_in1 (And.intro @l_in2 (And.intro @l_in3 (And.intro @l_nil (And.intro @l_sl (And.intro @c_ii (And.intro @c_if (And.intro @e_tup (And.intro @s_ok1 (And.intro @s_ok2 (And.intro @s_ok3 (And.intro @s_ok4 (And.intro @s_ok5 (And.intro @s_ok6 (And.intro @s_ok7 (And.intro @s_ok8 (And.intro @s_ok10 (And.intro @s_ok9 (And.intro @cells_agg (And.intro @cells_int (And.intro @cells_bool (And.intro @cells_float (@cells_nils)))))))))))))))))))))))))))))
def EV7 :=
  And.intro @cells_ref (And.intro @cells_fn (And.intro @cells_sl (And.intro @p_none (And.intro @r_putPs (And.intro @r_putPs0 (And.intro @r_cutS (And.intro @r_cutL0 (And.intro @r_cutL (And.intro @r_rfQn (And.intro @r_rfQr (And.intro @r_rfQx (@r_onlyN))))))))))))
def EV :=
  And.intro @EV0 (And.intro @EV1 (And.intro @EV2 (And.intro @EV3 (And.intro @EV4 (And.intro @EV5 (And.intro @EV6 (@EV7)))))))
end Go.Eng
namespace Go.Eng
set_option linter.unusedVariables false
set_option linter.unusedSimpArgs false
set_option linter.unnecessarySimpa false
open Go
set_option linter.unusedVariables false
set_option linter.unusedSimpArgs false
section
variable {C : Con}
theorem aops_mono {base : Nat} : ∀ {l : List CO} {i : Nat} {s : S} {K K' : S → Prop}, (∀ s, K s → K' s) → aops C base i l K s → aops C base i l K' s
  | [], i, s, K, K', hk, h => hk s h
  | o :: l, i, s, K, K', hk, h => by
    rw [aops_cons] at h ⊢
    obtain ⟨v, d, hd, hk', _⟩ := astep_path h
    exact hd.2 s .refl _ (aops_mono hk hk')
theorem down_mono {F G : S → Prop} (h : ∀ s, F s → G s) {s : S} (hd : down F s) : down G s := by
  obtain ⟨s1, ⟨hl, hF⟩ | hF⟩ := hd
  · exact ⟨s1, .inl ⟨hl, h _ hF⟩⟩
  · exact ⟨s1, .inr (h _ hF)⟩
theorem athen_mono {F G : S → Prop} {Q Q' : Exit → S → Prop} (h : ∀ s, F s → G s) (hq : ∀ e s, Q e s → Q' e s) {e : Exit} {s : S} (ha : athen F Q e s) : athen G Q' e s := by
  cases e <;> first | exact h _ ha | exact hq _ _ ha
theorem ablock_mono {id : Nat} {Q Q' : Exit → S → Prop} (hq : ∀ e s, Q e s → Q' e s) {e : Exit} {s : S} (ha : ablock id Q e s) : ablock id Q' e s := by
  cases e with
  | exit i =>
    simp only [ablock] at ha ⊢
    split
    · rename_i hi; rw [if_pos hi] at ha; exact hq _ _ ha
    · rename_i hi; rw [if_neg hi] at ha; exact hq _ _ ha
  | _ => exact hq _ _ ha
theorem ARounds_mono {F G : (Exit → S → Prop) → S → Prop} (hF : ∀ Q Q' s, (∀ e s, Q e s → Q' e s) → F Q s → G Q' s) {Q Q' : Exit → S → Prop} (hq : ∀ e s, Q e s → Q' e s) : ∀ {n : Nat} {s : S}, ARounds F Q n s → ARounds G Q' n s
  | 0, s, h => h
  | n + 1, s, h => hF _ _ s (fun e s ha => athen_mono (fun s hd => down_mono (fun s h => ARounds_mono hF hq h) hd) hq ha) h
theorem rfQ_mono {wr : List Nat} {F : S → Prop} {Q Q' : Exit → S → Prop} (hq : ∀ e s, Q e s → Q' e s) {e : Exit} {s : S} (h : rfQ wr F Q e s) : rfQ wr F Q' e s := by
  cases e <;> first | exact h | exact hq _ _ h
theorem aw_mono : ∀ {c : CCode} {Q Q' : Exit → S → Prop} {s : S}, (∀ e s, Q e s → Q' e s) → aw C c Q s → aw C c Q' s := by
  intro c
  induction c with
  | skip => intro Q Q' s hq h; exact hq _ _ h
  | reg ops => intro Q Q' s hq h; exact aops_mono (fun s h => hq _ _ h) h
  | regD ops bad => intro Q Q' s hq h; exact ⟨h.1, aops_mono (fun s h => hq _ _ h) h.2⟩
  | seq a b iha ihb => intro Q Q' s hq h; exact iha (fun e s ha => athen_mono (fun s h => ihb hq h) hq ha) h
  | join a b iha ihb => intro Q Q' s hq h; exact iha (fun e s ha => athen_mono (fun s h => down_mono (fun s h => ihb hq h) h) hq ha) h
  | cond c a b iha ihb =>
    intro Q Q' s hq h
    simp only [aw] at h ⊢
    obtain ⟨v, hv, h⟩ := withV_inv h
    rw [hv]
    cases v <;> try (exact h.elim)
    exact ⟨fun e => iha hq (h.1 e), fun e => ihb hq (h.2 e)⟩
  | block id c ih => intro Q Q' s hq h; exact ih (fun e s ha => ablock_mono hq ha) h
  | loop c ih =>
    intro Q Q' s hq h
    exact down_mono (fun s ⟨n, h⟩ => ⟨n, ARounds_mono (F := aw C c) (G := aw C c) (fun Q Q' s hq h => ih hq h) hq h⟩) h
  | exit id => intro Q Q' s hq h; exact hq _ _ h
  | ret => intro Q Q' s hq h; exact hq _ _ h
  | label l => intro Q Q' s hq h; exact hq _ _ h
  | goto l => intro Q Q' s hq h; exact hq _ _ h
  | scope l c r ihc ihr =>
    intro Q Q' s hq h
    refine ihc (fun e s ha => ?_) h
    cases e with
    | goto l' =>
      refine ⟨ha.1, ihr (fun e s hb => ?_) ha.2⟩
      cases e <;> first | exact hb | exact hq _ _ hb
    | _ => exact hq _ _ ha
  | rfor g ps wr as bd iha ihb =>
    intro Q Q' s hq h
    simp only [aw] at h ⊢
    obtain ⟨gv, hgv, xs, h1, h2, F, h3, h4, h5, h6⟩ := withV_inv h
    rw [hgv]
    refine ⟨xs, h1, h2, F, h3, h4, fun i x s' hx hs => iha (fun e s ha => ?_) (h5 i x s' hx hs), fun s' hs => hq _ _ (h6 s' hs)⟩
    cases e <;> first | exact ha.elim | exact ihb (fun e s hb => rfQ_mono hq hb) ha
def flat (keep : List Nat) : Nat → CCode → CCode × Nat
  | i, .join a b =>
    let p := flat keep (i + 1) a
    let q := flat keep p.2 b
    (if keep.contains i then .join p.1 q.1 else .seq p.1 q.1, q.2)
  | i, .seq a b =>
    let p := flat keep i a
    let q := flat keep p.2 b
    (.seq p.1 q.1, q.2)
  | i, .cond c a b =>
    let p := flat keep i a
    let q := flat keep p.2 b
    (.cond c p.1 q.1, q.2)
  | i, .block id c => (.block id (flat keep i c).1, (flat keep i c).2)
  | i, .rfor g ps wr as bd =>
    let p := flat keep i as
    let q := flat keep p.2 bd
    (.rfor g ps wr p.1 q.1, q.2)
  | i, .loop c => (.loop (flat keep i c).1, (flat keep i c).2)
  | i, .scope l c r =>
    let p := flat keep i c
    let q := flat keep p.2 r
    (.scope l p.1 q.1, q.2)
  | i, c => (c, i)
theorem aw_flat {keep : List Nat} : ∀ {c : CCode} {i : Nat} {Q : Exit → S → Prop} {s : S}, aw C (flat keep i c).1 Q s → aw C c Q s := by
  intro c
  induction c with
  | join a b iha ihb =>
    intro i Q s h
    simp only [flat] at h
    split at h
    · exact iha (aw_mono (fun e s ha => athen_mono (fun s h => down_mono (fun s h => ihb h) h) (fun _ _ h => h) ha) h)
    · exact iha (aw_mono (fun e s ha => athen_mono (fun s h => down_refl (ihb h)) (fun _ _ h => h) ha) h)
  | seq a b iha ihb => intro i Q s h; exact iha (aw_mono (fun e s ha => athen_mono (fun s h => ihb h) (fun _ _ h => h) ha) h)
  | cond c a b iha ihb =>
    intro i Q s h
    simp only [flat, aw] at h ⊢
    obtain ⟨v, hv, h⟩ := withV_inv h
    rw [hv]
    cases v <;> try (exact h.elim)
    exact ⟨fun e => iha (h.1 e), fun e => ihb (h.2 e)⟩
  | block id c ih => intro i Q s h; exact ih h
  | scope l c r ihc ihr =>
    intro i Q s h
    refine ihc (aw_mono (fun e s ha => ?_) h)
    cases e with
    | goto l' => exact ⟨ha.1, ihr ha.2⟩
    | _ => exact ha
  | rfor g ps wr as bd iha ihb =>
    intro i Q s h
    simp only [flat, aw] at h ⊢
    obtain ⟨gv, hgv, xs, h1, h2, F, h3, h4, h5, h6⟩ := withV_inv h
    rw [hgv]
    refine ⟨xs, h1, h2, F, h3, h4, fun i x s' hx hs => iha (aw_mono (fun e s ha => ?_) (h5 i x s' hx hs)), h6⟩
    cases e <;> first | exact ha.elim | exact ihb ha
  | loop c ih =>
    intro i Q s h
    exact down_mono (fun s ⟨n, h⟩ => ⟨n, ARounds_mono (F := aw C (flat keep i c).1) (G := aw C c) (fun Q Q' s hq h => aw_mono hq (ih h)) (fun _ _ h => h) h⟩) h
  | _ => intro i Q s h; exact h
theorem aw_loop {c : CCode} {Q : Exit → S → Prop} {α : Type} (hd : α → S) (μ : α → Nat) (I : α → Prop)
    (round : ∀ x, I x → aw C c (athen (down fun s => ∃ y, s = hd y ∧ I y ∧ μ y < μ x) Q) (hd x)) {x : α} (hx : I x) {s : S} (h0 : Le s (hd x) ∨ s = hd x) : aw C (.loop c) Q s := by
  have key : ∀ n x, I x → μ x < n → ARounds (aw C c) Q n (hd x) := by
    intro n
    induction n with
    | zero => intro x _ h; omega
    | succ n ih =>
      intro x hx hn
      refine aw_mono ?_ (round x hx)
      intro e s ha
      refine athen_mono ?_ (fun _ _ h => h) ha
      intro s hd
      refine down_mono ?_ hd
      rintro s ⟨y, rfl, hy, hlt⟩
      exact ih y hy (by omega)
  rcases h0 with h0 | rfl
  · exact ⟨hd x, .inl ⟨h0, μ x + 1, key _ x hx (by omega)⟩⟩
  · exact down_refl ⟨μ x + 1, key _ x hx (by omega)⟩
end
theorem a_int (k : IntKind) (n : Int) : argSV (.int k n) = .dat (.int k n) none := rfl
theorem a_bool (b : Bool) : argSV (.bool b) = .dat (.bool b) none := rfl
theorem a_float (k : FloatKind) (n : Nat) : argSV (.float k n) = .dat (.float k n) none := rfl
theorem a_str (s : ByteArray) : argSV (.str s) = .dat (.str s) none := rfl
theorem a_nilp : argSV .nilp = .dat .nilp none := rfl
theorem a_nils : argSV .nils = .dat .nils none := rfl
theorem a_sl (xs : List (List AV)) : argSV (.sl xs) = .dat (.sl xs) none := rfl
theorem a_fn (f : Fn) (as bs : List AV) : argSV (.fn f as bs) = .dat (.fn f as bs) none := rfl
theorem a_agg (cs : List AV) : argSV (.agg cs) = .dat (.agg cs) none := rfl
theorem a_ref (cs : List AV) : argSV (.ref cs) = .rp cs := rfl
theorem a_slots (i : Nat) (a : AV) (r : List AV) : slotsOf i (a :: r) = (i, argSV a) :: slotsOf (i + 1) r := rfl
theorem a_slots0 (i : Nat) : slotsOf i [] = [] := rfl
theorem a_init (as : List AV) : initS as = ⟨slotsOf 0 as, [], [], 4⟩ := rfl
theorem a_slotsBv (i k : Nat) (a : AV) (r : List (Option AV)) : slotsB i k (some a :: r) = (i, argSV a) :: slotsB (i + 1) k r := rfl
theorem a_slotsBp (i k : Nat) (r : List (Option AV)) : slotsB i k (none :: r) = (i, .ptr k 0) :: slotsB (i + 1) (k + 1) r := rfl
theorem a_slotsB0 (i k : Nat) : slotsB i k [] = [] := rfl
theorem a_boxesB (k : Nat) (cs : List AV) (css : List (List AV)) : boxesB k (cs :: css) = (k, ⟨cs, []⟩) :: boxesB (k + 1) css := rfl
theorem a_boxesB0 (k : Nat) : boxesB k [] = [] := rfl
theorem a_initB (css : List (List AV)) (as : List (Option AV)) : initB css as = ⟨slotsB 0 0 as, boxesB 0 css, [], 4⟩ := rfl
theorem a_fin1 (res : List CRes) (r : AV) (s : S) : fin res r none .normal s = withV (resultA s res) fun p => p.1 = r := by simp [fin, frA]
theorem a_fin2 (res : List CRes) (r : AV) (s : S) : fin res r none .ret s = withV (resultA s res) fun p => p.1 = r := by simp [fin, frA]
theorem a_fin3 (res : List CRes) (r : AV) (e : Nat) (s : S) : fin res r (some e) .normal s = withV (resultA s res) fun p => p.1 = r ∧ frA (some e) p.2 s.live := rfl
theorem a_fin4 (res : List CRes) (r : AV) (e : Nat) (s : S) : fin res r (some e) .ret s = withV (resultA s res) fun p => p.1 = r ∧ frA (some e) p.2 s.live := rfl
theorem a_fr (e q : Nat) (lv : List (Nat × Nat)) : frA (some e) (some q) lv = (lkN q lv = some e) := rfl
theorem a_finB1 (res : List CRes) (r : AV) (css : List (List AV)) (s : S) : finB res r none css .normal s = withV (resultA s res) fun p => p.1 = r ∧ holdB s.boxes 0 css := by simp [finB, frA]
theorem a_finB2 (res : List CRes) (r : AV) (css : List (List AV)) (s : S) : finB res r none css .ret s = withV (resultA s res) fun p => p.1 = r ∧ holdB s.boxes 0 css := by simp [finB, frA]
theorem a_hold0 (l : List (Nat × Box)) (k : Nat) : holdB l k [] = True := rfl
theorem a_hold (l : List (Nat × Box)) (k : Nat) (cs : List AV) (css : List (List AV)) : holdB l k (cs :: css) = (withV (lkB k l) (fun x => x.cells = cs) ∧ holdB l (k + 1) css) := rfl
def tmpR : Option SV → Option (AV × Option Nat)
  | some (.dat a q) => some (a, q)
  | _ => none
theorem a_tmpR (a : AV) (q : Option Nat) : tmpR (some (.dat a q)) = some (a, q) := rfl
theorem a_res1 (s : S) (t : Nat) : resultA s [.tmp t] = tmpR (lk t s.slots) := rfl
def cellR (sz : Option Nat) (bx : List (Nat × Box)) : Option SV → Option (AV × Option Nat)
  | some (.ptr b off) => match lkB b bx with
    | some x => match partA x.cells off sz with
      | some a => some (a, match sz with | none => lkN off x.tags | some _ => none)
      | none => none
    | none => none
  | _ => none
def boxR1 (off : Nat) (sz : Option Nat) : Option Box → Option (AV × Option Nat)
  | some x => match partA x.cells off sz with
    | some a => some (a, match sz with | none => lkN off x.tags | some _ => none)
    | none => none
  | none => none
theorem a_res2 (s : S) (t : Nat) (sz : Option Nat) : resultA s [.cell t sz] = cellR sz s.boxes (lk t s.slots) := rfl
theorem a_cellR (sz : Option Nat) (bx : List (Nat × Box)) (b off : Nat) : cellR sz bx (some (.ptr b off)) = boxR1 off sz (lkB b bx) := by
  simp only [cellR, boxR1]
theorem a_boxR1 (off n : Nat) (x : Box) : boxR1 off (some n) (some x) = (partA x.cells off (some n)).map fun a => (a, none) := by
  simp only [boxR1] <;> cases partA x.cells off (some n) <;> rfl
theorem a_boxR2 (off : Nat) (x : Box) : boxR1 off none (some x) = (x.cells[off]?).map fun a => (a, lkN off x.tags) := by
  simp only [boxR1, partA] <;> cases x.cells[off]? <;> rfl
theorem a_res0 (s : S) : resultA s [] = some (.tup [], none) := rfl
theorem a_resM (s : S) (x y : CRes) (r : List CRes) : resultA s (x :: y :: r) = (ressA s (x :: y :: r)).map fun as => (.tup as, none) := rfl
def consR : Option (AV × Option Nat) → Option (List AV) → Option (List AV)
  | some p, some as => some (p.1 :: as)
  | _, _ => none
theorem a_consR (a : AV) (q : Option Nat) (as : List AV) : consR (some (a, q)) (some as) = some (a :: as) := rfl
theorem a_ress (s : S) (x : CRes) (r : List CRes) : ressA s (x :: r) = consR (resultA s [x]) (ressA s r) := by
  simp only [ressA, consR, resultA] <;> cases resA s x <;> cases ressA s r <;> rfl
theorem a_ress0 (s : S) : ressA s [] = some [] := rfl
set_option linter.defProp false
def EW0 :=
  And.intro @a_int (And.intro @a_bool (And.intro @a_float (And.intro @a_str (And.intro @a_nilp (And.intro @a_nils (And.intro @a_sl (And.intro @a_fn (And.intro @a_agg (And.intro @a_ref (And.intro @a_slots (And.intro @a_slots0 (And.intro @a_init (And.intro @a_slotsBv (And.intro @a_slotsBp (And.intro @a_slotsB0 (And.intro @a_boxesB (And.intro @a_boxesB0 (And.intro @a_initB (And.intro @a_fin1 (And.intro @a_fin2 (And.intro @a_fin3 (And.intro @a_fin4 (And.intro @a_fr (And.intro @a_finB1 (And.intro @a_finB2 (And.intro @a_hold0 (And.intro @a_hold (And.intro @a_tmpR (@a_res1)))))))))))))))))))))))))))))
def EW1 :=
  And.intro @a_res2 (And.intro @a_cellR (And.intro @a_boxR1 (And.intro @a_boxR2 (And.intro @a_res0 (And.intro @a_resM (And.intro @a_consR (And.intro @a_ress (@a_ress0))))))))
def EW :=
  And.intro @EW0 (@EW1)
end Go.Eng
namespace Go.Eng
set_option linter.unusedVariables false
set_option linter.unusedSimpArgs false
set_option linter.unnecessarySimpa false
open Go
set_option linter.unusedVariables false
set_option linter.unusedSimpArgs false
abbrev I (n : Int) : AV := .int .i64 n
abbrev B (b : Bool) : AV := .bool b
abbrev D (n : Nat) : AV := .float .f64 n
def w64 (n : Int) : Int := IntKind.i64.wrap n
def slAV {α : Type} (f : α → List AV) : Option (List α) → AV
  | none => .nils
  | some l => .sl (l.map f)
def intRow (n : Int) : List AV := [I n]
structure Ph where
  on : Bool
  min : Int
  gap : Int
  max : Int
  top : Int
  step : Int
  yellow : Int
  red : Int
  walk : Int
  blinks : Int
  recall : Int
  lock : Bool
  rest : Bool
  deriving Inhabited, DecidableEq
def Ph.cells (p : Ph) : List AV := [B p.on, I p.min, I p.gap, I p.max, I p.top, I p.step, I p.yellow, I p.red, I p.walk, I p.blinks, I p.recall, B p.lock, B p.rest]
structure Det where
  phase : Int
  on : Nat
  off : Nat
  delay : Nat
  extend : Nat
  maxOn : Int
  maxOff : Int
  deriving Inhabited, DecidableEq
def Det.cells (d : Det) : List AV := [I d.phase, D d.on, D d.off, D d.delay, D d.extend, I d.maxOn, I d.maxOff]
structure Rl where
  bars : Int
  clear : Int
  dwell : Int
  exit : Int
  delay : Int
  green : Int
  foot : Int
  hold : Int
  stay : Int
  most : Int
  limit : Int
  deriving Inhabited, DecidableEq
def Rl.cells (r : Rl) : List AV := [I r.bars, I r.clear, I r.dwell, I r.exit, I r.delay, I r.green, I r.foot, I r.hold, I r.stay, I r.most, I r.limit]
structure Bs where
  set : Int
  lock : Int
  deriving Inhabited, DecidableEq
def Bs.cells (b : Bs) : List AV := [I b.set, I b.lock]
structure Gr where
  a : Option (List Int)
  b : Option (List Int)
  deriving Inhabited, DecidableEq
def Gr.cells (g : Gr) : List AV := [slAV intRow g.a, slAV intRow g.b]
structure Tb where
  phases : List Ph
  groups : Option (List Gr)
  conflict : List Int
  detectors : Option (List Det)
  rails : Option (List Rl)
  buses : Option (List Bs)
  extend : Int
  budget : Int
  start : Int
  revert : Int
  least : Int
  flash : List Int
  window : Int
  share : Int
  deriving Inhabited, DecidableEq
def Tb.cells (t : Tb) : List AV :=
  t.phases.flatMap Ph.cells ++ (slAV Gr.cells t.groups :: (t.conflict.map I ++ (slAV Det.cells t.detectors :: slAV Rl.cells t.rails :: slAV Bs.cells t.buses ::
    I t.extend :: I t.budget :: I t.start :: I t.revert :: I t.least :: (t.flash.map I ++ [I t.window, I t.share]))))
structure Tb.Ok (t : Tb) : Prop where
  phases : t.phases.length = 8
  conflict : t.conflict.length = 8
  flash : t.flash.length = 8
  groups : (t.groups.getD []).length ≤ 1048576
  rows : ∀ g ∈ t.groups.getD [], (g.a.getD []).length ≤ 1048576 ∧ (g.b.getD []).length ≤ 1048576
  dets : (t.detectors.getD []).length ≤ 1048576
  rails : (t.rails.getD []).length ≤ 1048576
  buses : (t.buses.getD []).length ≤ 1048576
theorem flatMap_len {α : Type} {f : α → List AV} {z : Nat} (hf : ∀ x, (f x).length = z) : ∀ {l : List α}, (l.flatMap f).length = l.length * z
  | [] => by simp
  | x :: l => by simp [List.flatMap_cons, hf, flatMap_len hf (l := l), Nat.add_mul]; omega
theorem Ph.len (p : Ph) : p.cells.length = 13 := rfl
theorem Tb.len {t : Tb} (h : t.Ok) : t.cells.length = 131 := by
  simp [Tb.cells, flatMap_len Ph.len, h.phases, h.conflict, h.flash]
theorem list_at {α : Type} : ∀ {l : List α} {i : Nat} {x : α}, l[i]? = some x → l = l.take i ++ x :: l.drop (i + 1)
  | [], i, x, h => by simp at h
  | y :: l, 0, x, h => by
    simp at h; subst h; simp
  | y :: l, i + 1, x, h => by
    have := list_at (l := l) (i := i) (x := x) (by simpa using h)
    simp only [List.take_succ_cons, List.drop_succ_cons, List.cons_append]
    exact congrArg (y :: ·) this
theorem flatMap_at {α : Type} {f : α → List AV} {l : List α} {i : Nat} {x : α} (h : l[i]? = some x) : l.flatMap f = (l.take i).flatMap f ++ (f x ++ (l.drop (i + 1)).flatMap f) := by
  conv => lhs; rw [list_at h]
  rw [List.flatMap_append, List.flatMap_cons]
theorem take_len {α : Type} {l : List α} {i : Nat} {x : α} (h : l[i]? = some x) : (l.take i).length = i := by
  have := (List.getElem?_eq_some_iff.1 h).1
  simp; omega
theorem part_mid {pre mid post : List AV} {off z : Nat} (h1 : pre.length = off) (h2 : mid.length = z) : partA (pre ++ (mid ++ post)) off (some z) = some (.agg mid) := by
  subst h1 h2
  have hle : pre.length + mid.length ≤ (pre ++ (mid ++ post)).length := by simp
  simp only [partA, hle, if_true, Option.some.injEq, AV.agg.injEq]
  simp
theorem set_mid {pre mid post ps : List AV} {off : Nat} (h1 : pre.length = off) (h2 : mid.length = ps.length) : setCells (pre ++ (mid ++ post)) off ps = pre ++ (ps ++ post) := by
  subst h1
  simp only [setCells]
  rw [← h2]
  simp [List.drop_append]
theorem set_all {cs ps : List AV} (h : cs.length = ps.length) : setCells cs 0 ps = ps := by
  simp only [setCells, List.take_zero, List.nil_append, Nat.zero_add, ← h, List.drop_length, List.append_nil]
theorem Tb.phase_part {t : Tb} {i : Nat} {p : Ph} (h : t.phases[i]? = some p) : partA t.cells (i * 13) (some 13) = some (.agg p.cells) := by
  unfold Tb.cells
  rw [flatMap_at h, List.append_assoc, List.append_assoc]
  exact part_mid (by rw [flatMap_len Ph.len, take_len h]) rfl
theorem set_at {α : Type} {l : List α} {i : Nat} {x y : α} (h : l[i]? = some x) : l.set i y = l.take i ++ y :: l.drop (i + 1) := by
  have hlt := (List.getElem?_eq_some_iff.1 h).1
  rw [List.set_eq_take_append_cons_drop, if_pos hlt]
theorem Tb.phase_set {t : Tb} {i : Nat} {p q : Ph} (h : t.phases[i]? = some p) : setCells t.cells (i * 13) q.cells = { t with phases := t.phases.set i q }.cells := by
  unfold Tb.cells
  simp only
  rw [set_at h, List.flatMap_append, List.flatMap_cons]
  conv => lhs; rw [flatMap_at h]
  rw [List.append_assoc, List.append_assoc, List.append_assoc, List.append_assoc]
  exact set_mid (by rw [flatMap_len Ph.len, take_len h]) rfl
end Go.Eng
namespace Go.Eng
set_option linter.unusedVariables false
set_option linter.unusedSimpArgs false
set_option linter.unnecessarySimpa false
open Go
set_option linter.unusedVariables false
set_option maxRecDepth 10000
def z11_58867 : List AV := [(.int .i64 0), (.int .i64 0), (.int .i64 0), (.int .i64 0), (.int .i64 0), (.int .i64 0), (.int .i64 0), (.int .i64 0), (.int .i64 0), (.int .i64 0), (.int .i64 0)]
def z131_45020 : List AV := [(.bool false), (.int .i64 0), (.int .i64 0), (.int .i64 0), (.int .i64 0), (.int .i64 0), (.int .i64 0), (.int .i64 0), (.int .i64 0), (.int .i64 0), (.int .i64 0), (.bool false), (.bool false), (.bool false), (.int .i64 0), (.int .i64 0), (.int .i64 0), (.int .i64 0), (.int .i64 0), (.int .i64 0), (.int .i64 0), (.int .i64 0), (.int .i64 0), (.int .i64 0), (.bool false), (.bool false), (.bool false), (.int .i64 0), (.int .i64 0), (.int .i64 0), (.int .i64 0), (.int .i64 0), (.int .i64 0), (.int .i64 0), (.int .i64 0), (.int .i64 0), (.int .i64 0), (.bool false), (.bool false), (.bool false), (.int .i64 0), (.int .i64 0), (.int .i64 0), (.int .i64 0), (.int .i64 0), (.int .i64 0), (.int .i64 0), (.int .i64 0), (.int .i64 0), (.int .i64 0), (.bool false), (.bool false), (.bool false), (.int .i64 0), (.int .i64 0), (.int .i64 0), (.int .i64 0), (.int .i64 0), (.int .i64 0), (.int .i64 0), (.int .i64 0), (.int .i64 0), (.int .i64 0), (.bool false), (.bool false), (.bool false), (.int .i64 0), (.int .i64 0), (.int .i64 0), (.int .i64 0), (.int .i64 0), (.int .i64 0), (.int .i64 0), (.int .i64 0), (.int .i64 0), (.int .i64 0), (.bool false), (.bool false), (.bool false), (.int .i64 0), (.int .i64 0), (.int .i64 0), (.int .i64 0), (.int .i64 0), (.int .i64 0), (.int .i64 0), (.int .i64 0), (.int .i64 0), (.int .i64 0), (.bool false), (.bool false), (.bool false), (.int .i64 0), (.int .i64 0), (.int .i64 0), (.int .i64 0), (.int .i64 0), (.int .i64 0), (.int .i64 0), (.int .i64 0), (.int .i64 0), (.int .i64 0), (.bool false), (.bool false), .nils, (.int .i64 0), (.int .i64 0), (.int .i64 0), (.int .i64 0), (.int .i64 0), (.int .i64 0), (.int .i64 0), (.int .i64 0), .nils, .nils, .nils, (.int .i64 0), (.int .i64 0), (.int .i64 0), (.int .i64 0), (.int .i64 0), (.int .i64 0), (.int .i64 0), (.int .i64 0), (.int .i64 0), (.int .i64 0), (.int .i64 0), (.int .i64 0), (.int .i64 0), (.int .i64 0), (.int .i64 0)]
def z13_14216 : List AV := [(.bool false), (.int .i64 0), (.int .i64 0), (.int .i64 0), (.int .i64 0), (.int .i64 0), (.int .i64 0), (.int .i64 0), (.int .i64 0), (.int .i64 0), (.int .i64 0), (.bool false), (.bool false)]
def cc_law00_Table (f_law00_rows f_law00_phase f_ref08_Beside f_law00_from f_ref01_With f_law00_detector e_api_Detector f_law00_rail e_api_Rail e_api_Bus f_ref08_Wait : Nat) : CFn := ⟨186, [.cell 2 (some 131)],
  .seq (.reg [
    ⟨(some 2), .alloc z131_45020, none⟩])
  (.seq (.reg [
    ⟨(some 3), .alloc z131_45020, none⟩])
  (.seq (.reg [
    ⟨(some 13), .mv (.t 0), none⟩,
    ⟨(some 14), .callp f_law00_rows [(.t 3), (.t 13)], none⟩,
    ⟨(some 4), .mv (.t 14), none⟩])
  (.join (.seq (.reg [
     ⟨(some 5), .mv (.k (.int .i64 0)), none⟩])
   (.block 0 (.loop (.join (.seq (.reg [
        ⟨(some 15), .mv (.t 5), none⟩,
        ⟨(some 16), .mv (.t 4), none⟩,
        ⟨(some 17), .bin .lss (.t 15) (.t 16), none⟩])
      (.cond (.t 17) (.skip)
       (.exit 0)))
     (.join (.block 1 (.seq (.reg [
         ⟨(some 20), .mv (.t 5), none⟩,
         ⟨(some 21), .mv (.t 0), none⟩,
         ⟨(some 22), .mv (.t 5), none⟩,
         ⟨(some 23), .bin .mul (.k (.int .i64 12)) (.t 22), none⟩,
         ⟨(some 24), .bin .add (.k (.int .i64 10)) (.t 23), none⟩,
         ⟨(some 25), .call f_law00_phase [(.t 21), (.t 24)], none⟩,
         ⟨(some 26), .fa (.t 3) 0, none⟩,
         ⟨(some 27), .iaA (.t 26) (.t 20) 8 13, none⟩,
         ⟨none, .st (.t 27) (.t 25) 13, none⟩])
       (.reg [
         ⟨(some 28), .mv (.t 5), none⟩,
         ⟨(some 29), .fa (.t 3) 121, none⟩,
         ⟨(some 30), .iaA (.t 29) (.t 28) 8 1, none⟩,
         ⟨none, .st (.t 30) (.k (.int .i64 1)) 1, none⟩])))
     (.reg [
       ⟨(some 18), .mv (.t 5), none⟩,
       ⟨(some 19), .bin .add (.t 18) (.k (.int .i64 1)), none⟩,
       ⟨(some 5), .mv (.t 19), none⟩]))))))
  (.join (.seq (.reg [
     ⟨(some 6), .mv (.k (.int .i64 0)), none⟩])
   (.block 2 (.loop (.join (.seq (.reg [
        ⟨(some 31), .mv (.t 6), none⟩,
        ⟨(some 32), .mv (.t 4), none⟩,
        ⟨(some 33), .bin .lss (.t 31) (.t 32), none⟩])
      (.cond (.t 33) (.skip)
       (.exit 2)))
     (.join (.block 3 (.seq (.reg [
         ⟨(some 7), .mv (.k (.int .i64 0)), none⟩])
       (.block 4 (.loop (.join (.seq (.reg [
            ⟨(some 36), .mv (.t 7), none⟩,
            ⟨(some 37), .mv (.t 6), none⟩,
            ⟨(some 38), .bin .lss (.t 36) (.t 37), none⟩])
          (.cond (.t 38) (.skip)
           (.exit 4)))
         (.join (.block 5 (.seq (.reg [
             ⟨(some 41), .ld (.t 3) (some 131), none⟩,
             ⟨(some 42), .mv (.t 6), none⟩,
             ⟨(some 43), .mv (.t 7), none⟩,
             ⟨(some 44), .call f_ref08_Beside [(.t 41), (.t 42), (.t 43)], none⟩,
             ⟨(some 45), .un .not (.t 44), none⟩,
             ⟨(some 46), .mv (.t 45), none⟩,
             ⟨(some 47), .mv (.t 0), (some (46, true))⟩,
             ⟨(some 48), .mv (.t 6), (some (46, true))⟩,
             ⟨(some 49), .bin .mul (.k (.int .i64 8)) (.t 48), (some (46, true))⟩,
             ⟨(some 50), .bin .add (.k (.int .i64 110)) (.t 49), (some (46, true))⟩,
             ⟨(some 51), .mv (.t 7), (some (46, true))⟩,
             ⟨(some 52), .bin .add (.t 50) (.t 51), (some (46, true))⟩,
             ⟨(some 53), .call f_law00_from [(.t 47), (.t 52), (.k (.int .i64 9))], (some (46, true))⟩,
             ⟨(some 54), .bin .neq (.t 53) (.k (.int .i64 1)), (some (46, true))⟩,
             ⟨(some 55), .pick (.t 46) (.t 54) (.k (.bool false)), none⟩])
           (.cond (.t 55) (.seq (.reg [
              ⟨(some 56), .mv (.t 6), none⟩,
              ⟨(some 57), .mv (.t 6), none⟩,
              ⟨(some 58), .fa (.t 3) 105, none⟩,
              ⟨(some 59), .iaA (.t 58) (.t 57) 8 1, none⟩,
              ⟨(some 60), .ld (.t 59) none, none⟩,
              ⟨(some 61), .mv (.t 7), none⟩,
              ⟨(some 62), .call f_ref01_With [(.t 60), (.t 61)], none⟩,
              ⟨(some 63), .fa (.t 3) 105, none⟩,
              ⟨(some 64), .iaA (.t 63) (.t 56) 8 1, none⟩,
              ⟨none, .st (.t 64) (.t 62) 1, none⟩])
            (.reg [
              ⟨(some 65), .mv (.t 7), none⟩,
              ⟨(some 66), .mv (.t 7), none⟩,
              ⟨(some 67), .fa (.t 3) 105, none⟩,
              ⟨(some 68), .iaA (.t 67) (.t 66) 8 1, none⟩,
              ⟨(some 69), .ld (.t 68) none, none⟩,
              ⟨(some 70), .mv (.t 6), none⟩,
              ⟨(some 71), .call f_ref01_With [(.t 69), (.t 70)], none⟩,
              ⟨(some 72), .fa (.t 3) 105, none⟩,
              ⟨(some 73), .iaA (.t 72) (.t 65) 8 1, none⟩,
              ⟨none, .st (.t 73) (.t 71) 1, none⟩]))
            (.skip))))
         (.reg [
           ⟨(some 39), .mv (.t 7), none⟩,
           ⟨(some 40), .bin .add (.t 39) (.k (.int .i64 1)), none⟩,
           ⟨(some 7), .mv (.t 40), none⟩])))))))
     (.reg [
       ⟨(some 34), .mv (.t 6), none⟩,
       ⟨(some 35), .bin .add (.t 34) (.k (.int .i64 1)), none⟩,
       ⟨(some 6), .mv (.t 35), none⟩]))))))
  (.join (.seq (.reg [
     ⟨(some 74), .mv (.t 0), none⟩,
     ⟨(some 75), .mv (.t 4), none⟩,
     ⟨(some 76), .bin .add (.t 75) (.k (.int .i64 1)), none⟩,
     ⟨(some 77), .call f_law00_from [(.t 74), (.k (.int .i64 174)), (.t 76)], none⟩,
     ⟨(some 8), .mv (.t 77), none⟩])
   (.seq (.reg [
     ⟨(some 78), .mv (.t 8), none⟩,
     ⟨(some 79), .mv (.t 4), none⟩,
     ⟨(some 80), .bin .lss (.t 78) (.t 79), none⟩])
   (.cond (.t 80) (.reg [
      ⟨(some 81), .mv (.t 8), none⟩,
      ⟨(some 82), .fa (.t 3) 121, none⟩,
      ⟨(some 83), .iaA (.t 82) (.t 81) 8 1, none⟩,
      ⟨none, .st (.t 83) (.k (.int .i64 2)) 1, none⟩])
    (.skip))))
  (.join (.seq (.reg [
     ⟨(some 84), .mv (.t 0), none⟩,
     ⟨(some 85), .call f_law00_from [(.t 84), (.k (.int .i64 175)), (.k (.int .i64 9))], none⟩,
     ⟨(some 9), .mv (.t 85), none⟩])
   (.block 6 (.loop (.join (.seq (.reg [
        ⟨(some 86), .mv (.t 9), none⟩,
        ⟨(some 87), .bin .gtr (.t 86) (.k (.int .i64 0)), none⟩])
      (.cond (.t 87) (.skip)
       (.exit 6)))
     (.join (.block 7 (.reg [
         ⟨(some 90), .fa (.t 3) 113, none⟩,
         ⟨(some 91), .ld (.t 90) none, none⟩,
         ⟨(some 92), .mv (.t 0), none⟩,
         ⟨(some 93), .mv (.t 9), none⟩,
         ⟨(some 94), .bin .mul (.k (.int .i64 8)) (.t 93), none⟩,
         ⟨(some 95), .bin .add (.k (.int .i64 180)) (.t 94), none⟩,
         ⟨(some 96), .mv (.t 4), none⟩,
         ⟨(some 97), .call f_law00_detector [(.t 92), (.t 95), (.t 96)], none⟩,
         ⟨(some 98), .bsl e_api_Detector 7 [(.t 97)], none⟩,
         ⟨(some 99), .app e_api_Detector 7 56 (.t 91) (.t 98), none⟩,
         ⟨(some 100), .fa (.t 3) 113, none⟩,
         ⟨none, .st (.t 100) (.t 99) 1, none⟩]))
     (.reg [
       ⟨(some 88), .mv (.t 9), none⟩,
       ⟨(some 89), .bin .sub (.t 88) (.k (.int .i64 1)), none⟩,
       ⟨(some 9), .mv (.t 89), none⟩]))))))
  (.join (.seq (.reg [
     ⟨(some 101), .mv (.t 0), none⟩,
     ⟨(some 102), .call f_law00_from [(.t 101), (.k (.int .i64 176)), (.k (.int .i64 4))], none⟩,
     ⟨(some 103), .bin .rem (.t 102) (.k (.int .i64 3)), none⟩,
     ⟨(some 10), .mv (.t 103), none⟩])
   (.block 8 (.loop (.join (.seq (.reg [
        ⟨(some 104), .mv (.t 10), none⟩,
        ⟨(some 105), .bin .gtr (.t 104) (.k (.int .i64 0)), none⟩])
      (.cond (.t 105) (.skip)
       (.exit 8)))
     (.join (.block 9 (.reg [
         ⟨(some 108), .fa (.t 3) 114, none⟩,
         ⟨(some 109), .ld (.t 108) none, none⟩,
         ⟨(some 110), .ld (.t 3) (some 131), none⟩,
         ⟨(some 111), .mv (.t 0), none⟩,
         ⟨(some 112), .mv (.t 10), none⟩,
         ⟨(some 113), .bin .mul (.k (.int .i64 16)) (.t 112), none⟩,
         ⟨(some 114), .bin .add (.k (.int .i64 260)) (.t 113), none⟩,
         ⟨(some 115), .mv (.t 4), none⟩,
         ⟨(some 116), .call f_law00_rail [(.t 110), (.t 111), (.t 114), (.t 115)], none⟩,
         ⟨(some 117), .bsl e_api_Rail 11 [(.t 116)], none⟩,
         ⟨(some 118), .app e_api_Rail 11 88 (.t 109) (.t 117), none⟩,
         ⟨(some 119), .fa (.t 3) 114, none⟩,
         ⟨none, .st (.t 119) (.t 118) 1, none⟩]))
     (.reg [
       ⟨(some 106), .mv (.t 10), none⟩,
       ⟨(some 107), .bin .sub (.t 106) (.k (.int .i64 1)), none⟩,
       ⟨(some 10), .mv (.t 107), none⟩]))))))
  (.join (.seq (.reg [
     ⟨(some 120), .mv (.t 0), none⟩,
     ⟨(some 121), .call f_law00_from [(.t 120), (.k (.int .i64 177)), (.k (.int .i64 3))], none⟩,
     ⟨(some 11), .mv (.t 121), none⟩])
   (.block 10 (.loop (.join (.seq (.reg [
        ⟨(some 122), .mv (.t 11), none⟩,
        ⟨(some 123), .bin .gtr (.t 122) (.k (.int .i64 0)), none⟩])
      (.cond (.t 123) (.skip)
       (.exit 10)))
     (.join (.block 11 (.reg [
         ⟨(some 126), .fa (.t 3) 115, none⟩,
         ⟨(some 127), .ld (.t 126) none, none⟩,
         ⟨(some 128), .mv (.t 0), none⟩,
         ⟨(some 129), .mv (.t 11), none⟩,
         ⟨(some 130), .bin .mul (.k (.int .i64 2)) (.t 129), none⟩,
         ⟨(some 131), .bin .add (.k (.int .i64 330)) (.t 130), none⟩,
         ⟨(some 132), .call f_law00_from [(.t 128), (.t 131), (.k (.int .i64 256))], none⟩,
         ⟨(some 133), .mv (.t 4), none⟩,
         ⟨(some 134), .cvII .u64 (.t 133), none⟩,
         ⟨(some 135), .bin .shl (.k (.int .i64 1)) (.t 134), none⟩,
         ⟨(some 136), .bin .sub (.t 135) (.k (.int .i64 1)), none⟩,
         ⟨(some 137), .bin .and (.t 132) (.t 136), none⟩,
         ⟨(some 138), .mm true [(.k (.int .i64 1)), (.t 137)], none⟩,
         ⟨(some 139), .mv (.t 0), none⟩,
         ⟨(some 140), .mv (.t 11), none⟩,
         ⟨(some 141), .bin .mul (.k (.int .i64 2)) (.t 140), none⟩,
         ⟨(some 142), .bin .add (.k (.int .i64 331)) (.t 141), none⟩,
         ⟨(some 143), .call f_law00_from [(.t 139), (.t 142), (.k (.int .i64 30))], none⟩,
         ⟨(some 144), .bin .add (.k (.int .i64 1)) (.t 143), none⟩,
         ⟨(some 145), .build [(.int .i64 0), (.int .i64 0)] [(0, 1, (.t 138)), (1, 1, (.t 144))], none⟩,
         ⟨(some 146), .bsl e_api_Bus 2 [(.t 145)], none⟩,
         ⟨(some 147), .app e_api_Bus 2 16 (.t 127) (.t 146), none⟩,
         ⟨(some 148), .fa (.t 3) 115, none⟩,
         ⟨none, .st (.t 148) (.t 147) 1, none⟩]))
     (.reg [
       ⟨(some 124), .mv (.t 11), none⟩,
       ⟨(some 125), .bin .sub (.t 124) (.k (.int .i64 1)), none⟩,
       ⟨(some 11), .mv (.t 125), none⟩]))))))
  (.seq (.reg [
    ⟨(some 149), .mv (.t 0), none⟩,
    ⟨(some 150), .call f_law00_from [(.t 149), (.k (.int .i64 178)), (.k (.int .i64 12))], none⟩,
    ⟨(some 151), .fa (.t 3) 116, none⟩,
    ⟨none, .st (.t 151) (.t 150) 1, none⟩])
  (.seq (.reg [
    ⟨(some 152), .mv (.t 0), none⟩,
    ⟨(some 153), .call f_law00_from [(.t 152), (.k (.int .i64 179)), (.k (.int .i64 40))], none⟩,
    ⟨(some 154), .fa (.t 3) 117, none⟩,
    ⟨none, .st (.t 154) (.t 153) 1, none⟩])
  (.seq (.reg [
    ⟨(some 155), .mv (.t 0), none⟩,
    ⟨(some 156), .call f_law00_from [(.t 155), (.k (.int .i64 180)), (.k (.int .i64 8))], none⟩,
    ⟨(some 157), .fa (.t 3) 118, none⟩,
    ⟨none, .st (.t 157) (.t 156) 1, none⟩])
  (.seq (.reg [
    ⟨(some 158), .mv (.t 0), none⟩,
    ⟨(some 159), .call f_law00_from [(.t 158), (.k (.int .i64 181)), (.k (.int .i64 8))], none⟩,
    ⟨(some 160), .fa (.t 3) 119, none⟩,
    ⟨none, .st (.t 160) (.t 159) 1, none⟩])
  (.seq (.reg [
    ⟨(some 161), .mv (.t 0), none⟩,
    ⟨(some 162), .call f_law00_from [(.t 161), (.k (.int .i64 182)), (.k (.int .i64 12))], none⟩,
    ⟨(some 163), .fa (.t 3) 120, none⟩,
    ⟨none, .st (.t 163) (.t 162) 1, none⟩])
  (.seq (.reg [
    ⟨(some 164), .mv (.t 0), none⟩,
    ⟨(some 165), .call f_law00_from [(.t 164), (.k (.int .i64 183)), (.k (.int .i64 4))], none⟩,
    ⟨(some 166), .fa (.t 3) 130, none⟩,
    ⟨none, .st (.t 166) (.t 165) 1, none⟩])
  (.join (.seq (.reg [
     ⟨(some 12), .mv (.k (.int .i64 0)), none⟩])
   (.block 12 (.loop (.join (.seq (.reg [
        ⟨(some 167), .mv (.t 12), none⟩,
        ⟨(some 168), .mv (.t 4), none⟩,
        ⟨(some 169), .bin .lss (.t 167) (.t 168), none⟩,
        ⟨(some 170), .mv (.t 169), none⟩,
        ⟨(some 171), .fa (.t 3) 114, (some (170, true))⟩,
        ⟨(some 172), .ld (.t 171) none, (some (170, true))⟩,
        ⟨(some 173), .lenS (.t 172), (some (170, true))⟩,
        ⟨(some 174), .bin .gtr (.t 173) (.k (.int .i64 0)), (some (170, true))⟩,
        ⟨(some 175), .pick (.t 170) (.t 174) (.k (.bool false)), none⟩])
      (.cond (.t 175) (.skip)
       (.exit 12)))
     (.join (.block 13 (.reg [
         ⟨(some 178), .fa (.t 3) 129, none⟩,
         ⟨(some 179), .ld (.t 178) none, none⟩,
         ⟨(some 180), .ld (.t 3) (some 131), none⟩,
         ⟨(some 181), .mv (.t 12), none⟩,
         ⟨(some 182), .call f_ref08_Wait [(.t 180), (.t 181)], none⟩,
         ⟨(some 183), .mm true [(.t 179), (.t 182)], none⟩,
         ⟨(some 184), .fa (.t 3) 129, none⟩,
         ⟨none, .st (.t 184) (.t 183) 1, none⟩]))
     (.reg [
       ⟨(some 176), .mv (.t 12), none⟩,
       ⟨(some 177), .bin .add (.t 176) (.k (.int .i64 1)), none⟩,
       ⟨(some 12), .mv (.t 177), none⟩]))))))
  (.seq (.reg [
    ⟨(some 185), .ld (.t 3) (some 131), none⟩,
    ⟨none, .st (.t 2) (.t 185) 131, none⟩])
  (.ret)))))))))))))))))⟩
def cc_ref08_On (e_int f_ref01_Of : Nat) : CFn := ⟨20, [.tmp 2],
  .seq (.reg [
    ⟨(some 1), .box (.t 0), none⟩,
    ⟨(some 2), .mv (.k (.int .i64 0)), none⟩])
  (.seq (.reg [
    ⟨(some 3), .mv (.k .nils), none⟩])
  (.join (.seq (.reg [
     ⟨(some 4), .mv (.k (.int .i64 0)), none⟩])
   (.block 0 (.loop (.join (.seq (.reg [
        ⟨(some 5), .mv (.t 4), none⟩,
        ⟨(some 6), .bin .lss (.t 5) (.k (.int .i64 8)), none⟩])
      (.cond (.t 6) (.skip)
       (.exit 0)))
     (.join (.block 1 (.seq (.reg [
         ⟨(some 9), .mv (.t 4), none⟩,
         ⟨(some 10), .fa (.t 1) 0, none⟩,
         ⟨(some 11), .iaA (.t 10) (.t 9) 8 13, none⟩,
         ⟨(some 12), .fa (.t 11) 0, none⟩,
         ⟨(some 13), .ld (.t 12) none, none⟩])
       (.cond (.t 13) (.reg [
          ⟨(some 14), .mv (.t 3), none⟩,
          ⟨(some 15), .mv (.t 4), none⟩,
          ⟨(some 16), .bsl e_int 1 [(.t 15)], none⟩,
          ⟨(some 17), .app e_int 1 8 (.t 14) (.t 16), none⟩,
          ⟨(some 3), .mv (.t 17), none⟩])
        (.skip))))
     (.reg [
       ⟨(some 7), .mv (.t 4), none⟩,
       ⟨(some 8), .bin .add (.t 7) (.k (.int .i64 1)), none⟩,
       ⟨(some 4), .mv (.t 8), none⟩]))))))
  (.seq (.reg [
    ⟨(some 18), .mv (.t 3), none⟩,
    ⟨(some 19), .call f_ref01_Of [(.t 18)], none⟩,
    ⟨(some 2), .mv (.t 19), none⟩])
  (.ret))))⟩
def cc_law00_Place : CFn := ⟨15, [.tmp 4],
  .seq (.reg [
    ⟨(some 4), .mv (.k (.int .i64 0)), none⟩])
  (.seq (.reg [
    ⟨(some 6), .mv (.t 0), none⟩,
    ⟨(some 7), .mv (.t 1), none⟩,
    ⟨(some 8), .bin .rem (.t 6) (.t 7), none⟩,
    ⟨(some 5), .mv (.t 8), none⟩])
  (.join (.seq (.reg [
     ⟨(some 9), .mv (.t 5), none⟩,
     ⟨(some 10), .bin .lss (.t 9) (.k (.int .i64 0)), none⟩])
   (.cond (.t 10) (.reg [
      ⟨(some 11), .mv (.t 5), none⟩,
      ⟨(some 12), .mv (.t 1), none⟩,
      ⟨(some 13), .bin .add (.t 11) (.t 12), none⟩,
      ⟨(some 5), .mv (.t 13), none⟩])
    (.skip)))
  (.seq (.reg [
    ⟨(some 14), .mv (.t 5), none⟩,
    ⟨(some 4), .mv (.t 14), none⟩])
  (.ret))))⟩
def cc_ref01_Of : CFn := ⟨28, [.tmp 2],
  .seq (.reg [
    ⟨(some 2), .mv (.k (.int .i64 0)), none⟩])
  (.seq (.reg [
    ⟨(some 3), .mv (.k (.int .i64 0)), none⟩])
  (.join (.seq (.reg [
     ⟨(some 4), .mv (.k (.int .i64 0)), none⟩])
   (.block 0 (.loop (.join (.seq (.reg [
        ⟨(some 6), .mv (.t 4), none⟩,
        ⟨(some 7), .bin .lss (.t 6) (.k (.int .i64 8)), none⟩])
      (.cond (.t 7) (.skip)
       (.exit 0)))
     (.join (.block 1 (.seq (.reg [
         ⟨(some 5), .mv (.k (.int .i64 0)), none⟩])
       (.block 2 (.loop (.join (.seq (.reg [
            ⟨(some 10), .mv (.t 5), none⟩,
            ⟨(some 11), .mv (.t 0), none⟩,
            ⟨(some 12), .lenS (.t 11), none⟩,
            ⟨(some 13), .bin .lss (.t 10) (.t 12), none⟩])
          (.cond (.t 13) (.skip)
           (.exit 2)))
         (.join (.block 3 (.seq (.reg [
             ⟨(some 16), .mv (.t 0), none⟩,
             ⟨(some 17), .mv (.t 5), none⟩,
             ⟨(some 18), .iaS (.t 16) (.t 17) 1, none⟩,
             ⟨(some 19), .ld (.t 18) none, none⟩,
             ⟨(some 20), .mv (.t 4), none⟩,
             ⟨(some 21), .bin .eql (.t 19) (.t 20), none⟩])
           (.cond (.t 21) (.seq (.reg [
              ⟨(some 22), .mv (.t 3), none⟩,
              ⟨(some 23), .mv (.t 4), none⟩,
              ⟨(some 24), .cvII .u64 (.t 23), none⟩,
              ⟨(some 25), .bin .shl (.k (.int .i64 1)) (.t 24), none⟩,
              ⟨(some 26), .bin .or (.t 22) (.t 25), none⟩,
              ⟨(some 3), .mv (.t 26), none⟩])
            (.exit 2))
            (.skip))))
         (.reg [
           ⟨(some 14), .mv (.t 5), none⟩,
           ⟨(some 15), .bin .add (.t 14) (.k (.int .i64 1)), none⟩,
           ⟨(some 5), .mv (.t 15), none⟩])))))))
     (.reg [
       ⟨(some 8), .mv (.t 4), none⟩,
       ⟨(some 9), .bin .add (.t 8) (.k (.int .i64 1)), none⟩,
       ⟨(some 4), .mv (.t 9), none⟩]))))))
  (.seq (.reg [
    ⟨(some 27), .mv (.t 3), none⟩,
    ⟨(some 2), .mv (.t 27), none⟩])
  (.ret))))⟩
def cc_ref01_Has : CFn := ⟨19, [.tmp 4],
  .seq (.reg [
    ⟨(some 4), .mv (.k (.bool false)), none⟩])
  (.seq (.reg [
    ⟨(some 5), .mv (.t 1), none⟩,
    ⟨(some 6), .bin .geq (.t 5) (.k (.int .i64 0)), none⟩,
    ⟨(some 7), .mv (.t 6), none⟩,
    ⟨(some 8), .mv (.t 1), (some (7, true))⟩,
    ⟨(some 9), .bin .lss (.t 8) (.k (.int .i64 8)), (some (7, true))⟩,
    ⟨(some 10), .pick (.t 7) (.t 9) (.k (.bool false)), none⟩,
    ⟨(some 11), .mv (.t 10), none⟩,
    ⟨(some 12), .mv (.t 0), (some (11, true))⟩,
    ⟨(some 13), .mv (.t 1), (some (11, true))⟩,
    ⟨(some 14), .cvII .u64 (.t 13), (some (11, true))⟩,
    ⟨(some 15), .bin .shr (.t 12) (.t 14), (some (11, true))⟩,
    ⟨(some 16), .bin .and (.t 15) (.k (.int .i64 1)), (some (11, true))⟩,
    ⟨(some 17), .bin .eql (.t 16) (.k (.int .i64 1)), (some (11, true))⟩,
    ⟨(some 18), .pick (.t 11) (.t 17) (.k (.bool false)), none⟩,
    ⟨(some 4), .mv (.t 18), none⟩])
  (.ret))⟩
def cc_law00_rows (f_law00_from e_int e_2_int : Nat) : CFn := ⟨78, [.tmp 4],
  .seq (.reg [
    ⟨(some 4), .mv (.k (.int .i64 0)), none⟩])
  (.seq (.reg [
    ⟨(some 12), .mv (.t 1), none⟩,
    ⟨(some 13), .call f_law00_from [(.t 12), (.k (.int .i64 0)), (.k (.int .i64 3))], none⟩,
    ⟨(some 14), .bin .add (.k (.int .i64 1)) (.t 13), none⟩,
    ⟨(some 5), .mv (.t 14), none⟩])
  (.seq (.reg [
    ⟨(some 6), .mv (.k (.int .i64 0)), none⟩])
  (.join (.seq (.reg [
     ⟨(some 7), .mv (.k (.int .i64 0)), none⟩])
   (.block 0 (.loop (.join (.seq (.reg [
        ⟨(some 15), .mv (.t 7), none⟩,
        ⟨(some 16), .mv (.t 5), none⟩,
        ⟨(some 17), .bin .lss (.t 15) (.t 16), none⟩])
      (.cond (.t 17) (.skip)
       (.exit 0)))
     (.join (.block 1 (.seq (.reg [
         ⟨(some 8), .alloc [.nils, .nils], none⟩])
       (.join (.seq (.reg [
          ⟨(some 9), .mv (.k (.int .i64 0)), none⟩])
        (.block 2 (.loop (.join (.seq (.reg [
             ⟨(some 20), .mv (.t 9), none⟩,
             ⟨(some 21), .bin .lss (.t 20) (.k (.int .i64 2)), none⟩])
           (.cond (.t 21) (.skip)
            (.exit 2)))
          (.join (.block 3 (.seq (.reg [
              ⟨(some 24), .mv (.t 1), none⟩,
              ⟨(some 25), .mv (.t 7), none⟩,
              ⟨(some 26), .bin .mul (.k (.int .i64 2)) (.t 25), none⟩,
              ⟨(some 27), .bin .add (.k (.int .i64 1)) (.t 26), none⟩,
              ⟨(some 28), .mv (.t 9), none⟩,
              ⟨(some 29), .bin .add (.t 27) (.t 28), none⟩,
              ⟨(some 30), .call f_law00_from [(.t 24), (.t 29), (.k (.int .i64 3))], none⟩,
              ⟨(some 10), .mv (.t 30), none⟩])
            (.join (.seq (.reg [
               ⟨(some 31), .mv (.t 9), none⟩,
               ⟨(some 32), .bin .eql (.t 31) (.k (.int .i64 1)), none⟩,
               ⟨(some 33), .mv (.t 32), none⟩,
               ⟨(some 34), .mv (.t 10), (some (33, true))⟩,
               ⟨(some 35), .bin .eql (.t 34) (.k (.int .i64 0)), (some (33, true))⟩,
               ⟨(some 36), .pick (.t 33) (.t 35) (.k (.bool false)), none⟩,
               ⟨(some 37), .mv (.t 36), none⟩,
               ⟨(some 38), .iaA (.t 8) (.k (.int .i64 0)) 2 1, (some (37, true))⟩,
               ⟨(some 39), .ld (.t 38) none, (some (37, true))⟩,
               ⟨(some 40), .lenS (.t 39), (some (37, true))⟩,
               ⟨(some 41), .bin .eql (.t 40) (.k (.int .i64 0)), (some (37, true))⟩,
               ⟨(some 42), .pick (.t 37) (.t 41) (.k (.bool false)), none⟩])
             (.cond (.t 42) (.reg [
                ⟨(some 10), .mv (.k (.int .i64 1)), none⟩])
              (.skip)))
            (.seq (.reg [
              ⟨(some 11), .mv (.k (.int .i64 0)), none⟩])
            (.block 4 (.loop (.join (.seq (.reg [
                 ⟨(some 43), .mv (.t 11), none⟩,
                 ⟨(some 44), .mv (.t 10), none⟩,
                 ⟨(some 45), .bin .lss (.t 43) (.t 44), none⟩,
                 ⟨(some 46), .mv (.t 45), none⟩,
                 ⟨(some 47), .mv (.t 6), (some (46, true))⟩,
                 ⟨(some 48), .mv (.t 5), (some (46, true))⟩,
                 ⟨(some 49), .bin .sub (.t 48) (.k (.int .i64 1)), (some (46, true))⟩,
                 ⟨(some 50), .mv (.t 7), (some (46, true))⟩,
                 ⟨(some 51), .bin .sub (.t 49) (.t 50), (some (46, true))⟩,
                 ⟨(some 52), .bin .sub (.k (.int .i64 8)) (.t 51), (some (46, true))⟩,
                 ⟨(some 53), .bin .lss (.t 47) (.t 52), (some (46, true))⟩,
                 ⟨(some 54), .pick (.t 46) (.t 53) (.k (.bool false)), none⟩])
               (.cond (.t 54) (.skip)
                (.exit 4)))
              (.join (.block 5 (.seq (.reg [
                  ⟨(some 57), .mv (.t 9), none⟩,
                  ⟨(some 58), .mv (.t 9), none⟩,
                  ⟨(some 59), .iaA (.t 8) (.t 58) 2 1, none⟩,
                  ⟨(some 60), .ld (.t 59) none, none⟩,
                  ⟨(some 61), .mv (.t 6), none⟩,
                  ⟨(some 62), .bsl e_int 1 [(.t 61)], none⟩,
                  ⟨(some 63), .app e_int 1 8 (.t 60) (.t 62), none⟩,
                  ⟨(some 64), .iaA (.t 8) (.t 57) 2 1, none⟩,
                  ⟨none, .st (.t 64) (.t 63) 1, none⟩])
                (.reg [
                  ⟨(some 65), .mv (.t 6), none⟩,
                  ⟨(some 66), .bin .add (.t 65) (.k (.int .i64 1)), none⟩,
                  ⟨(some 6), .mv (.t 66), none⟩])))
              (.reg [
                ⟨(some 55), .mv (.t 11), none⟩,
                ⟨(some 56), .bin .add (.t 55) (.k (.int .i64 1)), none⟩,
                ⟨(some 11), .mv (.t 56), none⟩])))))))))
          (.reg [
            ⟨(some 22), .mv (.t 9), none⟩,
            ⟨(some 23), .bin .add (.t 22) (.k (.int .i64 1)), none⟩,
            ⟨(some 9), .mv (.t 23), none⟩]))))))
       (.reg [
         ⟨(some 67), .mv (.t 0), none⟩,
         ⟨(some 68), .mv (.t 0), none⟩,
         ⟨(some 69), .nc (.t 68), none⟩,
         ⟨(some 70), .fa (.t 69) 104, none⟩,
         ⟨(some 71), .ld (.t 70) none, none⟩,
         ⟨(some 72), .ld (.t 8) (some 2), none⟩,
         ⟨(some 73), .bsl e_2_int 2 [(.t 72)], none⟩,
         ⟨(some 74), .app e_2_int 2 48 (.t 71) (.t 73), none⟩,
         ⟨(some 75), .nc (.t 67), none⟩,
         ⟨(some 76), .fa (.t 75) 104, none⟩,
         ⟨none, .st (.t 76) (.t 74) 1, none⟩]))))
     (.reg [
       ⟨(some 18), .mv (.t 7), none⟩,
       ⟨(some 19), .bin .add (.t 18) (.k (.int .i64 1)), none⟩,
       ⟨(some 7), .mv (.t 19), none⟩]))))))
  (.seq (.reg [
    ⟨(some 77), .mv (.t 6), none⟩,
    ⟨(some 4), .mv (.t 77), none⟩])
  (.ret)))))⟩
def cc_law00_phase (f_law00_from : Nat) : CFn := ⟨95, [.cell 4 (some 13)],
  .seq (.reg [
    ⟨(some 4), .alloc z13_14216, none⟩])
  (.seq (.reg [
    ⟨(some 6), .mv (.t 0), none⟩,
    ⟨(some 7), .mv (.t 1), none⟩,
    ⟨(some 8), .call f_law00_from [(.t 6), (.t 7), (.k (.int .i64 12))], none⟩,
    ⟨(some 9), .bin .add (.k (.int .i64 1)) (.t 8), none⟩,
    ⟨(some 10), .mv (.t 0), none⟩,
    ⟨(some 11), .mv (.t 1), none⟩,
    ⟨(some 12), .bin .add (.t 11) (.k (.int .i64 1)), none⟩,
    ⟨(some 13), .call f_law00_from [(.t 10), (.t 12), (.k (.int .i64 9))], none⟩,
    ⟨(some 14), .mv (.t 0), none⟩,
    ⟨(some 15), .mv (.t 1), none⟩,
    ⟨(some 16), .bin .add (.t 15) (.k (.int .i64 2)), none⟩,
    ⟨(some 17), .call f_law00_from [(.t 14), (.t 16), (.k (.int .i64 6))], none⟩,
    ⟨(some 18), .bin .add (.k (.int .i64 1)) (.t 17), none⟩,
    ⟨(some 19), .mv (.t 0), none⟩,
    ⟨(some 20), .mv (.t 1), none⟩,
    ⟨(some 21), .bin .add (.t 20) (.k (.int .i64 3)), none⟩,
    ⟨(some 22), .call f_law00_from [(.t 19), (.t 21), (.k (.int .i64 4))], none⟩,
    ⟨(some 23), .bin .add (.k (.int .i64 10)) (.t 22), none⟩,
    ⟨(some 24), .mv (.t 0), none⟩,
    ⟨(some 25), .mv (.t 1), none⟩,
    ⟨(some 26), .bin .add (.t 25) (.k (.int .i64 4)), none⟩,
    ⟨(some 27), .call f_law00_from [(.t 24), (.t 26), (.k (.int .i64 5))], none⟩,
    ⟨(some 28), .build z13_14216 [(0, 1, (.k (.bool true))), (1, 1, (.t 9)), (2, 1, (.t 13)), (5, 1, (.t 18)), (6, 1, (.t 23)), (7, 1, (.t 27))], none⟩,
    ⟨(some 5), .alloc z13_14216, none⟩,
    ⟨none, .st (.t 5) (.t 28) 13, none⟩])
  (.seq (.reg [
    ⟨(some 29), .fa (.t 5) 1, none⟩,
    ⟨(some 30), .ld (.t 29) none, none⟩,
    ⟨(some 31), .mv (.t 0), none⟩,
    ⟨(some 32), .mv (.t 1), none⟩,
    ⟨(some 33), .bin .add (.t 32) (.k (.int .i64 5)), none⟩,
    ⟨(some 34), .call f_law00_from [(.t 31), (.t 33), (.k (.int .i64 25))], none⟩,
    ⟨(some 35), .bin .add (.t 30) (.t 34), none⟩,
    ⟨(some 36), .fa (.t 5) 3, none⟩,
    ⟨none, .st (.t 36) (.t 35) 1, none⟩])
  (.seq (.reg [
    ⟨(some 37), .fa (.t 5) 3, none⟩,
    ⟨(some 38), .ld (.t 37) none, none⟩,
    ⟨(some 39), .mv (.t 0), none⟩,
    ⟨(some 40), .mv (.t 1), none⟩,
    ⟨(some 41), .bin .add (.t 40) (.k (.int .i64 6)), none⟩,
    ⟨(some 42), .call f_law00_from [(.t 39), (.t 41), (.k (.int .i64 15))], none⟩,
    ⟨(some 43), .bin .add (.t 38) (.t 42), none⟩,
    ⟨(some 44), .fa (.t 5) 4, none⟩,
    ⟨none, .st (.t 44) (.t 43) 1, none⟩])
  (.join (.seq (.reg [
     ⟨(some 45), .mv (.t 0), none⟩,
     ⟨(some 46), .mv (.t 1), none⟩,
     ⟨(some 47), .bin .add (.t 46) (.k (.int .i64 7)), none⟩,
     ⟨(some 48), .call f_law00_from [(.t 45), (.t 47), (.k (.int .i64 2))], none⟩,
     ⟨(some 49), .bin .eql (.t 48) (.k (.int .i64 1)), none⟩])
   (.cond (.t 49) (.seq (.reg [
      ⟨(some 50), .mv (.t 0), none⟩,
      ⟨(some 51), .mv (.t 1), none⟩,
      ⟨(some 52), .bin .add (.t 51) (.k (.int .i64 8)), none⟩,
      ⟨(some 53), .call f_law00_from [(.t 50), (.t 52), (.k (.int .i64 10))], none⟩,
      ⟨(some 54), .bin .add (.k (.int .i64 1)) (.t 53), none⟩,
      ⟨(some 55), .fa (.t 5) 8, none⟩,
      ⟨none, .st (.t 55) (.t 54) 1, none⟩])
    (.reg [
      ⟨(some 56), .mv (.t 0), none⟩,
      ⟨(some 57), .mv (.t 1), none⟩,
      ⟨(some 58), .bin .add (.t 57) (.k (.int .i64 8)), none⟩,
      ⟨(some 59), .call f_law00_from [(.t 56), (.t 58), (.k (.int .i64 97))], none⟩,
      ⟨(some 60), .bin .quo (.t 59) (.k (.int .i64 10)), none⟩,
      ⟨(some 61), .bin .add (.k (.int .i64 1)) (.t 60), none⟩,
      ⟨(some 62), .fa (.t 5) 9, none⟩,
      ⟨none, .st (.t 62) (.t 61) 1, none⟩]))
    (.skip)))
  (.seq (.reg [
    ⟨(some 63), .mv (.t 0), none⟩,
    ⟨(some 64), .mv (.t 1), none⟩,
    ⟨(some 65), .bin .add (.t 64) (.k (.int .i64 9)), none⟩,
    ⟨(some 66), .call f_law00_from [(.t 63), (.t 65), (.k (.int .i64 7))], none⟩,
    ⟨(some 67), .fa (.t 5) 10, none⟩,
    ⟨none, .st (.t 67) (.t 66) 1, none⟩])
  (.join (.seq (.reg [
     ⟨(some 68), .fa (.t 5) 10, none⟩,
     ⟨(some 69), .ld (.t 68) none, none⟩,
     ⟨(some 70), .bin .gtr (.t 69) (.k (.int .i64 3)), none⟩,
     ⟨(some 71), .mv (.t 70), none⟩,
     ⟨(some 72), .fa (.t 5) 10, (some (71, false))⟩,
     ⟨(some 73), .ld (.t 72) none, (some (71, false))⟩,
     ⟨(some 74), .bin .eql (.t 73) (.k (.int .i64 3)), (some (71, false))⟩,
     ⟨(some 75), .mv (.t 74), (some (71, false))⟩,
     ⟨(some 76), .fa (.t 5) 8, (some (75, true))⟩,
     ⟨(some 77), .ld (.t 76) none, (some (75, true))⟩,
     ⟨(some 78), .bin .eql (.t 77) (.k (.int .i64 0)), (some (75, true))⟩,
     ⟨(some 79), .pick (.t 75) (.t 78) (.k (.bool false)), (some (71, false))⟩,
     ⟨(some 80), .pick (.t 71) (.k (.bool true)) (.t 79), none⟩])
   (.cond (.t 80) (.reg [
      ⟨(some 81), .fa (.t 5) 10, none⟩,
      ⟨none, .st (.t 81) (.k (.int .i64 0)) 1, none⟩])
    (.skip)))
  (.seq (.reg [
    ⟨(some 82), .mv (.t 0), none⟩,
    ⟨(some 83), .mv (.t 1), none⟩,
    ⟨(some 84), .bin .add (.t 83) (.k (.int .i64 10)), none⟩,
    ⟨(some 85), .call f_law00_from [(.t 82), (.t 84), (.k (.int .i64 3))], none⟩,
    ⟨(some 86), .bin .gtr (.t 85) (.k (.int .i64 0)), none⟩,
    ⟨(some 87), .fa (.t 5) 11, none⟩,
    ⟨none, .st (.t 87) (.t 86) 1, none⟩])
  (.seq (.reg [
    ⟨(some 88), .mv (.t 0), none⟩,
    ⟨(some 89), .mv (.t 1), none⟩,
    ⟨(some 90), .bin .add (.t 89) (.k (.int .i64 11)), none⟩,
    ⟨(some 91), .call f_law00_from [(.t 88), (.t 90), (.k (.int .i64 4))], none⟩,
    ⟨(some 92), .bin .eql (.t 91) (.k (.int .i64 1)), none⟩,
    ⟨(some 93), .fa (.t 5) 12, none⟩,
    ⟨none, .st (.t 93) (.t 92) 1, none⟩])
  (.seq (.reg [
    ⟨(some 94), .ld (.t 5) (some 13), none⟩,
    ⟨none, .st (.t 4) (.t 94) 13, none⟩])
  (.ret))))))))))⟩
def cc_ref08_Beside (f_ref08_Where : Nat) : CFn := ⟨41, [.tmp 6],
  .seq (.reg [
    ⟨(some 3), .box (.t 0), none⟩,
    ⟨(some 6), .mv (.k (.bool false)), none⟩])
  (.seq (.reg [
    ⟨(some 12), .ld (.t 3) (some 131), none⟩,
    ⟨(some 13), .mv (.t 1), none⟩,
    ⟨(some 14), .call f_ref08_Where [(.t 12), (.t 13)], none⟩,
    ⟨(some 11), .mv (.t 14), none⟩,
    ⟨(some 15), .ext (.t 11) 0, none⟩,
    ⟨(some 16), .ext (.t 11) 1, none⟩,
    ⟨(some 7), .alloc [(.int .i64 0), (.int .i64 0), (.int .i64 0), (.int .i64 0)], none⟩,
    ⟨none, .st (.t 7) (.t 15) 4, none⟩,
    ⟨(some 8), .mv (.t 16), none⟩])
  (.seq (.reg [
    ⟨(some 18), .ld (.t 3) (some 131), none⟩,
    ⟨(some 19), .mv (.t 2), none⟩,
    ⟨(some 20), .call f_ref08_Where [(.t 18), (.t 19)], none⟩,
    ⟨(some 17), .mv (.t 20), none⟩,
    ⟨(some 21), .ext (.t 17) 0, none⟩,
    ⟨(some 22), .ext (.t 17) 1, none⟩,
    ⟨(some 9), .alloc [(.int .i64 0), (.int .i64 0), (.int .i64 0), (.int .i64 0)], none⟩,
    ⟨none, .st (.t 9) (.t 21) 4, none⟩,
    ⟨(some 10), .mv (.t 22), none⟩])
  (.seq (.reg [
    ⟨(some 23), .mv (.t 8), none⟩,
    ⟨(some 24), .mv (.t 23), none⟩,
    ⟨(some 25), .mv (.t 10), (some (24, true))⟩,
    ⟨(some 26), .pick (.t 24) (.t 25) (.k (.bool false)), none⟩,
    ⟨(some 27), .mv (.t 26), none⟩,
    ⟨(some 28), .fa (.t 7) 0, (some (27, true))⟩,
    ⟨(some 29), .ld (.t 28) none, (some (27, true))⟩,
    ⟨(some 30), .fa (.t 9) 0, (some (27, true))⟩,
    ⟨(some 31), .ld (.t 30) none, (some (27, true))⟩,
    ⟨(some 32), .bin .eql (.t 29) (.t 31), (some (27, true))⟩,
    ⟨(some 33), .pick (.t 27) (.t 32) (.k (.bool false)), none⟩,
    ⟨(some 34), .mv (.t 33), none⟩,
    ⟨(some 35), .fa (.t 7) 1, (some (34, true))⟩,
    ⟨(some 36), .ld (.t 35) none, (some (34, true))⟩,
    ⟨(some 37), .fa (.t 9) 1, (some (34, true))⟩,
    ⟨(some 38), .ld (.t 37) none, (some (34, true))⟩,
    ⟨(some 39), .bin .neq (.t 36) (.t 38), (some (34, true))⟩,
    ⟨(some 40), .pick (.t 34) (.t 39) (.k (.bool false)), none⟩,
    ⟨(some 6), .mv (.t 40), none⟩])
  (.ret))))⟩
def cc_law00_from (f_law00_At f_law00_Place : Nat) : CFn := ⟨12, [.tmp 6],
  .seq (.reg [
    ⟨(some 6), .mv (.k (.int .i64 0)), none⟩])
  (.seq (.reg [
    ⟨(some 7), .mv (.t 0), none⟩,
    ⟨(some 8), .mv (.t 1), none⟩,
    ⟨(some 9), .call f_law00_At [(.t 7), (.t 8)], none⟩,
    ⟨(some 10), .mv (.t 2), none⟩,
    ⟨(some 11), .call f_law00_Place [(.t 9), (.t 10)], none⟩,
    ⟨(some 6), .mv (.t 11), none⟩])
  (.ret))⟩
def cc_ref01_With (f_ref01_List e_int f_ref01_Of : Nat) : CFn := ⟨11, [.tmp 4],
  .seq (.reg [
    ⟨(some 4), .mv (.k (.int .i64 0)), none⟩])
  (.seq (.reg [
    ⟨(some 5), .mv (.t 0), none⟩,
    ⟨(some 6), .call f_ref01_List [(.t 5)], none⟩,
    ⟨(some 7), .mv (.t 1), none⟩,
    ⟨(some 8), .bsl e_int 1 [(.t 7)], none⟩,
    ⟨(some 9), .app e_int 1 8 (.t 6) (.t 8), none⟩,
    ⟨(some 10), .call f_ref01_Of [(.t 9)], none⟩,
    ⟨(some 4), .mv (.t 10), none⟩])
  (.ret))⟩
def cc_law00_detector (f_law00_from : Nat) : CFn := ⟨66, [.cell 6 (some 7)],
  .seq (.reg [
    ⟨(some 6), .alloc [(.int .i64 0), (.float .f64 0), (.float .f64 0), (.float .f64 0), (.float .f64 0), (.int .i64 0), (.int .i64 0)], none⟩])
  (.seq (.reg [
    ⟨(some 8), .mv (.t 0), none⟩,
    ⟨(some 9), .mv (.t 1), none⟩,
    ⟨(some 10), .mv (.t 2), none⟩,
    ⟨(some 11), .call f_law00_from [(.t 8), (.t 9), (.t 10)], none⟩,
    ⟨(some 12), .build [(.float .f64 0), (.float .f64 0), (.float .f64 0), (.float .f64 0)] [(0, 1, (.k (.float .f64 4617315517961601024))), (1, 1, (.k (.float .f64 4621819117588971520))), (2, 1, (.k (.float .f64 4607182418800017408))), (3, 1, (.k (.float .f64 4602678819172646912)))], none⟩,
    ⟨(some 13), .mv (.t 0), none⟩,
    ⟨(some 14), .mv (.t 1), none⟩,
    ⟨(some 15), .bin .add (.t 14) (.k (.int .i64 1)), none⟩,
    ⟨(some 16), .call f_law00_from [(.t 13), (.t 15), (.k (.int .i64 4))], none⟩,
    ⟨(some 17), .ixA (.t 12) (.t 16) 4 1 none, none⟩,
    ⟨(some 18), .build [(.int .i64 0), (.float .f64 0), (.float .f64 0), (.float .f64 0), (.float .f64 0), (.int .i64 0), (.int .i64 0)] [(0, 1, (.t 11)), (1, 1, (.t 17))], none⟩,
    ⟨(some 7), .alloc [(.int .i64 0), (.float .f64 0), (.float .f64 0), (.float .f64 0), (.float .f64 0), (.int .i64 0), (.int .i64 0)], none⟩,
    ⟨none, .st (.t 7) (.t 18) 7, none⟩])
  (.seq (.reg [
    ⟨(some 19), .fa (.t 7) 1, none⟩,
    ⟨(some 20), .ld (.t 19) none, none⟩,
    ⟨(some 21), .build [(.float .f64 0), (.float .f64 0), (.float .f64 0)] [(0, 1, (.k (.float .f64 4602678819172646912))), (1, 1, (.k (.float .f64 4607182418800017408))), (2, 1, (.k (.float .f64 4598175219545276416)))], none⟩,
    ⟨(some 22), .mv (.t 0), none⟩,
    ⟨(some 23), .mv (.t 1), none⟩,
    ⟨(some 24), .bin .add (.t 23) (.k (.int .i64 2)), none⟩,
    ⟨(some 25), .call f_law00_from [(.t 22), (.t 24), (.k (.int .i64 3))], none⟩,
    ⟨(some 26), .ixA (.t 21) (.t 25) 3 1 none, none⟩,
    ⟨(some 27), .bin .mul (.t 20) (.t 26), none⟩,
    ⟨(some 28), .fa (.t 7) 2, none⟩,
    ⟨none, .st (.t 28) (.t 27) 1, none⟩])
  (.seq (.reg [
    ⟨(some 29), .mv (.t 0), none⟩,
    ⟨(some 30), .mv (.t 1), none⟩,
    ⟨(some 31), .bin .add (.t 30) (.k (.int .i64 3)), none⟩,
    ⟨(some 32), .call f_law00_from [(.t 29), (.t 31), (.k (.int .i64 4))], none⟩,
    ⟨(some 33), .cvIF .f64 (.t 32), none⟩,
    ⟨(some 34), .bin .quo (.t 33) (.k (.float .f64 4621819117588971520)), none⟩,
    ⟨(some 35), .fa (.t 7) 3, none⟩,
    ⟨none, .st (.t 35) (.t 34) 1, none⟩])
  (.seq (.reg [
    ⟨(some 36), .mv (.t 0), none⟩,
    ⟨(some 37), .mv (.t 1), none⟩,
    ⟨(some 38), .bin .add (.t 37) (.k (.int .i64 4)), none⟩,
    ⟨(some 39), .call f_law00_from [(.t 36), (.t 38), (.k (.int .i64 6))], none⟩,
    ⟨(some 40), .cvIF .f64 (.t 39), none⟩,
    ⟨(some 41), .bin .quo (.t 40) (.k (.float .f64 4621819117588971520)), none⟩,
    ⟨(some 42), .fa (.t 7) 4, none⟩,
    ⟨none, .st (.t 42) (.t 41) 1, none⟩])
  (.join (.seq (.reg [
     ⟨(some 43), .mv (.t 0), none⟩,
     ⟨(some 44), .mv (.t 1), none⟩,
     ⟨(some 45), .bin .add (.t 44) (.k (.int .i64 5)), none⟩,
     ⟨(some 46), .call f_law00_from [(.t 43), (.t 45), (.k (.int .i64 3))], none⟩,
     ⟨(some 47), .bin .eql (.t 46) (.k (.int .i64 1)), none⟩])
   (.cond (.t 47) (.reg [
      ⟨(some 48), .mv (.t 0), none⟩,
      ⟨(some 49), .mv (.t 1), none⟩,
      ⟨(some 50), .bin .add (.t 49) (.k (.int .i64 6)), none⟩,
      ⟨(some 51), .call f_law00_from [(.t 48), (.t 50), (.k (.int .i64 60))], none⟩,
      ⟨(some 52), .bin .add (.k (.int .i64 20)) (.t 51), none⟩,
      ⟨(some 53), .fa (.t 7) 5, none⟩,
      ⟨none, .st (.t 53) (.t 52) 1, none⟩])
    (.skip)))
  (.join (.seq (.reg [
     ⟨(some 54), .mv (.t 0), none⟩,
     ⟨(some 55), .mv (.t 1), none⟩,
     ⟨(some 56), .bin .add (.t 55) (.k (.int .i64 5)), none⟩,
     ⟨(some 57), .call f_law00_from [(.t 54), (.t 56), (.k (.int .i64 9))], none⟩,
     ⟨(some 58), .bin .eql (.t 57) (.k (.int .i64 2)), none⟩])
   (.cond (.t 58) (.reg [
      ⟨(some 59), .mv (.t 0), none⟩,
      ⟨(some 60), .mv (.t 1), none⟩,
      ⟨(some 61), .bin .add (.t 60) (.k (.int .i64 7)), none⟩,
      ⟨(some 62), .call f_law00_from [(.t 59), (.t 61), (.k (.int .i64 300))], none⟩,
      ⟨(some 63), .bin .add (.k (.int .i64 60)) (.t 62), none⟩,
      ⟨(some 64), .fa (.t 7) 6, none⟩,
      ⟨none, .st (.t 64) (.t 63) 1, none⟩])
    (.skip)))
  (.seq (.reg [
    ⟨(some 65), .ld (.t 7) (some 7), none⟩,
    ⟨none, .st (.t 6) (.t 65) 7, none⟩])
  (.ret))))))))⟩
def cc_law00_rail (f_law00_from f_law00_with : Nat) : CFn := ⟨119, [.cell 8 (some 11)],
  .seq (.reg [
    ⟨(some 4), .box (.t 0), none⟩,
    ⟨(some 8), .alloc z11_58867, none⟩])
  (.seq (.reg [
    ⟨(some 11), .ld (.t 4) (some 131), none⟩,
    ⟨(some 12), .mv (.t 1), none⟩,
    ⟨(some 13), .mv (.t 2), none⟩,
    ⟨(some 14), .mv (.t 3), none⟩,
    ⟨(some 15), .call f_law00_from [(.t 12), (.t 13), (.t 14)], none⟩,
    ⟨(some 16), .mv (.t 1), none⟩,
    ⟨(some 17), .mv (.t 2), none⟩,
    ⟨(some 18), .bin .add (.t 17) (.k (.int .i64 1)), none⟩,
    ⟨(some 19), .mv (.t 3), none⟩,
    ⟨(some 20), .call f_law00_from [(.t 16), (.t 18), (.t 19)], none⟩,
    ⟨(some 21), .call f_law00_with [(.t 11), (.t 15), (.t 20)], none⟩,
    ⟨(some 22), .ld (.t 4) (some 131), none⟩,
    ⟨(some 23), .mv (.t 1), none⟩,
    ⟨(some 24), .mv (.t 2), none⟩,
    ⟨(some 25), .bin .add (.t 24) (.k (.int .i64 2)), none⟩,
    ⟨(some 26), .mv (.t 3), none⟩,
    ⟨(some 27), .call f_law00_from [(.t 23), (.t 25), (.t 26)], none⟩,
    ⟨(some 28), .mv (.t 1), none⟩,
    ⟨(some 29), .mv (.t 2), none⟩,
    ⟨(some 30), .bin .add (.t 29) (.k (.int .i64 3)), none⟩,
    ⟨(some 31), .mv (.t 3), none⟩,
    ⟨(some 32), .call f_law00_from [(.t 28), (.t 30), (.t 31)], none⟩,
    ⟨(some 33), .call f_law00_with [(.t 22), (.t 27), (.t 32)], none⟩,
    ⟨(some 34), .build z11_58867 [(2, 1, (.t 21)), (3, 1, (.t 33))], none⟩,
    ⟨(some 9), .alloc z11_58867, none⟩,
    ⟨none, .st (.t 9) (.t 34) 11, none⟩])
  (.join (.seq (.reg [
     ⟨(some 35), .mv (.t 1), none⟩,
     ⟨(some 36), .mv (.t 2), none⟩,
     ⟨(some 37), .bin .add (.t 36) (.k (.int .i64 4)), none⟩,
     ⟨(some 38), .mv (.t 3), none⟩,
     ⟨(some 39), .bin .add (.t 38) (.k (.int .i64 1)), none⟩,
     ⟨(some 40), .call f_law00_from [(.t 35), (.t 37), (.t 39)], none⟩,
     ⟨(some 10), .mv (.t 40), none⟩])
   (.seq (.reg [
     ⟨(some 41), .mv (.t 10), none⟩,
     ⟨(some 42), .mv (.t 3), none⟩,
     ⟨(some 43), .bin .lss (.t 41) (.t 42), none⟩])
   (.cond (.t 43) (.seq (.reg [
      ⟨(some 44), .ld (.t 4) (some 131), none⟩,
      ⟨(some 45), .mv (.t 10), none⟩,
      ⟨(some 46), .mv (.t 1), none⟩,
      ⟨(some 47), .mv (.t 2), none⟩,
      ⟨(some 48), .bin .add (.t 47) (.k (.int .i64 5)), none⟩,
      ⟨(some 49), .mv (.t 3), none⟩,
      ⟨(some 50), .call f_law00_from [(.t 46), (.t 48), (.t 49)], none⟩,
      ⟨(some 51), .call f_law00_with [(.t 44), (.t 45), (.t 50)], none⟩,
      ⟨(some 52), .fa (.t 9) 1, none⟩,
      ⟨none, .st (.t 52) (.t 51) 1, none⟩])
    (.reg [
      ⟨(some 53), .mv (.t 1), none⟩,
      ⟨(some 54), .mv (.t 2), none⟩,
      ⟨(some 55), .bin .add (.t 54) (.k (.int .i64 6)), none⟩,
      ⟨(some 56), .call f_law00_from [(.t 53), (.t 55), (.k (.int .i64 10))], none⟩,
      ⟨(some 57), .bin .add (.k (.int .i64 1)) (.t 56), none⟩,
      ⟨(some 58), .fa (.t 9) 7, none⟩,
      ⟨none, .st (.t 58) (.t 57) 1, none⟩]))
    (.skip))))
  (.seq (.reg [
    ⟨(some 59), .mv (.t 1), none⟩,
    ⟨(some 60), .mv (.t 2), none⟩,
    ⟨(some 61), .bin .add (.t 60) (.k (.int .i64 7)), none⟩,
    ⟨(some 62), .call f_law00_from [(.t 59), (.t 61), (.k (.int .i64 256))], none⟩,
    ⟨(some 63), .mv (.t 3), none⟩,
    ⟨(some 64), .cvII .u64 (.t 63), none⟩,
    ⟨(some 65), .bin .shl (.k (.int .i64 1)) (.t 64), none⟩,
    ⟨(some 66), .bin .sub (.t 65) (.k (.int .i64 1)), none⟩,
    ⟨(some 67), .bin .and (.t 62) (.t 66), none⟩,
    ⟨(some 68), .fa (.t 9) 2, none⟩,
    ⟨(some 69), .ld (.t 68) none, none⟩,
    ⟨(some 70), .bin .andNot (.t 67) (.t 69), none⟩,
    ⟨(some 71), .fa (.t 9) 0, none⟩,
    ⟨none, .st (.t 71) (.t 70) 1, none⟩])
  (.seq (.reg [
    ⟨(some 72), .mv (.t 1), none⟩,
    ⟨(some 73), .mv (.t 2), none⟩,
    ⟨(some 74), .bin .add (.t 73) (.k (.int .i64 8)), none⟩,
    ⟨(some 75), .call f_law00_from [(.t 72), (.t 74), (.k (.int .i64 4))], none⟩,
    ⟨(some 76), .fa (.t 9) 4, none⟩,
    ⟨none, .st (.t 76) (.t 75) 1, none⟩])
  (.seq (.reg [
    ⟨(some 77), .mv (.t 1), none⟩,
    ⟨(some 78), .mv (.t 2), none⟩,
    ⟨(some 79), .bin .add (.t 78) (.k (.int .i64 9)), none⟩,
    ⟨(some 80), .call f_law00_from [(.t 77), (.t 79), (.k (.int .i64 6))], none⟩,
    ⟨(some 81), .bin .add (.k (.int .i64 1)) (.t 80), none⟩,
    ⟨(some 82), .fa (.t 9) 5, none⟩,
    ⟨none, .st (.t 82) (.t 81) 1, none⟩])
  (.seq (.reg [
    ⟨(some 83), .mv (.t 1), none⟩,
    ⟨(some 84), .mv (.t 2), none⟩,
    ⟨(some 85), .bin .add (.t 84) (.k (.int .i64 10)), none⟩,
    ⟨(some 86), .call f_law00_from [(.t 83), (.t 85), (.k (.int .i64 6))], none⟩,
    ⟨(some 87), .fa (.t 9) 6, none⟩,
    ⟨none, .st (.t 87) (.t 86) 1, none⟩])
  (.seq (.reg [
    ⟨(some 88), .mv (.t 1), none⟩,
    ⟨(some 89), .mv (.t 2), none⟩,
    ⟨(some 90), .bin .add (.t 89) (.k (.int .i64 11)), none⟩,
    ⟨(some 91), .call f_law00_from [(.t 88), (.t 90), (.k (.int .i64 15))], none⟩,
    ⟨(some 92), .bin .add (.k (.int .i64 1)) (.t 91), none⟩,
    ⟨(some 93), .fa (.t 9) 8, none⟩,
    ⟨none, .st (.t 93) (.t 92) 1, none⟩])
  (.join (.seq (.reg [
     ⟨(some 94), .mv (.t 1), none⟩,
     ⟨(some 95), .mv (.t 2), none⟩,
     ⟨(some 96), .bin .add (.t 95) (.k (.int .i64 12)), none⟩,
     ⟨(some 97), .call f_law00_from [(.t 94), (.t 96), (.k (.int .i64 3))], none⟩,
     ⟨(some 98), .bin .eql (.t 97) (.k (.int .i64 1)), none⟩])
   (.cond (.t 98) (.reg [
      ⟨(some 99), .fa (.t 9) 8, none⟩,
      ⟨(some 100), .ld (.t 99) none, none⟩,
      ⟨(some 101), .mv (.t 1), none⟩,
      ⟨(some 102), .mv (.t 2), none⟩,
      ⟨(some 103), .bin .add (.t 102) (.k (.int .i64 13)), none⟩,
      ⟨(some 104), .call f_law00_from [(.t 101), (.t 103), (.k (.int .i64 30))], none⟩,
      ⟨(some 105), .bin .add (.t 100) (.t 104), none⟩,
      ⟨(some 106), .fa (.t 9) 9, none⟩,
      ⟨none, .st (.t 106) (.t 105) 1, none⟩])
    (.skip)))
  (.seq (.reg [
    ⟨(some 107), .fa (.t 9) 4, none⟩,
    ⟨(some 108), .ld (.t 107) none, none⟩,
    ⟨(some 109), .bin .add (.t 108) (.k (.int .i64 1)), none⟩,
    ⟨(some 110), .build [(.int .i64 0), (.int .i64 0), (.int .i64 0)] [(0, 1, (.k (.int .i64 10000))), (1, 1, (.k (.int .i64 400))), (2, 1, (.k (.int .i64 20)))], none⟩,
    ⟨(some 111), .mv (.t 1), none⟩,
    ⟨(some 112), .mv (.t 2), none⟩,
    ⟨(some 113), .bin .add (.t 112) (.k (.int .i64 14)), none⟩,
    ⟨(some 114), .call f_law00_from [(.t 111), (.t 113), (.k (.int .i64 3))], none⟩,
    ⟨(some 115), .ixA (.t 110) (.t 114) 3 1 none, none⟩,
    ⟨(some 116), .bin .add (.t 109) (.t 115), none⟩,
    ⟨(some 117), .fa (.t 9) 10, none⟩,
    ⟨none, .st (.t 117) (.t 116) 1, none⟩])
  (.seq (.reg [
    ⟨(some 118), .ld (.t 9) (some 11), none⟩,
    ⟨none, .st (.t 8) (.t 118) 11, none⟩])
  (.ret)))))))))))⟩
def cc_ref08_Wait (f_ref08_Free e_int f_ref08_sum f_ref08_Over f_ref01_Mul : Nat) : CFn := ⟨32, [.tmp 4],
  .seq (.reg [
    ⟨(some 2), .box (.t 0), none⟩,
    ⟨(some 4), .mv (.k (.int .i64 0)), none⟩])
  (.seq (.reg [
    ⟨(some 6), .ld (.t 2) (some 131), none⟩,
    ⟨(some 7), .mv (.t 1), none⟩,
    ⟨(some 8), .call f_ref08_Free [(.t 6), (.t 7)], none⟩,
    ⟨(some 5), .mv (.t 8), none⟩])
  (.join (.seq (.reg [
     ⟨(some 9), .mv (.t 5), none⟩,
     ⟨(some 10), .bin .eql (.t 9) (.k (.int .i64 0)), none⟩,
     ⟨(some 11), .mv (.t 10), none⟩,
     ⟨(some 12), .fa (.t 2) 114, (some (11, false))⟩,
     ⟨(some 13), .ld (.t 12) none, (some (11, false))⟩,
     ⟨(some 14), .lenS (.t 13), (some (11, false))⟩,
     ⟨(some 15), .bin .eql (.t 14) (.k (.int .i64 0)), (some (11, false))⟩,
     ⟨(some 16), .pick (.t 11) (.k (.bool true)) (.t 15), none⟩])
   (.cond (.t 16) (.seq (.reg [
      ⟨(some 17), .mv (.t 5), none⟩,
      ⟨(some 4), .mv (.t 17), none⟩])
    (.ret))
    (.skip)))
  (.seq (.reg [
    ⟨(some 18), .fa (.t 2) 130, none⟩,
    ⟨(some 19), .ld (.t 18) none, none⟩,
    ⟨(some 20), .bsl e_int 1 [(.t 19), (.k (.int .i64 1))], none⟩,
    ⟨(some 21), .call f_ref08_sum [(.t 20)], none⟩,
    ⟨(some 22), .ld (.t 2) (some 131), none⟩,
    ⟨(some 23), .call f_ref08_Over [(.t 22)], none⟩,
    ⟨(some 24), .mv (.t 5), none⟩,
    ⟨(some 25), .bsl e_int 1 [(.t 23), (.t 24), (.k (.int .i64 2))], none⟩,
    ⟨(some 26), .call f_ref08_sum [(.t 25)], none⟩,
    ⟨(some 27), .call f_ref01_Mul [(.t 21), (.t 26)], none⟩,
    ⟨(some 28), .fa (.t 2) 130, none⟩,
    ⟨(some 29), .ld (.t 28) none, none⟩,
    ⟨(some 30), .bsl e_int 1 [(.t 27), (.t 29)], none⟩,
    ⟨(some 31), .call f_ref08_sum [(.t 30)], none⟩,
    ⟨(some 4), .mv (.t 31), none⟩])
  (.ret))))⟩
def cc_set_Has (f_set_bit : Nat) : CFn := ⟨10, [.tmp 4],
  .seq (.reg [
    ⟨(some 4), .mv (.k (.bool false)), none⟩])
  (.seq (.reg [
    ⟨(some 5), .mv (.t 0), none⟩,
    ⟨(some 6), .mv (.t 1), none⟩,
    ⟨(some 7), .call f_set_bit [(.t 6)], none⟩,
    ⟨(some 8), .bin .and (.t 5) (.t 7), none⟩,
    ⟨(some 9), .bin .neq (.t 8) (.k (.int .i64 0)), none⟩,
    ⟨(some 4), .mv (.t 9), none⟩])
  (.ret))⟩
def cc_ref08_Where (f_ref08_Spots : Nat) : CFn := ⟨28, [.cell 4 (some 4), .tmp 5],
  .seq (.reg [
    ⟨(some 2), .box (.t 0), none⟩,
    ⟨(some 4), .alloc [(.int .i64 0), (.int .i64 0), (.int .i64 0), (.int .i64 0)], none⟩,
    ⟨(some 5), .mv (.k (.bool false)), none⟩])
  (.seq (.reg [
    ⟨(some 8), .ld (.t 2) (some 131), none⟩,
    ⟨(some 9), .call f_ref08_Spots [(.t 8)], none⟩,
    ⟨(some 6), .mv (.t 9), none⟩])
  (.join (.seq (.reg [
     ⟨(some 7), .mv (.k (.int .i64 0)), none⟩])
   (.block 0 (.loop (.join (.seq (.reg [
        ⟨(some 10), .mv (.t 7), none⟩,
        ⟨(some 11), .mv (.t 6), none⟩,
        ⟨(some 12), .lenS (.t 11), none⟩,
        ⟨(some 13), .bin .lss (.t 10) (.t 12), none⟩])
      (.cond (.t 13) (.skip)
       (.exit 0)))
     (.join (.block 1 (.seq (.reg [
         ⟨(some 16), .mv (.t 6), none⟩,
         ⟨(some 17), .mv (.t 7), none⟩,
         ⟨(some 18), .iaS (.t 16) (.t 17) 4, none⟩,
         ⟨(some 19), .fa (.t 18) 3, none⟩,
         ⟨(some 20), .ld (.t 19) none, none⟩,
         ⟨(some 21), .mv (.t 1), none⟩,
         ⟨(some 22), .bin .eql (.t 20) (.t 21), none⟩])
       (.cond (.t 22) (.seq (.reg [
          ⟨(some 23), .mv (.t 6), none⟩,
          ⟨(some 24), .mv (.t 7), none⟩,
          ⟨(some 25), .iaS (.t 23) (.t 24) 4, none⟩,
          ⟨(some 26), .ld (.t 25) (some 4), none⟩,
          ⟨none, .st (.t 4) (.t 26) 4, none⟩,
          ⟨(some 5), .mv (.k (.bool true)), none⟩])
        (.ret))
        (.skip))))
     (.reg [
       ⟨(some 14), .mv (.t 7), none⟩,
       ⟨(some 15), .bin .add (.t 14) (.k (.int .i64 1)), none⟩,
       ⟨(some 7), .mv (.t 15), none⟩]))))))
  (.seq (.reg [
    ⟨(some 27), .build [(.int .i64 0), (.int .i64 0), (.int .i64 0), (.int .i64 0)] [], none⟩,
    ⟨none, .st (.t 4) (.t 27) 4, none⟩,
    ⟨(some 5), .mv (.k (.bool false)), none⟩])
  (.ret))))⟩
def cc_law00_At : CFn := ⟨17, [.tmp 4],
  .seq (.reg [
    ⟨(some 4), .mv (.k (.int .i64 0)), none⟩])
  (.join (.seq (.reg [
     ⟨(some 5), .mv (.t 1), none⟩,
     ⟨(some 6), .bin .lss (.t 5) (.k (.int .i64 0)), none⟩,
     ⟨(some 7), .mv (.t 6), none⟩,
     ⟨(some 8), .mv (.t 1), (some (7, false))⟩,
     ⟨(some 9), .mv (.t 0), (some (7, false))⟩,
     ⟨(some 10), .lenS (.t 9), (some (7, false))⟩,
     ⟨(some 11), .bin .geq (.t 8) (.t 10), (some (7, false))⟩,
     ⟨(some 12), .pick (.t 7) (.k (.bool true)) (.t 11), none⟩])
   (.cond (.t 12) (.seq (.reg [
      ⟨(some 4), .mv (.k (.int .i64 0)), none⟩])
    (.ret))
    (.skip)))
  (.seq (.reg [
    ⟨(some 13), .mv (.t 0), none⟩,
    ⟨(some 14), .mv (.t 1), none⟩,
    ⟨(some 15), .iaS (.t 13) (.t 14) 1, none⟩,
    ⟨(some 16), .ld (.t 15) none, none⟩,
    ⟨(some 4), .mv (.t 16), none⟩])
  (.ret)))⟩
def cc_ref01_List (f_ref01_Has e_int : Nat) : CFn := ⟨17, [.tmp 2],
  .seq (.reg [
    ⟨(some 2), .mv (.k .nils), none⟩])
  (.seq (.reg [
    ⟨(some 3), .mv (.k .nils), none⟩])
  (.join (.seq (.reg [
     ⟨(some 4), .mv (.k (.int .i64 0)), none⟩])
   (.block 0 (.loop (.join (.seq (.reg [
        ⟨(some 5), .mv (.t 4), none⟩,
        ⟨(some 6), .bin .lss (.t 5) (.k (.int .i64 8)), none⟩])
      (.cond (.t 6) (.skip)
       (.exit 0)))
     (.join (.block 1 (.seq (.reg [
         ⟨(some 9), .mv (.t 0), none⟩,
         ⟨(some 10), .mv (.t 4), none⟩,
         ⟨(some 11), .call f_ref01_Has [(.t 9), (.t 10)], none⟩])
       (.cond (.t 11) (.reg [
          ⟨(some 12), .mv (.t 3), none⟩,
          ⟨(some 13), .mv (.t 4), none⟩,
          ⟨(some 14), .bsl e_int 1 [(.t 13)], none⟩,
          ⟨(some 15), .app e_int 1 8 (.t 12) (.t 14), none⟩,
          ⟨(some 3), .mv (.t 15), none⟩])
        (.skip))))
     (.reg [
       ⟨(some 7), .mv (.t 4), none⟩,
       ⟨(some 8), .bin .add (.t 7) (.k (.int .i64 1)), none⟩,
       ⟨(some 4), .mv (.t 8), none⟩]))))))
  (.seq (.reg [
    ⟨(some 16), .mv (.t 3), none⟩,
    ⟨(some 2), .mv (.t 16), none⟩])
  (.ret))))⟩
def cc_law00_with (e_int f_ref01_Of f_ref08_Beside f_ref01_With : Nat) : CFn := ⟨19, [.tmp 6],
  .seq (.reg [
    ⟨(some 3), .box (.t 0), none⟩,
    ⟨(some 6), .mv (.k (.int .i64 0)), none⟩])
  (.seq (.reg [
    ⟨(some 8), .mv (.t 1), none⟩,
    ⟨(some 9), .bsl e_int 1 [(.t 8)], none⟩,
    ⟨(some 10), .call f_ref01_Of [(.t 9)], none⟩,
    ⟨(some 7), .mv (.t 10), none⟩])
  (.join (.seq (.reg [
     ⟨(some 11), .ld (.t 3) (some 131), none⟩,
     ⟨(some 12), .mv (.t 1), none⟩,
     ⟨(some 13), .mv (.t 2), none⟩,
     ⟨(some 14), .call f_ref08_Beside [(.t 11), (.t 12), (.t 13)], none⟩])
   (.cond (.t 14) (.reg [
      ⟨(some 15), .mv (.t 7), none⟩,
      ⟨(some 16), .mv (.t 2), none⟩,
      ⟨(some 17), .call f_ref01_With [(.t 15), (.t 16)], none⟩,
      ⟨(some 7), .mv (.t 17), none⟩])
    (.skip)))
  (.seq (.reg [
    ⟨(some 18), .mv (.t 7), none⟩,
    ⟨(some 6), .mv (.t 18), none⟩])
  (.ret))))⟩
def cc_ref08_Free (f_ref08_Where f_ref08_On f_ref01_Has f_ref08_Pass e_int f_ref08_sum : Nat) : CFn := ⟨44, [.tmp 4],
  .seq (.reg [
    ⟨(some 2), .box (.t 0), none⟩,
    ⟨(some 4), .mv (.k (.int .i64 0)), none⟩])
  (.seq (.reg [
    ⟨(some 10), .ld (.t 2) (some 131), none⟩,
    ⟨(some 11), .mv (.t 1), none⟩,
    ⟨(some 12), .call f_ref08_Where [(.t 10), (.t 11)], none⟩,
    ⟨(some 9), .mv (.t 12), none⟩,
    ⟨(some 13), .ext (.t 9) 0, none⟩,
    ⟨(some 14), .ext (.t 9) 1, none⟩,
    ⟨(some 5), .alloc [(.int .i64 0), (.int .i64 0), (.int .i64 0), (.int .i64 0)], none⟩,
    ⟨none, .st (.t 5) (.t 13) 4, none⟩,
    ⟨(some 6), .mv (.t 14), none⟩])
  (.join (.seq (.reg [
     ⟨(some 15), .mv (.t 6), none⟩,
     ⟨(some 16), .un .not (.t 15), none⟩,
     ⟨(some 17), .mv (.t 16), none⟩,
     ⟨(some 18), .ld (.t 2) (some 131), (some (17, false))⟩,
     ⟨(some 19), .call f_ref08_On [(.t 18)], (some (17, false))⟩,
     ⟨(some 20), .mv (.t 1), (some (17, false))⟩,
     ⟨(some 21), .call f_ref01_Has [(.t 19), (.t 20)], (some (17, false))⟩,
     ⟨(some 22), .un .not (.t 21), (some (17, false))⟩,
     ⟨(some 23), .pick (.t 17) (.k (.bool true)) (.t 22), none⟩])
   (.cond (.t 23) (.seq (.reg [
      ⟨(some 4), .mv (.k (.int .i64 0)), none⟩])
    (.ret))
    (.skip)))
  (.seq (.reg [
    ⟨(some 24), .ld (.t 2) (some 131), none⟩,
    ⟨(some 25), .fa (.t 5) 0, none⟩,
    ⟨(some 26), .ld (.t 25) none, none⟩,
    ⟨(some 27), .call f_ref08_Pass [(.t 24), (.t 26)], none⟩,
    ⟨(some 28), .bsl e_int 1 [(.t 27)], none⟩,
    ⟨(some 7), .mv (.t 28), none⟩])
  (.join (.seq (.reg [
     ⟨(some 8), .mv (.k (.int .i64 0)), none⟩])
   (.block 0 (.loop (.join (.seq (.reg [
        ⟨(some 29), .mv (.t 8), none⟩,
        ⟨(some 30), .fa (.t 2) 104, none⟩,
        ⟨(some 31), .ld (.t 30) none, none⟩,
        ⟨(some 32), .lenS (.t 31), none⟩,
        ⟨(some 33), .bin .lss (.t 29) (.t 32), none⟩])
      (.cond (.t 33) (.skip)
       (.exit 0)))
     (.join (.block 1 (.reg [
         ⟨(some 36), .mv (.t 7), none⟩,
         ⟨(some 37), .ld (.t 2) (some 131), none⟩,
         ⟨(some 38), .mv (.t 8), none⟩,
         ⟨(some 39), .call f_ref08_Pass [(.t 37), (.t 38)], none⟩,
         ⟨(some 40), .bsl e_int 1 [(.t 39)], none⟩,
         ⟨(some 41), .app e_int 1 8 (.t 36) (.t 40), none⟩,
         ⟨(some 7), .mv (.t 41), none⟩]))
     (.reg [
       ⟨(some 34), .mv (.t 8), none⟩,
       ⟨(some 35), .bin .add (.t 34) (.k (.int .i64 1)), none⟩,
       ⟨(some 8), .mv (.t 35), none⟩]))))))
  (.seq (.reg [
    ⟨(some 42), .mv (.t 7), none⟩,
    ⟨(some 43), .call f_ref08_sum [(.t 42)], none⟩,
    ⟨(some 4), .mv (.t 43), none⟩])
  (.ret))))))⟩
def cc_ref08_sum (f_ref01_Sum : Nat) : CFn := ⟨5, [.tmp 2],
  .seq (.reg [
    ⟨(some 2), .mv (.k (.int .i64 0)), none⟩])
  (.seq (.reg [
    ⟨(some 3), .mv (.t 0), none⟩,
    ⟨(some 4), .call f_ref01_Sum [(.t 3)], none⟩,
    ⟨(some 2), .mv (.t 4), none⟩])
  (.ret))⟩
def cc_ref01_Mul (f_ref01_Cap : Nat) : CFn := ⟨11, [.tmp 4],
  .seq (.reg [
    ⟨(some 4), .mv (.k (.int .i64 0)), none⟩])
  (.seq (.reg [
    ⟨(some 5), .mv (.t 0), none⟩,
    ⟨(some 6), .call f_ref01_Cap [(.t 5)], none⟩,
    ⟨(some 7), .mv (.t 1), none⟩,
    ⟨(some 8), .call f_ref01_Cap [(.t 7)], none⟩,
    ⟨(some 9), .bin .mul (.t 6) (.t 8), none⟩,
    ⟨(some 10), .call f_ref01_Cap [(.t 9)], none⟩,
    ⟨(some 4), .mv (.t 10), none⟩])
  (.ret))⟩
def cc_ref08_Over (f_ref08_Entry e_int f_ref08_sum f_ref08_On f_ref01_List f_ref01_Cap f_ref08_most f_ref08_clear : Nat) : CFn := ⟨73, [.tmp 2],
  .seq (.reg [
    ⟨(some 1), .box (.t 0), none⟩,
    ⟨(some 2), .mv (.k (.int .i64 0)), none⟩])
  (.join (.seq (.reg [
     ⟨(some 8), .fa (.t 1) 114, none⟩,
     ⟨(some 9), .ld (.t 8) none, none⟩,
     ⟨(some 10), .lenS (.t 9), none⟩,
     ⟨(some 11), .bin .eql (.t 10) (.k (.int .i64 0)), none⟩])
   (.cond (.t 11) (.seq (.reg [
      ⟨(some 2), .mv (.k (.int .i64 0)), none⟩])
    (.ret))
    (.skip)))
  (.seq (.reg [
    ⟨(some 3), .mv (.k .nils), none⟩,
    ⟨(some 4), .mv (.k .nils), none⟩])
  (.join (.seq (.reg [
     ⟨(some 5), .mv (.k (.int .i64 0)), none⟩])
   (.block 0 (.loop (.join (.seq (.reg [
        ⟨(some 12), .mv (.t 5), none⟩,
        ⟨(some 13), .fa (.t 1) 114, none⟩,
        ⟨(some 14), .ld (.t 13) none, none⟩,
        ⟨(some 15), .lenS (.t 14), none⟩,
        ⟨(some 16), .bin .lss (.t 12) (.t 15), none⟩])
      (.cond (.t 16) (.skip)
       (.exit 0)))
     (.join (.block 1 (.reg [
         ⟨(some 19), .mv (.t 3), none⟩,
         ⟨(some 20), .ld (.t 1) (some 131), none⟩,
         ⟨(some 21), .mv (.t 5), none⟩,
         ⟨(some 22), .call f_ref08_Entry [(.t 20), (.t 21)], none⟩,
         ⟨(some 23), .fa (.t 1) 114, none⟩,
         ⟨(some 24), .ld (.t 23) none, none⟩,
         ⟨(some 25), .mv (.t 5), none⟩,
         ⟨(some 26), .iaS (.t 24) (.t 25) 11, none⟩,
         ⟨(some 27), .fa (.t 26) 8, none⟩,
         ⟨(some 28), .ld (.t 27) none, none⟩,
         ⟨(some 29), .bsl e_int 1 [(.t 22), (.t 28)], none⟩,
         ⟨(some 30), .call f_ref08_sum [(.t 29)], none⟩,
         ⟨(some 31), .bsl e_int 1 [(.t 30)], none⟩,
         ⟨(some 32), .app e_int 1 8 (.t 19) (.t 31), none⟩,
         ⟨(some 3), .mv (.t 32), none⟩]))
     (.reg [
       ⟨(some 17), .mv (.t 5), none⟩,
       ⟨(some 18), .bin .add (.t 17) (.k (.int .i64 1)), none⟩,
       ⟨(some 5), .mv (.t 18), none⟩]))))))
  (.join (.seq (.reg [
     ⟨(some 33), .ld (.t 1) (some 131), none⟩,
     ⟨(some 34), .call f_ref08_On [(.t 33)], none⟩,
     ⟨(some 35), .call f_ref01_List [(.t 34)], none⟩,
     ⟨(some 36), .lenS (.t 35), none⟩,
     ⟨(some 37), .mv (.k (.int .i64 0)), none⟩])
   (.block 2 (.loop (.seq (.reg [
       ⟨(some 38), .bin .lss (.t 37) (.t 36), none⟩])
     (.join (.cond (.t 38) (.skip)
       (.exit 2))
     (.join (.block 3 (.seq (.reg [
         ⟨(some 39), .iaS (.t 35) (.t 37) 1, none⟩,
         ⟨(some 40), .ld (.t 39) none, none⟩,
         ⟨(some 7), .mv (.t 40), none⟩])
       (.reg [
         ⟨(some 41), .mv (.t 4), none⟩,
         ⟨(some 42), .mv (.t 7), none⟩,
         ⟨(some 43), .fa (.t 1) 0, none⟩,
         ⟨(some 44), .iaA (.t 43) (.t 42) 8 13, none⟩,
         ⟨(some 45), .fa (.t 44) 1, none⟩,
         ⟨(some 46), .ld (.t 45) none, none⟩,
         ⟨(some 47), .call f_ref01_Cap [(.t 46)], none⟩,
         ⟨(some 48), .mv (.t 7), none⟩,
         ⟨(some 49), .fa (.t 1) 0, none⟩,
         ⟨(some 50), .iaA (.t 49) (.t 48) 8 13, none⟩,
         ⟨(some 51), .fa (.t 50) 8, none⟩,
         ⟨(some 52), .ld (.t 51) none, none⟩,
         ⟨(some 53), .mv (.t 7), none⟩,
         ⟨(some 54), .fa (.t 1) 0, none⟩,
         ⟨(some 55), .iaA (.t 54) (.t 53) 8 13, none⟩,
         ⟨(some 56), .fa (.t 55) 9, none⟩,
         ⟨(some 57), .ld (.t 56) none, none⟩,
         ⟨(some 58), .bsl e_int 1 [(.t 52), (.t 57)], none⟩,
         ⟨(some 59), .call f_ref08_sum [(.t 58)], none⟩,
         ⟨(some 60), .bsl e_int 1 [(.t 47), (.t 59)], none⟩,
         ⟨(some 61), .app e_int 1 8 (.t 41) (.t 60), none⟩,
         ⟨(some 4), .mv (.t 61), none⟩])))
     (.reg [
       ⟨(some 62), .bin .add (.t 37) (.k (.int .i64 1)), none⟩,
       ⟨(some 37), .mv (.t 62), none⟩])))))))
  (.seq (.reg [
    ⟨(some 63), .mv (.t 3), none⟩,
    ⟨(some 64), .call f_ref08_most [(.t 63)], none⟩,
    ⟨(some 65), .mv (.t 4), none⟩,
    ⟨(some 66), .call f_ref08_most [(.t 65)], none⟩,
    ⟨(some 67), .ld (.t 1) (some 131), none⟩,
    ⟨(some 68), .call f_ref08_clear [(.t 67)], none⟩,
    ⟨(some 69), .fa (.t 1) 119, none⟩,
    ⟨(some 70), .ld (.t 69) none, none⟩,
    ⟨(some 71), .bsl e_int 1 [(.t 64), (.t 66), (.t 68), (.t 70), (.k (.int .i64 30))], none⟩,
    ⟨(some 72), .call f_ref08_sum [(.t 71)], none⟩,
    ⟨(some 2), .mv (.t 72), none⟩])
  (.ret))))))⟩
def cc_set_bit : CFn := ⟨11, [.tmp 2],
  .seq (.reg [
    ⟨(some 2), .mv (.k (.int .i64 0)), none⟩])
  (.join (.seq (.reg [
     ⟨(some 3), .mv (.t 0), none⟩,
     ⟨(some 4), .bin .lss (.t 3) (.k (.int .i64 0)), none⟩,
     ⟨(some 5), .mv (.t 4), none⟩,
     ⟨(some 6), .mv (.t 0), (some (5, false))⟩,
     ⟨(some 7), .bin .geq (.t 6) (.k (.int .i64 8)), (some (5, false))⟩,
     ⟨(some 8), .pick (.t 5) (.k (.bool true)) (.t 7), none⟩])
   (.cond (.t 8) (.seq (.reg [
      ⟨(some 2), .mv (.k (.int .i64 0)), none⟩])
    (.ret))
    (.skip)))
  (.seq (.reg [
    ⟨(some 9), .mv (.t 0), none⟩,
    ⟨(some 10), .bin .shl (.k (.int .i64 1)) (.t 9), none⟩,
    ⟨(some 2), .mv (.t 10), none⟩])
  (.ret)))⟩
def cc_ref08_Spots (e_crossbuckref08_Spot : Nat) : CFn := ⟨56, [.tmp 2],
  .seq (.reg [
    ⟨(some 1), .box (.t 0), none⟩,
    ⟨(some 2), .mv (.k .nils), none⟩])
  (.seq (.reg [
    ⟨(some 3), .mv (.k .nils), none⟩])
  (.join (.seq (.reg [
     ⟨(some 4), .mv (.k (.int .i64 0)), none⟩])
   (.block 0 (.loop (.join (.seq (.reg [
        ⟨(some 8), .mv (.t 4), none⟩,
        ⟨(some 9), .fa (.t 1) 104, none⟩,
        ⟨(some 10), .ld (.t 9) none, none⟩,
        ⟨(some 11), .lenS (.t 10), none⟩,
        ⟨(some 12), .bin .lss (.t 8) (.t 11), none⟩])
      (.cond (.t 12) (.skip)
       (.exit 0)))
     (.join (.block 1 (.seq (.reg [
         ⟨(some 5), .mv (.k (.int .i64 0)), none⟩])
       (.block 2 (.loop (.join (.seq (.reg [
            ⟨(some 15), .mv (.t 5), none⟩,
            ⟨(some 16), .bin .lss (.t 15) (.k (.int .i64 2)), none⟩])
          (.cond (.t 16) (.skip)
           (.exit 2)))
         (.join (.block 3 (.seq (.reg [
             ⟨(some 6), .mv (.k (.int .i64 0)), none⟩])
           (.block 4 (.loop (.join (.seq (.reg [
                ⟨(some 19), .mv (.t 6), none⟩,
                ⟨(some 20), .fa (.t 1) 104, none⟩,
                ⟨(some 21), .ld (.t 20) none, none⟩,
                ⟨(some 22), .mv (.t 4), none⟩,
                ⟨(some 23), .mv (.t 5), none⟩,
                ⟨(some 24), .iaS (.t 21) (.t 22) 2, none⟩,
                ⟨(some 25), .iaA (.t 24) (.t 23) 2 1, none⟩,
                ⟨(some 26), .ld (.t 25) none, none⟩,
                ⟨(some 27), .lenS (.t 26), none⟩,
                ⟨(some 28), .bin .lss (.t 19) (.t 27), none⟩])
              (.cond (.t 28) (.skip)
               (.exit 4)))
             (.join (.block 5 (.seq (.reg [
                 ⟨(some 31), .fa (.t 1) 104, none⟩,
                 ⟨(some 32), .ld (.t 31) none, none⟩,
                 ⟨(some 33), .mv (.t 4), none⟩,
                 ⟨(some 34), .mv (.t 5), none⟩,
                 ⟨(some 35), .iaS (.t 32) (.t 33) 2, none⟩,
                 ⟨(some 36), .iaA (.t 35) (.t 34) 2 1, none⟩,
                 ⟨(some 37), .ld (.t 36) none, none⟩,
                 ⟨(some 38), .mv (.t 6), none⟩,
                 ⟨(some 39), .iaS (.t 37) (.t 38) 1, none⟩,
                 ⟨(some 40), .ld (.t 39) none, none⟩,
                 ⟨(some 7), .mv (.t 40), none⟩])
               (.seq (.reg [
                 ⟨(some 41), .mv (.t 7), none⟩,
                 ⟨(some 42), .bin .geq (.t 41) (.k (.int .i64 0)), none⟩,
                 ⟨(some 43), .mv (.t 42), none⟩,
                 ⟨(some 44), .mv (.t 7), (some (43, true))⟩,
                 ⟨(some 45), .bin .lss (.t 44) (.k (.int .i64 8)), (some (43, true))⟩,
                 ⟨(some 46), .pick (.t 43) (.t 45) (.k (.bool false)), none⟩])
               (.cond (.t 46) (.reg [
                  ⟨(some 47), .mv (.t 3), none⟩,
                  ⟨(some 48), .mv (.t 4), none⟩,
                  ⟨(some 49), .mv (.t 5), none⟩,
                  ⟨(some 50), .mv (.t 6), none⟩,
                  ⟨(some 51), .mv (.t 7), none⟩,
                  ⟨(some 52), .build [(.int .i64 0), (.int .i64 0), (.int .i64 0), (.int .i64 0)] [(0, 1, (.t 48)), (1, 1, (.t 49)), (2, 1, (.t 50)), (3, 1, (.t 51))], none⟩,
                  ⟨(some 53), .bsl e_crossbuckref08_Spot 4 [(.t 52)], none⟩,
                  ⟨(some 54), .app e_crossbuckref08_Spot 4 32 (.t 47) (.t 53), none⟩,
                  ⟨(some 3), .mv (.t 54), none⟩])
                (.skip)))))
             (.reg [
               ⟨(some 29), .mv (.t 6), none⟩,
               ⟨(some 30), .bin .add (.t 29) (.k (.int .i64 1)), none⟩,
               ⟨(some 6), .mv (.t 30), none⟩])))))))
         (.reg [
           ⟨(some 17), .mv (.t 5), none⟩,
           ⟨(some 18), .bin .add (.t 17) (.k (.int .i64 1)), none⟩,
           ⟨(some 5), .mv (.t 18), none⟩])))))))
     (.reg [
       ⟨(some 13), .mv (.t 4), none⟩,
       ⟨(some 14), .bin .add (.t 13) (.k (.int .i64 1)), none⟩,
       ⟨(some 4), .mv (.t 14), none⟩]))))))
  (.seq (.reg [
    ⟨(some 55), .mv (.t 3), none⟩,
    ⟨(some 2), .mv (.t 55), none⟩])
  (.ret))))⟩
def cc_ref08_Pass (e_int f_ref08_Spots f_ref08_Serve f_ref08_sum : Nat) : CFn := ⟨39, [.tmp 4],
  .seq (.reg [
    ⟨(some 2), .box (.t 0), none⟩,
    ⟨(some 4), .mv (.k (.int .i64 0)), none⟩])
  (.join (.seq (.reg [
     ⟨(some 8), .mv (.t 1), none⟩,
     ⟨(some 9), .bin .lss (.t 8) (.k (.int .i64 0)), none⟩,
     ⟨(some 10), .mv (.t 9), none⟩,
     ⟨(some 11), .mv (.t 1), (some (10, false))⟩,
     ⟨(some 12), .fa (.t 2) 104, (some (10, false))⟩,
     ⟨(some 13), .ld (.t 12) none, (some (10, false))⟩,
     ⟨(some 14), .lenS (.t 13), (some (10, false))⟩,
     ⟨(some 15), .bin .geq (.t 11) (.t 14), (some (10, false))⟩,
     ⟨(some 16), .pick (.t 10) (.k (.bool true)) (.t 15), none⟩])
   (.cond (.t 16) (.seq (.reg [
      ⟨(some 4), .mv (.k (.int .i64 0)), none⟩])
    (.ret))
    (.skip)))
  (.seq (.reg [
    ⟨(some 17), .bsl e_int 1 [(.k (.int .i64 8))], none⟩,
    ⟨(some 5), .mv (.t 17), none⟩])
  (.join (.seq (.reg [
     ⟨(some 18), .ld (.t 2) (some 131), none⟩,
     ⟨(some 19), .call f_ref08_Spots [(.t 18)], none⟩,
     ⟨(some 20), .lenS (.t 19), none⟩,
     ⟨(some 21), .mv (.k (.int .i64 0)), none⟩])
   (.block 0 (.loop (.seq (.reg [
       ⟨(some 22), .bin .lss (.t 21) (.t 20), none⟩])
     (.join (.cond (.t 22) (.skip)
       (.exit 0))
     (.join (.block 1 (.seq (.reg [
         ⟨(some 23), .iaS (.t 19) (.t 21) 4, none⟩,
         ⟨(some 24), .ld (.t 23) (some 4), none⟩,
         ⟨(some 7), .alloc [(.int .i64 0), (.int .i64 0), (.int .i64 0), (.int .i64 0)], none⟩,
         ⟨none, .st (.t 7) (.t 24) 4, none⟩])
       (.seq (.reg [
         ⟨(some 25), .fa (.t 7) 0, none⟩,
         ⟨(some 26), .ld (.t 25) none, none⟩,
         ⟨(some 27), .mv (.t 1), none⟩,
         ⟨(some 28), .bin .eql (.t 26) (.t 27), none⟩])
       (.cond (.t 28) (.reg [
          ⟨(some 29), .mv (.t 5), none⟩,
          ⟨(some 30), .ld (.t 2) (some 131), none⟩,
          ⟨(some 31), .fa (.t 7) 3, none⟩,
          ⟨(some 32), .ld (.t 31) none, none⟩,
          ⟨(some 33), .call f_ref08_Serve [(.t 30), (.t 32)], none⟩,
          ⟨(some 34), .bsl e_int 1 [(.t 33)], none⟩,
          ⟨(some 35), .app e_int 1 8 (.t 29) (.t 34), none⟩,
          ⟨(some 5), .mv (.t 35), none⟩])
        (.skip)))))
     (.reg [
       ⟨(some 36), .bin .add (.t 21) (.k (.int .i64 1)), none⟩,
       ⟨(some 21), .mv (.t 36), none⟩])))))))
  (.seq (.reg [
    ⟨(some 37), .mv (.t 5), none⟩,
    ⟨(some 38), .call f_ref08_sum [(.t 37)], none⟩,
    ⟨(some 4), .mv (.t 38), none⟩])
  (.ret)))))⟩
def cc_ref01_Sum (f_ref01_Add : Nat) : CFn := ⟨18, [.tmp 2],
  .seq (.reg [
    ⟨(some 2), .mv (.k (.int .i64 0)), none⟩])
  (.seq (.reg [
    ⟨(some 3), .mv (.k (.int .i64 0)), none⟩])
  (.join (.seq (.reg [
     ⟨(some 4), .mv (.k (.int .i64 0)), none⟩])
   (.block 0 (.loop (.join (.seq (.reg [
        ⟨(some 5), .mv (.t 4), none⟩,
        ⟨(some 6), .mv (.t 0), none⟩,
        ⟨(some 7), .lenS (.t 6), none⟩,
        ⟨(some 8), .bin .lss (.t 5) (.t 7), none⟩])
      (.cond (.t 8) (.skip)
       (.exit 0)))
     (.join (.block 1 (.reg [
         ⟨(some 11), .mv (.t 3), none⟩,
         ⟨(some 12), .mv (.t 0), none⟩,
         ⟨(some 13), .mv (.t 4), none⟩,
         ⟨(some 14), .iaS (.t 12) (.t 13) 1, none⟩,
         ⟨(some 15), .ld (.t 14) none, none⟩,
         ⟨(some 16), .call f_ref01_Add [(.t 11), (.t 15)], none⟩,
         ⟨(some 3), .mv (.t 16), none⟩]))
     (.reg [
       ⟨(some 9), .mv (.t 4), none⟩,
       ⟨(some 10), .bin .add (.t 9) (.k (.int .i64 1)), none⟩,
       ⟨(some 4), .mv (.t 10), none⟩]))))))
  (.seq (.reg [
    ⟨(some 17), .mv (.t 3), none⟩,
    ⟨(some 2), .mv (.t 17), none⟩])
  (.ret))))⟩
def cc_ref01_Cap (f_ref01_Cut : Nat) : CFn := ⟨5, [.tmp 2],
  .seq (.reg [
    ⟨(some 2), .mv (.k (.int .i64 0)), none⟩])
  (.seq (.reg [
    ⟨(some 3), .mv (.t 0), none⟩,
    ⟨(some 4), .call f_ref01_Cut [(.t 3), (.k (.int .i64 0)), (.k (.int .i64 2147483647))], none⟩,
    ⟨(some 2), .mv (.t 4), none⟩])
  (.ret))⟩
def cc_ref08_Entry (f_ref08_clear e_int f_ref08_sum : Nat) : CFn := ⟨50, [.tmp 4],
  .seq (.reg [
    ⟨(some 2), .box (.t 0), none⟩,
    ⟨(some 4), .mv (.k (.int .i64 0)), none⟩])
  (.join (.seq (.reg [
     ⟨(some 7), .mv (.t 1), none⟩,
     ⟨(some 8), .bin .lss (.t 7) (.k (.int .i64 0)), none⟩,
     ⟨(some 9), .mv (.t 8), none⟩,
     ⟨(some 10), .mv (.t 1), (some (9, false))⟩,
     ⟨(some 11), .fa (.t 2) 114, (some (9, false))⟩,
     ⟨(some 12), .ld (.t 11) none, (some (9, false))⟩,
     ⟨(some 13), .lenS (.t 12), (some (9, false))⟩,
     ⟨(some 14), .bin .geq (.t 10) (.t 13), (some (9, false))⟩,
     ⟨(some 15), .pick (.t 9) (.k (.bool true)) (.t 14), none⟩])
   (.cond (.t 15) (.seq (.reg [
      ⟨(some 4), .mv (.k (.int .i64 0)), none⟩])
    (.ret))
    (.skip)))
  (.seq (.reg [
    ⟨(some 16), .fa (.t 2) 114, none⟩,
    ⟨(some 17), .ld (.t 16) none, none⟩,
    ⟨(some 18), .mv (.t 1), none⟩,
    ⟨(some 19), .iaS (.t 17) (.t 18) 11, none⟩,
    ⟨(some 20), .ld (.t 19) (some 11), none⟩,
    ⟨(some 5), .alloc z11_58867, none⟩,
    ⟨none, .st (.t 5) (.t 20) 11, none⟩])
  (.seq (.reg [
    ⟨(some 21), .ld (.t 2) (some 131), none⟩,
    ⟨(some 22), .call f_ref08_clear [(.t 21)], none⟩,
    ⟨(some 6), .mv (.t 22), none⟩])
  (.seq (.reg [
    ⟨(some 23), .fa (.t 5) 4, none⟩,
    ⟨(some 24), .ld (.t 23) none, none⟩,
    ⟨(some 25), .fa (.t 5) 7, none⟩,
    ⟨(some 26), .ld (.t 25) none, none⟩,
    ⟨(some 27), .fa (.t 5) 5, none⟩,
    ⟨(some 28), .ld (.t 27) none, none⟩,
    ⟨(some 29), .fa (.t 5) 5, none⟩,
    ⟨(some 30), .ld (.t 29) none, none⟩,
    ⟨(some 31), .fa (.t 5) 6, none⟩,
    ⟨(some 32), .ld (.t 31) none, none⟩,
    ⟨(some 33), .fa (.t 5) 6, none⟩,
    ⟨(some 34), .ld (.t 33) none, none⟩,
    ⟨(some 35), .fa (.t 5) 6, none⟩,
    ⟨(some 36), .ld (.t 35) none, none⟩,
    ⟨(some 37), .mv (.t 6), none⟩,
    ⟨(some 38), .mv (.t 6), none⟩,
    ⟨(some 39), .mv (.t 6), none⟩,
    ⟨(some 40), .mv (.t 6), none⟩,
    ⟨(some 41), .mv (.t 6), none⟩,
    ⟨(some 42), .fa (.t 2) 119, none⟩,
    ⟨(some 43), .ld (.t 42) none, none⟩,
    ⟨(some 44), .fa (.t 2) 119, none⟩,
    ⟨(some 45), .ld (.t 44) none, none⟩,
    ⟨(some 46), .fa (.t 2) 119, none⟩,
    ⟨(some 47), .ld (.t 46) none, none⟩,
    ⟨(some 48), .bsl e_int 1 [(.t 24), (.t 26), (.t 28), (.t 30), (.t 32), (.t 34), (.t 36), (.t 37), (.t 38), (.t 39), (.t 40), (.t 41), (.t 43), (.t 45), (.t 47), (.k (.int .i64 60))], none⟩,
    ⟨(some 49), .call f_ref08_sum [(.t 48)], none⟩,
    ⟨(some 4), .mv (.t 49), none⟩])
  (.ret)))))⟩
def cc_ref08_most : CFn := ⟨18, [.tmp 2],
  .seq (.reg [
    ⟨(some 2), .mv (.k (.int .i64 0)), none⟩])
  (.seq (.reg [
    ⟨(some 3), .mv (.k (.int .i64 0)), none⟩])
  (.join (.seq (.reg [
     ⟨(some 4), .mv (.k (.int .i64 0)), none⟩])
   (.block 0 (.loop (.join (.seq (.reg [
        ⟨(some 5), .mv (.t 4), none⟩,
        ⟨(some 6), .mv (.t 0), none⟩,
        ⟨(some 7), .lenS (.t 6), none⟩,
        ⟨(some 8), .bin .lss (.t 5) (.t 7), none⟩])
      (.cond (.t 8) (.skip)
       (.exit 0)))
     (.join (.block 1 (.reg [
         ⟨(some 11), .mv (.t 3), none⟩,
         ⟨(some 12), .mv (.t 0), none⟩,
         ⟨(some 13), .mv (.t 4), none⟩,
         ⟨(some 14), .iaS (.t 12) (.t 13) 1, none⟩,
         ⟨(some 15), .ld (.t 14) none, none⟩,
         ⟨(some 16), .mm true [(.t 11), (.t 15)], none⟩,
         ⟨(some 3), .mv (.t 16), none⟩]))
     (.reg [
       ⟨(some 9), .mv (.t 4), none⟩,
       ⟨(some 10), .bin .add (.t 9) (.k (.int .i64 1)), none⟩,
       ⟨(some 4), .mv (.t 10), none⟩]))))))
  (.seq (.reg [
    ⟨(some 17), .mv (.t 3), none⟩,
    ⟨(some 2), .mv (.t 17), none⟩])
  (.ret))))⟩
def cc_ref08_clear (f_ref08_On f_ref01_List e_int f_ref08_sum f_ref08_most : Nat) : CFn := ⟨32, [.tmp 2],
  .seq (.reg [
    ⟨(some 1), .box (.t 0), none⟩,
    ⟨(some 2), .mv (.k (.int .i64 0)), none⟩])
  (.seq (.reg [
    ⟨(some 3), .mv (.k .nils), none⟩])
  (.join (.seq (.reg [
     ⟨(some 6), .ld (.t 1) (some 131), none⟩,
     ⟨(some 7), .call f_ref08_On [(.t 6)], none⟩,
     ⟨(some 8), .call f_ref01_List [(.t 7)], none⟩,
     ⟨(some 9), .lenS (.t 8), none⟩,
     ⟨(some 10), .mv (.k (.int .i64 0)), none⟩])
   (.block 0 (.loop (.seq (.reg [
       ⟨(some 11), .bin .lss (.t 10) (.t 9), none⟩])
     (.join (.cond (.t 11) (.skip)
       (.exit 0))
     (.join (.block 1 (.seq (.reg [
         ⟨(some 12), .iaS (.t 8) (.t 10) 1, none⟩,
         ⟨(some 13), .ld (.t 12) none, none⟩,
         ⟨(some 5), .mv (.t 13), none⟩])
       (.reg [
         ⟨(some 14), .mv (.t 3), none⟩,
         ⟨(some 15), .mv (.t 5), none⟩,
         ⟨(some 16), .fa (.t 1) 0, none⟩,
         ⟨(some 17), .iaA (.t 16) (.t 15) 8 13, none⟩,
         ⟨(some 18), .fa (.t 17) 6, none⟩,
         ⟨(some 19), .ld (.t 18) none, none⟩,
         ⟨(some 20), .mv (.t 5), none⟩,
         ⟨(some 21), .fa (.t 1) 0, none⟩,
         ⟨(some 22), .iaA (.t 21) (.t 20) 8 13, none⟩,
         ⟨(some 23), .fa (.t 22) 7, none⟩,
         ⟨(some 24), .ld (.t 23) none, none⟩,
         ⟨(some 25), .bsl e_int 1 [(.t 19), (.t 24)], none⟩,
         ⟨(some 26), .call f_ref08_sum [(.t 25)], none⟩,
         ⟨(some 27), .bsl e_int 1 [(.t 26)], none⟩,
         ⟨(some 28), .app e_int 1 8 (.t 14) (.t 27), none⟩,
         ⟨(some 3), .mv (.t 28), none⟩])))
     (.reg [
       ⟨(some 29), .bin .add (.t 10) (.k (.int .i64 1)), none⟩,
       ⟨(some 10), .mv (.t 29), none⟩])))))))
  (.seq (.reg [
    ⟨(some 30), .mv (.t 3), none⟩,
    ⟨(some 31), .call f_ref08_most [(.t 30)], none⟩,
    ⟨(some 2), .mv (.t 31), none⟩])
  (.ret))))⟩
def cc_ref08_Serve (f_ref08_On f_ref01_Has f_ref01_Cap e_int f_ref08_sum f_ref08_most : Nat) : CFn := ⟨39, [.tmp 4],
  .seq (.reg [
    ⟨(some 2), .box (.t 0), none⟩,
    ⟨(some 4), .mv (.k (.int .i64 0)), none⟩])
  (.join (.seq (.reg [
     ⟨(some 6), .ld (.t 2) (some 131), none⟩,
     ⟨(some 7), .call f_ref08_On [(.t 6)], none⟩,
     ⟨(some 8), .mv (.t 1), none⟩,
     ⟨(some 9), .call f_ref01_Has [(.t 7), (.t 8)], none⟩,
     ⟨(some 10), .un .not (.t 9), none⟩])
   (.cond (.t 10) (.seq (.reg [
      ⟨(some 4), .mv (.k (.int .i64 0)), none⟩])
    (.ret))
    (.skip)))
  (.seq (.reg [
    ⟨(some 11), .mv (.t 1), none⟩,
    ⟨(some 12), .fa (.t 2) 0, none⟩,
    ⟨(some 13), .iaA (.t 12) (.t 11) 8 13, none⟩,
    ⟨(some 14), .ld (.t 13) (some 13), none⟩,
    ⟨(some 5), .alloc z13_14216, none⟩,
    ⟨none, .st (.t 5) (.t 14) 13, none⟩])
  (.seq (.reg [
    ⟨(some 15), .fa (.t 5) 1, none⟩,
    ⟨(some 16), .ld (.t 15) none, none⟩,
    ⟨(some 17), .call f_ref01_Cap [(.t 16)], none⟩,
    ⟨(some 18), .fa (.t 5) 8, none⟩,
    ⟨(some 19), .ld (.t 18) none, none⟩,
    ⟨(some 20), .fa (.t 5) 9, none⟩,
    ⟨(some 21), .ld (.t 20) none, none⟩,
    ⟨(some 22), .bsl e_int 1 [(.t 19), (.t 21)], none⟩,
    ⟨(some 23), .call f_ref08_sum [(.t 22)], none⟩,
    ⟨(some 24), .fa (.t 5) 4, none⟩,
    ⟨(some 25), .ld (.t 24) none, none⟩,
    ⟨(some 26), .call f_ref01_Cap [(.t 25)], none⟩,
    ⟨(some 27), .bsl e_int 1 [(.t 17), (.t 23), (.t 26)], none⟩,
    ⟨(some 28), .call f_ref08_most [(.t 27)], none⟩,
    ⟨(some 29), .fa (.t 2) 116, none⟩,
    ⟨(some 30), .ld (.t 29) none, none⟩,
    ⟨(some 31), .fa (.t 5) 6, none⟩,
    ⟨(some 32), .ld (.t 31) none, none⟩,
    ⟨(some 33), .fa (.t 5) 7, none⟩,
    ⟨(some 34), .ld (.t 33) none, none⟩,
    ⟨(some 35), .fa (.t 2) 119, none⟩,
    ⟨(some 36), .ld (.t 35) none, none⟩,
    ⟨(some 37), .bsl e_int 1 [(.t 28), (.t 30), (.t 32), (.t 34), (.t 36), (.k (.int .i64 8))], none⟩,
    ⟨(some 38), .call f_ref08_sum [(.t 37)], none⟩,
    ⟨(some 4), .mv (.t 38), none⟩])
  (.ret))))⟩
def cc_ref01_Add (f_ref01_Cap : Nat) : CFn := ⟨11, [.tmp 4],
  .seq (.reg [
    ⟨(some 4), .mv (.k (.int .i64 0)), none⟩])
  (.seq (.reg [
    ⟨(some 5), .mv (.t 0), none⟩,
    ⟨(some 6), .call f_ref01_Cap [(.t 5)], none⟩,
    ⟨(some 7), .mv (.t 1), none⟩,
    ⟨(some 8), .call f_ref01_Cap [(.t 7)], none⟩,
    ⟨(some 9), .bin .add (.t 6) (.t 8), none⟩,
    ⟨(some 10), .call f_ref01_Cap [(.t 9)], none⟩,
    ⟨(some 4), .mv (.t 10), none⟩])
  (.ret))⟩
def cc_ref01_Cut : CFn := ⟨16, [.tmp 6],
  .seq (.reg [
    ⟨(some 6), .mv (.k (.int .i64 0)), none⟩])
  (.join (.seq (.reg [
     ⟨(some 7), .mv (.t 0), none⟩,
     ⟨(some 8), .mv (.t 1), none⟩,
     ⟨(some 9), .bin .lss (.t 7) (.t 8), none⟩])
   (.cond (.t 9) (.seq (.reg [
      ⟨(some 10), .mv (.t 1), none⟩,
      ⟨(some 6), .mv (.t 10), none⟩])
    (.ret))
    (.skip)))
  (.join (.seq (.reg [
     ⟨(some 11), .mv (.t 0), none⟩,
     ⟨(some 12), .mv (.t 2), none⟩,
     ⟨(some 13), .bin .gtr (.t 11) (.t 12), none⟩])
   (.cond (.t 13) (.seq (.reg [
      ⟨(some 14), .mv (.t 2), none⟩,
      ⟨(some 6), .mv (.t 14), none⟩])
    (.ret))
    (.skip)))
  (.seq (.reg [
    ⟨(some 15), .mv (.t 0), none⟩,
    ⟨(some 6), .mv (.t 15), none⟩])
  (.ret))))⟩
end Go.Eng
namespace Go.Eng
set_option linter.unusedVariables false
set_option linter.unusedSimpArgs false
set_option linter.unnecessarySimpa false
open Go
set_option linter.unusedVariables false
set_option linter.unusedSimpArgs false
set_option maxRecDepth 10000
def place (v n : Int) : Int := if v.tmod n < 0 then w64 (v.tmod n + n) else v.tmod n
def atL (l : Option (List Int)) (i : Int) : Int := if i < 0 then 0 else ((l.getD []).getD i.toNat 0)
def frm (l : Option (List Int)) (i n : Int) : Int := place (atL l i) n
def Place.Spec (C : Con) (f : Nat) : Prop := ∀ v n : Int, 0 < n → C.c f [I v, I n] (I (place v n)) none
def At.Spec (C : Con) (f : Nat) : Prop := ∀ (l : Option (List Int)) (i : Int), C.c f [slAV intRow l, I i] (I (atL l i)) none
def from.Spec (C : Con) (f : Nat) : Prop := ∀ (l : Option (List Int)) (i n : Int), 0 < n → C.c f [slAV intRow l, I i, I n] (I (frm l i n)) none
theorem a_slAV {α : Type} (f : α → List AV) (l : Option (List α)) : argSV (slAV f l) = .dat (slAV f l) none := by cases l <;> rfl
theorem a_rows {α : Type} (f : α → List AV) (l : Option (List α)) : rowsOf (slAV f l) = some ((l.getD []).map f) := by cases l <;> rfl
theorem a_len {α : Type} (f : α → List AV) (l : Option (List α)) : lenA (slAV f l) = some (.int .i64 (l.getD []).length) := by cases l <;> simp [lenA, slAV]
section
variable {P : Program} (hm : P.follows .mixedOrders = true) {f : Nat}
include hm
theorem Place.ok (hc : cFn P f = some cc_law00_Place) : Place.Spec (Pure P) f := by
  intro v n hn
  refine pure_of hm hc (by show 2 ≤ 15; decide) (aw_flat (keep := []) (i := 0) ?_)
  have hn0 : ¬ n = 0 := by omega
  simp only [cc_law00_Place, I, B, D, EW, cond_true, cond_false, decide_eq_true_eq, decide_eq_false_iff_not, List.length_cons, List.length_nil, ↓ k_wv, ↓ k_cl, ↓ k_clp, ↓ k_gd, ↓ k_cd, ↓ k_pk, EV, flat, List.contains_nil, Bool.false_eq_true, if_false, if_true, true_and, List.getElem?_cons_zero, List.getElem?_cons_succ, Nat.reduceBEq, Nat.reduceAdd, hn0]
  refine ⟨hn0, cd_split (fun h => ?_) (fun h => ?_)⟩ <;> try simp only [I, B, D, EW, cond_true, cond_false, decide_eq_true_eq, decide_eq_false_iff_not, List.length_cons, List.length_nil, ↓ k_wv, ↓ k_cl, ↓ k_clp, ↓ k_gd, ↓ k_cd, ↓ k_pk, EV, flat, List.contains_nil, Bool.false_eq_true, if_false, if_true, true_and, List.getElem?_cons_zero, List.getElem?_cons_succ, Nat.reduceBEq, Nat.reduceAdd, h]
  · simp only [decide_eq_true_eq] at h
    simp only [place, h, if_true, w64]
  · simp only [decide_eq_false_iff_not] at h
    simp only [place, h, if_false]
theorem from.ok {fA fP : Nat} (hc : cFn P f = some (cc_law00_from fA fP)) (hA : At.Spec (Pure P) fA) (hP : Place.Spec (Pure P) fP) : from.Spec (Pure P) f := by
  intro l i n hn
  refine pure_of hm hc (by show 3 ≤ 12; decide) (aw_flat (keep := []) (i := 0) ?_)
  simp only [cc_law00_from, a_slAV, I, B, D, EW, cond_true, cond_false, decide_eq_true_eq, decide_eq_false_iff_not, List.length_cons, List.length_nil, ↓ k_wv, ↓ k_cl, ↓ k_clp, ↓ k_gd, ↓ k_cd, ↓ k_pk, EV, flat, List.contains_nil, Bool.false_eq_true, if_false, if_true, true_and, List.getElem?_cons_zero, List.getElem?_cons_succ, Nat.reduceBEq, Nat.reduceAdd]
  refine call_is (hA _ _) ?_
  simp only [I, B, D, EW, cond_true, cond_false, decide_eq_true_eq, decide_eq_false_iff_not, List.length_cons, List.length_nil, ↓ k_wv, ↓ k_cl, ↓ k_clp, ↓ k_gd, ↓ k_cd, ↓ k_pk, EV, flat, List.contains_nil, Bool.false_eq_true, if_false, if_true, true_and, List.getElem?_cons_zero, List.getElem?_cons_succ, Nat.reduceBEq, Nat.reduceAdd]
  refine call_is (hP _ _ hn) ?_
  simp only [I, B, D, EW, cond_true, cond_false, decide_eq_true_eq, decide_eq_false_iff_not, List.length_cons, List.length_nil, ↓ k_wv, ↓ k_cl, ↓ k_clp, ↓ k_gd, ↓ k_cd, ↓ k_pk, EV, flat, List.contains_nil, Bool.false_eq_true, if_false, if_true, true_and, List.getElem?_cons_zero, List.getElem?_cons_succ, Nat.reduceBEq, Nat.reduceAdd]
  rfl
theorem At.ok (hc : cFn P f = some cc_law00_At) : At.Spec (Pure P) f := by
  intro l i
  refine pure_of hm hc (by show 2 ≤ 17; decide) (aw_flat (keep := []) (i := 0) ?_)
  simp only [cc_law00_At, a_slAV, a_rows, a_len, I, B, D, EW, cond_true, cond_false, decide_eq_true_eq, decide_eq_false_iff_not, List.length_cons, List.length_nil, ↓ k_wv, ↓ k_cl, ↓ k_clp, ↓ k_gd, ↓ k_cd, ↓ k_pk, EV, flat, List.contains_nil, Bool.false_eq_true, if_false, if_true, true_and, List.getElem?_cons_zero, List.getElem?_cons_succ, Nat.reduceBEq, Nat.reduceAdd]
  repeat' (first | (refine gd_split (fun h => ?_) (fun h => ?_) <;> try simp only [a_rows, a_len, I, B, D, EW, cond_true, cond_false, decide_eq_true_eq, decide_eq_false_iff_not, List.length_cons, List.length_nil, ↓ k_wv, ↓ k_cl, ↓ k_clp, ↓ k_gd, ↓ k_cd, ↓ k_pk, EV, flat, List.contains_nil, Bool.false_eq_true, if_false, if_true, true_and, List.getElem?_cons_zero, List.getElem?_cons_succ, Nat.reduceBEq, Nat.reduceAdd, h]) | (refine cd_split (fun h => ?_) (fun h => ?_) <;> try simp only [a_rows, a_len, I, B, D, EW, cond_true, cond_false, decide_eq_true_eq, decide_eq_false_iff_not, List.length_cons, List.length_nil, ↓ k_wv, ↓ k_cl, ↓ k_clp, ↓ k_gd, ↓ k_cd, ↓ k_pk, EV, flat, List.contains_nil, Bool.false_eq_true, if_false, if_true, true_and, List.getElem?_cons_zero, List.getElem?_cons_succ, Nat.reduceBEq, Nat.reduceAdd, h]))
  · simp only [decide_eq_true_eq] at h
    simp [atL, h]
  · rename_i h'
    simp only [decide_eq_true_eq, decide_eq_false_iff_not] at h h'
    have : (l.getD []).length ≤ i.toNat := by omega
    simp [atL, h, this]
  · rename_i h'
    simp only [decide_eq_false_iff_not] at h h'
    have hlt : i.toNat < (l.getD []).length := by omega
    refine ⟨⟨by omega, by simp; omega⟩, ?_⟩
    refine wv_of (intRow ((l.getD []).getD i.toNat 0)) (by simp [hlt]) ?_
    simp only [intRow, I, B, D, EW, cond_true, cond_false, List.length_cons, List.length_nil, ↓ k_wv, ↓ k_cl, ↓ k_clp, ↓ k_gd, ↓ k_cd, ↓ k_pk, EV, true_and, List.getElem?_cons_zero, Nat.reduceBEq, Nat.reduceAdd]
    simp [atL, h']
end
end Go.Eng
namespace Go.Eng
set_option linter.unusedVariables false
set_option linter.unusedSimpArgs false
set_option linter.unnecessarySimpa false
open Go
set_option linter.unusedVariables false
set_option linter.unusedSimpArgs false
set_option maxRecDepth 10000
def phaseOf (l : Option (List Int)) (i : Int) : Ph :=
  let min := w64 (1 + frm l i 12)
  let max := w64 (min + frm l (w64 (i + 5)) 25)
  let top := w64 (max + frm l (w64 (i + 6)) 15)
  let w := frm l (w64 (i + 7)) 2 = 1
  let walk := if w then w64 (1 + frm l (w64 (i + 8)) 10) else 0
  let blinks := if w then w64 (1 + w64 ((frm l (w64 (i + 8)) 97).tdiv 10)) else 0
  let r := frm l (w64 (i + 9)) 7
  { on := true, min := min, gap := frm l (w64 (i + 1)) 9, max := max, top := top, step := w64 (1 + frm l (w64 (i + 2)) 6), yellow := w64 (10 + frm l (w64 (i + 3)) 4), red := frm l (w64 (i + 4)) 5,
    walk := walk, blinks := blinks, recall := if r > 3 ∨ r = 3 ∧ walk = 0 then 0 else r, lock := decide (frm l (w64 (i + 10)) 3 > 0), rest := frm l (w64 (i + 11)) 4 == 1 }
def phase.Spec (C : Con) (f : Nat) : Prop := ∀ (l : Option (List Int)) (i : Int), C.c f [slAV intRow l, I i] (.agg (phaseOf l i).cells) none
section
variable {P : Program} (hm : P.follows .mixedOrders = true) {f : Nat}
include hm
theorem phase.ok {fF : Nat} (hc : cFn P f = some (cc_law00_phase fF)) (hF : from.Spec (Pure P) fF) : phase.Spec (Pure P) f := by
  intro l i
  refine pure_of hm hc (by show 2 ≤ 95; decide) (aw_flat (keep := []) (i := 0) ?_)
  simp only [cc_law00_phase, z13_14216, a_slAV, I, B, D, EW, cond_true, cond_false, List.length_cons, List.length_nil, ↓ k_wv, ↓ k_cl, ↓ k_clp, ↓ k_gd, ↓ k_cd, ↓ k_pk, EV, r_partO, r_rowO, r_blk4, fillA, setCells, stTags, List.take_succ_cons, List.take_zero, List.drop_succ_cons, List.drop_zero, List.nil_append, List.cons_append, List.append_nil, flat, List.contains_nil, Bool.false_eq_true, if_false, if_true, true_and, List.getElem?_cons_zero, List.getElem?_cons_succ, Nat.reduceBEq, Nat.reduceAdd, Nat.le_refl, Nat.reduceLeDiff, p_some, ge_iff_le, List.filter_nil, Option.map_some, Int.reduceNe, Int.reduceBEq, ne_eq, not_false_eq_true, Int.reduceEq]
  repeat' (first | (refine call_is (hF _ _ _ (by decide)) ?_; simp only [I, B, D, EW, cond_true, cond_false, List.length_cons, List.length_nil, ↓ k_wv, ↓ k_cl, ↓ k_clp, ↓ k_gd, ↓ k_cd, ↓ k_pk, EV, r_partO, r_rowO, r_blk4, fillA, setCells, stTags, List.take_succ_cons, List.take_zero, List.drop_succ_cons, List.drop_zero, List.nil_append, List.cons_append, List.append_nil, flat, List.contains_nil, Bool.false_eq_true, if_false, if_true, true_and, List.getElem?_cons_zero, List.getElem?_cons_succ, Nat.reduceBEq, Nat.reduceAdd, Nat.le_refl, Nat.reduceLeDiff, p_some, ge_iff_le, List.filter_nil, Option.map_some, Int.reduceNe, Int.reduceBEq, ne_eq, not_false_eq_true, Int.reduceEq]) | (refine gd_split (fun h => ?_) (fun h => ?_) <;> try simp only [I, B, D, EW, cond_true, cond_false, List.length_cons, List.length_nil, ↓ k_wv, ↓ k_cl, ↓ k_clp, ↓ k_gd, ↓ k_cd, ↓ k_pk, EV, r_partO, r_rowO, r_blk4, fillA, setCells, stTags, List.take_succ_cons, List.take_zero, List.drop_succ_cons, List.drop_zero, List.nil_append, List.cons_append, List.append_nil, flat, List.contains_nil, Bool.false_eq_true, if_false, if_true, true_and, List.getElem?_cons_zero, List.getElem?_cons_succ, Nat.reduceBEq, Nat.reduceAdd, Nat.le_refl, Nat.reduceLeDiff, p_some, ge_iff_le, List.filter_nil, Option.map_some, Int.reduceNe, Int.reduceBEq, ne_eq, not_false_eq_true, Int.reduceEq, h]) | (refine cd_split (fun h => ?_) (fun h => ?_) <;> try simp only [I, B, D, EW, cond_true, cond_false, List.length_cons, List.length_nil, ↓ k_wv, ↓ k_cl, ↓ k_clp, ↓ k_gd, ↓ k_cd, ↓ k_pk, EV, r_partO, r_rowO, r_blk4, fillA, setCells, stTags, List.take_succ_cons, List.take_zero, List.drop_succ_cons, List.drop_zero, List.nil_append, List.cons_append, List.append_nil, flat, List.contains_nil, Bool.false_eq_true, if_false, if_true, true_and, List.getElem?_cons_zero, List.getElem?_cons_succ, Nat.reduceBEq, Nat.reduceAdd, Nat.le_refl, Nat.reduceLeDiff, p_some, ge_iff_le, List.filter_nil, Option.map_some, Int.reduceNe, Int.reduceBEq, ne_eq, not_false_eq_true, Int.reduceEq, h]))
  all_goals simp_all [phaseOf, Ph.cells, w64]
  all_goals omega
end
end Go.Eng
namespace Go.Eng
set_option linter.unusedVariables false
set_option linter.unusedSimpArgs false
set_option linter.unnecessarySimpa false
open Go
set_option linter.unusedVariables false
set_option linter.unusedSimpArgs false
set_option maxRecDepth 10000
def bitI (p : Int) : Int := if p < 0 ∨ 8 ≤ p then 0 else 2 ^ p.toNat
def hasS (s p : Int) : Bool := bAnd .i64 s (bitI p) != 0
def bit.Spec (C : Con) (f : Nat) : Prop := ∀ p : Int, C.c f [I p] (I (bitI p)) none
def setHas.Spec (C : Con) (f : Nat) : Prop := ∀ s p : Int, C.c f [I s, I p] (B (hasS s p)) none
theorem shl_small {p : Int} (h0 : 0 ≤ p) (h8 : p < 8) : IntKind.i64.wrap (1 * 2 ^ min p.toNat IntKind.i64.bits) = 2 ^ p.toNat := by
  have : p = 0 ∨ p = 1 ∨ p = 2 ∨ p = 3 ∨ p = 4 ∨ p = 5 ∨ p = 6 ∨ p = 7 := by omega
  rcases this with rfl | rfl | rfl | rfl | rfl | rfl | rfl | rfl <;> decide
section
variable {P : Program} (hm : P.follows .mixedOrders = true) {f : Nat}
include hm
theorem bit.ok (hc : cFn P f = some cc_set_bit) : bit.Spec (Pure P) f := by
  intro p
  refine pure_of hm hc (by show 1 ≤ 11; decide) (aw_flat (keep := []) (i := 0) ?_)
  simp only [cc_set_bit, I, B, D, EW, cond_true, cond_false, List.length_cons, List.length_nil, ↓ k_wv, ↓ k_cl, ↓ k_clp, ↓ k_gd, ↓ k_cd, ↓ k_pk, EV, r_partO, r_rowO, r_blk4, fillA, setCells, stTags, List.take_succ_cons, List.take_zero, List.drop_succ_cons, List.drop_zero, List.nil_append, List.cons_append, List.append_nil, flat, List.contains_nil, Bool.false_eq_true, if_false, if_true, true_and, List.getElem?_cons_zero, List.getElem?_cons_succ, Nat.reduceBEq, Nat.reduceAdd, Nat.le_refl, Nat.reduceLeDiff, p_some, ge_iff_le, List.filter_nil, Option.map_some, Int.reduceNe, Int.reduceBEq, ne_eq, not_false_eq_true, Int.reduceEq]
  repeat' (first | (refine gd_split (fun h => ?_) (fun h => ?_) <;> try simp only [I, B, D, EW, cond_true, cond_false, List.length_cons, List.length_nil, ↓ k_wv, ↓ k_cl, ↓ k_clp, ↓ k_gd, ↓ k_cd, ↓ k_pk, EV, r_partO, r_rowO, r_blk4, fillA, setCells, stTags, List.take_succ_cons, List.take_zero, List.drop_succ_cons, List.drop_zero, List.nil_append, List.cons_append, List.append_nil, flat, List.contains_nil, Bool.false_eq_true, if_false, if_true, true_and, List.getElem?_cons_zero, List.getElem?_cons_succ, Nat.reduceBEq, Nat.reduceAdd, Nat.le_refl, Nat.reduceLeDiff, p_some, ge_iff_le, List.filter_nil, Option.map_some, Int.reduceNe, Int.reduceBEq, ne_eq, not_false_eq_true, Int.reduceEq, h]) | (refine cd_split (fun h => ?_) (fun h => ?_) <;> try simp only [I, B, D, EW, cond_true, cond_false, List.length_cons, List.length_nil, ↓ k_wv, ↓ k_cl, ↓ k_clp, ↓ k_gd, ↓ k_cd, ↓ k_pk, EV, r_partO, r_rowO, r_blk4, fillA, setCells, stTags, List.take_succ_cons, List.take_zero, List.drop_succ_cons, List.drop_zero, List.nil_append, List.cons_append, List.append_nil, flat, List.contains_nil, Bool.false_eq_true, if_false, if_true, true_and, List.getElem?_cons_zero, List.getElem?_cons_succ, Nat.reduceBEq, Nat.reduceAdd, Nat.le_refl, Nat.reduceLeDiff, p_some, ge_iff_le, List.filter_nil, Option.map_some, Int.reduceNe, Int.reduceBEq, ne_eq, not_false_eq_true, Int.reduceEq, h]))
  · simp only [decide_eq_true_eq] at h
    simp [bitI, h]
  · rename_i h'
    simp only [decide_eq_true_eq, decide_eq_false_iff_not] at h h'
    simp [bitI, h]
  · rename_i h'
    simp only [decide_eq_true_eq, decide_eq_false_iff_not] at h h'
    refine ⟨by omega, ?_⟩
    have hc : ¬ (p < 0 ∨ 8 ≤ p) := by omega
    rw [shl_small (by omega) (by omega)]
    simp only [bitI, hc, if_false]
theorem setHas.ok {fB : Nat} (hc : cFn P f = some (cc_set_Has fB)) (hB : bit.Spec (Pure P) fB) : setHas.Spec (Pure P) f := by
  intro s p
  refine pure_of hm hc (by show 2 ≤ 10; decide) (aw_flat (keep := []) (i := 0) ?_)
  simp only [cc_set_Has, I, B, D, EW, cond_true, cond_false, List.length_cons, List.length_nil, ↓ k_wv, ↓ k_cl, ↓ k_clp, ↓ k_gd, ↓ k_cd, ↓ k_pk, EV, r_partO, r_rowO, r_blk4, fillA, setCells, stTags, List.take_succ_cons, List.take_zero, List.drop_succ_cons, List.drop_zero, List.nil_append, List.cons_append, List.append_nil, flat, List.contains_nil, Bool.false_eq_true, if_false, if_true, true_and, List.getElem?_cons_zero, List.getElem?_cons_succ, Nat.reduceBEq, Nat.reduceAdd, Nat.le_refl, Nat.reduceLeDiff, p_some, ge_iff_le, List.filter_nil, Option.map_some, Int.reduceNe, Int.reduceBEq, ne_eq, not_false_eq_true, Int.reduceEq]
  refine call_is (hB _) ?_
  simp only [I, B, D, EW, cond_true, cond_false, List.length_cons, List.length_nil, ↓ k_wv, ↓ k_cl, ↓ k_clp, ↓ k_gd, ↓ k_cd, ↓ k_pk, EV, r_partO, r_rowO, r_blk4, fillA, setCells, stTags, List.take_succ_cons, List.take_zero, List.drop_succ_cons, List.drop_zero, List.nil_append, List.cons_append, List.append_nil, flat, List.contains_nil, Bool.false_eq_true, if_false, if_true, true_and, List.getElem?_cons_zero, List.getElem?_cons_succ, Nat.reduceBEq, Nat.reduceAdd, Nat.le_refl, Nat.reduceLeDiff, p_some, ge_iff_le, List.filter_nil, Option.map_some, Int.reduceNe, Int.reduceBEq, ne_eq, not_false_eq_true, Int.reduceEq]
  rfl
end
end Go.Eng
namespace Go.Eng
set_option linter.unusedVariables false
set_option linter.unusedSimpArgs false
set_option linter.unnecessarySimpa false
open Go
set_option linter.unusedVariables false
set_option linter.unusedSimpArgs false
set_option maxRecDepth 10000
theorem le_mk {sl sl' : List (Nat × SV)} {bx bx' : List (Nat × Box)} {lv lv' : List (Nat × Nat)} {nx nx' : Nat} (m : List (Nat × Nat)) (h : 4 ≤ nx') (h1 : leSlots m nx' sl sl') (h2 : leBoxes m nx' bx bx') (h3 : leLive m nx' lv lv') (h4 : liveInj m lv') : Le ⟨sl, bx, lv, nx⟩ ⟨sl', bx', lv', nx'⟩ := ⟨h, m, h1, h2, h3, h4⟩
end Go.Eng
namespace Go.Eng
set_option linter.unusedVariables false
set_option linter.unusedSimpArgs false
set_option linter.unnecessarySimpa false
open Go
set_option linter.unusedVariables false
set_option linter.unusedSimpArgs false
set_option maxRecDepth 10000
structure Cs where
  car : Int
  foot : Int
  deriving Inhabited, DecidableEq
def Cs.cells (c : Cs) : List AV := [I c.car, I c.foot]
theorem Tb.whole {t : Tb} (ht : t.Ok) : partA t.cells 0 (some 131) = some (.agg t.cells) := by
  have hl := Tb.len ht
  rw [p_some _ _ _ (by omega), List.drop_zero, ← hl, List.take_length]
end Go.Eng
namespace Go.Eng
set_option linter.unusedVariables false
set_option linter.unusedSimpArgs false
set_option linter.unnecessarySimpa false
open Go
set_option linter.unusedVariables false
set_option linter.unusedSimpArgs false
set_option maxRecDepth 10000
def cutI (n a b : Int) : Int := if n < a then a else if b < n then b else n
def capI (n : Int) : Int := cutI n 0 2147483647
def addI (a b : Int) : Int := capI (capI a + capI b)
def mulI (a b : Int) : Int := capI (capI a * capI b)
def hasR (s p : Int) : Bool := decide (0 ≤ p) && decide (p < 8) && bAnd .i64 (s.fdiv (2 ^ p.toNat)) 1 == 1
def Cut.Spec (C : Con) (f : Nat) : Prop := ∀ n a b : Int, C.c f [I n, I a, I b] (I (cutI n a b)) none
def Cap.Spec (C : Con) (f : Nat) : Prop := ∀ n : Int, C.c f [I n] (I (capI n)) none
def Add.Spec (C : Con) (f : Nat) : Prop := ∀ a b : Int, C.c f [I a, I b] (I (addI a b)) none
def Mul.Spec (C : Con) (f : Nat) : Prop := ∀ a b : Int, C.c f [I a, I b] (I (mulI a b)) none
def refHas.Spec (C : Con) (f : Nat) : Prop := ∀ s p : Int, C.c f [I s, I p] (B (hasR s p)) none
theorem capI_range (n : Int) : 0 ≤ capI n ∧ capI n ≤ 2147483647 := by
  unfold capI cutI; split
  · omega
  · split <;> omega
theorem wrap_id {n : Int} (h1 : -9223372036854775808 ≤ n) (h2 : n ≤ 9223372036854775807) : IntKind.i64.wrap n = n := by
  simp only [IntKind.wrap, IntKind.bits, IntKind.signed]
  simp
  omega
section
variable {P : Program} (hm : P.follows .mixedOrders = true) {f : Nat}
include hm
theorem Cut.ok (hc : cFn P f = some cc_ref01_Cut) : Cut.Spec (Pure P) f := by
  intro n a b
  refine pure_of hm hc (by show 3 ≤ 16; decide) (aw_flat (keep := []) (i := 0) ?_)
  simp only [cc_ref01_Cut, I, B, D, EW, cond_true, cond_false, List.length_cons, List.length_nil, ↓ k_wv, ↓ k_cl, ↓ k_clp, ↓ k_gd, ↓ k_cd, ↓ k_pk, EV, r_partO, r_rowO, r_blk4, fillA, setCells, stTags, List.take_succ_cons, List.take_zero, List.drop_succ_cons, List.drop_zero, List.nil_append, List.cons_append, List.append_nil, flat, List.contains_nil, Bool.false_eq_true, if_false, if_true, true_and, List.getElem?_cons_zero, List.getElem?_cons_succ, Nat.reduceBEq, Nat.reduceAdd, Nat.le_refl, Nat.reduceLeDiff, p_some, ge_iff_le, List.filter_nil, Option.map_some, Int.reduceNe, Int.reduceBEq, ne_eq, not_false_eq_true, Int.reduceEq, Bool.not_true, Bool.not_false]
  repeat' (first | (refine cd_split (fun h => ?_) (fun h => ?_) <;> try simp only [I, B, D, EW, cond_true, cond_false, List.length_cons, List.length_nil, ↓ k_wv, ↓ k_cl, ↓ k_clp, ↓ k_gd, ↓ k_cd, ↓ k_pk, EV, r_partO, r_rowO, r_blk4, fillA, setCells, stTags, List.take_succ_cons, List.take_zero, List.drop_succ_cons, List.drop_zero, List.nil_append, List.cons_append, List.append_nil, flat, List.contains_nil, Bool.false_eq_true, if_false, if_true, true_and, List.getElem?_cons_zero, List.getElem?_cons_succ, Nat.reduceBEq, Nat.reduceAdd, Nat.le_refl, Nat.reduceLeDiff, p_some, ge_iff_le, List.filter_nil, Option.map_some, Int.reduceNe, Int.reduceBEq, ne_eq, not_false_eq_true, Int.reduceEq, Bool.not_true, Bool.not_false, h]))
  all_goals simp_all [cutI]
  all_goals omega
theorem Cap.ok {fC : Nat} (hc : cFn P f = some (cc_ref01_Cap fC)) (hC : Cut.Spec (Pure P) fC) : Cap.Spec (Pure P) f := by
  intro n
  refine pure_of hm hc (by show 1 ≤ 5; decide) (aw_flat (keep := []) (i := 0) ?_)
  simp only [cc_ref01_Cap, I, B, D, EW, cond_true, cond_false, List.length_cons, List.length_nil, ↓ k_wv, ↓ k_cl, ↓ k_clp, ↓ k_gd, ↓ k_cd, ↓ k_pk, EV, r_partO, r_rowO, r_blk4, fillA, setCells, stTags, List.take_succ_cons, List.take_zero, List.drop_succ_cons, List.drop_zero, List.nil_append, List.cons_append, List.append_nil, flat, List.contains_nil, Bool.false_eq_true, if_false, if_true, true_and, List.getElem?_cons_zero, List.getElem?_cons_succ, Nat.reduceBEq, Nat.reduceAdd, Nat.le_refl, Nat.reduceLeDiff, p_some, ge_iff_le, List.filter_nil, Option.map_some, Int.reduceNe, Int.reduceBEq, ne_eq, not_false_eq_true, Int.reduceEq, Bool.not_true, Bool.not_false]
  refine call_is (hC _ _ _) ?_
  simp only [I, B, D, EW, cond_true, cond_false, List.length_cons, List.length_nil, ↓ k_wv, ↓ k_cl, ↓ k_clp, ↓ k_gd, ↓ k_cd, ↓ k_pk, EV, r_partO, r_rowO, r_blk4, fillA, setCells, stTags, List.take_succ_cons, List.take_zero, List.drop_succ_cons, List.drop_zero, List.nil_append, List.cons_append, List.append_nil, flat, List.contains_nil, Bool.false_eq_true, if_false, if_true, true_and, List.getElem?_cons_zero, List.getElem?_cons_succ, Nat.reduceBEq, Nat.reduceAdd, Nat.le_refl, Nat.reduceLeDiff, p_some, ge_iff_le, List.filter_nil, Option.map_some, Int.reduceNe, Int.reduceBEq, ne_eq, not_false_eq_true, Int.reduceEq, Bool.not_true, Bool.not_false]
  rfl
theorem Add.ok {fC : Nat} (hc : cFn P f = some (cc_ref01_Add fC)) (hC : Cap.Spec (Pure P) fC) : Add.Spec (Pure P) f := by
  intro a b
  refine pure_of hm hc (by show 2 ≤ 11; decide) (aw_flat (keep := []) (i := 0) ?_)
  have ha := capI_range a
  have hb := capI_range b
  simp only [cc_ref01_Add, I, B, D, EW, cond_true, cond_false, List.length_cons, List.length_nil, ↓ k_wv, ↓ k_cl, ↓ k_clp, ↓ k_gd, ↓ k_cd, ↓ k_pk, EV, r_partO, r_rowO, r_blk4, fillA, setCells, stTags, List.take_succ_cons, List.take_zero, List.drop_succ_cons, List.drop_zero, List.nil_append, List.cons_append, List.append_nil, flat, List.contains_nil, Bool.false_eq_true, if_false, if_true, true_and, List.getElem?_cons_zero, List.getElem?_cons_succ, Nat.reduceBEq, Nat.reduceAdd, Nat.le_refl, Nat.reduceLeDiff, p_some, ge_iff_le, List.filter_nil, Option.map_some, Int.reduceNe, Int.reduceBEq, ne_eq, not_false_eq_true, Int.reduceEq, Bool.not_true, Bool.not_false]
  repeat (refine call_is (hC _) ?_; simp only [I, B, D, EW, cond_true, cond_false, List.length_cons, List.length_nil, ↓ k_wv, ↓ k_cl, ↓ k_clp, ↓ k_gd, ↓ k_cd, ↓ k_pk, EV, r_partO, r_rowO, r_blk4, fillA, setCells, stTags, List.take_succ_cons, List.take_zero, List.drop_succ_cons, List.drop_zero, List.nil_append, List.cons_append, List.append_nil, flat, List.contains_nil, Bool.false_eq_true, if_false, if_true, true_and, List.getElem?_cons_zero, List.getElem?_cons_succ, Nat.reduceBEq, Nat.reduceAdd, Nat.le_refl, Nat.reduceLeDiff, p_some, ge_iff_le, List.filter_nil, Option.map_some, Int.reduceNe, Int.reduceBEq, ne_eq, not_false_eq_true, Int.reduceEq, Bool.not_true, Bool.not_false])
  rw [wrap_id (by omega) (by omega)]
  rfl
theorem Mul.ok {fC : Nat} (hc : cFn P f = some (cc_ref01_Mul fC)) (hC : Cap.Spec (Pure P) fC) : Mul.Spec (Pure P) f := by
  intro a b
  refine pure_of hm hc (by show 2 ≤ 11; decide) (aw_flat (keep := []) (i := 0) ?_)
  have ha := capI_range a
  have hb := capI_range b
  have h1 : 0 ≤ capI a * capI b := Int.mul_nonneg ha.1 hb.1
  have h2 : capI a * capI b ≤ 2147483647 * 2147483647 := Int.mul_le_mul ha.2 hb.2 hb.1 (by omega)
  simp only [cc_ref01_Mul, I, B, D, EW, cond_true, cond_false, List.length_cons, List.length_nil, ↓ k_wv, ↓ k_cl, ↓ k_clp, ↓ k_gd, ↓ k_cd, ↓ k_pk, EV, r_partO, r_rowO, r_blk4, fillA, setCells, stTags, List.take_succ_cons, List.take_zero, List.drop_succ_cons, List.drop_zero, List.nil_append, List.cons_append, List.append_nil, flat, List.contains_nil, Bool.false_eq_true, if_false, if_true, true_and, List.getElem?_cons_zero, List.getElem?_cons_succ, Nat.reduceBEq, Nat.reduceAdd, Nat.le_refl, Nat.reduceLeDiff, p_some, ge_iff_le, List.filter_nil, Option.map_some, Int.reduceNe, Int.reduceBEq, ne_eq, not_false_eq_true, Int.reduceEq, Bool.not_true, Bool.not_false]
  repeat (refine call_is (hC _) ?_; simp only [I, B, D, EW, cond_true, cond_false, List.length_cons, List.length_nil, ↓ k_wv, ↓ k_cl, ↓ k_clp, ↓ k_gd, ↓ k_cd, ↓ k_pk, EV, r_partO, r_rowO, r_blk4, fillA, setCells, stTags, List.take_succ_cons, List.take_zero, List.drop_succ_cons, List.drop_zero, List.nil_append, List.cons_append, List.append_nil, flat, List.contains_nil, Bool.false_eq_true, if_false, if_true, true_and, List.getElem?_cons_zero, List.getElem?_cons_succ, Nat.reduceBEq, Nat.reduceAdd, Nat.le_refl, Nat.reduceLeDiff, p_some, ge_iff_le, List.filter_nil, Option.map_some, Int.reduceNe, Int.reduceBEq, ne_eq, not_false_eq_true, Int.reduceEq, Bool.not_true, Bool.not_false])
  rw [wrap_id (by omega) (by omega)]
  rfl
theorem refHas.ok (hc : cFn P f = some cc_ref01_Has) : refHas.Spec (Pure P) f := by
  intro s p
  refine pure_of hm hc (by show 2 ≤ 19; decide) (aw_flat (keep := []) (i := 0) ?_)
  simp only [cc_ref01_Has, I, B, D, EW, cond_true, cond_false, List.length_cons, List.length_nil, ↓ k_wv, ↓ k_cl, ↓ k_clp, ↓ k_gd, ↓ k_cd, ↓ k_pk, EV, r_partO, r_rowO, r_blk4, fillA, setCells, stTags, List.take_succ_cons, List.take_zero, List.drop_succ_cons, List.drop_zero, List.nil_append, List.cons_append, List.append_nil, flat, List.contains_nil, Bool.false_eq_true, if_false, if_true, true_and, List.getElem?_cons_zero, List.getElem?_cons_succ, Nat.reduceBEq, Nat.reduceAdd, Nat.le_refl, Nat.reduceLeDiff, p_some, ge_iff_le, List.filter_nil, Option.map_some, Int.reduceNe, Int.reduceBEq, ne_eq, not_false_eq_true, Int.reduceEq, Bool.not_true, Bool.not_false]
  repeat' (first | (refine gd_split (fun h => ?_) (fun h => ?_) <;> try simp only [I, B, D, EW, cond_true, cond_false, List.length_cons, List.length_nil, ↓ k_wv, ↓ k_cl, ↓ k_clp, ↓ k_gd, ↓ k_cd, ↓ k_pk, EV, r_partO, r_rowO, r_blk4, fillA, setCells, stTags, List.take_succ_cons, List.take_zero, List.drop_succ_cons, List.drop_zero, List.nil_append, List.cons_append, List.append_nil, flat, List.contains_nil, Bool.false_eq_true, if_false, if_true, true_and, List.getElem?_cons_zero, List.getElem?_cons_succ, Nat.reduceBEq, Nat.reduceAdd, Nat.le_refl, Nat.reduceLeDiff, p_some, ge_iff_le, List.filter_nil, Option.map_some, Int.reduceNe, Int.reduceBEq, ne_eq, not_false_eq_true, Int.reduceEq, Bool.not_true, Bool.not_false, h]))
  · rename_i h0
    have h1 := of_decide_eq_true h
    have h2 := of_decide_eq_true h0
    have hw : IntKind.u64.wrap p = p := by
      have : p = 0 ∨ p = 1 ∨ p = 2 ∨ p = 3 ∨ p = 4 ∨ p = 5 ∨ p = 6 ∨ p = 7 := by omega
      rcases this with rfl | rfl | rfl | rfl | rfl | rfl | rfl | rfl <;> decide
    have hm : min p.toNat IntKind.i64.bits = p.toNat := by
      have : IntKind.i64.bits = 64 := rfl
      omega
    rw [hw, hm]
    exact ⟨h2, by simp [hasR, h1, h2]⟩
  · simp [hasR, h]
  · simp [hasR, h]
end
end Go.Eng
namespace Go.Eng
set_option linter.unusedVariables false
set_option linter.unusedSimpArgs false
set_option linter.unnecessarySimpa false
open Go
set_option linter.unusedVariables false
set_option linter.unusedSimpArgs false
set_option maxRecDepth 10000
set_option maxHeartbeats 4000000
theorem intRow_len (n : Int) : (intRow n).length = 1 := rfl
set_option linter.defProp false
def RW :=
  And.intro @EV (And.intro @EW (And.intro @cond_true.{1} (And.intro @cond_false.{1} (And.intro @List.length_cons.{0} (And.intro @List.length_nil.{0} (And.intro @r_partO (And.intro @r_rowO (And.intro @r_blk4 (And.intro @List.take_succ_cons.{0} (And.intro @List.take_zero.{0} (And.intro @List.drop_succ_cons.{0} (And.intro @List.drop_zero.{0} (And.intro @List.nil_append.{0} (And.intro @List.cons_append.{0} (And.intro @List.append_nil.{0} (And.intro @List.contains_nil.{0} (And.intro @Bool.false_eq_true (And.intro @if_false.{1} (And.intro @if_true.{1} (And.intro @true_and (And.intro @List.getElem?_cons_zero.{0} (And.intro @List.getElem?_cons_succ.{0} (And.intro @Nat.le_refl (And.intro @p_some (And.intro @ge_iff_le.{0} (And.intro @List.filter_nil.{0} (And.intro @Option.map_some.{0,0} (And.intro @ne_eq.{1} (And.intro @not_false_eq_true (And.intro @Bool.not_true (And.intro @Bool.not_false (And.intro @List.mem_singleton.{0} (And.intro @forall_eq.{1} (And.intro @List.not_mem_nil.{0} (And.intro @false_implies (And.intro @implies_true.{0} (And.intro @implies_true.{1} (And.intro @List.forall_mem_map.{0,0} (And.intro @List.length_map.{0,0} (And.intro @and_true (And.intro @intRow_len (And.intro @a_slAV (And.intro @a_rows (And.intro @a_len (And.intro @Int.toNat_natCast (And.intro @List.getElem?_map.{0,0} (And.intro @Nat.zero_add (And.intro @Nat.add_zero (And.intro @List.mem_cons.{0} (And.intro @forall_eq_or_imp.{1} (And.intro @Nat.mul_one (And.intro @decide_true (And.intro @decide_false (And.intro @List.contains_cons.{0} (And.intro @Bool.or_false (And.intro @Bool.false_or (And.intro @Bool.or_true (@Bool.true_or))))))))))))))))))))))))))))))))))))))))))))))))))))))))))
def KW :=
  And.intro @k_wv (And.intro @k_cl (And.intro @k_clp (And.intro @k_gd (And.intro @k_cd (And.intro @k_pk (@k_dg))))))
end Go.Eng
namespace Go.Eng
set_option linter.unusedVariables false
set_option linter.unusedSimpArgs false
set_option linter.unnecessarySimpa false
open Go
set_option linter.unusedVariables false
set_option linter.unusedSimpArgs false
set_option maxRecDepth 10000
set_option maxHeartbeats 4000000
theorem aw_loop' {C : Con} {c : CCode} {Q : Exit → S → Prop} {α : Type} (hd : α → S) (μ : α → Nat) (I : α → Prop)
    (round : ∀ x, I x → ∀ B : S → Prop, (∀ y s, I y → μ y < μ x → Le s (hd y) → B s) → aw C c (athen B Q) (hd x)) (x : α) (hx : I x) {s : S} (h0 : Le s (hd x)) : aw C (.loop c) Q s :=
  aw_loop hd μ I (fun x hx => round x hx _ fun y s hy hμ hle => ⟨hd y, .inl ⟨hle, y, rfl, hy, hμ⟩⟩) hx (.inl h0)
theorem lv_dat (m : List (Nat × Nat)) (nx : Nat) (a a' : AV) (q : Option Nat) : leSV m nx (.dat a q) (.dat a' none) = (a = a') := by cases q <;> rfl
theorem lv_tok (m : List (Nat × Nat)) (nx : Nat) (a a' : AV) (q q' : Nat) : leSV m nx (.dat a (some q)) (.dat a' (some q')) = (a = a' ∧ q = ren m q' ∧ q' < nx) := rfl
theorem lv_ptr (m : List (Nat × Nat)) (nx : Nat) (b o b' o' : Nat) : leSV m nx (.ptr b o) (.ptr b' o') = (b = b' ∧ o = o' ∧ b' < nx) := rfl
theorem lv_rp (m : List (Nat × Nat)) (nx : Nat) (a b : List AV) : leSV m nx (.rp a) (.rp b) = (a = b) := rfl
theorem lv_undef (m : List (Nat × Nat)) (nx : Nat) : leSV m nx .undef .undef = True := rfl
def tokM (a : List (Nat × SV)) : List (Nat × SV) → List (Nat × Nat)
  | [] => []
  | (t, .dat _ (some q)) :: r => match lk t a with
    | some (.dat _ (some q')) => (q, q') :: tokM a r
    | _ => tokM a r
  | _ :: r => tokM a r
def tokT (a : List (Nat × Nat)) : List (Nat × Nat) → List (Nat × Nat)
  | [] => []
  | (o, q) :: r => match lkN o a with
    | some q' => (q, q') :: tokT a r
    | none => tokT a r
def tokB (a : List (Nat × Box)) : List (Nat × Box) → List (Nat × Nat)
  | [] => []
  | (b, x) :: r => match lkB b a with
    | some y => tokT y.tags x.tags ++ tokB a r
    | none => tokB a r
theorem le_tok2 {sl sl' : List (Nat × SV)} {bx bx' : List (Nat × Box)} {lv lv' : List (Nat × Nat)} {nx nx' : Nat} (h : 4 ≤ nx') (h1 : leSlots (tokM sl sl' ++ tokB bx bx') nx' sl sl') (h2 : leBoxes (tokM sl sl' ++ tokB bx bx') nx' bx bx') (h3 : leLive (tokM sl sl' ++ tokB bx bx') nx' lv lv') (h4 : liveInj (tokM sl sl' ++ tokB bx bx') lv') : Le ⟨sl, bx, lv, nx⟩ ⟨sl', bx', lv', nx'⟩ := ⟨h, _, h1, h2, h3, h4⟩
def mkO {α : Type} (l : List α) : Option (List α) := if l = [] then none else some l
def ownSV {α : Type} (row : α → List AV) (l : List α) (t : Nat) : SV := if l = [] then .dat .nils none else .dat (.sl (l.map row)) (some t)
def ownL {α : Type} (l : List α) (t e : Nat) : List (Nat × Nat) := if l = [] then [] else [(t, e)]
theorem wrap_succ {k : Nat} (h : k < 9223372036854775806) : IntKind.i64.wrap ((k : Int) + 1) = ((k + 1 : Nat) : Int) := by rw [wrap_id (by omega) (by omega)]; omega
def listS (s : Int) : List Int := ((List.range 8).map fun (k : Nat) => (k : Int)).filter (hasR s)
def listTo (s : Int) (k : Nat) : List Int := ((List.range k).map fun (k : Nat) => (k : Int)).filter (hasR s)
theorem listTo_succ (s : Int) (k : Nat) : listTo s (k + 1) = if hasR s k then listTo s k ++ [(k : Int)] else listTo s k := by
  simp only [listTo, List.range_succ, List.map_append, List.filter_append, List.map_cons, List.map_nil, List.filter_cons, List.filter_nil]
  split <;> simp
def refList.Spec (C : Con) (f e : Nat) : Prop := ∀ (s : Int) (fr : Option Nat), (fr = none ∨ fr = some e ∧ listS s ≠ []) → C.c f [I s] (slAV intRow (mkO (listS s))) fr
def ofTo (l : List Int) : Nat → Int
  | 0 => 0
  | k + 1 => if (k : Int) ∈ l then bOr .i64 (ofTo l k) (2 ^ k) else ofTo l k
def ofI (l : List Int) : Int := ofTo l 8
def refOf.Spec (C : Con) (f : Nat) : Prop := ∀ l : Option (List Int), (l.getD []).length ≤ 140737488355328 → C.c f [slAV intRow l] (I (ofI (l.getD []))) none
def withR (s p : Int) : Int := ofI (listS s ++ [p])
def refWith.Spec (C : Con) (f : Nat) : Prop := ∀ s p : Int, C.c f [I s, I p] (I (withR s p)) none
theorem take_next {α : Type} {l : List α} {i : Nat} {x : α} (h : l[i]? = some x) : l.take (i + 1) = l.take i ++ [x] := by
  obtain ⟨hi, rfl⟩ := List.getElem?_eq_some_iff.1 h
  rw [List.take_succ_eq_append_getElem hi]
theorem wrap_u64 {k : Nat} (h : k < 18446744073709551616) : IntKind.u64.wrap (k : Int) = k := by
  simp only [IntKind.wrap, IntKind.bits, IntKind.signed]
  simp
  omega
section
variable {P : Program} (hm : P.follows .mixedOrders = true) {f : Nat}
include hm
theorem refList.ok {fH e : Nat} (hc : cFn P f = some (cc_ref01_List fH e)) (hH : refHas.Spec (Pure P) fH) : refList.Spec (Pure P) f e := by
  intro s fr hfr
  refine pure_of hm hc (by show 1 ≤ 17; decide) (aw_flat (keep := []) (i := 0) ?_)
  try simp only [I, B, D, RW, ↓ KW, fillA, setCells, stTags, flat, Nat.reduceBEq, Nat.reduceAdd, Nat.reduceLeDiff, Int.reduceNe, Int.reduceBEq, Int.reduceEq, reduceCtorEq, Nat.reduceMul, Int.reduceLT, Int.reduceLE, Int.reduceToNat, cc_ref01_List]
  refine aw_loop' (fun k : Nat => (⟨[(4, .dat (I k) none), (0, .dat (I s) none), (3, ownSV intRow (listTo s k) 0)], [], ownL (listTo s k) 0 e, 400⟩ : S)) (fun k => 8 - k) (fun k => k ≤ 8) ?_ 0 (by omega) ?_
  · intro k hk A back
    have hw := wrap_succ (k := k) (by omega)
    have hn := listTo_succ s k
    have hlen : (listTo s k).length ≤ k := by
      have := List.length_filter_le (hasR s) ((List.range k).map fun (k : Nat) => (k : Int))
      simpa [listTo] using this
    by_cases hl : listTo s k = []
    · try simp only [I, B, D, RW, ↓ KW, fillA, setCells, stTags, flat, Nat.reduceBEq, Nat.reduceAdd, Nat.reduceLeDiff, Int.reduceNe, Int.reduceBEq, Int.reduceEq, reduceCtorEq, Nat.reduceMul, Int.reduceLT, Int.reduceLE, Int.reduceToNat, ownSV, ownL, hl]
      refine cd_split (fun h => ?_) (fun h => ?_) <;> try simp only [I, B, D, RW, ↓ KW, fillA, setCells, stTags, flat, Nat.reduceBEq, Nat.reduceAdd, Nat.reduceLeDiff, Int.reduceNe, Int.reduceBEq, Int.reduceEq, reduceCtorEq, Nat.reduceMul, Int.reduceLT, Int.reduceLE, Int.reduceToNat, h]
      · have h8 := of_decide_eq_true h
        refine call_is (hH _ _) ?_
        try simp only [I, B, D, RW, ↓ KW, fillA, setCells, stTags, flat, Nat.reduceBEq, Nat.reduceAdd, Nat.reduceLeDiff, Int.reduceNe, Int.reduceBEq, Int.reduceEq, reduceCtorEq, Nat.reduceMul, Int.reduceLT, Int.reduceLE, Int.reduceToNat]
        refine cd_split (fun h' => ?_) (fun h' => ?_) <;> try simp only [I, B, D, RW, ↓ KW, fillA, setCells, stTags, flat, Nat.reduceBEq, Nat.reduceAdd, Nat.reduceLeDiff, Int.reduceNe, Int.reduceBEq, Int.reduceEq, reduceCtorEq, Nat.reduceMul, Int.reduceLT, Int.reduceLE, Int.reduceToNat, h']
        · refine back (k + 1) _ (by omega) (by omega) (le_tok2 (by decide) ?_ ?_ ?_ ?_) <;> simp [intRow, ownSV, ownL, leSlots, lv_dat, lv_tok, lv_ptr, lv_rp, lv_undef, leBoxes, leTags, leLive, tokM, tokB, tokT, ren, liveInj, r_lk, r_lkN, r_lkB, r_lkN0, I, B, D, withV_some, hn, hl, h', hw]
        · refine back (k + 1) _ (by omega) (by omega) (le_tok2 (by decide) ?_ ?_ ?_ ?_) <;> simp [intRow, ownSV, ownL, leSlots, lv_dat, lv_tok, lv_ptr, lv_rp, lv_undef, leBoxes, leTags, leLive, tokM, tokB, tokT, ren, liveInj, r_lk, r_lkN, r_lkB, r_lkN0, I, B, D, withV_some, hn, hl, h', hw]
      · have : k = 8 := by have := of_decide_eq_false h; omega
        subst this
        rcases hfr with rfl | ⟨rfl, hne⟩
        · try simp only [I, B, D, RW, ↓ KW, fillA, setCells, stTags, flat, Nat.reduceBEq, Nat.reduceAdd, Nat.reduceLeDiff, Int.reduceNe, Int.reduceBEq, Int.reduceEq, reduceCtorEq, Nat.reduceMul, Int.reduceLT, Int.reduceLE, Int.reduceToNat]
          simp [mkO, show listS s = listTo s 8 from rfl, hl, slAV]
        · exact absurd hl hne
    · try simp only [I, B, D, RW, ↓ KW, fillA, setCells, stTags, flat, Nat.reduceBEq, Nat.reduceAdd, Nat.reduceLeDiff, Int.reduceNe, Int.reduceBEq, Int.reduceEq, reduceCtorEq, Nat.reduceMul, Int.reduceLT, Int.reduceLE, Int.reduceToNat, ownSV, ownL, hl]
      refine cd_split (fun h => ?_) (fun h => ?_) <;> try simp only [I, B, D, RW, ↓ KW, fillA, setCells, stTags, flat, Nat.reduceBEq, Nat.reduceAdd, Nat.reduceLeDiff, Int.reduceNe, Int.reduceBEq, Int.reduceEq, reduceCtorEq, Nat.reduceMul, Int.reduceLT, Int.reduceLE, Int.reduceToNat, h]
      · have h8 := of_decide_eq_true h
        refine call_is (hH _ _) ?_
        try simp only [I, B, D, RW, ↓ KW, fillA, setCells, stTags, flat, Nat.reduceBEq, Nat.reduceAdd, Nat.reduceLeDiff, Int.reduceNe, Int.reduceBEq, Int.reduceEq, reduceCtorEq, Nat.reduceMul, Int.reduceLT, Int.reduceLE, Int.reduceToNat]
        refine cd_split (fun h' => ?_) (fun h' => ?_) <;> try simp only [I, B, D, RW, ↓ KW, fillA, setCells, stTags, flat, Nat.reduceBEq, Nat.reduceAdd, Nat.reduceLeDiff, Int.reduceNe, Int.reduceBEq, Int.reduceEq, reduceCtorEq, Nat.reduceMul, Int.reduceLT, Int.reduceLE, Int.reduceToNat, h']
        · refine ⟨by omega, ?_⟩
          refine back (k + 1) _ (by omega) (by omega) (le_tok2 (by decide) ?_ ?_ ?_ ?_) <;> simp [intRow, ownSV, ownL, leSlots, lv_dat, lv_tok, lv_ptr, lv_rp, lv_undef, leBoxes, leTags, leLive, tokM, tokB, tokT, ren, liveInj, r_lk, r_lkN, r_lkB, r_lkN0, I, B, D, withV_some, hn, hl, h', hw]
        · refine back (k + 1) _ (by omega) (by omega) (le_tok2 (by decide) ?_ ?_ ?_ ?_) <;> simp [intRow, ownSV, ownL, leSlots, lv_dat, lv_tok, lv_ptr, lv_rp, lv_undef, leBoxes, leTags, leLive, tokM, tokB, tokT, ren, liveInj, r_lk, r_lkN, r_lkB, r_lkN0, I, B, D, withV_some, hn, hl, h', hw]
      · have : k = 8 := by have := of_decide_eq_false h; omega
        subst this
        rcases hfr with rfl | ⟨rfl, hne⟩
        · try simp only [I, B, D, RW, ↓ KW, fillA, setCells, stTags, flat, Nat.reduceBEq, Nat.reduceAdd, Nat.reduceLeDiff, Int.reduceNe, Int.reduceBEq, Int.reduceEq, reduceCtorEq, Nat.reduceMul, Int.reduceLT, Int.reduceLE, Int.reduceToNat]
          simp [mkO, show listS s = listTo s 8 from rfl, hl, slAV]
        · try simp only [I, B, D, RW, ↓ KW, fillA, setCells, stTags, flat, Nat.reduceBEq, Nat.reduceAdd, Nat.reduceLeDiff, Int.reduceNe, Int.reduceBEq, Int.reduceEq, reduceCtorEq, Nat.reduceMul, Int.reduceLT, Int.reduceLE, Int.reduceToNat]
          simp [mkO, show listS s = listTo s 8 from rfl, hl, slAV]
  · refine le_tok2 (by decide) ?_ ?_ ?_ ?_ <;> simp [intRow, ownSV, ownL, leSlots, lv_dat, lv_tok, lv_ptr, lv_rp, lv_undef, leBoxes, leTags, leLive, tokM, tokB, tokT, ren, liveInj, r_lk, r_lkN, r_lkB, r_lkN0, I, B, D, withV_some, listTo]
theorem refOf.ok (hc : cFn P f = some cc_ref01_Of) : refOf.Spec (Pure P) f := by
  intro l hlen
  have hL : ((l.getD []).length : Int) < 9223372036854775807 := by omega
  refine pure_of hm hc (by show 1 ≤ 28; decide) (aw_flat (keep := []) (i := 0) ?_)
  try simp only [I, B, D, RW, ↓ KW, fillA, setCells, stTags, flat, Nat.reduceBEq, Nat.reduceAdd, Nat.reduceLeDiff, Int.reduceNe, Int.reduceBEq, Int.reduceEq, reduceCtorEq, Nat.reduceMul, Int.reduceLT, Int.reduceLE, Int.reduceToNat, cc_ref01_Of, a_slAV]
  refine aw_loop' (fun k : Nat => (⟨[(4, .dat (I k) none), (0, .dat (slAV intRow l) none), (3, .dat (I (ofTo (l.getD []) k)) none)], [], [], 400⟩ : S)) (fun k => 8 - k) (fun k => k ≤ 8) ?_ 0 (by omega) ?_
  · intro k hk A back
    have hw := wrap_succ (k := k) (by omega)
    try simp only [I, B, D, RW, ↓ KW, fillA, setCells, stTags, flat, Nat.reduceBEq, Nat.reduceAdd, Nat.reduceLeDiff, Int.reduceNe, Int.reduceBEq, Int.reduceEq, reduceCtorEq, Nat.reduceMul, Int.reduceLT, Int.reduceLE, Int.reduceToNat, a_len]
    refine cd_split (fun h => ?_) (fun h => ?_) <;> try simp only [I, B, D, RW, ↓ KW, fillA, setCells, stTags, flat, Nat.reduceBEq, Nat.reduceAdd, Nat.reduceLeDiff, Int.reduceNe, Int.reduceBEq, Int.reduceEq, reduceCtorEq, Nat.reduceMul, Int.reduceLT, Int.reduceLE, Int.reduceToNat, h]
    · have h8 := of_decide_eq_true h
      refine aw_loop' (fun j : Nat => (⟨[(5, .dat (I j) none), (0, .dat (slAV intRow l) none), (4, .dat (I k) none), (3, .dat (I (ofTo (l.getD []) k)) none)], [], [], 400⟩ : S)) (fun j => (l.getD []).length - j) (fun j => j ≤ (l.getD []).length ∧ ∀ x ∈ (l.getD []).take j, x ≠ k) ?_ 0 (by simp) ?_
      · intro j ⟨hj, hnot⟩ A' back'
        have hw' := wrap_succ (k := j) (by omega)
        try simp only [I, B, D, RW, ↓ KW, fillA, setCells, stTags, flat, Nat.reduceBEq, Nat.reduceAdd, Nat.reduceLeDiff, Int.reduceNe, Int.reduceBEq, Int.reduceEq, reduceCtorEq, Nat.reduceMul, Int.reduceLT, Int.reduceLE, Int.reduceToNat, a_rows, a_len]
        refine cd_split (fun h' => ?_) (fun h' => ?_) <;> try simp only [I, B, D, RW, ↓ KW, fillA, setCells, stTags, flat, Nat.reduceBEq, Nat.reduceAdd, Nat.reduceLeDiff, Int.reduceNe, Int.reduceBEq, Int.reduceEq, reduceCtorEq, Nat.reduceMul, Int.reduceLT, Int.reduceLE, Int.reduceToNat, h']
        · have h9 := of_decide_eq_true h'
          have hjl : j < (l.getD []).length := by omega
          obtain ⟨x, hx⟩ : ∃ x, (l.getD [])[j]? = some x := ⟨_, List.getElem?_eq_getElem hjl⟩
          have htk := take_next hx
          refine ⟨by omega, ?_⟩
          try simp only [I, B, D, RW, ↓ KW, fillA, setCells, stTags, flat, Nat.reduceBEq, Nat.reduceAdd, Nat.reduceLeDiff, Int.reduceNe, Int.reduceBEq, Int.reduceEq, reduceCtorEq, Nat.reduceMul, Int.reduceLT, Int.reduceLE, Int.reduceToNat, hx, intRow]
          refine cd_split (fun h2 => ?_) (fun h2 => ?_) <;> try simp only [I, B, D, RW, ↓ KW, fillA, setCells, stTags, flat, Nat.reduceBEq, Nat.reduceAdd, Nat.reduceLeDiff, Int.reduceNe, Int.reduceBEq, Int.reduceEq, reduceCtorEq, Nat.reduceMul, Int.reduceLT, Int.reduceLE, Int.reduceToNat, h2]
          · have hxk : x = k := by simpa using h2
            have hm : (k : Int) ∈ l.getD [] := by
              rw [← hxk]; exact List.mem_of_getElem? hx
            rw [wrap_u64 (by omega)]
            refine ⟨by omega, ?_⟩
            rw [shl_small (by omega) (by omega)]
            refine back (k + 1) _ (by omega) (by omega) (le_tok2 (by decide) ?_ ?_ ?_ ?_) <;> simp [intRow, ownSV, ownL, leSlots, lv_dat, lv_tok, lv_ptr, lv_rp, lv_undef, leBoxes, leTags, leLive, tokM, tokB, tokT, ren, liveInj, r_lk, r_lkN, r_lkB, r_lkN0, I, B, D, withV_some, hw, ofTo, hm]
          · have hxk : x ≠ k := by simpa using h2
            refine back' (j + 1) _ ⟨by omega, ?_⟩ (by omega) ?_
            · rw [htk]; simp only [List.mem_append, List.mem_singleton]; rintro y (hy | rfl); exact hnot y hy; exact hxk
            · refine le_tok2 (by decide) ?_ ?_ ?_ ?_ <;> simp [intRow, ownSV, ownL, leSlots, lv_dat, lv_tok, lv_ptr, lv_rp, lv_undef, leBoxes, leTags, leLive, tokM, tokB, tokT, ren, liveInj, r_lk, r_lkN, r_lkB, r_lkN0, I, B, D, withV_some, hw']
        · have : j = (l.getD []).length := by have := of_decide_eq_false h'; omega
          subst this
          have hm : ¬ (k : Int) ∈ l.getD [] := by
            intro hk
            exact hnot k (by simpa using hk) rfl
          refine back (k + 1) _ (by omega) (by omega) (le_tok2 (by decide) ?_ ?_ ?_ ?_) <;> simp [intRow, ownSV, ownL, leSlots, lv_dat, lv_tok, lv_ptr, lv_rp, lv_undef, leBoxes, leTags, leLive, tokM, tokB, tokT, ren, liveInj, r_lk, r_lkN, r_lkB, r_lkN0, I, B, D, withV_some, hw, ofTo, hm]
      · refine le_tok2 (by decide) ?_ ?_ ?_ ?_ <;> simp [intRow, ownSV, ownL, leSlots, lv_dat, lv_tok, lv_ptr, lv_rp, lv_undef, leBoxes, leTags, leLive, tokM, tokB, tokT, ren, liveInj, r_lk, r_lkN, r_lkB, r_lkN0, I, B, D, withV_some]
    · have : k = 8 := by have := of_decide_eq_false h; omega
      subst this
      rfl
  · refine le_tok2 (by decide) ?_ ?_ ?_ ?_ <;> simp [intRow, ownSV, ownL, leSlots, lv_dat, lv_tok, lv_ptr, lv_rp, lv_undef, leBoxes, leTags, leLive, tokM, tokB, tokT, ren, liveInj, r_lk, r_lkN, r_lkB, r_lkN0, I, B, D, withV_some, ofTo]
theorem refWith.ok {fL e fO : Nat} (hc : cFn P f = some (cc_ref01_With fL e fO)) (hL : refList.Spec (Pure P) fL e) (hO : refOf.Spec (Pure P) fO) : refWith.Spec (Pure P) f := by
  intro s p
  refine pure_of hm hc (by show 2 ≤ 11; decide) (aw_flat (keep := []) (i := 0) ?_)
  try simp only [I, B, D, RW, ↓ KW, fillA, setCells, stTags, flat, Nat.reduceBEq, Nat.reduceAdd, Nat.reduceLeDiff, Int.reduceNe, Int.reduceBEq, Int.reduceEq, reduceCtorEq, Nat.reduceMul, Int.reduceLT, Int.reduceLE, Int.reduceToNat, cc_ref01_With]
  by_cases h : listS s = []
  · refine call_is (hL s none (.inl rfl)) ?_
    try simp only [I, B, D, RW, ↓ KW, fillA, setCells, stTags, flat, Nat.reduceBEq, Nat.reduceAdd, Nat.reduceLeDiff, Int.reduceNe, Int.reduceBEq, Int.reduceEq, reduceCtorEq, Nat.reduceMul, Int.reduceLT, Int.reduceLE, Int.reduceToNat, h, mkO, slAV]
    refine call_is (hO (some [p]) (by simp)) ?_
    try simp only [I, B, D, RW, ↓ KW, fillA, setCells, stTags, flat, Nat.reduceBEq, Nat.reduceAdd, Nat.reduceLeDiff, Int.reduceNe, Int.reduceBEq, Int.reduceEq, reduceCtorEq, Nat.reduceMul, Int.reduceLT, Int.reduceLE, Int.reduceToNat]
    simp [withR, h]
  · have hl : (listS s).length ≤ 8 := by
      have := List.length_filter_le (hasR s) ((List.range 8).map fun (k : Nat) => (k : Int))
      simpa [listS] using this
    refine call_own (hL s (some e) (.inr ⟨rfl, h⟩)) ?_
    try simp only [I, B, D, RW, ↓ KW, fillA, setCells, stTags, flat, Nat.reduceBEq, Nat.reduceAdd, Nat.reduceLeDiff, Int.reduceNe, Int.reduceBEq, Int.reduceEq, reduceCtorEq, Nat.reduceMul, Int.reduceLT, Int.reduceLE, Int.reduceToNat, h, mkO, slAV]
    refine ⟨by omega, ?_⟩
    have h2 := hO (some (listS s ++ [p])) (by simp; omega)
    simp only [slAV, Option.getD_some, List.map_append, List.map_cons, List.map_nil, intRow, I] at h2
    refine call_is h2 ?_
    try simp only [I, B, D, RW, ↓ KW, fillA, setCells, stTags, flat, Nat.reduceBEq, Nat.reduceAdd, Nat.reduceLeDiff, Int.reduceNe, Int.reduceBEq, Int.reduceEq, reduceCtorEq, Nat.reduceMul, Int.reduceLT, Int.reduceLE, Int.reduceToNat]
    simp [withR]
end
end Go.Eng
namespace Go.Eng
set_option linter.unusedVariables false
set_option linter.unusedSimpArgs false
set_option linter.unnecessarySimpa false
open Go
set_option linter.unusedVariables false
set_option linter.unusedSimpArgs false
set_option maxRecDepth 10000
set_option maxHeartbeats 4000000
theorem part_in {cs mid : List AV} {off z : Nat} (h : partA cs off (some z) = some (.agg mid)) {j : Nat} (hj : j < z) : cs[off + j]? = mid[j]? := by
  simp only [partA] at h
  split at h
  · simp only [Option.some.injEq, AV.agg.injEq] at h
    rw [← h, List.getElem?_take_of_lt hj, List.getElem?_drop]
  · cases h
section
variable {t : Tb} (h : t.Ok)
include h
theorem Tb.groups_at : t.cells[104]? = some (slAV Gr.cells t.groups) := by
  simp [Tb.cells, List.getElem?_append, flatMap_len Ph.len, h.phases]
theorem Tb.rails_at : t.cells[114]? = some (slAV Rl.cells t.rails) := by
  simp [Tb.cells, List.getElem?_append, flatMap_len Ph.len, h.phases, h.conflict, h.flash, List.getElem?_cons]
theorem Tb.tail_at (j : Nat) (hj : j < 5) : t.cells[116 + j]? = [I t.extend, I t.budget, I t.start, I t.revert, I t.least][j]? := by
  have : j = 0 ∨ j = 1 ∨ j = 2 ∨ j = 3 ∨ j = 4 := by omega
  rcases this with rfl | rfl | rfl | rfl | rfl <;>
  simp [Tb.cells, List.getElem?_append, flatMap_len Ph.len, h.phases, h.conflict, h.flash, List.getElem?_cons]
theorem Tb.share_at : t.cells[130]? = some (I t.share) := by
  simp [Tb.cells, List.getElem?_append, flatMap_len Ph.len, h.phases, h.conflict, h.flash, List.getElem?_cons]
omit h in
theorem Tb.ph_at {i : Nat} {p : Ph} (hp : t.phases[i]? = some p) (j : Nat) (hj : j < 13) : t.cells[i * 13 + j]? = p.cells[j]? := part_in (Tb.phase_part hp) hj
omit h in
theorem Tb.ph_all {i : Nat} {p : Ph} (hp : t.phases[i]? = some p) : t.cells[i * 13]? = some (B p.on) ∧ t.cells[i * 13 + 1]? = some (I p.min) ∧ t.cells[i * 13 + 2]? = some (I p.gap) ∧ t.cells[i * 13 + 3]? = some (I p.max) ∧ t.cells[i * 13 + 4]? = some (I p.top) ∧ t.cells[i * 13 + 5]? = some (I p.step) ∧ t.cells[i * 13 + 6]? = some (I p.yellow) ∧ t.cells[i * 13 + 7]? = some (I p.red) ∧ t.cells[i * 13 + 8]? = some (I p.walk) ∧ t.cells[i * 13 + 9]? = some (I p.blinks) ∧ t.cells[i * 13 + 10]? = some (I p.recall) ∧ t.cells[i * 13 + 11]? = some (B p.lock) ∧ t.cells[i * 13 + 12]? = some (B p.rest) :=
  have hj := fun j hj => Tb.ph_at hp j hj
  ⟨hj 0 (by omega), hj 1 (by omega), hj 2 (by omega), hj 3 (by omega), hj 4 (by omega), hj 5 (by omega), hj 6 (by omega), hj 7 (by omega), hj 8 (by omega), hj 9 (by omega), hj 10 (by omega), hj 11 (by omega), hj 12 (by omega)⟩
theorem Tb.conflict_at {i : Nat} {c : Int} (hc : t.conflict[i]? = some c) : t.cells[105 + i]? = some (I c) := by
  have hi : i < 8 := by have := (List.getElem?_eq_some_iff.1 hc).1; rw [h.conflict] at this; exact this
  have e : (t.phases.flatMap Ph.cells).length = 104 := by rw [flatMap_len Ph.len, h.phases]
  unfold Tb.cells
  rw [List.getElem?_append_right (by omega), e, show 105 + i - 104 = i + 1 by omega, List.getElem?_cons_succ, List.getElem?_append_left (by simp [h.conflict, hi]), List.getElem?_map, hc]; rfl
end
structure Sp where
  group : Int
  ring : Int
  pos : Int
  p : Int
  deriving Inhabited, DecidableEq
def Sp.cells (s : Sp) : List AV := [I s.group, I s.ring, I s.pos, I s.p]
theorem Sp.len (s : Sp) : s.cells.length = 4 := rfl
theorem Gr.len (s : Gr) : s.cells.length = 2 := rfl
def Gr.row (g : Gr) (k : Nat) : Option (List Int) := if k = 0 then g.a else g.b
def rowSpots (g k : Nat) (row : List Int) : List Sp := row.zipIdx.filterMap fun (p, i) => if 0 ≤ p ∧ p < 8 then some ⟨g, k, i, p⟩ else none
def grSpots (gr : Gr) (g k : Nat) : List Sp := (List.range k).flatMap fun k => rowSpots g k ((gr.row k).getD [])
def spotsTo (l : List Gr) (n : Nat) : List Sp := (l.take n).zipIdx.flatMap fun (gr, g) => grSpots gr g 2
def spots (t : Tb) : List Sp := spotsTo (t.groups.getD []) (t.groups.getD []).length
theorem le_ownSV {α : Type} {row : α → List AV} {l : List α} {m : List (Nat × Nat)} {nx t t' : Nat} (h : ren m t' = t) (ht : t' < nx) : leSV m nx (ownSV row l t) (ownSV row l t') := by
  unfold ownSV; split
  · exact rfl
  · exact ⟨rfl, h.symm, ht⟩
theorem le_ownL {α : Type} {l : List α} {m : List (Nat × Nat)} {nx t t' e : Nat} (h : ren m t' = t) (ht : t' < nx) : leLive m nx (ownL l t e) (ownL l t' e) := by
  unfold ownL; split
  · trivial
  · simp [leLive, h, ht, r_lkN]
theorem inj_ownL {α : Type} {l : List α} {m : List (Nat × Nat)} {t e : Nat} : liveInj m (ownL l t e) := by
  unfold ownL; split <;> simp [liveInj]
theorem rowSpots_next {g k : Nat} {row : List Int} {i : Nat} {x : Int} (h : row[i]? = some x) : (0 ≤ x ∧ x < 8 → rowSpots g k (row.take (i + 1)) = rowSpots g k (row.take i) ++ [⟨g, k, i, x⟩]) ∧ (¬ (0 ≤ x ∧ x < 8) → rowSpots g k (row.take (i + 1)) = rowSpots g k (row.take i)) := by
  have hl : (row.take i).length = i := take_len h
  unfold rowSpots
  rw [take_next h, List.zipIdx_append, List.filterMap_append, hl]
  constructor <;> intro hx <;> simp [hx]
theorem rowSpots_len (g k : Nat) (row : List Int) : (rowSpots g k row).length ≤ row.length := by
  have := List.length_filterMap_le (fun (p : Int × Nat) => if 0 ≤ p.1 ∧ p.1 < 8 then some (⟨g, k, p.2, p.1⟩ : Sp) else none) row.zipIdx
  simpa [rowSpots] using this
theorem grSpots_next (gr : Gr) (g k : Nat) : grSpots gr g (k + 1) = grSpots gr g k ++ rowSpots g k ((gr.row k).getD []) := by
  simp [grSpots, List.range_succ]
theorem spotsTo_next {l : List Gr} {g : Nat} {gr : Gr} (h : l[g]? = some gr) : spotsTo l (g + 1) = spotsTo l g ++ grSpots gr g 2 := by
  have hl : (l.take g).length = g := take_len h
  unfold spotsTo
  rw [take_next h, List.zipIdx_append, List.flatMap_append, hl]
  simp
theorem grSpots_len {gr : Gr} (hr : (gr.a.getD []).length ≤ 1048576 ∧ (gr.b.getD []).length ≤ 1048576) (g k : Nat) (hk : k ≤ 2) : (grSpots gr g k).length ≤ k * 1048576 := by
  have h0 := rowSpots_len g 0 (gr.a.getD [])
  have h1 := rowSpots_len g 1 (gr.b.getD [])
  have : k = 0 ∨ k = 1 ∨ k = 2 := by omega
  rcases this with rfl | rfl | rfl
  · simp [grSpots]
  · rw [grSpots_next, List.length_append]
    have : (grSpots gr g 0).length = 0 := rfl
    have h0' : (rowSpots g 0 ((gr.row 0).getD [])).length ≤ (gr.a.getD []).length := h0
    omega
  · rw [grSpots_next, grSpots_next, List.length_append, List.length_append]
    have : (grSpots gr g 0).length = 0 := rfl
    have h0' : (rowSpots g 0 ((gr.row 0).getD [])).length ≤ (gr.a.getD []).length := h0
    have h1' : (rowSpots g 1 ((gr.row 1).getD [])).length ≤ (gr.b.getD []).length := h1
    omega
theorem spotsTo_len {t : Tb} (ht : t.Ok) : ∀ n, n ≤ (t.groups.getD []).length → (spotsTo (t.groups.getD []) n).length ≤ n * 2097152
  | 0, _ => by simp [spotsTo]
  | n + 1, h => by
    obtain ⟨gr, hgr⟩ : ∃ x, (t.groups.getD [])[n]? = some x := ⟨_, List.getElem?_eq_getElem (by omega)⟩
    have := spotsTo_len ht n (by omega)
    have h2 := grSpots_len (ht.rows gr (List.mem_of_getElem? hgr)) n 2 (by omega)
    rw [spotsTo_next hgr, List.length_append]
    omega
theorem spots_len {t : Tb} (ht : t.Ok) : (spots t).length ≤ 2199023255552 := by
  have := spotsTo_len ht _ (Nat.le_refl _)
  have := ht.groups
  simp only [spots]
  omega
theorem spots_size {t : Tb} (ht : t.Ok) {g k i : Nat} {gr : Gr} (hg : (t.groups.getD [])[g]? = some gr) (hk : k < 2) (hi : i < ((gr.row k).getD []).length) : ((spotsTo (t.groups.getD []) g ++ grSpots gr g k ++ rowSpots g k (((gr.row k).getD []).take i)).length + 1) * 32 ≤ 140737488355328 := by
  have hlt : g < (t.groups.getD []).length := (List.getElem?_eq_some_iff.1 hg).1
  have h1 := spotsTo_len ht g (by omega)
  have hr := ht.rows gr (List.mem_of_getElem? hg)
  have h2 := grSpots_len hr g k (by omega)
  have h3 := rowSpots_len g k (((gr.row k).getD []).take i)
  have h4 : (((gr.row k).getD []).take i).length ≤ 1048576 := by
    have : k = 0 ∨ k = 1 := by omega
    rcases this with rfl | rfl
    · exact Nat.le_trans (List.length_take_le' _ _) hr.1
    · exact Nat.le_trans (List.length_take_le' _ _) hr.2
  have := ht.groups
  rw [List.length_append, List.length_append]
  omega
def spots.Spec (C : Con) (f e : Nat) : Prop := ∀ (t : Tb) (fr : Option Nat), t.Ok → (fr = none ∨ fr = some e ∧ spots t ≠ []) → C.c f [.agg t.cells] (slAV Sp.cells (mkO (spots t))) fr
section
variable {P : Program} (hm : P.follows .mixedOrders = true) {f : Nat}
include hm
theorem spots.ok {e : Nat} (hc : cFn P f = some (cc_ref08_Spots e)) : spots.Spec (Pure P) f e := by
  intro t fr ht hfr
  have hg := Tb.groups_at ht
  refine pure_of hm hc (by show 1 ≤ 56; decide) (aw_flat (keep := []) (i := 0) ?_)
  try simp only [I, B, D, RW, ↓ KW, fillA, setCells, stTags, flat, Nat.reduceBEq, Nat.reduceAdd, Nat.reduceLeDiff, Int.reduceNe, Int.reduceBEq, Int.reduceEq, reduceCtorEq, Nat.reduceMul, Int.reduceLT, Int.reduceLE, Int.reduceToNat, cc_ref08_Spots]
  refine aw_loop' (fun g : Nat => (⟨[(4, .dat (I g) none), (1, .ptr 4 0), (3, ownSV Sp.cells (spotsTo (t.groups.getD []) g) 0)], [(4, ⟨t.cells, []⟩)], ownL (spotsTo (t.groups.getD []) g) 0 e, 400⟩ : S)) (fun g => (t.groups.getD []).length - g) (fun g => g ≤ (t.groups.getD []).length) ?_ 0 (by omega) ?_
  · intro g hg1 A back
    have hb := ht.groups
    have hw := wrap_succ (k := g) (by omega)
    try simp only [I, B, D, RW, ↓ KW, fillA, setCells, stTags, flat, Nat.reduceBEq, Nat.reduceAdd, Nat.reduceLeDiff, Int.reduceNe, Int.reduceBEq, Int.reduceEq, reduceCtorEq, Nat.reduceMul, Int.reduceLT, Int.reduceLE, Int.reduceToNat, p_none, hg]
    refine cd_split (fun h => ?_) (fun h => ?_) <;> try simp only [I, B, D, RW, ↓ KW, fillA, setCells, stTags, flat, Nat.reduceBEq, Nat.reduceAdd, Nat.reduceLeDiff, Int.reduceNe, Int.reduceBEq, Int.reduceEq, reduceCtorEq, Nat.reduceMul, Int.reduceLT, Int.reduceLE, Int.reduceToNat, p_none, hg, h]
    · have hlt : g < (t.groups.getD []).length := by have := of_decide_eq_true h; omega
      obtain ⟨gr, hgr⟩ : ∃ x, (t.groups.getD [])[g]? = some x := ⟨_, List.getElem?_eq_getElem hlt⟩
      have hrs := ht.rows gr (List.mem_of_getElem? hgr)
      refine aw_loop' (fun k : Nat => (⟨[(5, .dat (I k) none), (4, .dat (I g) none), (1, .ptr 4 0), (3, ownSV Sp.cells (spotsTo (t.groups.getD []) g ++ grSpots gr g k) 0)], [(4, ⟨t.cells, []⟩)], ownL (spotsTo (t.groups.getD []) g ++ grSpots gr g k) 0 e, 400⟩ : S)) (fun k => 2 - k) (fun k => k ≤ 2) ?_ 0 (by omega) ?_
      · intro k hk A1 back1
        have hw1 := wrap_succ (k := k) (by omega)
        try simp only [I, B, D, RW, ↓ KW, fillA, setCells, stTags, flat, Nat.reduceBEq, Nat.reduceAdd, Nat.reduceLeDiff, Int.reduceNe, Int.reduceBEq, Int.reduceEq, reduceCtorEq, Nat.reduceMul, Int.reduceLT, Int.reduceLE, Int.reduceToNat]
        refine cd_split (fun h1 => ?_) (fun h1 => ?_) <;> try simp only [I, B, D, RW, ↓ KW, fillA, setCells, stTags, flat, Nat.reduceBEq, Nat.reduceAdd, Nat.reduceLeDiff, Int.reduceNe, Int.reduceBEq, Int.reduceEq, reduceCtorEq, Nat.reduceMul, Int.reduceLT, Int.reduceLE, Int.reduceToNat, h1]
        · have hk2 : k < 2 := by have := of_decide_eq_true h1; omega
          have hrow : (List.drop k gr.cells)[0]? = some (slAV intRow (gr.row k)) := by
            have : k = 0 ∨ k = 1 := by omega
            rcases this with rfl | rfl <;> rfl
          have hrl : ((gr.row k).getD []).length ≤ 1048576 := by
            have : k = 0 ∨ k = 1 := by omega
            rcases this with rfl | rfl
            exact hrs.1
            exact hrs.2
          refine aw_loop' (fun i : Nat => (⟨[(6, .dat (I i) none), (5, .dat (I k) none), (4, .dat (I g) none), (1, .ptr 4 0), (3, ownSV Sp.cells (spotsTo (t.groups.getD []) g ++ grSpots gr g k ++ rowSpots g k (((gr.row k).getD []).take i)) 0)], [(4, ⟨t.cells, []⟩)], ownL (spotsTo (t.groups.getD []) g ++ grSpots gr g k ++ rowSpots g k (((gr.row k).getD []).take i)) 0 e, 400⟩ : S)) (fun i => ((gr.row k).getD []).length - i) (fun i => i ≤ ((gr.row k).getD []).length) ?_ 0 (by omega) ?_
          · intro i hi A2 back2
            have hw2 := wrap_succ (k := i) (by omega)
            try simp only [I, B, D, RW, ↓ KW, fillA, setCells, stTags, flat, Nat.reduceBEq, Nat.reduceAdd, Nat.reduceLeDiff, Int.reduceNe, Int.reduceBEq, Int.reduceEq, reduceCtorEq, Nat.reduceMul, Int.reduceLT, Int.reduceLE, Int.reduceToNat, p_none, hg, hgr, Gr.len]
            refine ⟨by omega, by omega, ?_⟩
            try simp only [I, B, D, RW, ↓ KW, fillA, setCells, stTags, flat, Nat.reduceBEq, Nat.reduceAdd, Nat.reduceLeDiff, Int.reduceNe, Int.reduceBEq, Int.reduceEq, reduceCtorEq, Nat.reduceMul, Int.reduceLT, Int.reduceLE, Int.reduceToNat, hrow]
            refine cd_split (fun h2 => ?_) (fun h2 => ?_) <;> try simp only [I, B, D, RW, ↓ KW, fillA, setCells, stTags, flat, Nat.reduceBEq, Nat.reduceAdd, Nat.reduceLeDiff, Int.reduceNe, Int.reduceBEq, Int.reduceEq, reduceCtorEq, Nat.reduceMul, Int.reduceLT, Int.reduceLE, Int.reduceToNat, p_none, hg, hgr, Gr.len, h2]
            · have hil : i < ((gr.row k).getD []).length := by have := of_decide_eq_true h2; omega
              obtain ⟨x, hx⟩ : ∃ x, ((gr.row k).getD [])[i]? = some x := ⟨_, List.getElem?_eq_getElem hil⟩
              have hnx := rowSpots_next (g := g) (k := k) hx
              refine ⟨by omega, by omega, ?_⟩
              try simp only [I, B, D, RW, ↓ KW, fillA, setCells, stTags, flat, Nat.reduceBEq, Nat.reduceAdd, Nat.reduceLeDiff, Int.reduceNe, Int.reduceBEq, Int.reduceEq, reduceCtorEq, Nat.reduceMul, Int.reduceLT, Int.reduceLE, Int.reduceToNat, hrow]
              refine ⟨by omega, ?_⟩
              try simp only [I, B, D, RW, ↓ KW, fillA, setCells, stTags, flat, Nat.reduceBEq, Nat.reduceAdd, Nat.reduceLeDiff, Int.reduceNe, Int.reduceBEq, Int.reduceEq, reduceCtorEq, Nat.reduceMul, Int.reduceLT, Int.reduceLE, Int.reduceToNat, hx, intRow, p_none]
              repeat' (first | (refine gd_split (fun h => ?_) (fun h => ?_) <;> try simp only [I, B, D, RW, ↓ KW, fillA, setCells, stTags, flat, Nat.reduceBEq, Nat.reduceAdd, Nat.reduceLeDiff, Int.reduceNe, Int.reduceBEq, Int.reduceEq, reduceCtorEq, Nat.reduceMul, Int.reduceLT, Int.reduceLE, Int.reduceToNat, h]) | (refine cd_split (fun h => ?_) (fun h => ?_) <;> try simp only [I, B, D, RW, ↓ KW, fillA, setCells, stTags, flat, Nat.reduceBEq, Nat.reduceAdd, Nat.reduceLeDiff, Int.reduceNe, Int.reduceBEq, Int.reduceEq, reduceCtorEq, Nat.reduceMul, Int.reduceLT, Int.reduceLE, Int.reduceToNat, h]) | (refine pk_split (fun h => ?_) (fun h => ?_) <;> try simp only [I, B, D, RW, ↓ KW, fillA, setCells, stTags, flat, Nat.reduceBEq, Nat.reduceAdd, Nat.reduceLeDiff, Int.reduceNe, Int.reduceBEq, Int.reduceEq, reduceCtorEq, Nat.reduceMul, Int.reduceLT, Int.reduceLE, Int.reduceToNat, h]))
              · rename_i ha
                have hx8 : 0 ≤ x ∧ x < 8 := ⟨of_decide_eq_true ha, of_decide_eq_true h⟩
                have hnx := hnx.1 hx8
                have hsz := spots_size ht hgr hk2 hil
                generalize spotsTo (t.groups.getD []) g ++ grSpots gr g k = L at *
                by_cases hl : L ++ rowSpots g k (((gr.row k).getD []).take i) = []
                · try simp only [I, B, D, RW, ↓ KW, fillA, setCells, stTags, flat, Nat.reduceBEq, Nat.reduceAdd, Nat.reduceLeDiff, Int.reduceNe, Int.reduceBEq, Int.reduceEq, reduceCtorEq, Nat.reduceMul, Int.reduceLT, Int.reduceLE, Int.reduceToNat, ownSV, ownL, hl]
                  refine back2 (i + 1) _ (by omega) (by omega) (le_tok2 (by decide) ?_ ?_ ?_ ?_) <;> simp [intRow, ownSV, ownL, leSlots, lv_dat, lv_tok, lv_ptr, lv_rp, lv_undef, leBoxes, leTags, leLive, tokM, tokB, tokT, ren, liveInj, r_lk, r_lkN, r_lkB, r_lkN0, I, B, D, withV_some, hnx, hw2, Sp.cells, ← List.append_assoc, hl]
                · try simp only [I, B, D, RW, ↓ KW, fillA, setCells, stTags, flat, Nat.reduceBEq, Nat.reduceAdd, Nat.reduceLeDiff, Int.reduceNe, Int.reduceBEq, Int.reduceEq, reduceCtorEq, Nat.reduceMul, Int.reduceLT, Int.reduceLE, Int.reduceToNat, ownSV, ownL, hl, Sp.len]
                  refine ⟨hsz, ?_⟩
                  refine back2 (i + 1) _ (by omega) (by omega) (le_tok2 (by decide) ?_ ?_ ?_ ?_) <;> simp [intRow, ownSV, ownL, leSlots, lv_dat, lv_tok, lv_ptr, lv_rp, lv_undef, leBoxes, leTags, leLive, tokM, tokB, tokT, ren, liveInj, r_lk, r_lkN, r_lkB, r_lkN0, I, B, D, withV_some, hnx, hw2, Sp.cells, ← List.append_assoc, hl]
              · have hnx := hnx.2 (by have := of_decide_eq_false h; omega)
                refine back2 (i + 1) _ (by omega) (by omega) (le_mk [(0, 0)] (by decide) ?_ ?_ ?_ inj_ownL) <;> simp [le_ownSV, le_ownL, leSlots, lv_dat, lv_tok, lv_ptr, lv_rp, lv_undef, leBoxes, leTags, leLive, ren, liveInj, r_lk, r_lkN, r_lkB, r_lkN0, I, B, D, withV_some, hnx, hw2, ← List.append_assoc]
              · have hnx := hnx.2 (by have := of_decide_eq_false h; omega)
                refine back2 (i + 1) _ (by omega) (by omega) (le_mk [(0, 0)] (by decide) ?_ ?_ ?_ inj_ownL) <;> simp [le_ownSV, le_ownL, leSlots, lv_dat, lv_tok, lv_ptr, lv_rp, lv_undef, leBoxes, leTags, leLive, ren, liveInj, r_lk, r_lkN, r_lkB, r_lkN0, I, B, D, withV_some, hnx, hw2, ← List.append_assoc]
            · have : i = ((gr.row k).getD []).length := by have := of_decide_eq_false h2; omega
              subst this
              have hk1 := grSpots_next gr g k
              rw [List.take_length, List.append_assoc, ← hk1]
              refine back1 (k + 1) _ (by omega) (by omega) (le_mk [(0, 0)] (by decide) ?_ ?_ ?_ inj_ownL) <;> simp [le_ownSV, le_ownL, leSlots, lv_dat, lv_tok, lv_ptr, lv_rp, lv_undef, leBoxes, leTags, leLive, ren, liveInj, r_lk, r_lkN, r_lkB, r_lkN0, I, B, D, withV_some, hw1]
          · simp [rowSpots]
            refine le_mk [(0, 0)] (by decide) ?_ ?_ ?_ inj_ownL <;> simp [le_ownSV, le_ownL, inj_ownL, leSlots, lv_dat, lv_tok, lv_ptr, lv_rp, lv_undef, leBoxes, leTags, leLive, ren, liveInj, r_lk, r_lkN, r_lkB, r_lkN0, I, B, D, withV_some]
        · have : k = 2 := by have := of_decide_eq_false h1; omega
          subst this
          have hg1 := spotsTo_next hgr
          rw [← hg1]
          refine back (g + 1) _ (by omega) (by omega) (le_mk [(0, 0)] (by decide) ?_ ?_ ?_ inj_ownL) <;> simp [le_ownSV, le_ownL, leSlots, lv_dat, lv_tok, lv_ptr, lv_rp, lv_undef, leBoxes, leTags, leLive, ren, liveInj, r_lk, r_lkN, r_lkB, r_lkN0, I, B, D, withV_some, hw]
      · simp [grSpots]
        refine le_mk [(0, 0)] (by decide) ?_ ?_ ?_ inj_ownL <;> simp [le_ownSV, le_ownL, inj_ownL, leSlots, lv_dat, lv_tok, lv_ptr, lv_rp, lv_undef, leBoxes, leTags, leLive, ren, liveInj, r_lk, r_lkN, r_lkB, r_lkN0, I, B, D, withV_some]
    · have : g = (t.groups.getD []).length := by have := of_decide_eq_false h; omega
      subst this
      have hs : spots t = spotsTo (t.groups.getD []) (t.groups.getD []).length := rfl
      rw [hs] at hfr ⊢
      generalize spotsTo (t.groups.getD []) (t.groups.getD []).length = L at *
      by_cases hl : L = []
      · rcases hfr with rfl | ⟨rfl, hne⟩
        · try simp only [I, B, D, RW, ↓ KW, fillA, setCells, stTags, flat, Nat.reduceBEq, Nat.reduceAdd, Nat.reduceLeDiff, Int.reduceNe, Int.reduceBEq, Int.reduceEq, reduceCtorEq, Nat.reduceMul, Int.reduceLT, Int.reduceLE, Int.reduceToNat, ownSV, ownL, mkO, slAV, hl]
        · exact absurd hl hne
      · rcases hfr with rfl | ⟨rfl, hne⟩
        · try simp only [I, B, D, RW, ↓ KW, fillA, setCells, stTags, flat, Nat.reduceBEq, Nat.reduceAdd, Nat.reduceLeDiff, Int.reduceNe, Int.reduceBEq, Int.reduceEq, reduceCtorEq, Nat.reduceMul, Int.reduceLT, Int.reduceLE, Int.reduceToNat, ownSV, ownL, mkO, slAV, hl]
        · try simp only [I, B, D, RW, ↓ KW, fillA, setCells, stTags, flat, Nat.reduceBEq, Nat.reduceAdd, Nat.reduceLeDiff, Int.reduceNe, Int.reduceBEq, Int.reduceEq, reduceCtorEq, Nat.reduceMul, Int.reduceLT, Int.reduceLE, Int.reduceToNat, ownSV, ownL, mkO, slAV, hl]
  · simp [spotsTo]
    refine le_tok2 (by decide) ?_ ?_ ?_ ?_ <;> simp [intRow, ownSV, ownL, leSlots, lv_dat, lv_tok, lv_ptr, lv_rp, lv_undef, leBoxes, leTags, leLive, tokM, tokB, tokT, ren, liveInj, r_lk, r_lkN, r_lkB, r_lkN0, I, B, D, withV_some]
end
end Go.Eng
